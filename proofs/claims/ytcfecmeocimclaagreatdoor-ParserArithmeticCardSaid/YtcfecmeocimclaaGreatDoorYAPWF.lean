/- Own work: the walk of loops. -/
import Derived.Test.YtcfecmeocimclaaGreatDoorYAA0
import Derived.Test.YtcfecmeocimclaaGreatDoorYAPWC
namespace Go.Proofs.YtcfecmeocimclaaGreatDoor
set_option linter.unusedSimpArgs false
set_option linter.unusedSectionVars false
set_option maxRecDepth 100000
open Go.RowKit
section
variable {n:Int} {toks:List Tk} {LR:List (List PV)} {l:Ts}
theorem z06 {l:Ts} {k n:Nat} (h:k + n < l.length):n < (l.drop k).length:=by rw [lLD];omega
theorem z7g {a:Int} (h:AtP n toks LR a l) (c:Cx) (hk:kd l 0=1):∃ b T,AtP n toks LR b (l.drop 1)/\bL (tx l 0)=T/\MP 62 [.own 0 0] [rdr LR a c] (.p (pS T)) [rdr LR b c]:=by
 rcases z7f h c with ⟨b,h1,h2,h3⟩|⟨h1,h2⟩
 ·exact ⟨b,_,h2,rfl,h3⟩
 ·exact absurd hk h1
theorem forS {β:Type} {o:Option (β × Ts)} {X Y:Re β} (ho:(if (isT l 0 zfh || isT l 0 zax) && (decide (kd l 1=1) && isT l 2 wOf) then X else Y)=some o) :
  (X=some o/\(isT l 0 zfh=true/\isT l 0 zax=false\/isT l 0 zfh=false/\isT l 0 zax=true)/\kd l 1=1/\isT l 2 wOf=true)\/(Y=some o/\isT l 0 zfh=false/\isT l 0 zax=false)\/(Y=some o/\(isT l 0 zfh=true/\isT l 0 zax=false\/isT l 0 zfh=false/\isT l 0 zax=true)/\¬ kd l 1=1) ∨
   (Y=some o/\(isT l 0 zfh=true/\isT l 0 zax=false\/isT l 0 zfh=false/\isT l 0 zax=true)/\kd l 1=1/\isT l 2 wOf=false):=by
 have key:(isT l 0 zfh=false/\isT l 0 zax=false)\/(isT l 0 zfh=true/\isT l 0 zax=false\/isT l 0 zfh=false/\isT l 0 zax=true):=by
  cases h1:isT l 0 zfh with
  | true=>exact .inr (.inl ⟨rfl,zyb h1 (by decide)⟩)
  | false =>
   cases h2:isT l 0 zax with
   | true=>exact .inr (.inr ⟨rfl,rfl⟩)
   | false=>exact .inl ⟨rfl,rfl⟩
 rcases key with h1|h1
 ·rw [h1.1,h1.2] at ho;exact .inr (.inl ⟨ho,h1⟩)
 ·rw [show (isT l 0 zfh || isT l 0 zax)=true by rcases h1 with h1|h1 <;> rw [h1.1,h1.2] <;> rfl,Bool.true_and] at ho
  by_cases h2:kd l 1=1
  ·rw [dT h2,Bool.true_and] at ho
   rcases zkn ho with ⟨h3,h4⟩|⟨h3,h4⟩
   ·exact .inl ⟨h3,h1,h2,h4⟩
   ·exact .inr (.inr (.inr ⟨h3,h1,h2,h4⟩))
  ·rw [dF h2,Bool.false_and] at ho;exact .inr (.inr (.inl ⟨ho,h1,h2⟩))
def z8e (c:Cx) (a b d:PT) (l:Ts):Re Rv:=zap zan l fun l5=>ndR (ev (.body c l5)) fun s l6=>okR (.nd (nd 30 [a,b,d,s])) l6
def for3 (c:Cx) (a b:PT) (l:Ts):Re Rv:=zap zbo l fun l3=>if isT l3 0 zan then ndR (ev (.body c (l3.drop 1))) fun s l5=>okR (.nd (nd 30 [a,b,nd 37 [],s])) l5 else ndR (ev (.assign c l3)) fun d l4=>z8e c a b d l4
def z8f (c:Cx) (a:PT) (l:Ts):Re Rv:=zap zbo l fun l1=>if isT l1 0 zbo then for3 c a (nd 37 []) l1 else ndR (ev (.assign c l1)) fun b l2=>for3 c a b l2
def for1 (c:Cx) (l0:Ts):Re Rv:=if isT l0 0 zfh || isT l0 0 zax then ndR (ev (.decl c l0)) fun n l1=>z8f c n l1 else if isT l0 0 zbo then z8f c (nd 37 []) l0 else ndR (ev (.assign c l0)) fun n l1=>z8f c (nd 26 [n]) l1
def for0 (c:Cx) (l0:Ts):Re Rv:=if (isT l0 0 zfh || isT l0 0 zax) && (decide (kd l0 1=1) && isT l0 2 wOf) then (ndR (ev (.assign c (l0.drop 3))) fun e l1=>zap zan l1 fun l2=>ndR (ev (.body c l2)) fun s l3=>okR (.nd (.mk 31 (tx l0 1) 0 (if isT l0 0 zax then 2 else 1) [e,s])) l3) else for1 c l0
theorem z5i {c:Cx} {a b:PT} {l:Ts} {o:Option (Rv × Ts)} (h:isT l 0 zan=true) (ho:(ndR (ev (.body c (l.drop 1))) fun s l5=>okR (.nd (nd 30 [a,b,nd 37 [],s])) l5)=some o):z8e c a b (nd 37 []) l=some o:=by
 unfold z8e zap;rw [if_pos h];exact ho
theorem z36:za8 (nd 37 [])=[pI 37,pS ⟨#[]⟩,pI 0,pI 0,.v (.slice none 0 0)]:=rfl
theorem row26 {x:PT} {r:List PV} (h:za8 x=r):za8 (nd 26 [x])=[pI 26,pS ⟨#[]⟩,pI 0,pI 0,.ro 5 [r]]:=by subst h;rfl
structure PutF (E:SO):Prop where
 n0:E.nat 0=0
 n1:E.nat 1=1
 n2:E.nat 2=2
 p0:E.ple 0 0
 p1:E.ple 0 1
 p2:E.ple 0 2
 q0:E.plt 0 3
 q1:E.plt 1 3
 q2:E.plt 2 3
 w0:∀ x y z v:List PV,E.put [x,y,z] 0 v=[v,y,z]
 w1:∀ x y z v:List PV,E.put [x,y,z] 1 v=[x,v,z]
 w2:∀ x y z v:List PV,E.put [x,y,z] 2 v=[x,y,v]
 a4:∀ x y z v:List PV,E.app [x,y,z] 3 [v]=[x,y,z,v]
 s4:∀ x y z v:List PV,E.sub [x,y,z,v] 0 4=[x,y,z,v]
 n4:E.addN 3 1=4
 m0:E.addN 0 0=0
 m1:E.addN 0 1=1
 m2:E.addN 0 2=2
 o3:E.ofN 3=3
theorem putF {E:SO} (hE:E=zas):PutF E:=by
 subst hE;exact ⟨rfl,rfl,rfl,Int.le_refl 0,(by decide:(0:Int)<=1),(by decide:(0:Int)<=2),(by decide:(0:Int) < 3),(by decide:(1:Int) < 3),(by decide:(2:Int) < 3),fun _ _ _ _=>rfl,fun _ _ _ _=>rfl,fun _ _ _ _=>rfl,fun _ _ _ _=>rfl,fun _ _ _ _=>rfl,rfl,rfl,rfl,rfl,rfl⟩
set_option maxHeartbeats 4000000 in
theorem zu0 {c:Cx} (ih:∀ s':Sy,s'.meas < (Sy.loops c l).meas->zd0 n toks LR s'):zd0 n toks LR (.loops c l):=by
 intro f hf a h o ho
 cases hf
 rw [zac] at ho;change zd1 ev c l=some o at ho;unfold zd1 at ho;change AtP n toks LR a l at h;show MP _ (.own 0 0 :: []) [rdr LR a c] (rOf o) (hOf toks LR c o);refine zad zaa (f:=68) Tryz.func68 rfl (by kernel_rfl) (oT (by kernel_rfl)) fun tags htl=>?_
 match tags,htl with
 | [t0],_ =>
  refine Seg.cutKM 2 113 [0,2] 2 (fun x:Int × Ts=>[.own 0 0,.own 1 0]) (fun x=>[some (.box [.p (.ro 3 LR),.p (pI x.1),.p (pB c.fn),.p (pB c.lp),.p (pB c.gn),.p (pB c.as_)] 50 (some t0)),some (.box [.p (pI 0),.p (pS ⟨#[]⟩),.p (pI 0),.p (pI 0),.p (.v (.slice none 0 0))] 27 none)]) (fun x=>AtP n toks LR x.1 x.2/\for0 c x.2=some o/\x.2.length < l.length) zaa mixed (fun _=>0) (fun _=>[]) (fun _ _=>0) (fun E=>za0 E tyT Tryz.f68.results.toList [t0] (rOf o) (hOf toks LR c o)) (by kernel_rfl) (fun P G E hc hM hE=>?_) ?_
  case' refine_1 =>
   have fO:=zje hE;have sb1:=fO.s1;have sb2:=fO.s2;have sb3:=fO.s3;have ap2:=fO.a2;have ap3:=fO.a3;have an2:=fO.n2;have an3:=fO.n3;have rm:=fun k m b h1 h2=>fO.room k m b h1 h2
   have pr:=fun k rs h=>fO.pre k rs h
   cbv;refine oE (zc1 h zbm c ho) (fun k1=>xE k1 fun bk1 k1=>?_) (fun k1=>?_)
   case' refine_2 =>
    refine .z [0] (hM _ _ _ _ _ (k1.2)) rfl rfl rfl ?_;cbv;have e0:=k1.1;subst e0;cbv;all_goals trivial
   refine .z [0] (hM _ _ _ _ _ (k1.2.2.2.2)) rfl rfl rfl ?_;cbv;exact .mk ((bk1,List.drop 1 l)) ⟨rfl,rfl,rfl,rfl,rfl⟩ (⟨k1.1,k1.2.1,k1.2.2.1⟩)
  rintro ⟨a0,l0⟩ ⟨h0,ho0,hl0⟩
  simp only at h0 ho0 hl0;unfold for0 at ho0;refine Seg.cutKM 1 113 [0,2] 2 (fun x:Int × Ts=>[.own 0 0,.own 1 0]) (fun x=>[some (.box [.p (.ro 3 LR),.p (pI x.1),.p (pB c.fn),.p (pB c.lp),.p (pB c.gn),.p (pB c.as_)] 50 (some t0)),some (.box [.p (pI 0),.p (pS ⟨#[]⟩),.p (pI 0),.p (pI 0),.p (.v (.slice none 0 0))] 27 none)]) (fun x=>AtP n toks LR x.1 x.2/\for1 c x.2=some o/\x.2.length < l.length) zaa mixed (fun n=>match n with|11=>3|_=>0) (fun n=>match n with|11=>[2]|_=>[]) (fun n i=>match n,i with|11,2=>1|_,_=>0) (fun E=>za0 E tyT Tryz.f68.results.toList [t0] (rOf o) (hOf toks LR c o)) (by kernel_rfl) (fun P G E hc hM hE=>?_) ?_
  case' refine_1 =>
   have fO:=zje hE;have sb1:=fO.s1;have sb2:=fO.s2;have sb3:=fO.s3;have ap2:=fO.a2;have ap3:=fO.a3;have an2:=fO.n2;have an3:=fO.n3;have rm:=fun k m b h1 h2=>fO.room k m b h1 h2
   have pr:=fun k rs h=>fO.pre k rs h
   cbv;refine oE (forS (ho0)) (fun k2=>oE k2.2.1 (fun wk2=>?_) (fun wk2=>?_)) (fun k2=>oE k2 (fun k2=>?_) (fun k2=>oE k2 (fun k2=>oE k2.2.1 (fun wk2=>?_) (fun wk2=>?_)) (fun k2=>oE k2.2.1 (fun wk2=>?_) (fun wk2=>?_))))
   case' refine_1 =>
    refine .z [0] (hM _ _ _ _ _ (zzw h0 0 (by decide) zfh c wk2.1)) rfl rfl rfl ?_
    cbv;refine xE (ziq h0 1 (by decide) c) fun Kk2 pk2=>xE pk2 fun Tk2 pk2=>xE pk2 fun zk2 pk2=>?_
    have ek2:decide (Kk2=1)=true:=by rw [<-pk2.1];exact dT k2.2.2.1
    refine .z [0] (hM _ _ _ _ _ (pk2.2.2)) rfl rfl rfl ?_;cbv;simp only [ek2];cbv;refine .z [0] (hM _ _ _ _ _ (zzw h0 2 (by decide) wOf c k2.2.2.2)) rfl rfl rfl ?_
    cbv;refine .z [0] (hM _ _ _ _ _ (z1g h0 0 (by decide) zax c (wk2.2))) rfl rfl rfl ?_
    cbv;refine xE (AtP.next h0 (zag (wk2.1))) fun bk4 k4=>?_
    have dk4:(List.drop 1 l0).length < (l0).length:=by have:=zag (wk2.1);rw [lLD];omega
    have ak4:=zcg hE k4.2.2.1 k4.2.2.2 k4.2.1;cbv;simp only [ak4];cbv;refine xE (z7g k4.1 c ((zr6 _ 1 0).trans k2.2.2.1)) fun bk5 k5=>xE k5 fun Tk5 k5=>?_
    refine .z [0] (hM _ _ _ _ _ (k5.2.2)) rfl rfl rfl ?_;cbv;have hk5:AtP n toks LR bk5 (List.drop 2 l0):=by have:=k5.1;rw [lDD] at this;exact this
    refine xE (AtP.next hk5 (z06 (k:=2) (n:=0) (zag k2.2.2.2))) fun bk6 k6=>?_
    have dk6:(List.drop 1 (List.drop 2 l0)).length < ((List.drop 2 l0)).length:=by have:=z06 (k:=2) (n:=0) (zag k2.2.2.2);rw [lLD];omega
    have ak6:=zcg hE k6.2.2.1 k6.2.2.2 k6.2.1;cbv;simp only [ak6];cbv;have hk6:AtP n toks LR bk6 (List.drop 3 l0):=by have:=k6.1;rw [lDD] at this;exact this
    have ddk6:(List.drop 3 l0).length=(((List.drop 2 l0).drop 1)).length:=by simp only [lLD];omega
    have dl3:(List.drop 3 l0).length<=l0.length:=by rw [lLD];omega
    refine oE (ndS (L:=(List.drop 3 l0)) (c:=c) (ih (.assign c (List.drop 3 l0)) (by simp only [Sy.meas,Sy.l,Sy.rank];omega)) rfl rfl rfl rfl rfl rfl hk6 k2.1) (fun k7=>xE k7 fun xk7 k7=>xE k7 fun lk7 k7=>xE k7 fun bk7 k7=>xE k7 fun q1k7 k7=>xE k7 fun q2k7 k7=>xE k7 fun q3k7 k7=>xE k7 fun q4k7 k7=>xE k7 fun q5k7 k7=>?_) (fun k7=>?_)
    case' refine_2 =>
     refine .z [0] (hM _ _ _ _ _ (k7.2)) rfl rfl rfl ?_;cbv;have e0:=k7.1;subst e0;cbv;all_goals trivial
    refine .z [0] (hM _ _ _ _ _ (k7.2.2.2.2)) rfl rfl rfl ?_;cbv;have ok7:=k7.2.2.2.1.one;cbv at ok7;cbv;simp only [ok7];cbv;refine oE (zc1 k7.1 zan c k7.2.1) (fun k8=>xE k8 fun bk8 k8=>?_) (fun k8=>?_)
    case' refine_2 =>
     refine .z [0] (hM _ _ _ _ _ (k8.2)) rfl rfl rfl ?_;cbv;have e0:=k8.1;subst e0;cbv;all_goals trivial
    refine .z [0] (hM _ _ _ _ _ (k8.2.2.2.2)) rfl rfl rfl ?_;cbv;refine oE (ndS (L:=(lk7.drop 1)) (c:=c) (ih (.body c (lk7.drop 1)) (by simp only [Sy.meas,Sy.l,Sy.rank];omega)) rfl rfl rfl rfl rfl rfl k8.1 k8.2.1) (fun k9=>xE k9 fun xk9 k9=>xE k9 fun lk9 k9=>xE k9 fun bk9 k9=>xE k9 fun q1k9 k9=>xE k9 fun q2k9 k9=>xE k9 fun q3k9 k9=>xE k9 fun q4k9 k9=>xE k9 fun q5k9 k9=>?_) (fun k9=>?_)
    case' refine_2 =>
     refine Or.inr ?_;refine .mk [0] _ _ _ _ (hM _ _ _ _ _ (k9.2)) rfl rfl rfl _ rfl ?_;cbv;have e0:=k9.1;subst e0;cbv;all_goals trivial
    refine Or.inl ?_;refine ⟨.mk trivial,?_⟩;refine .mk [0] _ _ _ _ (hM _ _ _ _ _ (k9.2.2.2.2)) rfl rfl rfl rfl ?_;cbv;have ok9:=k9.2.2.2.1.one;cbv at ok9;cbv
    repeat (first|(simp only [ok7];cbv)|(simp only [ok9];cbv))
    refine ⟨.mk (by repeat' (first|exact trivial|refine ⟨rfl,?_⟩)),?_⟩
    cbv;have hw:=wk2.2;have hT:bL (tx l0 1)=Tk5:=by have:=k5.2.1;rw [zrg] at this;exact this
    have e0:=okE (k9.2.1);subst e0;simp only [k9.1.place,nd,ndN,ndO,za8,zao,zae,lCA,lNA,k7.2.2.2.1.row,k9.2.2.2.1.row,hT,hw,Bool.false_eq_true,if_false,if_true];cbv
    repeat (first|(refine ⟨(pr _ _ rfl),?_⟩;cbv)|(simp only [sb1,sb2,sb3];cbv))
    all_goals trivial
   case' refine_2 =>
    refine .z [0] (hM _ _ _ _ _ (z1g h0 0 (by decide) zfh c wk2.1)) rfl rfl rfl ?_
    cbv;refine .z [0] (hM _ _ _ _ _ (zzw h0 0 (by decide) zax c wk2.2)) rfl rfl rfl ?_
    cbv;refine xE (ziq h0 1 (by decide) c) fun Kk2 pk2=>xE pk2 fun Tk2 pk2=>xE pk2 fun zk2 pk2=>?_
    have ek2:decide (Kk2=1)=true:=by rw [<-pk2.1];exact dT k2.2.2.1
    refine .z [0] (hM _ _ _ _ _ (pk2.2.2)) rfl rfl rfl ?_;cbv;simp only [ek2];cbv;refine .z [0] (hM _ _ _ _ _ (zzw h0 2 (by decide) wOf c k2.2.2.2)) rfl rfl rfl ?_
    cbv;refine .z [0] (hM _ _ _ _ _ (zzw h0 0 (by decide) zax c (wk2.2))) rfl rfl rfl ?_
    cbv;refine xE (AtP.next h0 (zag (wk2.2))) fun bk11 k11=>?_
    have dk11:(List.drop 1 l0).length < (l0).length:=by have:=zag (wk2.2);rw [lLD];omega
    have ak11:=zcg hE k11.2.2.1 k11.2.2.2 k11.2.1;cbv;simp only [ak11];cbv;refine xE (z7g k11.1 c ((zr6 _ 1 0).trans k2.2.2.1)) fun bk12 k12=>xE k12 fun Tk12 k12=>?_
    refine .z [0] (hM _ _ _ _ _ (k12.2.2)) rfl rfl rfl ?_;cbv;have hk12:AtP n toks LR bk12 (List.drop 2 l0):=by have:=k12.1;rw [lDD] at this;exact this
    refine xE (AtP.next hk12 (z06 (k:=2) (n:=0) (zag k2.2.2.2))) fun bk13 k13=>?_
    have dk13:(List.drop 1 (List.drop 2 l0)).length < ((List.drop 2 l0)).length:=by have:=z06 (k:=2) (n:=0) (zag k2.2.2.2);rw [lLD];omega
    have ak13:=zcg hE k13.2.2.1 k13.2.2.2 k13.2.1;cbv;simp only [ak13];cbv;have hk13:AtP n toks LR bk13 (List.drop 3 l0):=by have:=k13.1;rw [lDD] at this;exact this
    have ddk13:(List.drop 3 l0).length=(((List.drop 2 l0).drop 1)).length:=by simp only [lLD];omega
    have dl3:(List.drop 3 l0).length<=l0.length:=by rw [lLD];omega
    refine oE (ndS (L:=(List.drop 3 l0)) (c:=c) (ih (.assign c (List.drop 3 l0)) (by simp only [Sy.meas,Sy.l,Sy.rank];omega)) rfl rfl rfl rfl rfl rfl hk13 k2.1) (fun k14=>xE k14 fun xk14 k14=>xE k14 fun lk14 k14=>xE k14 fun bk14 k14=>xE k14 fun q1k14 k14=>xE k14 fun q2k14 k14=>xE k14 fun q3k14 k14=>xE k14 fun q4k14 k14=>xE k14 fun q5k14 k14=>?_) (fun k14=>?_)
    case' refine_2 =>
     refine .z [0] (hM _ _ _ _ _ (k14.2)) rfl rfl rfl ?_;cbv;have e0:=k14.1;subst e0;cbv;all_goals trivial
    refine .z [0] (hM _ _ _ _ _ (k14.2.2.2.2)) rfl rfl rfl ?_;cbv;have ok14:=k14.2.2.2.1.one;cbv at ok14;cbv;simp only [ok14];cbv;refine oE (zc1 k14.1 zan c k14.2.1) (fun k15=>xE k15 fun bk15 k15=>?_) (fun k15=>?_)
    case' refine_2 =>
     refine .z [0] (hM _ _ _ _ _ (k15.2)) rfl rfl rfl ?_;cbv;have e0:=k15.1;subst e0;cbv;all_goals trivial
    refine .z [0] (hM _ _ _ _ _ (k15.2.2.2.2)) rfl rfl rfl ?_;cbv;refine oE (ndS (L:=(lk14.drop 1)) (c:=c) (ih (.body c (lk14.drop 1)) (by simp only [Sy.meas,Sy.l,Sy.rank];omega)) rfl rfl rfl rfl rfl rfl k15.1 k15.2.1) (fun k16=>xE k16 fun xk16 k16=>xE k16 fun lk16 k16=>xE k16 fun bk16 k16=>xE k16 fun q1k16 k16=>xE k16 fun q2k16 k16=>xE k16 fun q3k16 k16=>xE k16 fun q4k16 k16=>xE k16 fun q5k16 k16=>?_) (fun k16=>?_)
    case' refine_2 =>
     refine Or.inr ?_;refine .mk [0] _ _ _ _ (hM _ _ _ _ _ (k16.2)) rfl rfl rfl _ rfl ?_;cbv;have e0:=k16.1;subst e0;cbv;all_goals trivial
    refine Or.inl ?_;refine ⟨.mk trivial,?_⟩;refine .mk [0] _ _ _ _ (hM _ _ _ _ _ (k16.2.2.2.2)) rfl rfl rfl rfl ?_;cbv;have ok16:=k16.2.2.2.1.one;cbv at ok16;cbv
    repeat (first|(simp only [ok14];cbv)|(simp only [ok16];cbv))
    refine ⟨.mk (by repeat' (first|exact trivial|refine ⟨rfl,?_⟩)),?_⟩
    cbv;have hw:=wk2.2;have hT:bL (tx l0 1)=Tk12:=by have:=k12.2.1;rw [zrg] at this;exact this
    have e0:=okE (k16.2.1);subst e0;simp only [k16.1.place,nd,ndN,ndO,za8,zao,zae,lCA,lNA,k14.2.2.2.1.row,k16.2.2.2.1.row,hT,hw,Bool.false_eq_true,if_false,if_true];cbv
    repeat (first|(refine ⟨(pr _ _ rfl),?_⟩;cbv)|(simp only [sb1,sb2,sb3];cbv))
    all_goals trivial
   case' refine_3 =>
    refine .z [0] (hM _ _ _ _ _ (z1g h0 0 (by decide) zfh c k2.2.1)) rfl rfl rfl ?_
    cbv;refine .z [0] (hM _ _ _ _ _ (z1g h0 0 (by decide) zax c k2.2.2)) rfl rfl rfl ?_
    cbv;exact .mk ((a0,l0)) ⟨rfl,rfl,rfl,rfl,rfl⟩ (⟨h0,k2.1,hl0⟩)
   case' refine_4 =>
    refine .z [0] (hM _ _ _ _ _ (zzw h0 0 (by decide) zfh c wk2.1)) rfl rfl rfl ?_
    cbv;refine xE (ziq h0 1 (by decide) c) fun Kk2 pk2=>xE pk2 fun Tk2 pk2=>xE pk2 fun zk2 pk2=>?_
    have ek2:decide (Kk2=1)=false:=by rw [<-pk2.1];exact dF k2.2.2
    refine .z [0] (hM _ _ _ _ _ (pk2.2.2)) rfl rfl rfl ?_;cbv;simp only [ek2];cbv;exact .mk ((a0,l0)) ⟨rfl,rfl,rfl,rfl,rfl⟩ (⟨h0,k2.1,hl0⟩)
   case' refine_5 =>
    refine .z [0] (hM _ _ _ _ _ (z1g h0 0 (by decide) zfh c wk2.1)) rfl rfl rfl ?_
    cbv;refine .z [0] (hM _ _ _ _ _ (zzw h0 0 (by decide) zax c wk2.2)) rfl rfl rfl ?_
    cbv;refine xE (ziq h0 1 (by decide) c) fun Kk2 pk2=>xE pk2 fun Tk2 pk2=>xE pk2 fun zk2 pk2=>?_
    have ek2:decide (Kk2=1)=false:=by rw [<-pk2.1];exact dF k2.2.2
    refine .z [0] (hM _ _ _ _ _ (pk2.2.2)) rfl rfl rfl ?_;cbv;simp only [ek2];cbv;exact .mk ((a0,l0)) ⟨rfl,rfl,rfl,rfl,rfl⟩ (⟨h0,k2.1,hl0⟩)
   case' refine_6 =>
    refine .z [0] (hM _ _ _ _ _ (zzw h0 0 (by decide) zfh c wk2.1)) rfl rfl rfl ?_
    cbv;refine xE (ziq h0 1 (by decide) c) fun Kk2 pk2=>xE pk2 fun Tk2 pk2=>xE pk2 fun zk2 pk2=>?_
    have ek2:decide (Kk2=1)=true:=by rw [<-pk2.1];exact dT k2.2.2.1
    refine .z [0] (hM _ _ _ _ _ (pk2.2.2)) rfl rfl rfl ?_;cbv;simp only [ek2];cbv;refine .z [0] (hM _ _ _ _ _ (z1g h0 2 (by decide) wOf c k2.2.2.2)) rfl rfl rfl ?_
    cbv;exact .mk ((a0,l0)) ⟨rfl,rfl,rfl,rfl,rfl⟩ (⟨h0,k2.1,hl0⟩)
   case' refine_7 =>
    refine .z [0] (hM _ _ _ _ _ (z1g h0 0 (by decide) zfh c wk2.1)) rfl rfl rfl ?_
    cbv;refine .z [0] (hM _ _ _ _ _ (zzw h0 0 (by decide) zax c wk2.2)) rfl rfl rfl ?_
    cbv;refine xE (ziq h0 1 (by decide) c) fun Kk2 pk2=>xE pk2 fun Tk2 pk2=>xE pk2 fun zk2 pk2=>?_
    have ek2:decide (Kk2=1)=true:=by rw [<-pk2.1];exact dT k2.2.2.1
    refine .z [0] (hM _ _ _ _ _ (pk2.2.2)) rfl rfl rfl ?_;cbv;simp only [ek2];cbv;refine .z [0] (hM _ _ _ _ _ (z1g h0 2 (by decide) wOf c k2.2.2.2)) rfl rfl rfl ?_
    cbv;exact .mk ((a0,l0)) ⟨rfl,rfl,rfl,rfl,rfl⟩ (⟨h0,k2.1,hl0⟩)
  rintro ⟨a1,l1⟩ ⟨h1,ho1,hl1⟩
  simp only at h1 ho1 hl1;unfold for1 at ho1;refine Seg.cutKM 2 113 [0,2,5] 4 (fun x:Int × Ts × PT × List PV=>[.own 0 0,.own 1 0,.own 3 0]) (fun x=>[some (.box [.p (.ro 3 LR),.p (pI x.1),.p (pB c.fn),.p (pB c.lp),.p (pB c.gn),.p (pB c.as_)] 50 (some t0)),some (.box [.p (pI 0),.p (pS ⟨#[]⟩),.p (pI 0),.p (pI 0),.p (.v (.slice none 0 0))] 27 none),some (.rows 5 [x.2.2.2,[pI 37,pS ⟨#[]⟩,pI 0,pI 0,.v (.slice none 0 0)],[pI 37,pS ⟨#[]⟩,pI 0,pI 0,.v (.slice none 0 0)]] 27),some (.box [.p (pI 30),.p (pS ⟨#[]⟩),.p (pI 0),.p (pI 0),.osl 2 0 3] 27 none)]) (fun x=>AtP n toks LR x.1 x.2.1/\z8f c x.2.2.1 x.2.1=some o/\x.2.1.length<=l1.length/\za8 x.2.2.1=x.2.2.2) zaa mixed (fun n=>match n with|15=>4|17=>6|_=>0) (fun n=>match n with|15=>[3]|17=>[3]|_=>[]) (fun n i=>match n,i with|15,3=>1|17,3=>1|17,4=>1|17,5=>1|_,_=>0) (fun E=>za0 E tyT Tryz.f68.results.toList [t0] (rOf o) (hOf toks LR c o)) (by kernel_rfl) (fun P G E hc hM hE=>?_) ?_
  case' refine_1 =>
   have fO:=zje hE;have sb1:=fO.s1;have sb2:=fO.s2;have sb3:=fO.s3;have ap2:=fO.a2;have ap3:=fO.a3;have an2:=fO.n2;have an3:=fO.n3;have rm:=fun k m b h1 h2=>fO.room k m b h1 h2
   have pr:=fun k rs h=>fO.pre k rs h
   have fP:=putF hE;have fn0:=fP.n0;have fn1:=fP.n1;have fn2:=fP.n2;have fp0:=fP.p0;have fp1:=fP.p1;have fp2:=fP.p2;have fq0:=fP.q0;have fq1:=fP.q1;have fq2:=fP.q2;have fw0:=fP.w0;have fw1:=fP.w1;have fw2:=fP.w2;have fa4:=fP.a4;have fs4:=fP.s4;have fn4:=fP.n4;have fm0:=fP.m0;have fm1:=fP.m1;have fm2:=fP.m2;have fo3:=fP.o3;cbv;refine oE (isOr h1 zfh zax c ho1) (fun k17=>?_) (fun k17=>oE k17 (fun k17=>?_) (fun k17=>?_))
   case' refine_1 =>
    refine .z [0] (hM _ _ _ _ _ (k17.2.2)) rfl rfl rfl ?_;cbv;refine oE (ndS (L:=l1) (c:=c) (ih (.decl c l1) (by simp only [Sy.meas,Sy.l,Sy.rank];omega)) (fidD (k17.2.1)) rfl rfl rfl rfl rfl h1 k17.1) (fun k18=>xE k18 fun xk18 k18=>xE k18 fun lk18 k18=>xE k18 fun bk18 k18=>xE k18 fun q1k18 k18=>xE k18 fun q2k18 k18=>xE k18 fun q3k18 k18=>xE k18 fun q4k18 k18=>xE k18 fun q5k18 k18=>?_) (fun k18=>?_)
    case' refine_2 =>
     refine Or.inr ?_;refine .mk [0] _ _ _ _ (hM _ _ _ _ _ (k18.2)) rfl rfl rfl _ rfl ?_;cbv;have e0:=k18.1;subst e0;cbv;all_goals trivial
    refine Or.inl ?_;refine ⟨.mk trivial,?_⟩;refine .mk [0] _ _ _ _ (hM _ _ _ _ _ (k18.2.2.2.2)) rfl rfl rfl rfl ?_;cbv;have ok18:=k18.2.2.2.1.one;cbv at ok18;cbv
    repeat (first|(simp only [ok18];cbv)|(simp only [fn0,fn1,fn2,fm0,fm1,fm2,fo3];cbv)|(simp only [fw0,fw1,fw2];cbv))
    refine ⟨.mk (by repeat' (first|exact trivial|refine ⟨rfl,?_⟩)),?_⟩
    cbv
    repeat (first|(refine ⟨_,rfl,(nR 5),?_⟩;cbv)|(refine ⟨fp0,?_⟩;cbv)|(refine ⟨fq0,?_⟩;cbv))
    exact .mk ((bk18,lk18,xk18,_)) ⟨rfl,rfl,rfl,rfl,rfl⟩ (⟨k18.1,k18.2.1,Nat.le_of_lt k18.2.2.1,k18.2.2.2.1.row⟩)
   case' refine_2 =>
    refine .z [0] (hM _ _ _ _ _ (k17.2.2.2.1)) rfl rfl rfl ?_;cbv;refine .z [0] (hM _ _ _ _ _ (k17.2.2.2.2)) rfl rfl rfl ?_;cbv;refine oE (ndS (L:=l1) (c:=c) (ih (.decl c l1) (by simp only [Sy.meas,Sy.l,Sy.rank];omega)) (fidD (k17.2.2.1)) rfl rfl rfl rfl rfl h1 k17.1) (fun k19=>xE k19 fun xk19 k19=>xE k19 fun lk19 k19=>xE k19 fun bk19 k19=>xE k19 fun q1k19 k19=>xE k19 fun q2k19 k19=>xE k19 fun q3k19 k19=>xE k19 fun q4k19 k19=>xE k19 fun q5k19 k19=>?_) (fun k19=>?_)
    case' refine_2 =>
     refine Or.inr ?_;refine .mk [0] _ _ _ _ (hM _ _ _ _ _ (k19.2)) rfl rfl rfl _ rfl ?_;cbv;have e0:=k19.1;subst e0;cbv;all_goals trivial
    refine Or.inl ?_;refine ⟨.mk trivial,?_⟩;refine .mk [0] _ _ _ _ (hM _ _ _ _ _ (k19.2.2.2.2)) rfl rfl rfl rfl ?_;cbv;have ok19:=k19.2.2.2.1.one;cbv at ok19;cbv
    repeat (first|(simp only [ok19];cbv)|(simp only [fn0,fn1,fn2,fm0,fm1,fm2,fo3];cbv)|(simp only [fw0,fw1,fw2];cbv))
    refine ⟨.mk (by repeat' (first|exact trivial|refine ⟨rfl,?_⟩)),?_⟩
    cbv
    repeat (first|(refine ⟨_,rfl,(nR 5),?_⟩;cbv)|(refine ⟨fp0,?_⟩;cbv)|(refine ⟨fq0,?_⟩;cbv))
    exact .mk ((bk19,lk19,xk19,_)) ⟨rfl,rfl,rfl,rfl,rfl⟩ (⟨k19.1,k19.2.1,Nat.le_of_lt k19.2.2.1,k19.2.2.2.1.row⟩)
   refine .z [0] (hM _ _ _ _ _ (k17.2.2.2.1)) rfl rfl rfl ?_;cbv;refine .z [0] (hM _ _ _ _ _ (k17.2.2.2.2)) rfl rfl rfl ?_;cbv;refine oE (isS h1 0 (by decide) zbo c k17.1) (fun k20=>?_) (fun k20=>?_)
   case' refine_1 =>
    refine .z [0] (hM _ _ _ _ _ (k20.2.2.2)) rfl rfl rfl ?_;cbv;exact .mk ((a1,l1,nd 37 [],_)) ⟨rfl,rfl,rfl,rfl,rfl⟩ (⟨h1,k20.1,nR _,z36⟩)
   refine .z [0] (hM _ _ _ _ _ (k20.2.2)) rfl rfl rfl ?_;cbv;refine oE (ndS (L:=l1) (c:=c) (ih (.assign c l1) (by simp only [Sy.meas,Sy.l,Sy.rank];omega)) rfl rfl rfl rfl rfl rfl h1 k20.1) (fun k21=>xE k21 fun xk21 k21=>xE k21 fun lk21 k21=>xE k21 fun bk21 k21=>xE k21 fun q1k21 k21=>xE k21 fun q2k21 k21=>xE k21 fun q3k21 k21=>xE k21 fun q4k21 k21=>xE k21 fun q5k21 k21=>?_) (fun k21=>?_)
   case' refine_2 =>
    refine Or.inr ?_;refine .mk [0] _ _ _ _ (hM _ _ _ _ _ (k21.2)) rfl rfl rfl _ rfl ?_;cbv;have e0:=k21.1;subst e0;cbv;all_goals trivial
   refine Or.inl ?_;refine ⟨.mk trivial,?_⟩;refine .mk [0] _ _ _ _ (hM _ _ _ _ _ (k21.2.2.2.2)) rfl rfl rfl rfl ?_;cbv;have ok21:=k21.2.2.2.1.one;cbv at ok21;cbv
   repeat (first|(simp only [ok21];cbv)|(simp only [fn0,fn1,fn2,fm0,fm1,fm2,fo3];cbv)|(simp only [fw0,fw1,fw2];cbv))
   refine ⟨.mk (by repeat' (first|exact trivial|refine ⟨rfl,?_⟩)),?_⟩
   cbv
   repeat (first|(refine ⟨_,rfl,(nR 5),?_⟩;cbv)|(refine ⟨fp0,?_⟩;cbv)|(refine ⟨fq0,?_⟩;cbv))
   exact .mk ((bk21,lk21,nd 26 [xk21],_)) ⟨rfl,rfl,rfl,rfl,rfl⟩ (⟨k21.1,k21.2.1,Nat.le_of_lt k21.2.2.1,row26 k21.2.2.2.1.row⟩)
  rintro ⟨a2,l2,xa,ra⟩ ⟨h2,ho2,hl2,hra⟩
  simp only at h2 ho2 hl2 hra;unfold z8f at ho2;refine Seg.cutKM 2 113 [0,2,5] 4 (fun x:Int × Ts × PT × List PV=>[.own 0 0,.own 1 0,.own 3 0]) (fun x=>[some (.box [.p (.ro 3 LR),.p (pI x.1),.p (pB c.fn),.p (pB c.lp),.p (pB c.gn),.p (pB c.as_)] 50 (some t0)),some (.box [.p (pI 0),.p (pS ⟨#[]⟩),.p (pI 0),.p (pI 0),.p (.v (.slice none 0 0))] 27 none),some (.rows 5 [ra,x.2.2.2,[pI 37,pS ⟨#[]⟩,pI 0,pI 0,.v (.slice none 0 0)]] 27),some (.box [.p (pI 30),.p (pS ⟨#[]⟩),.p (pI 0),.p (pI 0),.osl 2 0 3] 27 none)]) (fun x=>AtP n toks LR x.1 x.2.1/\for3 c xa x.2.2.1 x.2.1=some o/\x.2.1.length < l2.length/\za8 x.2.2.1=x.2.2.2) zaa mixed (fun n=>match n with|20=>4|_=>0) (fun n=>match n with|20=>[3]|_=>[]) (fun n i=>match n,i with|20,3=>1|_,_=>0) (fun E=>za0 E tyT Tryz.f68.results.toList [t0] (rOf o) (hOf toks LR c o)) (by kernel_rfl) (fun P G E hc hM hE=>?_) ?_
  case' refine_1 =>
   have fO:=zje hE;have sb1:=fO.s1;have sb2:=fO.s2;have sb3:=fO.s3;have ap2:=fO.a2;have ap3:=fO.a3;have an2:=fO.n2;have an3:=fO.n3;have rm:=fun k m b h1 h2=>fO.room k m b h1 h2
   have pr:=fun k rs h=>fO.pre k rs h
   have fP:=putF hE;have fn0:=fP.n0;have fn1:=fP.n1;have fn2:=fP.n2;have fp0:=fP.p0;have fp1:=fP.p1;have fp2:=fP.p2;have fq0:=fP.q0;have fq1:=fP.q1;have fq2:=fP.q2;have fw0:=fP.w0;have fw1:=fP.w1;have fw2:=fP.w2;have fa4:=fP.a4;have fs4:=fP.s4;have fn4:=fP.n4;have fm0:=fP.m0;have fm1:=fP.m1;have fm2:=fP.m2;have fo3:=fP.o3;cbv;refine oE (zc1 h2 zbo c ho2) (fun k22=>xE k22 fun bk22 k22=>?_) (fun k22=>?_)
   case' refine_2 =>
    refine .z [0] (hM _ _ _ _ _ (k22.2)) rfl rfl rfl ?_;cbv;have e0:=k22.1;subst e0;cbv;all_goals trivial
   refine .z [0] (hM _ _ _ _ _ (k22.2.2.2.2)) rfl rfl rfl ?_;cbv;refine oE (isS k22.1 0 (by decide) zbo c k22.2.1) (fun k23=>?_) (fun k23=>?_)
   case' refine_1 =>
    refine .z [0] (hM _ _ _ _ _ (k23.2.2.2)) rfl rfl rfl ?_;cbv;exact .mk ((bk22,(l2.drop 1),nd 37 [],_)) ⟨rfl,rfl,rfl,rfl,rfl⟩ (⟨k22.1,k23.1,k22.2.2.1,z36⟩)
   refine .z [0] (hM _ _ _ _ _ (k23.2.2)) rfl rfl rfl ?_;cbv;refine oE (ndS (L:=(l2.drop 1)) (c:=c) (ih (.assign c (l2.drop 1)) (by simp only [Sy.meas,Sy.l,Sy.rank];omega)) rfl rfl rfl rfl rfl rfl k22.1 k23.1) (fun k24=>xE k24 fun xk24 k24=>xE k24 fun lk24 k24=>xE k24 fun bk24 k24=>xE k24 fun q1k24 k24=>xE k24 fun q2k24 k24=>xE k24 fun q3k24 k24=>xE k24 fun q4k24 k24=>xE k24 fun q5k24 k24=>?_) (fun k24=>?_)
   case' refine_2 =>
    refine Or.inr ?_;refine .mk [0] _ _ _ _ (hM _ _ _ _ _ (k24.2)) rfl rfl rfl _ rfl ?_;cbv;have e0:=k24.1;subst e0;cbv;all_goals trivial
   refine Or.inl ?_;refine ⟨.mk trivial,?_⟩;refine .mk [0] _ _ _ _ (hM _ _ _ _ _ (k24.2.2.2.2)) rfl rfl rfl rfl ?_;cbv;have ok24:=k24.2.2.2.1.one;cbv at ok24;cbv
   repeat (first|(simp only [ok24];cbv)|(simp only [fn0,fn1,fn2,fm0,fm1,fm2,fo3];cbv)|(simp only [fw0,fw1,fw2];cbv))
   refine ⟨.mk (by repeat' (first|exact trivial|refine ⟨rfl,?_⟩)),?_⟩
   cbv
   repeat (first|(refine ⟨_,rfl,(nR 5),?_⟩;cbv)|(refine ⟨fp1,?_⟩;cbv)|(refine ⟨fq1,?_⟩;cbv))
   exact .mk ((bk24,lk24,xk24,_)) ⟨rfl,rfl,rfl,rfl,rfl⟩ (⟨k24.1,k24.2.1,Nat.lt_trans k24.2.2.1 k22.2.2.1,k24.2.2.2.1.row⟩)
  rintro ⟨a3,l3,xb,rb⟩ ⟨h3,ho3,hl3,hrb⟩
  simp only at h3 ho3 hl3 hrb;unfold for3 at ho3;refine Seg.cutKM 2 113 [0,2,5] 4 (fun x:Int × Ts × PT × List PV=>[.own 0 0,.own 1 0,.own 3 0]) (fun x=>[some (.box [.p (.ro 3 LR),.p (pI x.1),.p (pB c.fn),.p (pB c.lp),.p (pB c.gn),.p (pB c.as_)] 50 (some t0)),some (.box [.p (pI 0),.p (pS ⟨#[]⟩),.p (pI 0),.p (pI 0),.p (.v (.slice none 0 0))] 27 none),some (.rows 5 [ra,rb,x.2.2.2] 27),some (.box [.p (pI 30),.p (pS ⟨#[]⟩),.p (pI 0),.p (pI 0),.osl 2 0 3] 27 none)]) (fun x=>AtP n toks LR x.1 x.2.1/\z8e c xa xb x.2.2.1 x.2.1=some o/\x.2.1.length < l3.length/\za8 x.2.2.1=x.2.2.2) zaa mixed (fun n=>match n with|23=>4|_=>0) (fun n=>match n with|23=>[3]|_=>[]) (fun n i=>match n,i with|23,3=>1|_,_=>0) (fun E=>za0 E tyT Tryz.f68.results.toList [t0] (rOf o) (hOf toks LR c o)) (by kernel_rfl) (fun P G E hc hM hE=>?_) ?_
  case' refine_1 =>
   have fO:=zje hE;have sb1:=fO.s1;have sb2:=fO.s2;have sb3:=fO.s3;have ap2:=fO.a2;have ap3:=fO.a3;have an2:=fO.n2;have an3:=fO.n3;have rm:=fun k m b h1 h2=>fO.room k m b h1 h2
   have pr:=fun k rs h=>fO.pre k rs h
   have fP:=putF hE;have fn0:=fP.n0;have fn1:=fP.n1;have fn2:=fP.n2;have fp0:=fP.p0;have fp1:=fP.p1;have fp2:=fP.p2;have fq0:=fP.q0;have fq1:=fP.q1;have fq2:=fP.q2;have fw0:=fP.w0;have fw1:=fP.w1;have fw2:=fP.w2;have fa4:=fP.a4;have fs4:=fP.s4;have fn4:=fP.n4;have fm0:=fP.m0;have fm1:=fP.m1;have fm2:=fP.m2;have fo3:=fP.o3;cbv;refine oE (zc1 h3 zbo c ho3) (fun k25=>xE k25 fun bk25 k25=>?_) (fun k25=>?_)
   case' refine_2 =>
    refine .z [0] (hM _ _ _ _ _ (k25.2)) rfl rfl rfl ?_;cbv;have e0:=k25.1;subst e0;cbv;all_goals trivial
   refine .z [0] (hM _ _ _ _ _ (k25.2.2.2.2)) rfl rfl rfl ?_;cbv;refine oE (isS k25.1 0 (by decide) zan c k25.2.1) (fun k26=>?_) (fun k26=>?_)
   case' refine_1 =>
    refine .z [0] (hM _ _ _ _ _ (k26.2.2.2)) rfl rfl rfl ?_;cbv;exact .mk ((bk25,(l3.drop 1),nd 37 [],_)) ⟨rfl,rfl,rfl,rfl,rfl⟩ (⟨k25.1,z5i k26.2.1 k26.1,k25.2.2.1,z36⟩)
   refine .z [0] (hM _ _ _ _ _ (k26.2.2)) rfl rfl rfl ?_;cbv;refine oE (ndS (L:=(l3.drop 1)) (c:=c) (ih (.assign c (l3.drop 1)) (by simp only [Sy.meas,Sy.l,Sy.rank];omega)) rfl rfl rfl rfl rfl rfl k25.1 k26.1) (fun k27=>xE k27 fun xk27 k27=>xE k27 fun lk27 k27=>xE k27 fun bk27 k27=>xE k27 fun q1k27 k27=>xE k27 fun q2k27 k27=>xE k27 fun q3k27 k27=>xE k27 fun q4k27 k27=>xE k27 fun q5k27 k27=>?_) (fun k27=>?_)
   case' refine_2 =>
    refine Or.inr ?_;refine .mk [0] _ _ _ _ (hM _ _ _ _ _ (k27.2)) rfl rfl rfl _ rfl ?_;cbv;have e0:=k27.1;subst e0;cbv;all_goals trivial
   refine Or.inl ?_;refine ⟨.mk trivial,?_⟩;refine .mk [0] _ _ _ _ (hM _ _ _ _ _ (k27.2.2.2.2)) rfl rfl rfl rfl ?_;cbv;have ok27:=k27.2.2.2.1.one;cbv at ok27;cbv
   repeat (first|(simp only [ok27];cbv)|(simp only [fn0,fn1,fn2,fm0,fm1,fm2,fo3];cbv)|(simp only [fw0,fw1,fw2];cbv))
   refine ⟨.mk (by repeat' (first|exact trivial|refine ⟨rfl,?_⟩)),?_⟩
   cbv
   repeat (first|(refine ⟨_,rfl,(nR 5),?_⟩;cbv)|(refine ⟨fp2,?_⟩;cbv)|(refine ⟨fq2,?_⟩;cbv))
   exact .mk ((bk27,lk27,xk27,_)) ⟨rfl,rfl,rfl,rfl,rfl⟩ (⟨k27.1,k27.2.1,Nat.lt_trans k27.2.2.1 k25.2.2.1,k27.2.2.2.1.row⟩)
  rintro ⟨a4,l4,xd,rd⟩ ⟨h4,ho4,hl4,hrd⟩
  simp only at h4 ho4 hl4 hrd;unfold z8e at ho4;refine Seg.ofM zaa mixed (fun n=>match n with|25=>5|_=>0) (fun n=>match n with|25=>[3]|_=>[]) (fun n i=>match n,i with|25,3=>1|25,4=>1|_,_=>0) (by kernel_rfl) (fun E=>za0 E tyT Tryz.f68.results.toList [t0] (rOf o) (hOf toks LR c o)) fun P G E hc hM hE=>?_
  have fO:=zje hE;have sb1:=fO.s1;have sb2:=fO.s2;have sb3:=fO.s3;have ap2:=fO.a2;have ap3:=fO.a3;have an2:=fO.n2;have an3:=fO.n3;have rm:=fun k m b h1 h2=>fO.room k m b h1 h2
  have pr:=fun k rs h=>fO.pre k rs h
  have fP:=putF hE;have fn0:=fP.n0;have fn1:=fP.n1;have fn2:=fP.n2;have fp0:=fP.p0;have fp1:=fP.p1;have fp2:=fP.p2;have fq0:=fP.q0;have fq1:=fP.q1;have fq2:=fP.q2;have fw0:=fP.w0;have fw1:=fP.w1;have fw2:=fP.w2;have fa4:=fP.a4;have fs4:=fP.s4;have fn4:=fP.n4;have fm0:=fP.m0;have fm1:=fP.m1;have fm2:=fP.m2;have fo3:=fP.o3;cbv;refine oE (zc1 h4 zan c ho4) (fun k28=>xE k28 fun bk28 k28=>?_) (fun k28=>?_)
  case' refine_2 =>
   refine .z [0] (hM _ _ _ _ _ (k28.2)) rfl rfl rfl ?_;cbv;have e0:=k28.1;subst e0;cbv;all_goals trivial
  refine .z [0] (hM _ _ _ _ _ (k28.2.2.2.2)) rfl rfl rfl ?_;cbv;refine oE (ndS (L:=(l4.drop 1)) (c:=c) (ih (.body c (l4.drop 1)) (by simp only [Sy.meas,Sy.l,Sy.rank];omega)) rfl rfl rfl rfl rfl rfl k28.1 k28.2.1) (fun k29=>xE k29 fun xk29 k29=>xE k29 fun lk29 k29=>xE k29 fun bk29 k29=>xE k29 fun q1k29 k29=>xE k29 fun q2k29 k29=>xE k29 fun q3k29 k29=>xE k29 fun q4k29 k29=>xE k29 fun q5k29 k29=>?_) (fun k29=>?_)
  case' refine_2 =>
   refine Or.inr ?_;refine .mk [0] _ _ _ _ (hM _ _ _ _ _ (k29.2)) rfl rfl rfl _ rfl ?_;cbv;have e0:=k29.1;subst e0;cbv;all_goals trivial
  refine Or.inl ?_;refine ⟨.mk trivial,?_⟩;refine .mk [0] _ _ _ _ (hM _ _ _ _ _ (k29.2.2.2.2)) rfl rfl rfl rfl ?_;cbv;have ok29:=k29.2.2.2.1.one;cbv at ok29;cbv
  repeat (first|(simp only [ok29];cbv)|(simp only [fa4,fs4,fn4];cbv))
  refine ⟨.mk (by repeat' (first|exact trivial|refine ⟨rfl,?_⟩)),?_⟩
  cbv
  repeat (first|(refine ⟨(pr _ _ rfl),?_⟩;cbv)|(refine ⟨(rm _ _ _ (by decide) (by decide)),?_⟩;cbv))
  have e0:=okE (k29.2.1);subst e0;simp only [k29.1.place,nd,ndN,ndO,za8,zao,zae,lCA,lNA,hra,hrb,hrd,k29.2.2.2.1.row];cbv
  repeat (first|(refine ⟨(pr _ _ rfl),?_⟩;cbv)|(simp only [fa4,fs4,fn4];cbv))
  all_goals trivial
end
end Go.Proofs.YtcfecmeocimclaaGreatDoor
