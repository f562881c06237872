/- Own work: the walk of arrows. -/
import Derived.Test.YtcfecmeocimclaaGreatDoorYAA0
import Derived.Test.YtcfecmeocimclaaGreatDoorYAHF
namespace Go.Proofs.YtcfecmeocimclaaGreatDoor
set_option linter.unusedSimpArgs false
set_option linter.unusedSectionVars false
set_option maxRecDepth 100000
open Go.RowKit
section
variable {n:Int} {toks:List Tk} {LR:List (List PV)} {a:Int} {l:Ts}
theorem isZ (h:AtP n toks LR a l) (k:Nat) (z:Int) (hz:((k:Nat):Int)=z) (hk:k<=1000000) (w:Bs) (c:Cx):(isT l k w=true/\MP 37 [.own 0 0,.p (pI z),.p (pS (bL w))] [rdr LR a c] (.p (pB true)) [rdr LR a c])\/(isT l k w=false/\MP 37 [.own 0 0,.p (pI z),.p (pS (bL w))] [rdr LR a c] (.p (pB false)) [rdr LR a c]):=by
 subst hz;exact zx9 h k hk w c
theorem z4d (h:AtP n toks LR a l) (k:Nat) (z:Int) (hz:((k:Nat):Int)=z) (hk:k<=1000000) (c:Cx):(∃ T zz,kd l k=1/\MP 36 [.own 0 0,.p (pI z)] [rdr LR a c] (.p (.agg [pI 1,pS T,pI zz])) [rdr LR a c])\/∃ K T zz,¬ kd l k=1/\decide (K=1)=false/\MP 36 [.own 0 0,.p (pI z)] [rdr LR a c] (.p (.agg [pI K,pS T,pI zz])) [rdr LR a c]:=by
 subst hz;obtain ⟨zz,hm⟩:=zte h k hk c
 by_cases h1:kd l k=1
 ·rw [h1] at hm;exact .inl ⟨_,_,h1,upM hm⟩
 ·exact .inr ⟨kd l k,_,_,h1,dF h1,upM hm⟩
def zsk (l:Ts) (i:Nat):Nat :=
 if kd l i=1 then (if isT l (i + 1) zf3 then i + 1 else 0)
 else if isT l i zbm then (match zef l (l.length + 1) (i + 1) with
  | some n=>if isT l n zan && isT l (n + 1) zf3 then n + 1 else 0
  | none=>0)
 else 0
theorem zvu (l:Ts):zbh l=zsk l (if isT l 0 zat then 1 else 0):=rfl
theorem zwd {E:SO} (hE:E=zas) {k:Nat} {z z2:Int} (hz:((k:Nat):Int)=z) (hk:k<=1000002) (h2:z + 1=z2):E.wadd .i64 z 1=z2:=by rw [hE,<- h2];exact zaf (by omega) (by omega)
set_option maxHeartbeats 8000000 in
theorem z13 (h:AtP n toks LR a l) (c:Cx):MP 45 [.own 0 0] [rdr LR a c] (.p (pI ((zbh l:Nat):Int))) [rdr LR a c]:=by
 have hzl:l.length<=1000000:=by have:=h.h1;have:=h.h0;have:=h.z;omega
 rw [zvu];obtain ⟨i0,hi0⟩:∃ i0,(if isT l 0 zat then 1 else 0)=i0:=⟨_,rfl⟩
 rw [hi0];have hi1:i0<=1:=by rw [<-hi0];split <;> omega
 obtain ⟨Q,hQ⟩:∃ Q:Int,((zsk l i0:Nat):Int)=Q:=⟨_,rfl⟩
 rw [hQ];obtain ⟨μ,hμ⟩:∃ μ:Int × Nat->Nat,∀ x,μ x=l.length + 3 - x.2:=⟨_,fun _=>rfl⟩
 refine zad zaa (f:=45) Tryz.func45 rfl (by kernel_rfl) (oT (by kernel_rfl)) fun tags htl=>?_
 match tags,htl with
 | [t0],_ =>
  refine Seg.cutK 3 52 [0,3] 1 (fun z:Int=>[.own 0 0,.p (pI z)]) (fun _=>[some (.box [.p (.ro 3 LR),.p (pI a),.p (pB c.fn),.p (pB c.lp),.p (pB c.gn),.p (pB c.as_)] 50 (some t0))]) (fun z=>((i0:Nat):Int)=z) zaa mixed (fun _=>0) (fun E=>za0 E tyT Tryz.f45.results.toList [t0] (.p (pI Q)) [rdr LR a c]) (by kernel_rfl) ?_ ?_
  ·intro P G E hc hM hE;clear hc hE;cbv;refine oE (isZ h 0 0 rfl (Nat.zero_le _) zat c) (fun k1=>?_) (fun k1=>?_)
   case' refine_1 =>
    refine .z [0] (hM _ _ _ _ _ k1.2) rfl rfl rfl ?_;rw [k1.1] at hi0;subst hi0;cbv;exact .mk 1 ⟨rfl,rfl,rfl,rfl,rfl⟩ rfl
   refine .z [0] (hM _ _ _ _ _ k1.2) rfl rfl rfl ?_;rw [k1.1] at hi0;subst hi0;cbv;exact .mk 0 ⟨rfl,rfl,rfl,rfl,rfl⟩ rfl
  intro z hz;replace hz:((i0:Nat):Int)=z:=hz;obtain ⟨z2,hz2⟩:∃ z2:Int,z + 1=z2:=⟨_,rfl⟩
  unfold zsk at hQ;refine Seg.of zaa mixed (fun _=>0) (by kernel_rfl) (fun E=>za0 E tyT Tryz.f45.results.toList [t0] (.p (pI Q)) [rdr LR a c]) fun P G E hc hM hE=>?_
  have ea:=zwd hE hz (by omega) hz2
  have kpk:=z4d h i0 z hz (by omega) c
  have kis:=isZ h (i0 + 1) z2 (by omega) (by omega) zf3 c
  have klp:=isZ h i0 z hz (by omega) zbm c
  cbv;refine oE kpk (fun k1=>xE k1 fun T1 k1=>xE k1 fun zz1 k1=>?_) (fun k1=>xE k1 fun K1 k1=>xE k1 fun T1 k1=>xE k1 fun zz1 k1=>?_)
  case' refine_1 =>
   rw [if_pos k1.1] at hQ;refine .z [0] (hM _ _ _ _ _ k1.2) rfl rfl rfl ?_;cbv;simp only [ea];cbv;refine oE kis (fun k2=>?_) (fun k2=>?_)
   case' refine_1 =>
    rw [if_pos k2.1] at hQ;refine .z [0] (hM _ _ _ _ _ k2.2) rfl rfl rfl ?_;have hQ1:((i0 + 1:Nat):Int)=Q:=hQ;have hz1:((i0:Nat):Int)=z:=hz;have hz3:z + 1=z2:=hz2;have e0:z2=Q:=by omega
    subst e0;cbv;simp only [ea];cbv;all_goals trivial
   rw [if_neg (by rw [k2.1];exact Bool.false_ne_true)] at hQ
   refine .z [0] (hM _ _ _ _ _ k2.2) rfl rfl rfl ?_;subst hQ;cbv;all_goals trivial
  rw [if_neg k1.1] at hQ;refine .z [0] (hM _ _ _ _ _ k1.2.2) rfl rfl rfl ?_;have ek1:=k1.2.1;cbv;simp only [ek1];cbv;refine oE klp (fun k2=>?_) (fun k2=>?_)
  case' refine_2 =>
   rw [if_neg (by rw [k2.1];exact Bool.false_ne_true)] at hQ
   refine .z [0] (hM _ _ _ _ _ k2.2) rfl rfl rfl ?_;subst hQ;cbv;all_goals trivial
  rw [if_pos k2.1] at hQ;have hp0:=zag k2.1;refine .z [0] (hM _ _ _ _ _ k2.2) rfl rfl rfl ?_;cbv;simp only [ea];cbv;have hz1:((i0:Nat):Int)=z:=hz;have hz3:z + 1=z2:=hz2;refine zbs 52 [0,3] 1 (fun x:Int × Nat=>[.own 0 0,.p (pI x.1)]) (fun _=>[some (.box [.p (.ro 3 LR),.p (pI a),.p (pB c.fn),.p (pB c.lp),.p (pB c.gn),.p (pB c.as_)] 50 (some t0))])
   (fun x=>((x.2:Nat):Int)=x.1/\x.2<=l.length/\∃ m,l.length + 1<=m + x.2/\(((match zef l m x.2 with
    | some n=>if isT l n zan && isT l (n + 1) zf3 then n + 1 else 0
    | none=>0):Nat):Int)=Q) μ (z2,i0 + 1) ⟨rfl,rfl,rfl,rfl,rfl⟩ ⟨by show ((i0 + 1:Nat):Int)=z2;omega,by show i0 + 1<=l.length;omega,l.length + 1,by omega,hQ⟩ ?_
  clear hQ
  rintro ⟨z5,k⟩ ⟨g1,g2,m,g3,hQ⟩
  simp only at g1 g2 g3 hQ;obtain ⟨m,rfl⟩:∃ m',m=m' + 1:=⟨m - 1,by omega⟩
  rw [zef] at hQ;obtain ⟨z6,hz6⟩:∃ y:Int,z5 + 1=y:=⟨_,rfl⟩
  obtain ⟨z7,hz7⟩:∃ y:Int,z6 + 1=y:=⟨_,rfl⟩
  have e6:=zwd hE g1 (by omega) hz6
  have g6:((k + 1:Nat):Int)=z6:=by omega
  have e7:=zwd hE g6 (by omega) hz7
  have g7:((k + 2:Nat):Int)=z7:=by omega
  have kpk:=z4d h k z5 g1 (by omega) c
  have hmu:=hμ;clear klp kis;cbv;refine oE kpk (fun k1=>xE k1 fun T1 k1=>xE k1 fun zz1 k1=>?_) (fun k1=>xE k1 fun K1 k1=>xE k1 fun T1 k1=>xE k1 fun zz1 k1=>?_)
  case' refine_2 =>
   rw [if_neg k1.1] at hQ;have hQ8:=hQ;simp only at hQ8;refine .z [0] (hM _ _ _ _ _ k1.2.2) rfl rfl rfl ?_;have ek1:=k1.2.1;cbv;simp only [ek1];cbv;refine xE (⟨_,rfl⟩:∃ y:Int,z5 + 1=y) fun y9 hy9=>?_
   have hzz:((k:Nat):Int)=z5:=g1;have ea9:=zwd hE hzz (by omega) hy9
   refine oE (isZ h (k) z5 hzz (by omega) zan c) (fun k7=>?_) (fun k7=>?_)
   case' refine_2 =>
    rw [k7.1,Bool.false_and] at hQ8;refine .z [0] (hM _ _ _ _ _ k7.2) rfl rfl rfl ?_;have e0:0=Q:=hQ8;subst e0;cbv;all_goals trivial
   have hp7:=zag k7.1;rw [k7.1,Bool.true_and] at hQ8;refine .z [0] (hM _ _ _ _ _ k7.2) rfl rfl rfl ?_;cbv;simp only [ea9];cbv;refine oE (isZ h (k + 1) y9 (by have q1:((k:Nat):Int)=z5:=hzz;have q2:z5 + 1=y9:=hy9;omega) (by omega) zf3 c) (fun k8=>?_) (fun k8=>?_)
   case' refine_2 =>
    rw [if_neg (by rw [k8.1];exact Bool.false_ne_true)] at hQ8
    refine .z [0] (hM _ _ _ _ _ k8.2) rfl rfl rfl ?_;have e0:0=Q:=hQ8;subst e0;cbv;all_goals trivial
   rw [if_pos k8.1] at hQ8;refine .z [0] (hM _ _ _ _ _ k8.2) rfl rfl rfl ?_;have hQ9:((k + 1:Nat):Int)=Q:=hQ8;have e0:y9=Q:=by have q1:((k:Nat):Int)=z5:=hzz;have q2:z5 + 1=y9:=hy9;omega
   subst e0;cbv;simp only [ea9];cbv;all_goals trivial
  rw [if_pos k1.1] at hQ;have hpk:=zaw k1.1 (by decide)
  refine .z [0] (hM _ _ _ _ _ k1.2) rfl rfl rfl ?_;cbv;simp only [e6];cbv;refine oE (isZ h (k + 1) z6 g6 (by omega) zcv c) (fun k2=>?_) (fun k2=>?_)
  case' refine_2 =>
   rw [if_neg (by rw [k2.1];exact Bool.false_ne_true)] at hQ
   have hQ8:=hQ;simp only at hQ8;refine .z [0] (hM _ _ _ _ _ k2.2) rfl rfl rfl ?_;cbv;refine xE (⟨_,rfl⟩:∃ y:Int,z6 + 1=y) fun y9 hy9=>?_
   have hzz:((k + 1:Nat):Int)=z6:=g6;have ea9:=zwd hE hzz (by omega) hy9
   refine oE (isZ h (k + 1) z6 hzz (by omega) zan c) (fun k7=>?_) (fun k7=>?_)
   case' refine_2 =>
    rw [k7.1,Bool.false_and] at hQ8;refine .z [0] (hM _ _ _ _ _ k7.2) rfl rfl rfl ?_;have e0:0=Q:=hQ8;subst e0;cbv;all_goals trivial
   have hp7:=zag k7.1;rw [k7.1,Bool.true_and] at hQ8;refine .z [0] (hM _ _ _ _ _ k7.2) rfl rfl rfl ?_;cbv;simp only [ea9];cbv;refine oE (isZ h (k + 1 + 1) y9 (by have q1:((k + 1:Nat):Int)=z6:=hzz;have q2:z6 + 1=y9:=hy9;omega) (by omega) zf3 c) (fun k8=>?_) (fun k8=>?_)
   case' refine_2 =>
    rw [if_neg (by rw [k8.1];exact Bool.false_ne_true)] at hQ8
    refine .z [0] (hM _ _ _ _ _ k8.2) rfl rfl rfl ?_;have e0:0=Q:=hQ8;subst e0;cbv;all_goals trivial
   rw [if_pos k8.1] at hQ8;refine .z [0] (hM _ _ _ _ _ k8.2) rfl rfl rfl ?_;have hQ9:((k + 1 + 1:Nat):Int)=Q:=hQ8;have e0:y9=Q:=by have q1:((k + 1:Nat):Int)=z6:=hzz;have q2:z6 + 1=y9:=hy9;omega
   subst e0;cbv;simp only [ea9];cbv;all_goals trivial
  rw [if_pos k2.1] at hQ;have hp2:=zag k2.1;refine .z [0] (hM _ _ _ _ _ k2.2) rfl rfl rfl ?_;cbv;simp only [e7];cbv;refine oE (z4d h (k + 2) z7 g7 (by omega) c) (fun k3=>xE k3 fun T3 k3=>xE k3 fun zz3 k3=>?_) (fun k3=>xE k3 fun K3 k3=>xE k3 fun T3 k3=>xE k3 fun zz3 k3=>?_)
  case' refine_2 =>
   rw [if_neg k3.1] at hQ;have e0:0=Q:=hQ;refine .z [0] (hM _ _ _ _ _ k3.2.2) rfl rfl rfl ?_;have ek3:=k3.2.1;subst e0;cbv
   repeat (simp only [ek3];cbv)
   all_goals trivial
  rw [if_pos k3.1] at hQ;have hp3:=zaw k3.1 (by decide)
  refine .z [0] (hM _ _ _ _ _ k3.2) rfl rfl rfl ?_;cbv;exact .mk (z7,k + 2) ⟨rfl,rfl,rfl,rfl,rfl⟩ ⟨g7,by show k + 2<=l.length;omega,m,by show l.length + 1<=m + (k + 2);omega,hQ⟩ (by rw [hmu,hmu];show l.length + 3 - (k + 2) < l.length + 3 - k;omega)
theorem arrS {β:Type} {o:Option (β × Ts)} (h:AtP n toks LR a l) (c:Cx) {X Y:Re β} (ho:(if 0 < zbh l then X else Y)=some o) :
  (∃ Q:Int,X=some o/\0 < Q/\MP 45 [.own 0 0] [rdr LR a c] (.p (pI Q)) [rdr LR a c])\/∃ Q:Int,Y=some o/\¬ 0 < Q/\MP 45 [.own 0 0] [rdr LR a c] (.p (pI Q)) [rdr LR a c]:=by
 have hm:=z13 h c
 by_cases hb:0 < zbh l
 ·rw [if_pos hb] at ho;exact .inl ⟨_,ho,by omega,hm⟩
 ·rw [if_neg hb] at ho;exact .inr ⟨_,ho,by omega,hm⟩
end
end Go.Proofs.YtcfecmeocimclaaGreatDoor
