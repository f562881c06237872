/- Own work: the walk of primary. -/
import Derived.Test.YtcfecmeocimclaaGreatDoorYAA0
import Derived.Test.YtcfecmeocimclaaGreatDoorYAHH
namespace Go.Proofs.YtcfecmeocimclaaGreatDoor
set_option linter.unusedSimpArgs false
set_option linter.unusedSectionVars false
set_option maxRecDepth 100000
open Go.RowKit
section
variable {n:Int} {toks:List Tk} {LR:List (List PV)} {l:Ts}
theorem AtP.num {a:Int} (h:AtP n toks LR a l) (hk:kd l 0=3):RL 115 [pS (bL (tx l 0)),pI 10,pI 64] (.tup [pI (zj2 (tx l 0):Nat),.v .nilIface]):=by
 have hp:=zaw hk (by decide)
 have hm:l[0] ∈ toks:=List.mem_of_mem_drop (i:=a.toNat) (by rw [h.d];exact List.getElem_mem hp)
 have ht:tx l 0=l[0].t:=by unfold tx;rw [List.getElem?_eq_getElem hp]
 have hk':l[0].k=3:=by unfold kd at hk;rw [List.getElem?_eq_getElem hp] at hk;exact hk
 obtain ⟨h1,h2,h3⟩:=h.tn _ hm hk';have h4:=h.tz _ hm
 have:=ztf (bL (tx l 0)) (by show (tx l 0).length<=2000000;rw [ht];omega) (by rw [z3l,ht];exact h1) (by rw [z3l,ht];exact h2) (by rw [z3l,ht];exact h3)
 rw [z3l] at this;exact this
def pr2 (c:Cx) (l:Ts):Re Rv:=if isT l 0 zbm then ndR (ev (.assign c (l.drop 1))) fun n l1=>zap zan l1 fun l2=>okR (.nd n) l2
 else if isT l 0 zng then lsR (ev (.list2 zpm c (l.drop 1))) fun ks l1=>okR (.nd (nd 9 ks)) l1
 else if isT l 0 zg3 then lsR (ev (.fields c (l.drop 1))) fun ks l1=>okR (.nd (nd 10 ks)) l1
 else if isT l 0 za5 || isT l 0 zat then ev (.func false c l)
 else zdh
def prW:Nat->Bs × Int
 | 0=>(zks,1)
 | 1=>(zpx,2)
 | 2=>(zpu,3)
 | 3=>(zkt,4)
 | _=>(zpv,8)
def prI (c:Cx) (l:Ts):Nat->Re Rv
 | 0=>pr2 c l
 | j + 1=>if isT l 0 (prW (4 - j)).1 then okR (.nd (nd (prW (4 - j)).2 [])) (l.drop 1) else prI c l j
def wdR:List (List PV):=[[pS (bL zks)],[pS (bL zpx)],[pS (bL zpu)],[pS (bL zkt)],[pS (bL zpv)]]
def nmR:List (List PV):=[[pI 1],[pI 2],[pI 3],[pI 4],[pI 8]]
theorem z62:∀ i:Nat,i < 5->wdR[i]?=some [pS (bL (prW i).1)]/\nmR[i]?=some [pI (prW i).2]
 | 0,_=>⟨rfl,rfl⟩
 | 1,_=>⟨rfl,rfl⟩
 | 2,_=>⟨rfl,rfl⟩
 | 3,_=>⟨rfl,rfl⟩
 | 4,_=>⟨rfl,rfl⟩
 | _ + 5,h=>by omega
set_option maxHeartbeats 4000000 in
theorem zw6 {c:Cx} (ih:∀ s':Sy,s'.meas < (Sy.prim c l).meas->zd0 n toks LR s'):zd0 n toks LR (.prim c l):=by
 intro f hf a h o ho
 cases hf
 rw [zac] at ho;change zdl ev c l=some o at ho;unfold zdl at ho;change AtP n toks LR a l at h;show MP _ (.own 0 0 :: []) [rdr LR a c] (rOf o) (hOf toks LR c o);refine zad zaa (f:=131) Tryz.func131 rfl (by kernel_rfl) (oT (by kernel_rfl)) fun tags htl=>?_
 match tags,htl with
 | [t0],_ =>
  refine Seg.cutKM 3 104 [0,2] 2 (fun x:Int=>[.own 0 0,.own 1 0]) (fun x=>[some (.box [.p (.ro 3 LR),.p (pI x),.p (pB c.fn),.p (pB c.lp),.p (pB c.gn),.p (pB c.as_)] 50 (some t0)),some (.box [.p (pI 0),.p (pS ⟨#[]⟩),.p (pI 0),.p (pI 0),.p (.v (.slice none 0 0))] 27 none)]) (fun x=>AtP n toks LR x l/\prI c l 5=some o) zaa mixed (fun _=>0) (fun _=>[]) (fun _ _=>0) (fun E=>za0 E tyT Tryz.f131.results.toList [t0] (rOf o) (hOf toks LR c o)) (by kernel_rfl) (fun P G E hc hM hE=>?_) ?_
  case' refine_1 =>
   have fO:=zje hE;have sb1:=fO.s1;have sb2:=fO.s2;have sb3:=fO.s3;have ap2:=fO.a2;have ap3:=fO.a3;have an2:=fO.n2;have an3:=fO.n3;have rm:=fun k m b h1 h2=>fO.room k m b h1 h2
   have pr:=fun k rs h=>fO.pre k rs h
   cbv;refine xE (ziq h 0 (by decide) c) fun Kk1 k1=>xE k1 fun Tk1 k1=>xE k1 fun zk1 k1=>?_
   refine .z [0] (hM _ _ _ _ _ (k1.2.2)) rfl rfl rfl ?_;cbv;refine oE (zm2 (ho)) (fun k2=>?_) (fun k2=>?_)
   case' refine_1 =>
    have ek2:decide (Kk1=1)=true:=by rw [<-k1.1];exact dT k2.1
    cbv;simp only [ek2];cbv;refine xE (AtP.next h (zaw (k2.1) (by decide))) fun bk3 k3=>?_
    have dk3:(List.drop 1 l).length < (l).length:=by have:=zaw (k2.1) (by decide);rw [lLD];omega
    have ak3:=zcg hE k3.2.2.1 k3.2.2.2 k3.2.1;cbv;simp only [ak3];cbv;have e0:=okE (k2.2);subst e0;simp only [k3.1.place,nd,ndN,ndO,za8,zao,zae,lCA,lNA,k1.2.1];cbv;all_goals trivial
   have ek2:decide (Kk1=1)=false:=by rw [<-k1.1];exact dF k2.1
   cbv;simp only [ek2];cbv;refine oE (zm2 (k2.2)) (fun k4=>?_) (fun k4=>?_)
   case' refine_1 =>
    have ek4:decide (Kk1=4)=true:=by rw [<-k1.1];exact dT k4.1
    cbv;simp only [ek4];cbv;refine xE (AtP.next h (zaw (k4.1) (by decide))) fun bk5 k5=>?_
    have dk5:(List.drop 1 l).length < (l).length:=by have:=zaw (k4.1) (by decide);rw [lLD];omega
    have ak5:=zcg hE k5.2.2.1 k5.2.2.2 k5.2.1;cbv;simp only [ak5];cbv;have e0:=okE (k4.2);subst e0;simp only [k5.1.place,nd,ndN,ndO,za8,zao,zae,lCA,lNA,k1.2.1];cbv;all_goals trivial
   have ek4:decide (Kk1=4)=false:=by rw [<-k1.1];exact dF k4.1
   cbv;simp only [ek4];cbv;refine oE (zm2 (k4.2)) (fun k6=>?_) (fun k6=>?_)
   case' refine_1 =>
    have ek6:decide (Kk1=3)=true:=by rw [<-k1.1];exact dT k6.1
    cbv
    repeat (simp only [ek6];cbv)
    have hpi:=AtP.num h (k6.1);rw [k1.2.1] at hpi;refine xE (⟨_,rfl⟩:∃ V:Int,((zj2 (tx l 0):Nat):Int)=V) fun V hV=>?_
    rw [hV] at hpi;refine xE (AtP.next h (zaw (k6.1) (by decide))) fun bk7 k7=>?_
    have dk7:(List.drop 1 l).length < (l).length:=by have:=zaw (k6.1) (by decide);rw [lLD];omega
    have ak7:=zcg hE k7.2.2.1 k7.2.2.2 k7.2.1;cbv;simp only [ak7];cbv;refine ⟨_,hc _ _ _ hpi,?_⟩;cbv;have e0:=okE (k6.2);subst e0;simp only [k7.1.place,nd,ndN,ndO,za8,zao,zae,lCA,lNA,hV,k1.2.1];cbv;all_goals trivial
   have ek6:decide (Kk1=3)=false:=by rw [<-k1.1];exact dF k6.1
   cbv;simp only [ek6];cbv;exact .mk (a) ⟨rfl,rfl,rfl,rfl,rfl⟩ (⟨h,k6.2⟩)
  rintro a0 ⟨h0,ho0⟩
  obtain ⟨μ,hμ⟩:∃ μ:Int × Nat->Nat,∀ x,μ x=5 - x.2:=⟨_,fun _=>rfl⟩
  refine Seg.cutKM 2 104 [0,2] 2 (fun x:Int=>[.own 0 0,.own 1 0]) (fun x=>[some (.box [.p (.ro 3 LR),.p (pI x),.p (pB c.fn),.p (pB c.lp),.p (pB c.gn),.p (pB c.as_)] 50 (some t0)),some (.box [.p (pI 0),.p (pS ⟨#[]⟩),.p (pI 0),.p (pI 0),.p (.v (.slice none 0 0))] 27 none)]) (fun x=>AtP n toks LR x l/\pr2 c l=some o) zaa mixed (fun _=>0) (fun _=>[]) (fun _ _=>0) (fun E=>za0 E tyT Tryz.f131.results.toList [t0] (rOf o) (hOf toks LR c o)) (by kernel_rfl) (fun P G E hc hM hE=>?_) ?_
  case' refine_1 =>
   have fO:=zje hE;have sb1:=fO.s1;have sb2:=fO.s2;have sb3:=fO.s3;have ap2:=fO.a2;have ap3:=fO.a3;have an2:=fO.n2;have an3:=fO.n3;have rm:=fun k m b h1 h2=>fO.room k m b h1 h2
   have pr:=fun k rs h=>fO.pre k rs h
   cbv;have hrow:=z62;have o5:E.ofN 5=5:=by rw [hE];rfl
   simp only [o5];refine zbs 104 [0,2,6,56,57,58] 4 (fun x:Int × Nat=>[.own 0 0,.own 1 0,.osl 2 0 5,.osl 3 0 5,.p (pI 5),.p (pI x.1)]) (fun x=>[some (.box [.p (.ro 3 LR),.p (pI a0),.p (pB c.fn),.p (pB c.lp),.p (pB c.gn),.p (pB c.as_)] 50 (some t0)),some (.box [.p (pI 0),.p (pS ⟨#[]⟩),.p (pI 0),.p (pI 0),.p (.v (.slice none 0 0))] 27 none),some (.rows 1 wdR 9),some (.rows 1 nmR 3)])
    (fun x=>((x.2:Nat):Int)=x.1/\x.2<=5/\prI c l (5 - x.2)=some o) μ (0,0) ⟨rfl,rfl,rfl,rfl,rfl⟩ ⟨rfl,Nat.zero_le _,ho0⟩ ?_
   rintro ⟨i,j⟩ ⟨g1,g2,g3⟩
   simp only at g1 g2 g3
   rcases Nat.lt_or_ge j 5 with hlt|hge
   ·have d1:E.lti i 5=true:=by rw [hE];exact dT (by omega)
    have hr:=hrow j hlt;obtain ⟨w,v,hwv⟩:∃ w v,prW j=(w,v):=⟨_,_,rfl⟩
    rw [hwv] at hr;rw [show 5 - j=(4 - j) + 1 by omega,prI,show 4 - (4 - j)=j by omega,hwv] at g3
    simp only at g3;have p0:E.ple 0 i:=by rw [hE];show 0<=i;omega
    have p5:E.plt i 5:=by rw [hE];show i < 5;omega
    obtain ⟨J,hJ⟩:∃ J,E.addN 0 (E.nat i)=J:=⟨_,rfl⟩
    have hJj:J=j:=by rw [<-hJ,hE];show 0 + i.toNat=j;omega
    have r1:wdR[J]?=some [pS (bL w)]:=by rw [hJj];exact hr.1
    have r2:nmR[J]?=some [pI v]:=by rw [hJj];exact hr.2
    obtain ⟨i2,hi2⟩:∃ i2,i + 1=i2:=⟨_,rfl⟩
    have ea:E.wadd .i64 i 1=i2:=by rw [hE,<- hi2];exact zaf (by omega) (by omega)
    have g4:((j + 1:Nat):Int)=i2:=by omega
    clear hJj hr hrow;refine oE (zcm h0 w c g3) (fun k2=>xE k2 fun bk2 k2=>?_) (fun k2=>?_)
    case' refine_1 =>
     cbv
     repeat (first|(simp only [d1];cbv)|(simp only [o5];cbv)|(refine ⟨p0,?_⟩;cbv)|(refine ⟨p5,?_⟩;cbv)|(simp only [hJ];cbv)|(refine ⟨_,r2,?_⟩;cbv)|(refine ⟨_,r1,?_⟩;cbv))
     refine .z [0] (hM _ _ _ _ _ (k2.2.2.2.2)) rfl rfl rfl ?_;cbv;have e0:=okE k2.2.1;subst e0;simp only [k2.1.place,nd,za8,zao];cbv;all_goals trivial
    cbv
    repeat (first|(simp only [d1];cbv)|(simp only [o5];cbv)|(refine ⟨p0,?_⟩;cbv)|(refine ⟨p5,?_⟩;cbv)|(simp only [hJ];cbv)|(refine ⟨_,r2,?_⟩;cbv)|(refine ⟨_,r1,?_⟩;cbv))
    refine .z [0] (hM _ _ _ _ _ (k2.2.2)) rfl rfl rfl ?_;cbv;simp only [ea];cbv;exact .mk (i2,j + 1) ⟨rfl,rfl,rfl,rfl,rfl⟩ ⟨g4,hlt,by show prI c l (5 - (j + 1))=some o;rw [show 5 - (j + 1)=4 - j by omega];exact k2.1⟩ (by rw [hμ,hμ];show 5 - (j + 1) < 5 - j;omega)
   ·have d1:E.lti i 5=false:=by rw [hE];exact dF (by omega)
    rw [show 5 - j=0 by omega,prI] at g3
    cbv;simp only [d1];cbv;exact .mk a0 ⟨rfl,rfl,rfl,rfl,rfl⟩ ⟨h0,g3⟩
  rintro a1 ⟨h1,ho1⟩
  unfold pr2 at ho1;refine Seg.ofM zaa mixed (fun _=>0) (fun _=>[]) (fun _ _=>0) (by kernel_rfl) (fun E=>za0 E tyT Tryz.f131.results.toList [t0] (rOf o) (hOf toks LR c o)) fun P G E hc hM hE=>?_
  have fO:=zje hE;have sb1:=fO.s1;have sb2:=fO.s2;have sb3:=fO.s3;have ap2:=fO.a2;have ap3:=fO.a3;have an2:=fO.n2;have an3:=fO.n3;have rm:=fun k m b h1 h2=>fO.room k m b h1 h2
  have pr:=fun k rs h=>fO.pre k rs h
  cbv;refine oE (zcm h1 zbm c ho1) (fun k8=>xE k8 fun bk8 k8=>?_) (fun k8=>?_)
  case' refine_1 =>
   refine .z [0] (hM _ _ _ _ _ (k8.2.2.2.2)) rfl rfl rfl ?_;cbv;refine oE (ndS (L:=(l.drop 1)) (c:=c) (ih (.assign c (l.drop 1)) (by simp only [Sy.meas,Sy.l,Sy.rank];omega)) rfl rfl rfl rfl rfl rfl k8.1 k8.2.1) (fun k9=>xE k9 fun xk9 k9=>xE k9 fun lk9 k9=>xE k9 fun bk9 k9=>xE k9 fun q1k9 k9=>xE k9 fun q2k9 k9=>xE k9 fun q3k9 k9=>xE k9 fun q4k9 k9=>xE k9 fun q5k9 k9=>?_) (fun k9=>?_)
   case' refine_2 =>
    refine .z [0] (hM _ _ _ _ _ (k9.2)) rfl rfl rfl ?_;cbv;have e0:=k9.1;subst e0;cbv;all_goals trivial
   refine .z [0] (hM _ _ _ _ _ (k9.2.2.2.2)) rfl rfl rfl ?_;cbv;have ok9:=k9.2.2.2.1.one;cbv at ok9;cbv;simp only [ok9];cbv;refine oE (zc1 k9.1 zan c k9.2.1) (fun k10=>xE k10 fun bk10 k10=>?_) (fun k10=>?_)
   case' refine_2 =>
    refine .z [0] (hM _ _ _ _ _ (k10.2)) rfl rfl rfl ?_;cbv;have e0:=k10.1;subst e0;cbv;all_goals trivial
   refine .z [0] (hM _ _ _ _ _ (k10.2.2.2.2)) rfl rfl rfl ?_;cbv;simp only [ok9];cbv;have e0:=okE (k10.2.1);subst e0;simp only [k10.1.place,nd,ndN,ndO,za8,zao,zae,lCA,lNA,k9.2.2.2.1.row];cbv;all_goals trivial
  refine .z [0] (hM _ _ _ _ _ (k8.2.2)) rfl rfl rfl ?_;cbv;refine oE (zcm h1 zng c k8.1) (fun k11=>xE k11 fun bk11 k11=>?_) (fun k11=>?_)
  case' refine_1 =>
   refine .z [0] (hM _ _ _ _ _ (k11.2.2.2.2)) rfl rfl rfl ?_;cbv;refine oE (lsS (L:=(l.drop 1)) (c:=c) (ih (.list2 zpm c (l.drop 1)) (by simp only [Sy.meas,Sy.l,Sy.rank];omega)) rfl rfl rfl rfl rfl rfl k11.1 k11.2.1) (fun k12=>xE k12 fun ksk12 k12=>xE k12 fun lk12 k12=>xE k12 fun bk12 k12=>?_) (fun k12=>?_)
   case' refine_2 =>
    refine .z [0] (hM _ _ _ _ _ (k12.2)) rfl rfl rfl ?_;cbv;have e0:=k12.1;subst e0;cbv;all_goals trivial
   refine oE (zoo ksk12) (fun hks=>?_) (fun hks=>xE (⟨_,rfl⟩:∃ R,zae ksk12=R) fun R hR=>?_)
   case' refine_1 =>
    have hn:zao ksk12=.v (.slice none 0 0):=by rw [hks,zao]
    have hck12:=k12.2.2.2;rw [hn] at hck12;refine .z [0] (hM _ _ _ _ _ (hck12)) rfl rfl rfl ?_;cbv;have e0:=okE (k12.2.1);subst e0;simp only [k12.1.place,nd,ndN,ndO,za8,lCA,lNA,hn];cbv;all_goals trivial
   have hn:=zhr hks hR;have hck12:=k12.2.2.2;rw [hn] at hck12;refine .z [0] (hM _ _ _ _ _ (hck12)) rfl rfl rfl ?_;cbv;have e0:=okE (k12.2.1);subst e0;simp only [k12.1.place,nd,ndN,ndO,za8,lCA,lNA,hn];cbv;all_goals trivial
  refine .z [0] (hM _ _ _ _ _ (k11.2.2)) rfl rfl rfl ?_;cbv;refine oE (zcm h1 zg3 c k11.1) (fun k13=>xE k13 fun bk13 k13=>?_) (fun k13=>?_)
  case' refine_1 =>
   refine .z [0] (hM _ _ _ _ _ (k13.2.2.2.2)) rfl rfl rfl ?_;cbv;refine oE (lsS (L:=(l.drop 1)) (c:=c) (ih (.fields c (l.drop 1)) (by simp only [Sy.meas,Sy.l,Sy.rank];omega)) rfl rfl rfl rfl rfl rfl k13.1 k13.2.1) (fun k14=>xE k14 fun ksk14 k14=>xE k14 fun lk14 k14=>xE k14 fun bk14 k14=>?_) (fun k14=>?_)
   case' refine_2 =>
    refine .z [0] (hM _ _ _ _ _ (k14.2)) rfl rfl rfl ?_;cbv;have e0:=k14.1;subst e0;cbv;all_goals trivial
   refine oE (zoo ksk14) (fun hks=>?_) (fun hks=>xE (⟨_,rfl⟩:∃ R,zae ksk14=R) fun R hR=>?_)
   case' refine_1 =>
    have hn:zao ksk14=.v (.slice none 0 0):=by rw [hks,zao]
    have hck14:=k14.2.2.2;rw [hn] at hck14;refine .z [0] (hM _ _ _ _ _ (hck14)) rfl rfl rfl ?_;cbv;have e0:=okE (k14.2.1);subst e0;simp only [k14.1.place,nd,ndN,ndO,za8,lCA,lNA,hn];cbv;all_goals trivial
   have hn:=zhr hks hR;have hck14:=k14.2.2.2;rw [hn] at hck14;refine .z [0] (hM _ _ _ _ _ (hck14)) rfl rfl rfl ?_;cbv;have e0:=okE (k14.2.1);subst e0;simp only [k14.1.place,nd,ndN,ndO,za8,lCA,lNA,hn];cbv;all_goals trivial
  refine .z [0] (hM _ _ _ _ _ (k13.2.2)) rfl rfl rfl ?_;cbv;refine oE (isOr h1 za5 zat c k13.1) (fun k15=>?_) (fun k15=>oE k15 (fun k15=>?_) (fun k15=>?_))
  case' refine_1 =>
   refine .z [0] (hM _ _ _ _ _ (k15.2.2)) rfl rfl rfl ?_;cbv;refine oE (zlw (L:=l) (c:=c) (ih (.func false c l) (by simp only [Sy.meas,Sy.l,Sy.rank];omega)) rfl rfl rfl rfl rfl h1 k15.1) (fun k16=>xE k16 fun xk16 k16=>xE k16 fun lk16 k16=>xE k16 fun bk16 k16=>xE k16 fun q1k16 k16=>xE k16 fun q2k16 k16=>xE k16 fun q3k16 k16=>xE k16 fun q4k16 k16=>xE k16 fun q5k16 k16=>?_) (fun k16=>?_)
   case' refine_2 =>
    refine .z [0] (hM _ _ _ _ _ (k16.2)) rfl rfl rfl ?_;cbv;have e0:=k16.1;subst e0;cbv;all_goals trivial
   refine .z [0] (hM _ _ _ _ _ (k16.2.2.2)) rfl rfl rfl ?_;cbv;have ok16:=k16.2.2.1.one;cbv at ok16;cbv;simp only [ok16];cbv;have e0:=k16.2.1;subst e0;simp only [k16.1.place,k16.2.2.1.row];cbv;all_goals trivial
  case' refine_2 =>
   refine .z [0] (hM _ _ _ _ _ (k15.2.2.2.1)) rfl rfl rfl ?_;cbv;refine .z [0] (hM _ _ _ _ _ (k15.2.2.2.2)) rfl rfl rfl ?_;cbv;refine oE (zlw (L:=l) (c:=c) (ih (.func false c l) (by simp only [Sy.meas,Sy.l,Sy.rank];omega)) rfl rfl rfl rfl rfl h1 k15.1) (fun k17=>xE k17 fun xk17 k17=>xE k17 fun lk17 k17=>xE k17 fun bk17 k17=>xE k17 fun q1k17 k17=>xE k17 fun q2k17 k17=>xE k17 fun q3k17 k17=>xE k17 fun q4k17 k17=>xE k17 fun q5k17 k17=>?_) (fun k17=>?_)
   case' refine_2 =>
    refine .z [0] (hM _ _ _ _ _ (k17.2)) rfl rfl rfl ?_;cbv;have e0:=k17.1;subst e0;cbv;all_goals trivial
   refine .z [0] (hM _ _ _ _ _ (k17.2.2.2)) rfl rfl rfl ?_;cbv;have ok17:=k17.2.2.1.one;cbv at ok17;cbv;simp only [ok17];cbv;have e0:=k17.2.1;subst e0;simp only [k17.1.place,k17.2.2.1.row];cbv;all_goals trivial
  refine .z [0] (hM _ _ _ _ _ (k15.2.2.2.1)) rfl rfl rfl ?_;cbv;refine .z [0] (hM _ _ _ _ _ (k15.2.2.2.2)) rfl rfl rfl ?_;cbv;refine .z [0] (hM _ _ _ _ _ (upM (zch LR a1 c))) rfl rfl rfl ?_;cbv;have e0:=zey (k15.1);subst e0;cbv;all_goals trivial
end
end Go.Proofs.YtcfecmeocimclaaGreatDoor
