/- Own work: the walk of assign. -/
import Derived.Test.YtcfecmeocimclaaGreatDoorYAA0
import Derived.Test.YtcfecmeocimclaaGreatDoorYAPWC
namespace Go.Proofs.YtcfecmeocimclaaGreatDoor
set_option linter.unusedSimpArgs false
set_option linter.unusedSectionVars false
set_option maxRecDepth 100000
open Go.RowKit
section
variable {n:Int} {toks:List Tk} {LR:List (List PV)} {l:Ts}
set_option maxHeartbeats 4000000 in
theorem zsj {c:Cx} (ih:∀ s':Sy,s'.meas < (Sy.assign c l).meas->zd0 n toks LR s'):zd0 n toks LR (.assign c l):=by
 intro f hf a h o ho
 cases hf
 rw [zac] at ho;change zb7 ev c l=some o at ho;unfold zb7 at ho;change AtP n toks LR a l at h;show MP _ (.own 0 0 :: []) [rdr LR a c] (rOf o) (hOf toks LR c o);refine zad zaa (f:=22) Tryz.func22 rfl (by kernel_rfl) (oT (by kernel_rfl)) fun tags htl=>?_
 match tags,htl with
 | [t0],_ =>
  refine Seg.ofM zaa mixed (fun n=>match n with|18=>5|_=>0) (fun n=>match n with|18=>[3]|_=>[]) (fun n i=>match n,i with|18,3=>1|18,4=>1|_,_=>0) (by kernel_rfl) (fun E=>za0 E tyT Tryz.f22.results.toList [t0] (rOf o) (hOf toks LR c o)) fun P G E hc hM hE=>?_
  have fO:=zje hE;have sb1:=fO.s1;have sb2:=fO.s2;have sb3:=fO.s3;have ap2:=fO.a2;have ap3:=fO.a3;have an2:=fO.n2;have an3:=fO.n3;have rm:=fun k m b h1 h2=>fO.room k m b h1 h2
  have pr:=fun k rs h=>fO.pre k rs h
  cbv;refine oE (arrS h c ho) (fun k1=>xE k1 fun Qk1 k1=>?_) (fun k1=>xE k1 fun Qk1 k1=>?_)
  case' refine_1 =>
   have ek1:E.lti 0 Qk1=true:=by rw [hE];exact dT k1.2.1
   refine .z [0] (hM _ _ _ _ _ (k1.2.2)) rfl rfl rfl ?_;cbv;simp only [ek1];cbv;refine oE (zlw (L:=l) (c:=c) (ih (.arrow c l) (by simp only [Sy.meas,Sy.l,Sy.rank];omega)) rfl rfl rfl rfl rfl h k1.1) (fun k2=>xE k2 fun xk2 k2=>xE k2 fun lk2 k2=>xE k2 fun bk2 k2=>xE k2 fun q1k2 k2=>xE k2 fun q2k2 k2=>xE k2 fun q3k2 k2=>xE k2 fun q4k2 k2=>xE k2 fun q5k2 k2=>?_) (fun k2=>?_)
   case' refine_2 =>
    refine .z [0] (hM _ _ _ _ _ (k2.2)) rfl rfl rfl ?_;cbv;have e0:=k2.1;subst e0;cbv;all_goals trivial
   refine .z [0] (hM _ _ _ _ _ (k2.2.2.2)) rfl rfl rfl ?_;cbv;have ok2:=k2.2.2.1.one;cbv at ok2;cbv;simp only [ok2];cbv;have e0:=k2.2.1;subst e0;simp only [k2.1.place,k2.2.2.1.row];cbv;all_goals trivial
  have ek1:E.lti 0 Qk1=false:=by rw [hE];exact dF k1.2.1
  refine .z [0] (hM _ _ _ _ _ (k1.2.2)) rfl rfl rfl ?_;cbv;simp only [ek1];cbv;refine oE (isS h 0 (by decide) zne c k1.1) (fun k3=>?_) (fun k3=>?_)
  case' refine_1 =>
   refine .z [0] (hM _ _ _ _ _ (k3.2.2.2)) rfl rfl rfl ?_;cbv;refine oE (zkn (k3.1)) (fun k4=>?_) (fun k4=>?_)
   case' refine_1 =>
    have ek4:=k4.2;cbv;simp only [ek4];cbv;refine xE (AtP.next h (zag k3.2.1)) fun bk5 k5=>?_
    have dk5:(List.drop 1 l).length < (l).length:=by have:=zag k3.2.1;rw [lLD];omega
    have ak5:=zcg hE k5.2.2.1 k5.2.2.2 k5.2.1;cbv;simp only [ak5];cbv;refine oE (ndS (L:=(l.drop 1)) (c:=c) (ih (.assign c (l.drop 1)) (by simp only [Sy.meas,Sy.l,Sy.rank];omega)) rfl rfl rfl rfl rfl rfl k5.1 k4.1) (fun k6=>xE k6 fun xk6 k6=>xE k6 fun lk6 k6=>xE k6 fun bk6 k6=>xE k6 fun q1k6 k6=>xE k6 fun q2k6 k6=>xE k6 fun q3k6 k6=>xE k6 fun q4k6 k6=>xE k6 fun q5k6 k6=>?_) (fun k6=>?_)
    case' refine_2 =>
     have kk7:=k6.2;simp only [rdr,ek4] at kk7;refine .z [0] (hM _ _ _ _ _ (kk7)) rfl rfl rfl ?_;cbv;have e0:=k6.1;subst e0;cbv;all_goals trivial
    have kk8:=k6.2.2.2.2;simp only [rdr,ek4] at kk8;refine .z [0] (hM _ _ _ _ _ (kk8)) rfl rfl rfl ?_;cbv;have ok6:=k6.2.2.2.1.one;cbv at ok6;cbv
    repeat (first|(simp only [ek4];cbv)|(simp only [ok6];cbv))
    have e0:=okE (k6.2.1);subst e0;simp only [k6.1.place,nd,ndN,ndO,za8,zao,zae,lCA,lNA,k6.2.2.2.1.row];cbv
    repeat (first|(refine ⟨(pr _ _ rfl),?_⟩;cbv)|(simp only [sb1,sb2,sb3];cbv))
    all_goals trivial
   have ek4:=k4.2;cbv;simp only [ek4];cbv;have kk9:=upM (zch LR a c);simp only [rdr,ek4] at kk9;refine .z [0] (hM _ _ _ _ _ (kk9)) rfl rfl rfl ?_;cbv;have e0:=zey (k4.1);subst e0;cbv;all_goals trivial
  refine .z [0] (hM _ _ _ _ _ (k3.2.2)) rfl rfl rfl ?_;cbv;refine oE (ndS (L:=l) (c:=c) (ih (.cond c l) (by simp only [Sy.meas,Sy.l,Sy.rank];omega)) rfl rfl rfl rfl rfl rfl h k3.1) (fun k10=>xE k10 fun xk10 k10=>xE k10 fun lk10 k10=>xE k10 fun bk10 k10=>xE k10 fun q1k10 k10=>xE k10 fun q2k10 k10=>xE k10 fun q3k10 k10=>xE k10 fun q4k10 k10=>xE k10 fun q5k10 k10=>?_) (fun k10=>?_)
  case' refine_2 =>
   refine .z [0] (hM _ _ _ _ _ (k10.2)) rfl rfl rfl ?_;cbv;have e0:=k10.1;subst e0;cbv;all_goals trivial
  refine .z [0] (hM _ _ _ _ _ (k10.2.2.2.2)) rfl rfl rfl ?_;cbv;have ok10:=k10.2.2.2.1.one;cbv at ok10;cbv;simp only [ok10];cbv;refine xE (ziq k10.1 0 (by decide) c) fun Kk11 k11=>xE k11 fun Tk11 k11=>xE k11 fun zk11 k11=>?_
  refine .z [0] (hM _ _ _ _ _ (k11.2.2)) rfl rfl rfl ?_;cbv;refine oE (zm2 (k10.2.1)) (fun k12=>?_) (fun k12=>?_)
  case' refine_1 =>
   have ek12:decide (Kk11=5)=true:=by rw [<-k11.1];exact dT k12.1
   cbv
   repeat (simp only [ek12];cbv)
   refine xE (zqm _ k11.2.1 24 4 (by decide) (by decide) 24 27 rfl (by decide)) fun Fk13 k13=>?_
   refine ⟨_,hc _ _ _ k13.2,?_⟩;cbv;refine oE (zm2 (k12.2)) (fun k14=>?_) (fun k14=>?_)
   case' refine_1 =>
    have ek14:decide (Fk13=0)=true:=by rw [<-k13.1];exact dT k14.1
    cbv
    repeat (first|(simp only [ek14];cbv)|(simp only [ok10];cbv))
    have e0:=okE (k14.2);subst e0;simp only [k10.1.place,nd,ndN,ndO,za8,zao,zae,lCA,lNA,k10.2.2.2.1.row,k13.1,k11.2.1];cbv;all_goals trivial
   have ek14:decide (Fk13=0)=false:=by rw [<-k13.1];exact dF k14.1
   cbv
   repeat (simp only [ek14];cbv)
   refine oE (zkn (k14.2)) (fun k15=>?_) (fun k15=>?_)
   case' refine_1 =>
    have tk15:=upL (zdd xk10 k10.2.2.2.1);rw [k15.2] at tk15;refine ⟨_,hc _ _ _ tk15,?_⟩;cbv;refine xE (AtP.next k10.1 (zaw (k12.1) (by decide))) fun bk16 k16=>?_
    have dk16:(List.drop 1 lk10).length < (lk10).length:=by have:=zaw (k12.1) (by decide);rw [lLD];omega
    have ak16:=zcg hE k16.2.2.1 k16.2.2.2 k16.2.1;cbv;simp only [ak16];cbv;refine oE (ndS (L:=(lk10.drop 1)) (c:=c) (ih (.assign c (lk10.drop 1)) (by simp only [Sy.meas,Sy.l,Sy.rank];omega)) rfl rfl rfl rfl rfl rfl k16.1 k15.1) (fun k17=>xE k17 fun xk17 k17=>xE k17 fun lk17 k17=>xE k17 fun bk17 k17=>xE k17 fun q1k17 k17=>xE k17 fun q2k17 k17=>xE k17 fun q3k17 k17=>xE k17 fun q4k17 k17=>xE k17 fun q5k17 k17=>?_) (fun k17=>?_)
    case' refine_2 =>
     refine Or.inr ?_;refine .mk [0] _ _ _ _ (hM _ _ _ _ _ (k17.2)) rfl rfl rfl _ rfl ?_;cbv;have e0:=k17.1;subst e0;cbv;all_goals trivial
    refine Or.inl ?_;refine ⟨.mk trivial,?_⟩;refine .mk [0] _ _ _ _ (hM _ _ _ _ _ (k17.2.2.2.2)) rfl rfl rfl rfl ?_;cbv;have ok17:=k17.2.2.2.1.one;cbv at ok17;cbv
    repeat (first|(simp only [ok10];cbv)|(simp only [ok17];cbv))
    refine ⟨.mk (by repeat' (first|exact trivial|refine ⟨rfl,?_⟩)),?_⟩
    cbv;have e0:=okE (k17.2.1);subst e0;simp only [k17.1.place,nd,ndN,ndO,za8,zao,zae,lCA,lNA,k10.2.2.2.1.row,k17.2.2.2.1.row,k13.1,k11.2.1];cbv;all_goals trivial
   have tk15:=upL (zdd xk10 k10.2.2.2.1);rw [k15.2] at tk15;refine ⟨_,hc _ _ _ tk15,?_⟩;cbv;refine .z [0] (hM _ _ _ _ _ (upM (zch LR bk10 c))) rfl rfl rfl ?_;cbv;have e0:=zey (k15.1);subst e0;cbv;all_goals trivial
  have ek12:decide (Kk11=5)=false:=by rw [<-k11.1];exact dF k12.1
  cbv
  repeat (first|(simp only [ek12];cbv)|(simp only [ok10];cbv))
  have e0:=okE (k12.2);subst e0;simp only [k10.1.place,nd,ndN,ndO,za8,zao,zae,lCA,lNA,k10.2.2.2.1.row,k11.2.1];cbv;all_goals trivial
end
end Go.Proofs.YtcfecmeocimclaaGreatDoor
