/- Own work: the walk of try. -/
import Derived.Test.YtcfecmeocimclaaGreatDoorYAA0
import Derived.Test.YtcfecmeocimclaaGreatDoorYAPWC
namespace Go.Proofs.YtcfecmeocimclaaGreatDoor
set_option linter.unusedSimpArgs false
set_option linter.unusedSectionVars false
set_option maxRecDepth 100000
open Go.RowKit
section
variable {n:Int} {toks:List Tk} {LR:List (List PV)} {l:Ts}
set_option maxHeartbeats 4000000 in
theorem zwo {c:Cx} (ih:∀ s':Sy,s'.meas < (Sy.tryS c l).meas->zd0 n toks LR s'):zd0 n toks LR (.tryS c l):=by
 intro f hf a h o ho
 cases hf
 rw [zac] at ho;change zpo ev c l=some o at ho;unfold zpo at ho;change AtP n toks LR a l at h;show MP _ (.own 0 0 :: []) [rdr LR a c] (rOf o) (hOf toks LR c o);refine zad zaa (f:=69) Tryz.func69 rfl (by kernel_rfl) (oT (by kernel_rfl)) fun tags htl=>?_
 match tags,htl with
 | [t0],_ =>
  refine Seg.ofM zaa mixed (fun n=>match n with|10=>5|_=>0) (fun n=>match n with|10=>[3]|8=>[0]|_=>[]) (fun n i=>match n,i with|10,3=>1|10,4=>1|_,_=>0) (by kernel_rfl) (fun E=>za0 E tyT Tryz.f69.results.toList [t0] (rOf o) (hOf toks LR c o)) fun P G E hc hM hE=>?_
  have fO:=zje hE;have sb1:=fO.s1;have sb2:=fO.s2;have sb3:=fO.s3;have ap2:=fO.a2;have ap3:=fO.a3;have an2:=fO.n2;have an3:=fO.n3;have rm:=fun k m b h1 h2=>fO.room k m b h1 h2
  have pr:=fun k rs h=>fO.pre k rs h
  have on1:E.ofN 1=1:=by rw [hE];rfl
  have on2:E.ofN 2=2:=by rw [hE];rfl
  have on3:E.ofN 3=3:=by rw [hE];rfl
  cbv;refine oE (ndS (L:=l) (c:=c) (ih (.block c l) (by simp only [Sy.meas,Sy.l,Sy.rank];omega)) rfl rfl rfl rfl rfl rfl h ho) (fun k1=>xE k1 fun xk1 k1=>xE k1 fun lk1 k1=>xE k1 fun bk1 k1=>xE k1 fun q1k1 k1=>xE k1 fun q2k1 k1=>xE k1 fun q3k1 k1=>xE k1 fun q4k1 k1=>xE k1 fun q5k1 k1=>?_) (fun k1=>?_)
  case' refine_2 =>
   refine .z [0] (hM _ _ _ _ _ (k1.2)) rfl rfl rfl ?_;cbv;have e0:=k1.1;subst e0;cbv;all_goals trivial
  refine .z [0] (hM _ _ _ _ _ (k1.2.2.2.2)) rfl rfl rfl ?_;cbv;have ok1:=k1.2.2.2.1.one;cbv at ok1;cbv;simp only [ok1];cbv;refine oE (zcm k1.1 znh c k1.2.1) (fun k2=>xE k2 fun bk2 k2=>?_) (fun k2=>?_)
  case' refine_1 =>
   refine .z [0] (hM _ _ _ _ _ (k2.2.2.2.2)) rfl rfl rfl ?_;cbv;have hk3:=k2.2.1;rw [<-zox _ 1 0] at hk3;refine oE (zcm k2.1 zbm c hk3) (fun k4=>xE k4 fun bk4 k4=>?_) (fun k4=>?_)
   case' refine_1 =>
    refine .z [0] (hM _ _ _ _ _ (k4.2.2.2.2)) rfl rfl rfl ?_;cbv;have hk5:AtP n toks LR bk4 (List.drop 2 lk1):=by have:=k4.1;rw [lDD] at this;exact this
    have dk5:(List.drop 2 lk1).length < lk1.length:=by have:=Nat.zero_le 0;rw [lLD];omega
    refine oE (zuz hk5 c k4.2.1) (fun k6=>xE k6 fun bk6 k6=>xE k6 fun Tk6 k6=>?_) (fun k6=>?_)
    case' refine_2 =>
     refine .z [0] (hM _ _ _ _ _ (k6.2)) rfl rfl rfl ?_;cbv;have e0:=k6.1;subst e0;cbv;all_goals trivial
    refine .z [0] (hM _ _ _ _ _ (k6.2.2.2.2)) rfl rfl rfl ?_;cbv;refine oE (zc1 k6.1 zan c k6.2.1) (fun k7=>xE k7 fun bk7 k7=>?_) (fun k7=>?_)
    case' refine_2 =>
     refine .z [0] (hM _ _ _ _ _ (k7.2)) rfl rfl rfl ?_;cbv;have e0:=k7.1;subst e0;cbv;all_goals trivial
    refine .z [0] (hM _ _ _ _ _ (k7.2.2.2.2)) rfl rfl rfl ?_;cbv;refine oE (ndS (L:=(((List.drop 2 lk1).drop 1).drop 1)) (c:=c) (ih (.block c (((List.drop 2 lk1).drop 1).drop 1)) (by simp only [Sy.meas,Sy.l,Sy.rank];omega)) rfl rfl rfl rfl rfl rfl k7.1 k7.2.1) (fun k8=>xE k8 fun xk8 k8=>xE k8 fun lk8 k8=>xE k8 fun bk8 k8=>xE k8 fun q1k8 k8=>xE k8 fun q2k8 k8=>xE k8 fun q3k8 k8=>xE k8 fun q4k8 k8=>xE k8 fun q5k8 k8=>?_) (fun k8=>?_)
    case' refine_2 =>
     refine .z [0] (hM _ _ _ _ _ (k8.2)) rfl rfl rfl ?_;cbv;have e0:=k8.1;subst e0;cbv;all_goals trivial
    refine .z [0] (hM _ _ _ _ _ (k8.2.2.2.2)) rfl rfl rfl ?_;cbv;have ok8:=k8.2.2.2.1.one;cbv at ok8;cbv
    repeat (first|(simp only [ok1];cbv)|(simp only [ok8];cbv))
    refine .mk _ _ (zin (k:=4) (j:=4) (l:=5) (n:=1) rfl rfl rfl (nR _) rfl) ?_;cbv
    repeat (first|(refine ⟨(pr _ _ rfl),?_⟩;cbv)|(simp only [sb1,sb2,sb3];cbv)|(refine ⟨(rm _ _ _ (by decide) (by decide)),?_⟩;cbv)|(simp only [ap2,an2];cbv))
    have hk9:=k8.2.1;unfold zcz at hk9;refine oE (zcm k8.1 zfj c hk9) (fun k10=>xE k10 fun bk10 k10=>?_) (fun k10=>?_)
    case' refine_1 =>
     refine .z [0] (hM _ _ _ _ _ (k10.2.2.2.2)) rfl rfl rfl ?_;cbv;refine oE (ndS (L:=(lk8.drop 1)) (c:=c) (ih (.block c (lk8.drop 1)) (by simp only [Sy.meas,Sy.l,Sy.rank];omega)) rfl rfl rfl rfl rfl rfl k10.1 k10.2.1) (fun k11=>xE k11 fun xk11 k11=>xE k11 fun lk11 k11=>xE k11 fun bk11 k11=>xE k11 fun q1k11 k11=>xE k11 fun q2k11 k11=>xE k11 fun q3k11 k11=>xE k11 fun q4k11 k11=>xE k11 fun q5k11 k11=>?_) (fun k11=>?_)
     case' refine_2 =>
      refine Or.inr ?_;refine .mk [0] _ _ _ _ (hM _ _ _ _ _ (k11.2)) rfl rfl rfl _ rfl ?_;cbv;have e0:=k11.1;subst e0;cbv;all_goals trivial
     refine Or.inl ?_;refine ⟨.mk trivial,?_⟩;refine .mk [0] _ _ _ _ (hM _ _ _ _ _ (k11.2.2.2.2)) rfl rfl rfl rfl ?_;cbv;have ok11:=k11.2.2.2.1.one;cbv at ok11;cbv
     repeat (first|(simp only [ok1];cbv)|(simp only [ok11];cbv)|(simp only [ap3,an3];cbv)|(simp only [on1,on2,on3];cbv))
     refine ⟨.mk (by repeat' (first|exact trivial|refine ⟨rfl,?_⟩)),?_⟩
     cbv
     repeat (first|(refine ⟨(pr _ _ rfl),?_⟩;cbv)|(refine ⟨(rm _ _ _ (by decide) (by decide)),?_⟩;cbv))
     have e0:=okE (k11.2.1);subst e0;simp only [k11.1.place,nd,ndN,ndO,za8,zao,zae,lCA,lNA,k1.2.2.2.1.row,k6.2.2.2.1,k8.2.2.2.1.row,k11.2.2.2.1.row];cbv
     repeat (first|(refine ⟨(pr _ _ rfl),?_⟩;cbv)|(simp only [sb1,sb2,sb3];cbv))
     all_goals trivial
    refine .z [0] (hM _ _ _ _ _ (k10.2.2)) rfl rfl rfl ?_;cbv;simp only [on1,on2,on3];cbv;have hk12:=k10.1;rw [if_neg (by simp)] at hk12
    have e0:=okE (hk12);subst e0;simp only [k8.1.place,nd,ndN,ndO,za8,zao,zae,lCA,lNA,k1.2.2.2.1.row,k6.2.2.2.1,k8.2.2.2.1.row];cbv
    repeat (first|(refine ⟨(pr _ _ rfl),?_⟩;cbv)|(simp only [sb1,sb2,sb3];cbv))
    all_goals trivial
   refine .z [0] (hM _ _ _ _ _ (k4.2.2)) rfl rfl rfl ?_;cbv;refine oE (ndS (L:=(lk1.drop 1)) (c:=c) (ih (.block c (lk1.drop 1)) (by simp only [Sy.meas,Sy.l,Sy.rank];omega)) rfl rfl rfl rfl rfl rfl k2.1 k4.1) (fun k13=>xE k13 fun xk13 k13=>xE k13 fun lk13 k13=>xE k13 fun bk13 k13=>xE k13 fun q1k13 k13=>xE k13 fun q2k13 k13=>xE k13 fun q3k13 k13=>xE k13 fun q4k13 k13=>xE k13 fun q5k13 k13=>?_) (fun k13=>?_)
   case' refine_2 =>
    refine .z [0] (hM _ _ _ _ _ (k13.2)) rfl rfl rfl ?_;cbv;have e0:=k13.1;subst e0;cbv;all_goals trivial
   refine .z [0] (hM _ _ _ _ _ (k13.2.2.2.2)) rfl rfl rfl ?_;cbv;have ok13:=k13.2.2.2.1.one;cbv at ok13;cbv
   repeat (first|(simp only [ok1];cbv)|(simp only [ok13];cbv))
   refine .mk _ _ (zin (k:=4) (j:=4) (l:=5) (n:=1) rfl rfl rfl (nR _) rfl) ?_;cbv
   repeat (first|(refine ⟨(pr _ _ rfl),?_⟩;cbv)|(simp only [sb1,sb2,sb3];cbv)|(refine ⟨(rm _ _ _ (by decide) (by decide)),?_⟩;cbv)|(simp only [ap2,an2];cbv))
   have hk14:=k13.2.1;unfold zcz at hk14;refine oE (zcm k13.1 zfj c hk14) (fun k15=>xE k15 fun bk15 k15=>?_) (fun k15=>?_)
   case' refine_1 =>
    refine .z [0] (hM _ _ _ _ _ (k15.2.2.2.2)) rfl rfl rfl ?_;cbv;refine oE (ndS (L:=(lk13.drop 1)) (c:=c) (ih (.block c (lk13.drop 1)) (by simp only [Sy.meas,Sy.l,Sy.rank];omega)) rfl rfl rfl rfl rfl rfl k15.1 k15.2.1) (fun k16=>xE k16 fun xk16 k16=>xE k16 fun lk16 k16=>xE k16 fun bk16 k16=>xE k16 fun q1k16 k16=>xE k16 fun q2k16 k16=>xE k16 fun q3k16 k16=>xE k16 fun q4k16 k16=>xE k16 fun q5k16 k16=>?_) (fun k16=>?_)
    case' refine_2 =>
     refine Or.inr ?_;refine .mk [0] _ _ _ _ (hM _ _ _ _ _ (k16.2)) rfl rfl rfl _ rfl ?_;cbv;have e0:=k16.1;subst e0;cbv;all_goals trivial
    refine Or.inl ?_;refine ⟨.mk trivial,?_⟩;refine .mk [0] _ _ _ _ (hM _ _ _ _ _ (k16.2.2.2.2)) rfl rfl rfl rfl ?_;cbv;have ok16:=k16.2.2.2.1.one;cbv at ok16;cbv
    repeat (first|(simp only [ok1];cbv)|(simp only [ok16];cbv)|(simp only [ap3,an3];cbv)|(simp only [on1,on2,on3];cbv))
    refine ⟨.mk (by repeat' (first|exact trivial|refine ⟨rfl,?_⟩)),?_⟩
    cbv
    repeat (first|(refine ⟨(pr _ _ rfl),?_⟩;cbv)|(refine ⟨(rm _ _ _ (by decide) (by decide)),?_⟩;cbv))
    have e0:=okE (k16.2.1);subst e0;simp only [k16.1.place,nd,ndN,ndO,za8,zao,zae,lCA,lNA,k1.2.2.2.1.row,k13.2.2.2.1.row,k16.2.2.2.1.row];cbv
    repeat (first|(refine ⟨(pr _ _ rfl),?_⟩;cbv)|(simp only [sb1,sb2,sb3];cbv))
    all_goals trivial
   refine .z [0] (hM _ _ _ _ _ (k15.2.2)) rfl rfl rfl ?_;cbv;simp only [on1,on2,on3];cbv;have hk17:=k15.1;rw [if_neg (by simp)] at hk17
   have e0:=okE (hk17);subst e0;simp only [k13.1.place,nd,ndN,ndO,za8,zao,zae,lCA,lNA,k1.2.2.2.1.row,k13.2.2.2.1.row];cbv
   repeat (first|(refine ⟨(pr _ _ rfl),?_⟩;cbv)|(simp only [sb1,sb2,sb3];cbv))
   all_goals trivial
  refine .z [0] (hM _ _ _ _ _ (k2.2.2)) rfl rfl rfl ?_;cbv;have hk18:=k2.1;unfold zcz at hk18;refine oE (zcm k1.1 zfj c hk18) (fun k19=>xE k19 fun bk19 k19=>?_) (fun k19=>?_)
  case' refine_1 =>
   refine .z [0] (hM _ _ _ _ _ (k19.2.2.2.2)) rfl rfl rfl ?_;cbv;refine oE (ndS (L:=(lk1.drop 1)) (c:=c) (ih (.block c (lk1.drop 1)) (by simp only [Sy.meas,Sy.l,Sy.rank];omega)) rfl rfl rfl rfl rfl rfl k19.1 k19.2.1) (fun k20=>xE k20 fun xk20 k20=>xE k20 fun lk20 k20=>xE k20 fun bk20 k20=>xE k20 fun q1k20 k20=>xE k20 fun q2k20 k20=>xE k20 fun q3k20 k20=>xE k20 fun q4k20 k20=>xE k20 fun q5k20 k20=>?_) (fun k20=>?_)
   case' refine_2 =>
    refine Or.inr ?_;refine .mk [0] _ _ _ _ (hM _ _ _ _ _ (k20.2)) rfl rfl rfl _ rfl ?_;cbv;have e0:=k20.1;subst e0;cbv;all_goals trivial
   refine Or.inl ?_;refine ⟨.mk trivial,?_⟩;refine .mk [0] _ _ _ _ (hM _ _ _ _ _ (k20.2.2.2.2)) rfl rfl rfl rfl ?_;cbv;have ok20:=k20.2.2.2.1.one;cbv at ok20;cbv
   repeat (first|(simp only [ok1];cbv)|(simp only [ok20];cbv)|(simp only [ap2,an2];cbv)|(simp only [on1,on2,on3];cbv))
   refine ⟨.mk (by repeat' (first|exact trivial|refine ⟨rfl,?_⟩)),?_⟩
   cbv
   repeat (first|(refine ⟨(pr _ _ rfl),?_⟩;cbv)|(refine ⟨(rm _ _ _ (by decide) (by decide)),?_⟩;cbv))
   have e0:=okE (k20.2.1);subst e0;simp only [k20.1.place,nd,ndN,ndO,za8,zao,zae,lCA,lNA,k1.2.2.2.1.row,k20.2.2.2.1.row];cbv
   repeat (first|(refine ⟨(pr _ _ rfl),?_⟩;cbv)|(simp only [sb1,sb2,sb3];cbv))
   all_goals trivial
  refine .z [0] (hM _ _ _ _ _ (k19.2.2)) rfl rfl rfl ?_;cbv;simp only [on1,on2,on3];cbv;have hk21:=k19.1;rw [if_pos (show [xk1].length=1 from rfl)] at hk21;refine .z [0] (hM _ _ _ _ _ (upM (zch LR bk1 c))) rfl rfl rfl ?_;cbv;have e0:=zey (hk21);subst e0;cbv;all_goals trivial
end
end Go.Proofs.YtcfecmeocimclaaGreatDoor
