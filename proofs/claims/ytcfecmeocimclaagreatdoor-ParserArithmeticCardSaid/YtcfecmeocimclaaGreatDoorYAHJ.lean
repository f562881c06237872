/- Own work: the walks of inner,body,statement. -/
import Derived.Test.YtcfecmeocimclaaGreatDoorYAA0
import Derived.Test.YtcfecmeocimclaaGreatDoorYAHF
namespace Go.Proofs.YtcfecmeocimclaaGreatDoor
set_option linter.unusedSimpArgs false
set_option linter.unusedSectionVars false
set_option maxRecDepth 100000
open Go.RowKit
section
variable {n:Int} {toks:List Tk} {LR:List (List PV)} {l:Ts}
set_option maxHeartbeats 4000000 in
theorem zu8 {c:Cx} (ih:∀ s':Sy,s'.meas < (Sy.inner c l).meas->zd0 n toks LR s'):zd0 n toks LR (.inner c l):=by
 intro f hf a h o ho
 cases hf
 rw [zac] at ho;change zd2 ev c l=some o at ho;unfold zd2 at ho;change AtP n toks LR a l at h;show MP _ (.own 0 0 :: []) [rdr LR a c] (rOf o) (hOf toks LR c o);refine zad zaa (f:=66) Tryz.func66 rfl (by kernel_rfl) (oT (by kernel_rfl)) fun tags htl=>?_
 match tags,htl with
 | [t0],_ =>
  refine Seg.ofM zaa mixed (fun _=>0) (fun _=>[]) (fun _ _=>0) (by kernel_rfl) (fun E=>za0 E tyT Tryz.f66.results.toList [t0] (rOf o) (hOf toks LR c o)) fun P G E hc hM hE=>?_
  cbv;refine oE (z8r h c ho) (fun k1=>?_) (fun k1=>?_)
  case' refine_1 =>
   refine .z [0] (hM _ _ _ _ _ (k1.2.2)) rfl rfl rfl ?_;cbv;refine .z [0] (hM _ _ _ _ _ (upM (zch LR a c))) rfl rfl rfl ?_;cbv;have e0:=zey (k1.1);subst e0;cbv;all_goals trivial
  refine .z [0] (hM _ _ _ _ _ (k1.2.2)) rfl rfl rfl ?_;cbv;refine oE (zlw (L:=l) (c:=c) (ih (.stmt c l) (by simp only [Sy.meas,Sy.l,Sy.rank];omega)) rfl rfl rfl rfl rfl h k1.1) (fun k2=>xE k2 fun xk2 k2=>xE k2 fun lk2 k2=>xE k2 fun bk2 k2=>xE k2 fun q1k2 k2=>xE k2 fun q2k2 k2=>xE k2 fun q3k2 k2=>xE k2 fun q4k2 k2=>xE k2 fun q5k2 k2=>?_) (fun k2=>?_)
  case' refine_2 =>
   refine .z [0] (hM _ _ _ _ _ (k2.2)) rfl rfl rfl ?_;cbv;have e0:=k2.1;subst e0;cbv;all_goals trivial
  refine .z [0] (hM _ _ _ _ _ (k2.2.2.2)) rfl rfl rfl ?_;cbv;have ok2:=k2.2.2.1.one;cbv at ok2;cbv;simp only [ok2];cbv;have e0:=k2.2.1;subst e0;simp only [k2.1.place,k2.2.2.1.row];cbv;all_goals trivial
set_option maxHeartbeats 4000000 in
theorem zy7 {c:Cx} (ih:∀ s':Sy,s'.meas < (Sy.body c l).meas->zd0 n toks LR s'):zd0 n toks LR (.body c l):=by
 intro f hf a h o ho
 cases hf
 rw [zac] at ho;change zrm ev c l=some o at ho;unfold zrm at ho;change AtP n toks LR a l at h;show MP _ (.own 0 0 :: []) [rdr LR a c] (rOf o) (hOf toks LR c o);refine zad zaa (f:=67) Tryz.func67 rfl (by kernel_rfl) (oT (by kernel_rfl)) fun tags htl=>?_
 match tags,htl with
 | [t0],_ =>
  refine Seg.ofM zaa mixed (fun _=>0) (fun _=>[]) (fun _ _=>0) (by kernel_rfl) (fun E=>za0 E tyT Tryz.f67.results.toList [t0] (rOf o) (hOf toks LR c o)) fun P G E hc hM hE=>?_
  cbv;refine oE (zlw (L:=l) (c:={ c with lp:=true }) (ih (.inner { c with lp:=true } l) (by simp only [Sy.meas,Sy.l,Sy.rank];omega)) rfl rfl rfl rfl rfl h ho) (fun k1=>xE k1 fun xk1 k1=>xE k1 fun lk1 k1=>xE k1 fun bk1 k1=>xE k1 fun q1k1 k1=>xE k1 fun q2k1 k1=>xE k1 fun q3k1 k1=>xE k1 fun q4k1 k1=>xE k1 fun q5k1 k1=>?_) (fun k1=>?_)
  case' refine_2 =>
   refine .z [0] (hM _ _ _ _ _ (k1.2)) rfl rfl rfl ?_;cbv;have e0:=k1.1;subst e0;cbv;all_goals trivial
  refine .z [0] (hM _ _ _ _ _ (k1.2.2.2)) rfl rfl rfl ?_;cbv;have ok1:=k1.2.2.1.one;cbv at ok1;cbv
  repeat (simp only [ok1];cbv)
  have e0:=k1.2.1;subst e0;simp only [k1.1.place,k1.2.2.1.row];cbv;all_goals trivial
set_option maxHeartbeats 4000000 in
theorem zwt {c:Cx} (ih:∀ s':Sy,s'.meas < (Sy.stmt c l).meas->zd0 n toks LR s'):zd0 n toks LR (.stmt c l):=by
 intro f hf a h o ho
 cases hf
 rw [zac] at ho;change ze0 ev c l=some o at ho;unfold ze0 at ho;change AtP n toks LR a l at h;show MP _ (.own 0 0 :: []) [rdr LR a c] (rOf o) (hOf toks LR c o);refine zad zaa (f:=20) Tryz.func20 rfl (by kernel_rfl) (oT (by kernel_rfl)) fun tags htl=>?_
 match tags,htl with
 | [t0],_ =>
  refine Seg.ofM zaa mixed (fun _=>0) (fun _=>[]) (fun _ _=>0) (by kernel_rfl) (fun E=>za0 E tyT Tryz.f20.results.toList [t0] (rOf o) (hOf toks LR c o)) fun P G E hc hM hE=>?_
  have fO:=zje hE;have sb1:=fO.s1;have sb2:=fO.s2;have sb3:=fO.s3;have ap2:=fO.a2;have ap3:=fO.a3;have an2:=fO.n2;have an3:=fO.n3;have rm:=fun k m b h1 h2=>fO.room k m b h1 h2
  have pr:=fun k rs h=>fO.pre k rs h
  cbv;refine xE (ziq h 0 (by decide) c) fun Kk1 k1=>xE k1 fun Tk1 k1=>xE k1 fun zk1 k1=>?_
  refine .z [0] (hM _ _ _ _ _ (k1.2.2)) rfl rfl rfl ?_;cbv;refine oE (isOr h zfh zax c ho) (fun k2=>?_) (fun k2=>oE k2 (fun k2=>?_) (fun k2=>?_))
  case' refine_1 =>
   refine .z [0] (hM _ _ _ _ _ (k2.2.2)) rfl rfl rfl ?_;cbv;refine oE (ndS (L:=l) (c:=c) (ih (.decl c l) (by simp only [Sy.meas,Sy.l,Sy.rank];omega)) (fidD (k2.2.1)) rfl rfl rfl rfl rfl h k2.1) (fun k3=>xE k3 fun xk3 k3=>xE k3 fun lk3 k3=>xE k3 fun bk3 k3=>xE k3 fun q1k3 k3=>xE k3 fun q2k3 k3=>xE k3 fun q3k3 k3=>xE k3 fun q4k3 k3=>xE k3 fun q5k3 k3=>?_) (fun k3=>?_)
   case' refine_2 =>
    refine .z [0] (hM _ _ _ _ _ (k3.2)) rfl rfl rfl ?_;cbv;have e0:=k3.1;subst e0;cbv;all_goals trivial
   refine .z [0] (hM _ _ _ _ _ (k3.2.2.2.2)) rfl rfl rfl ?_;cbv;have ok3:=k3.2.2.2.1.one;cbv at ok3;cbv;simp only [ok3];cbv;refine oE (zc1 k3.1 zbo c k3.2.1) (fun k4=>xE k4 fun bk4 k4=>?_) (fun k4=>?_)
   case' refine_2 =>
    refine .z [0] (hM _ _ _ _ _ (k4.2)) rfl rfl rfl ?_;cbv;have e0:=k4.1;subst e0;cbv;all_goals trivial
   refine .z [0] (hM _ _ _ _ _ (k4.2.2.2.2)) rfl rfl rfl ?_;cbv;simp only [ok3];cbv;have e0:=okE (k4.2.1);subst e0;simp only [k4.1.place,nd,ndN,ndO,za8,zao,zae,lCA,lNA,k3.2.2.2.1.row,k1.2.1];cbv;all_goals trivial
  case' refine_2 =>
   refine .z [0] (hM _ _ _ _ _ (k2.2.2.2.1)) rfl rfl rfl ?_;cbv;refine .z [0] (hM _ _ _ _ _ (k2.2.2.2.2)) rfl rfl rfl ?_;cbv;refine oE (ndS (L:=l) (c:=c) (ih (.decl c l) (by simp only [Sy.meas,Sy.l,Sy.rank];omega)) (fidD (k2.2.2.1)) rfl rfl rfl rfl rfl h k2.1) (fun k5=>xE k5 fun xk5 k5=>xE k5 fun lk5 k5=>xE k5 fun bk5 k5=>xE k5 fun q1k5 k5=>xE k5 fun q2k5 k5=>xE k5 fun q3k5 k5=>xE k5 fun q4k5 k5=>xE k5 fun q5k5 k5=>?_) (fun k5=>?_)
   case' refine_2 =>
    refine .z [0] (hM _ _ _ _ _ (k5.2)) rfl rfl rfl ?_;cbv;have e0:=k5.1;subst e0;cbv;all_goals trivial
   refine .z [0] (hM _ _ _ _ _ (k5.2.2.2.2)) rfl rfl rfl ?_;cbv;have ok5:=k5.2.2.2.1.one;cbv at ok5;cbv;simp only [ok5];cbv;refine oE (zc1 k5.1 zbo c k5.2.1) (fun k6=>xE k6 fun bk6 k6=>?_) (fun k6=>?_)
   case' refine_2 =>
    refine .z [0] (hM _ _ _ _ _ (k6.2)) rfl rfl rfl ?_;cbv;have e0:=k6.1;subst e0;cbv;all_goals trivial
   refine .z [0] (hM _ _ _ _ _ (k6.2.2.2.2)) rfl rfl rfl ?_;cbv;simp only [ok5];cbv;have e0:=okE (k6.2.1);subst e0;simp only [k6.1.place,nd,ndN,ndO,za8,zao,zae,lCA,lNA,k5.2.2.2.1.row,k1.2.1];cbv;all_goals trivial
  refine .z [0] (hM _ _ _ _ _ (k2.2.2.2.1)) rfl rfl rfl ?_;cbv;refine .z [0] (hM _ _ _ _ _ (k2.2.2.2.2)) rfl rfl rfl ?_;cbv;refine oE (z8r h c k2.1) (fun k7=>?_) (fun k7=>?_)
  case' refine_1 =>
   refine .z [0] (hM _ _ _ _ _ (k7.2.2)) rfl rfl rfl ?_;cbv;refine oE (zlw (L:=l) (c:=c) (ih (.func true c l) (by simp only [Sy.meas,Sy.l,Sy.rank];omega)) rfl rfl rfl rfl rfl h k7.1) (fun k8=>xE k8 fun xk8 k8=>xE k8 fun lk8 k8=>xE k8 fun bk8 k8=>xE k8 fun q1k8 k8=>xE k8 fun q2k8 k8=>xE k8 fun q3k8 k8=>xE k8 fun q4k8 k8=>xE k8 fun q5k8 k8=>?_) (fun k8=>?_)
   case' refine_2 =>
    refine .z [0] (hM _ _ _ _ _ (k8.2)) rfl rfl rfl ?_;cbv;have e0:=k8.1;subst e0;cbv;all_goals trivial
   refine .z [0] (hM _ _ _ _ _ (k8.2.2.2)) rfl rfl rfl ?_;cbv;have ok8:=k8.2.2.1.one;cbv at ok8;cbv;simp only [ok8];cbv;have e0:=k8.2.1;subst e0;simp only [k8.1.place,k8.2.2.1.row];cbv;all_goals trivial
  refine .z [0] (hM _ _ _ _ _ (k7.2.2)) rfl rfl rfl ?_;cbv;refine oE (isS h 0 (by decide) zg3 c k7.1) (fun k9=>?_) (fun k9=>?_)
  case' refine_1 =>
   refine .z [0] (hM _ _ _ _ _ (k9.2.2.2)) rfl rfl rfl ?_;cbv;refine oE (zlw (L:=l) (c:=c) (ih (.block c l) (by simp only [Sy.meas,Sy.l,Sy.rank];omega)) rfl rfl rfl rfl rfl h k9.1) (fun k10=>xE k10 fun xk10 k10=>xE k10 fun lk10 k10=>xE k10 fun bk10 k10=>xE k10 fun q1k10 k10=>xE k10 fun q2k10 k10=>xE k10 fun q3k10 k10=>xE k10 fun q4k10 k10=>xE k10 fun q5k10 k10=>?_) (fun k10=>?_)
   case' refine_2 =>
    refine .z [0] (hM _ _ _ _ _ (k10.2)) rfl rfl rfl ?_;cbv;have e0:=k10.1;subst e0;cbv;all_goals trivial
   refine .z [0] (hM _ _ _ _ _ (k10.2.2.2)) rfl rfl rfl ?_;cbv;have ok10:=k10.2.2.1.one;cbv at ok10;cbv;simp only [ok10];cbv;have e0:=k10.2.1;subst e0;simp only [k10.1.place,k10.2.2.1.row];cbv;all_goals trivial
  refine .z [0] (hM _ _ _ _ _ (k9.2.2)) rfl rfl rfl ?_;cbv;refine oE (zcm h zbo c k9.1) (fun k11=>xE k11 fun bk11 k11=>?_) (fun k11=>?_)
  case' refine_1 =>
   refine .z [0] (hM _ _ _ _ _ (k11.2.2.2.2)) rfl rfl rfl ?_;cbv;have e0:=okE (k11.2.1);subst e0;simp only [k11.1.place,nd,ndN,ndO,za8,zao,zae,lCA,lNA,k1.2.1];cbv;all_goals trivial
  refine .z [0] (hM _ _ _ _ _ (k11.2.2)) rfl rfl rfl ?_;cbv;refine oE (zm2 (k11.1)) (fun k12=>?_) (fun k12=>?_)
  case' refine_1 =>
   have ek12:decide (Kk1=2)=true:=by rw [<-k1.1];exact dT k12.1
   cbv;simp only [ek12];cbv;refine oE (nbS (L:=l) (c:=c) (ih (.keyw c l) (by simp only [Sy.meas,Sy.l,Sy.rank];omega)) rfl rfl rfl rfl rfl rfl h k12.2) (fun k13=>xE k13 fun xk13 k13=>xE k13 fun pk13 k13=>xE k13 fun lk13 k13=>xE k13 fun bk13 k13=>xE k13 fun q1k13 k13=>xE k13 fun q2k13 k13=>xE k13 fun q3k13 k13=>xE k13 fun q4k13 k13=>xE k13 fun q5k13 k13=>?_) (fun k13=>?_)
   case' refine_2 =>
    refine .z [0] (hM _ _ _ _ _ (k13.2)) rfl rfl rfl ?_;cbv;have e0:=k13.1;subst e0;cbv;all_goals trivial
   refine .z [0] (hM _ _ _ _ _ (k13.2.2.2.2)) rfl rfl rfl ?_;cbv;have ok13:=k13.2.2.2.1.one;cbv at ok13;cbv;simp only [ok13];cbv;refine oE (zkn (k13.2.1)) (fun k14=>?_) (fun k14=>?_)
   case' refine_1 =>
    have ek14:=k14.2;cbv
    repeat (first|(simp only [ek14];cbv)|(simp only [ok13];cbv))
    have e0:=okE (k14.1);subst e0;simp only [k13.1.place,nd,ndN,ndO,za8,zao,zae,lCA,lNA,k13.2.2.2.1.row,k1.2.1];cbv;all_goals trivial
   have ek14:=k14.2;cbv;simp only [ek14];cbv;have hk15:=k14.1;unfold zgo at hk15;refine oE (ndS (L:=lk13) (c:=c) (ih (.assign c lk13) (by simp only [Sy.meas,Sy.l,Sy.rank];omega)) rfl rfl rfl rfl rfl rfl k13.1 hk15) (fun k16=>xE k16 fun xk16 k16=>xE k16 fun lk16 k16=>xE k16 fun bk16 k16=>xE k16 fun q1k16 k16=>xE k16 fun q2k16 k16=>xE k16 fun q3k16 k16=>xE k16 fun q4k16 k16=>xE k16 fun q5k16 k16=>?_) (fun k16=>?_)
   case' refine_2 =>
    refine .z [0] (hM _ _ _ _ _ (k16.2)) rfl rfl rfl ?_;cbv;have e0:=k16.1;subst e0;cbv;all_goals trivial
   refine .z [0] (hM _ _ _ _ _ (k16.2.2.2.2)) rfl rfl rfl ?_;cbv;have ok16:=k16.2.2.2.1.one;cbv at ok16;cbv
   repeat (first|(simp only [ok13];cbv)|(simp only [ok16];cbv))
   refine oE (zc1 k16.1 zbo c k16.2.1) (fun k17=>xE k17 fun bk17 k17=>?_) (fun k17=>?_)
   case' refine_2 =>
    refine .z [0] (hM _ _ _ _ _ (k17.2)) rfl rfl rfl ?_;cbv;have e0:=k17.1;subst e0;cbv;all_goals trivial
   refine .z [0] (hM _ _ _ _ _ (k17.2.2.2.2)) rfl rfl rfl ?_;cbv;have e0:=okE (k17.2.1);subst e0;simp only [k17.1.place,nd,ndN,ndO,za8,zao,zae,lCA,lNA,k13.2.2.2.1.row,k16.2.2.2.1.row,k1.2.1];cbv
   repeat (first|(refine ⟨(pr _ _ rfl),?_⟩;cbv)|(simp only [sb1,sb2,sb3];cbv))
   all_goals trivial
  have ek12:decide (Kk1=2)=false:=by rw [<-k1.1];exact dF k12.1
  cbv;simp only [ek12];cbv;have hk18:=k12.2;unfold zgo at hk18;refine oE (ndS (L:=l) (c:=c) (ih (.assign c l) (by simp only [Sy.meas,Sy.l,Sy.rank];omega)) rfl rfl rfl rfl rfl rfl h hk18) (fun k19=>xE k19 fun xk19 k19=>xE k19 fun lk19 k19=>xE k19 fun bk19 k19=>xE k19 fun q1k19 k19=>xE k19 fun q2k19 k19=>xE k19 fun q3k19 k19=>xE k19 fun q4k19 k19=>xE k19 fun q5k19 k19=>?_) (fun k19=>?_)
  case' refine_2 =>
   refine .z [0] (hM _ _ _ _ _ (k19.2)) rfl rfl rfl ?_;cbv;have e0:=k19.1;subst e0;cbv;all_goals trivial
  refine .z [0] (hM _ _ _ _ _ (k19.2.2.2.2)) rfl rfl rfl ?_;cbv;have ok19:=k19.2.2.2.1.one;cbv at ok19;cbv;simp only [ok19];cbv;refine oE (zc1 k19.1 zbo c k19.2.1) (fun k20=>xE k20 fun bk20 k20=>?_) (fun k20=>?_)
  case' refine_2 =>
   refine .z [0] (hM _ _ _ _ _ (k20.2)) rfl rfl rfl ?_;cbv;have e0:=k20.1;subst e0;cbv;all_goals trivial
  refine .z [0] (hM _ _ _ _ _ (k20.2.2.2.2)) rfl rfl rfl ?_;cbv;have e0:=okE (k20.2.1);subst e0;simp only [k20.1.place,nd,ndN,ndO,za8,zao,zae,lCA,lNA,k19.2.2.2.1.row,k1.2.1];cbv
  repeat (first|(refine ⟨(pr _ _ rfl),?_⟩;cbv)|(simp only [sb1,sb2,sb3];cbv))
  all_goals trivial
end
/- Own work: the walk of keyword. -/
section
variable {n:Int} {toks:List Tk} {LR:List (List PV)} {l:Ts}
set_option maxHeartbeats 4000000 in
theorem zx4 {c:Cx} (ih:∀ s':Sy,s'.meas < (Sy.keyw c l).meas->zd0 n toks LR s'):zd0 n toks LR (.keyw c l):=by
 intro f hf a h o ho
 cases hf
 rw [zac] at ho;change zf9 ev c l=some o at ho;unfold zf9 at ho;change AtP n toks LR a l at h;show MP _ (.own 0 0 :: []) [rdr LR a c] (rOf o) (hOf toks LR c o);refine zad zaa (f:=44) Tryz.func44 rfl (by kernel_rfl) (oT (by kernel_rfl)) fun tags htl=>?_
 match tags,htl with
 | [t0],_ =>
  refine Seg.ofM zaa mixed (fun n=>match n with|4=>5|8=>3|_=>0) (fun n=>match n with|4=>[3]|8=>[2]|_=>[]) (fun n i=>match n,i with|4,3=>1|4,4=>1|8,2=>1|_,_=>0) (by kernel_rfl) (fun E=>za0 E tyT Tryz.f44.results.toList [t0] (rOf o) (hOf toks LR c o)) fun P G E hc hM hE=>?_
  have fO:=zje hE;have sb1:=fO.s1;have sb2:=fO.s2;have sb3:=fO.s3;have ap2:=fO.a2;have ap3:=fO.a3;have an2:=fO.n2;have an3:=fO.n3;have rm:=fun k m b h1 h2=>fO.room k m b h1 h2
  have pr:=fun k rs h=>fO.pre k rs h
  cbv;refine oE (zcm h wIf c ho) (fun k1=>xE k1 fun bk1 k1=>?_) (fun k1=>?_)
  case' refine_1 =>
   refine .z [0] (hM _ _ _ _ _ (k1.2.2.2.2)) rfl rfl rfl ?_;cbv;refine oE (ndS (L:=(l.drop 1)) (c:=c) (ih (.condn c (l.drop 1)) (by simp only [Sy.meas,Sy.l,Sy.rank];omega)) rfl rfl rfl rfl rfl rfl k1.1 k1.2.1) (fun k2=>xE k2 fun xk2 k2=>xE k2 fun lk2 k2=>xE k2 fun bk2 k2=>xE k2 fun q1k2 k2=>xE k2 fun q2k2 k2=>xE k2 fun q3k2 k2=>xE k2 fun q4k2 k2=>xE k2 fun q5k2 k2=>?_) (fun k2=>?_)
   case' refine_2 =>
    refine .z [0] (hM _ _ _ _ _ (k2.2)) rfl rfl rfl ?_;cbv;have e0:=k2.1;subst e0;cbv;all_goals trivial
   refine .z [0] (hM _ _ _ _ _ (k2.2.2.2.2)) rfl rfl rfl ?_;cbv;have ok2:=k2.2.2.2.1.one;cbv at ok2;cbv;refine oE (ndS (L:=lk2) (c:=c) (ih (.inner c lk2) (by simp only [Sy.meas,Sy.l,Sy.rank];omega)) rfl rfl rfl rfl rfl rfl k2.1 k2.2.1) (fun k3=>xE k3 fun xk3 k3=>xE k3 fun lk3 k3=>xE k3 fun bk3 k3=>xE k3 fun q1k3 k3=>xE k3 fun q2k3 k3=>xE k3 fun q3k3 k3=>xE k3 fun q4k3 k3=>xE k3 fun q5k3 k3=>?_) (fun k3=>?_)
   case' refine_2 =>
    refine .z [0] (hM _ _ _ _ _ (k3.2)) rfl rfl rfl ?_;cbv;have e0:=k3.1;subst e0;cbv;all_goals trivial
   refine .z [0] (hM _ _ _ _ _ (k3.2.2.2.2)) rfl rfl rfl ?_;cbv;have ok3:=k3.2.2.2.1.one;cbv at ok3;cbv
   repeat (first|(simp only [ok2];cbv)|(simp only [ok3];cbv))
   refine oE (zcm k3.1 zuf c k3.2.1) (fun k4=>xE k4 fun bk4 k4=>?_) (fun k4=>?_)
   case' refine_1 =>
    refine .z [0] (hM _ _ _ _ _ (k4.2.2.2.2)) rfl rfl rfl ?_;cbv;refine oE (ndS (L:=(lk3.drop 1)) (c:=c) (ih (.inner c (lk3.drop 1)) (by simp only [Sy.meas,Sy.l,Sy.rank];omega)) rfl rfl rfl rfl rfl rfl k4.1 k4.2.1) (fun k5=>xE k5 fun xk5 k5=>xE k5 fun lk5 k5=>xE k5 fun bk5 k5=>xE k5 fun q1k5 k5=>xE k5 fun q2k5 k5=>xE k5 fun q3k5 k5=>xE k5 fun q4k5 k5=>xE k5 fun q5k5 k5=>?_) (fun k5=>?_)
    case' refine_2 =>
     refine Or.inr ?_;refine .mk [0] _ _ _ _ (hM _ _ _ _ _ (k5.2)) rfl rfl rfl _ rfl ?_;cbv;have e0:=k5.1;subst e0;cbv;all_goals trivial
    refine Or.inl ?_;refine ⟨.mk trivial,?_⟩;refine .mk [0] _ _ _ _ (hM _ _ _ _ _ (k5.2.2.2.2)) rfl rfl rfl rfl ?_;cbv;have ok5:=k5.2.2.2.1.one;cbv at ok5;cbv
    repeat (first|(simp only [ok2];cbv)|(simp only [ok5];cbv)|(simp only [ap3,an3];cbv))
    refine ⟨.mk (by repeat' (first|exact trivial|refine ⟨rfl,?_⟩)),?_⟩
    cbv
    repeat (first|(refine ⟨(pr _ _ rfl),?_⟩;cbv)|(refine ⟨(rm _ _ _ (by decide) (by decide)),?_⟩;cbv))
    have e0:=okE (k5.2.1);subst e0;simp only [k5.1.place,nd,ndN,ndO,za8,zao,zae,lCA,lNA,k2.2.2.2.1.row,k3.2.2.2.1.row,k5.2.2.2.1.row];cbv
    repeat (first|(refine ⟨(pr _ _ rfl),?_⟩;cbv)|(simp only [sb1,sb2,sb3];cbv))
    all_goals trivial
   refine .z [0] (hM _ _ _ _ _ (k4.2.2)) rfl rfl rfl ?_;cbv;have e0:=okE (k4.1);subst e0;simp only [k3.1.place,nd,ndN,ndO,za8,zao,zae,lCA,lNA,k2.2.2.2.1.row,k3.2.2.2.1.row];cbv
   repeat (first|(refine ⟨(pr _ _ rfl),?_⟩;cbv)|(simp only [sb1,sb2,sb3];cbv))
   all_goals trivial
  refine .z [0] (hM _ _ _ _ _ (k1.2.2)) rfl rfl rfl ?_;cbv;refine oE (zcm h znf c k1.1) (fun k6=>xE k6 fun bk6 k6=>?_) (fun k6=>?_)
  case' refine_1 =>
   refine .z [0] (hM _ _ _ _ _ (k6.2.2.2.2)) rfl rfl rfl ?_;cbv;refine oE (ndS (L:=(l.drop 1)) (c:=c) (ih (.condn c (l.drop 1)) (by simp only [Sy.meas,Sy.l,Sy.rank];omega)) rfl rfl rfl rfl rfl rfl k6.1 k6.2.1) (fun k7=>xE k7 fun xk7 k7=>xE k7 fun lk7 k7=>xE k7 fun bk7 k7=>xE k7 fun q1k7 k7=>xE k7 fun q2k7 k7=>xE k7 fun q3k7 k7=>xE k7 fun q4k7 k7=>xE k7 fun q5k7 k7=>?_) (fun k7=>?_)
   case' refine_2 =>
    refine .z [0] (hM _ _ _ _ _ (k7.2)) rfl rfl rfl ?_;cbv;have e0:=k7.1;subst e0;cbv;all_goals trivial
   refine .z [0] (hM _ _ _ _ _ (k7.2.2.2.2)) rfl rfl rfl ?_;cbv;have ok7:=k7.2.2.2.1.one;cbv at ok7;cbv;simp only [ok7];cbv;refine oE (ndS (L:=lk7) (c:=c) (ih (.body c lk7) (by simp only [Sy.meas,Sy.l,Sy.rank];omega)) rfl rfl rfl rfl rfl rfl k7.1 k7.2.1) (fun k8=>xE k8 fun xk8 k8=>xE k8 fun lk8 k8=>xE k8 fun bk8 k8=>xE k8 fun q1k8 k8=>xE k8 fun q2k8 k8=>xE k8 fun q3k8 k8=>xE k8 fun q4k8 k8=>xE k8 fun q5k8 k8=>?_) (fun k8=>?_)
   case' refine_2 =>
    refine Or.inr ?_;refine .mk [0] _ _ _ _ (hM _ _ _ _ _ (k8.2)) rfl rfl rfl _ rfl ?_;cbv;have e0:=k8.1;subst e0;cbv;all_goals trivial
   refine Or.inl ?_;refine ⟨.mk trivial,?_⟩;refine .mk [0] _ _ _ _ (hM _ _ _ _ _ (k8.2.2.2.2)) rfl rfl rfl rfl ?_;cbv;have ok8:=k8.2.2.2.1.one;cbv at ok8;cbv
   repeat (first|(simp only [ok7];cbv)|(simp only [ok8];cbv))
   refine ⟨.mk (by repeat' (first|exact trivial|refine ⟨rfl,?_⟩)),?_⟩
   cbv;have e0:=okE (k8.2.1);subst e0;simp only [k8.1.place,nd,ndN,ndO,za8,zao,zae,lCA,lNA,k7.2.2.2.1.row,k8.2.2.2.1.row];cbv
   repeat (first|(refine ⟨(pr _ _ rfl),?_⟩;cbv)|(simp only [sb1,sb2,sb3];cbv))
   all_goals trivial
  refine .z [0] (hM _ _ _ _ _ (k6.2.2)) rfl rfl rfl ?_;cbv;refine oE (zcm h wFor c k6.1) (fun k9=>xE k9 fun bk9 k9=>?_) (fun k9=>?_)
  case' refine_1 =>
   refine .z [0] (hM _ _ _ _ _ (k9.2.2.2.2)) rfl rfl rfl ?_;cbv;refine oE (ndS (L:=(l.drop 1)) (c:=c) (ih (.loops c (l.drop 1)) (by simp only [Sy.meas,Sy.l,Sy.rank];omega)) rfl rfl rfl rfl rfl rfl k9.1 k9.2.1) (fun k10=>xE k10 fun xk10 k10=>xE k10 fun lk10 k10=>xE k10 fun bk10 k10=>xE k10 fun q1k10 k10=>xE k10 fun q2k10 k10=>xE k10 fun q3k10 k10=>xE k10 fun q4k10 k10=>xE k10 fun q5k10 k10=>?_) (fun k10=>?_)
   case' refine_2 =>
    refine .z [0] (hM _ _ _ _ _ (k10.2)) rfl rfl rfl ?_;cbv;have e0:=k10.1;subst e0;cbv;all_goals trivial
   refine .z [0] (hM _ _ _ _ _ (k10.2.2.2.2)) rfl rfl rfl ?_;cbv;have ok10:=k10.2.2.2.1.one;cbv at ok10;cbv;simp only [ok10];cbv;have e0:=okE (k10.2.1);subst e0;simp only [k10.1.place,nd,ndN,ndO,za8,zao,zae,lCA,lNA,k10.2.2.2.1.row];cbv;all_goals trivial
  refine .z [0] (hM _ _ _ _ _ (k9.2.2)) rfl rfl rfl ?_;cbv;refine oE (isS h 0 (by decide) zn5 c k9.1) (fun k11=>?_) (fun k11=>?_)
  case' refine_1 =>
   refine .z [0] (hM _ _ _ _ _ (k11.2.2.2)) rfl rfl rfl ?_;cbv;refine oE (zkn (k11.1)) (fun k12=>?_) (fun k12=>?_)
   case' refine_1 =>
    have ek12:=k12.2;cbv;simp only [ek12];cbv;refine xE (AtP.next h (zag k11.2.1)) fun bk13 k13=>?_
    have dk13:(List.drop 1 l).length < (l).length:=by have:=zag k11.2.1;rw [lLD];omega
    have ak13:=zcg hE k13.2.2.1 k13.2.2.2 k13.2.1;cbv;simp only [ak13];cbv;have hk14:=k12.1;rw [<-zox _ 1 0] at hk14;refine oE (isS k13.1 0 (by decide) zbo c hk14) (fun k15=>?_) (fun k15=>?_)
    case' refine_1 =>
     have kk16:=k15.2.2.2;simp only [rdr,ek12] at kk16;refine .z [0] (hM _ _ _ _ _ (kk16)) rfl rfl rfl ?_;cbv;refine xE (needT k13.1 zbo c (k15.2.1)) fun bk17 k17=>?_
     have kk18:=k17.2;simp only [rdr,ek12] at kk18;refine .z [0] (hM _ _ _ _ _ (kk18)) rfl rfl rfl ?_;cbv;have hk17:AtP n toks LR bk17 (List.drop 2 l):=by have:=k17.1;rw [lDD] at this;exact this
     have e0:=okE (k15.1);subst e0;simp only [hk17.place,nd,ndN,ndO,za8,zao,zae,lCA,lNA];cbv;all_goals trivial
    have kk19:=k15.2.2;simp only [rdr,ek12] at kk19;refine .z [0] (hM _ _ _ _ _ (kk19)) rfl rfl rfl ?_;cbv;refine oE (ndS (L:=(l.drop 1)) (c:=c) (ih (.assign c (l.drop 1)) (by simp only [Sy.meas,Sy.l,Sy.rank];omega)) rfl rfl rfl rfl rfl rfl k13.1 k15.1) (fun k20=>xE k20 fun xk20 k20=>xE k20 fun lk20 k20=>xE k20 fun bk20 k20=>xE k20 fun q1k20 k20=>xE k20 fun q2k20 k20=>xE k20 fun q3k20 k20=>xE k20 fun q4k20 k20=>xE k20 fun q5k20 k20=>?_) (fun k20=>?_)
    case' refine_2 =>
     have kk21:=k20.2;simp only [rdr,ek12] at kk21;refine .z [0] (hM _ _ _ _ _ (kk21)) rfl rfl rfl ?_;cbv;have e0:=k20.1;subst e0;cbv;all_goals trivial
    have kk22:=k20.2.2.2.2;simp only [rdr,ek12] at kk22;refine .z [0] (hM _ _ _ _ _ (kk22)) rfl rfl rfl ?_;cbv;have ok20:=k20.2.2.2.1.one;cbv at ok20;cbv
    repeat (first|(simp only [ek12];cbv)|(simp only [ok20];cbv))
    refine oE (zc1 k20.1 zbo c k20.2.1) (fun k23=>xE k23 fun bk23 k23=>?_) (fun k23=>?_)
    case' refine_2 =>
     have kk24:=k23.2;simp only [rdr,ek12] at kk24;refine .z [0] (hM _ _ _ _ _ (kk24)) rfl rfl rfl ?_;cbv;have e0:=k23.1;subst e0;cbv;all_goals trivial
    have kk25:=k23.2.2.2.2;simp only [rdr,ek12] at kk25;refine .z [0] (hM _ _ _ _ _ (kk25)) rfl rfl rfl ?_;cbv;have e0:=okE (k23.2.1);subst e0;simp only [k23.1.place,nd,ndN,ndO,za8,zao,zae,lCA,lNA,k20.2.2.2.1.row];cbv
    repeat (first|(refine ⟨(pr _ _ rfl),?_⟩;cbv)|(simp only [sb1,sb2,sb3];cbv))
    all_goals trivial
   have ek12:=k12.2;cbv;simp only [ek12];cbv;have kk26:=upM (zch LR a c);simp only [rdr,ek12] at kk26;refine .z [0] (hM _ _ _ _ _ (kk26)) rfl rfl rfl ?_;cbv;have e0:=zey (k12.1);subst e0;cbv;all_goals trivial
  refine .z [0] (hM _ _ _ _ _ (k11.2.2)) rfl rfl rfl ?_;cbv;refine oE (isOr h zpy zdj c k11.1) (fun k27=>?_) (fun k27=>oE k27 (fun k27=>?_) (fun k27=>?_))
  case' refine_1 =>
   refine .z [0] (hM _ _ _ _ _ (k27.2.2)) rfl rfl rfl ?_;cbv;refine oE (zkn (k27.1)) (fun k28=>?_) (fun k28=>?_)
   case' refine_1 =>
    have ek28:=k28.2;cbv;simp only [ek28];cbv;have kk30:=z1g h 0 (by decide) zdj c (zyb k27.2.1 (by decide))
    simp only [rdr,ek28] at kk30;refine .z [0] (hM _ _ _ _ _ (kk30)) rfl rfl rfl ?_;cbv;refine xE (AtP.next h (zag k27.2.1)) fun bk31 k31=>?_
    have dk31:(List.drop 1 l).length < (l).length:=by have:=zag k27.2.1;rw [lLD];omega
    have ak31:=zcg hE k31.2.2.1 k31.2.2.2 k31.2.1;cbv;simp only [ak31];cbv;have hk32:=k28.1;rw [zyb k27.2.1 (show zpy ≠ zdj by decide)] at hk32
    simp only [Bool.false_eq_true,if_false] at hk32;refine oE (zc1 k31.1 zbo c hk32) (fun k33=>xE k33 fun bk33 k33=>?_) (fun k33=>?_)
    case' refine_2 =>
     have kk34:=k33.2;simp only [rdr,ek28] at kk34;refine .z [0] (hM _ _ _ _ _ (kk34)) rfl rfl rfl ?_;cbv;have e0:=k33.1;subst e0;cbv;all_goals trivial
    have kk35:=k33.2.2.2.2;simp only [rdr,ek28] at kk35;refine .z [0] (hM _ _ _ _ _ (kk35)) rfl rfl rfl ?_;cbv;have e0:=okE (k33.2.1);subst e0;simp only [k33.1.place,nd,ndN,ndO,za8,zao,zae,lCA,lNA];cbv;all_goals trivial
   have ek28:=k28.2;cbv;simp only [ek28];cbv;have kk36:=upM (zch LR a c);simp only [rdr,ek28] at kk36;refine .z [0] (hM _ _ _ _ _ (kk36)) rfl rfl rfl ?_;cbv;have e0:=zey (k28.1);subst e0;cbv;all_goals trivial
  case' refine_2 =>
   refine .z [0] (hM _ _ _ _ _ (k27.2.2.2.1)) rfl rfl rfl ?_;cbv;refine .z [0] (hM _ _ _ _ _ (k27.2.2.2.2)) rfl rfl rfl ?_;cbv;refine oE (zkn (k27.1)) (fun k37=>?_) (fun k37=>?_)
   case' refine_1 =>
    have ek37:=k37.2;cbv;simp only [ek37];cbv;have kk39:=zzw h 0 (by decide) zdj c (k27.2.2.1)
    simp only [rdr,ek37] at kk39;refine .z [0] (hM _ _ _ _ _ (kk39)) rfl rfl rfl ?_;cbv;refine xE (AtP.next h (zag k27.2.2.1)) fun bk40 k40=>?_
    have dk40:(List.drop 1 l).length < (l).length:=by have:=zag k27.2.2.1;rw [lLD];omega
    have ak40:=zcg hE k40.2.2.1 k40.2.2.2 k40.2.1;cbv;simp only [ak40];cbv;have hk41:=k37.1;rw [k27.2.2.1] at hk41;simp only [if_true] at hk41;refine oE (zc1 k40.1 zbo c hk41) (fun k42=>xE k42 fun bk42 k42=>?_) (fun k42=>?_)
    case' refine_2 =>
     have kk43:=k42.2;simp only [rdr,ek37] at kk43;refine .z [0] (hM _ _ _ _ _ (kk43)) rfl rfl rfl ?_;cbv;have e0:=k42.1;subst e0;cbv;all_goals trivial
    have kk44:=k42.2.2.2.2;simp only [rdr,ek37] at kk44;refine .z [0] (hM _ _ _ _ _ (kk44)) rfl rfl rfl ?_;cbv;have e0:=okE (k42.2.1);subst e0;simp only [k42.1.place,nd,ndN,ndO,za8,zao,zae,lCA,lNA];cbv;all_goals trivial
   have ek37:=k37.2;cbv;simp only [ek37];cbv;have kk45:=upM (zch LR a c);simp only [rdr,ek37] at kk45;refine .z [0] (hM _ _ _ _ _ (kk45)) rfl rfl rfl ?_;cbv;have e0:=zey (k37.1);subst e0;cbv;all_goals trivial
  refine .z [0] (hM _ _ _ _ _ (k27.2.2.2.1)) rfl rfl rfl ?_;cbv;refine .z [0] (hM _ _ _ _ _ (k27.2.2.2.2)) rfl rfl rfl ?_;cbv;refine oE (zcm h zsy c k27.1) (fun k46=>xE k46 fun bk46 k46=>?_) (fun k46=>?_)
  case' refine_1 =>
   refine .z [0] (hM _ _ _ _ _ (k46.2.2.2.2)) rfl rfl rfl ?_;cbv;refine oE (ndS (L:=(l.drop 1)) (c:=c) (ih (.assign c (l.drop 1)) (by simp only [Sy.meas,Sy.l,Sy.rank];omega)) rfl rfl rfl rfl rfl rfl k46.1 k46.2.1) (fun k47=>xE k47 fun xk47 k47=>xE k47 fun lk47 k47=>xE k47 fun bk47 k47=>xE k47 fun q1k47 k47=>xE k47 fun q2k47 k47=>xE k47 fun q3k47 k47=>xE k47 fun q4k47 k47=>xE k47 fun q5k47 k47=>?_) (fun k47=>?_)
   case' refine_2 =>
    refine .z [0] (hM _ _ _ _ _ (k47.2)) rfl rfl rfl ?_;cbv;have e0:=k47.1;subst e0;cbv;all_goals trivial
   refine .z [0] (hM _ _ _ _ _ (k47.2.2.2.2)) rfl rfl rfl ?_;cbv;have ok47:=k47.2.2.2.1.one;cbv at ok47;cbv;simp only [ok47];cbv;refine oE (zc1 k47.1 zbo c k47.2.1) (fun k48=>xE k48 fun bk48 k48=>?_) (fun k48=>?_)
   case' refine_2 =>
    refine .z [0] (hM _ _ _ _ _ (k48.2)) rfl rfl rfl ?_;cbv;have e0:=k48.1;subst e0;cbv;all_goals trivial
   refine .z [0] (hM _ _ _ _ _ (k48.2.2.2.2)) rfl rfl rfl ?_;cbv;have e0:=okE (k48.2.1);subst e0;simp only [k48.1.place,nd,ndN,ndO,za8,zao,zae,lCA,lNA,k47.2.2.2.1.row];cbv
   repeat (first|(refine ⟨(pr _ _ rfl),?_⟩;cbv)|(simp only [sb1,sb2,sb3];cbv))
   all_goals trivial
  refine .z [0] (hM _ _ _ _ _ (k46.2.2)) rfl rfl rfl ?_;cbv;refine oE (zcm h wTry c k46.1) (fun k49=>xE k49 fun bk49 k49=>?_) (fun k49=>?_)
  case' refine_1 =>
   refine .z [0] (hM _ _ _ _ _ (k49.2.2.2.2)) rfl rfl rfl ?_;cbv;refine oE (ndS (L:=(l.drop 1)) (c:=c) (ih (.tryS c (l.drop 1)) (by simp only [Sy.meas,Sy.l,Sy.rank];omega)) rfl rfl rfl rfl rfl rfl k49.1 k49.2.1) (fun k50=>xE k50 fun xk50 k50=>xE k50 fun lk50 k50=>xE k50 fun bk50 k50=>xE k50 fun q1k50 k50=>xE k50 fun q2k50 k50=>xE k50 fun q3k50 k50=>xE k50 fun q4k50 k50=>xE k50 fun q5k50 k50=>?_) (fun k50=>?_)
   case' refine_2 =>
    refine .z [0] (hM _ _ _ _ _ (k50.2)) rfl rfl rfl ?_;cbv;have e0:=k50.1;subst e0;cbv;all_goals trivial
   refine .z [0] (hM _ _ _ _ _ (k50.2.2.2.2)) rfl rfl rfl ?_;cbv;have ok50:=k50.2.2.2.1.one;cbv at ok50;cbv;simp only [ok50];cbv;have e0:=okE (k50.2.1);subst e0;simp only [k50.1.place,nd,ndN,ndO,za8,zao,zae,lCA,lNA,k50.2.2.2.1.row];cbv;all_goals trivial
  refine .z [0] (hM _ _ _ _ _ (k49.2.2)) rfl rfl rfl ?_;cbv;have e0:=okE (k49.1);subst e0;simp only [h.place,nd,ndN,ndO,za8,zao,zae,lCA,lNA];cbv;all_goals trivial
end
end Go.Proofs.YtcfecmeocimclaaGreatDoor
