/- Own work: the walks of postfix,unary. -/
import Derived.Test.YtcfecmeocimclaaGreatDoorYAA0
import Derived.Test.YtcfecmeocimclaaGreatDoorYAHF
namespace Go.Proofs.YtcfecmeocimclaaGreatDoor
set_option linter.unusedSimpArgs false
set_option linter.unusedSectionVars false
set_option maxRecDepth 100000
open Go.RowKit
section
variable {n:Int} {toks:List Tk} {LR:List (List PV)} {l:Ts}
set_option maxHeartbeats 4000000 in
theorem zup {c:Cx} (ih:∀ s':Sy,s'.meas < (Sy.postf c l).meas->zd0 n toks LR s'):zd0 n toks LR (.postf c l):=by
 intro f hf a h o ho
 cases hf
 rw [zac] at ho;change zel ev c l=some o at ho;unfold zel at ho;change AtP n toks LR a l at h;show MP _ (.own 0 0 :: []) [rdr LR a c] (rOf o) (hOf toks LR c o);refine zad zaa (f:=108) Tryz.func108 rfl (by kernel_rfl) (oT (by kernel_rfl)) fun tags htl=>?_
 match tags,htl with
 | [t0],_ =>
  refine Seg.ofM zaa mixed (fun _=>0) (fun _=>[]) (fun _ _=>0) (by kernel_rfl) (fun E=>za0 E tyT Tryz.f108.results.toList [t0] (rOf o) (hOf toks LR c o)) fun P G E hc hM hE=>?_
  have fO:=zje hE;have sb1:=fO.s1;have sb2:=fO.s2;have sb3:=fO.s3;have ap2:=fO.a2;have ap3:=fO.a3;have an2:=fO.n2;have an3:=fO.n3;have rm:=fun k m b h1 h2=>fO.room k m b h1 h2
  have pr:=fun k rs h=>fO.pre k rs h
  cbv;refine oE (ndS (L:=l) (c:=c) (ih (.chain c l) (by simp only [Sy.meas,Sy.l,Sy.rank];omega)) rfl rfl rfl rfl rfl rfl h ho) (fun k1=>xE k1 fun xk1 k1=>xE k1 fun lk1 k1=>xE k1 fun bk1 k1=>xE k1 fun q1k1 k1=>xE k1 fun q2k1 k1=>xE k1 fun q3k1 k1=>xE k1 fun q4k1 k1=>xE k1 fun q5k1 k1=>?_) (fun k1=>?_)
  case' refine_2 =>
   refine .z [0] (hM _ _ _ _ _ (k1.2)) rfl rfl rfl ?_;cbv;have e0:=k1.1;subst e0;cbv;all_goals trivial
  refine .z [0] (hM _ _ _ _ _ (k1.2.2.2.2)) rfl rfl rfl ?_;cbv;have ok1:=k1.2.2.2.1.one;cbv at ok1;cbv;simp only [ok1];cbv;refine xE (ziq k1.1 0 (by decide) c) fun Kk2 k2=>xE k2 fun Tk2 k2=>xE k2 fun zk2 k2=>?_
  refine .z [0] (hM _ _ _ _ _ (k2.2.2)) rfl rfl rfl ?_;cbv;refine oE (zm2 (k1.2.1)) (fun k3=>?_) (fun k3=>?_)
  case' refine_1 =>
   have ek3:decide (Kk2=5)=true:=by rw [<-k2.1];exact dT k3.1
   cbv
   repeat (simp only [ek3];cbv)
   refine xE (zqm _ k2.2.1 28 2 (by decide) (by decide) 28 29 rfl (by decide)) fun Fk4 k4=>?_
   refine ⟨_,hc _ _ _ k4.2,?_⟩;cbv;refine oE (zm2 (k3.2)) (fun k5=>?_) (fun k5=>?_)
   case' refine_1 =>
    have ek5:decide (Fk4=0)=true:=by rw [<-k4.1];exact dT k5.1
    cbv
    repeat (first|(simp only [ek5];cbv)|(simp only [ok1];cbv))
    have e0:=okE (k5.2);subst e0;simp only [k1.1.place,nd,ndN,ndO,za8,zao,zae,lCA,lNA,k1.2.2.2.1.row,k4.1,k2.2.1];cbv;all_goals trivial
   have ek5:decide (Fk4=0)=false:=by rw [<-k4.1];exact dF k5.1
   cbv
   repeat (simp only [ek5];cbv)
   refine oE (zkn (k5.2)) (fun k6=>?_) (fun k6=>?_)
   case' refine_1 =>
    have tk6:=upL (zdd xk1 k1.2.2.2.1);rw [k6.2] at tk6;refine ⟨_,hc _ _ _ tk6,?_⟩;cbv;simp only [ok1];cbv;refine xE (⟨_,rfl⟩:∃ G,Fk4 + 100=G) fun G hG=>?_
    have eg:E.wadd .i64 Fk4 100=G:=by
     have hb:=z1n (tx lk1 0) 28 2;rw [k4.1] at hb;rw [hE,<- hG];exact zaf (by omega) (by omega)
    cbv;simp only [eg];cbv;refine xE (AtP.next k1.1 (zaw (k3.1) (by decide))) fun bk7 k7=>?_
    have dk7:(List.drop 1 lk1).length < (lk1).length:=by have:=zaw (k3.1) (by decide);rw [lLD];omega
    have ak7:=zcg hE k7.2.2.1 k7.2.2.2 k7.2.1;cbv;simp only [ak7];cbv;have e0:=okE (k6.1);subst e0;simp only [k7.1.place,nd,ndN,ndO,za8,zao,zae,lCA,lNA,k1.2.2.2.1.row,hG,k4.1,k2.2.1];cbv
    repeat (first|(refine ⟨(pr _ _ rfl),?_⟩;cbv)|(simp only [sb1,sb2,sb3];cbv))
    all_goals trivial
   have tk6:=upL (zdd xk1 k1.2.2.2.1);rw [k6.2] at tk6;refine ⟨_,hc _ _ _ tk6,?_⟩;cbv;refine .z [0] (hM _ _ _ _ _ (upM (zch LR bk1 c))) rfl rfl rfl ?_;cbv;have e0:=zey (k6.1);subst e0;cbv;all_goals trivial
  have ek3:decide (Kk2=5)=false:=by rw [<-k2.1];exact dF k3.1
  cbv
  repeat (first|(simp only [ek3];cbv)|(simp only [ok1];cbv))
  have e0:=okE (k3.2);subst e0;simp only [k1.1.place,nd,ndN,ndO,za8,zao,zae,lCA,lNA,k1.2.2.2.1.row,k2.2.1];cbv;all_goals trivial
set_option maxHeartbeats 4000000 in
theorem zug {c:Cx} (ih:∀ s':Sy,s'.meas < (Sy.unary c l).meas->zd0 n toks LR s'):zd0 n toks LR (.unary c l):=by
 intro f hf a h o ho
 cases hf
 rw [zac] at ho;change zdk ev c l=some o at ho;unfold zdk at ho;change AtP n toks LR a l at h;show MP _ (.own 0 0 :: []) [rdr LR a c] (rOf o) (hOf toks LR c o);refine zad zaa (f:=90) Tryz.func90 rfl (by kernel_rfl) (oT (by kernel_rfl)) fun tags htl=>?_
 match tags,htl with
 | [t0],_ =>
  refine Seg.ofM zaa mixed (fun _=>0) (fun _=>[]) (fun _ _=>0) (by kernel_rfl) (fun E=>za0 E tyT Tryz.f90.results.toList [t0] (rOf o) (hOf toks LR c o)) fun P G E hc hM hE=>?_
  have fO:=zje hE;have sb1:=fO.s1;have sb2:=fO.s2;have sb3:=fO.s3;have ap2:=fO.a2;have ap3:=fO.a3;have an2:=fO.n2;have an3:=fO.n3;have rm:=fun k m b h1 h2=>fO.room k m b h1 h2
  have pr:=fun k rs h=>fO.pre k rs h
  cbv;refine xE (ziq h 0 (by decide) c) fun Kk1 k1=>xE k1 fun Tk1 k1=>xE k1 fun zk1 k1=>?_
  refine .z [0] (hM _ _ _ _ _ (k1.2.2)) rfl rfl rfl ?_;cbv;simp only [sb1,sb2,sb3];cbv;refine oE (or2S (ho)) (fun k2=>?_) (fun k2=>oE k2 (fun k2=>?_) (fun k2=>?_))
  case' refine_1 =>
   have ek25:decide (Kk1=5)=true:=by rw [<-k1.1];exact dT k2.2
   cbv;simp only [ek25];cbv;refine oE (zm2 (k2.1)) (fun k3=>?_) (fun k3=>?_)
   case' refine_1 =>
    have ek3:E.eq Tk1 (bL zni)=true:=by rw [hE,<- k1.2.1];exact dT (congrArg bL k3.1)
    cbv at ek3;cbv;simp only [ek3];cbv;refine oE (zkn (k3.2)) (fun k4=>?_) (fun k4=>?_)
    case' refine_1 =>
     have ek4:=k4.2;cbv;simp only [ek4];cbv;refine xE (AtP.next h (zaw (k2.2) (by decide))) fun bk5 k5=>?_
     have dk5:(List.drop 1 l).length < (l).length:=by have:=zaw (k2.2) (by decide);rw [lLD];omega
     have ak5:=zcg hE k5.2.2.1 k5.2.2.2 k5.2.1;cbv;simp only [ak5];cbv;refine oE (ndS (L:=(l.drop 1)) (c:=c) (ih (.unary c (l.drop 1)) (by simp only [Sy.meas,Sy.l,Sy.rank];omega)) rfl rfl rfl rfl rfl rfl k5.1 k4.1) (fun k6=>xE k6 fun xk6 k6=>xE k6 fun lk6 k6=>xE k6 fun bk6 k6=>xE k6 fun q1k6 k6=>xE k6 fun q2k6 k6=>xE k6 fun q3k6 k6=>xE k6 fun q4k6 k6=>xE k6 fun q5k6 k6=>?_) (fun k6=>?_)
     case' refine_2 =>
      have kk7:=k6.2;simp only [rdr,ek4] at kk7;refine .z [0] (hM _ _ _ _ _ (kk7)) rfl rfl rfl ?_;cbv;have e0:=k6.1;subst e0;cbv;all_goals trivial
     have kk8:=k6.2.2.2.2;simp only [rdr,ek4] at kk8;refine .z [0] (hM _ _ _ _ _ (kk8)) rfl rfl rfl ?_;cbv;have ok6:=k6.2.2.2.1.one;cbv at ok6;cbv
     repeat (first|(simp only [ek4];cbv)|(simp only [ok6];cbv))
     have e0:=okE (k6.2.1);subst e0;simp only [k6.1.place,nd,ndN,ndO,za8,zao,zae,lCA,lNA,k6.2.2.2.1.row,k1.2.1];cbv
     repeat (first|(refine ⟨(pr _ _ rfl),?_⟩;cbv)|(simp only [sb1,sb2,sb3];cbv))
     all_goals trivial
    have ek4:=k4.2;cbv;simp only [ek4];cbv;have kk9:=upM (zch LR a c);simp only [rdr,ek4] at kk9;refine .z [0] (hM _ _ _ _ _ (kk9)) rfl rfl rfl ?_;cbv;have e0:=zey (k4.1);subst e0;cbv;all_goals trivial
   have ek3:E.eq Tk1 (bL zni)=false:=by rw [hE,<- k1.2.1];exact dF fun e=>k3.1 (zub e)
   cbv at ek3;cbv
   repeat (simp only [ek3];cbv)
   refine xE (zqm _ k1.2.1 28 2 (by decide) (by decide) 28 29 rfl (by decide)) fun Fk10 k10=>?_
   refine ⟨_,hc _ _ _ k10.2,?_⟩;cbv;refine oE (zm2 (k3.2)) (fun k11=>?_) (fun k11=>?_)
   case' refine_1 =>
    have ek11:decide (Fk10=0)=false:=by rw [<-k10.1];exact dF k11.1
    cbv;simp only [ek11];cbv;refine xE (AtP.next h (zaw (k2.2) (by decide))) fun bk12 k12=>?_
    have dk12:(List.drop 1 l).length < (l).length:=by have:=zaw (k2.2) (by decide);rw [lLD];omega
    have ak12:=zcg hE k12.2.2.1 k12.2.2.2 k12.2.1;cbv;simp only [ak12];cbv;refine oE (ndS (L:=(l.drop 1)) (c:=c) (ih (.unary c (l.drop 1)) (by simp only [Sy.meas,Sy.l,Sy.rank];omega)) rfl rfl rfl rfl rfl rfl k12.1 k11.2) (fun k13=>xE k13 fun xk13 k13=>xE k13 fun lk13 k13=>xE k13 fun bk13 k13=>xE k13 fun q1k13 k13=>xE k13 fun q2k13 k13=>xE k13 fun q3k13 k13=>xE k13 fun q4k13 k13=>xE k13 fun q5k13 k13=>?_) (fun k13=>?_)
    case' refine_2 =>
     refine .z [0] (hM _ _ _ _ _ (k13.2)) rfl rfl rfl ?_;cbv;have e0:=k13.1;subst e0;cbv;all_goals trivial
    refine .z [0] (hM _ _ _ _ _ (k13.2.2.2.2)) rfl rfl rfl ?_;cbv;have ok13:=k13.2.2.2.1.one;cbv at ok13;cbv
    repeat (simp only [ok13];cbv)
    refine oE (zkn (k13.2.1)) (fun k14=>?_) (fun k14=>?_)
    case' refine_1 =>
     have tk14:=upL (zdd xk13 k13.2.2.2.1);rw [k14.2] at tk14;refine ⟨_,hc _ _ _ tk14,?_⟩;cbv;simp only [ok13];cbv;have e0:=okE (k14.1);subst e0;simp only [k13.1.place,nd,ndN,ndO,za8,zao,zae,lCA,lNA,k13.2.2.2.1.row,k10.1,k1.2.1];cbv
     repeat (first|(refine ⟨(pr _ _ rfl),?_⟩;cbv)|(simp only [sb1,sb2,sb3];cbv))
     all_goals trivial
    have tk14:=upL (zdd xk13 k13.2.2.2.1);rw [k14.2] at tk14;refine ⟨_,hc _ _ _ tk14,?_⟩;cbv;refine .z [0] (hM _ _ _ _ _ (upM (zch LR bk13 c))) rfl rfl rfl ?_;cbv;have e0:=zey (k14.1);subst e0;cbv;all_goals trivial
   have ek11:decide (Fk10=0)=true:=by rw [<-k10.1];exact dT (Decidable.not_not.1 k11.1)
   cbv
   repeat (simp only [ek11];cbv)
   refine xE (zqm _ k1.2.1 1 5 (by decide) (by decide) 1 5 rfl (by decide)) fun Fk15 k15=>?_
   refine ⟨_,hc _ _ _ k15.2,?_⟩;cbv;refine oE (zm2 (k11.2)) (fun k16=>?_) (fun k16=>?_)
   case' refine_1 =>
    have ek16:decide (Fk15=0)=true:=by rw [<-k15.1];exact dT k16.1
    cbv;simp only [ek16];cbv;refine oE (zlw (L:=l) (c:=c) (ih (.postf c l) (by simp only [Sy.meas,Sy.l,Sy.rank];omega)) rfl rfl rfl rfl rfl h k16.2) (fun k17=>xE k17 fun xk17 k17=>xE k17 fun lk17 k17=>xE k17 fun bk17 k17=>xE k17 fun q1k17 k17=>xE k17 fun q2k17 k17=>xE k17 fun q3k17 k17=>xE k17 fun q4k17 k17=>xE k17 fun q5k17 k17=>?_) (fun k17=>?_)
    case' refine_2 =>
     refine .z [0] (hM _ _ _ _ _ (k17.2)) rfl rfl rfl ?_;cbv;have e0:=k17.1;subst e0;cbv;all_goals trivial
    refine .z [0] (hM _ _ _ _ _ (k17.2.2.2)) rfl rfl rfl ?_;cbv;have ok17:=k17.2.2.1.one;cbv at ok17;cbv;simp only [ok17];cbv;have e0:=k17.2.1;subst e0;simp only [k17.1.place,k17.2.2.1.row];cbv;all_goals trivial
   have ek16:decide (Fk15=0)=false:=by rw [<-k15.1];exact dF k16.1
   cbv;simp only [ek16];cbv;refine xE (AtP.next h (zaw (k2.2) (by decide))) fun bk18 k18=>?_
   have dk18:(List.drop 1 l).length < (l).length:=by have:=zaw (k2.2) (by decide);rw [lLD];omega
   have ak18:=zcg hE k18.2.2.1 k18.2.2.2 k18.2.1;cbv;simp only [ak18];cbv;refine oE (ndS (L:=(l.drop 1)) (c:=c) (ih (.unary c (l.drop 1)) (by simp only [Sy.meas,Sy.l,Sy.rank];omega)) rfl rfl rfl rfl rfl rfl k18.1 k16.2) (fun k19=>xE k19 fun xk19 k19=>xE k19 fun lk19 k19=>xE k19 fun bk19 k19=>xE k19 fun q1k19 k19=>xE k19 fun q2k19 k19=>xE k19 fun q3k19 k19=>xE k19 fun q4k19 k19=>xE k19 fun q5k19 k19=>?_) (fun k19=>?_)
   case' refine_2 =>
    refine .z [0] (hM _ _ _ _ _ (k19.2)) rfl rfl rfl ?_;cbv;have e0:=k19.1;subst e0;cbv;all_goals trivial
   refine .z [0] (hM _ _ _ _ _ (k19.2.2.2.2)) rfl rfl rfl ?_;cbv;have ok19:=k19.2.2.2.1.one;cbv at ok19;cbv
   repeat (simp only [ok19];cbv)
   refine oE (z84 (k19.2.1)) (fun k20=>?_) (fun k20=>oE k20 (fun k20=>?_) (fun k20=>oE k20 (fun k20=>?_) (fun k20=>?_)))
   case' refine_1 =>
    have efk20:decide (Fk15=5)=false:=by rw [<-k15.1];exact dF k20.2
    cbv
    repeat (first|(simp only [efk20];cbv)|(simp only [ok19];cbv))
    have e0:=okE (k20.1);subst e0;simp only [k19.1.place,nd,ndN,ndO,za8,zao,zae,lCA,lNA,k19.2.2.2.1.row,k15.1,k1.2.1];cbv
    repeat (first|(refine ⟨(pr _ _ rfl),?_⟩;cbv)|(simp only [sb1,sb2,sb3];cbv))
    all_goals trivial
   case' refine_2 =>
    have efk20:decide (Fk15=5)=true:=by rw [<-k15.1];exact dT k20.2.1
    have eqk2018:decide (q1k19=18)=true:=by rw [<-k19.2.2.2.1.kind];exact dT k20.2.2
    cbv
    repeat (first|(simp only [efk20];cbv)|(simp only [eqk2018];cbv)|(simp only [ok19];cbv))
    have e0:=okE (k20.1);subst e0;simp only [k19.1.place,nd,ndN,ndO,za8,zao,zae,lCA,lNA,k19.2.2.2.1.row,k15.1,k1.2.1];cbv
    repeat (first|(refine ⟨(pr _ _ rfl),?_⟩;cbv)|(simp only [sb1,sb2,sb3];cbv))
    all_goals trivial
   case' refine_3 =>
    have efk20:decide (Fk15=5)=true:=by rw [<-k15.1];exact dT k20.2.1
    have eqk2018:decide (q1k19=18)=false:=by rw [<-k19.2.2.2.1.kind];exact dF k20.2.2.1
    have eqk2019:decide (q1k19=19)=true:=by rw [<-k19.2.2.2.1.kind];exact dT k20.2.2.2
    cbv
    repeat (first|(simp only [efk20];cbv)|(simp only [eqk2018];cbv)|(simp only [eqk2019];cbv)|(simp only [ok19];cbv))
    have e0:=okE (k20.1);subst e0;simp only [k19.1.place,nd,ndN,ndO,za8,zao,zae,lCA,lNA,k19.2.2.2.1.row,k15.1,k1.2.1];cbv
    repeat (first|(refine ⟨(pr _ _ rfl),?_⟩;cbv)|(simp only [sb1,sb2,sb3];cbv))
    all_goals trivial
   have efk20:decide (Fk15=5)=true:=by rw [<-k15.1];exact dT k20.2.1
   have eqk2018:decide (q1k19=18)=false:=by rw [<-k19.2.2.2.1.kind];exact dF k20.2.2.1
   have eqk2019:decide (q1k19=19)=false:=by rw [<-k19.2.2.2.1.kind];exact dF k20.2.2.2
   cbv
   repeat (first|(simp only [efk20];cbv)|(simp only [eqk2018];cbv)|(simp only [eqk2019];cbv))
   refine .z [0] (hM _ _ _ _ _ (upM (zch LR bk19 c))) rfl rfl rfl ?_;cbv;have e0:=zey (k20.1);subst e0;cbv;all_goals trivial
  case' refine_2 =>
   have ek25:decide (Kk1=5)=false:=by rw [<-k1.1];exact dF k2.2.1
   have ek22:decide (Kk1=2)=true:=by rw [<-k1.1];exact dT k2.2.2
   cbv
   repeat (first|(simp only [ek25];cbv)|(simp only [ek22];cbv))
   refine oE (zm2 (k2.1)) (fun k21=>?_) (fun k21=>?_)
   case' refine_1 =>
    have ek21:E.eq Tk1 (bL zni)=true:=by rw [hE,<- k1.2.1];exact dT (congrArg bL k21.1)
    cbv at ek21;cbv;simp only [ek21];cbv;refine oE (zkn (k21.2)) (fun k22=>?_) (fun k22=>?_)
    case' refine_1 =>
     have ek22:=k22.2;cbv;simp only [ek22];cbv;refine xE (AtP.next h (zaw (k2.2.2) (by decide))) fun bk23 k23=>?_
     have dk23:(List.drop 1 l).length < (l).length:=by have:=zaw (k2.2.2) (by decide);rw [lLD];omega
     have ak23:=zcg hE k23.2.2.1 k23.2.2.2 k23.2.1;cbv;simp only [ak23];cbv;refine oE (ndS (L:=(l.drop 1)) (c:=c) (ih (.unary c (l.drop 1)) (by simp only [Sy.meas,Sy.l,Sy.rank];omega)) rfl rfl rfl rfl rfl rfl k23.1 k22.1) (fun k24=>xE k24 fun xk24 k24=>xE k24 fun lk24 k24=>xE k24 fun bk24 k24=>xE k24 fun q1k24 k24=>xE k24 fun q2k24 k24=>xE k24 fun q3k24 k24=>xE k24 fun q4k24 k24=>xE k24 fun q5k24 k24=>?_) (fun k24=>?_)
     case' refine_2 =>
      have kk25:=k24.2;simp only [rdr,ek22] at kk25;refine .z [0] (hM _ _ _ _ _ (kk25)) rfl rfl rfl ?_;cbv;have e0:=k24.1;subst e0;cbv;all_goals trivial
     have kk26:=k24.2.2.2.2;simp only [rdr,ek22] at kk26;refine .z [0] (hM _ _ _ _ _ (kk26)) rfl rfl rfl ?_;cbv;have ok24:=k24.2.2.2.1.one;cbv at ok24;cbv
     repeat (first|(simp only [ek22];cbv)|(simp only [ok24];cbv))
     have e0:=okE (k24.2.1);subst e0;simp only [k24.1.place,nd,ndN,ndO,za8,zao,zae,lCA,lNA,k24.2.2.2.1.row,k1.2.1];cbv
     repeat (first|(refine ⟨(pr _ _ rfl),?_⟩;cbv)|(simp only [sb1,sb2,sb3];cbv))
     all_goals trivial
    have ek22:=k22.2;cbv;simp only [ek22];cbv;have kk27:=upM (zch LR a c);simp only [rdr,ek22] at kk27;refine .z [0] (hM _ _ _ _ _ (kk27)) rfl rfl rfl ?_;cbv;have e0:=zey (k22.1);subst e0;cbv;all_goals trivial
   have ek21:E.eq Tk1 (bL zni)=false:=by rw [hE,<- k1.2.1];exact dF fun e=>k21.1 (zub e)
   cbv at ek21;cbv
   repeat (simp only [ek21];cbv)
   refine xE (zqm _ k1.2.1 28 2 (by decide) (by decide) 28 29 rfl (by decide)) fun Fk28 k28=>?_
   refine ⟨_,hc _ _ _ k28.2,?_⟩;cbv;refine oE (zm2 (k21.2)) (fun k29=>?_) (fun k29=>?_)
   case' refine_1 =>
    have ek29:decide (Fk28=0)=false:=by rw [<-k28.1];exact dF k29.1
    cbv;simp only [ek29];cbv;refine xE (AtP.next h (zaw (k2.2.2) (by decide))) fun bk30 k30=>?_
    have dk30:(List.drop 1 l).length < (l).length:=by have:=zaw (k2.2.2) (by decide);rw [lLD];omega
    have ak30:=zcg hE k30.2.2.1 k30.2.2.2 k30.2.1;cbv;simp only [ak30];cbv;refine oE (ndS (L:=(l.drop 1)) (c:=c) (ih (.unary c (l.drop 1)) (by simp only [Sy.meas,Sy.l,Sy.rank];omega)) rfl rfl rfl rfl rfl rfl k30.1 k29.2) (fun k31=>xE k31 fun xk31 k31=>xE k31 fun lk31 k31=>xE k31 fun bk31 k31=>xE k31 fun q1k31 k31=>xE k31 fun q2k31 k31=>xE k31 fun q3k31 k31=>xE k31 fun q4k31 k31=>xE k31 fun q5k31 k31=>?_) (fun k31=>?_)
    case' refine_2 =>
     refine .z [0] (hM _ _ _ _ _ (k31.2)) rfl rfl rfl ?_;cbv;have e0:=k31.1;subst e0;cbv;all_goals trivial
    refine .z [0] (hM _ _ _ _ _ (k31.2.2.2.2)) rfl rfl rfl ?_;cbv;have ok31:=k31.2.2.2.1.one;cbv at ok31;cbv
    repeat (simp only [ok31];cbv)
    refine oE (zkn (k31.2.1)) (fun k32=>?_) (fun k32=>?_)
    case' refine_1 =>
     have tk32:=upL (zdd xk31 k31.2.2.2.1);rw [k32.2] at tk32;refine ⟨_,hc _ _ _ tk32,?_⟩;cbv;simp only [ok31];cbv;have e0:=okE (k32.1);subst e0;simp only [k31.1.place,nd,ndN,ndO,za8,zao,zae,lCA,lNA,k31.2.2.2.1.row,k28.1,k1.2.1];cbv
     repeat (first|(refine ⟨(pr _ _ rfl),?_⟩;cbv)|(simp only [sb1,sb2,sb3];cbv))
     all_goals trivial
    have tk32:=upL (zdd xk31 k31.2.2.2.1);rw [k32.2] at tk32;refine ⟨_,hc _ _ _ tk32,?_⟩;cbv;refine .z [0] (hM _ _ _ _ _ (upM (zch LR bk31 c))) rfl rfl rfl ?_;cbv;have e0:=zey (k32.1);subst e0;cbv;all_goals trivial
   have ek29:decide (Fk28=0)=true:=by rw [<-k28.1];exact dT (Decidable.not_not.1 k29.1)
   cbv
   repeat (simp only [ek29];cbv)
   refine xE (zqm _ k1.2.1 1 5 (by decide) (by decide) 1 5 rfl (by decide)) fun Fk33 k33=>?_
   refine ⟨_,hc _ _ _ k33.2,?_⟩;cbv;refine oE (zm2 (k29.2)) (fun k34=>?_) (fun k34=>?_)
   case' refine_1 =>
    have ek34:decide (Fk33=0)=true:=by rw [<-k33.1];exact dT k34.1
    cbv;simp only [ek34];cbv;refine oE (zlw (L:=l) (c:=c) (ih (.postf c l) (by simp only [Sy.meas,Sy.l,Sy.rank];omega)) rfl rfl rfl rfl rfl h k34.2) (fun k35=>xE k35 fun xk35 k35=>xE k35 fun lk35 k35=>xE k35 fun bk35 k35=>xE k35 fun q1k35 k35=>xE k35 fun q2k35 k35=>xE k35 fun q3k35 k35=>xE k35 fun q4k35 k35=>xE k35 fun q5k35 k35=>?_) (fun k35=>?_)
    case' refine_2 =>
     refine .z [0] (hM _ _ _ _ _ (k35.2)) rfl rfl rfl ?_;cbv;have e0:=k35.1;subst e0;cbv;all_goals trivial
    refine .z [0] (hM _ _ _ _ _ (k35.2.2.2)) rfl rfl rfl ?_;cbv;have ok35:=k35.2.2.1.one;cbv at ok35;cbv;simp only [ok35];cbv;have e0:=k35.2.1;subst e0;simp only [k35.1.place,k35.2.2.1.row];cbv;all_goals trivial
   have ek34:decide (Fk33=0)=false:=by rw [<-k33.1];exact dF k34.1
   cbv;simp only [ek34];cbv;refine xE (AtP.next h (zaw (k2.2.2) (by decide))) fun bk36 k36=>?_
   have dk36:(List.drop 1 l).length < (l).length:=by have:=zaw (k2.2.2) (by decide);rw [lLD];omega
   have ak36:=zcg hE k36.2.2.1 k36.2.2.2 k36.2.1;cbv;simp only [ak36];cbv;refine oE (ndS (L:=(l.drop 1)) (c:=c) (ih (.unary c (l.drop 1)) (by simp only [Sy.meas,Sy.l,Sy.rank];omega)) rfl rfl rfl rfl rfl rfl k36.1 k34.2) (fun k37=>xE k37 fun xk37 k37=>xE k37 fun lk37 k37=>xE k37 fun bk37 k37=>xE k37 fun q1k37 k37=>xE k37 fun q2k37 k37=>xE k37 fun q3k37 k37=>xE k37 fun q4k37 k37=>xE k37 fun q5k37 k37=>?_) (fun k37=>?_)
   case' refine_2 =>
    refine .z [0] (hM _ _ _ _ _ (k37.2)) rfl rfl rfl ?_;cbv;have e0:=k37.1;subst e0;cbv;all_goals trivial
   refine .z [0] (hM _ _ _ _ _ (k37.2.2.2.2)) rfl rfl rfl ?_;cbv;have ok37:=k37.2.2.2.1.one;cbv at ok37;cbv
   repeat (simp only [ok37];cbv)
   refine oE (z84 (k37.2.1)) (fun k38=>?_) (fun k38=>oE k38 (fun k38=>?_) (fun k38=>oE k38 (fun k38=>?_) (fun k38=>?_)))
   case' refine_1 =>
    have efk38:decide (Fk33=5)=false:=by rw [<-k33.1];exact dF k38.2
    cbv
    repeat (first|(simp only [efk38];cbv)|(simp only [ok37];cbv))
    have e0:=okE (k38.1);subst e0;simp only [k37.1.place,nd,ndN,ndO,za8,zao,zae,lCA,lNA,k37.2.2.2.1.row,k33.1,k1.2.1];cbv
    repeat (first|(refine ⟨(pr _ _ rfl),?_⟩;cbv)|(simp only [sb1,sb2,sb3];cbv))
    all_goals trivial
   case' refine_2 =>
    have efk38:decide (Fk33=5)=true:=by rw [<-k33.1];exact dT k38.2.1
    have eqk3818:decide (q1k37=18)=true:=by rw [<-k37.2.2.2.1.kind];exact dT k38.2.2
    cbv
    repeat (first|(simp only [efk38];cbv)|(simp only [eqk3818];cbv)|(simp only [ok37];cbv))
    have e0:=okE (k38.1);subst e0;simp only [k37.1.place,nd,ndN,ndO,za8,zao,zae,lCA,lNA,k37.2.2.2.1.row,k33.1,k1.2.1];cbv
    repeat (first|(refine ⟨(pr _ _ rfl),?_⟩;cbv)|(simp only [sb1,sb2,sb3];cbv))
    all_goals trivial
   case' refine_3 =>
    have efk38:decide (Fk33=5)=true:=by rw [<-k33.1];exact dT k38.2.1
    have eqk3818:decide (q1k37=18)=false:=by rw [<-k37.2.2.2.1.kind];exact dF k38.2.2.1
    have eqk3819:decide (q1k37=19)=true:=by rw [<-k37.2.2.2.1.kind];exact dT k38.2.2.2
    cbv
    repeat (first|(simp only [efk38];cbv)|(simp only [eqk3818];cbv)|(simp only [eqk3819];cbv)|(simp only [ok37];cbv))
    have e0:=okE (k38.1);subst e0;simp only [k37.1.place,nd,ndN,ndO,za8,zao,zae,lCA,lNA,k37.2.2.2.1.row,k33.1,k1.2.1];cbv
    repeat (first|(refine ⟨(pr _ _ rfl),?_⟩;cbv)|(simp only [sb1,sb2,sb3];cbv))
    all_goals trivial
   have efk38:decide (Fk33=5)=true:=by rw [<-k33.1];exact dT k38.2.1
   have eqk3818:decide (q1k37=18)=false:=by rw [<-k37.2.2.2.1.kind];exact dF k38.2.2.1
   have eqk3819:decide (q1k37=19)=false:=by rw [<-k37.2.2.2.1.kind];exact dF k38.2.2.2
   cbv
   repeat (first|(simp only [efk38];cbv)|(simp only [eqk3818];cbv)|(simp only [eqk3819];cbv))
   refine .z [0] (hM _ _ _ _ _ (upM (zch LR bk37 c))) rfl rfl rfl ?_;cbv;have e0:=zey (k38.1);subst e0;cbv;all_goals trivial
  have ek25:decide (Kk1=5)=false:=by rw [<-k1.1];exact dF k2.2.1
  have ek22:decide (Kk1=2)=false:=by rw [<-k1.1];exact dF k2.2.2
  cbv
  repeat (first|(simp only [ek25];cbv)|(simp only [ek22];cbv))
  refine oE (zlw (L:=l) (c:=c) (ih (.postf c l) (by simp only [Sy.meas,Sy.l,Sy.rank];omega)) rfl rfl rfl rfl rfl h k2.1) (fun k39=>xE k39 fun xk39 k39=>xE k39 fun lk39 k39=>xE k39 fun bk39 k39=>xE k39 fun q1k39 k39=>xE k39 fun q2k39 k39=>xE k39 fun q3k39 k39=>xE k39 fun q4k39 k39=>xE k39 fun q5k39 k39=>?_) (fun k39=>?_)
  case' refine_2 =>
   refine .z [0] (hM _ _ _ _ _ (k39.2)) rfl rfl rfl ?_;cbv;have e0:=k39.1;subst e0;cbv;all_goals trivial
  refine .z [0] (hM _ _ _ _ _ (k39.2.2.2)) rfl rfl rfl ?_;cbv;have ok39:=k39.2.2.1.one;cbv at ok39;cbv;simp only [ok39];cbv;have e0:=k39.2.1;subst e0;simp only [k39.1.place,k39.2.2.1.row];cbv;all_goals trivial
end
/- Own work: the walks of link,field. -/
section
variable {n:Int} {toks:List Tk} {LR:List (List PV)} {l:Ts}
set_option maxHeartbeats 4000000 in
theorem zxx {c:Cx} {x:PT} (ih:∀ s':Sy,s'.meas < (Sy.link x c l).meas->zd0 n toks LR s'):zd0 n toks LR (.link x c l):=by
 intro f hf a h o ho
 cases hf
 rw [zac] at ho;change zhd ev x c l=some o at ho;unfold zhd at ho;change AtP n toks LR a l at h;show MP _ (.own 0 0 :: [.p (.agg (za8 x))]) [rdr LR a c] (rOf o) (hOf toks LR c o);obtain ⟨k0,i0,m0,nm0,KK0,hv⟩:=zih x;rw [hv.row];have o0:=hv.one;cbv at o0;refine zad zaa (f:=132) Tryz.func132 rfl (by kernel_rfl) (oT (by kernel_rfl)) fun tags htl=>?_
 match tags,htl with
 | [t0],_ =>
  refine Seg.ofM zaa mixed (fun _=>0) (fun _=>[]) (fun _ _=>0) (by kernel_rfl) (fun E=>za0 E tyT Tryz.f132.results.toList [t0] (rOf o) (hOf toks LR c o)) fun P G E hc hM hE=>?_
  have fO:=zje hE;have sb1:=fO.s1;have sb2:=fO.s2;have sb3:=fO.s3;have ap2:=fO.a2;have ap3:=fO.a3;have an2:=fO.n2;have an3:=fO.n3;have rm:=fun k m b h1 h2=>fO.room k m b h1 h2
  have pr:=fun k rs h=>fO.pre k rs h
  cbv;simp only [o0];cbv;refine oE (zcm h wDot c ho) (fun k1=>xE k1 fun bk1 k1=>?_) (fun k1=>?_)
  case' refine_1 =>
   refine .z [0] (hM _ _ _ _ _ (k1.2.2.2.2)) rfl rfl rfl ?_;cbv;refine xE (ziq k1.1 0 (by decide) c) fun Kk2 k2=>xE k2 fun Tk2 k2=>xE k2 fun zk2 k2=>?_
   refine .z [0] (hM _ _ _ _ _ (k2.2.2)) rfl rfl rfl ?_;cbv;simp only [o0];cbv;have hk3:=k1.2.1;rw [<-zr6 l 1 0,<- zrg l 1 0] at hk3;refine oE (or2S (hk3)) (fun k4=>?_) (fun k4=>oE k4 (fun k4=>?_) (fun k4=>?_))
   case' refine_1 =>
    have ek41:decide (Kk2=1)=true:=by rw [<-k2.1];exact dT k4.2
    cbv
    repeat (first|(simp only [ek41];cbv)|(simp only [o0];cbv))
    refine xE (AtP.next k1.1 (zaw (k4.2) (by decide))) fun bk5 k5=>?_
    have dk5:(List.drop 1 (l.drop 1)).length < ((l.drop 1)).length:=by have:=zaw (k4.2) (by decide);rw [lLD];omega
    have ak5:=zcg hE k5.2.2.1 k5.2.2.2 k5.2.1;cbv;simp only [ak5];cbv;have hk5:AtP n toks LR bk5 (List.drop 2 l):=by have:=k5.1;rw [lDD] at this;exact this
    have ddk5:(List.drop 2 l).length=(((l.drop 1).drop 1)).length:=by simp only [lLD];omega
    have e0:=okE (k4.1);subst e0;simp only [hk5.place,nd,ndN,ndO,za8,zao,zae,lCA,lNA,hv.row,k2.2.1];cbv
    repeat (first|(refine ⟨(pr _ _ rfl),?_⟩;cbv)|(simp only [sb1,sb2,sb3];cbv))
    all_goals trivial
   case' refine_2 =>
    have ek41:decide (Kk2=1)=false:=by rw [<-k2.1];exact dF k4.2.1
    have ek42:decide (Kk2=2)=true:=by rw [<-k2.1];exact dT k4.2.2
    cbv
    repeat (first|(simp only [ek41];cbv)|(simp only [ek42];cbv)|(simp only [o0];cbv))
    refine xE (AtP.next k1.1 (zaw (k4.2.2) (by decide))) fun bk6 k6=>?_
    have dk6:(List.drop 1 (l.drop 1)).length < ((l.drop 1)).length:=by have:=zaw (k4.2.2) (by decide);rw [lLD];omega
    have ak6:=zcg hE k6.2.2.1 k6.2.2.2 k6.2.1;cbv;simp only [ak6];cbv;have hk6:AtP n toks LR bk6 (List.drop 2 l):=by have:=k6.1;rw [lDD] at this;exact this
    have ddk6:(List.drop 2 l).length=(((l.drop 1).drop 1)).length:=by simp only [lLD];omega
    have e0:=okE (k4.1);subst e0;simp only [hk6.place,nd,ndN,ndO,za8,zao,zae,lCA,lNA,hv.row,k2.2.1];cbv
    repeat (first|(refine ⟨(pr _ _ rfl),?_⟩;cbv)|(simp only [sb1,sb2,sb3];cbv))
    all_goals trivial
   have ek41:decide (Kk2=1)=false:=by rw [<-k2.1];exact dF k4.2.1
   have ek42:decide (Kk2=2)=false:=by rw [<-k2.1];exact dF k4.2.2
   cbv
   repeat (first|(simp only [ek41];cbv)|(simp only [ek42];cbv))
   refine .z [0] (hM _ _ _ _ _ (upM (zch LR bk1 c))) rfl rfl rfl ?_;cbv;have e0:=zey (k4.1);subst e0;cbv;all_goals trivial
  refine .z [0] (hM _ _ _ _ _ (k1.2.2)) rfl rfl rfl ?_;cbv;refine oE (zcm h zng c k1.1) (fun k7=>xE k7 fun bk7 k7=>?_) (fun k7=>?_)
  case' refine_1 =>
   refine .z [0] (hM _ _ _ _ _ (k7.2.2.2.2)) rfl rfl rfl ?_;cbv;refine oE (ndS (L:=(l.drop 1)) (c:=c) (ih (.assign c (l.drop 1)) (by simp only [Sy.meas,Sy.l,Sy.rank];omega)) rfl rfl rfl rfl rfl rfl k7.1 k7.2.1) (fun k8=>xE k8 fun xk8 k8=>xE k8 fun lk8 k8=>xE k8 fun bk8 k8=>xE k8 fun q1k8 k8=>xE k8 fun q2k8 k8=>xE k8 fun q3k8 k8=>xE k8 fun q4k8 k8=>xE k8 fun q5k8 k8=>?_) (fun k8=>?_)
   case' refine_2 =>
    refine .z [0] (hM _ _ _ _ _ (k8.2)) rfl rfl rfl ?_;cbv;have e0:=k8.1;subst e0;cbv;all_goals trivial
   refine .z [0] (hM _ _ _ _ _ (k8.2.2.2.2)) rfl rfl rfl ?_;cbv;have ok8:=k8.2.2.2.1.one;cbv at ok8;cbv
   repeat (first|(simp only [o0];cbv)|(simp only [ok8];cbv))
   refine oE (zc1 k8.1 zpm c k8.2.1) (fun k9=>xE k9 fun bk9 k9=>?_) (fun k9=>?_)
   case' refine_2 =>
    refine .z [0] (hM _ _ _ _ _ (k9.2)) rfl rfl rfl ?_;cbv;have e0:=k9.1;subst e0;cbv;all_goals trivial
   refine .z [0] (hM _ _ _ _ _ (k9.2.2.2.2)) rfl rfl rfl ?_;cbv
   repeat (first|(simp only [o0];cbv)|(simp only [ok8];cbv))
   have e0:=okE (k9.2.1);subst e0;simp only [k9.1.place,nd,ndN,ndO,za8,zao,zae,lCA,lNA,hv.row,k8.2.2.2.1.row];cbv
   repeat (first|(refine ⟨(pr _ _ rfl),?_⟩;cbv)|(simp only [sb1,sb2,sb3];cbv))
   all_goals trivial
  refine .z [0] (hM _ _ _ _ _ (k7.2.2)) rfl rfl rfl ?_;cbv;simp only [o0];cbv;have e0:=okE (k7.1);subst e0;simp only [h.place,nd,ndN,ndO,za8,zao,zae,lCA,lNA,hv.row];cbv;all_goals trivial
set_option maxHeartbeats 4000000 in
theorem zvd {c:Cx} (ih:∀ s':Sy,s'.meas < (Sy.field c l).meas->zd0 n toks LR s'):zd0 n toks LR (.field c l):=by
 intro f hf a h o ho
 cases hf
 rw [zac] at ho;change ze8 ev c l=some o at ho;unfold ze8 at ho;change AtP n toks LR a l at h;show MP _ (.own 0 0 :: []) [rdr LR a c] (rOf o) (hOf toks LR c o);refine zad zaa (f:=156) Tryz.func156 rfl (by kernel_rfl) (oT (by kernel_rfl)) fun tags htl=>?_
 match tags,htl with
 | [t0],_ =>
  refine Seg.ofM zaa mixed (fun n=>match n with|5=>3|11=>5|_=>0) (fun n=>match n with|5=>[2]|11=>[3]|_=>[]) (fun n i=>match n,i with|5,2=>1|11,3=>1|11,4=>1|_,_=>0) (by kernel_rfl) (fun E=>za0 E tyT Tryz.f156.results.toList [t0] (rOf o) (hOf toks LR c o)) fun P G E hc hM hE=>?_
  have fO:=zje hE;have sb1:=fO.s1;have sb2:=fO.s2;have sb3:=fO.s3;have ap2:=fO.a2;have ap3:=fO.a3;have an2:=fO.n2;have an3:=fO.n3;have rm:=fun k m b h1 h2=>fO.room k m b h1 h2
  have pr:=fun k rs h=>fO.pre k rs h
  cbv;refine oE (zcm h zng c ho) (fun k1=>xE k1 fun bk1 k1=>?_) (fun k1=>?_)
  case' refine_1 =>
   refine .z [0] (hM _ _ _ _ _ (k1.2.2.2.2)) rfl rfl rfl ?_;cbv;refine oE (ndS (L:=(l.drop 1)) (c:=c) (ih (.assign c (l.drop 1)) (by simp only [Sy.meas,Sy.l,Sy.rank];omega)) rfl rfl rfl rfl rfl rfl k1.1 k1.2.1) (fun k2=>xE k2 fun xk2 k2=>xE k2 fun lk2 k2=>xE k2 fun bk2 k2=>xE k2 fun q1k2 k2=>xE k2 fun q2k2 k2=>xE k2 fun q3k2 k2=>xE k2 fun q4k2 k2=>xE k2 fun q5k2 k2=>?_) (fun k2=>?_)
   case' refine_2 =>
    refine .z [0] (hM _ _ _ _ _ (k2.2)) rfl rfl rfl ?_;cbv;have e0:=k2.1;subst e0;cbv;all_goals trivial
   refine .z [0] (hM _ _ _ _ _ (k2.2.2.2.2)) rfl rfl rfl ?_;cbv;have ok2:=k2.2.2.2.1.one;cbv at ok2;cbv;simp only [ok2];cbv;refine oE (zc1 k2.1 zpm c k2.2.1) (fun k3=>xE k3 fun bk3 k3=>?_) (fun k3=>?_)
   case' refine_2 =>
    refine .z [0] (hM _ _ _ _ _ (k3.2)) rfl rfl rfl ?_;cbv;have e0:=k3.1;subst e0;cbv;all_goals trivial
   refine .z [0] (hM _ _ _ _ _ (k3.2.2.2.2)) rfl rfl rfl ?_;cbv;refine oE (zc1 k3.1 zid c k3.2.1) (fun k4=>xE k4 fun bk4 k4=>?_) (fun k4=>?_)
   case' refine_2 =>
    refine .z [0] (hM _ _ _ _ _ (k4.2)) rfl rfl rfl ?_;cbv;have e0:=k4.1;subst e0;cbv;all_goals trivial
   refine .z [0] (hM _ _ _ _ _ (k4.2.2.2.2)) rfl rfl rfl ?_;cbv;refine oE (ndS (L:=((lk2.drop 1).drop 1)) (c:=c) (ih (.assign c ((lk2.drop 1).drop 1)) (by simp only [Sy.meas,Sy.l,Sy.rank];omega)) rfl rfl rfl rfl rfl rfl k4.1 k4.2.1) (fun k5=>xE k5 fun xk5 k5=>xE k5 fun lk5 k5=>xE k5 fun bk5 k5=>xE k5 fun q1k5 k5=>xE k5 fun q2k5 k5=>xE k5 fun q3k5 k5=>xE k5 fun q4k5 k5=>xE k5 fun q5k5 k5=>?_) (fun k5=>?_)
   case' refine_2 =>
    refine Or.inr ?_;refine .mk [0] _ _ _ _ (hM _ _ _ _ _ (k5.2)) rfl rfl rfl _ rfl ?_;cbv;have e0:=k5.1;subst e0;cbv;all_goals trivial
   refine Or.inl ?_;refine ⟨.mk trivial,?_⟩;refine .mk [0] _ _ _ _ (hM _ _ _ _ _ (k5.2.2.2.2)) rfl rfl rfl rfl ?_;cbv;have ok5:=k5.2.2.2.1.one;cbv at ok5;cbv
   repeat (first|(simp only [ok2];cbv)|(simp only [ok5];cbv))
   refine ⟨.mk (by repeat' (first|exact trivial|refine ⟨rfl,?_⟩)),?_⟩
   cbv;have e0:=okE (k5.2.1);subst e0;simp only [k5.1.place,nd,ndN,ndO,za8,zao,zae,lCA,lNA,k2.2.2.2.1.row,k5.2.2.2.1.row];cbv
   repeat (first|(refine ⟨(pr _ _ rfl),?_⟩;cbv)|(simp only [sb1,sb2,sb3];cbv))
   all_goals trivial
  refine .z [0] (hM _ _ _ _ _ (k1.2.2)) rfl rfl rfl ?_;cbv;refine xE (ziq h 0 (by decide) c) fun Kk6 k6=>xE k6 fun Tk6 k6=>xE k6 fun zk6 k6=>?_
  refine .z [0] (hM _ _ _ _ _ (k6.2.2)) rfl rfl rfl ?_;cbv;simp only [sb1,sb2,sb3];cbv;refine oE (or2P (k1.1)) (fun k7=>?_) (fun k7=>oE k7 (fun k7=>?_) (fun k7=>?_))
  case' refine_1 =>
   have ek70:decide (Kk6=0)=true:=by rw [<-k6.1];exact dT k7.2
   cbv;simp only [ek70];cbv;refine .z [0] (hM _ _ _ _ _ (upM (zch LR a c))) rfl rfl rfl ?_;cbv;have e0:=zey (k7.1);subst e0;cbv;all_goals trivial
  case' refine_2 =>
   have ek70:decide (Kk6=0)=false:=by rw [<-k6.1];exact dF k7.2.1
   have ek75:decide (Kk6=5)=true:=by rw [<-k6.1];exact dT k7.2.2
   cbv
   repeat (first|(simp only [ek70];cbv)|(simp only [ek75];cbv))
   refine .z [0] (hM _ _ _ _ _ (upM (zch LR a c))) rfl rfl rfl ?_;cbv;have e0:=zey (k7.1);subst e0;cbv;all_goals trivial
  have ek70:decide (Kk6=0)=false:=by rw [<-k6.1];exact dF k7.2.1
  have ek75:decide (Kk6=5)=false:=by rw [<-k6.1];exact dF k7.2.2
  cbv
  repeat (first|(simp only [ek70];cbv)|(simp only [ek75];cbv))
  refine xE (AtP.next h (zx5 k7.2.1)) fun bk8 k8=>?_
  have dk8:(List.drop 1 l).length < (l).length:=by have:=zx5 k7.2.1;rw [lLD];omega
  have ak8:=zcg hE k8.2.2.1 k8.2.2.2 k8.2.1;cbv;simp only [ak8];cbv;have hk9:=k7.1;rw [<-zox _ 1 0] at hk9;refine oE (zcm k8.1 zid c hk9) (fun k10=>xE k10 fun bk10 k10=>?_) (fun k10=>?_)
  case' refine_1 =>
   refine .z [0] (hM _ _ _ _ _ (k10.2.2.2.2)) rfl rfl rfl ?_;cbv;have hk11:AtP n toks LR bk10 (List.drop 2 l):=by have:=k10.1;rw [lDD] at this;exact this
   have dk11:(List.drop 2 l).length < l.length:=by have:=zx5 k7.2.1;rw [lLD];omega
   refine oE (ndS (L:=(List.drop 2 l)) (c:=c) (ih (.assign c (List.drop 2 l)) (by simp only [Sy.meas,Sy.l,Sy.rank];omega)) rfl rfl rfl rfl rfl rfl hk11 k10.2.1) (fun k12=>xE k12 fun xk12 k12=>xE k12 fun lk12 k12=>xE k12 fun bk12 k12=>xE k12 fun q1k12 k12=>xE k12 fun q2k12 k12=>xE k12 fun q3k12 k12=>xE k12 fun q4k12 k12=>xE k12 fun q5k12 k12=>?_) (fun k12=>?_)
   case' refine_2 =>
    refine Or.inr ?_;refine .mk [0] _ _ _ _ (hM _ _ _ _ _ (k12.2)) rfl rfl rfl _ rfl ?_;cbv;have e0:=k12.1;subst e0;cbv;all_goals trivial
   refine Or.inl ?_;refine ⟨.mk trivial,?_⟩;refine .mk [0] _ _ _ _ (hM _ _ _ _ _ (k12.2.2.2.2)) rfl rfl rfl rfl ?_;cbv;have ok12:=k12.2.2.2.1.one;cbv at ok12;cbv;simp only [ok12];cbv;refine ⟨.mk (by repeat' (first|exact trivial|refine ⟨rfl,?_⟩)),?_⟩
   cbv;have e0:=okE (k12.2.1);subst e0;simp only [k12.1.place,nd,ndN,ndO,za8,zao,zae,lCA,lNA,k12.2.2.2.1.row,k6.2.1];cbv;all_goals trivial
  refine .z [0] (hM _ _ _ _ _ (k10.2.2)) rfl rfl rfl ?_;cbv;refine oE (zm2 (k10.1)) (fun k13=>?_) (fun k13=>?_)
  case' refine_1 =>
   have ek13:decide (Kk6=1)=true:=by rw [<-k6.1];exact dT k13.1
   cbv;simp only [ek13];cbv;have e0:=okE (k13.2);subst e0;simp only [k8.1.place,nd,ndN,ndO,za8,zao,zae,lCA,lNA,k6.2.1];cbv
   repeat (first|(refine ⟨(pr _ _ rfl),?_⟩;cbv)|(simp only [sb1,sb2,sb3];cbv))
   all_goals trivial
  have ek13:decide (Kk6=1)=false:=by rw [<-k6.1];exact dF k13.1
  cbv;simp only [ek13];cbv;refine .z [0] (hM _ _ _ _ _ (upM (zch LR bk8 c))) rfl rfl rfl ?_;cbv;have e0:=zey (k13.2);subst e0;cbv;all_goals trivial
end
end Go.Proofs.YtcfecmeocimclaaGreatDoor
