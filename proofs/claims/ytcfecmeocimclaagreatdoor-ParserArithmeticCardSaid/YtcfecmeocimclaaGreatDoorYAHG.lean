/- Own work: the walk of list2. -/
import Derived.Test.YtcfecmeocimclaaGreatDoorYAA0
import Derived.Test.YtcfecmeocimclaaGreatDoorYAHF
namespace Go.Proofs.YtcfecmeocimclaaGreatDoor
set_option linter.unusedSimpArgs false
set_option linter.unusedSectionVars false
set_option maxRecDepth 100000
open Go.RowKit
theorem zea {acc:List PT} {x:PT} {R R2:List (List PV)} {row:List PV} (h:zae acc=R) (hx:za8 x=row) (h2:R++[row]=R2):zao (acc++[x])=.ro 5 R2:=by
 subst h hx h2;rw [<-show zae (acc++[x])=zae acc++[za8 x] by rw [zc0,zae,zae]]
 cases acc with
 | nil=>simp only [lNA,zao,zae]
 | cons y ys=>simp only [lCA,zao,zae]
structure AppF (E:SO) (R:List (List PV)) (N:Nat) (row:List PV) (R2:List (List PV)) (N2:Nat):Prop where
 pre:E.pre 0 N R
 room:E.room N 1 64
 add:E.addN N 1=N2
 app:E.app R N [row]=R2
 pre2:E.pre 0 N2 R2
 sub:E.sub R2 0 N2=R2
 p1:E.pre 0 1 [row]
 s1:E.sub [row] 0 1=[row]
theorem zv6 {E:SO} (hE:E=zas) {R:List (List PV)} {N:Nat} {row:List PV} {R2:List (List PV)} {N2:Nat} (hN:R.length=N) (hz:N<=1000000) (h2:R++[row]=R2) (hN2:N + 1=N2):AppF E R N row R2 N2:=by
 subst hE h2 hN2 hN;refine ⟨by show 0 + R.length<=R.length;omega,⟨by unfold maxLen;omega,by omega⟩,rfl,?_,?_,?_,nR 1,rfl⟩
 ·show R.take R.length++[row]=_;rw [lTL]
 ·show 0 + (R.length + 1)<=(R++[row]).length;rw [lLA];simp
 ·show ((R++[row]).drop 0).take (R.length + 1)=_;rw [lDZ,List.take_of_length_le (by simp)]
section
variable {n:Int} {toks:List Tk} {LR:List (List PV)} {l:Ts}
set_option maxHeartbeats 4000000 in
theorem zu2 {c:Cx} {e:Bs} (ih:∀ s':Sy,s'.meas < (Sy.list2 e c l).meas->zd0 n toks LR s'):zd0 n toks LR (.list2 e c l):=by
 intro f hf a h o ho
 cases hf
 rw [zac] at ho;change zen ev e c l=some o at ho;unfold zen at ho;change AtP n toks LR a l at h;show MP _ (.own 0 0 :: [.p (pS (bL e))]) [rdr LR a c] (rOf o) (hOf toks LR c o);obtain ⟨μ,hμ⟩:∃ μ:Int × Ts × List PT × List (List PV) × Nat->Nat,∀ x,μ x=x.2.1.length:=⟨_,fun _=>rfl⟩
 have hz:=h.z;have hzl:l.length<=1000000:=by have:=h.h1;have:=h.h0;omega
 refine zad zaa (f:=133) Tryz.func133 rfl (by kernel_rfl) (oT (by kernel_rfl)) fun tags htl=>?_
 match tags,htl with
 | [t0],_ =>
  refine Seg.ofM zaa mixed (fun _=>0) (fun _=>[]) (fun _ _=>0) (by kernel_rfl) (fun E=>za0 E tyT Tryz.f133.results.toList [t0] (rOf o) (hOf toks LR c o)) fun P G E hc hM hE=>?_
  cbv;refine oE (zcm h e c ho) (fun k1=>xE k1 fun bk1 k1=>?_) (fun k1=>?_)
  case' refine_1 =>
   refine .z [0] (hM _ _ _ _ _ (k1.2.2.2.2)) rfl rfl rfl ?_;cbv;have e0:=okE (k1.2.1);subst e0;simp only [k1.1.place,zao];cbv;all_goals trivial
  refine .z [0] (hM _ _ _ _ _ (k1.2.2)) rfl rfl rfl ?_;cbv;refine LoopA.wk (zrd (d:=5) 5 27 rfl) ?_;refine zbs 20 [0,1,5] 2 (fun x:Int × Ts × List PT × List (List PV) × Nat=>[.own 0 0,.p (pS (bL e)),.osl 1 0 x.2.2.2.2]) (fun x=>[some (.box [.p (.ro 3 LR),.p (pI x.1),.p (pB c.fn),.p (pB c.lp),.p (pB c.gn),.p (pB c.as_)] 50 (some t0)),some (.rows 5 x.2.2.2.1 27)])
   (fun x=>AtP n toks LR x.1 x.2.1/\ev (.list2L e x.2.2.1 c x.2.1)=some o/\x.2.2.2.2 + x.2.1.length<=l.length/\zae x.2.2.1=x.2.2.2.1/\x.2.2.2.1.length=x.2.2.2.2) μ (a,l,[],[],0) ⟨rfl,rfl,rfl,rfl,rfl⟩ ⟨h,k1.1,by simp,by rw [zae],rfl⟩ ?_
  rintro ⟨a1,l1,acc,R,N⟩ ⟨g1,g2,g3,g4,g5⟩
  simp only at g1 g2 g3 g4 g5;rw [zac] at g2;replace g2:zcp ev e acc c l1=some o:=g2;unfold zcp at g2;cbv;refine oE (ndS (L:=l1) (c:=c) (ih (.assign c l1) (by simp only [Sy.meas,Sy.l,Sy.rank];omega)) rfl rfl rfl rfl rfl rfl g1 g2) (fun k2=>xE k2 fun xk2 k2=>xE k2 fun lk2 k2=>xE k2 fun bk2 k2=>xE k2 fun q1k2 k2=>xE k2 fun q2k2 k2=>xE k2 fun q3k2 k2=>xE k2 fun q4k2 k2=>xE k2 fun q5k2 k2=>?_) (fun k2=>?_)
  case' refine_2 =>
   refine .z [0] (hM _ _ _ _ _ (k2.2)) rfl rfl rfl ?_;cbv;have e0:=k2.1;subst e0;cbv;all_goals trivial
  refine .z [0] (hM _ _ _ _ _ (k2.2.2.2.2)) rfl rfl rfl ?_;have ok2:=k2.2.2.2.1.one;cbv at ok2;refine xE (⟨_,rfl⟩:∃ R2,R++[[pI q1k2,pS q4k2,pI q2k2,pI q3k2,q5k2]]=R2) fun R2 hR2=>?_
  refine xE (⟨_,rfl⟩:∃ N2,N + 1=N2) fun N2 hN2=>?_
  have fA:=zv6 hE g5 (by omega) hR2 hN2
  have fA1:=fA.pre;have fA2:=fA.room;have fA3:=fA.add;have fA4:=fA.app;have fA5:=fA.pre2;have fA6:=fA.sub;have fA7:=fA.p1;have fA8:=fA.s1;cbv
  repeat (first|(simp only [ok2];cbv)|(refine ⟨fA7,fA1,fA2,?_⟩;cbv)|(simp only [fA8];cbv)|(simp only [fA3,fA4];cbv))
  refine oE (zcm k2.1 e c k2.2.1) (fun k3=>xE k3 fun bk3 k3=>?_) (fun k3=>?_)
  case' refine_1 =>
   refine .z [0] (hM _ _ _ _ _ (k3.2.2.2.2)) rfl rfl rfl ?_;cbv;have e0:=okE (k3.2.1);subst e0;have hK:=zea g4 k2.2.2.2.1.row hR2;simp only [k3.1.place,hK];cbv
   repeat (first|(refine ⟨fA5,?_⟩;cbv)|(simp only [fA6];cbv))
   all_goals trivial
  refine .z [0] (hM _ _ _ _ _ (k3.2.2)) rfl rfl rfl ?_;cbv;refine oE (zc1 k2.1 zcv c k3.1) (fun k4=>xE k4 fun bk4 k4=>?_) (fun k4=>?_)
  case' refine_2 =>
   refine .z [0] (hM _ _ _ _ _ (k4.2)) rfl rfl rfl ?_;cbv;have e0:=k4.1;subst e0;cbv;all_goals trivial
  refine .z [0] (hM _ _ _ _ _ (k4.2.2.2.2)) rfl rfl rfl ?_;cbv;exact .mk (bk4,List.drop 1 lk2,acc++[xk2],R2,N2) ⟨rfl,rfl,rfl,rfl,rfl⟩ ⟨k4.1,k4.2.1,by show N2 + (List.drop 1 lk2).length<=l.length;omega,by rw [zc0,g4,zae,zae,k2.2.2.2.1.row];exact hR2,by show R2.length=N2;rw [<-hR2,lLA,g5];exact hN2⟩ (by rw [hμ,hμ];show (List.drop 1 lk2).length < l1.length;omega)
set_option maxHeartbeats 4000000 in
theorem zsd {c:Cx} (ih:∀ s':Sy,s'.meas < (Sy.fields c l).meas->zd0 n toks LR s'):zd0 n toks LR (.fields c l):=by
 intro f hf a h o ho
 cases hf
 rw [zac] at ho;change zc7 ev c l=some o at ho;unfold zc7 at ho;change AtP n toks LR a l at h;show MP _ (.own 0 0 :: []) [rdr LR a c] (rOf o) (hOf toks LR c o);obtain ⟨μ,hμ⟩:∃ μ:Int × Ts × List PT × List (List PV) × Nat->Nat,∀ x,μ x=x.2.1.length:=⟨_,fun _=>rfl⟩
 have hz:=h.z;have hzl:l.length<=1000000:=by have:=h.h1;have:=h.h0;omega
 refine zad zaa (f:=147) Tryz.func147 rfl (by kernel_rfl) (oT (by kernel_rfl)) fun tags htl=>?_
 match tags,htl with
 | [t0],_ =>
  refine Seg.ofM zaa mixed (fun _=>0) (fun _=>[]) (fun _ _=>0) (by kernel_rfl) (fun E=>za0 E tyT Tryz.f147.results.toList [t0] (rOf o) (hOf toks LR c o)) fun P G E hc hM hE=>?_
  cbv;refine oE (zcm h zsz c ho) (fun k1=>xE k1 fun bk1 k1=>?_) (fun k1=>?_)
  case' refine_1 =>
   refine .z [0] (hM _ _ _ _ _ (k1.2.2.2.2)) rfl rfl rfl ?_;cbv;have e0:=okE (k1.2.1);subst e0;simp only [k1.1.place,zao];cbv;all_goals trivial
  refine .z [0] (hM _ _ _ _ _ (k1.2.2)) rfl rfl rfl ?_;cbv;refine LoopA.wk (zrd (d:=3) 5 27 rfl) ?_;refine zbs 16 [0,3] 2 (fun x:Int × Ts × List PT × List (List PV) × Nat=>[.own 0 0,.osl 1 0 x.2.2.2.2]) (fun x=>[some (.box [.p (.ro 3 LR),.p (pI x.1),.p (pB c.fn),.p (pB c.lp),.p (pB c.gn),.p (pB c.as_)] 50 (some t0)),some (.rows 5 x.2.2.2.1 27)])
   (fun x=>AtP n toks LR x.1 x.2.1/\ev (.fieldsL x.2.2.1 c x.2.1)=some o/\x.2.2.2.2 + x.2.1.length<=l.length/\zae x.2.2.1=x.2.2.2.1/\x.2.2.2.1.length=x.2.2.2.2) μ (a,l,[],[],0) ⟨rfl,rfl,rfl,rfl,rfl⟩ ⟨h,k1.1,by simp,by rw [zae],rfl⟩ ?_
  rintro ⟨a1,l1,acc,R,N⟩ ⟨g1,g2,g3,g4,g5⟩
  simp only at g1 g2 g3 g4 g5;rw [zac] at g2;replace g2:zci ev acc c l1=some o:=g2;unfold zci at g2;cbv;refine oE (ndS (L:=l1) (c:=c) (ih (.field c l1) (by simp only [Sy.meas,Sy.l,Sy.rank];omega)) rfl rfl rfl rfl rfl rfl g1 g2) (fun k2=>xE k2 fun xk2 k2=>xE k2 fun lk2 k2=>xE k2 fun bk2 k2=>xE k2 fun q1k2 k2=>xE k2 fun q2k2 k2=>xE k2 fun q3k2 k2=>xE k2 fun q4k2 k2=>xE k2 fun q5k2 k2=>?_) (fun k2=>?_)
  case' refine_2 =>
   refine .z [0] (hM _ _ _ _ _ (k2.2)) rfl rfl rfl ?_;cbv;have e0:=k2.1;subst e0;cbv;all_goals trivial
  refine .z [0] (hM _ _ _ _ _ (k2.2.2.2.2)) rfl rfl rfl ?_;have ok2:=k2.2.2.2.1.one;cbv at ok2;refine xE (⟨_,rfl⟩:∃ R2,R++[[pI q1k2,pS q4k2,pI q2k2,pI q3k2,q5k2]]=R2) fun R2 hR2=>?_
  refine xE (⟨_,rfl⟩:∃ N2,N + 1=N2) fun N2 hN2=>?_
  have fA:=zv6 hE g5 (by omega) hR2 hN2
  have fA1:=fA.pre;have fA2:=fA.room;have fA3:=fA.add;have fA4:=fA.app;have fA5:=fA.pre2;have fA6:=fA.sub;have fA7:=fA.p1;have fA8:=fA.s1;cbv
  repeat (first|(simp only [ok2];cbv)|(refine ⟨fA7,fA1,fA2,?_⟩;cbv)|(simp only [fA8];cbv)|(simp only [fA3,fA4];cbv))
  refine oE (zcm k2.1 zsz c k2.2.1) (fun k3=>xE k3 fun bk3 k3=>?_) (fun k3=>?_)
  case' refine_1 =>
   refine .z [0] (hM _ _ _ _ _ (k3.2.2.2.2)) rfl rfl rfl ?_;cbv;have e0:=okE (k3.2.1);subst e0;have hK:=zea g4 k2.2.2.2.1.row hR2;simp only [k3.1.place,hK];cbv
   repeat (first|(refine ⟨fA5,?_⟩;cbv)|(simp only [fA6];cbv))
   all_goals trivial
  refine .z [0] (hM _ _ _ _ _ (k3.2.2)) rfl rfl rfl ?_;cbv;refine oE (zc1 k2.1 zcv c k3.1) (fun k4=>xE k4 fun bk4 k4=>?_) (fun k4=>?_)
  case' refine_2 =>
   refine .z [0] (hM _ _ _ _ _ (k4.2)) rfl rfl rfl ?_;cbv;have e0:=k4.1;subst e0;cbv;all_goals trivial
  refine .z [0] (hM _ _ _ _ _ (k4.2.2.2.2)) rfl rfl rfl ?_;cbv;exact .mk (bk4,List.drop 1 lk2,acc++[xk2],R2,N2) ⟨rfl,rfl,rfl,rfl,rfl⟩ ⟨k4.1,k4.2.1,by show N2 + (List.drop 1 lk2).length<=l.length;omega,by rw [zc0,g4,zae,zae,k2.2.2.2.1.row];exact hR2,by show R2.length=N2;rw [<-hR2,lLA,g5];exact hN2⟩ (by rw [hμ,hμ];show (List.drop 1 lk2).length < l1.length;omega)
end
/- Own work: the walk of block. -/
theorem zkb {y:PT} {ys:List PT} {R:List (List PV)} (h:zae (y :: ys)=R):zao (y :: ys)=.ro 5 R:=by
 subst h;rw [zao,zae]
section
variable {n:Int} {toks:List Tk} {LR:List (List PV)} {l:Ts}
set_option maxHeartbeats 4000000 in
theorem zvo {c:Cx} (ih:∀ s':Sy,s'.meas < (Sy.block c l).meas->zd0 n toks LR s'):zd0 n toks LR (.block c l):=by
 intro f hf a h o ho
 cases hf
 rw [zac] at ho;change zd3 ev c l=some o at ho;unfold zd3 at ho;change AtP n toks LR a l at h;show MP _ (.own 0 0 :: []) [rdr LR a c] (rOf o) (hOf toks LR c o);obtain ⟨μ,hμ⟩:∃ μ:Int × Ts × List PT × List (List PV) × Nat->Nat,∀ x,μ x=x.2.1.length:=⟨_,fun _=>rfl⟩
 have hz:=h.z;have hzl:l.length<=1000000:=by have:=h.h1;have:=h.h0;omega
 obtain ⟨M,hM0⟩:∃ M:Int,((toks.length:Nat):Int)=M:=⟨_,rfl⟩
 refine zad zaa (f:=42) Tryz.func42 rfl (by kernel_rfl) (oT (by kernel_rfl)) fun tags htl=>?_
 match tags,htl with
 | [t0],_ =>
  refine Seg.ofM zaa mixed (fun n=>match n with|4=>9|6=>5|_=>0) (fun n=>match n with|6=>[3]|_=>[]) (fun n i=>match n,i with|6,3=>1|6,4=>1|_,_=>0) (by kernel_rfl) (fun E=>za0 E tyT Tryz.f42.results.toList [t0] (rOf o) (hOf toks LR c o)) fun P G E hc hM hE=>?_
  cbv;refine oE (zc1 h zg3 c ho) (fun k0=>xE k0 fun bk0 k0=>?_) (fun k0=>?_)
  case' refine_2 =>
   refine .z [0] (hM _ _ _ _ _ (k0.2)) rfl rfl rfl ?_;cbv;have e0:=k0.1;subst e0;cbv;all_goals trivial
  refine .z [0] (hM _ _ _ _ _ (k0.2.2.2.2)) rfl rfl rfl ?_;cbv;refine zbs 30 [0,2,3] 4 (fun x:Int × Ts × List PT × List (List PV) × Nat=>[.own 0 0,.own 1 0,.own 2 0]) (fun x=>match x.2.2.1 with
    | []=>[some (.box [.p (.ro 3 LR),.p (pI x.1),.p (pB c.fn),.p (pB c.lp),.p (pB c.gn),.p (pB c.as_)] 50 (some t0)),some (.box [.p (pI 0),.p (pS ⟨#[]⟩),.p (pI 0),.p (pI 0),.p (.v (.slice none 0 0))] 27 none),some (.box [.p (pI 27),.p (pS ⟨#[]⟩),.p (pI 0),.p (pI 0),.p (.v (.slice none 0 0))] 27 none)]
    | _ :: _=>[some (.box [.p (.ro 3 LR),.p (pI x.1),.p (pB c.fn),.p (pB c.lp),.p (pB c.gn),.p (pB c.as_)] 50 (some t0)),some (.box [.p (pI 0),.p (pS ⟨#[]⟩),.p (pI 0),.p (pI 0),.p (.v (.slice none 0 0))] 27 none),some (.box [.p (pI 27),.p (pS ⟨#[]⟩),.p (pI 0),.p (pI 0),.osl 3 0 x.2.2.2.2] 27 none),some (.rows 5 x.2.2.2.1 27)])
   (fun x=>AtP n toks LR x.1 x.2.1/\ev (.blockL x.2.2.1 c x.2.1)=some o/\x.2.2.2.2 + x.2.1.length<=(List.drop 1 l).length/\zae x.2.2.1=x.2.2.2.1/\x.2.2.2.1.length=x.2.2.2.2) μ (bk0,List.drop 1 l,[],[],0) ⟨rfl,rfl,rfl,rfl,rfl⟩ ⟨k0.1,k0.2.1,by show 0 + (List.drop 1 l).length<=(List.drop 1 l).length;omega,by rw [zae],rfl⟩ ?_
  rintro ⟨a1,l1,acc,R,N⟩ ⟨g1,g2,g3,g4,g5⟩
  simp only at g1 g2 g3 g4 g5;replace hM0:((toks.length:Nat):Int)=M:=hM0
  cases acc with
  | nil =>
   rw [zac] at g2;replace g2:zcb ev [] c l1=some o:=g2;unfold zcb at g2;have l0:E.ofN LR.length=M:=by rw [hE,h.len];exact hM0
   cbv at l0;cbv;refine oE (zcm g1 zsz c g2) (fun k1=>xE k1 fun bk1 k1=>?_) (fun k1=>?_)
   case' refine_1 =>
    refine .z [0] (hM _ _ _ _ _ (k1.2.2.2.2)) rfl rfl rfl ?_;cbv;have e0:=okE (k1.2.1);subst e0;simp only [k1.1.place,nd,za8,zao];cbv;all_goals trivial
   refine .z [0] (hM _ _ _ _ _ (k1.2.2)) rfl rfl rfl ?_;cbv;simp only [l0];cbv;refine oE (zm2 k1.1) (fun k2=>?_) (fun k2=>?_)
   case' refine_1 =>
    have d1:E.lei M a1=true:=by rw [hE];have hM1:((toks.length:Nat):Int)=M:=hM0;have:=g1.h1;rw [k2.1] at this;exact dT (by simp at this;omega)
    cbv;simp only [d1];cbv;refine .z [0] (hM _ _ _ _ _ (upM (zch LR a1 c))) rfl rfl rfl ?_;cbv;have e0:=zey k2.2;subst e0;cbv;all_goals trivial
   have hpos:=List.length_pos_iff.2 k2.1;have d1:E.lei M a1=false:=by rw [hE];have hM1:((toks.length:Nat):Int)=M:=hM0;have:=g1.h1;exact dF (by omega)
   cbv;simp only [d1];cbv;refine oE (ndS (L:=l1) (c:=c) (ih (.stmt c l1) (by simp only [Sy.meas,Sy.l,Sy.rank];omega)) rfl rfl rfl rfl rfl rfl g1 k2.2) (fun k3=>xE k3 fun xk k3=>xE k3 fun lk k3=>xE k3 fun bk k3=>xE k3 fun q1 k3=>xE k3 fun q2 k3=>xE k3 fun q3 k3=>xE k3 fun q4 k3=>xE k3 fun q5 k3=>?_) (fun k3=>?_)
   case' refine_2 =>
    refine Or.inr ?_;refine .mk [0] _ _ _ _ (hM _ _ _ _ _ (k3.2)) rfl rfl rfl _ rfl ?_;cbv;have e0:=k3.1;subst e0;cbv;all_goals trivial
   refine Or.inl ?_;refine ⟨.mk trivial,?_⟩;refine .mk [0] _ _ _ _ (hM _ _ _ _ _ (k3.2.2.2.2)) rfl rfl rfl rfl ?_;cbv;have ok3:=k3.2.2.2.1.one;cbv at ok3;have rm:=(zje hE).room 0 1 64 (by decide) (by decide)
   cbv;simp only [ok3];cbv;refine ⟨.mk (by repeat' (first|exact trivial|refine ⟨rfl,?_⟩)),?_⟩
   cbv;refine ⟨rm,?_⟩;cbv;exact .mk (bk,lk,[xk],[[pI q1,pS q4,pI q2,pI q3,q5]],1) ⟨rfl,rfl,rfl,rfl,rfl⟩ ⟨k3.1,k3.2.1,by show 1 + lk.length<=(List.drop 1 l).length;omega,by rw [zae,zae,k3.2.2.2.1.row],rfl⟩ (by rw [hμ,hμ];show lk.length < l1.length;omega)
  | cons y ys =>
   rw [zac] at g2;replace g2:zcb ev (y :: ys) c l1=some o:=g2;unfold zcb at g2;have l0:E.ofN LR.length=M:=by rw [hE,h.len];exact hM0
   cbv at l0;have fB:=zv6 (R:=R) (row:=[pI 0,pI 0,pI 0,pI 0,pI 0]) hE g5 (by omega) rfl rfl
   have fB5:=fB.pre;have fB6:E.sub R 0 N=R:=by rw [hE,<- g5];show (R.drop 0).take R.length=R;rw [lDZ,lTL]
   cbv;refine oE (zcm g1 zsz c g2) (fun k1=>xE k1 fun bk1 k1=>?_) (fun k1=>?_)
   case' refine_1 =>
    refine .z [0] (hM _ _ _ _ _ (k1.2.2.2.2)) rfl rfl rfl ?_;cbv;have e0:=okE (k1.2.1);subst e0;have hK:=zkb g4;simp only [k1.1.place,nd,za8,hK];cbv
    repeat (first|(refine ⟨fB5,?_⟩;cbv)|(simp only [fB6];cbv))
    all_goals trivial
   refine .z [0] (hM _ _ _ _ _ (k1.2.2)) rfl rfl rfl ?_;cbv;simp only [l0];cbv;refine oE (zm2 k1.1) (fun k2=>?_) (fun k2=>?_)
   case' refine_1 =>
    have d1:E.lei M a1=true:=by rw [hE];have hM1:((toks.length:Nat):Int)=M:=hM0;have:=g1.h1;rw [k2.1] at this;exact dT (by simp at this;omega)
    cbv;simp only [d1];cbv;refine .z [0] (hM _ _ _ _ _ (upM (zch LR a1 c))) rfl rfl rfl ?_;cbv;have e0:=zey k2.2;subst e0;cbv;all_goals trivial
   have hpos:=List.length_pos_iff.2 k2.1;have d1:E.lei M a1=false:=by rw [hE];have hM1:((toks.length:Nat):Int)=M:=hM0;have:=g1.h1;exact dF (by omega)
   cbv;simp only [d1];cbv;refine oE (ndS (L:=l1) (c:=c) (ih (.stmt c l1) (by simp only [Sy.meas,Sy.l,Sy.rank];omega)) rfl rfl rfl rfl rfl rfl g1 k2.2) (fun k3=>xE k3 fun xk k3=>xE k3 fun lk k3=>xE k3 fun bk k3=>xE k3 fun q1 k3=>xE k3 fun q2 k3=>xE k3 fun q3 k3=>xE k3 fun q4 k3=>xE k3 fun q5 k3=>?_) (fun k3=>?_)
   case' refine_2 =>
    refine Or.inr ?_;refine .mk [0] _ _ _ _ (hM _ _ _ _ _ (k3.2)) rfl rfl rfl _ rfl ?_;cbv;have e0:=k3.1;subst e0;cbv;all_goals trivial
   refine Or.inl ?_;refine ⟨.mk trivial,?_⟩;refine .mk [0] _ _ _ _ (hM _ _ _ _ _ (k3.2.2.2.2)) rfl rfl rfl rfl ?_;cbv;have ok3:=k3.2.2.2.1.one;cbv at ok3;refine xE (⟨_,rfl⟩:∃ R2,R++[[pI q1,pS q4,pI q2,pI q3,q5]]=R2) fun R2 hR2=>?_
   refine xE (⟨_,rfl⟩:∃ N2,N + 1=N2) fun N2 hN2=>?_
   have fA:=zv6 hE g5 (by omega) hR2 hN2
   have fA1:=fA.pre;have fA2:=fA.room;have fA3:=fA.add;have fA4:=fA.app;cbv;simp only [ok3];cbv;refine ⟨.mk (by repeat' (first|exact trivial|refine ⟨rfl,?_⟩)),?_⟩
   cbv
   repeat (first|(refine ⟨fA1,fA2,?_⟩;cbv)|(simp only [fA3,fA4];cbv))
   exact .mk (bk,lk,y :: ys++[xk],R2,N2) ⟨rfl,rfl,rfl,rfl,rfl⟩ ⟨k3.1,k3.2.1,by show N2 + lk.length<=(List.drop 1 l).length;omega,by rw [zc0,g4,zae,zae,k3.2.2.2.1.row];exact hR2,by show R2.length=N2;rw [<-hR2,lLA,g5];exact hN2⟩ (by rw [hμ,hμ];show lk.length < l1.length;omega)
end
end Go.Proofs.YtcfecmeocimclaaGreatDoor
