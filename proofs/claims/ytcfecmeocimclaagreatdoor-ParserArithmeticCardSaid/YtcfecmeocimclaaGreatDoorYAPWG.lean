/- Own work: the walk of declaration. -/
import Derived.Test.YtcfecmeocimclaaGreatDoorYAA0
import Derived.Test.YtcfecmeocimclaaGreatDoorYAHG
namespace Go.Proofs.YtcfecmeocimclaaGreatDoor
set_option linter.unusedSimpArgs false
set_option linter.unusedSectionVars false
set_option maxRecDepth 100000
open Go.RowKit
section
variable {n:Int} {toks:List Tk} {LR:List (List PV)} {l:Ts}
theorem declC {c:Cx} {o:Option (Rv × Ts)} (ho:ev (.declL (if isT l 0 zax then 25 else 24) [] c (l.drop 1))=some o):(if isT l 0 zax then ev (.declL 25 [] c (l.drop 1)) else ev (.declL 24 [] c (l.drop 1)))=some o:=by
 split
 ·rename_i e;rw [if_pos e] at ho;exact ho
 ·rename_i e;rw [if_neg e] at ho;exact ho
set_option maxHeartbeats 4000000 in
theorem zyu {c:Cx} (ih:∀ s':Sy,s'.meas < (Sy.decl c l).meas->zd0 n toks LR s'):zd0 n toks LR (.decl c l):=by
 intro f hf a h o ho;have hpos:0 < l.length:=by cases l with|nil=>cases hf|cons x l=>exact Nat.succ_pos _
 rw [show (Sy.decl c l).fid=some 38 from by cases l with|nil=>cases hf|cons x l=>rfl] at hf
 cases hf
 rw [zac] at ho;change zoe ev c l=some o at ho;unfold zoe at ho;change AtP n toks LR a l at h;show MP _ (.own 0 0 :: []) [rdr LR a c] (rOf o) (hOf toks LR c o);refine zad zaa (f:=38) Tryz.func38 rfl (by kernel_rfl) (oT (by kernel_rfl)) fun tags htl=>?_
 match tags,htl with
 | [t0],_ =>
  refine Seg.cutKM 4 40 [0,2,3] 3 (fun x:Int × Ts × Int=>[.own 0 0,.own 1 0,.own 2 0]) (fun x=>[some (.box [.p (.ro 3 LR),.p (pI x.1),.p (pB c.fn),.p (pB c.lp),.p (pB c.gn),.p (pB c.as_)] 50 (some t0)),some (.box [.p (pI 0),.p (pS ⟨#[]⟩),.p (pI 0),.p (pI 0),.p (.v (.slice none 0 0))] 27 none),some (.box [.p (pI x.2.2),.p (pS ⟨#[]⟩),.p (pI 0),.p (pI 0),.p (.v (.slice none 0 0))] 27 none)]) (fun x=>AtP n toks LR x.1 x.2.1/\ev (.declL x.2.2 [] c x.2.1)=some o/\x.2.1.length < l.length) zaa mixed (fun _=>0) (fun _=>[]) (fun _ _=>0) (fun E=>za0 E tyT Tryz.f38.results.toList [t0] (rOf o) (hOf toks LR c o)) (by kernel_rfl) (fun P G E hc hM hE=>?_) ?_
  case' refine_1 =>
   cbv;have hk1:=ho;replace hk1:=declC hk1;refine oE (isS h 0 (by decide) zax c hk1) (fun k2=>?_) (fun k2=>?_)
   case' refine_1 =>
    refine .z [0] (hM _ _ _ _ _ (k2.2.2.2)) rfl rfl rfl ?_;cbv;refine xE (AtP.next h (zag k2.2.1)) fun bk3 k3=>?_
    have dk3:(List.drop 1 l).length < (l).length:=by have:=zag k2.2.1;rw [lLD];omega
    have ak3:=zcg hE k3.2.2.1 k3.2.2.2 k3.2.1;cbv;simp only [ak3];cbv;exact .mk ((bk3,List.drop 1 l,25)) ⟨rfl,rfl,rfl,rfl,rfl⟩ (⟨k3.1,k2.1,dk3⟩)
   refine .z [0] (hM _ _ _ _ _ (k2.2.2)) rfl rfl rfl ?_;cbv;refine xE (AtP.next h (hpos)) fun bk4 k4=>?_
   have dk4:(List.drop 1 l).length < (l).length:=by have:=hpos;rw [lLD];omega
   have ak4:=zcg hE k4.2.2.1 k4.2.2.2 k4.2.1;cbv;simp only [ak4];cbv;exact .mk ((bk4,List.drop 1 l,24)) ⟨rfl,rfl,rfl,rfl,rfl⟩ (⟨k4.1,k2.1,dk4⟩)
  rintro ⟨a0,l0,kk⟩ ⟨h0,ho0,hl0⟩
  simp only at h0 ho0 hl0;obtain ⟨μ,hμ⟩:∃ μ:Int × Ts × List PT × List (List PV) × Nat->Nat,∀ x,μ x=x.2.1.length:=⟨_,fun _=>rfl⟩
  have hzl:l0.length<=1000000:=by have:=h0.h1;have:=h0.h0;have:=h0.z;omega
  refine Seg.ofM zaa mixed (fun _=>0) (fun n=>match n with|10=>[0]|_=>[]) (fun _ _=>0) (by kernel_rfl) (fun E=>za0 E tyT Tryz.f38.results.toList [t0] (rOf o) (hOf toks LR c o)) fun P G E hc hM hE=>?_
  cbv;refine LoopA.wk (zps (k:=2) (j:=4) 5 27 rfl rfl) ?_;refine zbs 40 [0,2,3] 4 (fun x:Int × Ts × List PT × List (List PV) × Nat=>[.own 0 0,.own 1 0,.own 2 0]) (fun x=>[some (.box [.p (.ro 3 LR),.p (pI x.1),.p (pB c.fn),.p (pB c.lp),.p (pB c.gn),.p (pB c.as_)] 50 (some t0)),some (.box [.p (pI 0),.p (pS ⟨#[]⟩),.p (pI 0),.p (pI 0),.p (.v (.slice none 0 0))] 27 none),some (.box [.p (pI kk),.p (pS ⟨#[]⟩),.p (pI 0),.p (pI 0),.osl 3 0 x.2.2.2.2] 27 none),some (.rows 5 x.2.2.2.1 27)])
   (fun x=>AtP n toks LR x.1 x.2.1/\ev (.declL kk x.2.2.1 c x.2.1)=some o/\x.2.2.2.2 + x.2.1.length<=l0.length/\zae x.2.2.1=x.2.2.2.1/\x.2.2.2.1.length=x.2.2.2.2) μ (a0,l0,[],[],0) ⟨rfl,rfl,rfl,rfl,rfl⟩ ⟨h0,ho0,by simp,by rw [zae],rfl⟩ ?_
  rintro ⟨a1,l1,acc,R,N⟩ ⟨g1,g2,g3,g4,g5⟩
  simp only at g1 g2 g3 g4 g5;rw [zac] at g2;replace g2:ze9 ev kk acc c l1=some o:=g2;unfold ze9 at g2;have on1:E.ofN 1=1:=by rw [hE];rfl
  have fO:=zje hE;have sb1:=fO.s1;cbv;refine oE (zuz g1 c g2) (fun k1=>xE k1 fun bk1 k1=>xE k1 fun Tk1 k1=>?_) (fun k1=>?_)
  case' refine_2 =>
   refine .z [0] (hM _ _ _ _ _ (k1.2)) rfl rfl rfl ?_;cbv;have e0:=k1.1;subst e0;cbv;all_goals trivial
  refine .z [0] (hM _ _ _ _ _ (k1.2.2.2.2)) rfl rfl rfl ?_;cbv;have eT:=k1.2.2.2.1;refine oE (zcm k1.1 wEq c k1.2.1) (fun k2=>xE k2 fun bk2 k2=>?_) (fun k2=>?_)
  case' refine_1 =>
   refine .z [0] (hM _ _ _ _ _ (k2.2.2.2.2)) rfl rfl rfl ?_;cbv;refine oE (ndS (L:=(List.drop 1 (List.drop 1 l1))) (c:=c) (ih (.assign c (List.drop 1 (List.drop 1 l1))) (by have:=k2.2.2.1;have:=k1.2.2.1;simp only [Sy.meas,Sy.l,Sy.rank];omega)) rfl rfl rfl rfl rfl rfl k2.1 k2.2.1) (fun k3=>xE k3 fun xk3 k3=>xE k3 fun lk3 k3=>xE k3 fun bk3 k3=>xE k3 fun q1k3 k3=>xE k3 fun q2k3 k3=>xE k3 fun q3k3 k3=>xE k3 fun q4k3 k3=>xE k3 fun q5k3 k3=>?_) (fun k3=>?_)
   case' refine_2 =>
    refine .z [0] (hM _ _ _ _ _ (k3.2)) rfl rfl rfl ?_;cbv;have e0:=k3.1;subst e0;cbv;all_goals trivial
   refine .z [0] (hM _ _ _ _ _ (k3.2.2.2.2)) rfl rfl rfl ?_;cbv;have ok3:=k3.2.2.2.1.one;cbv at ok3;cbv;simp only [ok3];cbv;refine xE (⟨_,rfl⟩:∃ R2,R++[[pI 40,pS Tk1,pI 0,pI 0,.ro 5 [[pI q1k3,pS q4k3,pI q2k3,pI q3k3,q5k3]]]]=R2) fun R2 hR2=>?_
   refine xE (⟨_,rfl⟩:∃ N2,N + 1=N2) fun N2 hN2=>?_
   have fA:=zv6 hE g5 (by omega) hR2 hN2
   have fA1:=fA.pre;have fA2:=fA.room;have fA3:=fA.add;have fA4:=fA.app;have fA5:=fA.pre2;have fA6:=fA.sub;have fA7:=fA.p1;have fA8:=fA.s1;refine .mk _ _ (zin (k:=4) (j:=4) (l:=5) (n:=1) rfl rfl rfl (nR _) rfl) ?_;cbv
   repeat (first|(simp only [sb1];cbv)|(refine ⟨fA7,fA1,fA2,?_⟩;cbv)|(simp only [fA3,fA4];cbv))
   have hrow:za8 (ndN 40 (tx l1 0) [xk3])=[pI 40,pS Tk1,pI 0,pI 0,.ro 5 [[pI q1k3,pS q4k3,pI q2k3,pI q3k3,q5k3]]]:=by rw [ndN,za8,eT,zao,k3.2.2.2.1.row,zae]
   refine oE (zcm k3.1 zcv c (k3.2.1)) (fun k4=>xE k4 fun bk4 k4=>?_) (fun k4=>?_)
   case' refine_2 =>
    refine .z [0] (hM _ _ _ _ _ (k4.2.2)) rfl rfl rfl ?_;cbv;have e0:=okE (k4.1);subst e0;have hK:=zea g4 hrow hR2;simp only [k3.1.place,nd,za8,hK];cbv
    repeat (first|(refine ⟨fA5,?_⟩;cbv)|(simp only [fA6];cbv))
    all_goals trivial
   refine .z [0] (hM _ _ _ _ _ (k4.2.2.2.2)) rfl rfl rfl ?_;cbv;exact .mk (bk4,List.drop 1 lk3,acc++[ndN 40 (tx l1 0) [xk3]],R2,N2) ⟨rfl,rfl,rfl,rfl,rfl⟩ ⟨k4.1,k4.2.1,by show N2 + (List.drop 1 lk3).length<=l0.length;have:=k4.2.2.1;have:=k1.2.2.1;have:=k3.2.2.1;have:=k2.2.2.1;omega,by rw [zc0,g4,zae,zae,hrow];exact hR2,by show R2.length=N2;rw [<-hR2,lLA,g5];exact hN2⟩ (by rw [hμ,hμ];show (List.drop 1 lk3).length < l1.length;have:=k4.2.2.1;have:=k1.2.2.1;have:=k3.2.2.1;have:=k2.2.2.1;omega)
  refine .z [0] (hM _ _ _ _ _ (k2.2.2)) rfl rfl rfl ?_;cbv;refine oE (zm2 k2.1) (fun k3=>?_) (fun k3=>?_)
  case' refine_1 =>
   have d1:decide (kk=25)=true:=dT k3.1;cbv;simp only [d1];cbv;refine .z [0] (hM _ _ _ _ _ (upM (zch LR bk1 c))) rfl rfl rfl ?_;cbv;have e0:=zey k3.2;subst e0;cbv;all_goals trivial
  have d1:decide (kk=25)=false:=dF k3.1;cbv;simp only [d1];cbv;refine xE (⟨_,rfl⟩:∃ R2,R++[[pI 40,pS Tk1,pI 0,pI 0,.v (.slice none 0 0)]]=R2) fun R2 hR2=>?_
  refine xE (⟨_,rfl⟩:∃ N2,N + 1=N2) fun N2 hN2=>?_
  have fA:=zv6 hE g5 (by omega) hR2 hN2
  have fA1:=fA.pre;have fA2:=fA.room;have fA3:=fA.add;have fA4:=fA.app;have fA5:=fA.pre2;have fA6:=fA.sub;have fA7:=fA.p1;have fA8:=fA.s1;refine .mk _ _ (Wk.refl _ _) ?_;cbv
  repeat (first|(simp only [sb1];cbv)|(refine ⟨fA7,fA1,fA2,?_⟩;cbv)|(simp only [fA3,fA4];cbv))
  have hrow:za8 (ndN 40 (tx l1 0) [])=[pI 40,pS Tk1,pI 0,pI 0,.v (.slice none 0 0)]:=by rw [ndN,za8,eT,zao]
  refine oE (zcm k1.1 zcv c (k3.2)) (fun k4=>xE k4 fun bk4 k4=>?_) (fun k4=>?_)
  case' refine_2 =>
   refine .z [0] (hM _ _ _ _ _ (k4.2.2)) rfl rfl rfl ?_;cbv;have e0:=okE (k4.1);subst e0;have hK:=zea g4 hrow hR2;simp only [k1.1.place,nd,za8,hK];cbv
   repeat (first|(refine ⟨fA5,?_⟩;cbv)|(simp only [fA6];cbv))
   all_goals trivial
  refine .z [0] (hM _ _ _ _ _ (k4.2.2.2.2)) rfl rfl rfl ?_;cbv;exact .mk (bk4,List.drop 1 (List.drop 1 l1),acc++[ndN 40 (tx l1 0) []],R2,N2) ⟨rfl,rfl,rfl,rfl,rfl⟩ ⟨k4.1,k4.2.1,by show N2 + (List.drop 1 (List.drop 1 l1)).length<=l0.length;have:=k4.2.2.1;have:=k1.2.2.1;omega,by rw [zc0,g4,zae,zae,hrow];exact hR2,by show R2.length=N2;rw [<-hR2,lLA,g5];exact hN2⟩ (by rw [hμ,hμ];show (List.drop 1 (List.drop 1 l1)).length < l1.length;have:=k4.2.2.1;have:=k1.2.2.1;omega)
end
end Go.Proofs.YtcfecmeocimclaaGreatDoor
