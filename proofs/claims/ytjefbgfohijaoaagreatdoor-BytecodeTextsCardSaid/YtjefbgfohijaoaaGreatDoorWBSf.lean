/- Own work: knapsackref27.SameFunc of a function and of what is parsed from its text. -/
import Derived.Test.YtjefbgfohijaoaaGreatDoorWBP1
import Derived.Test.YtjefbgfohijaoaaGreatDoorWPD
namespace Go.Proofs.YtjefbgfohijaoaaGreatDoor
open Go.RowKit
set_option maxRecDepth 100000
set_option linter.unusedSimpArgs false
theorem sameP_ret (c : Cst) (h : c.kind = 1 \/ c.kind = 2) : RZ 34 [.agg (pCst (cstP c)), .agg (pCst c)] (pB true) := by
 obtain ⟨k, z, s⟩ := c
 unfold cstP
 rcases h with h | h
 ·simp only at h
  subst h
  show RZ 34 [.agg [pI 1, pI z, pS ⟨#[]⟩], .agg [pI 1, pI z, pS s]] (pB true)
  refine ret_by tyT_ok gz_gr mixed (fun _ => 0) Tryz.func34 rfl (by kernel_rfl) (by kernel_rfl) rfl fun P G E hc hE => ?_
  have d1 : decide (z = z) = true := decide_eq_true rfl
  clear hE hc
  cbv
  repeat (first | (simp only [d1]; cbv) | simp only [d1])
  all_goals trivial
 ·simp only at h
  subst h
  show RZ 34 [.agg [pI 2, pI 0, pS s], .agg [pI 2, pI z, pS s]] (pB true)
  refine ret_by tyT_ok gz_gr mixed (fun _ => 0) Tryz.func34 rfl (by kernel_rfl) (by kernel_rfl) rfl fun P G E hc hE => ?_
  have d1 : E.eq s s = true := by rw [hE]; exact decide_eq_true rfl
  clear hE hc
  cbv
  repeat (first | (simp only [d1]; cbv) | simp only [d1])
  all_goals trivial
structure SfI (n i : Int) : Prop where
 i0 : 0 <= i
 i1 : i <= n
set_option maxHeartbeats 4000000 in
theorem samefuncP_ret (f : Fn) (hk : ∀ c ∈ f.consts, c.kind = 1 \/ c.kind = 2) (h1 : f.code.length <= 100000) (h2 : f.consts.length <= 100000) (h3 : f.hdls.length <= 100000) : RZ 11 [.agg (pFn (fnP f)), .agg (pFn f)] (pB true) := by
 have hsm := fun c h => sameP_ret c h
 obtain ⟨n0, hn0⟩ : ∃ n : Int, ((f.code.length : Nat) : Int) = n := ⟨_, rfl⟩
 obtain ⟨n1, hn1⟩ : ∃ n : Int, ((f.consts.length : Nat) : Int) = n := ⟨_, rfl⟩
 obtain ⟨n2, hn2⟩ : ∃ n : Int, ((f.hdls.length : Nat) : Int) = n := ⟨_, rfl⟩
 have b0 : 0 <= n0 /\ n0 <= 100000 := by omega
 have b1 : 0 <= n1 /\ n1 <= 100000 := by omega
 have b2 : 0 <= n2 /\ n2 <= 100000 := by omega
 obtain ⟨CD, hCD⟩ : ∃ y, pCode f.code = y := ⟨_, rfl⟩
 obtain ⟨C1, hC1⟩ : ∃ y, pCons (fnP f).consts = y := ⟨_, rfl⟩
 obtain ⟨C2, hC2⟩ : ∃ y, pCons f.consts = y := ⟨_, rfl⟩
 obtain ⟨HD, hHD⟩ : ∃ y, pHdls f.hdls = y := ⟨_, rfl⟩
 have g0 : ∀ i : Int, 0 <= i -> i < n0 -> ∃ c : Int × Int × Int, CD[i.toNat]? = some [pI c.1, pI c.2.1, pI c.2.2] := fun i h0 h1 => by
  have hl : i.toNat < f.code.length := by omega
  refine ⟨((f.code[i.toNat]).op, (f.code[i.toNat]).a, (f.code[i.toNat]).b),?_⟩
  rw [<-hCD]
  unfold pCode
  rw [List.getElem?_map, List.getElem?_eq_getElem hl]
  rfl
 have g1 : ∀ i : Int, 0 <= i -> i < n1 -> ∃ c : Cst, (c.kind = 1 \/ c.kind = 2) /\ C1[i.toNat]? = some (pCst (cstP c)) /\ C2[i.toNat]? = some (pCst c) := fun i h0 h1 => by
  have hl : i.toNat < f.consts.length := by omega
  refine ⟨f.consts[i.toNat], hk _ (List.getElem_mem hl), ?_,?_⟩
  ·rw [<-hC1]
   unfold pCons fnP
   rw [List.getElem?_map, List.getElem?_map, List.getElem?_eq_getElem hl]
   rfl
  ·rw [<-hC2]
   unfold pCons
   rw [List.getElem?_map, List.getElem?_eq_getElem hl]
   rfl
 have g2 : ∀ i : Int, 0 <= i -> i < n2 -> ∃ c : Int × Int × Int × Int × Int, HD[i.toNat]? = some [pI c.1, pI c.2.1, pI c.2.2.1, pI c.2.2.2.1, pI c.2.2.2.2] := fun i h0 h1 => by
  have hl : i.toNat < f.hdls.length := by omega
  refine ⟨((f.hdls[i.toNat]).lo, (f.hdls[i.toNat]).hi, (f.hdls[i.toNat]).tg, (f.hdls[i.toNat]).dp, (f.hdls[i.toNat]).sc),?_⟩
  rw [<-hHD]
  unfold pHdls
  rw [List.getElem?_map, List.getElem?_eq_getElem hl]
  rfl
 have k0 : CD.length = f.code.length := by rw [<-hCD]; unfold pCode; rw [List.length_map]
 have k1 : C1.length = f.consts.length := by rw [<-hC1]; unfold pCons fnP; rw [List.length_map, List.length_map]
 have k2 : C2.length = f.consts.length := by rw [<-hC2]; unfold pCons; rw [List.length_map]
 have k3 : HD.length = f.hdls.length := by rw [<-hHD]; unfold pHdls; rw [List.length_map]
 show RZ 11 [.agg [pS f.name, pI f.kind, pI f.params, pI f.locals, .ro 3 (pCode f.code), .ro 3 (pCons (fnP f).consts), .ro 5 (pHdls f.hdls)], .agg [pS f.name, pI f.kind, pI f.params, pI f.locals, .ro 3 (pCode f.code), .ro 3 (pCons f.consts), .ro 5 (pHdls f.hdls)]] (pB true)
 rw [hCD, hC1, hC2, hHD]
 generalize f.name = nm
 generalize f.kind = kd
 generalize f.params = pr
 generalize f.locals = lc
 obtain ⟨μ, hμ⟩ : ∃ μ : Int -> Nat, ∀ i, μ i = 200000 - i.toNat := ⟨_, fun _ => rfl⟩
 have hI0 : SfI n0 0 := ⟨Int.le_refl _, b0.1⟩
 have hI1 : SfI n1 0 := ⟨Int.le_refl _, b1.1⟩
 have hI2 : SfI n2 0 := ⟨Int.le_refl _, b2.1⟩
 refine ret_by tyT_ok gz_gr mixed (fun n => match n with | 6 => 10 | 11 => 10 | 16 => 10 | _ => 0) Tryz.func11 rfl (by kernel_rfl) (by kernel_rfl) rfl fun P G E hc hE => ?_
 replace hsm := fun c h => hc _ _ _ (hsm c h)
 have l0 : E.ofN CD.length = n0 := by rw [hE, k0]; exact hn0
 have l1 : E.ofN C1.length = n1 := by rw [hE, k1]; exact hn1
 have l2 : E.ofN C2.length = n1 := by rw [hE, k2]; exact hn1
 have l3 : E.ofN HD.length = n2 := by rw [hE, k3]; exact hn2
 have elt := qLti hE
 have eple := qPle hE
 have enat : ∀ i, E.nat i = i.toNat := fun i => by rw [hE]; rfl
 have e1 : E.eq nm nm = true := by rw [hE]; exact decide_eq_true rfl
 have r : ∀ z : Int, decide (z = z) = true := fun z => decide_eq_true rfl
 have eadd := qAdd hE
 clear hE hc hCD hC1 hC2 hHD k0 k1 k2 k3 hn0 hn1 hn2 h1 h2 h3 hk
 cbv at l0 l1 l2 l3
 cbv
 repeat (first | (simp only [e1]; cbv) | simp only [e1] | (simp only [r]; cbv) | simp only [r] | (simp only [l0]; cbv) | simp only [l0] | (simp only [l1,l2]; cbv) | simp only [l1,l2] | (simp only [l3]; cbv) | simp only [l3])
 refine loop_by 116 [2, 3, 5] 2 (fun i : Int => [.own 0 0, .own 1 0, .p (pI i)]) (fun _ => [some (.box [.p (pS nm), .p (pI kd), .p (pI pr), .p (pI lc), .p (.ro 3 CD), .p (.ro 3 C1), .p (.ro 5 HD)] 33 none), some (.box [.p (pS nm), .p (pI kd), .p (pI pr), .p (pI lc), .p (.ro 3 CD), .p (.ro 3 C2), .p (.ro 5 HD)] 33 none)]) (SfI n0) μ 0 ⟨rfl, rfl, rfl, rfl, rfl⟩ hI0 ?_
 clear hI0
 rintro i ⟨i0, i1⟩
 rcases Classical.em (i < n0) with hlt | hlt
 ·have d1 : E.lti i n0 = true := by rw [elt]; exact decide_eq_true hlt
  have p1 := eple 0 i i0
  obtain ⟨i2, hi2⟩ : ∃ y : Int, i + 1 = y := ⟨_, rfl⟩
  have ei := eadd i 1 (by omega) (by omega) (by omega) (by omega)
  rw [hi2] at ei
  have hI2' : SfI n0 i2 := ⟨by omega, by omega⟩
  have hM2 : μ i2 < μ i := by rw [hμ, hμ]; omega
  obtain ⟨⟨x, y, z⟩, hci⟩ := g0 i i0 hlt
  simp only at hci
  rw [<-enat] at hci
  clear g0 g1 g2 hsm elt eple enat eadd hμ hi2 hlt hI1 hI2
  cbv
  repeat (first | (simp only [l0]; cbv) | simp only [l0] | (simp only [d1]; cbv) | simp only [d1] | (refine ⟨p1,_,hci,?_⟩; cbv) | (simp only [r]; cbv) | simp only [r] | (simp only [ei]; cbv) | simp only [ei])
  refine .mk i2 ⟨rfl, rfl, rfl, rfl, rfl⟩ ?_ ?_
  ·exact hI2'
  ·exact hM2
 ·have d1 : E.lti i n0 = false := by rw [elt]; exact decide_eq_false hlt
  clear hlt
  cbv
  repeat (first | (simp only [l0]; cbv) | simp only [l0] | (simp only [d1]; cbv) | simp only [d1])
  refine loop_by 116 [2, 3, 6] 2 (fun i : Int => [.own 0 0, .own 1 0, .p (pI i)]) (fun _ => [some (.box [.p (pS nm), .p (pI kd), .p (pI pr), .p (pI lc), .p (.ro 3 CD), .p (.ro 3 C1), .p (.ro 5 HD)] 33 none), some (.box [.p (pS nm), .p (pI kd), .p (pI pr), .p (pI lc), .p (.ro 3 CD), .p (.ro 3 C2), .p (.ro 5 HD)] 33 none)]) (SfI n1) μ 0 ⟨rfl, rfl, rfl, rfl, rfl⟩ hI1 ?_
  clear hI1 d1 i0 i1
  rintro i ⟨i0, i1⟩
  rcases Classical.em (i < n1) with hlt | hlt
  ·have d1 : E.lti i n1 = true := by rw [elt]; exact decide_eq_true hlt
   have p1 := eple 0 i i0
   obtain ⟨i2, hi2⟩ : ∃ y : Int, i + 1 = y := ⟨_, rfl⟩
   have ei := eadd i 1 (by omega) (by omega) (by omega) (by omega)
   rw [hi2] at ei
   have hI2' : SfI n1 i2 := ⟨by omega, by omega⟩
   have hM2 : μ i2 < μ i := by rw [hμ, hμ]; omega
   obtain ⟨c, hck, hc1, hc2⟩ := g1 i i0 hlt
   rw [<-enat] at hc1 hc2
   have hs := hsm c hck
   have x1 : pCst (cstP c) = [pI (cstP c).kind, pI (cstP c).int, pS (cstP c).str] := rfl
   have x2 : pCst c = [pI c.kind, pI c.int, pS c.str] := rfl
   rw [x1] at hc1 hs
   rw [x2] at hc2 hs
   generalize (cstP c).kind = y1 at hc1 hs
   generalize (cstP c).int = y2 at hc1 hs
   generalize (cstP c).str = y3 at hc1 hs
   clear x1 x2 hck g0 g1 g2 hsm elt eple enat eadd hμ hi2 hlt hI2
   generalize c.kind = z1 at hc2 hs
   generalize c.int = z2 at hc2 hs
   generalize c.str = z3 at hc2 hs
   cbv
   repeat (first | (simp only [l1,l2]; cbv) | simp only [l1,l2] | (simp only [d1]; cbv) | simp only [d1] | (refine ⟨p1,_,hc1,?_⟩; cbv) | (refine ⟨p1,_,hc2,?_⟩; cbv) | (refine ⟨_, hs,?_⟩; cbv) | (simp only [ei]; cbv) | simp only [ei])
   refine .mk i2 ⟨rfl, rfl, rfl, rfl, rfl⟩ ?_ ?_
   ·exact hI2'
   ·exact hM2
  ·have d1 : E.lti i n1 = false := by rw [elt]; exact decide_eq_false hlt
   clear hlt
   cbv
   repeat (first | (simp only [l1,l2]; cbv) | simp only [l1,l2] | (simp only [d1]; cbv) | simp only [d1])
   refine loop_by 116 [2, 3, 7] 2 (fun i : Int => [.own 0 0, .own 1 0, .p (pI i)]) (fun _ => [some (.box [.p (pS nm), .p (pI kd), .p (pI pr), .p (pI lc), .p (.ro 3 CD), .p (.ro 3 C1), .p (.ro 5 HD)] 33 none), some (.box [.p (pS nm), .p (pI kd), .p (pI pr), .p (pI lc), .p (.ro 3 CD), .p (.ro 3 C2), .p (.ro 5 HD)] 33 none)]) (SfI n2) μ 0 ⟨rfl, rfl, rfl, rfl, rfl⟩ hI2 ?_
   clear hI2 d1 i0 i1
   rintro i ⟨i0, i1⟩
   rcases Classical.em (i < n2) with hlt | hlt
   ·have d1 : E.lti i n2 = true := by rw [elt]; exact decide_eq_true hlt
    have p1 := eple 0 i i0
    obtain ⟨i2, hi2⟩ : ∃ y : Int, i + 1 = y := ⟨_, rfl⟩
    have ei := eadd i 1 (by omega) (by omega) (by omega) (by omega)
    rw [hi2] at ei
    have hI2' : SfI n2 i2 := ⟨by omega, by omega⟩
    have hM2 : μ i2 < μ i := by rw [hμ, hμ]; omega
    obtain ⟨⟨x, y, z, u, v⟩, hci⟩ := g2 i i0 hlt
    simp only at hci
    rw [<-enat] at hci
    clear g0 g1 g2 hsm elt eple enat eadd hμ hi2 hlt
    cbv
    repeat (first | (simp only [l3]; cbv) | simp only [l3] | (simp only [d1]; cbv) | simp only [d1] | (refine ⟨p1,_,hci,?_⟩; cbv) | (simp only [r]; cbv) | simp only [r] | (simp only [ei]; cbv) | simp only [ei])
    refine .mk i2 ⟨rfl, rfl, rfl, rfl, rfl⟩ ?_ ?_
    ·exact hI2'
    ·exact hM2
   ·have d1 : E.lti i n2 = false := by rw [elt]; exact decide_eq_false hlt
    clear g0 g1 g2 hsm elt eple enat eadd hμ hlt
    cbv
    repeat (first | (simp only [l3]; cbv) | simp only [l3] | (simp only [d1]; cbv) | simp only [d1])
    all_goals trivial
end Go.Proofs.YtjefbgfohijaoaaGreatDoor
