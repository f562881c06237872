/- Own work: Find of the reference: a loop in a loop over code points. -/
import Derived.Test.YtadgpchdlkiinaaDoorVS3
import Derived.Test.YtadgpchdlkiinaaDoorV9
namespace Go.Proofs.YtadgpchdlkiinaaDoor
open Go.RowKit
set_option maxRecDepth 100000

structure FiI (L M : List Int) (fr : Int) (i : Int) : Prop where
  h0 : 0 ≤ i
  h1 : i ≤ L.length + 1
  h2 : ∀ q : Nat, (q : Int) < i → fr ≤ q → ¬ M <+: L.drop q
structure InI (L M : List Int) (i : Int) (x : Bool × Int) : Prop where
  k0 : 0 ≤ x.2
  k1 : x.2 ≤ M.length
  sm : x.1 = decide (M.take x.2.toNat = (L.drop i.toNat).take x.2.toNat)
theorem find_no {L M : List Int} {fr i o : Int} (ho : findE L M fr = o) (hi : FiI L M fr i) (h : ¬ i + M.length ≤ L.length) : o = -1 := by
  rcases findE_spec L M fr with ⟨e, _⟩ | ⟨j, e, h1, h2, h3, h4⟩
  · rw [← ho, e]
  · exfalso
    by_cases hj : (j : Int) < i
    · exact hi.h2 j hj h1 h3
    · have := h3.length_le
      rw [List.length_drop] at this
      omega
theorem find_yes {L M : List Int} {fr i o : Int} (ho : findE L M fr = o) (hi : FiI L M fr i) (hf : fr ≤ i) (hle : i ≤ L.length) (h : M <+: L.drop i.toNat) : o = i := by
  have h0 := hi.h0
  rcases findE_spec L M fr with ⟨e, hn⟩ | ⟨j, e, h1, h2, h3, h4⟩
  · exact absurd h (hn i.toNat (by omega) (by omega))
  · rw [← ho, e]
    by_cases hj : (j : Int) < i
    · exact absurd h3 (hi.h2 j hj h1)
    · by_cases hj2 : i.toNat < j
      · exact absurd h (h4 i.toNat hj2 (by omega))
      · omega
theorem find_next {L M : List Int} {fr i : Int} (hi : FiI L M fr i) (hle : i ≤ L.length) (h : fr ≤ i → ¬ M <+: L.drop i.toNat) : FiI L M fr (i + 1) := by
  have h0 := hi.h0
  refine ⟨by omega, by omega, fun q hq hf => ?_⟩
  by_cases e : (q : Int) < i
  · exact hi.h2 q e hf
  · have : q = i.toNat := by omega
    subst this
    exact h (by omega)
theorem in_step {L M : List Int} {i k : Int} {s : Bool} {x y : Int} (h : InI L M i (s, k)) (hk : k < M.length) (hx : L[(i + k).toNat]? = some x) (hy : M[k.toNat]? = some y) (h0 : 0 ≤ i) : InI L M i (s && decide (x = y), k + 1) := by
  obtain ⟨k0, k1, sm⟩ := h
  simp only at k0 k1 sm
  refine ⟨by simp only; omega, by simp only; omega, ?_⟩
  simp only
  have e1 : (k + 1).toNat = k.toNat + 1 := by omega
  have hx' : (L.drop i.toNat)[k.toNat]? = some x := by rw [List.getElem?_drop, ← hx]; congr 1; omega
  rw [e1, List.take_add_one, List.take_add_one, hx', hy, sm]
  have hl : (M.take k.toNat).length = ((L.drop i.toNat).take k.toNat).length := by
    have h1 := (List.getElem?_eq_some_iff.1 hx').1
    rw [List.length_take, List.length_take]; omega
  rw [Bool.eq_iff_iff, Bool.and_eq_true, decide_eq_true_iff, decide_eq_true_iff, decide_eq_true_iff]
  simp only [Option.toList_some]
  constructor
  · rintro ⟨h1, h2⟩; rw [h1, h2]
  · intro h3
    have := List.append_inj h3 hl
    refine ⟨this.1, ?_⟩
    have := this.2
    simp at this
    exact this.symm
theorem in_end {L M : List Int} {i : Int} {s : Bool} {k : Int} (h : InI L M i (s, k)) (hk : ¬ k < M.length) : s = decide (M <+: L.drop i.toNat) := by
  obtain ⟨k0, k1, sm⟩ := h
  simp only at k0 k1 sm
  rw [sm, Bool.eq_iff_iff]
  simp only [decide_eq_true_eq]
  have e : k.toNat = M.length := by omega
  rw [e, List.take_length, List.prefix_iff_eq_take]
set_option maxHeartbeats 2000000 in
theorem rfind_ret (s t : ByteArray) (fr : Int) (hs : s.size ≤ 2000) (ht : t.size ≤ 2000) : R 38 [pS s, pS t, pI fr] (pI (findE (runesS s) (runesS t) fr)) := by
  have hls := runesS_len s
  have hlt := runesS_len t
  rw [← runesOf_runes] at hls hlt
  rw [← runesOf_runes, ← runesOf_runes]
  obtain ⟨μ, hμ⟩ : ∃ μ : Int → Nat, ∀ i, μ i = (runesOf s).length + 2 - i.toNat := ⟨_, fun _ => rfl⟩
  obtain ⟨ν, hν⟩ : ∃ ν : Int → Nat, ∀ i, ν i = (runesOf t).length + 2 - i.toNat := ⟨_, fun _ => rfl⟩
  obtain ⟨o, ho⟩ : ∃ o, findE (runesOf s) (runesOf t) fr = o := ⟨_, rfl⟩
  rw [ho]
  refine ret_by tyT_ok good_gr mixed (fun n => match n with | 10 => 12 | _ => 0) Tryd.func38 rfl (by kernel_rfl) (by kernel_rfl) rfl fun P G E hc hE => ?_
  have r1 : E.rrows s = pR (runesOf s) := by rw [hE]; rfl
  have r2 : E.rrows t = pR (runesOf t) := by rw [hE]; rfl
  have p1 : E.fits s := by rw [hE]; show _ ≤ _; omega
  have p2 : E.fits t := by rw [hE]; show _ ≤ _; omega
  have l1 : E.ofN (E.rrows s).length = ((runesOf s).length : Int) := by rw [r1, pR_len, hE]; rfl
  have l2 : E.ofN (E.rrows t).length = ((runesOf t).length : Int) := by rw [r2, pR_len, hE]; rfl
  have g1 : ∀ (i : Nat) x, (runesOf s)[i]? = some x → (E.rrows s)[i]? = some [.v (.int .i32 x)] := fun i x h => by rw [r1]; exact pR_get h
  have g2 : ∀ (i : Nat) x, (runesOf t)[i]? = some x → (E.rrows t)[i]? = some [.v (.int .i32 x)] := fun i x h => by rw [r2]; exact pR_get h
  clear r1 r2
  have elt : ∀ a b, E.lti a b = decide (a < b) := fun a b => by rw [hE]; rfl
  have ele : ∀ a b, E.lei a b = decide (a ≤ b) := fun a b => by rw [hE]; rfl
  have enat : ∀ i, E.nat i = i.toNat := fun i => by rw [hE]; rfl
  have eple : ∀ a b, a ≤ b → E.ple a b := fun a b h => by rw [hE]; exact h
  have eadd : ∀ i j : Int, 0 ≤ i → i ≤ 100000 → 0 ≤ j → j ≤ 100000 → E.wadd .i64 i j = i + j := fun i j h0 h1 h2 h3 => by rw [hE]; exact wrap_i64_in (by omega) (by omega)
  generalize runesOf s = L at *
  generalize runesOf t = M at *
  cbv
  refine ⟨p1, ?_⟩
  cbv
  refine ⟨p2, ?_⟩
  cbv
  refine loop_by 50 [2, 7, 8, 9] 0 (fun i : Int => [.p (pI fr), .p (.ro 1 (E.rrows s)), .p (.ro 1 (E.rrows t)), .p (pI i)]) (fun _ => []) (FiI L M fr) μ 0 ⟨rfl, rfl, rfl, rfl, rfl⟩ ⟨by omega, by omega, fun q hq => by omega⟩ ?_
  intro i hi
  have h0 := hi.h0
  have h1 := hi.h1
  have e1 := eadd i M.length h0 (by omega) (by omega) (by omega)
  have c1 : E.lei (E.wadd .i64 i (E.ofN (E.rrows t).length)) (E.ofN (E.rrows s).length) = decide (i + M.length ≤ L.length) := by rw [l1, l2, e1, ele]
  have ei := eadd i 1 h0 (by omega) (by omega) (by omega)
  have hM : μ (E.wadd .i64 i 1) < μ i := by
    rw [hμ, hμ, ei]; omega
  by_cases hend : i + M.length ≤ (L.length : Int)
  · rw [decide_eq_true hend] at c1
    have c2 := elt i fr
    by_cases hfr : i < fr
    · rw [decide_eq_true hfr] at c2
      have hI : FiI L M fr (E.wadd .i64 i 1) := by rw [ei]; exact find_next hi (by omega) (fun h => by omega)
      cbv at c1
      cbv
      repeat (first | (simp only [c1]; cbv) | simp only [c1] | (simp only [c2]; cbv) | simp only [c2])
      refine .mk (E.wadd .i64 i 1) ⟨rfl, rfl, rfl, rfl, rfl⟩ ?_ ?_
      · exact hI
      · exact hM
    · rw [decide_eq_false hfr] at c2
      cbv at c1
      cbv
      repeat (first | (simp only [c1]; cbv) | simp only [c1] | (simp only [c2]; cbv) | simp only [c2])
      refine loop_by 50 [2, 7, 8, 9, 10, 11] 0 (fun x : Bool × Int => [.p (pI fr), .p (.ro 1 (E.rrows s)), .p (.ro 1 (E.rrows t)), .p (pI i), .p (pB x.1), .p (pI x.2)]) (fun _ => []) (InI L M i) (fun x => ν x.2) (true, 0) ⟨rfl, rfl, rfl, rfl, rfl⟩ ⟨by simp, by simp, by simp⟩ ?_
      rintro ⟨sm, k⟩ hin
      replace hend : i + (M.length : Int) ≤ L.length := hend
      replace hls : L.length ≤ s.size := hls
      replace hlt : M.length ≤ t.size := hlt
      have k0 := hin.k0
      have k1 := hin.k1
      simp only at k0 k1
      have d1 : E.lti k (E.ofN (E.rrows t).length) = decide (k < (M.length : Int)) := by rw [l2, elt]
      by_cases hk : k < (M.length : Int)
      · rw [decide_eq_true hk] at d1
        have ek := eadd k 1 k0 (by omega) (by omega) (by omega)
        have eik := eadd i k h0 (by omega) k0 (by omega)
        obtain ⟨x, hx⟩ : ∃ x, L[(i + k).toNat]? = some x := ⟨_, List.getElem?_eq_getElem (by omega)⟩
        obtain ⟨y, hy⟩ : ∃ y, M[k.toNat]? = some y := ⟨_, List.getElem?_eq_getElem (by omega)⟩
        have ga := g1 _ _ hx
        have gb := g2 _ _ hy
        rw [← eik, ← enat] at ga
        rw [← enat] at gb
        have q1 : E.ple 0 (E.wadd .i64 i k) := by rw [eik]; exact eple _ _ (by omega)
        have q2 := eple 0 k k0
        have hst := in_step hin hk hx hy h0
        rw [← ek] at hst
        have hN : ν (E.wadd .i64 k 1) < ν k := by rw [hν, hν, ek]; omega
        clear hx hy
        cbv at d1
        cases sm
        · have hst' : InI L M i (false, E.wadd .i64 k 1) := hst
          cbv
          repeat (first | (simp only [d1]; cbv) | simp only [d1])
          refine .mk (false, E.wadd .i64 k 1) ⟨rfl, rfl, rfl, rfl, rfl⟩ ?_ ?_
          · exact hst'
          · exact hN
        · rw [Bool.true_and] at hst
          cases hxy : decide (x = y)
          · rw [hxy] at hst
            cbv
            repeat (first | (simp only [d1]; cbv) | simp only [d1] | (refine ⟨q1, ?_⟩; cbv) | (refine ⟨_, ga, ?_⟩; cbv) | (refine ⟨q2, ?_⟩; cbv) | (refine ⟨_, gb, ?_⟩; cbv) | (simp only [hxy]; cbv) | simp only [hxy])
            refine .mk (false, E.wadd .i64 k 1) ⟨rfl, rfl, rfl, rfl, rfl⟩ ?_ ?_
            · exact hst
            · exact hN
          · rw [hxy] at hst
            cbv
            repeat (first | (simp only [d1]; cbv) | simp only [d1] | (refine ⟨q1, ?_⟩; cbv) | (refine ⟨_, ga, ?_⟩; cbv) | (refine ⟨q2, ?_⟩; cbv) | (refine ⟨_, gb, ?_⟩; cbv) | (simp only [hxy]; cbv) | simp only [hxy])
            refine .mk (true, E.wadd .i64 k 1) ⟨rfl, rfl, rfl, rfl, rfl⟩ ?_ ?_
            · exact hst
            · exact hN
      · rw [decide_eq_false hk] at d1
        have hsm := in_end hin hk
        cases sm
        · have hI : FiI L M fr (E.wadd .i64 i 1) := by rw [ei]; exact find_next hi (by omega) (fun _ => of_decide_eq_false hsm.symm)
          cbv at d1
          cbv
          repeat (first | (simp only [d1]; cbv) | simp only [d1])
          refine .mk (E.wadd .i64 i 1) ⟨rfl, rfl, rfl, rfl, rfl⟩ ?_ ?_
          · exact hI
          · exact hM
        · have hoi := find_yes ho hi (by omega) (by omega) (of_decide_eq_true hsm.symm)
          subst hoi
          cbv at d1
          cbv
          repeat (first | (simp only [d1]; cbv) | simp only [d1])
  · rw [decide_eq_false hend] at c1
    have hoi := find_no ho hi hend
    subst hoi
    cbv at c1
    cbv
    repeat (first | (simp only [c1]; cbv) | simp only [c1])
end Go.Proofs.YtadgpchdlkiinaaDoor
