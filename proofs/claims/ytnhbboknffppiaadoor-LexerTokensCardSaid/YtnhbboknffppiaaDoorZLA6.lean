/- Own work: package knapsackref25: hex. -/
import Derived.Test.YtnhbboknffppiaaDoorZLA5
namespace Go.Proofs.YtnhbboknffppiaaDoor
open Go.RowKit
set_option maxRecDepth 100000
set_option linter.unusedSimpArgs false

/-- what hex returns -/
def hexI (c : UInt8) : Int := match hexv c with
  | some n => (n : Nat)
  | none => -1
def hexC (z : Int) : Int := if 48 ≤ z ∧ z ≤ 57 then z - 48 else if 97 ≤ z ∧ z ≤ 102 then z - 97 + 10 else if 65 ≤ z ∧ z ≤ 70 then z - 65 + 10 else -1
theorem hexC_I (c : UInt8) : hexC (c.toNat : Nat) = hexI c := by
  have key := List.all_eq_true.1 (show ((List.range 256).all fun n => decide (hexC (n : Nat) = hexI (UInt8.ofNat n))) = true by decide +kernel) c.toNat (List.mem_range.2 c.toNat_lt)
  rw [UInt8.ofNat_toNat] at key
  exact of_decide_eq_true key
theorem dgt_z (c : UInt8) : dgt c = decide ((48 : Int) ≤ (c.toNat : Nat) ∧ ((c.toNat : Nat) : Int) ≤ 57) := by
  have key := List.all_eq_true.1 (show ((List.range 256).all fun n => dgt (UInt8.ofNat n) == decide ((48 : Int) ≤ (n : Nat) ∧ ((n : Nat) : Int) ≤ 57)) = true by decide +kernel) c.toNat (List.mem_range.2 c.toNat_lt)
  rw [UInt8.ofNat_toNat] at key
  exact beq_iff_eq.1 key
theorem wsub_u8 {a b : Int} (h0 : 0 ≤ b) (h1 : b ≤ a) (h2 : a ≤ 255) : stdE.wsub .u8 a b = a - b := by
  have h : ∃ k : Nat, k < 256 ∧ a - b = (k : Nat) := ⟨(a - b).toNat, by omega, by omega⟩
  obtain ⟨k, hk, e⟩ := h
  show IntKind.wrap .u8 (a - b) = a - b
  rw [e]
  have key := List.all_eq_true.1 (show ((List.range 256).all fun n => decide (IntKind.wrap .u8 ((n : Nat) : Int) = (n : Nat))) = true by decide +kernel) k (List.mem_range.2 hk)
  exact of_decide_eq_true key
set_option maxHeartbeats 2000000 in
theorem hex_ret (c : UInt8) : V0 66 [pU c] (pI (hexI c)) := by
  have hd := rdigit_ret c
  rw [dgt_z] at hd
  rw [← hexC_I]
  have hz0 : (0 : Int) ≤ (c.toNat : Nat) := Int.natCast_nonneg _
  have hz1 : ((c.toNat : Nat) : Int) ≤ 255 := by have := c.toNat_lt; omega
  unfold pU at *
  generalize ((c.toNat : Nat) : Int) = z at *
  unfold hexC
  by_cases h1 : 48 ≤ z ∧ z ≤ 57
  · rw [if_pos h1]
    rw [decide_eq_true h1] at hd
    obtain ⟨v, hv⟩ : ∃ v, z - 48 = v := ⟨_, rfl⟩
    rw [hv]
    refine ret_by tyT_ok g0_gr mixed (fun _ => 0) Tryd.func66 rfl (by kernel_rfl) (by kernel_rfl) rfl fun P G E hc hE => ?_
    replace hd := hc _ _ _ hd
    have w1 : E.wsub .u8 z 48 = v := by rw [hE, ← hv]; exact wsub_u8 (by omega) (by omega) hz1
    have w2 : E.wrap .i64 v = v := by rw [hE]; exact wrap_i64_in (by omega) (by omega)
    clear hE hc hz0 hz1 h1 hv
    cbv
    repeat (first | (refine ⟨_, hd, ?_⟩; cbv) | (simp only [w1]; cbv) | simp only [w1] | (simp only [w2]; cbv) | simp only [w2])
  · rw [if_neg h1]
    rw [decide_eq_false h1] at hd
    by_cases h2 : 97 ≤ z ∧ z ≤ 102
    · rw [if_pos h2]
      obtain ⟨v, hv⟩ : ∃ v, z - 97 = v := ⟨_, rfl⟩
      obtain ⟨u, hu⟩ : ∃ u, v + 10 = u := ⟨_, rfl⟩
      rw [hv, hu]
      refine ret_by tyT_ok g0_gr mixed (fun _ => 0) Tryd.func66 rfl (by kernel_rfl) (by kernel_rfl) rfl fun P G E hc hE => ?_
      replace hd := hc _ _ _ hd
      have k1 : E.lei 97 z = decide (97 ≤ z) := by rw [hE]; rfl
      have k2 : E.lei z 102 = decide (z ≤ 102) := by rw [hE]; rfl
      have k3 : E.lei 65 z = decide (65 ≤ z) := by rw [hE]; rfl
      have k4 : E.lei z 70 = decide (z ≤ 70) := by rw [hE]; rfl
      have w1 : E.wsub .u8 z 97 = v := by rw [hE, ← hv]; exact wsub_u8 (by omega) (by omega) hz1
      have w2 : E.wrap .i64 v = v := by rw [hE]; exact wrap_i64_in (by omega) (by omega)
      have w3 : E.wadd .i64 v 10 = u := by rw [hE, ← hu]; exact wrap_i64_in (by omega) (by omega)
      rw [decide_eq_true h2.1] at k1
      rw [decide_eq_true h2.2] at k2
      clear hE hc hz0 hz1 h1 h2 hv hu k3 k4
      cbv
      repeat (first | (refine ⟨_, hd, ?_⟩; cbv) | (simp only [k1]; cbv) | simp only [k1] | (simp only [k2]; cbv) | simp only [k2] | (simp only [w1]; cbv) | simp only [w1] | (simp only [w2]; cbv) | simp only [w2] | (simp only [w3]; cbv) | simp only [w3])
    · rw [if_neg h2]
      obtain ⟨q1, hq1⟩ : ∃ q, decide (97 ≤ z) = q := ⟨_, rfl⟩
      obtain ⟨q2, hq2⟩ : ∃ q, decide (z ≤ 102) = q := ⟨_, rfl⟩
      by_cases h3 : 65 ≤ z ∧ z ≤ 70
      · rw [if_pos h3]
        obtain ⟨v, hv⟩ : ∃ v, z - 65 = v := ⟨_, rfl⟩
        obtain ⟨u, hu⟩ : ∃ u, v + 10 = u := ⟨_, rfl⟩
        rw [hv, hu]
        have h5 : decide (97 ≤ z) = false := decide_eq_false (by omega)
        refine ret_by tyT_ok g0_gr mixed (fun _ => 0) Tryd.func66 rfl (by kernel_rfl) (by kernel_rfl) rfl fun P G E hc hE => ?_
        replace hd := hc _ _ _ hd
        have k1 : E.lei 97 z = decide (97 ≤ z) := by rw [hE]; rfl
        have k2 : E.lei z 102 = decide (z ≤ 102) := by rw [hE]; rfl
        have k3 : E.lei 65 z = decide (65 ≤ z) := by rw [hE]; rfl
        have k4 : E.lei z 70 = decide (z ≤ 70) := by rw [hE]; rfl
        have w1 : E.wsub .u8 z 65 = v := by rw [hE, ← hv]; exact wsub_u8 (by omega) (by omega) hz1
        have w2 : E.wrap .i64 v = v := by rw [hE]; exact wrap_i64_in (by omega) (by omega)
        have w3 : E.wadd .i64 v 10 = u := by rw [hE, ← hu]; exact wrap_i64_in (by omega) (by omega)
        rw [h5] at k1
        rw [decide_eq_true h3.1] at k3
        rw [decide_eq_true h3.2] at k4
        clear hE hc hz0 hz1 h1 h2 h3 hv hu h5 hq1 hq2 k2
        cbv
        repeat (first | (refine ⟨_, hd, ?_⟩; cbv) | (simp only [k1]; cbv) | simp only [k1] | (simp only [k3]; cbv) | simp only [k3] | (simp only [k4]; cbv) | simp only [k4] | (simp only [w1]; cbv) | simp only [w1] | (simp only [w2]; cbv) | simp only [w2] | (simp only [w3]; cbv) | simp only [w3])
      · rw [if_neg h3]
        obtain ⟨q3, hq3⟩ : ∃ q, decide (65 ≤ z) = q := ⟨_, rfl⟩
        obtain ⟨q4, hq4⟩ : ∃ q, decide (z ≤ 70) = q := ⟨_, rfl⟩
        have h4 : (q1 && q2) = false := by
          rw [← hq1, ← hq2]
          cases hh : (decide (97 ≤ z) && decide (z ≤ 102)) with
          | false => rfl
          | true =>
            simp only [Bool.and_eq_true, decide_eq_true_eq] at hh
            exact absurd hh h2
        have h5 : (q3 && q4) = false := by
          rw [← hq3, ← hq4]
          cases hh : (decide (65 ≤ z) && decide (z ≤ 70)) with
          | false => rfl
          | true =>
            simp only [Bool.and_eq_true, decide_eq_true_eq] at hh
            exact absurd hh h3
        cases q1 <;> cases q2 <;> cases q3 <;> cases q4 <;> first | (cases h4; done) | (cases h5; done) | skip
        all_goals
          refine ret_by tyT_ok g0_gr mixed (fun _ => 0) Tryd.func66 rfl (by kernel_rfl) (by kernel_rfl) rfl fun P G E hc hE => ?_
          replace hd := hc _ _ _ hd
          have k1 : E.lei 97 z = decide (97 ≤ z) := by rw [hE]; rfl
          have k2 : E.lei z 102 = decide (z ≤ 102) := by rw [hE]; rfl
          have k3 : E.lei 65 z = decide (65 ≤ z) := by rw [hE]; rfl
          have k4 : E.lei z 70 = decide (z ≤ 70) := by rw [hE]; rfl
          rw [hq1] at k1
          rw [hq2] at k2
          rw [hq3] at k3
          rw [hq4] at k4
          clear hE hc hz0 hz1 h1 h2 h3 h4 h5 hq1 hq2 hq3 hq4
          cbv
          repeat (first | (simp only [k1]; cbv) | (simp only [k2]; cbv) | (simp only [k3]; cbv) | (simp only [k4]; cbv) | (refine ⟨_, hd, ?_⟩; cbv))
end Go.Proofs.YtnhbboknffppiaaDoor
