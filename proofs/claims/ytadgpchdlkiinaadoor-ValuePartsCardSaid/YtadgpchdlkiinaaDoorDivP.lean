/- Own work, plain: quotient and remainder of 64-bit integers. -/
import Derived.Test.YtadgpchdlkiinaaDoorV1
namespace Go.Proofs.YtadgpchdlkiinaaDoor
open Go.RowKit

theorem tmod_bd (a b : Int) (h : b ≠ 0) : (0 ≤ a → 0 ≤ a.tmod b) ∧ (a < 0 → a.tmod b ≤ 0) ∧ (-b < a.tmod b ∧ a.tmod b < b ∨ b < a.tmod b ∧ a.tmod b < -b) := by
  have key : ∀ a b : Int, 0 ≤ a → 0 < b → 0 ≤ a.tmod b ∧ a.tmod b < b := fun a b ha hb => ⟨Int.tmod_nonneg _ ha, Int.tmod_lt_of_pos _ hb⟩
  rcases Int.lt_or_gt_of_ne h with hb | hb
  · have e : a.tmod b = a.tmod (-b) := (Int.tmod_neg a b).symm
    rcases Int.lt_or_le a 0 with ha | ha
    · have e2 : a.tmod (-b) = -((-a).tmod (-b)) := by rw [Int.neg_tmod]; omega
      have := key (-a) (-b) (by omega) (by omega); omega
    · have := key a (-b) ha (by omega); omega
  · rcases Int.lt_or_le a 0 with ha | ha
    · have e2 : a.tmod b = -((-a).tmod b) := by rw [Int.neg_tmod]; omega
      have := key (-a) b (by omega) hb; omega
    · have := key a b ha hb; omega
theorem tdiv_bd (a b : Int) (h : b ≠ 0) (h1 : b ≠ -1) (ha0 : -9223372036854775808 ≤ a) (ha1 : a ≤ 9223372036854775807) : -9223372036854775808 ≤ a.tdiv b ∧ a.tdiv b ≤ 9223372036854775807 := by
  by_cases h2 : b = 1
  · subst h2; rw [Int.tdiv_one]; exact ⟨ha0, ha1⟩
  · have e := Int.natAbs_tdiv a b
    have hb : 2 ≤ b.natAbs := by omega
    have h3 : a.natAbs / b.natAbs ≤ a.natAbs / 2 := Nat.div_le_div_left hb (by omega)
    have h4 : a.natAbs ≤ 9223372036854775808 := by omega
    have h5 : (a.tdiv b).natAbs ≤ 4611686018427387904 := by
      rw [e]
      refine Nat.le_trans h3 ?_
      omega
    generalize a.tdiv b = t at h5 ⊢
    omega
theorem divides_math (a b : Int) (b0 : b ≠ 0) (ha0 : -9223372036854775808 ≤ a) (ha1 : a ≤ 9223372036854775807) (hb0 : -9223372036854775808 ≤ b) (hb1 : b ≤ 9223372036854775807) :
    ∃ q r : Int, arithE 9 a b = (vI q, 0) ∧ arithE 10 a b = (vI r, 0) ∧ wr (wr (q * b) + r) = a ∧ (-9223372036854775808 ≤ r ∧ r ≤ 9223372036854775807 ∧ absI r < absI b) ∧ (r = 0 ∨ decide (r < 0) = decide (a < 0)) := by
  by_cases b1 : b = -1
  · subst b1
    refine ⟨wr (0 - a), 0, by simp [arithE], by simp [arithE], ?_, ⟨by omega, by omega, by decide⟩, .inl rfl⟩
    simp only [wr, wrap_i64_eq]
    omega
  · have hm := tmod_bd a b b0
    have hd := tdiv_bd a b b0 b1 ha0 ha1
    have he := Int.tdiv_mul_add_tmod a b
    refine ⟨a.tdiv b, a.tmod b, by simp [arithE, b0, b1, wr, wrap_i64_in hd.1 hd.2], by simp [arithE, b0, b1], ?_, ⟨?_, ?_, ?_⟩, ?_⟩
    · generalize a.tdiv b * b = p at *
      generalize a.tmod b = r at *
      have : -9223372036854775808 ≤ p ∧ p ≤ 9223372036854775807 := by omega
      rw [wr, wr, wrap_i64_in this.1 this.2, he, wrap_i64_in ha0 ha1]
    · omega
    · omega
    · unfold absI; split <;> split <;> omega
    · generalize a.tmod b = r at *
      by_cases hr : r = 0
      · exact .inl hr
      · refine .inr ?_
        by_cases ha : a < 0
        · have : r < 0 := by omega
          simp [ha, this]
        · have : ¬ r < 0 := by omega
          simp [ha, this]
end Go.Proofs.YtadgpchdlkiinaaDoor
