/- Own work, plain: the decimal text of an integer is parsed as it. -/
import Derived.Lib.ItoaNum
import Derived.Lib.ItoaMem
import Derived.Lib.ItoaLen
import Derived.Lib.AtoiAllCases
import Derived.Lib.ParseIntBTie
namespace Go.Proofs.YtadgpchdlkiinaaDoor
open Go.Lib

theorem u8_nat (m : Nat) (h : m < 256) : (UInt8.ofNat m).toNat = m := by
  simp [Nat.mod_eq_of_lt h]
theorem dec_step (u : Nat) (h : ¬ u < 10) : decDigits u = decDigits (u / 10) ++ [UInt8.ofNat (48 + u % 10)] := by
  conv => lhs; rw [decDigits, dif_neg h]
theorem parse_dec : ∀ (u : Nat) (r : List UInt8), u < 18446744073709551616 → parseUint10 0 (decDigits u ++ r) = parseUint10 u r := by
  intro u
  induction u using Nat.strongRecOn with
  | ind u ih =>
    intro r hu
    by_cases h : u < 10
    · rw [decDigits_one h]
      simp only [List.cons_append, List.nil_append, parseUint10]
      rw [u8_nat _ (by omega), if_pos (by omega), if_neg (by omega), if_neg (by omega)]
      congr 1; omega
    · rw [dec_step u h, List.append_assoc, ih (u / 10) (by omega) _ (by omega)]
      simp only [List.cons_append, List.nil_append, parseUint10]
      rw [u8_nat _ (by omega), if_pos (by omega), if_neg (by omega), if_neg (by omega)]
      congr 1; omega
theorem dec_digits : ∀ (u : Nat), ∀ c ∈ decDigits u, 48 ≤ c.toNat ∧ c.toNat ≤ 57 := by
  intro u
  induction u using Nat.strongRecOn with
  | ind u ih =>
    intro c hc
    by_cases h : u < 10
    · rw [decDigits_one h] at hc
      simp only [List.mem_singleton] at hc
      subst hc
      rw [u8_nat _ (by omega)]; omega
    · rw [dec_step u h] at hc
      simp only [List.mem_append, List.mem_singleton] at hc
      rcases hc with hc | hc
      · exact ih (u / 10) (by omega) c hc
      · subst hc
        rw [u8_nat _ (by omega)]; omega
theorem dec_ne (u : Nat) : decDigits u ≠ [] := by
  by_cases h : u < 10
  · rw [decDigits_one h]; simp
  · rw [dec_step u h]; simp
theorem mag_dec (u : Nat) (hu : u < 18446744073709551616) : parseMag (decDigits u) = .ok u := by
  unfold parseMag
  rw [if_neg (dec_ne u)]
  have := parse_dec u [] hu
  rw [List.append_nil] at this
  rw [this]; rfl
theorem parse_itoa (n : Int) (h0 : -9223372036854775808 ≤ n) (h1 : n ≤ 9223372036854775807) : parseIntB 64 (itoa n) = .ok n := by
  rw [parseIntB_64]
  unfold itoa
  by_cases hn : n < 0
  · rw [if_pos hn, atoiAll_minus, mag_dec _ (by omega)]
    have h9 : ¬ 9223372036854775808 < n.natAbs := by omega
    have h8 : -((n.natAbs : Nat) : Int) = n := by omega
    simp only [signed, h9, if_false, h8]
  · rw [if_neg hn]
    have hm := mag_dec n.toNat (by omega)
    have hd := dec_digits n.toNat
    cases hl : decDigits n.toNat with
    | nil => exact absurd hl (dec_ne _)
    | cons c r =>
      have hc := hd c (by rw [hl]; simp)
      rw [hl] at hm
      unfold atoiAll
      have e2 : ¬ c.toNat = 45 := by omega
      have h9 : ¬ 9223372036854775808 ≤ n.toNat := by omega
      have h8 : ((n.toNat : Nat) : Int) = n := Int.toNat_of_nonneg (by omega)
      have e3 : ¬ c.toNat = 43 := by omega
      simp [e2, e3, hm, h9, h8]
/-- the digits, added up as a machine does -/
def accU (a : Nat) (l : List UInt8) : Nat := l.foldl (fun a c => (a * 10 + (c.toNat - 48)) % 18446744073709551616) a
theorem accU_dec : ∀ u : Nat, u < 18446744073709551616 → accU 0 (decDigits u) = u := by
  intro u
  induction u using Nat.strongRecOn with
  | ind u ih =>
    intro hu
    by_cases h : u < 10
    · rw [decDigits_one h]
      simp only [accU, List.foldl_cons, List.foldl_nil]
      rw [u8_nat _ (by omega)]; omega
    · rw [dec_step u h]
      have := ih (u / 10) (by omega) (by omega)
      unfold accU at this ⊢
      rw [List.foldl_append, this]
      simp only [List.foldl_cons, List.foldl_nil]
      rw [u8_nat _ (by omega)]; omega
theorem dec_len : ∀ (k u : Nat), u < 10 ^ (k + 1) → (decDigits u).length ≤ k + 1
  | 0, u, h => by rw [decDigits_one (by simpa using h)]; simp
  | k + 1, u, h => by
    by_cases h1 : u < 10
    · rw [decDigits_one h1]; simp
    · rw [dec_step u h1, List.length_append]
      have : u / 10 < 10 ^ (k + 1) := by
        rw [Nat.div_lt_iff_lt_mul (by omega)]
        rw [Nat.pow_succ] at h; exact h
      have := dec_len k (u / 10) this
      simp; omega
theorem dec_len19 (u : Nat) (h : u ≤ 9223372036854775808) : (decDigits u).length ≤ 19 := dec_len 18 u (by omega)
theorem accU_lt (a : Nat) (l : List UInt8) (ha : a < 18446744073709551616) : accU a l < 18446744073709551616 := by
  unfold accU
  induction l generalizing a with
  | nil => exact ha
  | cons c l ih => exact ih _ (Nat.mod_lt _ (by omega))
end Go.Proofs.YtadgpchdlkiinaaDoor
