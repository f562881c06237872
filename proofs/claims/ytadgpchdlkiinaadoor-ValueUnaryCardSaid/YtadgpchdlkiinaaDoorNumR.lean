/- Own work, plain: the reference's reading of a decimal text is the program's. -/
import Derived.Test.YtadgpchdlkiinaaDoorVNum
namespace Go.Proofs.YtadgpchdlkiinaaDoor
open Go.RowKit
set_option maxRecDepth 100000

/-- the end: the number, if it has this text -/
def finW (ng : Bool) (s : ByteArray) (a : Int) : Int × Int :=
  let o := if ng then IntKind.i64.wrap (0 - IntKind.i64.wrap a) else IntKind.i64.wrap a
  if itoaS o = s then (o, 0) else (0, 6)
def isDig (c : UInt8) : Prop := 48 ≤ c.toNat ∧ c.toNat ≤ 57
instance (c : UInt8) : Decidable (isDig c) := by unfold isDig; exact inferInstance
/-- the digits from a place on -/
def numW (ng : Bool) (s : ByteArray) : Nat → List UInt8 → Int × Int
  | a, [] => finW ng s a
  | a, c :: r => if isDig c then numW ng s ((a * 10 + (c.toNat - 48)) % 18446744073709551616) r else (0, 6)
theorem numW_all (ng : Bool) (s : ByteArray) : ∀ (l : List UInt8) (a : Nat), (∀ c ∈ l, isDig c) → numW ng s a l = finW ng s (accU a l : Nat)
  | [], a, _ => rfl
  | c :: r, a, h => by
    unfold numW
    rw [if_pos (h c (by simp)), numW_all ng s r _ fun c hc => h c (by simp [hc])]
    rfl
theorem wrap_rng (n : Int) : -9223372036854775808 ≤ IntKind.i64.wrap n ∧ IntKind.i64.wrap n ≤ 9223372036854775807 := by
  rw [wrap_i64_eq]; omega
theorem finW_none {ng : Bool} {s : ByteArray} (a : Int) (h : ∀ n : Int, -9223372036854775808 ≤ n → n ≤ 9223372036854775807 → itoaS n ≠ s) : finW ng s a = (0, 6) := by
  unfold finW
  cases ng
  · have := wrap_rng a
    simp only [Bool.false_eq_true, if_false]
    rw [if_neg (h _ this.1 this.2)]
  · have := wrap_rng (0 - IntKind.i64.wrap a)
    simp only [if_true]
    rw [if_neg (h _ this.1 this.2)]
theorem numW_none {ng : Bool} {s : ByteArray} (h : ∀ n : Int, -9223372036854775808 ≤ n → n ≤ 9223372036854775807 → itoaS n ≠ s) : ∀ (l : List UInt8) (a : Nat), numW ng s a l = (0, 6)
  | [], a => finW_none a h
  | c :: r, a => by
    unfold numW
    split
    · exact numW_none h r _
    · rfl
/-- the text behind its sign -/
def digsOf (ng : Bool) (l : List UInt8) : List UInt8 := if ng then l.drop 1 else l
def isNeg (l : List UInt8) : Bool := decide (l.head? = some 45)
def numR (s : ByteArray) : Int × Int :=
  let l := s.data.toList
  let D := digsOf (isNeg l) l
  if D.length < 1 ∨ 19 < D.length then (0, 6) else numW (isNeg l) s 0 D
theorem numR_eq (s : ByteArray) : numR s = numE s := by
  by_cases h : ∀ n : Int, -9223372036854775808 ≤ n → n ≤ 9223372036854775807 → itoaS n ≠ s
  · rw [numE_none s h]
    unfold numR
    simp only
    split
    · rfl
    · exact numW_none h _ _
  · obtain ⟨n, h0, h1, hn⟩ : ∃ n : Int, -9223372036854775808 ≤ n ∧ n ≤ 9223372036854775807 ∧ itoaS n = s := by
      apply Classical.byContradiction
      intro hh
      exact h fun n h0 h1 h2 => hh ⟨n, h0, h1, h2⟩
    subst hn
    rw [numE_itoa n h0 h1]
    have hl : (itoaS n).data.toList = Lib.itoa n := by unfold itoaS; simp
    unfold numR
    simp only [hl]
    by_cases hneg : n < 0
    · have hi : Lib.itoa n = 45 :: Lib.decDigits n.natAbs := by unfold Lib.itoa; rw [if_pos hneg]
      have hng : isNeg (Lib.itoa n) = true := by rw [hi]; rfl
      have hd : digsOf true (Lib.itoa n) = Lib.decDigits n.natAbs := by rw [hi]; rfl
      have hl0 : (Lib.decDigits n.natAbs).length ≠ 0 := fun h => dec_ne _ (List.length_eq_zero_iff.1 h)
      have hl1 := dec_len19 n.natAbs (by omega)
      rw [hng, hd, if_neg (by omega), numW_all _ _ _ _ (dec_digits _), accU_dec _ (by omega)]
      have ho : IntKind.i64.wrap (0 - IntKind.i64.wrap ((n.natAbs : Nat) : Int)) = n := by
        rw [wrap_i64_eq, wrap_i64_eq]; omega
      simp only [finW, if_true, ho]
    · have hi : Lib.itoa n = Lib.decDigits n.toNat := by unfold Lib.itoa; rw [if_neg hneg]
      have hng : isNeg (Lib.itoa n) = false := by
        rw [hi]
        have hd := dec_digits n.toNat
        cases hl : Lib.decDigits n.toNat with
        | nil => rfl
        | cons c r =>
          have := hd c (by rw [hl]; simp)
          unfold isNeg
          refine decide_eq_false fun e => ?_
          simp at e
          subst e
          simp at this
      have hl0 : (Lib.decDigits n.toNat).length ≠ 0 := fun h => dec_ne _ (List.length_eq_zero_iff.1 h)
      have hl1 := dec_len19 n.toNat (by omega)
      rw [hng]
      have hd : digsOf false (Lib.itoa n) = Lib.decDigits n.toNat := by rw [hi]; rfl
      rw [hd, if_neg (by omega), numW_all _ _ _ _ (dec_digits _), accU_dec _ (by omega)]
      have ho : IntKind.i64.wrap ((n.toNat : Nat) : Int) = n := by
        rw [wrap_i64_eq]; omega
      simp only [finW, Bool.false_eq_true, if_false, ho, if_true]
end Go.Proofs.YtadgpchdlkiinaaDoor
