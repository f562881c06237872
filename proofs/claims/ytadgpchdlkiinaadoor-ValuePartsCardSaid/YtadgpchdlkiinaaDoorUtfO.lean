/- Own work, plain: the order of valid texts is that of their code points. -/
import Derived.Test.YtadgpchdlkiinaaDoorUtfP
import Derived.Sort.Walk0
namespace Go.Proofs.YtadgpchdlkiinaaDoor
open Go.Lib

def bytesN (r : Nat) : List Nat := if r < 128 then [r] else if r < 2048 then [192 + r / 64, 128 + r % 64] else if r < 65536 then [224 + r / 4096, 128 + r / 64 % 64, 128 + r % 64] else [240 + r / 262144, 128 + r / 4096 % 64, 128 + r / 64 % 64, 128 + r % 64]
theorem encL_bytes (r : Nat) (hv : validR r) : encL (r : Int) = (bytesN r).map UInt8.ofNat := by
  unfold validR at hv
  rw [encL_eq]
  unfold encodeRune bytesN
  by_cases h1 : r < 128
  · rw [encodeRuneZ_one (by omega) (by omega), if_pos h1]
    simp only [List.map_cons, List.map_nil]
    rw [enc_nat (m := r) rfl]
  rw [if_neg h1]
  by_cases h2 : r < 2048
  · rw [encodeRuneZ_two (by omega) (by omega), if_pos h2]
    simp only [List.map_cons, List.map_nil]
    rw [enc_nat (m := 192 + r / 64) (by omega), enc_nat (m := 128 + r % 64) (by omega)]
  rw [if_neg h2]
  by_cases h3 : r < 65536
  · rw [encodeRuneZ_three (by omega), if_pos h3]
    simp only [List.map_cons, List.map_nil]
    rw [enc_nat (m := 224 + r / 4096) (by omega), enc_nat (m := 128 + r / 64 % 64) (by omega), enc_nat (m := 128 + r % 64) (by omega)]
  · rw [encodeRuneZ_four (by omega) (by omega), if_neg h3]
    simp only [List.map_cons, List.map_nil]
    rw [enc_nat (m := 240 + r / 262144) (by omega), enc_nat (m := 128 + r / 4096 % 64) (by omega), enc_nat (m := 128 + r / 64 % 64) (by omega), enc_nat (m := 128 + r % 64) (by omega)]
/-- where two encodings part -/
def Parts (a b : List Nat) : Prop := ∃ p x y s t, a = p ++ x :: s ∧ b = p ++ y :: t ∧ x < y ∧ y < 256
theorem parts_here {x y : Nat} (s t : List Nat) (h : x < y) (hy : y < 256) : Parts (x :: s) (y :: t) := ⟨[], x, y, s, t, rfl, rfl, h, hy⟩
theorem parts_cons (z : Nat) {a b : List Nat} (h : Parts a b) : Parts (z :: a) (z :: b) := by
  obtain ⟨p, x, y, s, t, h1, h2, h3⟩ := h
  exact ⟨z :: p, x, y, s, t, by rw [h1]; rfl, by rw [h2]; rfl, h3⟩
theorem bytes_parts (r q : Nat) (h : r < q) (hq : q ≤ 1114111) : Parts (bytesN r) (bytesN q) := by
  unfold bytesN
  by_cases r1 : r < 128
  · rw [if_pos r1]
    by_cases q1 : q < 128
    · rw [if_pos q1]; exact parts_here _ _ h (by omega)
    · rw [if_neg q1]
      split
      · exact parts_here _ _ (by omega) (by omega)
      split
      · exact parts_here _ _ (by omega) (by omega)
      · exact parts_here _ _ (by omega) (by omega)
  rw [if_neg r1, if_neg (show ¬ q < 128 by omega)]
  by_cases r2 : r < 2048
  · rw [if_pos r2]
    by_cases q2 : q < 2048
    · rw [if_pos q2]
      by_cases e : r / 64 = q / 64
      · rw [e]; exact parts_cons _ (parts_here _ _ (by omega) (by omega))
      · exact parts_here _ _ (by omega) (by omega)
    · rw [if_neg q2]
      split
      · exact parts_here _ _ (by omega) (by omega)
      · exact parts_here _ _ (by omega) (by omega)
  rw [if_neg r2, if_neg (show ¬ q < 2048 by omega)]
  by_cases r3 : r < 65536
  · rw [if_pos r3]
    by_cases q3 : q < 65536
    · rw [if_pos q3]
      by_cases e : r / 4096 = q / 4096
      · rw [e]
        refine parts_cons _ ?_
        by_cases e2 : r / 64 % 64 = q / 64 % 64
        · rw [e2]; exact parts_cons _ (parts_here _ _ (by omega) (by omega))
        · exact parts_here _ _ (by omega) (by omega)
      · exact parts_here _ _ (by omega) (by omega)
    · rw [if_neg q3]
      exact parts_here _ _ (by omega) (by omega)
  rw [if_neg r3, if_neg (show ¬ q < 65536 by omega)]
  by_cases e : r / 262144 = q / 262144
  · rw [e]
    refine parts_cons _ ?_
    by_cases e2 : r / 4096 % 64 = q / 4096 % 64
    · rw [e2]
      refine parts_cons _ ?_
      by_cases e3 : r / 64 % 64 = q / 64 % 64
      · rw [e3]; exact parts_cons _ (parts_here _ _ (by omega) (by omega))
      · exact parts_here _ _ (by omega) (by omega)
    · exact parts_here _ _ (by omega) (by omega)
  · exact parts_here _ _ (by omega) (by omega)
theorem lt_append (p : List UInt8) {a b : List UInt8} : (p ++ a < p ++ b) ↔ a < b := by
  induction p with
  | nil => simp
  | cons x p ih => simp only [List.cons_append, List.cons_lt_cons_iff]; simp [ih]
theorem enc_lt (r q : Nat) (hr : validR r) (hq : validR q) (h : r < q) (a b : List UInt8) : encL (r : Int) ++ a < encL (q : Int) ++ b := by
  rw [encL_bytes r hr, encL_bytes q hq]
  have hq' : q ≤ 1114111 := by unfold validR at hq; omega
  obtain ⟨p, x, y, s, t, h1, h2, h3, h4⟩ := bytes_parts r q h hq'
  rw [h1, h2]
  simp only [List.map_append, List.map_cons, List.append_assoc, List.cons_append]
  rw [lt_append, List.cons_lt_cons_iff]
  left
  rw [UInt8.lt_iff_toNat_lt, u8n _ (by omega), u8n _ (by omega)]
  exact h3

/-- the code points of a list of bytes -/
def runesB : Nat → List UInt8 → List Int
  | 0, _ => []
  | n + 1, l => if l = [] then [] else ((decodeL l).1 : Int) :: runesB n (l.drop (decodeL l).2)
def ordL : List Int → List Int → Int
  | [], [] => 0
  | [], _ :: _ => -1
  | _ :: _, [] => 1
  | x :: xs, y :: ys => if x < y then -1 else if y < x then 1 else ordL xs ys
theorem valid_head (l : List UInt8) (hne : l ≠ []) (hv : validD l = true) : ∃ q : Nat, validR q ∧ (decodeL l).1 = q ∧ l = encL (q : Int) ++ l.drop (decodeL l).2 ∧ validD (l.drop (decodeL l).2) = true ∧ (l.drop (decodeL l).2).length < l.length := by
  rw [validD_step l hne] at hv
  split at hv
  · cases hv
  · rename_i hc
    have he := encode_decode l hne hc
    rw [← encL_eq] at he
    obtain ⟨q, hq, hqe⟩ := encL_valid ((decodeL l).1 : Int)
    have hd := dec_enc q hq (l.drop (decodeL l).2)
    rw [← hqe, he, List.take_append_drop] at hd
    have h1 : (decodeL l).1 = q := by rw [hd]
    have hw := decodeL_width l hne
    have hp := List.length_pos_iff.2 hne
    refine ⟨q, hq, h1, ?_, hv, by rw [List.length_drop]; omega⟩
    conv => lhs; rw [← List.take_append_drop (decodeL l).2 l]
    rw [← he, hqe]
theorem ordL_valid : ∀ (n m : Nat) (a b : List UInt8), a.length ≤ n → b.length ≤ m → validD a = true → validD b = true →
    (a < b ∧ ordL (runesB n a) (runesB m b) = -1) ∨ (a = b ∧ ordL (runesB n a) (runesB m b) = 0) ∨ (b < a ∧ ordL (runesB n a) (runesB m b) = 1) := by
  intro n
  induction n with
  | zero =>
    intro m a b ha hb va vb
    have : a = [] := List.eq_nil_of_length_eq_zero (by omega)
    subst this
    cases m with
    | zero =>
      have : b = [] := List.eq_nil_of_length_eq_zero (by omega)
      subst this; exact .inr (.inl ⟨rfl, rfl⟩)
    | succ m =>
      cases b with
      | nil => exact .inr (.inl ⟨rfl, by simp [runesB, ordL]⟩)
      | cons y b => exact .inl ⟨by simp, by simp [runesB, ordL]⟩
  | succ n ih =>
    intro m a b ha hb va vb
    by_cases hae : a = []
    · subst hae
      cases m with
      | zero =>
        have : b = [] := List.eq_nil_of_length_eq_zero (by omega)
        subst this; exact .inr (.inl ⟨rfl, by simp [runesB, ordL]⟩)
      | succ m =>
        cases b with
        | nil => exact .inr (.inl ⟨rfl, by simp [runesB, ordL]⟩)
        | cons y b => exact .inl ⟨by simp, by simp [runesB, ordL]⟩
    · obtain ⟨q, hq, e1, e2, e3, e4⟩ := valid_head a hae va
      by_cases hbe : b = []
      · subst hbe
        refine .inr (.inr ⟨?_, ?_⟩)
        · cases a with
          | nil => exact absurd rfl hae
          | cons x a => simp
        · cases m <;> simp [runesB, hae, ordL]
      · obtain ⟨m, rfl⟩ : ∃ m', m = m' + 1 := by
          have := List.length_pos_iff.2 hbe
          exact ⟨m - 1, by omega⟩
        obtain ⟨q', hq', f1, f2, f3, f4⟩ := valid_head b hbe vb
        have hra : runesB (n + 1) a = (q : Int) :: runesB n (a.drop (decodeL a).2) := by simp only [runesB, if_neg hae, e1]
        have hrb : runesB (m + 1) b = (q' : Int) :: runesB m (b.drop (decodeL b).2) := by simp only [runesB, if_neg hbe, f1]
        rw [hra, hrb]
        generalize a.drop (decodeL a).2 = a' at *
        generalize b.drop (decodeL b).2 = b' at *
        rw [e2, f2]
        unfold ordL
        by_cases h1 : q < q'
        · rw [if_pos (by omega)]
          exact .inl ⟨enc_lt q q' hq hq' h1 a' b', rfl⟩
        · rw [if_neg (by omega)]
          by_cases h2 : q' < q
          · rw [if_pos (by omega)]
            exact .inr (.inr ⟨enc_lt q' q hq' hq h2 b' a', rfl⟩)
          · rw [if_neg (by omega)]
            have : q = q' := by omega
            subst this
            rcases ih m a' b' (by omega) (by omega) e3 f3 with ⟨g1, g2⟩ | ⟨g1, g2⟩ | ⟨g1, g2⟩
            · exact .inl ⟨(lt_append _).2 g1, g2⟩
            · exact .inr (.inl ⟨by rw [g1], g2⟩)
            · exact .inr (.inr ⟨(lt_append _).2 g1, g2⟩)
end Go.Proofs.YtadgpchdlkiinaaDoor
