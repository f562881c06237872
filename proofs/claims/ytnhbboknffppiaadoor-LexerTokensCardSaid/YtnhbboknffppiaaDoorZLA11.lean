/- Own work: what the reference's token needs, plain; operators. -/
import Derived.Test.YtnhbboknffppiaaDoorZLA10
namespace Go.Proofs.YtnhbboknffppiaaDoor
open Go.RowKit
set_option maxRecDepth 100000
set_option linter.unusedSimpArgs false

/-- the value of digits behind a number -/
def dcA (n : Nat) (l : Bs) : Nat := l.foldl (fun n c => 10 * n + (c.toNat - 48)) n
theorem dcA_cons (n : Nat) (c : UInt8) (l : Bs) : dcA n (c :: l) = dcA (10 * n + (c.toNat - 48)) l := by
  unfold dcA
  rw [List.foldl_cons]
theorem dcN_eq (l : Bs) : decN l = dcA 0 l := by
  unfold decN dcA
  exact rfl
theorem dg_nat {c : UInt8} (h : dgt c = true) : 48 ≤ c.toNat ∧ c.toNat ≤ 57 := by
  unfold dgt at h
  simp only [decide_eq_true_eq] at h
  exact ⟨UInt8.le_iff_toNat_le.1 h.1, UInt8.le_iff_toNat_le.1 h.2⟩
theorem dcA_bounds : ∀ (l : Bs) (n : Nat), (∀ c ∈ l, dgt c = true) → n * 10 ^ l.length ≤ dcA n l ∧ dcA n l < (n + 1) * 10 ^ l.length
  | [], n, _ => by
    show n * 1 ≤ n ∧ n < (n + 1) * 1
    omega
  | c :: l, n, h => by
    have hc := dg_nat (h c (List.mem_cons_self ..))
    obtain ⟨h1, h2⟩ := dcA_bounds l (10 * n + (c.toNat - 48)) fun x hx => h x (List.mem_cons_of_mem _ hx)
    rw [dcA_cons, List.length_cons, Nat.pow_succ]
    constructor
    · refine Nat.le_trans ?_ h1
      rw [show n * (10 ^ l.length * 10) = (10 * n) * 10 ^ l.length by rw [Nat.mul_comm (10 ^ l.length) 10, ← Nat.mul_assoc, Nat.mul_comm n 10]]
      exact Nat.mul_le_mul_right _ (by omega)
    · refine Nat.lt_of_lt_of_le h2 ?_
      rw [show (n + 1) * (10 ^ l.length * 10) = (10 * (n + 1)) * 10 ^ l.length by rw [Nat.mul_comm (10 ^ l.length) 10, ← Nat.mul_assoc, Nat.mul_comm (n + 1) 10]]
      exact Nat.mul_le_mul_right _ (by omega)
/-- digits of one length compare as texts do -/
theorem less_dig : ∀ (a b : Bs) (n : Nat), a.length = b.length → (∀ c ∈ a, dgt c = true) → (∀ c ∈ b, dgt c = true) → Op.bytesLess a b = decide (dcA n a < dcA n b)
  | [], [], n, _, _, _ => by
    show false = decide (n < n)
    exact (decide_eq_false (Nat.lt_irrefl _)).symm
  | x :: a, y :: b, n, hl, ha, hb => by
    have hx := dg_nat (ha x (List.mem_cons_self ..))
    have hy := dg_nat (hb y (List.mem_cons_self ..))
    have hl2 : a.length = b.length := by simpa using hl
    have ha2 : ∀ c ∈ a, dgt c = true := fun c hc => ha c (List.mem_cons_of_mem _ hc)
    have hb2 : ∀ c ∈ b, dgt c = true := fun c hc => hb c (List.mem_cons_of_mem _ hc)
    rw [dcA_cons, dcA_cons]
    show (decide (x < y) || (x == y && Op.bytesLess a b)) = _
    have b1 := dcA_bounds a (10 * n + (x.toNat - 48)) ha2
    have b2 := dcA_bounds b (10 * n + (y.toNat - 48)) hb2
    rw [← hl2] at b2
    rcases Nat.lt_trichotomy x.toNat y.toNat with h | h | h
    · have h1 : x < y := UInt8.lt_iff_toNat_lt.2 h
      rw [decide_eq_true h1, Bool.true_or]
      refine (decide_eq_true (Nat.lt_of_lt_of_le b1.2 (Nat.le_trans ?_ b2.1))).symm
      exact Nat.mul_le_mul_right _ (by omega)
    · have h1 : x = y := UInt8.toNat_inj.1 h
      subst h1
      have h2 : ¬ x < x := fun h => by
        have := UInt8.lt_iff_toNat_lt.1 h
        omega
      rw [decide_eq_false h2, Bool.false_or, beq_self_eq_true, Bool.true_and]
      exact less_dig a b _ hl2 ha2 hb2
    · have h1 : ¬ x < y := fun h' => by
        have := UInt8.lt_iff_toNat_lt.1 h'
        omega
      have h2 : (x == y) = false := beq_eq_false_iff_ne.2 fun e => by subst e; omega
      rw [decide_eq_false h1, h2, Bool.false_or, Bool.false_and]
      refine (decide_eq_false (Nat.not_lt.2 (Nat.le_trans (Nat.le_of_lt b2.2) (Nat.le_trans ?_ b1.1)))).symm
      exact Nat.mul_le_mul_right _ (by omega)
theorem dig_inj : ∀ (a b : Bs) (n : Nat), a.length = b.length → (∀ c ∈ a, dgt c = true) → (∀ c ∈ b, dgt c = true) → dcA n a = dcA n b → a = b
  | [], [], _, _, _, _, _ => rfl
  | x :: a, y :: b, n, hl, ha, hb, h => by
    have hx := dg_nat (ha x (List.mem_cons_self ..))
    have hy := dg_nat (hb y (List.mem_cons_self ..))
    have hl2 : a.length = b.length := by simpa using hl
    have ha2 : ∀ c ∈ a, dgt c = true := fun c hc => ha c (List.mem_cons_of_mem _ hc)
    have hb2 : ∀ c ∈ b, dgt c = true := fun c hc => hb c (List.mem_cons_of_mem _ hc)
    rw [dcA_cons, dcA_cons] at h
    have b1 := dcA_bounds a (10 * n + (x.toNat - 48)) ha2
    have b2 := dcA_bounds b (10 * n + (y.toNat - 48)) hb2
    rw [← hl2] at b2
    rcases Nat.lt_trichotomy x.toNat y.toNat with h1 | h1 | h1
    · exfalso
      have := Nat.lt_of_lt_of_le b1.2 (Nat.le_trans (Nat.mul_le_mul_right _ (show 10 * n + (x.toNat - 48) + 1 ≤ 10 * n + (y.toNat - 48) by omega)) b2.1)
      omega
    · have h2 : x = y := UInt8.toNat_inj.1 h1
      subst h2
      rw [dig_inj a b _ hl2 ha2 hb2 h]
    · exfalso
      have := Nat.lt_of_lt_of_le b2.2 (Nat.le_trans (Nat.mul_le_mul_right _ (show 10 * n + (y.toNat - 48) + 1 ≤ 10 * n + (x.toNat - 48) by omega)) b1.1)
      omega
theorem mostS_data : mostS.data.toList = [57, 50, 50, 51, 51, 55, 50, 48, 51, 54, 56, 53, 52, 55, 55, 53, 56, 48, 55] := rfl
theorem mostS_dec : decN mostS.data.toList = 9223372036854775807 := by kernel_rfl
theorem ba_toList (s : ByteArray) : s.toList = s.data.toList := ByteArray.toList_eq s
/-- great, of digits without a leading zero -/
theorem great_dec (s : ByteArray) (hd : ∀ c ∈ s.data.toList, dgt c = true) (hz : ¬ (s.data.toList.head? = some 48 ∧ 1 < s.data.toList.length)) : greB s = decide (9223372036854775807 < decN s.data.toList) := by
  have hsl : s.data.toList.length = s.size := rfl
  unfold greB
  rw [ba_toList, ba_toList]
  by_cases h1 : 19 < s.size
  · rw [decide_eq_true h1, Bool.true_or]
    refine (decide_eq_true ?_).symm
    cases hl : s.data.toList with
    | nil => rw [hl] at hsl; simp at hsl; omega
    | cons c r =>
      rw [hl] at hd hz hsl
      have hc := dg_nat (hd c (List.mem_cons_self ..))
      have hc0 : c ≠ 48 := fun e => hz ⟨by rw [e]; rfl, by rw [hsl]; omega⟩
      have hc1 : c.toNat ≠ 48 := fun e => hc0 (UInt8.toNat_inj.1 (by show c.toNat = 48; exact e))
      rw [dcN_eq, dcA_cons]
      have hb := (dcA_bounds r (10 * 0 + (c.toNat - 48)) fun x hx => hd x (List.mem_cons_of_mem _ hx)).1
      have hr : 19 ≤ r.length := by simp only [List.length_cons] at hsl; omega
      have hp : 10 ^ 19 ≤ 10 ^ r.length := Nat.pow_le_pow_right (by omega) hr
      have h3 : 1 * 10 ^ r.length ≤ (10 * 0 + (c.toNat - 48)) * 10 ^ r.length := Nat.mul_le_mul_right _ (by omega)
      have h4 : (10 : Nat) ^ 19 = 10000000000000000000 := by decide
      omega
  · rw [decide_eq_false h1, Bool.false_or]
    by_cases h2 : s.size = 19
    · rw [decide_eq_true h2, Bool.true_and]
      have hmd : ∀ c ∈ mostS.data.toList, dgt c = true := by rw [mostS_data]; decide
      have hlen : s.data.toList.length = mostS.data.toList.length := by rw [hsl, h2]; rfl
      have hls := less_dig s.data.toList mostS.data.toList 0 hlen hd hmd
      have hgt := less_dig mostS.data.toList s.data.toList 0 hlen.symm hmd hd
      rw [← dcN_eq, ← dcN_eq, mostS_dec] at hls hgt
      rw [hls]
      by_cases h3 : s = mostS
      · rw [decide_eq_true h3, Bool.or_true]
        refine (decide_eq_false ?_).symm
        rw [h3, mostS_dec]
        exact Nat.lt_irrefl _
      · rw [decide_eq_false h3, Bool.or_false]
        by_cases h4 : decN s.data.toList < 9223372036854775807
        · rw [decide_eq_true h4, decide_eq_false (by omega)]
          rfl
        · rw [decide_eq_false h4]
          refine (decide_eq_true ?_).symm
          by_cases h5 : 9223372036854775807 < decN s.data.toList
          · exact h5
          · exfalso
            have h6 : decN s.data.toList = 9223372036854775807 := by omega
            refine h3 (bl_inj ?_)
            exact dig_inj s.data.toList mostS.data.toList 0 hlen hd hmd (by rw [← dcN_eq, ← dcN_eq, mostS_dec, h6])
    · rw [decide_eq_false h2, Bool.false_and]
      refine (decide_eq_false ?_).symm
      have hb := (dcA_bounds s.data.toList 0 hd).2
      rw [← dcN_eq, hsl] at hb
      have hp : 10 ^ s.size ≤ 10 ^ 18 := Nat.pow_le_pow_right (by omega) (by omega)
      have h4 : (10 : Nat) ^ 18 = 1000000000000000000 := by decide
      omega
/-- all operators, in the order in which they are tried -/
def allOp : List Bs := op3L ++ (op2L ++ op1L)
theorem find_len (l : Bs) (k : Nat) : ∀ L : List Bs, (∀ o ∈ L, o.length = k) → L.find? (fun o => decide (l.take o.length = o)) = if L.any (· == l.take k) then some (l.take k) else none
  | [], _ => rfl
  | o :: L, h => by
    have ho := h o (List.mem_cons_self ..)
    have ih := find_len l k L fun x hx => h x (List.mem_cons_of_mem _ hx)
    rw [List.find?_cons, List.any_cons, ho]
    by_cases he : l.take k = o
    · have : (o == l.take k) = true := by rw [he]; exact beq_self_eq_true _
      rw [decide_eq_true he, this, Bool.true_or, if_pos rfl, he]
    · have : (o == l.take k) = false := beq_eq_false_iff_ne.2 (Ne.symm he)
      rw [decide_eq_false he, this, Bool.false_or, ih]
theorem opL_find (l : Bs) : opL l = allOp.find? (fun o => decide (l.take o.length = o)) := by
  have h3 := find_len l 3 op3L (by decide)
  have h2 := find_len l 2 op2L (by decide)
  have h1 := find_len l 1 op1L (by decide)
  unfold allOp
  rw [List.find?_append, List.find?_append, h3, h2, h1]
  unfold opL
  split
  · rfl
  · split
    · rfl
    · split <;> rfl
def opS : List ByteArray := [⟨#[61, 61, 61]⟩, ⟨#[33, 61, 61]⟩, ⟨#[43, 61]⟩, ⟨#[45, 61]⟩, ⟨#[42, 61]⟩, ⟨#[61, 61]⟩, ⟨#[33, 61]⟩, ⟨#[60, 61]⟩, ⟨#[62, 61]⟩, ⟨#[38, 38]⟩, ⟨#[124, 124]⟩, ⟨#[63, 63]⟩, ⟨#[61, 62]⟩, ⟨#[43, 43]⟩, ⟨#[45, 45]⟩,
  ⟨#[123]⟩, ⟨#[125]⟩, ⟨#[40]⟩, ⟨#[41]⟩, ⟨#[91]⟩, ⟨#[93]⟩, ⟨#[59]⟩, ⟨#[44]⟩, ⟨#[46]⟩, ⟨#[63]⟩, ⟨#[58]⟩, ⟨#[61]⟩, ⟨#[43]⟩, ⟨#[45]⟩, ⟨#[42]⟩, ⟨#[47]⟩, ⟨#[37]⟩, ⟨#[33]⟩, ⟨#[60]⟩, ⟨#[62]⟩]
theorem opS_all : opS.map (·.data.toList) = allOp := rfl
theorem operators_ret : V0 41 [] (.ro 1 (pSs opS)) := by
  refine ret_by tyT_ok g0_gr mixed (fun _ => 0) Tryd.func41 rfl (by kernel_rfl) (by kernel_rfl) rfl fun P G E hc hE => ?_
  have p1 : E.pre 0 35 (pSs opS) := by rw [hE]; exact Nat.le_refl 35
  have t3 : E.sub (pSs opS) 0 35 = pSs opS := by rw [hE]; rfl
  clear hE hc
  cbv
  refine ⟨p1, ?_⟩
  exact congrArg (PV.ro 1) t3
end Go.Proofs.YtnhbboknffppiaaDoor
