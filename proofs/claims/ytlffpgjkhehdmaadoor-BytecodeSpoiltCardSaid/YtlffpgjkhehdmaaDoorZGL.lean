/- Own work: numbers and texts as bytes, plain. -/
import Derived.Test.YtlffpgjkhehdmaaDoorZGA
import Derived.Test.YtlffpgjkhehdmaaDoorZGC
import Derived.Test.YtlffpgjkhehdmaaDoorZGB
namespace Go.Proofs.YtlffpgjkhehdmaaDoor
open Go.RowKit

/-- bytes as a string -/
def ofL (l : List UInt8) : ByteArray := ⟨l.toArray⟩
theorem ofL_list (l : List UInt8) : (ofL l).data.toList = l := rfl
theorem ofL_size (l : List UInt8) : (ofL l).size = l.length := rfl
theorem ofL_of (s : ByteArray) : ofL s.data.toList = s := rfl
theorem ba_list {a b : ByteArray} (h : a.data.toList = b.data.toList) : a = b := by
  rw [← ofL_of a, ← ofL_of b, h]
theorem ba_app (a b : ByteArray) : (a ++ b).data.toList = a.data.toList ++ b.data.toList := by
  rw [ByteArray.data_append]
  simp
theorem ofL_app (a b : List UInt8) : ofL a ++ ofL b = ofL (a ++ b) := ba_list (by rw [ba_app]; rfl)
theorem ba_len (s : ByteArray) : s.data.toList.length = s.size := rfl
theorem ba_ext (s : ByteArray) (l h : Nat) : (s.extract l h).data.toList = (s.data.toList.drop l).take (h - l) := by
  rw [ByteArray.data_extract, Array.toList_extract]
/-- a number in base 128 -/
def natB (n : Nat) : List UInt8 := if n < 128 then [UInt8.ofNat n] else UInt8.ofNat (128 + n % 128) :: natB (n / 128)
termination_by n
decreasing_by omega
theorem natB_lt {n : Nat} (h : n < 128) : natB n = [UInt8.ofNat n] := by rw [natB, if_pos h]
theorem natB_ge {n : Nat} (h : ¬ n < 128) : natB n = UInt8.ofNat (128 + n % 128) :: natB (n / 128) := by rw [natB, if_neg h]
theorem natB_len : ∀ (k n : Nat), n < 128 ^ (k + 1) → (natB n).length ≤ k + 1
  | k, n, h => by
    by_cases hn : n < 128
    · rw [natB_lt hn]; simp
    · rw [natB_ge hn]
      cases k with
      | zero => simp at h; omega
      | succ k =>
        have := natB_len k (n / 128) (by rw [Nat.div_lt_iff_lt_mul (by omega), ← Nat.pow_succ]; exact h)
        simp only [List.length_cons]
        omega
theorem natB_pos (n : Nat) : 0 < (natB n).length := by
  by_cases hn : n < 128
  · rw [natB_lt hn]; simp
  · rw [natB_ge hn]; simp
theorem natB_10 {n : Nat} (h : n < 18446744073709551616) : (natB n).length ≤ 10 := natB_len 9 n (by have : (128 : Nat) ^ (9 + 1) = 1180591620717411303424 := by decide
                                                                                                    omega)
/-- a number is read: i bytes of it have made acc -/
def numF : Nat → Nat → List UInt8 → Option (Nat × Nat)
  | _, _, [] => none
  | i, acc, c :: r => if 10 ≤ i then none else if i = 9 ∧ 1 < c.toNat then none else if c.toNat < 128 then (if c.toNat = 0 ∧ 0 < i then none else some (acc + c.toNat * 128 ^ i, i + 1)) else numF (i + 1) (acc + (c.toNat - 128) * 128 ^ i) r
theorem u8_lt (c : UInt8) : c.toNat < 256 := c.toNat_lt
theorem u8_of (c : UInt8) : UInt8.ofNat c.toNat = c := UInt8.ofNat_toNat
theorem u8_to {n : Nat} (h : n < 256) : (UInt8.ofNat n).toNat = n := by
  rw [UInt8.toNat_ofNat']
  exact Nat.mod_eq_of_lt h
theorem pow_le9 {i : Nat} (h : i ≤ 9) : 128 ^ i ≤ 9223372036854775808 := by
  have : (128 : Nat) ^ i ≤ 128 ^ 9 := Nat.pow_le_pow_right (by omega) h
  have e : (128 : Nat) ^ 9 = 9223372036854775808 := by decide
  omega
theorem pow_dvd9 {i : Nat} (h : i ≤ 9) : ∃ q, 18446744073709551616 = q * 128 ^ i := by
  refine ⟨2 * 128 ^ (9 - i), ?_⟩
  rw [Nat.mul_assoc, ← Nat.pow_add, show 9 - i + i = 9 by omega]
/-- what is read is the number of its bytes, and small -/
theorem numF_sound : ∀ (l : List UInt8) (i acc n k : Nat), numF i acc l = some (n, k) → ∃ m r, l = natB m ++ r ∧ (0 < i → 0 < m) ∧ n = acc + m * 128 ^ i ∧ k = i + (natB m).length ∧ i ≤ 9 ∧ m * 128 ^ i < 18446744073709551616
  | [], i, acc, n, k, h => by unfold numF at h; cases h
  | c :: r, i, acc, n, k, h => by
    unfold numF at h
    split at h
    · cases h
    rename_i hi
    split at h
    · cases h
    rename_i h9
    split at h
    · rename_i hc
      split at h
      · cases h
      rename_i h0
      cases h
      refine ⟨c.toNat, r, by rw [natB_lt hc, u8_of]; rfl, fun h => by omega, rfl, by rw [natB_lt hc]; rfl, by omega, ?_⟩
      by_cases e : i = 9
      · subst e
        have : c.toNat ≤ 1 := by omega
        have e9 : (128 : Nat) ^ 9 = 9223372036854775808 := by decide
        rw [e9]
        omega
      · have h8 : (128 : Nat) ^ i ≤ 128 ^ 8 := Nat.pow_le_pow_right (by omega) (by omega)
        have e8 : (128 : Nat) ^ 8 = 72057594037927936 := by decide
        have : c.toNat * 128 ^ i ≤ 127 * 128 ^ i := Nat.mul_le_mul_right _ (by omega)
        omega
    · rename_i hc
      obtain ⟨m, r', hr, hm, hn, hk, hi9, hb⟩ := numF_sound r (i + 1) _ n k h
      have hm := hm (by omega)
      have hcl := u8_lt c
      have e1 : (c.toNat - 128 + 128 * m) % 128 = c.toNat - 128 := by rw [Nat.add_mul_mod_self_left]; exact Nat.mod_eq_of_lt (by omega)
      have e2 : (c.toNat - 128 + 128 * m) / 128 = m := by rw [Nat.add_mul_div_left _ _ (by omega)]; rw [Nat.div_eq_of_lt (by omega)]; omega
      have hN : natB (c.toNat - 128 + 128 * m) = c :: natB m := by
        rw [natB_ge (by omega), e1, e2, show 128 + (c.toNat - 128) = c.toNat by omega, u8_of]
      refine ⟨c.toNat - 128 + 128 * m, r', by rw [hN, hr]; rfl, fun _ => by omega, ?_, by rw [hN, hk]; simp only [List.length_cons]; omega, by omega, ?_⟩
      · rw [hn, Nat.pow_succ]
        rw [Nat.add_mul]
        rw [show 128 * m * 128 ^ i = m * (128 ^ i * 128) by rw [Nat.mul_comm (128 ^ i) 128, ← Nat.mul_assoc, Nat.mul_comm m 128]]
        omega
      · obtain ⟨q, hq⟩ := pow_dvd9 hi9
        rw [hq] at hb ⊢
        have hp : 0 < 128 ^ (i + 1) := Nat.pow_pos (by omega)
        have hmq : m < q := Nat.lt_of_mul_lt_mul_right hb
        have h1 : (c.toNat - 128 + 128 * m) * 128 ^ i < (m + 1) * 128 ^ (i + 1) := by
          rw [Nat.pow_succ, Nat.mul_comm (128 ^ i) 128, ← Nat.mul_assoc]
          exact Nat.mul_lt_mul_of_pos_right (by omega) (Nat.pow_pos (by omega))
        have h2 : (m + 1) * 128 ^ (i + 1) ≤ q * 128 ^ (i + 1) := Nat.mul_le_mul_right _ hmq
        omega
/-- a number's bytes are read as the number -/
theorem numF_comp : ∀ (m i acc : Nat) (r : List UInt8), (0 < i → 0 < m) → m * 128 ^ i < 18446744073709551616 → numF i acc (natB m ++ r) = some (acc + m * 128 ^ i, i + (natB m).length) := by
  intro m
  induction m using Nat.strongRecOn with
  | _ m ih =>
    intro i acc r hm hb
    have hi : m = 0 ∨ i ≤ 9 := by
      rcases Nat.lt_or_ge 9 i with h | h
      · left
        have e10 : (128 : Nat) ^ 10 ≤ 128 ^ i := Nat.pow_le_pow_right (by omega) h
        have : (128 : Nat) ^ 10 = 1180591620717411303424 := by decide
        rcases Nat.eq_zero_or_pos m with h0 | h0
        · exact h0
        · have : 128 ^ i ≤ m * 128 ^ i := Nat.le_mul_of_pos_left _ h0
          omega
      · exact .inr h
    have hi : i ≤ 9 := by
      rcases hi with h | h
      · rcases Nat.eq_zero_or_pos i with h0 | h0
        · omega
        · have := hm h0; omega
      · exact h
    have h9 : ∀ c : Nat, c * 128 ^ i ≤ m * 128 ^ i → i = 9 → c ≤ 1 := by
      intro c hc e
      subst e
      have e9 : (128 : Nat) ^ 9 = 9223372036854775808 := by decide
      rw [e9] at hc hb
      omega
    by_cases hlt : m < 128
    · rw [natB_lt hlt]
      simp only [List.cons_append, List.nil_append]
      unfold numF
      rw [u8_to (by omega), if_neg (by omega), if_neg (by
        rintro ⟨e, h⟩
        have := h9 m (Nat.le_refl _) e
        omega), if_pos hlt, if_neg (by
        rintro ⟨e, h⟩
        have := hm h
        omega)]
      rfl
    · rw [natB_ge hlt]
      simp only [List.cons_append]
      have hml : m % 128 < 128 := Nat.mod_lt _ (by omega)
      unfold numF
      have hq : m / 128 * 128 ^ (i + 1) ≤ m * 128 ^ i := by
        rw [Nat.pow_succ, Nat.mul_comm (128 ^ i) 128, ← Nat.mul_assoc]
        exact Nat.mul_le_mul_right _ (Nat.div_mul_le_self m 128)
      have hi8 : i ≤ 8 := by
        rcases Nat.lt_or_ge 8 i with h | h
        · have e : i = 9 := by omega
          have := h9 m (Nat.le_refl _) e
          omega
        · exact h
      rw [u8_to (by omega), if_neg (by omega), if_neg (by omega), if_neg (by omega), ih (m / 128) (by omega) (i + 1) _ r (fun _ => by omega) (by omega)]
      have e1 : 128 + m % 128 - 128 = m % 128 := by omega
      rw [e1]
      have e2 : m % 128 * 128 ^ i + m / 128 * 128 ^ (i + 1) = m * 128 ^ i := by
        rw [Nat.pow_succ, Nat.mul_comm (128 ^ i) 128, ← Nat.mul_assoc, ← Nat.add_mul]
        rw [show m % 128 + m / 128 * 128 = m by omega]
      simp only [List.length_cons, Option.some.injEq, Prod.mk.injEq]
      omega
/-- an integer as it is written -/
def zzU (n : Int) : Int := stdE.bxor .u64 (stdE.shl .u64 (stdE.wrap .u64 n) 1) (stdE.wrap .u64 (stdE.shr .i64 n 63))
def unzz (u : Nat) : Int := stdE.bxor .i64 (stdE.wrap .i64 (stdE.shr .u64 u 1)) (stdE.wsub .i64 0 (stdE.wrap .i64 (stdE.band .u64 u 1)))
theorem zzU_rng (n : Int) : 0 ≤ zzU n ∧ zzU n < 18446744073709551616 := by
  unfold zzU
  show 0 ≤ IntKind.u64.wrap _ ∧ IntKind.u64.wrap _ < 18446744073709551616
  rw [wrap_u64_eq]
  omega
theorem xor_ones (x : BitVec 64) : (x ^^^ BitVec.allOnes 64).toNat = 18446744073709551615 - x.toNat := by
  rw [BitVec.xor_allOnes, BitVec.toNat_not]
theorem zz_nn {n : Int} (h0 : 0 ≤ n) (h1 : n < 9223372036854775808) : zzU n = 2 * n := by
  show IntKind.u64.wrap ((BitVec.ofInt 64 (IntKind.u64.wrap (IntKind.u64.wrap n * 2))) ^^^ BitVec.ofInt 64 (IntKind.u64.wrap (n.fdiv (2 ^ 63)))).toNat = 2 * n
  have e1 : n.fdiv (2 ^ 63) = 0 := by
    rw [Int.fdiv_eq_ediv_of_nonneg _ (by decide)]
    have : (2 : Int) ^ 63 = 9223372036854775808 := by decide
    omega
  rw [e1]
  have e2 : IntKind.u64.wrap 0 = 0 := by decide
  rw [e2]
  have e3 : (BitVec.ofInt 64 0) = 0#64 := by decide
  rw [e3, BitVec.xor_zero, BitVec.toNat_ofInt]
  simp only [wrap_u64_eq]
  have e4 : ((2 : Nat) ^ 64 : Nat) = 18446744073709551616 := by decide
  rw [e4]
  omega
theorem zz_neg {n : Int} (h0 : n < 0) (h1 : -9223372036854775808 ≤ n) : zzU n = -2 * n - 1 := by
  show IntKind.u64.wrap ((BitVec.ofInt 64 (IntKind.u64.wrap (IntKind.u64.wrap n * 2))) ^^^ BitVec.ofInt 64 (IntKind.u64.wrap (n.fdiv (2 ^ 63)))).toNat = -2 * n - 1
  have e1 : n.fdiv (2 ^ 63) = -1 := by
    rw [Int.fdiv_eq_ediv_of_nonneg _ (by decide)]
    have : (2 : Int) ^ 63 = 9223372036854775808 := by decide
    omega
  rw [e1]
  have e3 : (BitVec.ofInt 64 (IntKind.u64.wrap (-1))) = BitVec.allOnes 64 := by decide
  rw [e3, xor_ones, BitVec.toNat_ofInt]
  simp only [wrap_u64_eq]
  have e4 : ((2 : Nat) ^ 64 : Nat) = 18446744073709551616 := by decide
  rw [e4]
  omega
theorem and_one (u : Nat) (_hu : u < 18446744073709551616) : stdE.band .u64 u 1 = (u % 2 : Nat) := by
  show IntKind.u64.wrap ((BitVec.ofInt 64 (u : Int)) &&& BitVec.ofInt 64 1).toNat = _
  rw [BitVec.toNat_and, BitVec.toNat_ofInt]
  have e : (BitVec.ofInt 64 1).toNat = 1 := by decide
  rw [e, Nat.and_one_is_mod, wrap_u64_eq]
  have e4 : ((2 : Nat) ^ 64 : Nat) = 18446744073709551616 := by decide
  rw [e4]
  omega
theorem unzz_even {u : Nat} (hu : u < 18446744073709551616) (h : u % 2 = 0) : unzz u = u / 2 := by
  unfold unzz
  rw [and_one u hu, h]
  show IntKind.i64.wrap ((BitVec.ofInt 64 (IntKind.i64.wrap ((u : Int).fdiv (2 ^ 1)))) ^^^ BitVec.ofInt 64 (IntKind.i64.wrap (0 - IntKind.i64.wrap ((0 : Nat) : Int)))).toNat = _
  have e3 : (BitVec.ofInt 64 (IntKind.i64.wrap (0 - IntKind.i64.wrap ((0 : Nat) : Int)))) = 0#64 := by decide
  rw [e3, BitVec.xor_zero, BitVec.toNat_ofInt]
  have e1 : (u : Int).fdiv (2 ^ 1) = u / 2 := Int.fdiv_eq_ediv_of_nonneg _ (by decide)
  rw [e1]
  simp only [wrap_i64_eq]
  have e4 : ((2 : Nat) ^ 64 : Nat) = 18446744073709551616 := by decide
  rw [e4]
  omega
theorem unzz_odd {u : Nat} (hu : u < 18446744073709551616) (h : u % 2 = 1) : unzz u = -((u / 2 : Nat) : Int) - 1 := by
  unfold unzz
  rw [and_one u hu, h]
  show IntKind.i64.wrap ((BitVec.ofInt 64 (IntKind.i64.wrap ((u : Int).fdiv (2 ^ 1)))) ^^^ BitVec.ofInt 64 (IntKind.i64.wrap (0 - IntKind.i64.wrap ((1 : Nat) : Int)))).toNat = _
  have e3 : (BitVec.ofInt 64 (IntKind.i64.wrap (0 - IntKind.i64.wrap ((1 : Nat) : Int)))) = BitVec.allOnes 64 := by decide
  rw [e3, xor_ones, BitVec.toNat_ofInt]
  have e1 : (u : Int).fdiv (2 ^ 1) = u / 2 := Int.fdiv_eq_ediv_of_nonneg _ (by decide)
  rw [e1]
  simp only [wrap_i64_eq]
  have e4 : ((2 : Nat) ^ 64 : Nat) = 18446744073709551616 := by decide
  rw [e4]
  omega
theorem zz_un {u : Nat} (hu : u < 18446744073709551616) : (zzU (unzz u)).toNat = u := by
  rcases Nat.mod_two_eq_zero_or_one u with h | h
  · rw [unzz_even hu h, zz_nn (by omega) (by omega)]
    omega
  · rw [unzz_odd hu h, zz_neg (by omega) (by omega)]
    omega
theorem un_zz {n : Int} (h0 : -9223372036854775808 ≤ n) (h1 : n < 9223372036854775808) : unzz (zzU n).toNat = n := by
  rcases Int.lt_or_le n 0 with h | h
  · rw [zz_neg h h0]
    have e : (-2 * n - 1).toNat % 2 = 1 := by omega
    rw [unzz_odd (by omega) e]
    omega
  · rw [zz_nn h h1, unzz_even (by omega) (by omega)]
    omega
/-- the bytes of an integer, a text -/
def zb (n : Int) : List UInt8 := natB (zzU n).toNat
def strB (s : ByteArray) : List UInt8 := natB s.size ++ s.data.toList
theorem zb_len (n : Int) : (zb n).length ≤ 10 := natB_10 (by have := zzU_rng n; omega)
end Go.Proofs.YtlffpgjkhehdmaaDoor

/- Own work: package codec: what a Writer writes. -/
namespace Go.Proofs.YtlffpgjkhehdmaaDoor
open Go.RowKit
set_option maxRecDepth 100000
set_option linter.unusedSimpArgs false

abbrev C0 (_ : World) : Prop := True
theorem c0_gr : ∀ w w', Gr w w' → C0 w → C0 w' := fun _ _ _ _ => trivial
abbrev CV (f : FuncId) (l : List PV) (r : PV) : Prop := Ret Tryd.prog C0 f l r
abbrev CM (f : FuncId) (l : List AV) (H : AH) (r : AV) (K : AH) : Prop := RetM Tryd.prog C0 f l H r K
abbrev cI (n : Int) : PV := .v (.int .i64 n)
abbrev cU (n : Int) : PV := .v (.int .u64 n)
abbrev c8 (n : Int) : PV := .v (.int .u8 n)
abbrev cS (s : ByteArray) : PV := .v (.string s)
theorem wrap_u8_eq (n : Int) : IntKind.u8.wrap n = n % 256 := by
  have e1 : ((2 : Int) ^ IntKind.u8.bits) = 256 := by decide
  have e3 : IntKind.u8.signed = false := rfl
  simp only [IntKind.wrap, e1, e3, Bool.false_and, Bool.false_eq_true, if_false]
theorem or_128 : ∀ c : Fin 256, (c.val ||| 128) = 128 + c.val % 128 := by decide
theorem bor_128 (n : Int) (_h0 : 0 ≤ n) : stdE.bor .u8 (stdE.wrap .u8 n) 128 = 128 + n % 128 := by
  show IntKind.u8.wrap ((BitVec.ofInt 8 (IntKind.u8.wrap n)) ||| BitVec.ofInt 8 128).toNat = _
  rw [BitVec.toNat_or, BitVec.toNat_ofInt, wrap_u8_eq, wrap_u8_eq]
  have e : (BitVec.ofInt 8 128).toNat = 128 := by decide
  have e2 : ((2 : Nat) ^ 8 : Nat) = 256 := by decide
  rw [e, e2]
  have h := or_128 ⟨(n % 256 % ((256 : Nat) : Int)).toNat, by omega⟩
  simp only at h
  rw [h]
  omega
/-- the bytes of a list as rows -/
def pL (l : List UInt8) : List (List PV) := bytesRows (ofL l)
theorem pL_len (l : List UInt8) : (pL l).length = l.length := by unfold pL; rw [brow_len, ofL_size]
theorem pL_app (a b : List UInt8) : pL (a ++ b) = pL a ++ pL b := by
  unfold pL bytesRows
  rw [ofL_list, ofL_list, ofL_list, List.map_append]
theorem pL_one (n : Nat) (h : n < 256) : pL [UInt8.ofNat n] = [[c8 n]] := by
  unfold pL bytesRows
  rw [ofL_list]
  simp only [List.map_cons, List.map_nil, u8_to h]
theorem pL_int (n : Int) (h0 : 0 ≤ n) (h1 : n < 256) : pL [UInt8.ofNat n.toNat] = [[c8 n]] := by
  rw [pL_one n.toNat (by omega), show ((n.toNat : Nat) : Int) = n by omega]
/-- a writer's blocks -/
def wH (l : List UInt8) : AH := [some (.box [.osl 1 0 l.length] 103 none), some (.rows 1 (pL l) 5)]
/-- at the head of the loop of Uint -/
structure UiI (tot : List UInt8) (y : Int × List (List PV) × Nat) : Prop where
  n0 : 0 ≤ y.1
  n1 : y.1 < 18446744073709551616
  st : ∃ l, y.2.1 = pL l ∧ l.length = y.2.2 ∧ l ++ natB y.1.toNat = tot
set_option maxHeartbeats 1000000 in
theorem uint_w (l : List UInt8) (n : Int) (h0 : 0 ≤ n) (h1 : n < 18446744073709551616) (hb : l.length ≤ 1000000000) :
    CM 73 [.own 0 0, .p (cU n)] (wH l) (.p (.tup [])) (wH (l ++ natB n.toNat)) := by
  obtain ⟨tot, ht⟩ : ∃ x, l ++ natB n.toNat = x := ⟨_, rfl⟩
  have htl : tot.length ≤ 1000000010 := by
    have := natB_10 (n := n.toNat) (by omega)
    rw [← ht, List.length_append]
    omega
  rw [ht]
  unfold wH
  obtain ⟨μ, hμ⟩ : ∃ μ : Int → Nat, ∀ i, μ i = i.toNat := ⟨_, fun _ => rfl⟩
  have hx0 : UiI tot (n, pL l, l.length) := ⟨h0, h1, l, rfl, rfl, ht⟩
  obtain ⟨rs0, hrs⟩ : ∃ x, pL l = x := ⟨_, rfl⟩
  obtain ⟨m0, hm⟩ : ∃ x, l.length = x := ⟨_, rfl⟩
  obtain ⟨RS, hRS⟩ : ∃ x, pL tot = x := ⟨_, rfl⟩
  obtain ⟨M, hMM⟩ : ∃ x, tot.length = x := ⟨_, rfl⟩
  rw [hrs, hm] at hx0
  rw [hrs, hm, hRS, hMM]
  refine retm_cut tyT_ok (f := 73) Tryd.func73 rfl (by kernel_rfl) (of_decide_eq_true (by kernel_rfl)) fun tags htl => ?_
  match tags, htl with
  | [t0, t1], _ =>
    refine Seg.of tyT_ok mixed (fun _ => 0) (by kernel_rfl) (fun E => retQM E tyT Tryd.f73.results.toList [t0, t1] (.p (.tup [])) [some (.box [.osl 1 0 M] 103 none), some (.rows 1 RS 5)]) fun P G E hc hM hE => ?_
    have elt : ∀ a b, E.lti a b = decide (a < b) := fun a b => by rw [hE]; rfl
    have ele : ∀ a b, E.lei a b = decide (a ≤ b) := fun a b => by rw [hE]; rfl
    have epre : ∀ (r : List (List PV)) k, k ≤ r.length → E.pre 0 k r := fun r k h => by rw [hE]; show 0 + k ≤ r.length; omega
    have eroom : ∀ k, k ≤ 2000000000 → E.room k 1 1 := fun k h => by rw [hE]; exact ⟨by unfold maxLen; omega, by omega⟩
    have eadd : ∀ a b, E.addN a b = a + b := fun a b => by rw [hE]; rfl
    have eapp : ∀ (r : List (List PV)) k x, k = r.length → E.app r k x = r ++ x := fun r k x h => by rw [hE]; show r.take k ++ x = _; rw [h, List.take_length]
    have esub : ∀ x : List PV, E.sub [x] 0 1 = [x] := fun x => by rw [hE]; rfl
    have epre1 : ∀ x : List PV, E.pre 0 1 [x] := fun x => by rw [hE]; show 0 + 1 ≤ 1; omega
    have q7 : E.ple 0 7 := by rw [hE]; show (0 : Int) ≤ 7; omega
    have ebor : ∀ n : Int, 0 ≤ n → E.bor .u8 (E.wrap .u8 n) 128 = 128 + n % 128 := fun n h => by rw [hE]; exact bor_128 n h
    have ewr : ∀ n : Int, 0 ≤ n → n < 128 → E.wrap .u8 n = n := fun n h h' => by rw [hE]; show IntKind.u8.wrap n = n; rw [wrap_u8_eq]; omega
    have eshr : ∀ n : Int, E.shr .u64 n 7 = n / 128 := fun n => by rw [hE]; show n.fdiv (2 ^ 7) = _; rw [Int.fdiv_eq_ediv_of_nonneg _ (by decide)]; rfl
    clear hE
    cbv
    refine loop_by 31 [0, 1] 2 (fun y : Int × List (List PV) × Nat => [.own 0 0, .p (cU y.1)]) (fun y => [some (.box [.osl 1 0 y.2.2] 103 (some t0)), some (.rows 1 y.2.1 5)]) (UiI tot) (fun y => μ y.1) (n, rs0, m0) ⟨rfl, rfl, rfl, rfl, rfl⟩ hx0 ?_
    clear hx0
    rintro ⟨k, rs, m⟩ ⟨k0, k1, l', hr, hl, hlt⟩
    simp only at k0 k1 hr hl hlt
    have dd := ele 128 k
    have hml : m = rs.length := by rw [hr, pL_len, hl]
    have hmt : m + (natB k.toNat).length = tot.length := by rw [← hlt, List.length_append, hl]
    have p5 := epre rs m (by omega)
    have p4 := eroom m (by omega)
    by_cases hk : 128 ≤ k
    · rw [decide_eq_true hk] at dd
      have b1 := ebor k k0
      have s1 := eshr k
      obtain ⟨dx, hdx⟩ : ∃ x : Int, 128 + k % 128 = x := ⟨_, rfl⟩
      rw [hdx] at b1
      have hone := pL_int dx (by omega) (by omega)
      have hun : UInt8.ofNat dx.toNat = UInt8.ofNat (128 + k.toNat % 128) := by congr 1; omega
      rw [hun] at hone
      obtain ⟨k', hk'⟩ : ∃ x, k / 128 = x := ⟨_, rfl⟩
      rw [hk'] at s1
      obtain ⟨rs', hrs'⟩ : ∃ x, rs ++ [[c8 dx]] = x := ⟨_, rfl⟩
      obtain ⟨m', hm'⟩ : ∃ x, m + 1 = x := ⟨_, rfl⟩
      have a2 := eadd m 1
      rw [hm'] at a2
      have r3 := eapp rs m [[c8 dx]] hml
      rw [hrs'] at r3
      have r0 := esub [c8 dx]
      have p0 := epre1 [c8 dx]
      have hI2 : UiI tot (k', rs', m') := by
        refine ⟨by simp only; omega, by simp only; omega, l' ++ [UInt8.ofNat (128 + k.toNat % 128)], ?_, ?_, ?_⟩
        · simp only
          rw [pL_app, hone, ← hr, hrs']
        · simp only [List.length_append, List.length_singleton]
          omega
        · simp only
          rw [← hlt, natB_ge (n := k.toNat) (by omega), List.append_assoc]
          have : k'.toNat = k.toNat / 128 := by omega
          rw [this]
          rfl
      have hM2 : μ k' < μ k := by rw [hμ, hμ]; omega
      clear elt ele epre eroom eadd eapp esub epre1 ebor ewr eshr hlt hr hone hdx hk' hrs' hm' hun
      obtain ⟨wk, hwk⟩ : ∃ x, E.wrap .u8 k = x := ⟨_, rfl⟩
      rw [hwk] at b1
      cbv
      repeat (first | (simp only [dd]; cbv) | simp only [dd] | (simp only [hwk]; cbv) | simp only [hwk] | (simp only [b1]; cbv) | simp only [b1] | (refine ⟨p0,p5,p4, ?_⟩; cbv) | (simp only [r0,r3,a2]; cbv) | simp only [r0,r3,a2] | (refine ⟨q7, ?_⟩; cbv) | (simp only [s1]; cbv) | simp only [s1])
      refine .mk (k', rs', m') ⟨rfl, rfl, rfl, rfl, rfl⟩ ?_ ?_
      · exact hI2
      · exact hM2
    · rw [decide_eq_false hk] at dd
      have w1 := ewr k k0 (by omega)
      have hone := pL_int k k0 (by omega)
      have htot : tot = l' ++ [UInt8.ofNat k.toNat] := by rw [← hlt, natB_lt (n := k.toNat) (by omega)]
      have a2 := eadd m 1
      have hMm : m + 1 = M := by rw [← hMM, htot, List.length_append, hl]; rfl
      rw [hMm] at a2
      have r3 := eapp rs m [[c8 k]] hml
      have hRR : rs ++ [[c8 k]] = RS := by rw [← hRS, htot, pL_app, hone, hr]
      rw [hRR] at r3
      have r0 := esub [c8 k]
      have p0 := epre1 [c8 k]
      clear elt ele epre eroom eadd eapp esub epre1 ebor ewr eshr hlt hr hone htot hMm hRR
      cbv
      repeat (first | (simp only [dd]; cbv) | simp only [dd] | (simp only [w1]; cbv) | simp only [w1] | (refine ⟨p0,p5,p4, ?_⟩; cbv) | (simp only [r0,r3,a2]; cbv) | simp only [r0,r3,a2])
      all_goals trivial
end Go.Proofs.YtlffpgjkhehdmaaDoor

/- Own work: package codec and bytecode: integers, lengths, texts and lists of integers are written. -/
namespace Go.Proofs.YtlffpgjkhehdmaaDoor
open Go.RowKit
set_option maxRecDepth 100000
set_option linter.unusedSimpArgs false

set_option maxHeartbeats 1000000 in
theorem int_w (l : List UInt8) (n : Int) (hb : l.length ≤ 1000000000) :
    CM 76 [.own 0 0, .p (cI n)] (wH l) (.p (.tup [])) (wH (l ++ zb n)) := by
  have hz := zzU_rng n
  have rc := uint_w l (zzU n) hz.1 hz.2 hb
  rw [show natB (zzU n).toNat = zb n from rfl] at rc
  unfold wH at rc ⊢
  generalize l ++ zb n = l2 at *
  generalize l2.length = m2 at *
  generalize pL l2 = r2 at *
  generalize l.length = m1 at *
  generalize pL l = r1 at *
  refine retm_cut tyT_ok (f := 76) Tryd.func76 rfl (by kernel_rfl) (of_decide_eq_true (by kernel_rfl)) fun tags htl => ?_
  match tags, htl with
  | [t0, t1], _ =>
    refine Seg.of tyT_ok mixed (fun _ => 0) (by kernel_rfl) (fun E => retQM E tyT Tryd.f76.results.toList [t0, t1] (.p (.tup [])) [some (.box [.osl 1 0 m2] 103 none), some (.rows 1 r2 5)]) fun P G E hc hM hE => ?_
    replace rc := hM _ _ _ _ _ rc
    have q1 : E.ple 0 1 := by rw [hE]; show (0 : Int) ≤ 1; omega
    have q2 : E.ple 0 63 := by rw [hE]; show (0 : Int) ≤ 63; omega
    have z1 : E.bxor .u64 (E.shl .u64 (E.wrap .u64 n) 1) (E.wrap .u64 (E.shr .i64 n 63)) = zzU n := by rw [hE]; rfl
    generalize zzU n = z at *
    cbv
    repeat (first | (refine ⟨q1, ?_⟩; cbv) | (refine ⟨q2, ?_⟩; cbv) | (simp only [z1]; cbv) | simp only [z1])
    refine .mk _ _ (Wk.refl _ _) [0, 1] _ _ _ _ rc rfl rfl rfl ?_
    cbv
    all_goals trivial
set_option maxHeartbeats 1000000 in
theorem count_w (l : List UInt8) (n : Int) (h0 : 0 ≤ n) (h1 : n < 9223372036854775808) (hb : l.length ≤ 1000000000) :
    CM 55 [.own 0 0, .p (cI n)] (wH l) (.p (.tup [])) (wH (l ++ natB n.toNat)) := by
  have rc := uint_w l n h0 (by omega) hb
  unfold wH at rc ⊢
  generalize l ++ natB n.toNat = l2 at *
  generalize l2.length = m2 at *
  generalize pL l2 = r2 at *
  generalize l.length = m1 at *
  generalize pL l = r1 at *
  refine retm_cut tyT_ok (f := 55) Tryd.func55 rfl (by kernel_rfl) (of_decide_eq_true (by kernel_rfl)) fun tags htl => ?_
  match tags, htl with
  | [t0, t1], _ =>
    refine Seg.of tyT_ok mixed (fun _ => 0) (by kernel_rfl) (fun E => retQM E tyT Tryd.f55.results.toList [t0, t1] (.p (.tup [])) [some (.box [.osl 1 0 m2] 103 none), some (.rows 1 r2 5)]) fun P G E hc hM hE => ?_
    replace rc := hM _ _ _ _ _ rc
    have z1 : E.max n 0 = n := by rw [hE]; exact if_neg (by omega)
    have z2 : E.wrap .u64 n = n := by rw [hE]; show IntKind.u64.wrap n = n; rw [wrap_u64_eq]; omega
    cbv
    repeat (first | (simp only [z1]; cbv) | simp only [z1] | (simp only [z2]; cbv) | simp only [z2])
    refine .mk _ _ (Wk.refl _ _) [0, 1] _ _ _ _ rc rfl rfl rfl ?_
    cbv
    all_goals trivial
set_option maxHeartbeats 1000000 in
theorem str_w (l : List UInt8) (s : ByteArray) (hs : s.size ≤ 1000000) (hb : l.length ≤ 1000000000) :
    CM 74 [.own 0 0, .p (cS s)] (wH l) (.p (.tup [])) (wH (l ++ strB s)) := by
  have rc := uint_w l s.size (Int.natCast_nonneg _) (by omega) hb
  rw [show ((s.size : Nat) : Int).toNat = s.size by omega] at rc
  have hl2 : (l ++ natB s.size).length ≤ 1000000010 := by
    have := natB_10 (n := s.size) (by omega)
    rw [List.length_append]
    omega
  have e1 : l ++ strB s = (l ++ natB s.size) ++ s.data.toList := by unfold strB; rw [List.append_assoc]
  rw [e1]
  have e2 : pL ((l ++ natB s.size) ++ s.data.toList) = pL (l ++ natB s.size) ++ bytesRows s := by
    rw [pL_app]
    rfl
  have e3 : ((l ++ natB s.size) ++ s.data.toList).length = (l ++ natB s.size).length + s.size := by rw [List.length_append, ba_len]
  have e4 : (pL (l ++ natB s.size)).length = (l ++ natB s.size).length := pL_len _
  unfold wH at rc ⊢
  rw [e2, e3]
  clear e1 e2 e3
  generalize l ++ natB s.size = l2 at *
  generalize l2.length = m2 at *
  generalize pL l2 = r2 at *
  generalize l.length = m1 at *
  generalize pL l = r1 at *
  obtain ⟨sz, hsz⟩ : ∃ x : Int, ((s.size : Nat) : Int) = x := ⟨_, rfl⟩
  rw [hsz] at rc
  obtain ⟨r3, hr3⟩ : ∃ x, r2 ++ bytesRows s = x := ⟨_, rfl⟩
  obtain ⟨m3, hm3⟩ : ∃ x, m2 + s.size = x := ⟨_, rfl⟩
  rw [hr3, hm3]
  refine retm_cut tyT_ok (f := 74) Tryd.func74 rfl (by kernel_rfl) (of_decide_eq_true (by kernel_rfl)) fun tags htl => ?_
  match tags, htl with
  | [t0, t1], _ =>
    refine Seg.of tyT_ok mixed (fun _ => 0) (by kernel_rfl) (fun E => retQM E tyT Tryd.f74.results.toList [t0, t1] (.p (.tup [])) [some (.box [.osl 1 0 m3] 103 none), some (.rows 1 r3 5)]) fun P G E hc hM hE => ?_
    replace rc := hM _ _ _ _ _ rc
    have z0 : E.size s = sz := by rw [hE]; exact hsz
    have z1 : E.wrap .u64 sz = sz := by rw [hE]; show IntKind.u64.wrap sz = sz; rw [wrap_u64_eq]; omega
    have z2 : E.nat sz = s.size := by rw [hE]; show sz.toNat = s.size; omega
    have a1 : E.addN m2 s.size = m3 := by rw [hE]; exact hm3
    have a2 : E.app r2 m2 (E.brows s) = r3 := by rw [hE]; show r2.take m2 ++ bytesRows s = r3; rw [← e4, List.take_length]; exact hr3
    have p5 : E.pre 0 m2 r2 := by rw [hE]; show 0 + m2 ≤ r2.length; omega
    have p4 : E.room m2 s.size 1 := by rw [hE]; exact ⟨by unfold maxLen; omega, by omega⟩
    generalize s.size = ss at *
    cbv
    repeat (first | (simp only [z0]; cbv) | simp only [z0] | (simp only [z1]; cbv) | simp only [z1])
    refine .mk _ _ (Wk.refl _ _) [0, 1] _ _ _ _ rc rfl rfl rfl ?_
    cbv
    simp only [z0, z2, a1, a2]
    repeat (first | (refine ⟨p5, p4, ?_⟩; cbv) | (simp only [z0, z2, a1, a2]; cbv))
    all_goals trivial
end Go.Proofs.YtlffpgjkhehdmaaDoor

/- Own work: package bytecode: lists of integers are written. -/
namespace Go.Proofs.YtlffpgjkhehdmaaDoor
open Go.RowKit
set_option maxRecDepth 100000
set_option linter.unusedSimpArgs false

/-- integers as rows -/
def pN (ns : List Int) : List (List PV) := ns.map fun n => [cI n]
theorem pN_get {ns : List Int} {i : Nat} {n : Int} (h : ns[i]? = some n) : (pN ns)[i]? = some [cI n] := by
  unfold pN; rw [List.getElem?_map, h]; rfl
theorem zbs_len : ∀ ns : List Int, (ns.flatMap zb).length ≤ 10 * ns.length
  | [] => Nat.le_refl _
  | n :: ns => by
    have := zb_len n
    have := zbs_len ns
    simp only [List.flatMap_cons, List.length_append, List.length_cons]
    omega
structure IsI (l : List UInt8) (ns : List Int) (y : Int × List (List PV) × Nat) : Prop where
  i0 : 0 ≤ y.1
  i1 : y.1 ≤ ns.length
  st : y.2.1 = pL (l ++ (ns.take y.1.toNat).flatMap zb) ∧ y.2.2 = (l ++ (ns.take y.1.toNat).flatMap zb).length
set_option maxHeartbeats 1000000 in
theorem ints_w (l : List UInt8) (ns : List Int) (hn : ns.length ≤ 100) (hb : l.length ≤ 900000000) :
    CM 75 [.own 0 0, .p (.ro 1 (pN ns))] (wH l) (.p (.tup [])) (wH (l ++ ns.flatMap zb)) := by
  obtain ⟨tot, ht⟩ : ∃ x, l ++ ns.flatMap zb = x := ⟨_, rfl⟩
  rw [ht]
  have hpl : (pN ns).length = ns.length := by simp [pN]
  have hg : ∀ (k : Nat) n, ns[k]? = some n → (pN ns)[k]? = some [cI n] := fun k n h => pN_get h
  obtain ⟨nn, hnn⟩ : ∃ x, ns.length = x := ⟨_, rfl⟩
  rw [hnn] at hpl hn
  obtain ⟨F, hF⟩ : ∃ x, pN ns = x := ⟨_, rfl⟩
  rw [hF] at hpl hg ⊢
  have rcs : ∀ l' : List UInt8, l'.length ≤ 1000000000 → ∀ n, CM 76 [.own 0 0, .p (cI n)] (wH l') (.p (.tup [])) (wH (l' ++ zb n)) := fun l' h n => int_w l' n h
  have hx0 : IsI l ns (0, pL l, l.length) := ⟨Int.le_refl _, Int.natCast_nonneg _, by simp, by simp⟩
  obtain ⟨μ, hμ⟩ : ∃ μ : Int → Nat, ∀ i, μ i = 1000 - i.toNat := ⟨_, fun _ => rfl⟩
  obtain ⟨rs0, hrs⟩ : ∃ x, pL l = x := ⟨_, rfl⟩
  obtain ⟨m0, hm⟩ : ∃ x, l.length = x := ⟨_, rfl⟩
  obtain ⟨RS, hRS⟩ : ∃ x, pL tot = x := ⟨_, rfl⟩
  obtain ⟨M, hMM⟩ : ∃ x, tot.length = x := ⟨_, rfl⟩
  unfold wH at rcs ⊢
  rw [hrs, hm] at hx0
  rw [hrs, hm, hRS, hMM]
  refine retm_cut tyT_ok (f := 75) Tryd.func75 rfl (by kernel_rfl) (of_decide_eq_true (by kernel_rfl)) fun tags htl => ?_
  match tags, htl with
  | [t0, t1], _ =>
    refine Seg.of tyT_ok mixed (fun _ => 0) (by kernel_rfl) (fun E => retQM E tyT Tryd.f75.results.toList [t0, t1] (.p (.tup [])) [some (.box [.osl 1 0 M] 103 none), some (.rows 1 RS 5)]) fun P G E hc hM hE => ?_
    have elt : ∀ a b, E.lti a b = decide (a < b) := fun a b => by rw [hE]; rfl
    have eofn : ∀ n, E.ofN n = (n : Int) := fun n => by rw [hE]; rfl
    have enat : ∀ i, E.nat i = i.toNat := fun i => by rw [hE]; rfl
    have eple : ∀ a b, a ≤ b → E.ple a b := fun a b h => by rw [hE]; exact h
    have eadd : ∀ a b : Int, -1000000 ≤ a → a ≤ 1000000 → -1000000 ≤ b → b ≤ 1000000 → E.wadd .i64 a b = a + b := fun a b h0 h1 h2 h3 => by rw [hE]; exact wrap_i64_in (by omega) (by omega)
    clear hE
    cbv at hpl
    cbv
    simp only [hpl]
    refine loop_by 18 [0, 6, 7, 8] 2 (fun y : Int × List (List PV) × Nat => [.own 0 0, .p (.ro 1 F), .p (cI (E.ofN nn)), .p (cI y.1)]) (fun y => [some (.box [.osl 1 0 y.2.2] 103 (some t0)), some (.rows 1 y.2.1 5)]) (IsI l ns) (fun y => μ y.1) (0, rs0, m0) ⟨rfl, rfl, rfl, rfl, rfl⟩ hx0 ?_
    clear hx0
    rintro ⟨i, rs, m⟩ ⟨i0, i1, hr, hml⟩
    simp only at i0 i1 hr hml
    replace hnn : ns.length = nn := hnn
    replace hn : nn ≤ 100 := hn
    replace hb : l.length ≤ 900000000 := hb
    replace eofn : ∀ n : Nat, E.ofN n = (n : Int) := eofn
    have dd : E.lti i (E.ofN nn) = decide (i < (nn : Int)) := by rw [eofn, elt]
    by_cases hi : i < (nn : Int)
    · rw [decide_eq_true hi] at dd
      obtain ⟨x, hx⟩ : ∃ x, ns[i.toNat]? = some x := ⟨_, List.getElem?_eq_getElem (by omega)⟩
      have gr := hg _ _ hx
      rw [← enat] at gr
      have p3 := eple 0 i i0
      have ei := eadd i 1 (by omega) (by omega) (by omega) (by omega)
      have hM2 : μ (E.wadd .i64 i 1) < μ i := by rw [hμ, hμ, ei]; omega
      have htk : (ns.take (i + 1).toNat).flatMap zb = (ns.take i.toNat).flatMap zb ++ zb x := by
        rw [show (i + 1).toNat = i.toNat + 1 by omega, List.take_add_one, hx]
        simp
      have hlen : (l ++ (ns.take i.toNat).flatMap zb).length ≤ 1000000000 := by
        have := zbs_len (ns.take i.toNat)
        have := List.length_take_le i.toNat ns
        rw [List.length_append]
        omega
      have rc := hM _ _ _ _ _ (rcs (l ++ (ns.take i.toNat).flatMap zb) hlen x)
      obtain ⟨l', hl'⟩ : ∃ y, l ++ (ns.take i.toNat).flatMap zb = y := ⟨_, rfl⟩
      have hI2 : IsI l ns (E.wadd .i64 i 1, pL (l' ++ zb x), (l' ++ zb x).length) := by
        rw [ei]
        refine ⟨by simp only; omega, by simp only; omega, ?_, ?_⟩
        · simp only; rw [htk, ← hl', List.append_assoc]
        · simp only; rw [htk, ← hl', List.append_assoc]
      rw [hl'] at rc hr hml
      rw [← hr, ← hml] at rc
      generalize pL (l' ++ zb x) = r2 at *
      generalize (l' ++ zb x).length = m2 at *
      clear hg hx hr hml hl' hlen htk rcs
      cbv
      repeat (first | (simp only [hpl]; cbv) | simp only [hpl] | (simp only [dd]; cbv) | simp only [dd] | (refine ⟨p3,_,gr, ?_⟩; cbv))
      refine .mk _ _ (Wk.refl _ _) [0, 1] _ _ _ _ rc rfl rfl rfl ?_
      cbv
      refine .mk (E.wadd .i64 i 1, r2, m2) ⟨rfl, rfl, rfl, rfl, rfl⟩ ?_ ?_
      · exact hI2
      · exact hM2
    · rw [decide_eq_false hi] at dd
      have htk : ns.take i.toNat = ns := List.take_of_length_le (by omega)
      rw [htk, ht] at hr hml
      obtain rfl : rs = RS := hr.trans hRS
      obtain rfl : m = M := hml.trans hMM
      clear hg rcs hr hml
      cbv
      repeat (first | (simp only [hpl]; cbv) | simp only [hpl] | (simp only [dd]; cbv) | simp only [dd])
      all_goals trivial
end Go.Proofs.YtlffpgjkhehdmaaDoor
