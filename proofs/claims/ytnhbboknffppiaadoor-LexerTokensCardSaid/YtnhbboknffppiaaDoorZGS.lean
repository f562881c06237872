/- Own work, plain: repairing a text; it is as it was just where it is valid. -/
import Derived.Lib.MapLaws
import Derived.Lib.ValidLaws
import Derived.Lib.TrimUEq
import Derived.Laws.Runes
import Derived.Laws.RangeAny
import Derived.Test.YtnhbboknffppiaaDoorZGB
namespace Go.Proofs.YtnhbboknffppiaaDoor
open Go.Lib

def encL (r : Int) : List UInt8 := (Utf8.encode r).data.toList
theorem encL_def (r : Int) : (Utf8.encode r).data.toList = encL r := rfl

theorem encL_eq (r : Int) : encL r = encodeRune r := by
  unfold encL Utf8.encode encodeRune
  by_cases hv : Utf8.valid r = true
  · have hv' : (0 ≤ r ∧ r < 55296) ∨ (57344 ≤ r ∧ r ≤ 1114111) := by simpa [Utf8.valid] using hv
    obtain ⟨n, rfl⟩ := Int.eq_ofNat_of_zero_le (show 0 ≤ r by omega)
    simp only [hv, if_true, Int.toNat_natCast]
    have hb : ∀ z : Int, ∀ m : Nat, z = m → z.toNat.toUInt8 = UInt8.ofNat m := fun z m h => by subst h; simp
    by_cases h1 : n < 128
    · rw [if_pos h1, encodeRuneZ_one (by omega) (by omega)]; simp
    rw [if_neg h1]
    by_cases h2 : n < 2048
    · rw [if_pos h2, encodeRuneZ_two (by omega) (by omega)]
      simp only [List.map_cons, List.map_nil]
      rw [hb _ (192 + n / 64) (by omega), hb _ (128 + n % 64) (by omega)]
    rw [if_neg h2]
    by_cases h3 : n < 65536
    · rw [if_pos h3, encodeRuneZ_three (by omega)]
      simp only [List.map_cons, List.map_nil]
      rw [hb _ (224 + n / 4096) (by omega), hb _ (128 + n / 64 % 64) (by omega), hb _ (128 + n % 64) (by omega)]
    rw [if_neg h3, encodeRuneZ_four (by omega) (by omega)]
    simp only [List.map_cons, List.map_nil]
    rw [hb _ (240 + n / 262144) (by omega), hb _ (128 + n / 4096 % 64) (by omega), hb _ (128 + n / 64 % 64) (by omega), hb _ (128 + n % 64) (by omega)]
  · have hv' : r < 0 ∨ (55296 ≤ r ∧ r ≤ 57343) ∨ 1114111 < r := by
      simp [Utf8.valid] at hv; omega
    rw [encodeRuneZ_bad hv']
    simp [hv, Utf8.runeError]

def repGo : Nat → List UInt8 → List UInt8
  | 0, _ => []
  | n + 1, l => if l = [] then [] else encL (decodeL l).1 ++ repGo n (l.drop (decodeL l).2)
def repairL (l : List UInt8) : List UInt8 := repGo l.length l
def repairS (s : ByteArray) : ByteArray := ⟨(repairL s.data.toList).toArray⟩

theorem decodeL_width (l : List UInt8) (hne : l ≠ []) : 1 ≤ (decodeL l).2 := by
  have h := decodeL_drop ⟨l.toArray⟩ 0
  simp only [List.drop_zero] at h
  rw [h]
  have hpos : 0 < (ByteArray.mk l.toArray).size := by
    have := List.length_pos_iff.2 hne
    simpa [ByteArray.size] using this
  by_cases ha : ((ByteArray.mk l.toArray)[0]'hpos).toNat < 128
  · rw [decode_ascii _ 0 hpos ha]; exact Nat.le_refl _
  · exact (decode_high _ 0 hpos (by omega)).2

theorem repGo_fuel : ∀ (n m : Nat) (l : List UInt8), l.length ≤ n → l.length ≤ m → repGo n l = repGo m l
  | 0, 0, _, _, _ => rfl
  | 0, m + 1, l, h, _ => by
    have : l = [] := List.eq_nil_of_length_eq_zero (by omega)
    subst this; simp [repGo]
  | n + 1, 0, l, _, h => by
    have : l = [] := List.eq_nil_of_length_eq_zero (by omega)
    subst this; simp [repGo]
  | n + 1, m + 1, l, hn, hm => by
    unfold repGo
    by_cases hl : l = []
    · simp [hl]
    · rw [if_neg hl, if_neg hl]
      have hw := decodeL_width l hl
      have hlen : (l.drop (decodeL l).2).length ≤ l.length - 1 := by rw [List.length_drop]; omega
      have hp := List.length_pos_iff.2 hl
      rw [repGo_fuel n m _ (by omega) (by omega)]

theorem repairL_step (l : List UInt8) (hne : l ≠ []) : repairL l = encL (decodeL l).1 ++ repairL (l.drop (decodeL l).2) := by
  have hp := List.length_pos_iff.2 hne
  have hw := decodeL_width l hne
  unfold repairL
  obtain ⟨n, hn⟩ : ∃ n, l.length = n + 1 := ⟨l.length - 1, by omega⟩
  rw [hn]
  rw [repGo, if_neg hne]
  rw [repGo_fuel n (l.drop (decodeL l).2).length _ (by rw [List.length_drop]; omega) (Nat.le_refl _)]

theorem repair_cases : ∀ (n : Nat) (l : List UInt8), l.length ≤ n → (validD l = true ∧ repairL l = l) ∨ (validD l = false ∧ l.length < (repairL l).length ) := by
  intro n
  induction n with
  | zero =>
    intro l hl
    have : l = [] := List.eq_nil_of_length_eq_zero (by omega)
    subst this; exact .inl ⟨rfl, rfl⟩
  | succ n ih =>
    intro l hl
    by_cases hne : l = []
    · subst hne; exact .inl ⟨rfl, rfl⟩
    have hp := List.length_pos_iff.2 hne
    have hw := decodeL_width l hne
    rw [validD_step l hne, repairL_step l hne]
    have hd : (l.drop (decodeL l).2).length = l.length - (decodeL l).2 := List.length_drop
    by_cases hv : (decodeL l).1 = 65533 ∧ (decodeL l).2 = 1
    · rw [if_pos hv]
      refine .inr ⟨rfl, ?_⟩
      rw [hv.1, hv.2]
      have he : (encL ((65533 : Nat) : Int)).length = 3 := by decide
      rw [List.length_append, he]
      rcases ih (l.drop 1) (by rw [List.length_drop]; omega) with ⟨_, h⟩ | ⟨_, h⟩
      · rw [h, List.length_drop]; omega
      · rw [List.length_drop] at h; omega
    · rw [if_neg hv]
      have he := encode_decode l hne hv
      rw [encL_eq, he]
      rcases ih (l.drop (decodeL l).2) (by omega) with ⟨h1, h2⟩ | ⟨h1, h2⟩
      · exact .inl ⟨h1, by rw [h2, List.take_append_drop]⟩
      · refine .inr ⟨h1, ?_⟩
        have := List.length_append (as := l.take (decodeL l).2) (bs := repairL (l.drop (decodeL l).2))
        rw [this]
        have ht : (l.take (decodeL l).2).length + (l.drop (decodeL l).2).length = l.length := by rw [← List.length_append, List.take_append_drop]
        omega

theorem repairL_beq (l : List UInt8) : (repairL l == l) = validD l := by
  rcases repair_cases l.length l (Nat.le_refl _) with ⟨h1, h2⟩ | ⟨h1, h2⟩
  · rw [h1, h2]; simp
  · rw [h1]
    rw [beq_eq_false_iff_ne]
    intro h
    rw [h] at h2
    omega

theorem repairL_valid {l : List UInt8} (h : validD l = true) : repairL l = l := by
  rcases repair_cases l.length l (Nat.le_refl _) with ⟨_, h2⟩ | ⟨h1, _⟩
  · exact h2
  · rw [h] at h1; cases h1

theorem data_add (a b : ByteArray) : (a ++ b).data.toList = a.data.toList ++ b.data.toList := by rw [ByteArray.data_append, Array.toList_append]

theorem repairL_step' (l : List UInt8) (r wd : Nat) (hne : l ≠ []) (h : decodeL l = (r, wd)) : repairL l = encL (r : Int) ++ repairL (l.drop wd) := by
  have h3 := repairL_step l hne
  generalize decodeL l = d at h3 h
  subst h
  simpa only using h3

theorem rep_step (s : ByteArray) (pos r wd : Nat) (acc : ByteArray) (L : List UInt8) (hp : pos < s.size) (hd : Utf8.decode s pos = (r, wd))
    (ha : acc.data.toList ++ repairL (s.data.toList.drop pos) = L) : (acc ++ Utf8.encode (r : Int)).data.toList ++ repairL (s.data.toList.drop (pos + wd)) = L := by
  have hne : s.data.toList.drop pos ≠ [] := by
    intro h
    have := congrArg List.length h
    simp [List.length_drop] at this
    have : s.data.size = s.size := rfl
    omega
  have h1 := repairL_step' _ r wd hne ((decodeL_drop s pos).trans hd)
  rw [List.drop_drop] at h1
  rw [data_add, encL_def, ← ha, h1, List.append_assoc]

theorem encL_length (r : Int) : (encL r).length ≤ 4 := by rw [encL_eq]; unfold encodeRune; rw [List.length_map]; exact (encodeRuneZ_length r).2

end Go.Proofs.YtnhbboknffppiaaDoor

/- Own work, plain: decoding what was encoded; a repaired text is valid. -/
namespace Go.Proofs.YtnhbboknffppiaaDoor
open Go.Lib

theorem u8n (m : Nat) (h : m < 256) : (UInt8.ofNat m).toNat = m := by
  simp [Nat.mod_eq_of_lt h]
theorem enc_nat {z : Int} {m : Nat} (h : z = m) : z.toNat.toUInt8 = UInt8.ofNat m := by subst h; simp
def validR (r : Nat) : Prop := r < 55296 ∨ (57344 ≤ r ∧ r ≤ 1114111)
theorem dec_enc (r : Nat) (hv : validR r) (l : List UInt8) : decodeL (encL (r : Int) ++ l) = (r, (encL (r : Int)).length) := by
  unfold validR at hv
  rw [encL_eq]
  unfold encodeRune
  by_cases h1 : r < 128
  · rw [encodeRuneZ_one (by omega) (by omega)]
    simp only [List.map_cons, List.map_nil]
    rw [decodeL_N]
    have e : (([(r : Int).toNat.toUInt8] ++ l : List UInt8).getD 0 0).toNat = r := by
      simp [Nat.mod_eq_of_lt (show r < 256 by omega)]
    rw [e]
    simp [decodeN, h1]
  by_cases h2 : r < 2048
  · rw [encodeRuneZ_two (by omega) (by omega)]
    simp only [List.map_cons, List.map_nil]
    rw [enc_nat (m := 192 + r / 64) (by omega), enc_nat (m := 128 + r % 64) (by omega), decodeL_N]
    simp only [List.cons_append, List.nil_append, List.getD_cons_zero, List.getD_cons_succ, List.length_cons, List.length_nil]
    rw [u8n _ (by omega), u8n _ (by omega)]
    have a1 : ¬ 192 + r / 64 < 128 := by omega
    have a2 : (192 + r / 64) / 32 = 6 := by omega
    have a3 : (128 + r % 64) / 64 = 2 := by omega
    have a4 : (192 + r / 64) % 32 * 64 + (128 + r % 64) % 64 = r := by omega
    unfold decodeN
    rw [if_neg a1, if_pos ⟨a2, by omega, a3⟩, a4, if_pos (by omega)]
  by_cases h3 : r < 65536
  · rw [encodeRuneZ_three (by omega)]
    simp only [List.map_cons, List.map_nil]
    rw [enc_nat (m := 224 + r / 4096) (by omega), enc_nat (m := 128 + r / 64 % 64) (by omega), enc_nat (m := 128 + r % 64) (by omega), decodeL_N]
    simp only [List.cons_append, List.nil_append, List.getD_cons_zero, List.getD_cons_succ, List.length_cons, List.length_nil]
    rw [u8n _ (by omega), u8n _ (by omega), u8n _ (by omega)]
    have a1 : ¬ 224 + r / 4096 < 128 := by omega
    have a2 : ¬ (224 + r / 4096) / 32 = 6 := by omega
    have a2' : (224 + r / 4096) / 16 = 14 := by omega
    have a3 : (128 + r / 64 % 64) / 64 = 2 := by omega
    have a3' : (128 + r % 64) / 64 = 2 := by omega
    have a4 : (224 + r / 4096) % 16 * 4096 + (128 + r / 64 % 64) % 64 * 64 + (128 + r % 64) % 64 = r := by omega
    unfold decodeN
    rw [if_neg a1, if_neg (fun h => a2 h.1), if_pos ⟨a2', ⟨by omega, a3⟩, ⟨by omega, a3'⟩⟩, a4, if_pos (by omega)]
  · rw [encodeRuneZ_four (by omega) (by omega)]
    simp only [List.map_cons, List.map_nil]
    rw [enc_nat (m := 240 + r / 262144) (by omega), enc_nat (m := 128 + r / 4096 % 64) (by omega), enc_nat (m := 128 + r / 64 % 64) (by omega), enc_nat (m := 128 + r % 64) (by omega), decodeL_N]
    simp only [List.cons_append, List.nil_append, List.getD_cons_zero, List.getD_cons_succ, List.length_cons, List.length_nil]
    rw [u8n _ (by omega), u8n _ (by omega), u8n _ (by omega), u8n _ (by omega)]
    have a1 : ¬ 240 + r / 262144 < 128 := by omega
    have a2 : ¬ (240 + r / 262144) / 32 = 6 := by omega
    have a2' : ¬ (240 + r / 262144) / 16 = 14 := by omega
    have a2'' : (240 + r / 262144) / 8 = 30 := by omega
    have a3 : (128 + r / 4096 % 64) / 64 = 2 := by omega
    have a3' : (128 + r / 64 % 64) / 64 = 2 := by omega
    have a3'' : (128 + r % 64) / 64 = 2 := by omega
    have a4 : (240 + r / 262144) % 8 * 262144 + (128 + r / 4096 % 64) % 64 * 4096 + (128 + r / 64 % 64) % 64 * 64 + (128 + r % 64) % 64 = r := by omega
    unfold decodeN
    rw [if_neg a1, if_neg (fun h => a2 h.1), if_neg (fun h => a2' h.1), if_pos ⟨a2'', ⟨by omega, a3⟩, ⟨by omega, a3'⟩, ⟨by omega, a3''⟩⟩, a4, if_pos (by omega)]
/-- the number that stands for a rune -/
theorem encL_valid (r : Int) : ∃ q : Nat, validR q ∧ encL r = encL (q : Int) := by
  by_cases h : (0 ≤ r ∧ r < 55296) ∨ (57344 ≤ r ∧ r ≤ 1114111)
  · obtain ⟨n, rfl⟩ := Int.eq_ofNat_of_zero_le (show 0 ≤ r by omega)
    exact ⟨n, by unfold validR; omega, rfl⟩
  · refine ⟨65533, by unfold validR; omega, ?_⟩
    rw [encL_eq, encL_eq]
    unfold encodeRune
    rw [encodeRuneZ_bad (by omega)]
    rfl
theorem valid_enc (r : Int) (l : List UInt8) (h : validD l = true) : validD (encL r ++ l) = true := by
  obtain ⟨q, hq, e⟩ := encL_valid r
  rw [e]
  have hd := dec_enc q hq l
  have hp : 1 ≤ (encL (q : Int)).length := by rw [encL_eq]; unfold encodeRune; rw [List.length_map]; exact (encodeRuneZ_length _).1
  have hne : encL (q : Int) ++ l ≠ [] := by intro h; rw [List.append_eq_nil_iff] at h; rw [h.1] at hp; simp at hp
  rw [validD_step _ hne, hd]
  have h3 : ¬ (q = 65533 ∧ (encL (q : Int)).length = 1) := by
    rintro ⟨rfl, h⟩
    have : (encL ((65533 : Nat) : Int)).length = 3 := by decide
    omega
  rw [if_neg h3, List.drop_left]
  exact h
theorem repairL_isValid : ∀ (l : List UInt8), validD (repairL l) = true := by
  intro l
  generalize hn : l.length = n
  induction n using Nat.strongRecOn generalizing l with
  | ind n ih =>
    by_cases hl : l = []
    · subst hl; rfl
    · rw [repairL_step l hl]
      have hw := decodeL_width l hl
      have hp := List.length_pos_iff.2 hl
      exact valid_enc _ _ (ih _ (by rw [List.length_drop]; omega) _ rfl)
theorem repairL_size (l : List UInt8) : (repairL l).length ≤ 4 * l.length := by
  generalize hn : l.length = n
  induction n using Nat.strongRecOn generalizing l with
  | ind n ih =>
    by_cases hl : l = []
    · subst hl; simp [repairL, repGo]
    · rw [repairL_step l hl]
      have hw := decodeL_width l hl
      have hp := List.length_pos_iff.2 hl
      have h4 := encL_length ((decodeL l).1 : Int)
      have := ih _ (show (l.drop (decodeL l).2).length < n by rw [List.length_drop]; omega) _ rfl
      rw [List.length_append]
      rw [List.length_drop] at this
      omega
theorem repairS_size (s : ByteArray) : (repairS s).size ≤ 4 * s.size := by
  have h := repairL_size s.data.toList
  have e : s.data.toList.length = s.size := rfl
  rw [e] at h
  show (repairL s.data.toList).toArray.size ≤ 4 * s.size
  rw [List.size_toArray]
  exact h
theorem repair_idem (s : ByteArray) : repairS (repairS s) = repairS s := by
  have h : validD (repairL s.data.toList) = true := repairL_isValid _
  have e : (repairS s).data.toList = repairL s.data.toList := rfl
  show (⟨(repairL (repairS s).data.toList).toArray⟩ : ByteArray) = repairS s
  rw [e, repairL_valid h]
  rfl
end Go.Proofs.YtnhbboknffppiaaDoor

/- Own work, plain: the bytes that a code point has, as the library reckons them. -/
namespace Go.Proofs.YtnhbboknffppiaaDoor
open Go.RowKit
set_option maxRecDepth 100000
set_option linter.unusedSimpArgs false

theorem wrap8_eq (n : Int) : IntKind.u8.wrap n = n % 256 := by
  have e1 : ((2 : Int) ^ IntKind.u8.bits) = 256 := by decide
  have e3 : IntKind.u8.signed = false := rfl
  simp only [IntKind.wrap, e1, e3, Bool.false_and, Bool.false_eq_true, if_false]
theorem or_tab : ∀ c : Fin 64, (128 ||| c.val) = 128 + c.val ∧ (c.val < 32 → (192 ||| c.val) = 192 + c.val) ∧ (c.val < 16 → (224 ||| c.val) = 224 + c.val) ∧ (c.val < 8 → (240 ||| c.val) = 240 + c.val) := by decide
theorem and_tab : ∀ c : Fin 256, (c.val &&& 63) = c.val % 64 := by decide
theorem bor8 (k x : Int) (h0 : 0 ≤ x) (h1 : x < 256) (k0 : 0 ≤ k) (k1 : k < 256) : stdE.bor .u8 k x = ((k.toNat ||| x.toNat : Nat) : Int) := by
  show IntKind.u8.wrap ((BitVec.ofInt 8 k) ||| BitVec.ofInt 8 x).toNat = _
  have e : (BitVec.ofInt 8 k).toNat = k.toNat := by
    rw [BitVec.toNat_ofInt]
    have e2 : ((2 : Nat) ^ 8 : Nat) = 256 := by decide
    rw [e2]
    omega
  have e' : (BitVec.ofInt 8 x).toNat = x.toNat := by
    rw [BitVec.toNat_ofInt]
    have e2 : ((2 : Nat) ^ 8 : Nat) = 256 := by decide
    rw [e2]
    omega
  rw [BitVec.toNat_or, e, e', wrap8_eq]
  have : (k.toNat ||| x.toNat) < 2 ^ 8 := Nat.or_lt_two_pow (by omega) (by omega)
  omega
theorem band8 (x : Int) (h0 : 0 ≤ x) (h1 : x < 256) : stdE.band .u8 x 63 = x % 64 := by
  show IntKind.u8.wrap ((BitVec.ofInt 8 x) &&& BitVec.ofInt 8 63).toNat = _
  have e' : (BitVec.ofInt 8 x).toNat = x.toNat := by
    rw [BitVec.toNat_ofInt]
    have e2 : ((2 : Nat) ^ 8 : Nat) = 256 := by decide
    rw [e2]
    omega
  have e : (BitVec.ofInt 8 63).toNat = 63 := by decide
  rw [BitVec.toNat_and, e, e', wrap8_eq]
  have h := and_tab ⟨x.toNat, by omega⟩
  simp only at h
  rw [h]
  omega
theorem tail_byte (x : Int) : stdE.bor .u8 128 (stdE.band .u8 (stdE.wrap .u8 x) 63) = 128 + x % 64 := by
  have hw : stdE.wrap .u8 x = x % 256 := wrap8_eq x
  rw [hw, band8 _ (by omega) (by omega), bor8 _ _ (by omega) (by omega) (by omega) (by omega)]
  have h := (or_tab ⟨(x % 64).toNat, by omega⟩).1
  simp only at h
  have e : x % 256 % 64 = x % 64 := by omega
  rw [e]
  have e1 : (128 : Int).toNat = 128 := rfl
  rw [e1, h]
  omega
theorem head2 (x : Int) (h0 : 0 ≤ x) (h1 : x < 32) : stdE.bor .u8 192 (stdE.wrap .u8 x) = 192 + x := by
  have hw : stdE.wrap .u8 x = x % 256 := wrap8_eq x
  rw [hw, bor8 _ _ (by omega) (by omega) (by omega) (by omega)]
  have h := (or_tab ⟨x.toNat, by omega⟩).2.1 (by show x.toNat < 32; omega)
  simp only at h
  have e1 : (192 : Int).toNat = 192 := rfl
  have e2 : (x % 256).toNat = x.toNat := by omega
  rw [e1, e2, h]
  omega
theorem head3 (x : Int) (h0 : 0 ≤ x) (h1 : x < 16) : stdE.bor .u8 224 (stdE.wrap .u8 x) = 224 + x := by
  have hw : stdE.wrap .u8 x = x % 256 := wrap8_eq x
  rw [hw, bor8 _ _ (by omega) (by omega) (by omega) (by omega)]
  have h := (or_tab ⟨x.toNat, by omega⟩).2.2.1 (by show x.toNat < 16; omega)
  simp only at h
  have e1 : (224 : Int).toNat = 224 := rfl
  have e2 : (x % 256).toNat = x.toNat := by omega
  rw [e1, e2, h]
  omega
theorem head4 (x : Int) (h0 : 0 ≤ x) (h1 : x < 8) : stdE.bor .u8 240 (stdE.wrap .u8 x) = 240 + x := by
  have hw : stdE.wrap .u8 x = x % 256 := wrap8_eq x
  rw [hw, bor8 _ _ (by omega) (by omega) (by omega) (by omega)]
  have h := (or_tab ⟨x.toNat, by omega⟩).2.2.2 (by show x.toNat < 8; omega)
  simp only at h
  have e1 : (240 : Int).toNat = 240 := rfl
  have e2 : (x % 256).toNat = x.toNat := by omega
  rw [e1, e2, h]
  omega
/-- the bytes of a list as rows -/
def lR (l : List UInt8) : List (List PV) := l.map fun b => [.v (.int .u8 (b.toNat : Nat))]
theorem lR_len (l : List UInt8) : (lR l).length = l.length := by unfold lR; rw [List.length_map]
theorem lR_app (a b : List UInt8) : lR (a ++ b) = lR a ++ lR b := by unfold lR; rw [List.map_append]
theorem lR_bytes (s : ByteArray) : bytesRows s = lR s.data.toList := rfl
theorem lR_ints (zs : List Int) (h : ∀ x ∈ zs, 0 ≤ x ∧ x < 256) : lR (zs.map fun x => x.toNat.toUInt8) = zs.map fun x => [.v (.int .u8 x)] := by
  unfold lR
  rw [List.map_map]
  refine List.map_congr_left fun x hx => ?_
  have := h x hx
  show [PV.v (.int .u8 ((x.toNat.toUInt8).toNat : Nat))] = _
  have e : (x.toNat.toUInt8).toNat = x.toNat := by
    rw [Nat.toUInt8_eq, UInt8.toNat_ofNat']
    omega
  rw [e, Int.toNat_of_nonneg this.1]
/-- the rows of a code point -/
theorem lR_rune (r : Int) : lR (Utf8.encode r).data.toList = (Lib.encodeRuneZ r).map fun x => [.v (.int .u8 x)] := by
  rw [encL_def, encL_eq]
  exact lR_ints _ (Lib.encodeRuneZ_byte r)
end Go.Proofs.YtnhbboknffppiaaDoor
