/- Own work, plain: repairing a text; it is as it was just where it is valid. -/
import Derived.Lib.MapLaws
import Derived.Lib.ValidLaws
import Derived.Lib.TrimUEq
import Derived.Laws.Runes
import Derived.Laws.RangeAny
import Derived.Lib.ItoaNum
import Derived.Lib.ItoaMem
import Derived.Lib.ItoaLen
import Derived.Lib.AtoiAllCases
import Derived.Lib.ParseIntBTie
namespace Go.Proofs.YtjefbgfohijaoaaGreatDoor
open Go.Lib
def encL (r : Int) : List UInt8 := (Utf8.encode r).data.toList
theorem encL_def (r : Int) : (Utf8.encode r).data.toList = encL r := rfl
theorem encL_eq (r : Int) : encL r = encodeRune r := by
 unfold encL Utf8.encode encodeRune
 by_cases hv : Utf8.valid r = true
 ·have hv' : (0 <= r /\ r < 55296) \/ (57344 <= r /\ r <= 1114111) := by simpa [Utf8.valid] using hv
  obtain ⟨n, rfl⟩ := Int.eq_ofNat_of_zero_le (show 0 <= r by omega)
  simp only [hv, if_true, Int.toNat_natCast]
  have hb : ∀ z : Int, ∀ m : Nat, z = m -> z.toNat.toUInt8 = UInt8.ofNat m := fun z m h => by subst h; simp
  by_cases h1 : n < 128
  ·rw [if_pos h1, encodeRuneZ_one (by omega) (by omega)]; simp
  rw [if_neg h1]
  by_cases h2 : n < 2048
  ·rw [if_pos h2, encodeRuneZ_two (by omega) (by omega)]
   simp only [List.map_cons, List.map_nil]
   rw [hb _ (192 + n / 64) (by omega), hb _ (128 + n % 64) (by omega)]
  rw [if_neg h2]
  by_cases h3 : n < 65536
  ·rw [if_pos h3, encodeRuneZ_three (by omega)]
   simp only [List.map_cons, List.map_nil]
   rw [hb _ (224 + n / 4096) (by omega), hb _ (128 + n / 64 % 64) (by omega), hb _ (128 + n % 64) (by omega)]
  rw [if_neg h3, encodeRuneZ_four (by omega) (by omega)]
  simp only [List.map_cons, List.map_nil]
  rw [hb _ (240 + n / 262144) (by omega), hb _ (128 + n / 4096 % 64) (by omega), hb _ (128 + n / 64 % 64) (by omega), hb _ (128 + n % 64) (by omega)]
 ·have hv' : r < 0 \/ (55296 <= r /\ r <= 57343) \/ 1114111 < r := by
   simp [Utf8.valid] at hv; omega
  rw [encodeRuneZ_bad hv']
  simp [hv, Utf8.runeError]
def repGo : Nat -> List UInt8 -> List UInt8
 | 0, _ => []
 | n + 1, l => if l = [] then [] else encL (decodeL l).1 ++ repGo n (l.drop (decodeL l).2)
def repairL (l : List UInt8) : List UInt8 := repGo l.length l
def repairS (s : ByteArray) : ByteArray := ⟨(repairL s.data.toList).toArray⟩
theorem decodeL_width (l : List UInt8) (hne : l ≠ []) : 1 <= (decodeL l).2 := by
 have h := decodeL_drop ⟨l.toArray⟩ 0
 simp only [List.drop_zero] at h
 rw [h]
 have hpos : 0 < (ByteArray.mk l.toArray).size := by
  have := List.length_pos_iff.2 hne
  simpa [ByteArray.size] using this
 by_cases ha : ((ByteArray.mk l.toArray)[0]'hpos).toNat < 128
 ·rw [decode_ascii _ 0 hpos ha]; exact Nat.le_refl _
 ·exact (decode_high _ 0 hpos (by omega)).2
theorem repGo_fuel : ∀ (n m : Nat) (l : List UInt8), l.length <= n -> l.length <= m -> repGo n l = repGo m l
 | 0, 0, _, _, _ => rfl
 | 0, m + 1, l, h, _ => by
  have : l = [] := List.eq_nil_of_length_eq_zero (by omega)
  subst this; simp [repGo]
 | n + 1, 0, l, _, h => by
  have : l = [] := List.eq_nil_of_length_eq_zero (by omega)
  subst this; simp [repGo]
 | n + 1, m + 1, l, hn, hm => by
  unfold repGo
  by_cases hl : l = []
  ·simp [hl]
  ·rw [if_neg hl, if_neg hl]
   have hw := decodeL_width l hl
   have hlen : (l.drop (decodeL l).2).length <= l.length - 1 := by rw [List.length_drop]; omega
   have hp := List.length_pos_iff.2 hl
   rw [repGo_fuel n m _ (by omega) (by omega)]
theorem repairL_step (l : List UInt8) (hne : l ≠ []) : repairL l = encL (decodeL l).1 ++ repairL (l.drop (decodeL l).2) := by
 have hp := List.length_pos_iff.2 hne
 have hw := decodeL_width l hne
 unfold repairL
 obtain ⟨n, hn⟩ : ∃ n, l.length = n + 1 := ⟨l.length - 1, by omega⟩
 rw [hn]
 rw [repGo, if_neg hne]
 rw [repGo_fuel n (l.drop (decodeL l).2).length _ (by rw [List.length_drop]; omega) (Nat.le_refl _)]
theorem repair_cases : ∀ (n : Nat) (l : List UInt8), l.length <= n -> (validD l = true /\ repairL l = l) \/ (validD l = false /\ l.length < (repairL l).length ) := by
 intro n
 induction n with
 | zero =>
  intro l hl
  have : l = [] := List.eq_nil_of_length_eq_zero (by omega)
  subst this; exact .inl ⟨rfl, rfl⟩
 | succ n ih =>
  intro l hl
  by_cases hne : l = []
  ·subst hne; exact .inl ⟨rfl, rfl⟩
  have hp := List.length_pos_iff.2 hne
  have hw := decodeL_width l hne
  rw [validD_step l hne, repairL_step l hne]
  have hd : (l.drop (decodeL l).2).length = l.length - (decodeL l).2 := List.length_drop
  by_cases hv : (decodeL l).1 = 65533 /\ (decodeL l).2 = 1
  ·rw [if_pos hv]
   refine .inr ⟨rfl,?_⟩
   rw [hv.1, hv.2]
   have he : (encL ((65533 : Nat) : Int)).length = 3 := by decide
   rw [List.length_append, he]
   rcases ih (l.drop 1) (by rw [List.length_drop]; omega) with ⟨_, h⟩ | ⟨_, h⟩
   ·rw [h, List.length_drop]; omega
   ·rw [List.length_drop] at h; omega
  ·rw [if_neg hv]
   have he := encode_decode l hne hv
   rw [encL_eq, he]
   rcases ih (l.drop (decodeL l).2) (by omega) with ⟨h1, h2⟩ | ⟨h1, h2⟩
   ·exact .inl ⟨h1, by rw [h2, List.take_append_drop]⟩
   ·refine .inr ⟨h1,?_⟩
    have := List.length_append (as := l.take (decodeL l).2) (bs := repairL (l.drop (decodeL l).2))
    rw [this]
    have ht : (l.take (decodeL l).2).length + (l.drop (decodeL l).2).length = l.length := by rw [<-List.length_append, List.take_append_drop]
    omega
theorem repairL_beq (l : List UInt8) : (repairL l == l) = validD l := by
 rcases repair_cases l.length l (Nat.le_refl _) with ⟨h1, h2⟩ | ⟨h1, h2⟩
 ·rw [h1, h2]; simp
 ·rw [h1]
  rw [beq_eq_false_iff_ne]
  intro h
  rw [h] at h2
  omega
theorem repairL_valid {l : List UInt8} (h : validD l = true) : repairL l = l := by
 rcases repair_cases l.length l (Nat.le_refl _) with ⟨_, h2⟩ | ⟨h1, _⟩
 ·exact h2
 ·rw [h] at h1; cases h1
theorem data_add (a b : ByteArray) : (a ++ b).data.toList = a.data.toList ++ b.data.toList := by rw [ByteArray.data_append, Array.toList_append]
theorem repairL_step' (l : List UInt8) (r wd : Nat) (hne : l ≠ []) (h : decodeL l = (r, wd)) : repairL l = encL (r : Int) ++ repairL (l.drop wd) := by
 have h3 := repairL_step l hne
 generalize decodeL l = d at h3 h
 subst h
 simpa only using h3
theorem rep_step (s : ByteArray) (pos r wd : Nat) (acc : ByteArray) (L : List UInt8) (hp : pos < s.size) (hd : Utf8.decode s pos = (r, wd))
  (ha : acc.data.toList ++ repairL (s.data.toList.drop pos) = L) : (acc ++ Utf8.encode (r : Int)).data.toList ++ repairL (s.data.toList.drop (pos + wd)) = L := by
 have hne : s.data.toList.drop pos ≠ [] := by
  intro h
  have := congrArg List.length h
  simp [List.length_drop] at this
  have : s.data.size = s.size := rfl
  omega
 have h1 := repairL_step' _ r wd hne ((decodeL_drop s pos).trans hd)
 rw [List.drop_drop] at h1
 rw [data_add, encL_def, <- ha, h1, List.append_assoc]
theorem encL_length (r : Int) : (encL r).length <= 4 := by rw [encL_eq]; unfold encodeRune; rw [List.length_map]; exact (encodeRuneZ_length r).2
end Go.Proofs.YtjefbgfohijaoaaGreatDoor

/- Own work, plain: decoding what was encoded; a repaired text is valid. -/
namespace Go.Proofs.YtjefbgfohijaoaaGreatDoor
open Go.Lib
theorem u8n (m : Nat) (h : m < 256) : (UInt8.ofNat m).toNat = m := by
 simp [Nat.mod_eq_of_lt h]
theorem enc_nat {z : Int} {m : Nat} (h : z = m) : z.toNat.toUInt8 = UInt8.ofNat m := by subst h; simp
def validR (r : Nat) : Prop := r < 55296 \/ (57344 <= r /\ r <= 1114111)
theorem dec_enc (r : Nat) (hv : validR r) (l : List UInt8) : decodeL (encL (r : Int) ++ l) = (r, (encL (r : Int)).length) := by
 unfold validR at hv
 rw [encL_eq]
 unfold encodeRune
 by_cases h1 : r < 128
 ·rw [encodeRuneZ_one (by omega) (by omega)]
  simp only [List.map_cons, List.map_nil]
  rw [decodeL_N]
  have e : (([(r : Int).toNat.toUInt8] ++ l : List UInt8).getD 0 0).toNat = r := by
   simp [Nat.mod_eq_of_lt (show r < 256 by omega)]
  rw [e]
  simp [decodeN, h1]
 by_cases h2 : r < 2048
 ·rw [encodeRuneZ_two (by omega) (by omega)]
  simp only [List.map_cons, List.map_nil]
  rw [enc_nat (m := 192 + r / 64) (by omega), enc_nat (m := 128 + r % 64) (by omega), decodeL_N]
  simp only [List.cons_append, List.nil_append, List.getD_cons_zero, List.getD_cons_succ, List.length_cons, List.length_nil]
  rw [u8n _ (by omega), u8n _ (by omega)]
  have a1 : ¬ 192 + r / 64 < 128 := by omega
  have a2 : (192 + r / 64) / 32 = 6 := by omega
  have a3 : (128 + r % 64) / 64 = 2 := by omega
  have a4 : (192 + r / 64) % 32 * 64 + (128 + r % 64) % 64 = r := by omega
  unfold decodeN
  rw [if_neg a1, if_pos ⟨a2, by omega, a3⟩, a4, if_pos (by omega)]
 by_cases h3 : r < 65536
 ·rw [encodeRuneZ_three (by omega)]
  simp only [List.map_cons, List.map_nil]
  rw [enc_nat (m := 224 + r / 4096) (by omega), enc_nat (m := 128 + r / 64 % 64) (by omega), enc_nat (m := 128 + r % 64) (by omega), decodeL_N]
  simp only [List.cons_append, List.nil_append, List.getD_cons_zero, List.getD_cons_succ, List.length_cons, List.length_nil]
  rw [u8n _ (by omega), u8n _ (by omega), u8n _ (by omega)]
  have a1 : ¬ 224 + r / 4096 < 128 := by omega
  have a2 : ¬ (224 + r / 4096) / 32 = 6 := by omega
  have a2' : (224 + r / 4096) / 16 = 14 := by omega
  have a3 : (128 + r / 64 % 64) / 64 = 2 := by omega
  have a3' : (128 + r % 64) / 64 = 2 := by omega
  have a4 : (224 + r / 4096) % 16 * 4096 + (128 + r / 64 % 64) % 64 * 64 + (128 + r % 64) % 64 = r := by omega
  unfold decodeN
  rw [if_neg a1, if_neg (fun h => a2 h.1), if_pos ⟨a2', ⟨by omega, a3⟩, ⟨by omega, a3'⟩⟩, a4, if_pos (by omega)]
 ·rw [encodeRuneZ_four (by omega) (by omega)]
  simp only [List.map_cons, List.map_nil]
  rw [enc_nat (m := 240 + r / 262144) (by omega), enc_nat (m := 128 + r / 4096 % 64) (by omega), enc_nat (m := 128 + r / 64 % 64) (by omega), enc_nat (m := 128 + r % 64) (by omega), decodeL_N]
  simp only [List.cons_append, List.nil_append, List.getD_cons_zero, List.getD_cons_succ, List.length_cons, List.length_nil]
  rw [u8n _ (by omega), u8n _ (by omega), u8n _ (by omega), u8n _ (by omega)]
  have a1 : ¬ 240 + r / 262144 < 128 := by omega
  have a2 : ¬ (240 + r / 262144) / 32 = 6 := by omega
  have a2' : ¬ (240 + r / 262144) / 16 = 14 := by omega
  have a2'' : (240 + r / 262144) / 8 = 30 := by omega
  have a3 : (128 + r / 4096 % 64) / 64 = 2 := by omega
  have a3' : (128 + r / 64 % 64) / 64 = 2 := by omega
  have a3'' : (128 + r % 64) / 64 = 2 := by omega
  have a4 : (240 + r / 262144) % 8 * 262144 + (128 + r / 4096 % 64) % 64 * 4096 + (128 + r / 64 % 64) % 64 * 64 + (128 + r % 64) % 64 = r := by omega
  unfold decodeN
  rw [if_neg a1, if_neg (fun h => a2 h.1), if_neg (fun h => a2' h.1), if_pos ⟨a2'', ⟨by omega, a3⟩, ⟨by omega, a3'⟩, ⟨by omega, a3''⟩⟩, a4, if_pos (by omega)]
theorem encL_valid (r : Int) : ∃ q : Nat, validR q /\ encL r = encL (q : Int) := by
 by_cases h : (0 <= r /\ r < 55296) \/ (57344 <= r /\ r <= 1114111)
 ·obtain ⟨n, rfl⟩ := Int.eq_ofNat_of_zero_le (show 0 <= r by omega)
  exact ⟨n, by unfold validR; omega, rfl⟩
 ·refine ⟨65533, by unfold validR; omega,?_⟩
  rw [encL_eq, encL_eq]
  unfold encodeRune
  rw [encodeRuneZ_bad (by omega)]
  rfl
theorem repairL_size (l : List UInt8) : (repairL l).length <= 4 * l.length := by
 generalize hn : l.length = n
 induction n using Nat.strongRecOn generalizing l with
 | ind n ih =>
  by_cases hl : l = []
  ·subst hl; simp [repairL, repGo]
  ·rw [repairL_step l hl]
   have hw := decodeL_width l hl
   have hp := List.length_pos_iff.2 hl
   have h4 := encL_length ((decodeL l).1 : Int)
   have := ih _ (show (l.drop (decodeL l).2).length < n by rw [List.length_drop]; omega) _ rfl
   rw [List.length_append]
   rw [List.length_drop] at this
   omega
theorem repairS_size (s : ByteArray) : (repairS s).size <= 4 * s.size := by
 have h := repairL_size s.data.toList
 have e : s.data.toList.length = s.size := rfl
 rw [e] at h
 show (repairL s.data.toList).toArray.size <= 4 * s.size
 rw [List.size_toArray]
 exact h
end Go.Proofs.YtjefbgfohijaoaaGreatDoor

/- Own work, plain: the decimal text of an integer is parsed as it. -/
namespace Go.Proofs.YtjefbgfohijaoaaGreatDoor
open Go.Lib
theorem u8_nat (m : Nat) (h : m < 256) : (UInt8.ofNat m).toNat = m := by
 simp [Nat.mod_eq_of_lt h]
theorem dec_step (u : Nat) (h : ¬ u < 10) : decDigits u = decDigits (u / 10) ++ [UInt8.ofNat (48 + u % 10)] := by
 conv => lhs; rw [decDigits, dif_neg h]
theorem parse_dec : ∀ (u : Nat) (r : List UInt8), u < 18446744073709551616 -> parseUint10 0 (decDigits u ++ r) = parseUint10 u r := by
 intro u
 induction u using Nat.strongRecOn with
 | ind u ih =>
  intro r hu
  by_cases h : u < 10
  ·rw [decDigits_one h]
   simp only [List.cons_append, List.nil_append, parseUint10]
   rw [u8_nat _ (by omega), if_pos (by omega), if_neg (by omega), if_neg (by omega)]
   congr 1; omega
  ·rw [dec_step u h, List.append_assoc, ih (u / 10) (by omega) _ (by omega)]
   simp only [List.cons_append, List.nil_append, parseUint10]
   rw [u8_nat _ (by omega), if_pos (by omega), if_neg (by omega), if_neg (by omega)]
   congr 1; omega
theorem dec_digits : ∀ (u : Nat), ∀ c ∈ decDigits u, 48 <= c.toNat /\ c.toNat <= 57 := by
 intro u
 induction u using Nat.strongRecOn with
 | ind u ih =>
  intro c hc
  by_cases h : u < 10
  ·rw [decDigits_one h] at hc
   simp only [List.mem_singleton] at hc
   subst hc
   rw [u8_nat _ (by omega)]; omega
  ·rw [dec_step u h] at hc
   simp only [List.mem_append, List.mem_singleton] at hc
   rcases hc with hc | hc
   ·exact ih (u / 10) (by omega) c hc
   ·subst hc
    rw [u8_nat _ (by omega)]; omega
theorem dec_ne (u : Nat) : decDigits u ≠ [] := by
 by_cases h : u < 10
 ·rw [decDigits_one h]; simp
 ·rw [dec_step u h]; simp
theorem mag_dec (u : Nat) (hu : u < 18446744073709551616) : parseMag (decDigits u) = .ok u := by
 unfold parseMag
 rw [if_neg (dec_ne u)]
 have := parse_dec u [] hu
 rw [List.append_nil] at this
 rw [this]; rfl
theorem parse_itoa (n : Int) (h0 : -9223372036854775808 <= n) (h1 : n <= 9223372036854775807) : parseIntB 64 (itoa n) = .ok n := by
 rw [parseIntB_64]
 unfold itoa
 by_cases hn : n < 0
 ·rw [if_pos hn, atoiAll_minus, mag_dec _ (by omega)]
  have h9 : ¬ 9223372036854775808 < n.natAbs := by omega
  have h8 : -((n.natAbs : Nat) : Int) = n := by omega
  simp only [signed, h9, if_false, h8]
 ·rw [if_neg hn]
  have hm := mag_dec n.toNat (by omega)
  have hd := dec_digits n.toNat
  cases hl : decDigits n.toNat with
  | nil => exact absurd hl (dec_ne _)
  | cons c r =>
   have hc := hd c (by rw [hl]; simp)
   rw [hl] at hm
   unfold atoiAll
   have e2 : ¬ c.toNat = 45 := by omega
   have h9 : ¬ 9223372036854775808 <= n.toNat := by omega
   have h8 : ((n.toNat : Nat) : Int) = n := Int.toNat_of_nonneg (by omega)
   have e3 : ¬ c.toNat = 43 := by omega
   simp [e2, e3, hm, h9, h8]
def accU (a : Nat) (l : List UInt8) : Nat := l.foldl (fun a c => (a * 10 + (c.toNat - 48)) % 18446744073709551616) a
end Go.Proofs.YtjefbgfohijaoaaGreatDoor
