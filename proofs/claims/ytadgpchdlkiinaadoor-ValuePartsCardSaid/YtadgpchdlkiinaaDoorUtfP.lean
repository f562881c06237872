/- Own work, plain: decoding what was encoded; a repaired text is valid. -/
import Derived.Test.YtadgpchdlkiinaaDoorRepairP
namespace Go.Proofs.YtadgpchdlkiinaaDoor
open Go.Lib

theorem u8n (m : Nat) (h : m < 256) : (UInt8.ofNat m).toNat = m := by
  simp [Nat.mod_eq_of_lt h]
theorem enc_nat {z : Int} {m : Nat} (h : z = m) : z.toNat.toUInt8 = UInt8.ofNat m := by subst h; simp
def validR (r : Nat) : Prop := r < 55296 ∨ (57344 ≤ r ∧ r ≤ 1114111)
theorem dec_enc (r : Nat) (hv : validR r) (l : List UInt8) : decodeL (encL (r : Int) ++ l) = (r, (encL (r : Int)).length) := by
  unfold validR at hv
  rw [encL_eq]
  unfold encodeRune
  by_cases h1 : r < 128
  · rw [encodeRuneZ_one (by omega) (by omega)]
    simp only [List.map_cons, List.map_nil]
    rw [decodeL_N]
    have e : (([(r : Int).toNat.toUInt8] ++ l : List UInt8).getD 0 0).toNat = r := by
      simp [Nat.mod_eq_of_lt (show r < 256 by omega)]
    rw [e]
    simp [decodeN, h1]
  by_cases h2 : r < 2048
  · rw [encodeRuneZ_two (by omega) (by omega)]
    simp only [List.map_cons, List.map_nil]
    rw [enc_nat (m := 192 + r / 64) (by omega), enc_nat (m := 128 + r % 64) (by omega), decodeL_N]
    simp only [List.cons_append, List.nil_append, List.getD_cons_zero, List.getD_cons_succ, List.length_cons, List.length_nil]
    rw [u8n _ (by omega), u8n _ (by omega)]
    have a1 : ¬ 192 + r / 64 < 128 := by omega
    have a2 : (192 + r / 64) / 32 = 6 := by omega
    have a3 : (128 + r % 64) / 64 = 2 := by omega
    have a4 : (192 + r / 64) % 32 * 64 + (128 + r % 64) % 64 = r := by omega
    unfold decodeN
    rw [if_neg a1, if_pos ⟨a2, by omega, a3⟩, a4, if_pos (by omega)]
  by_cases h3 : r < 65536
  · rw [encodeRuneZ_three (by omega)]
    simp only [List.map_cons, List.map_nil]
    rw [enc_nat (m := 224 + r / 4096) (by omega), enc_nat (m := 128 + r / 64 % 64) (by omega), enc_nat (m := 128 + r % 64) (by omega), decodeL_N]
    simp only [List.cons_append, List.nil_append, List.getD_cons_zero, List.getD_cons_succ, List.length_cons, List.length_nil]
    rw [u8n _ (by omega), u8n _ (by omega), u8n _ (by omega)]
    have a1 : ¬ 224 + r / 4096 < 128 := by omega
    have a2 : ¬ (224 + r / 4096) / 32 = 6 := by omega
    have a2' : (224 + r / 4096) / 16 = 14 := by omega
    have a3 : (128 + r / 64 % 64) / 64 = 2 := by omega
    have a3' : (128 + r % 64) / 64 = 2 := by omega
    have a4 : (224 + r / 4096) % 16 * 4096 + (128 + r / 64 % 64) % 64 * 64 + (128 + r % 64) % 64 = r := by omega
    unfold decodeN
    rw [if_neg a1, if_neg (fun h => a2 h.1), if_pos ⟨a2', ⟨by omega, a3⟩, ⟨by omega, a3'⟩⟩, a4, if_pos (by omega)]
  · rw [encodeRuneZ_four (by omega) (by omega)]
    simp only [List.map_cons, List.map_nil]
    rw [enc_nat (m := 240 + r / 262144) (by omega), enc_nat (m := 128 + r / 4096 % 64) (by omega), enc_nat (m := 128 + r / 64 % 64) (by omega), enc_nat (m := 128 + r % 64) (by omega), decodeL_N]
    simp only [List.cons_append, List.nil_append, List.getD_cons_zero, List.getD_cons_succ, List.length_cons, List.length_nil]
    rw [u8n _ (by omega), u8n _ (by omega), u8n _ (by omega), u8n _ (by omega)]
    have a1 : ¬ 240 + r / 262144 < 128 := by omega
    have a2 : ¬ (240 + r / 262144) / 32 = 6 := by omega
    have a2' : ¬ (240 + r / 262144) / 16 = 14 := by omega
    have a2'' : (240 + r / 262144) / 8 = 30 := by omega
    have a3 : (128 + r / 4096 % 64) / 64 = 2 := by omega
    have a3' : (128 + r / 64 % 64) / 64 = 2 := by omega
    have a3'' : (128 + r % 64) / 64 = 2 := by omega
    have a4 : (240 + r / 262144) % 8 * 262144 + (128 + r / 4096 % 64) % 64 * 4096 + (128 + r / 64 % 64) % 64 * 64 + (128 + r % 64) % 64 = r := by omega
    unfold decodeN
    rw [if_neg a1, if_neg (fun h => a2 h.1), if_neg (fun h => a2' h.1), if_pos ⟨a2'', ⟨by omega, a3⟩, ⟨by omega, a3'⟩, ⟨by omega, a3''⟩⟩, a4, if_pos (by omega)]
/-- the number that stands for a rune -/
theorem encL_valid (r : Int) : ∃ q : Nat, validR q ∧ encL r = encL (q : Int) := by
  by_cases h : (0 ≤ r ∧ r < 55296) ∨ (57344 ≤ r ∧ r ≤ 1114111)
  · obtain ⟨n, rfl⟩ := Int.eq_ofNat_of_zero_le (show 0 ≤ r by omega)
    exact ⟨n, by unfold validR; omega, rfl⟩
  · refine ⟨65533, by unfold validR; omega, ?_⟩
    rw [encL_eq, encL_eq]
    unfold encodeRune
    rw [encodeRuneZ_bad (by omega)]
    rfl
theorem valid_enc (r : Int) (l : List UInt8) (h : validD l = true) : validD (encL r ++ l) = true := by
  obtain ⟨q, hq, e⟩ := encL_valid r
  rw [e]
  have hd := dec_enc q hq l
  have hp : 1 ≤ (encL (q : Int)).length := by rw [encL_eq]; unfold encodeRune; rw [List.length_map]; exact (encodeRuneZ_length _).1
  have hne : encL (q : Int) ++ l ≠ [] := by intro h; rw [List.append_eq_nil_iff] at h; rw [h.1] at hp; simp at hp
  rw [validD_step _ hne, hd]
  have h3 : ¬ (q = 65533 ∧ (encL (q : Int)).length = 1) := by
    rintro ⟨rfl, h⟩
    have : (encL ((65533 : Nat) : Int)).length = 3 := by decide
    omega
  rw [if_neg h3, List.drop_left]
  exact h
theorem repairL_isValid : ∀ (l : List UInt8), validD (repairL l) = true := by
  intro l
  generalize hn : l.length = n
  induction n using Nat.strongRecOn generalizing l with
  | ind n ih =>
    by_cases hl : l = []
    · subst hl; rfl
    · rw [repairL_step l hl]
      have hw := decodeL_width l hl
      have hp := List.length_pos_iff.2 hl
      exact valid_enc _ _ (ih _ (by rw [List.length_drop]; omega) _ rfl)
theorem repairL_size (l : List UInt8) : (repairL l).length ≤ 4 * l.length := by
  generalize hn : l.length = n
  induction n using Nat.strongRecOn generalizing l with
  | ind n ih =>
    by_cases hl : l = []
    · subst hl; simp [repairL, repGo]
    · rw [repairL_step l hl]
      have hw := decodeL_width l hl
      have hp := List.length_pos_iff.2 hl
      have h4 := encL_length ((decodeL l).1 : Int)
      have := ih _ (show (l.drop (decodeL l).2).length < n by rw [List.length_drop]; omega) _ rfl
      rw [List.length_append]
      rw [List.length_drop] at this
      omega
theorem repairS_size (s : ByteArray) : (repairS s).size ≤ 4 * s.size := by
  have h := repairL_size s.data.toList
  have e : s.data.toList.length = s.size := rfl
  rw [e] at h
  show (repairL s.data.toList).toArray.size ≤ 4 * s.size
  rw [List.size_toArray]
  exact h
theorem repair_idem (s : ByteArray) : repairS (repairS s) = repairS s := by
  have h : validD (repairL s.data.toList) = true := repairL_isValid _
  have e : (repairS s).data.toList = repairL s.data.toList := rfl
  show (⟨(repairL (repairS s).data.toList).toArray⟩ : ByteArray) = repairS s
  rw [e, repairL_valid h]
  rfl
end Go.Proofs.YtadgpchdlkiinaaDoor
