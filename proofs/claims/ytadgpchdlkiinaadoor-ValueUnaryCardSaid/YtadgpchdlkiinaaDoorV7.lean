/- Own work: the reference's decimal texts. -/
import Derived.Test.YtadgpchdlkiinaaDoorV4
import Derived.Lib.ItoaLen
namespace Go.Proofs.YtadgpchdlkiinaaDoor
open Go.RowKit
set_option maxRecDepth 100000

def preD (m : Nat) : List UInt8 := if m = 0 then [] else Lib.decDigits m
theorem preD_step (m : Nat) (h : 0 < m) (s : List UInt8) : preD (m / 10) ++ (UInt8.ofNat (48 + m % 10) :: s) = preD m ++ s := by
  unfold preD
  rw [if_neg (show ¬ m = 0 by omega)]
  by_cases h1 : m < 10
  · rw [if_pos (by omega), Lib.decDigits_one h1, Nat.mod_eq_of_lt h1]; simp
  · rw [if_neg (by omega)]
    conv => rhs; rw [Lib.decDigits, dif_neg h1]
    simp
def digS : ByteArray := ⟨#[48, 49, 50, 51, 52, 53, 54, 55, 56, 57]⟩
theorem digS_ext : ∀ i : Fin 10, digS.extract i.val (i.val + 1) = ⟨#[UInt8.ofNat (48 + i.val)]⟩ := by decide +kernel
theorem tmod_nat (n : Int) (h : 0 ≤ n) : n.tmod 10 = ((n.toNat % 10 : Nat) : Int) := by
  obtain ⟨m, rfl⟩ := Int.eq_ofNat_of_zero_le h
  exact (Int.ofNat_tmod m 10).symm
theorem tdiv_nat (n : Int) (h : 0 ≤ n) : n.tdiv 10 = ((n.toNat / 10 : Nat) : Int) := by
  obtain ⟨m, rfl⟩ := Int.eq_ofNat_of_zero_le h
  exact (Int.ofNat_tdiv m 10).symm
structure DigI (L : List UInt8) (x : Int × ByteArray) : Prop where
  h0 : 0 ≤ x.1
  h1 : x.1 ≤ 9223372036854775807
  eq : preD x.1.toNat ++ x.2.data.toList = L
  sz : x.2.size ≤ L.length
set_option maxHeartbeats 1000000 in
theorem digits_pos (n : Int) (hn0 : 0 ≤ n) (hn : n ≤ 9223372036854775807) : R 57 [pI n] (pS ⟨(Lib.decDigits n.toNat).toArray⟩) := by
  have hL : preD (n.toNat / 10) ++ [UInt8.ofNat (48 + n.toNat % 10)] = Lib.decDigits n.toNat := by
    by_cases h0 : n.toNat = 0
    · rw [h0]; rw [Lib.decDigits_one (by omega)]; rfl
    · have := preD_step n.toNat (by omega) []
      rw [List.append_nil] at this
      rw [this]; simp [preD, h0]
  have hLl : (Lib.decDigits n.toNat).length ≤ 21 := by
    have := Lib.itoa_length_le n (by omega) hn
    unfold Lib.itoa at this
    rw [if_neg (by omega)] at this; exact this
  generalize Lib.decDigits n.toNat = L at *
  refine ret_by tyT_ok good_gr mixed (fun _ => 0) Tryd.func57 rfl (by kernel_rfl) (by kernel_rfl) rfl fun P G E hc hE => ?_
  have e0 : decide (n = -9223372036854775808) = false := decide_eq_false (by omega)
  have e1 : E.lti n 0 = false := by rw [hE]; exact decide_eq_false (by omega)
  have hb : ∀ m : Int, 0 ≤ m → m ≤ 9223372036854775807 → E.ple 0 (E.rem m 10) ∧ E.ple (E.rem m 10) (E.wadd .i64 (E.rem m 10) 1) ∧ E.ple (E.wadd .i64 (E.rem m 10) 1) (E.size digS) ∧ E.ext digS (E.nat (E.rem m 10)) (E.nat (E.wadd .i64 (E.rem m 10) 1)) = ⟨#[UInt8.ofNat (48 + m.toNat % 10)]⟩ ∧ (0 ≤ E.wquo .i64 m 10 ∧ E.wquo .i64 m 10 ≤ m ∧ (E.wquo .i64 m 10).toNat = m.toNat / 10) := fun m h0 h1 => by
    rw [hE]
    simp only [stdE]
    have hd : (0 : Int) ≤ ((m.toNat / 10 : Nat) : Int) ∧ ((m.toNat / 10 : Nat) : Int) ≤ m := ⟨Int.natCast_nonneg _, by have := Int.ofNat_le.2 (Nat.div_le_self m.toNat 10); rwa [Int.toNat_of_nonneg h0] at this⟩
    rw [tmod_nat m h0, tdiv_nat m h0, wrap_i64_in (by omega) (by omega), wrap_i64_in (by omega) (by omega)]
    have h9 : m.toNat % 10 < 10 := by omega
    refine ⟨by omega, by omega, by have : digS.size = 10 := rfl; omega, ?_, hd.1, hd.2, Int.toNat_natCast _⟩
    have := digS_ext ⟨m.toNat % 10, h9⟩
    rw [← this]
    congr 1
  have hcat : ∀ k (s : ByteArray), s.size ≤ L.length → E.cat (⟨#[k]⟩ : ByteArray) s := fun k s hs => by
    rw [hE]
    show _ ≤ _
    have : (⟨#[k]⟩ : ByteArray).size = 1 := rfl
    omega
  obtain ⟨b1, b2, b3, b4, b5, b6, b7⟩ := hb n hn0 hn
  cbv
  simp only [e0]
  cbv
  simp only [e1]
  cbv
  refine ⟨b1, b2, b3, ?_⟩
  refine loop_by 33 [0, 3] 0 (fun x : Int × ByteArray => [.p (pI x.1), .p (pS x.2)]) (fun _ => []) (DigI L) (fun x => x.1.toNat) (E.wquo .i64 n 10, E.ext digS (E.nat (E.rem n 10)) (E.nat (E.wadd .i64 (E.rem n 10) 1))) ⟨rfl, rfl, rfl, rfl, rfl⟩ ⟨?_, ?_, ?_, ?_⟩ ?_
  · exact b5
  · exact Int.le_trans b6 hn
  · simp only [b4, b7]; exact hL
  · simp only [b4]
    rw [← hL]
    show 1 ≤ _
    simp
  rintro ⟨m, s⟩ ⟨h0, h1, h2, h3⟩
  simp only at h0 h1 h2 h3
  obtain ⟨c1, c2, c3, c4, c5, c8, c9⟩ := hb m h0 h1
  have hlt : E.lti 0 m = decide (0 < m) := by rw [hE]; rfl
  by_cases hm : 0 < m
  · rw [decide_eq_true hm] at hlt
    have hst := preD_step m.toNat (by omega) s.data.toList
    cbv
    simp only [hlt]
    cbv
    refine ⟨c1, c2, c3, ?_⟩
    have c6 : E.cat (E.ext digS (E.nat (E.rem m 10)) (E.nat (E.wadd .i64 (E.rem m 10) 1))) s := by rw [c4]; exact hcat _ s h3
    have c7 : E.add (E.ext digS (E.nat (E.rem m 10)) (E.nat (E.wadd .i64 (E.rem m 10) 1))) s = ⟨#[UInt8.ofNat (48 + m.toNat % 10)]⟩ ++ s := by rw [c4, hE]; rfl
    refine ⟨c6, ?_⟩
    refine .mk (E.wquo .i64 m 10, E.add (E.ext digS (E.nat (E.rem m 10)) (E.nat (E.wadd .i64 (E.rem m 10) 1))) s) ⟨rfl, rfl, rfl, rfl, rfl⟩ ⟨?_, ?_, ?_, ?_⟩ ?_
    · exact c5
    · exact Int.le_trans c8 h1
    · simp only [c9, c7]
      rw [ByteArray.data_append, Array.toList_append]
      rw [← h2, ← hst]
      rfl
    · simp only [c7]
      rw [ByteArray.size_append, ← h2, ← hst]
      have : (⟨#[UInt8.ofNat (48 + m.toNat % 10)]⟩ : ByteArray).size = 1 := rfl
      have e3 : s.data.toList.length = s.size := rfl
      simp only [List.length_append, List.length_cons, e3]
      omega
    · show (E.wquo .i64 m 10).toNat < m.toNat
      rw [c9]
      exact Nat.div_lt_self (by omega) (by omega)
  · rw [decide_eq_false hm] at hlt
    cbv
    simp only [hlt]
    cbv
    have hz : m.toNat = 0 := by omega
    rw [hz] at h2
    have e2 : s = ⟨L.toArray⟩ := by
      rw [← h2]
      rfl
    rw [e2]
end Go.Proofs.YtadgpchdlkiinaaDoor
