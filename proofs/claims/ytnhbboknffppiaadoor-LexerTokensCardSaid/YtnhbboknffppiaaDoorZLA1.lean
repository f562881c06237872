/- Own work: packages lexer and knapsackref25: letter, digit, begins. -/
import Derived.Test.YtnhbboknffppiaaDoorZTypes
import Derived.Test.YtnhbboknffppiaaDoorZGB
import Derived.Test.YtnhbboknffppiaaDoorZGP
namespace Go.Proofs.YtnhbboknffppiaaDoor
open Go.RowKit
set_option maxRecDepth 100000
set_option linter.unusedSimpArgs false

abbrev G0 (_ : World) : Prop := True
theorem g0_gr : ∀ w w', Gr w w' → G0 w → G0 w' := fun _ _ _ _ => trivial
abbrev V0 (f : FuncId) (l : List PV) (r : PV) : Prop := Ret Tryd.prog G0 f l r
abbrev VM (f : FuncId) (l : List AV) (H : AH) (r : AV) (K : AH) : Prop := RetM Tryd.prog G0 f l H r K
abbrev pI (n : Int) : PV := .v (.int .i64 n)
abbrev pU (c : UInt8) : PV := .v (.int .u8 (c.toNat : Nat))
abbrev pB (b : Bool) : PV := .v (.bool b)
abbrev pS (s : ByteArray) : PV := .v (.string s)
def ltrI (b1 b2 b3 b4 b5 b6 : Bool) : Bool := (b1 && b2) || ((b3 && b4) || (b5 || b6))
set_option maxHeartbeats 4000000 in
theorem letter_go (z : Int) (b1 b2 b3 b4 b5 b6 : Bool) (h1 : decide (97 ≤ z) = b1) (h2 : decide (z ≤ 122) = b2) (h3 : decide (65 ≤ z) = b3) (h4 : decide (z ≤ 90) = b4) (h5 : decide (z = 95) = b5) (h6 : decide (z = 36) = b6) : V0 50 [.v (.int .u8 z)] (pB (ltrI b1 b2 b3 b4 b5 b6)) := by
  cases b1 <;> cases b2 <;> cases b3 <;> cases b4 <;> cases b5 <;> cases b6
  all_goals
    refine ret_by tyT_ok g0_gr mixed (fun _ => 0) Tryd.func50 rfl (by kernel_rfl) (by kernel_rfl) rfl fun P G E hc hE => ?_
    have k1 : E.lei 97 z = decide (97 ≤ z) := by rw [hE]; rfl
    rw [h1] at k1
    have k2 : E.lei z 122 = decide (z ≤ 122) := by rw [hE]; rfl
    rw [h2] at k2
    have k3 : E.lei 65 z = decide (65 ≤ z) := by rw [hE]; rfl
    rw [h3] at k3
    have k4 : E.lei z 90 = decide (z ≤ 90) := by rw [hE]; rfl
    rw [h4] at k4
    clear hE h1 h2 h3 h4
    cbv
    repeat (first | (simp only [k1]; cbv) | (simp only [k2]; cbv) | (simp only [k3]; cbv) | (simp only [k4]; cbv) | (simp only [h5]; cbv) | (simp only [h6]; cbv) | simp only [h6])
theorem letter_ret (c : UInt8) : V0 50 [pU c] (pB (ltr c)) := by
  have h := letter_go (c.toNat : Nat) _ _ _ _ _ _ rfl rfl rfl rfl rfl rfl
  have e : ltrI (decide ((97 : Int) ≤ (c.toNat : Nat))) (decide (((c.toNat : Nat) : Int) ≤ 122)) (decide ((65 : Int) ≤ (c.toNat : Nat))) (decide (((c.toNat : Nat) : Int) ≤ 90)) (decide (((c.toNat : Nat) : Int) = 95)) (decide (((c.toNat : Nat) : Int) = 36)) = ltr c := by
    have key := List.all_eq_true.1 (show ((List.range 256).all fun n => ltrI (decide ((97 : Int) ≤ (n : Nat))) (decide (((n : Nat) : Int) ≤ 122)) (decide ((65 : Int) ≤ (n : Nat))) (decide (((n : Nat) : Int) ≤ 90)) (decide (((n : Nat) : Int) = 95)) (decide (((n : Nat) : Int) = 36)) == ltr (UInt8.ofNat n)) = true by decide +kernel) c.toNat (List.mem_range.2 c.toNat_lt)
    rw [UInt8.ofNat_toNat] at key
    exact beq_iff_eq.1 key
  rw [e] at h
  exact h
set_option maxHeartbeats 4000000 in
theorem rletter_go (z : Int) (b1 b2 b3 b4 b5 b6 : Bool) (h1 : decide (97 ≤ z) = b1) (h2 : decide (z ≤ 122) = b2) (h3 : decide (65 ≤ z) = b3) (h4 : decide (z ≤ 90) = b4) (h5 : decide (z = 95) = b5) (h6 : decide (z = 36) = b6) : V0 37 [.v (.int .u8 z)] (pB (ltrI b1 b2 b3 b4 b5 b6)) := by
  cases b1 <;> cases b2 <;> cases b3 <;> cases b4 <;> cases b5 <;> cases b6
  all_goals
    refine ret_by tyT_ok g0_gr mixed (fun _ => 0) Tryd.func37 rfl (by kernel_rfl) (by kernel_rfl) rfl fun P G E hc hE => ?_
    have k1 : E.lei 97 z = decide (97 ≤ z) := by rw [hE]; rfl
    rw [h1] at k1
    have k2 : E.lei z 122 = decide (z ≤ 122) := by rw [hE]; rfl
    rw [h2] at k2
    have k3 : E.lei 65 z = decide (65 ≤ z) := by rw [hE]; rfl
    rw [h3] at k3
    have k4 : E.lei z 90 = decide (z ≤ 90) := by rw [hE]; rfl
    rw [h4] at k4
    clear hE h1 h2 h3 h4
    cbv
    repeat (first | (simp only [k1]; cbv) | (simp only [k2]; cbv) | (simp only [k3]; cbv) | (simp only [k4]; cbv) | (simp only [h5]; cbv) | (simp only [h6]; cbv) | simp only [h6])
theorem rletter_ret (c : UInt8) : V0 37 [pU c] (pB (ltr c)) := by
  have h := rletter_go (c.toNat : Nat) _ _ _ _ _ _ rfl rfl rfl rfl rfl rfl
  have e : ltrI (decide ((97 : Int) ≤ (c.toNat : Nat))) (decide (((c.toNat : Nat) : Int) ≤ 122)) (decide ((65 : Int) ≤ (c.toNat : Nat))) (decide (((c.toNat : Nat) : Int) ≤ 90)) (decide (((c.toNat : Nat) : Int) = 95)) (decide (((c.toNat : Nat) : Int) = 36)) = ltr c := by
    have key := List.all_eq_true.1 (show ((List.range 256).all fun n => ltrI (decide ((97 : Int) ≤ (n : Nat))) (decide (((n : Nat) : Int) ≤ 122)) (decide ((65 : Int) ≤ (n : Nat))) (decide (((n : Nat) : Int) ≤ 90)) (decide (((n : Nat) : Int) = 95)) (decide (((n : Nat) : Int) = 36)) == ltr (UInt8.ofNat n)) = true by decide +kernel) c.toNat (List.mem_range.2 c.toNat_lt)
    rw [UInt8.ofNat_toNat] at key
    exact beq_iff_eq.1 key
  rw [e] at h
  exact h
theorem digit_go (z : Int) (b1 b2 : Bool) (h1 : decide (48 ≤ z) = b1) (h2 : decide (z ≤ 57) = b2) : V0 51 [.v (.int .u8 z)] (pB (b1 && b2)) := by
  cases b1 <;> cases b2
  all_goals
    refine ret_by tyT_ok g0_gr mixed (fun _ => 0) Tryd.func51 rfl (by kernel_rfl) (by kernel_rfl) rfl fun P G E hc hE => ?_
    have k1 : E.lei 48 z = decide (48 ≤ z) := by rw [hE]; rfl
    rw [h1] at k1
    have k2 : E.lei z 57 = decide (z ≤ 57) := by rw [hE]; rfl
    rw [h2] at k2
    clear hE h1 h2
    cbv
    repeat (first | (simp only [k1]; cbv) | (simp only [k2]; cbv) | simp only [k2])
theorem digit_ret (c : UInt8) : V0 51 [pU c] (pB (dgt c)) := by
  have h := digit_go (c.toNat : Nat) _ _ rfl rfl
  have e : (decide ((48 : Int) ≤ (c.toNat : Nat)) && decide (((c.toNat : Nat) : Int) ≤ 57)) = dgt c := by
    have key := List.all_eq_true.1 (show ((List.range 256).all fun n => (decide ((48 : Int) ≤ (n : Nat)) && decide (((n : Nat) : Int) ≤ 57)) == dgt (UInt8.ofNat n)) = true by decide +kernel) c.toNat (List.mem_range.2 c.toNat_lt)
    rw [UInt8.ofNat_toNat] at key
    exact beq_iff_eq.1 key
  rw [e] at h
  exact h
theorem rdigit_go (z : Int) (b1 b2 : Bool) (h1 : decide (48 ≤ z) = b1) (h2 : decide (z ≤ 57) = b2) : V0 38 [.v (.int .u8 z)] (pB (b1 && b2)) := by
  cases b1 <;> cases b2
  all_goals
    refine ret_by tyT_ok g0_gr mixed (fun _ => 0) Tryd.func38 rfl (by kernel_rfl) (by kernel_rfl) rfl fun P G E hc hE => ?_
    have k1 : E.lei 48 z = decide (48 ≤ z) := by rw [hE]; rfl
    rw [h1] at k1
    have k2 : E.lei z 57 = decide (z ≤ 57) := by rw [hE]; rfl
    rw [h2] at k2
    clear hE h1 h2
    cbv
    repeat (first | (simp only [k1]; cbv) | (simp only [k2]; cbv) | simp only [k2])
theorem rdigit_ret (c : UInt8) : V0 38 [pU c] (pB (dgt c)) := by
  have h := rdigit_go (c.toNat : Nat) _ _ rfl rfl
  have e : (decide ((48 : Int) ≤ (c.toNat : Nat)) && decide (((c.toNat : Nat) : Int) ≤ 57)) = dgt c := by
    have key := List.all_eq_true.1 (show ((List.range 256).all fun n => (decide ((48 : Int) ≤ (n : Nat)) && decide (((n : Nat) : Int) ≤ 57)) == dgt (UInt8.ofNat n)) = true by decide +kernel) c.toNat (List.mem_range.2 c.toNat_lt)
    rw [UInt8.ofNat_toNat] at key
    exact beq_iff_eq.1 key
  rw [e] at h
  exact h
end Go.Proofs.YtnhbboknffppiaaDoor
