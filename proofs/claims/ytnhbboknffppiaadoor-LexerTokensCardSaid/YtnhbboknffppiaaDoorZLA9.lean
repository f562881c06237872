/- Own work: package knapsackref25: great. -/
import Derived.Test.YtnhbboknffppiaaDoorZLA8
namespace Go.Proofs.YtnhbboknffppiaaDoor
open Go.RowKit
set_option maxRecDepth 100000
set_option linter.unusedSimpArgs false

def mostS : ByteArray := ⟨#[57, 50, 50, 51, 51, 55, 50, 48, 51, 54, 56, 53, 52, 55, 55, 53, 56, 48, 55]⟩
/-- what great returns -/
def greB (s : ByteArray) : Bool := decide (19 < s.size) || (decide (s.size = 19) && !(Op.bytesLess s.toList mostS.toList || decide (s = mostS)))
theorem great_ret (s : ByteArray) : V0 39 [pS s] (pB (greB s)) := by
  obtain ⟨n, hn⟩ : ∃ n : Int, ((s.size : Nat) : Int) = n := ⟨_, rfl⟩
  have h1 : decide (19 < s.size) = decide (19 < n) := decide_eq_decide.2 (by omega)
  have h2 : decide (s.size = 19) = decide (n = 19) := decide_eq_decide.2 (by omega)
  unfold greB
  rw [h1, h2]
  obtain ⟨b1, e1⟩ : ∃ b, decide (19 < n) = b := ⟨_, rfl⟩
  obtain ⟨b2, e2⟩ : ∃ b, decide (n = 19) = b := ⟨_, rfl⟩
  obtain ⟨b3, e3⟩ : ∃ b, Op.bytesLess s.toList mostS.toList = b := ⟨_, rfl⟩
  obtain ⟨b4, e4⟩ : ∃ b, decide (s = mostS) = b := ⟨_, rfl⟩
  rw [e1, e2, e3, e4]
  cases b1 <;> cases b2 <;> cases b3 <;> cases b4
  all_goals
    refine ret_by tyT_ok g0_gr mixed (fun _ => 0) Tryd.func39 rfl (by kernel_rfl) (by kernel_rfl) rfl fun P G E hc hE => ?_
    have z1 : E.size s = n := by rw [hE]; exact hn
    have z2 : E.size mostS = 19 := by rw [hE]; rfl
    have k1 : E.lti 19 n = decide (19 < n) := by rw [hE]; rfl
    rw [e1] at k1
    have k3 : E.lt s mostS = Op.bytesLess s.toList mostS.toList := by rw [hE]; rfl
    rw [e3] at k3
    have k4 : E.eq s mostS = decide (s = mostS) := by rw [hE]; rfl
    rw [e4] at k4
    clear hE hc hn h1 h2 e1 e3 e4
    unfold mostS at z2 k3 k4
    cbv at z2 k3 k4
    cbv
    repeat (first | (simp only [z1]; cbv) | (simp only [z2]; cbv) | (simp only [k1]; cbv) | (simp only [e2]; cbv) | (simp only [k3]; cbv) | (simp only [k4]; cbv) | simp only [k3] | simp only [k4])
end Go.Proofs.YtnhbboknffppiaaDoor
