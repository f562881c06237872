/- Own work: knapsacklaw25.LexerQuotes returns true. -/
import Derived.Test.YtnhbboknffppiaaDoorYLQ2
import Derived.Test.YtnhbboknffppiaaDoorYLL3
namespace Go.Proofs.YtnhbboknffppiaaDoor
open Go.RowKit
set_option maxRecDepth 100000
set_option linter.unusedSimpArgs false

theorem uB_low : ∀ n, n < 128 → uB n = [UInt8.ofNat n] := fun n h => by
  have key := List.all_eq_true.1 (show ((List.range 128).all fun n => decide (uB n = [UInt8.ofNat n])) = true by decide +kernel) n (List.mem_range.2 h)
  exact of_decide_eq_true key
theorem quo_len (x : Bs) : (quo x).length ≤ 4 * x.length + 2 := by
  have hlen : ∀ l : Bs, (l.flatMap qB).length ≤ 4 * l.length := fun l => by
    induction l with
    | nil => exact Nat.le_refl _
    | cons c l ih =>
      have := qB_len c
      rw [List.flatMap_cons, List.length_append, List.length_cons]
      omega
  have := hlen x
  unfold quo
  rw [List.length_cons, List.length_append, List.length_singleton]
  omega
end Go.Proofs.YtnhbboknffppiaaDoor
