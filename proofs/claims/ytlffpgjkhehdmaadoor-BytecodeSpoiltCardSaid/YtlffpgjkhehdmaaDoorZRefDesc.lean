/- Own work: knapsackref27.Describe. -/
import Derived.Test.YtlffpgjkhehdmaaDoorZGD
namespace Go.Proofs.YtlffpgjkhehdmaaDoor
open Go.RowKit

def noInfo : Value := .agg #[.string ByteArray.empty, .int .i64 0, .int .i64 0, .int .i64 0, .bool false, .int .i64 0, .bool false]
def rowOf (op : Int) : Value := if 1 ≤ op ∧ op ≤ 53 then infoOf op else noInfo
theorem rowOf_in {op : Int} (h0 : 1 ≤ op) (h1 : op ≤ 53) : rowOf op = infoOf op := if_pos ⟨h0, h1⟩
theorem rowOf_out {op : Int} (h : op < 1 ∨ 53 < op) : rowOf op = noInfo := if_neg (by omega)

set_option maxHeartbeats 4000000 in
set_option maxRecDepth 100000 in
theorem rdesc_out (op : Int) (w : World) (h : op < 1 ∨ 53 < op) :
    Calls Tryd.prog 19 #[.int .i64 op] w fun e w' => e = .returned noInfo ∧ Gr w w' := by
  rcases h with h | h
  all_goals
    go_enter Tryd.func19, Tryd.ntmps19
    go_wp2_with fail
    refine bodyPost_ret (v := noInfo) ?_ rfl ⟨rfl, gr_alloc _ _⟩
    simp [results, Tryd.results19, go_sem, noInfo]
    try rfl

set_option maxHeartbeats 4000000 in
set_option maxRecDepth 100000 in
theorem rdesc_in (op : Int) (w : World) (h0 : 1 ≤ op) (h1 : op ≤ 53) :
    Calls Tryd.prog 19 #[.int .i64 op] w fun e w' => e = .returned (infoOf op) ∧ Gr w w' := by
  go_enter Tryd.func19, Tryd.ntmps19
  go_wp2_with fail
  all_goals
    rename_i hq
    obtain rfl := eq_of_beq hq
    refine bodyPost_ret (v := infoOf _) ?_ rfl ⟨rfl, gr_alloc _ _⟩
    simp [results, Tryd.results19, go_sem]
    kernel_rfl
theorem rdesc_any (op : Int) (w : World) :
    Calls Tryd.prog 19 #[.int .i64 op] w fun e w' => e = .returned (rowOf op) ∧ Gr w w' := by
  by_cases h : 1 ≤ op ∧ op ≤ 53
  · rw [rowOf_in h.1 h.2]; exact rdesc_in op w h.1 h.2
  · rw [rowOf_out (by omega)]; exact rdesc_out op w (by omega)
end Go.Proofs.YtlffpgjkhehdmaaDoor
