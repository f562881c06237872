/- Own work: knapsackref27.Describe. -/
import Derived.Test.YtjefbgfohijaoaaGreatDoorWGD
namespace Go.Proofs.YtjefbgfohijaoaaGreatDoor
open Go.RowKit
def noInfo : Value := .agg #[.string ByteArray.empty, .int .i64 0, .int .i64 0, .int .i64 0, .bool false, .int .i64 0, .bool false]
def rowOf (op : Int) : Value := if 1 <= op /\ op <= 53 then infoOf op else noInfo
set_option maxHeartbeats 4000000 in
set_option maxRecDepth 100000 in
theorem rdesc_out (op : Int) (w : World) (h : op < 1 \/ 53 < op) :
  Calls Tryz.prog 32 #[.int .i64 op] w fun e w' => e = .returned noInfo /\ Gr w w' := by
 rcases h with h | h
 all_goals
  go_enter Tryz.func32, Tryz.ntmps32
  go_wp2_with fail
  refine bodyPost_ret (v := noInfo) ?_ rfl ⟨rfl, gr_alloc _ _⟩
  simp [results, Tryz.results32, go_sem, noInfo]
  try rfl
set_option maxHeartbeats 4000000 in
set_option maxRecDepth 100000 in
theorem rdesc_in (op : Int) (w : World) (h0 : 1 <= op) (h1 : op <= 53) :
  Calls Tryz.prog 32 #[.int .i64 op] w fun e w' => e = .returned (infoOf op) /\ Gr w w' := by
 go_enter Tryz.func32, Tryz.ntmps32
 go_wp2_with fail
 all_goals
  rename_i hq
  obtain rfl := eq_of_beq hq
  refine bodyPost_ret (v := infoOf _) ?_ rfl ⟨rfl, gr_alloc _ _⟩
  simp [results, Tryz.results32, go_sem]
  kernel_rfl
end Go.Proofs.YtjefbgfohijaoaaGreatDoor
