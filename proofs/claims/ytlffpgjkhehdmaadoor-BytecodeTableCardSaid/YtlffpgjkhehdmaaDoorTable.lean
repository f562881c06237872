/- Own work: the walk of knapsacklaw27.BytecodeTable: it returns true for every number. -/
import Derived.Test.YtlffpgjkhehdmaaDoorAwake27
import Derived.Test.YtlffpgjkhehdmaaDoorRefDesc
namespace Go.Proofs.YtlffpgjkhehdmaaDoor
open Go.RowKit
set_option linter.unusedVariables false
set_option linter.unusedSimpArgs false

theorem nameOf_ne (op : Int) (h0 : 1 ≤ op) (h1 : op ≤ 53) : (nameOf op).toList.isEmpty = false := by
  obtain ⟨n, rfl⟩ := Int.eq_ofNat_of_zero_le (show 0 ≤ op by omega)
  have hn : n < 54 := by omega
  have hall : ∀ m : Nat, m < 54 → 1 ≤ m → ((nameBytes.getD m []) == []) = false := by decide
  have := hall n hn (by omega)
  unfold nameOf
  rw [ByteArray.toList_eq]
  show (nameBytes.getD n []).isEmpty = false
  cases h : nameBytes.getD n [] with
  | nil => rw [h] at this; simp at this
  | cons a l => rfl

set_option maxHeartbeats 1000000 in
set_option maxRecDepth 100000 in
theorem table_in (op : Int) (w : World) (hT : Tabs w) (h0 : 1 ≤ op) (h1 : op ≤ 53) : Calls Tryd.prog 3 #[.int .i64 op] w fun e w' => e = .returned (.bool true) ∧ Gr w w' := by
  have hne := nameOf_ne op h0 h1
  have HT := Lib.hid hT
  have HD := Lib.hid (fun w => desc_in op w h0 h1)
  have HR := Lib.hid (fun w => rdesc_in op w h0 h1)
  clear hT h0 h1
  go_enter Tryd.func3, Tryd.ntmps3
  go_wp2_with fail
  refine (awake27 w HT.out).mono ?_
  rintro e w1 ⟨rfl, hg1⟩
  go_wp2_with fail
  refine (HD.out _).mono ?_
  rintro e w2 ⟨rfl, hb2⟩
  have hg2 : Gr w w2 := hg1.trans hb2
  clear hb2 hg1
  unfold infoOf
  go_wp2_with fail
  refine (HR.out _).mono ?_
  rintro e w3 ⟨rfl, hb3⟩
  have e3 := heap_gr hb3 (heap_alloc_new w2 _)
  have hg3 : Gr w w3 := (gr_then_alloc hg2 _).trans hb3
  clear hb3
  obtain ⟨W, hw3, hs, hW, _⟩ := plug1b e3
  clear e3
  subst hw3
  unfold infoOf
  go_wp2_with fail
  go_ret
  exact ⟨rfl, gr_then_alloc hg3 _⟩

set_option maxHeartbeats 1000000 in
set_option maxRecDepth 100000 in
theorem table_out (op : Int) (w : World) (hT : Tabs w) (h : op < 1 ∨ 53 < op) : Calls Tryd.prog 3 #[.int .i64 op] w fun e w' => e = .returned (.bool true) ∧ Gr w w' := by
  have HT := Lib.hid hT
  have HD := Lib.hid (fun w => desc_out op w h)
  have HR := Lib.hid (fun w => rdesc_out op w h)
  clear hT h
  go_enter Tryd.func3, Tryd.ntmps3
  go_wp2_with fail
  refine (awake27 w HT.out).mono ?_
  rintro e w1 ⟨rfl, hg1⟩
  go_wp2_with fail
  refine (HD.out _).mono ?_
  rintro e w2 ⟨rfl, hb2⟩
  have hg2 : Gr w w2 := hg1.trans hb2
  clear hb2 hg1
  go_wp2_with fail
  refine (HR.out _).mono ?_
  rintro e w3 ⟨rfl, hb3⟩
  have e3 := heap_gr hb3 (heap_alloc_new w2 _)
  have hg3 : Gr w w3 := (gr_then_alloc hg2 _).trans hb3
  clear hb3
  obtain ⟨W, hw3, hs, hW, _⟩ := plug1b e3
  clear e3
  subst hw3
  unfold noInfo
  go_wp2_with fail
  go_ret
  exact ⟨rfl, gr_then_alloc hg3 _⟩

theorem table_any (op : Int) (w : World) (hT : Tabs w) : Calls Tryd.prog 3 #[.int .i64 op] w fun e w' => e = .returned (.bool true) ∧ Gr w w' := by
  by_cases h : 1 ≤ op ∧ op ≤ 53
  · exact table_in op w hT h.1 h.2
  · exact table_out op w hT (by omega)
end Go.Proofs.YtlffpgjkhehdmaaDoor
