/- Own work: knapsacklaw27.awake. -/
import Derived.Test.YtjefbgfohijaoaaGreatDoorWGF
namespace Go.Proofs.YtjefbgfohijaoaaGreatDoor
open Go.RowKit
set_option linter.unusedVariables false
set_option linter.unusedSimpArgs false
def awFn : Fn := ⟨⟨#[102]⟩, 1, 0, 0, [⟨2, 0, 0⟩, ⟨48, 0, 0⟩], [], []⟩
def awRef (g : Nat) : FnRef := ⟨awFn, some ⟨g, 0, none⟩, none, none, 2, 0, 0⟩
theorem aw_formed (g : Nat) : progB [awRef g] = true := by kernel_rfl
theorem aw_at {w : World} {g h : Nat} {t u : TypeId} (hg : w.heap[g]? = some (.cells #[.int .i64 2, .int .i64 0, .int .i64 0, .int .i64 48, .int .i64 0, .int .i64 0] t (0, 0)))
  (hh : w.heap[h]? = some (.cells #[.string ⟨#[102]⟩, .int .i64 1, .int .i64 0, .int .i64 0, .slice (some ⟨g, 0, none⟩) 2 2, .slice none 0 0, .slice none 0 0] u (0, 0))) : ProgAt w (some ⟨h, 0, none⟩) [awRef g] := by
 refine ⟨SlAt.of_block fnCells_len hh rfl, fun r hr => ?_, fun r hr => ?_⟩
 ·obtain rfl : r = awRef g := by simpa using hr
  exact ⟨SlAt.of_block insCells_len hg rfl, SlAt.nil, SlAt.nil⟩
 ·obtain rfl : r = awRef g := by simpa using hr
  refine ⟨?_, ?_, ?_, ?_, fun c hc => ?_⟩
  ·show (1 : Nat) <= _; omega
  ·show (2 : Nat) <= _; omega
  ·show (0 : Nat) <= _; omega
  ·show (0 : Nat) <= _; omega
  ·simp [awRef, awFn] at hc
theorem desc46 (w : World) : Calls Tryz.prog 13 #[.int .i64 46] w fun e w' => e = .returned (.tuple #[.agg #[.string ⟨#[67, 97, 108, 108]⟩, .int .i64 6, .int .i64 2, .int .i64 1, .bool true, .int .i64 0, .bool false], .int .i64 0]) /\ Gr w w' :=
 (desc_in 46 w (by decide) (by decide)).mono fun e w' h => ⟨h.1.trans (by kernel_rfl), h.2⟩
set_option maxHeartbeats 1000000 in
set_option maxRecDepth 100000 in
theorem awake27 (w : World) (hT : Tabs w) : Calls Tryz.prog 5 #[] w fun e w' => e = .returned (.bool true) /\ Gr w w' := by
 have HT := Lib.hid hT
 clear hT
 go_enter Tryz.func5, Tryz.ntmps5
 go_wp2_with fail
 refine (desc46 _).mono ?_
 rintro e w1 ⟨rfl, hb1⟩
 have e1 := heap_gr hb1 (heap_gr (gr_alloc2 _ _ _) (heap_alloc_new w _))
 have e2 := heap_gr hb1 (heap_gr (gr_alloc _ _) (heap_alloc_new (w.alloc _) _))
 have e3 := heap_gr hb1 (heap_alloc_new ((w.alloc _).alloc _) _)
 simp only [World.size_alloc] at e1 e2 e3
 have hP := aw_at e1 e2
 have hW0 : Gr w w1 := (gr_alloc3 w _ _ _).trans hb1
 clear hb1 e1 e2
 obtain ⟨W, hw1, hs1, hW, hWb⟩ := plug1b e3
 have HP := Lib.hid hP
 replace hW := hW0.trans hW
 clear e3 hP
 subst hw1
 go_wp2_with fail
 refine (Formed_eq (some ⟨w.heap.size + 1, 0, none⟩) 1 [awRef w.heap.size] _ true (aw_formed _) (HT.out.gr (gr_then_alloc hW0 _)) (HP.out.gr (gr_alloc _ _)) (by simp)).mono ?_
 rintro e w2 ⟨rfl, hb2⟩
 have e2 := heap_gr hb2 (heap_alloc_new _ _)
 simp only [size_plug] at e2
 have hW2 : Gr w w2 := (gr_then_alloc hW0 _).trans hb2
 clear hb2
 obtain ⟨W2, hw2, hs2, hW3, _⟩ := plug1b e2
 replace hW3 := hW2.trans hW3
 clear e2
 subst hw2
 go_wp2_with fail
 go_ret
 exact ⟨rfl, hW2⟩
end Go.Proofs.YtjefbgfohijaoaaGreatDoor
