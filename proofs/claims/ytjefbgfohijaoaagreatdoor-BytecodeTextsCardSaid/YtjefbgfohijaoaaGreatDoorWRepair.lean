/- Own work: knapsackref25.Repair and knapsackref27.text. -/
import Derived.Test.YtjefbgfohijaoaaGreatDoorWGV
import Derived.Test.YtjefbgfohijaoaaGreatDoorWGE
import Derived.LoopTactic
import Derived.Laws.RangeAny
import Derived.Laws.Runes
import Derived.Laws.Concat
import Derived.Laws.Cover4
namespace Go.Proofs.YtjefbgfohijaoaaGreatDoor
open Go.RowKit
set_option linter.unusedVariables false
set_option linter.unusedSimpArgs false
theorem dec_width (s : ByteArray) (pos : Nat) (h : pos < s.size) : 1 <= (Utf8.decode s pos).2 := by
 by_cases ha : (s[pos]'h).toNat < 128
 ·rw [decode_ascii s pos h ha]
  exact Nat.le_refl _
 ·exact (decode_high s pos h (by omega)).2
theorem gr_iter (w : World) (s : ByteArray) (pos : Nat) : Gr w (w.iter s pos) := (Below.refl _ _).alloc (Nat.le_refl _) _
def RepRel (w : World) (s : ByteArray) (v : Value) (wr : World) : Prop := ∃ (pos : Nat) (acc : ByteArray), wr = w.iter s pos /\ v = .string acc /\ acc.data.toList ++ repairL (s.data.toList.drop pos) = repairL s.data.toList /\ acc.size <= 4 * pos
set_option maxHeartbeats 1000000 in
set_option maxRecDepth 100000 in
theorem repair_any (s : ByteArray) (w : World) (hs : s.size <= 2000000) :
  Calls Tryz.prog 57 #[.string s] w fun e w' => e = .returned (.string (repairS s)) /\ Gr w w' := by
 go_enter Tryz.func57, Tryz.ntmps57
 go_wp2
 go_loopw [3] (RepRel w s) (fun _ w' => s.size - w'.iterPos w.heap.size)
 case atStart => exact ⟨0, ByteArray.empty, rfl, rfl, rfl, by decide⟩
 case round =>
  obtain ⟨pos, acc, rfl, rfl, hacc, hsz⟩ := hrel
  have HA := Lib.hid hacc
  clear hacc
  by_cases hp : pos < s.size
  ·have hwd := dec_width s pos hp
   have hnx : ∀ ty, (Instr.next (.pointer (some ⟨w.heap.size, 0, none⟩)) true ty).run Tryz.prog (w.iter s pos) = .ok (.tuple #[.bool true, .int .i64 pos, .int .i32 ((Utf8.decode s pos).1 : Nat)]) (w.iter s (pos + (Utf8.decode s pos).2)) := fun ty => run_next_any w s pos ty hp
   generalize hd : Utf8.decode s pos = d at hnx hwd
   obtain ⟨r, wd⟩ := d
   simp only at hnx hwd
   have HD := Lib.hid hd
   clear hd
   have he4 := encode_size_le (r : Int)
   have hadd : ∀ W : World, (Op.stringOp .add acc (Utf8.encode (r : Int))).run Tryz.prog W = .ok (.string (acc ++ Utf8.encode (r : Int))) W := fun W => run_string_add_sum W _ _ (by omega)
   clear hs
   go_wp2_with fail
   go_roundw
   case rel =>
    refine ⟨pos + wd, acc ++ Utf8.encode (r : Int), rfl, rfl, ?_,?_⟩
    ·exact rep_step s pos r wd acc _ hp HD.out HA.out
    ·rw [ByteArray.size_append]; omega
   case measure => simp; omega
  ·have hnx : ∀ ty, (Instr.next (.pointer (some ⟨w.heap.size, 0, none⟩)) true ty).run Tryz.prog (w.iter s pos) = _ := fun ty => run_next_end w s pos ty hp
   go_wp2
   go_ret
   have hd : s.data.toList.drop pos = [] := List.drop_eq_nil_of_le (by have : s.data.size = s.size := rfl; simp; omega)
   have h1 := HA.out
   rw [hd] at h1
   have h2 : acc = repairS s := by
    apply ByteArray.ext
    apply Array.toList_inj.1
    rw [show repairL [] = [] from rfl, List.append_nil] at h1
    rw [h1]; rfl
   subst h2
   exact ⟨rfl, gr_iter w s pos⟩
def textB (s : ByteArray) (n : Int) : Bool := decide ((s.size : Int) <= n) && validB s
theorem toList_beq (a b : ByteArray) : (a.toList == b.toList) = (a.data.toList == b.data.toList) := by
 rw [ByteArray.toList_eq, ByteArray.toList_eq]
theorem repairS_beq (s : ByteArray) : ((repairS s).toList == s.toList) = validB s := by
 rw [toList_beq]
 exact repairL_beq s.data.toList
set_option maxHeartbeats 1000000 in
theorem text_any (s : ByteArray) (n : Int) (w : World) (hs : s.size <= 9223372036854775807) (hn : n <= 2000000) :
  Calls Tryz.prog 35 #[.string s, .int .i64 n] w fun e w' => e = .returned (.bool (textB s n)) /\ Gr w w' := by
 by_cases h : (s.size : Int) <= n
 ·have hd : decide ((s.size : Int) <= n) = true := by simpa using h
  have hfin : textB s n = ((repairS s).toList == s.toList) := by simp [textB, hd, repairS_beq]
  rw [hfin]
  clear hfin
  go_enter Tryz.func35, Tryz.ntmps35
  go_wp2_with fail
  refine (repair_any s _ (by omega)).mono ?_
  rintro e w1 ⟨rfl, hg⟩
  go_wp2_with fail
  go_ret
  exact ⟨rfl, hg⟩
 ·have hd : decide ((s.size : Int) <= n) = false := by simpa using h
  have hfin : textB s n = false := by simp [textB, hd]
  rw [hfin]
  go_enter Tryz.func35, Tryz.ntmps35
  go_wp2_with fail
  go_ret
  exact ⟨rfl, Gr.refl _⟩
end Go.Proofs.YtjefbgfohijaoaaGreatDoor
