/- Own work: text.Repair and knapsackref25.Repair return the repaired text. -/
import Derived.Test.YtadgpchdlkiinaaDoorV1
import Derived.Shelf.Strings.BuilderRune
import Derived.LoopTactic
import Derived.WalkKit
import Derived.BigCall
import Derived.Laws.RangeAny
import Derived.Laws.Runes
import Derived.Laws.Concat
import Derived.Laws.Cover4
namespace Go.Proofs
open Go.Shelf
def Tryd.laysWR_ren : Go.Shelf.Ren := ⟨fun | 168 => 65 | 240 => 74 | 242 => 75 | 276 => 89 | 278 => 90 | n => n,
  fun | 0 => 0 | 3 => 3 | 4 => 4 | 5 => 5 | 9 => 9 | 20 => 20 | 21 => 21 | 37 => 78 | 46 => 90 | 51 => 109 | 70 => 77 | 72 => 80 | 75 => 73 | 80 => 83 | 164 => 107 | n => n, fun | n => n⟩
theorem Tryd.laysWR : Go.Proofs.Lays.n168 Tryd.prog Tryd.laysWR_ren := {
  mixed := by kernel_rfl
  f168 := Tryd.func65.trans (congrArg some (by kernel_rfl))
  f240 := Tryd.func74.trans (congrArg some (by kernel_rfl))
  f242 := Tryd.func75.trans (congrArg some (by kernel_rfl))
  f276 := Tryd.func89.trans (congrArg some (by kernel_rfl))
  f278 := Tryd.func90.trans (congrArg some (by kernel_rfl))
  t0 := Tryd.underlying0
  a0 := Tryd.isAgg0
  z0 := Tryd.sizeOf0
  v0 := Tryd.zeroValue0
  t3 := Tryd.underlying3
  a3 := Tryd.isAgg3
  z3 := Tryd.sizeOf3
  v3 := Tryd.zeroValue3
  t4 := Tryd.underlying4
  a4 := Tryd.isAgg4
  z4 := Tryd.sizeOf4
  v4 := Tryd.zeroValue4
  t5 := Tryd.underlying5
  a5 := Tryd.isAgg5
  z5 := Tryd.sizeOf5
  v5 := Tryd.zeroValue5
  t9 := Tryd.underlying9
  a9 := Tryd.isAgg9
  z9 := Tryd.sizeOf9
  v9 := Tryd.zeroValue9
  t20 := Tryd.underlying20
  a20 := Tryd.isAgg20
  z20 := Tryd.sizeOf20
  v20 := Tryd.zeroValue20
  t21 := Tryd.underlying21
  a21 := Tryd.isAgg21
  z21 := Tryd.sizeOf21
  v21 := Tryd.zeroValue21
  t37 := Tryd.underlying78
  a37 := Tryd.isAgg78
  z37 := Tryd.sizeOf78
  v37 := Tryd.zeroValue78
  t46 := Tryd.underlying90
  a46 := Tryd.isAgg90
  z46 := Tryd.sizeOf90
  v46 := Tryd.zeroValue90
  t51 := Tryd.underlying109
  a51 := Tryd.isAgg109
  z51 := Tryd.sizeOf109
  v51 := Tryd.zeroValue109
  t70 := Tryd.underlying77
  a70 := Tryd.isAgg77
  z70 := Tryd.sizeOf77
  v70 := Tryd.zeroValue77
  t72 := Tryd.underlying80
  a72 := Tryd.isAgg80
  z72 := Tryd.sizeOf80
  v72 := Tryd.zeroValue80
  t75 := Tryd.underlying73
  a75 := Tryd.isAgg73
  z75 := Tryd.sizeOf73
  v75 := Tryd.zeroValue73
  t164 := Tryd.underlying107
  a164 := Tryd.isAgg107
  z164 := Tryd.sizeOf107
  v164 := Tryd.zeroValue107 }
theorem Tryd.Builder_Extra_WR : Builder.Extra Tryd.prog Tryd.laysWR_ren := {
  sizeBuilder := by kernel_rfl
  liesBuilder := by kernel_rfl
  t5 := Tryd.underlying5
  a5 := Tryd.isAgg5
  z5 := Tryd.sizeOf5
  v5 := Tryd.zeroValue5
  infoByte := by kernel_rfl
  cellsByte := by kernel_rfl
  sizeByte := by kernel_rfl
  neB5 := by decide }
open Go.RowKit in
theorem Tryd.writeRune (B b : Nat) (bs : List Value) (r : Int) (hr0 : -2147483648 ≤ r) (hr1 : r ≤ 2147483647) (w : World) (h : Lib.IsBuilderF 80 5 B b bs w) (hlen : bs.length + 4 ≤ 140737488355328) (hBw : B ≤ w.heap.size) :
    Calls Tryd.prog 65 #[.pointer (some ⟨b, 0, none⟩), .int .i32 r] w fun e w' => e = .returned (.tuple #[.int .i64 (Lib.runeCells r).length, .nilIface]) ∧ (Lib.BuilderAtF 80 5 B b (.pointer (some ⟨b, 0, none⟩)) (bs ++ Lib.runeCells r) w' ∧ Below B w w' ∧ Lib.OthersKept 5 (some b) w w') := Any.Builder_WriteRune_k Tryd.laysWR Tryd.Builder_Extra_WR B b bs r hr0 hr1 w h hlen hBw
end Go.Proofs
namespace Go.Proofs.YtadgpchdlkiinaaDoor
open Go.RowKit
set_option maxRecDepth 1000000

theorem dec_width (s : ByteArray) (pos : Nat) (h : pos < s.size) : 1 ≤ (Utf8.decode s pos).2 := by
  by_cases ha : (s[pos]'h).toNat < 128
  · rw [decode_ascii s pos h ha]
    exact Nat.le_refl _
  · exact (decode_high s pos h (by omega)).2
theorem repair_end (s : ByteArray) (pos : Nat) (acc : List UInt8) (hp : ¬ pos < s.size) (h : acc ++ repairL (s.data.toList.drop pos) = repairL s.data.toList) : (⟨acc.toArray⟩ : ByteArray) = repairS s := by
  have hd : s.data.toList.drop pos = [] := List.drop_eq_nil_of_le (by have : s.data.size = s.size := rfl; simp; omega)
  rw [hd, show repairL [] = [] from rfl, List.append_nil] at h
  rw [h]; rfl
theorem rep_stepL (s : ByteArray) (pos : Nat) (acc : List UInt8) (L : List UInt8) (hp : pos < s.size) (ha : acc ++ repairL (s.data.toList.drop pos) = L) :
    acc ++ Lib.encodeRune ((Utf8.decode s pos).1 : Int) ++ repairL (s.data.toList.drop (pos + (Utf8.decode s pos).2)) = L := by
  have h := rep_step s pos (Utf8.decode s pos).1 (Utf8.decode s pos).2 ⟨acc.toArray⟩ L hp rfl (by simpa using ha)
  rw [data_add, encL_def, encL_eq] at h
  simpa using h

set_option maxHeartbeats 4000000 in
theorem repair_walk (s : ByteArray) (w : World) (hs : s.size ≤ 2000000) (hG : Good w) (hv : validB s = false) :
    Calls Tryd.prog 45 #[.string s] w fun e w' => e = .returned (.string (repairS s)) ∧ Gr w w' := by
  have hV : Calls Tryd.prog 64 #[.string s] w fun e w' => e = .returned (.bool false) ∧ Gr w w' := by
    have h := Any.utf8_ValidString Tryd.laysValid s w (by omega) hG.utf8
    exact h.mono fun e w' ⟨h1, h2⟩ => ⟨h1.trans (by rw [← hv]; rfl), h2⟩
  clear hv hG
  go_enter Tryd.func45, Tryd.ntmps45
  go_wp2_with (refine hV.mono ?_)
  rintro e w0 ⟨rfl, hg0⟩
  go_wp2
  go_loopw [] (fun wr => ∃ (pos : Nat) (acc : List UInt8), Lib.IsBuilderF 80 5 w0.heap.size w0.heap.size (Lib.byteCells acc) wr ∧ wr.heap[w0.heap.size + 1]? = some (.stringIter s pos) ∧ Below w0.heap.size w0 wr ∧ acc ++ repairL (s.data.toList.drop pos) = repairL s.data.toList ∧ acc.length ≤ 4 * pos) (fun wr => s.size - wr.iterPos (w0.heap.size + 1))
  case atStart =>
    refine ⟨0, [], (Lib.IsBuilderF.of (Lib.fresh_isBuilder 80 5 w0)).alloc _, ?_, ((Below.refl _ w0).alloc (Nat.le_refl _) _).alloc (by simp) _, rfl, by simp⟩
    have := World.iter_heap (w0.alloc (.cells #[.pointer none, .slice none 0 0] 80)) s 0
    simpa using this
  case round =>
    obtain ⟨pos, acc, hI, hit, hbw, hacc, hal⟩ := hrel
    have hsz : w0.heap.size + 1 < wr.heap.size := (Array.getElem?_eq_some_iff.1 hit).1
    by_cases hp : pos < s.size
    · have hnx : ∀ ty, (Instr.next (.pointer (some ⟨w0.heap.size + 1, 0, none⟩)) true ty).run Tryd.prog wr = _ := fun ty => Lib.run_next_any_at wr (w0.heap.size + 1) s pos ty hit hp
      have hwd := dec_width s pos hp
      have hd1 := decode_le s pos
      have hI2 := hI.iterAt hit (pos + (Utf8.decode s pos).2)
      have hit2 := Lib.iterAt_heap wr (w0.heap.size + 1) s pos (pos + (Utf8.decode s pos).2) hit
      have hbw2 := Lib.below_iterAt hbw (k := w0.heap.size + 1) (by omega) s (pos + (Utf8.decode s pos).2)
      have hsz2 : w0.heap.size ≤ (wr.iterAt (w0.heap.size + 1) s (pos + (Utf8.decode s pos).2)).heap.size := by rw [Lib.iterAt_size]; omega
      have hst := rep_stepL s pos acc _ hp hacc
      clear hacc
      have HST := Lib.hid hst
      clear hst
      go_wp2_with (go_at_call 65; refine (Tryd.writeRune w0.heap.size w0.heap.size _ _ (by omega) (by omega) _ hI2 (by rw [Lib.byteCells_length]; omega) hsz2).mono ?_)
      rintro e W1 ⟨rfl, h1, b1, k1⟩
      go_wp2
      go_roundw
      case rel =>
        have hl4 := Lib.runeCells_le ((Utf8.decode s pos).1 : Int)
        rw [Lib.runeCells_length] at hl4
        refine ⟨pos + (Utf8.decode s pos).2, acc ++ Lib.encodeRune (Utf8.decode s pos).1, ?_, k1.iter hit2 (by omega), hbw2.trans b1, HST.out, by simp; omega⟩
        rw [Lib.byteCells_append, Lib.byteCells_encodeRune]; exact Or.inr h1
      case measure =>
        simp only [World.iterPos, k1.iter hit2 (by omega), hit]
        omega
    · have hnx : ∀ ty, (Instr.next (.pointer (some ⟨w0.heap.size + 1, 0, none⟩)) true ty).run Tryd.prog wr = _ := fun ty => Lib.run_next_end_at wr (w0.heap.size + 1) s pos ty hit hp
      go_wp2_with (go_at_call 66; refine (Tryd.Builder_String_any_k w0.heap.size w0.heap.size acc _ hI (by omega)).mono ?_)
      rintro e W1 ⟨rfl, _, b1, _⟩
      go_wp2
      go_ret
      exact ⟨by rw [repair_end s pos acc hp hacc]; rfl, hg0.trans (hbw.trans b1)⟩
theorem repT_ret (s : ByteArray) (hs : s.size ≤ 2000000) : R 45 [pS s] (pS (repairS s)) := by
  cases hv : validB s with
  | true =>
    have h := repair_valid s (by omega) hv
    have e : repairS s = s := by
      unfold repairS
      rw [repairL_valid hv]
    rw [e]; exact h
  | false => exact ret_v Tryd.func45 (by kernel_rfl) (by kernel_rfl) [.string s] _ fun w hG => (repair_walk s w hs hG hv).mono fun e w' ⟨h1, h2⟩ => ⟨_, h1, h2, fun _ => .v _⟩

theorem gr_iter (w : World) (s : ByteArray) (pos : Nat) : Gr w (w.iter s pos) := (Below.refl _ _).alloc (Nat.le_refl _) _
def RepRel (w : World) (s : ByteArray) (v : Value) (wr : World) : Prop := ∃ (pos : Nat) (acc : ByteArray), wr = w.iter s pos ∧ v = .string acc ∧ acc.data.toList ++ repairL (s.data.toList.drop pos) = repairL s.data.toList ∧ acc.size ≤ 4 * pos
set_option maxHeartbeats 1000000 in
set_option maxRecDepth 100000 in
theorem rrepair_walk (s : ByteArray) (w : World) (hs : s.size ≤ 2000000) :
    Calls Tryd.prog 39 #[.string s] w fun e w' => e = .returned (.string (repairS s)) ∧ Gr w w' := by
  go_enter Tryd.func39, Tryd.ntmps39
  go_wp2
  go_loopw [3] (RepRel w s) (fun _ w' => s.size - w'.iterPos w.heap.size)
  case atStart => exact ⟨0, ByteArray.empty, rfl, rfl, rfl, by decide⟩
  case round =>
    obtain ⟨pos, acc, rfl, rfl, hacc, hsz⟩ := hrel
    have HA := Lib.hid hacc
    clear hacc
    by_cases hp : pos < s.size
    · have hwd := dec_width s pos hp
      have hnx : ∀ ty, (Instr.next (.pointer (some ⟨w.heap.size, 0, none⟩)) true ty).run Tryd.prog (w.iter s pos) = .ok (.tuple #[.bool true, .int .i64 pos, .int .i32 ((Utf8.decode s pos).1 : Nat)]) (w.iter s (pos + (Utf8.decode s pos).2)) := fun ty => run_next_any w s pos ty hp
      generalize hd : Utf8.decode s pos = d at hnx hwd
      obtain ⟨r, wd⟩ := d
      simp only at hnx hwd
      have HD := Lib.hid hd
      clear hd
      have he4 := encode_size_le (r : Int)
      have hadd : ∀ W : World, (Op.stringOp .add acc (Utf8.encode (r : Int))).run Tryd.prog W = .ok (.string (acc ++ Utf8.encode (r : Int))) W := fun W => run_string_add_sum W _ _ (by omega)
      clear hs
      go_wp2_with fail
      go_roundw
      case rel =>
        refine ⟨pos + wd, acc ++ Utf8.encode (r : Int), rfl, rfl, ?_, ?_⟩
        · exact rep_step s pos r wd acc _ hp HD.out HA.out
        · rw [ByteArray.size_append]; omega
      case measure => simp; omega
    · have hnx : ∀ ty, (Instr.next (.pointer (some ⟨w.heap.size, 0, none⟩)) true ty).run Tryd.prog (w.iter s pos) = _ := fun ty => run_next_end w s pos ty hp
      go_wp2
      go_ret
      have hd : s.data.toList.drop pos = [] := List.drop_eq_nil_of_le (by have : s.data.size = s.size := rfl; simp; omega)
      have h1 := HA.out
      rw [hd] at h1
      have h2 : acc = repairS s := by
        apply ByteArray.ext
        apply Array.toList_inj.1
        rw [show repairL [] = [] from rfl, List.append_nil] at h1
        rw [h1]; rfl
      subst h2
      exact ⟨rfl, gr_iter w s pos⟩

theorem repR_ret (s : ByteArray) (hs : s.size ≤ 2000000) : R 39 [pS s] (pS (repairS s)) :=
  ret_v Tryd.func39 (by kernel_rfl) (by kernel_rfl) [.string s] _ fun w _ => (rrepair_walk s w hs).mono fun e w' ⟨h1, h2⟩ => ⟨_, h1, h2, fun _ => .v _⟩
end Go.Proofs.YtadgpchdlkiinaaDoor
