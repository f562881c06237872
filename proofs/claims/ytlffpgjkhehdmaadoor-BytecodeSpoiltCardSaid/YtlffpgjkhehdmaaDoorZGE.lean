/- The shelf's contract of utf8.ValidString at this dump, in plain words (the kit's lay-plain tool wrote it; the numbers are filled in by name). -/
import Derived.Ground.NamesProg
import Derived.Shelf.Unicode.ValidAny
import Derived.Test.YtlffpgjkhehdmaaDoorProg
import Derived.Test.YtlffpgjkhehdmaaDoorZGD
import Derived.Lib.Hide
import Derived.Test.YtlffpgjkhehdmaaDoorZRepairP
import Derived.LoopTactic
import Derived.Laws.RangeAny
import Derived.Laws.Runes
import Derived.Laws.Concat
import Derived.Laws.Cover4
namespace Go.Proofs
open Go.Shelf
def Tryd.laysValid_ren : Go.Shelf.Ren := ⟨fun | 196 => 82 | 259 => 83 | n => n, fun | 9 => 9 | 4 => 4 | 3 => 3 | 5 => 5 | 12 => 12 | 119 => 137 | 0 => 0 | 46 => 135 | 139 => 140 | 138 => 139 | 53 => 96 | n => n, fun | 3 => 0 | 4 => 1 | n => n⟩
theorem Tryd.laysValid : Go.Proofs.Lays.n196 Tryd.prog Tryd.laysValid_ren := {
  mixed := by kernel_rfl
  f196 := Tryd.func82.trans (congrArg some (by kernel_rfl))
  f259 := Tryd.func83.trans (congrArg some (by kernel_rfl))
  t0 := Tryd.underlying0
  a0 := Tryd.isAgg0
  z0 := Tryd.sizeOf0
  v0 := Tryd.zeroValue0
  t3 := Tryd.underlying3
  a3 := Tryd.isAgg3
  z3 := Tryd.sizeOf3
  v3 := Tryd.zeroValue3
  t4 := Tryd.underlying4
  a4 := Tryd.isAgg4
  z4 := Tryd.sizeOf4
  v4 := Tryd.zeroValue4
  t5 := Tryd.underlying5
  a5 := Tryd.isAgg5
  z5 := Tryd.sizeOf5
  v5 := Tryd.zeroValue5
  t9 := Tryd.underlying9
  a9 := Tryd.isAgg9
  z9 := Tryd.sizeOf9
  v9 := Tryd.zeroValue9
  t12 := Tryd.underlying12
  a12 := Tryd.isAgg12
  z12 := Tryd.sizeOf12
  v12 := Tryd.zeroValue12
  t46 := Tryd.underlying135
  a46 := Tryd.isAgg135
  z46 := Tryd.sizeOf135
  v46 := Tryd.zeroValue135
  t53 := Tryd.underlying96
  a53 := Tryd.isAgg96
  z53 := Tryd.sizeOf96
  v53 := Tryd.zeroValue96
  t119 := Tryd.underlying137
  a119 := Tryd.isAgg137
  z119 := Tryd.sizeOf137
  t138 := Tryd.underlying139
  a138 := Tryd.isAgg139
  z138 := Tryd.sizeOf139
  v138 := Tryd.zeroValue139
  t139 := Tryd.underlying140
  a139 := Tryd.isAgg140
  z139 := Tryd.sizeOf140
  v139 := Tryd.zeroValue140
  g3 := by kernel_rfl
  g4 := by kernel_rfl }
end Go.Proofs

/- Own work: the data of programs, and what a slice in memory reads as. -/
namespace Go.Proofs.YtlffpgjkhehdmaaDoor
open Go.RowKit

structure Ins where
  op : Int
  a : Int
  b : Int
structure Cst where
  kind : Int
  int : Int
  str : ByteArray
structure Hdl where
  lo : Int
  hi : Int
  tg : Int
  dp : Int
  sc : Int
structure Fn where
  name : ByteArray
  kind : Int
  params : Int
  locals : Int
  code : List Ins
  consts : List Cst
  hdls : List Hdl

def insCells (i : Ins) : List Value := [.int .i64 i.op, .int .i64 i.a, .int .i64 i.b]
def cstCells (c : Cst) : List Value := [.int .i64 c.kind, .int .i64 c.int, .string c.str]
def hdlCells (h : Hdl) : List Value := [.int .i64 h.lo, .int .i64 h.hi, .int .i64 h.tg, .int .i64 h.dp, .int .i64 h.sc]

/-- the slice's elements, s cells each, are the cells of the list xs: element i, cell j lies at offset i * s + j -/
def SlAt {α : Type} (w : World) (A : Option Addr) (s : Nat) (cells : α → List Value) (xs : List α) : Prop :=
  ∀ i x, xs[i]? = some x → ∃ b o, A = some ⟨b, o, none⟩ ∧ ∀ j v, (cells x)[j]? = some v → w.cell? ⟨b, o + (i * s + j), none⟩ = some v

theorem cell_gr {w w' : World} (h : Gr w w') {a : Addr} {v : Value} (hc : w.cell? a = some v) : w'.cell? a = some v := by
  rw [Below.cell h (block_lt_of_cell hc)]; exact hc
theorem SlAt.gr {α : Type} {w w' : World} {A : Option Addr} {s : Nat} {cells : α → List Value} {xs : List α} (h : SlAt w A s cells xs) (hg : Gr w w') : SlAt w' A s cells xs := by
  intro i x hx
  obtain ⟨b, o, e, hc⟩ := h i x hx
  exact ⟨b, o, e, fun j v hv => cell_gr hg (hc j v hv)⟩
theorem SlAt.nil {α : Type} {w : World} {A : Option Addr} {s : Nat} {cells : α → List Value} : SlAt w A s cells ([] : List α) := fun _ _ h => by simp at h

theorem flat_get {α : Type} {s : Nat} {cells : α → List Value} (hs : ∀ x, (cells x).length = s) : ∀ (xs : List α) (i : Nat) (x : α) (j : Nat) (v : Value), xs[i]? = some x → (cells x)[j]? = some v → (xs.flatMap cells)[i * s + j]? = some v
  | [], _, _, _, _, h, _ => by simp at h
  | y :: ys, 0, x, j, v, h, hv => by
    have : y = x := by simpa using h
    subst this
    have hj : j < (cells y).length := (List.getElem?_eq_some_iff.1 hv).1
    rw [List.flatMap_cons, Nat.zero_mul, Nat.zero_add, List.getElem?_append_left hj]; exact hv
  | y :: ys, i + 1, x, j, v, h, hv => by
    have ih := flat_get hs ys i x j v (by simpa using h) hv
    have hl := hs y
    rw [List.flatMap_cons, List.getElem?_append_right (by rw [hl, Nat.succ_mul]; omega), hl]
    rw [show (i + 1) * s + j - s = i * s + j by rw [Nat.succ_mul]; omega]; exact ih
theorem SlAt.of_cells {α : Type} {w : World} {b o s : Nat} {cells : α → List Value} {xs : List α} (hs : ∀ x, (cells x).length = s) (h : ∀ j v, (xs.flatMap cells)[j]? = some v → w.cell? ⟨b, o + j, none⟩ = some v) : SlAt w (some ⟨b, o, none⟩) s cells xs :=
  fun i x hx => ⟨b, o, rfl, fun j v hv => h _ _ (flat_get hs xs i x j v hx hv)⟩
theorem SlAt.of_block {α : Type} {w : World} {g s : Nat} {t : TypeId} {cells : α → List Value} {xs : List α} {cs : Array Value} (hs : ∀ x, (cells x).length = s) (hg : w.heap[g]? = some (.cells cs t (0, 0))) (hc : cs = (xs.flatMap cells).toArray) : SlAt w (some ⟨g, 0, none⟩) s cells xs :=
  SlAt.of_cells hs fun j v hv => by
    rw [Nat.zero_add, cell_of_row w g j cs t (0, 0) hg, hc]; simpa using hv
theorem insCells_len (x : Ins) : (insCells x).length = 3 := rfl
theorem cstCells_len (x : Cst) : (cstCells x).length = 3 := rfl
theorem hdlCells_len (x : Hdl) : (hdlCells x).length = 5 := rfl

/-- a function's three slices -/
structure FnAt (w : World) (A B C : Option Addr) (f : Fn) : Prop where
  code : SlAt w A 3 insCells f.code
  consts : SlAt w B 3 cstCells f.consts
  hdls : SlAt w C 5 hdlCells f.hdls
theorem FnAt.gr {w w' : World} {A B C : Option Addr} {f : Fn} (h : FnAt w A B C f) (hg : Gr w w') : FnAt w' A B C f := ⟨h.code.gr hg, h.consts.gr hg, h.hdls.gr hg⟩

/-- the unicode tables are laid -/
def Tabs (w : World) : Prop := Lib.Utf8Tabs (Tryd.laysValid_ren.g 3) (Tryd.laysValid_ren.g 4) w
theorem Tabs.gr {w w' : World} (h : Tabs w) (hg : Gr w w') : Tabs w' :=
  ⟨fun c hc => cell_gr hg (h.1 c hc), fun i hi => ⟨cell_gr hg (h.2 i hi).1, cell_gr hg (h.2 i hi).2⟩⟩

def validB (s : ByteArray) : Bool := Lib.validD s.data.toList
theorem valid_any (s : ByteArray) (w : World) (hs : s.size ≤ 9223372036854775807) (hT : Tabs w) :
    Calls Tryd.prog 77 #[.string s] w fun e w' => e = .returned (.bool (validB s)) ∧ Gr w w' := by
  have cV : Calls Tryd.prog 82 #[.string s] w _ := Any.utf8_ValidString Tryd.laysValid s w hs hT
  have H := Lib.hid cV
  clear cV
  go_enter Tryd.func77, Tryd.ntmps77
  go_wp2_with fail
  refine (H.out).mono ?_
  rintro e w' ⟨rfl, hb⟩
  go_wp2_with fail
  go_ret
  exact ⟨rfl, hb⟩

end Go.Proofs.YtlffpgjkhehdmaaDoor

/- Own work: knapsackref25.Repair and knapsackref27.text. -/
namespace Go.Proofs.YtlffpgjkhehdmaaDoor
open Go.RowKit
set_option linter.unusedVariables false
set_option linter.unusedSimpArgs false

theorem dec_width (s : ByteArray) (pos : Nat) (h : pos < s.size) : 1 ≤ (Utf8.decode s pos).2 := by
  by_cases ha : (s[pos]'h).toNat < 128
  · rw [decode_ascii s pos h ha]
    exact Nat.le_refl _
  · exact (decode_high s pos h (by omega)).2

theorem gr_iter (w : World) (s : ByteArray) (pos : Nat) : Gr w (w.iter s pos) := (Below.refl _ _).alloc (Nat.le_refl _) _
def RepRel (w : World) (s : ByteArray) (v : Value) (wr : World) : Prop := ∃ (pos : Nat) (acc : ByteArray), wr = w.iter s pos ∧ v = .string acc ∧ acc.data.toList ++ repairL (s.data.toList.drop pos) = repairL s.data.toList ∧ acc.size ≤ 4 * pos

set_option maxHeartbeats 1000000 in
set_option maxRecDepth 100000 in
theorem repair_any (s : ByteArray) (w : World) (hs : s.size ≤ 2000000) :
    Calls Tryd.prog 80 #[.string s] w fun e w' => e = .returned (.string (repairS s)) ∧ Gr w w' := by
  go_enter Tryd.func80, Tryd.ntmps80
  go_wp2
  go_loopw [3] (RepRel w s) (fun _ w' => s.size - w'.iterPos w.heap.size)
  case atStart => exact ⟨0, ByteArray.empty, rfl, rfl, rfl, by decide⟩
  case round =>
    obtain ⟨pos, acc, rfl, rfl, hacc, hsz⟩ := hrel
    have HA := Lib.hid hacc
    clear hacc
    by_cases hp : pos < s.size
    · have hwd := dec_width s pos hp
      have hnx : ∀ ty, (Instr.next (.pointer (some ⟨w.heap.size, 0, none⟩)) true ty).run Tryd.prog (w.iter s pos) = .ok (.tuple #[.bool true, .int .i64 pos, .int .i32 ((Utf8.decode s pos).1 : Nat)]) (w.iter s (pos + (Utf8.decode s pos).2)) := fun ty => run_next_any w s pos ty hp
      generalize hd : Utf8.decode s pos = d at hnx hwd
      obtain ⟨r, wd⟩ := d
      simp only at hnx hwd
      have HD := Lib.hid hd
      clear hd
      have he4 := encode_size_le (r : Int)
      have hadd : ∀ W : World, (Op.stringOp .add acc (Utf8.encode (r : Int))).run Tryd.prog W = .ok (.string (acc ++ Utf8.encode (r : Int))) W := fun W => run_string_add_sum W _ _ (by omega)
      clear hs
      go_wp2_with fail
      go_roundw
      case rel =>
        refine ⟨pos + wd, acc ++ Utf8.encode (r : Int), rfl, rfl, ?_, ?_⟩
        · exact rep_step s pos r wd acc _ hp HD.out HA.out
        · rw [ByteArray.size_append]; omega
      case measure => simp; omega
    · have hnx : ∀ ty, (Instr.next (.pointer (some ⟨w.heap.size, 0, none⟩)) true ty).run Tryd.prog (w.iter s pos) = _ := fun ty => run_next_end w s pos ty hp
      go_wp2
      go_ret
      have hd : s.data.toList.drop pos = [] := List.drop_eq_nil_of_le (by have : s.data.size = s.size := rfl; simp; omega)
      have h1 := HA.out
      rw [hd] at h1
      have h2 : acc = repairS s := by
        apply ByteArray.ext
        apply Array.toList_inj.1
        rw [show repairL [] = [] from rfl, List.append_nil] at h1
        rw [h1]; rfl
      subst h2
      exact ⟨rfl, gr_iter w s pos⟩

/-- a text, not too long -/
def textB (s : ByteArray) (n : Int) : Bool := decide ((s.size : Int) ≤ n) && validB s
theorem toList_beq (a b : ByteArray) : (a.toList == b.toList) = (a.data.toList == b.data.toList) := by
  rw [ByteArray.toList_eq, ByteArray.toList_eq]
theorem repairS_beq (s : ByteArray) : ((repairS s).toList == s.toList) = validB s := by
  rw [toList_beq]
  exact repairL_beq s.data.toList

set_option maxHeartbeats 1000000 in
theorem text_any (s : ByteArray) (n : Int) (w : World) (hs : s.size ≤ 9223372036854775807) (hn : n ≤ 2000000) :
    Calls Tryd.prog 58 #[.string s, .int .i64 n] w fun e w' => e = .returned (.bool (textB s n)) ∧ Gr w w' := by
  by_cases h : (s.size : Int) ≤ n
  · have hd : decide ((s.size : Int) ≤ n) = true := by simpa using h
    have hfin : textB s n = ((repairS s).toList == s.toList) := by simp [textB, hd, repairS_beq]
    rw [hfin]
    clear hfin
    go_enter Tryd.func58, Tryd.ntmps58
    go_wp2_with fail
    refine (repair_any s _ (by omega)).mono ?_
    rintro e w1 ⟨rfl, hg⟩
    go_wp2_with fail
    go_ret
    exact ⟨rfl, hg⟩
  · have hd : decide ((s.size : Int) ≤ n) = false := by simpa using h
    have hfin : textB s n = false := by simp [textB, hd]
    rw [hfin]
    go_enter Tryd.func58, Tryd.ntmps58
    go_wp2_with fail
    go_ret
    exact ⟨rfl, Gr.refl _⟩
end Go.Proofs.YtlffpgjkhehdmaaDoor
