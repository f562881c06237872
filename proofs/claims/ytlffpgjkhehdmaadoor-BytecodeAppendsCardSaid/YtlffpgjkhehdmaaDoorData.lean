/- Own work: the data of programs, and what a slice in memory reads as. -/
import Derived.Test.YtlffpgjkhehdmaaDoorPlug
import Derived.Test.YtlffpgjkhehdmaaDoorShelf
import Derived.Test.YtlffpgjkhehdmaaDoorLeaf
import Derived.Lib.Hide
namespace Go.Proofs.YtlffpgjkhehdmaaDoor
open Go.RowKit

structure Ins where
  op : Int
  a : Int
  b : Int
structure Cst where
  kind : Int
  int : Int
  str : ByteArray
structure Hdl where
  lo : Int
  hi : Int
  tg : Int
  dp : Int
  sc : Int
structure Fn where
  name : ByteArray
  kind : Int
  params : Int
  locals : Int
  code : List Ins
  consts : List Cst
  hdls : List Hdl

def insCells (i : Ins) : List Value := [.int .i64 i.op, .int .i64 i.a, .int .i64 i.b]
def cstCells (c : Cst) : List Value := [.int .i64 c.kind, .int .i64 c.int, .string c.str]
def hdlCells (h : Hdl) : List Value := [.int .i64 h.lo, .int .i64 h.hi, .int .i64 h.tg, .int .i64 h.dp, .int .i64 h.sc]

/-- the slice's elements, s cells each, are the cells of the list xs: element i, cell j lies at offset i * s + j -/
def SlAt {α : Type} (w : World) (A : Option Addr) (s : Nat) (cells : α → List Value) (xs : List α) : Prop :=
  ∀ i x, xs[i]? = some x → ∃ b o, A = some ⟨b, o, none⟩ ∧ ∀ j v, (cells x)[j]? = some v → w.cell? ⟨b, o + (i * s + j), none⟩ = some v

theorem cell_gr {w w' : World} (h : Gr w w') {a : Addr} {v : Value} (hc : w.cell? a = some v) : w'.cell? a = some v := by
  rw [Below.cell h (block_lt_of_cell hc)]; exact hc
theorem SlAt.gr {α : Type} {w w' : World} {A : Option Addr} {s : Nat} {cells : α → List Value} {xs : List α} (h : SlAt w A s cells xs) (hg : Gr w w') : SlAt w' A s cells xs := by
  intro i x hx
  obtain ⟨b, o, e, hc⟩ := h i x hx
  exact ⟨b, o, e, fun j v hv => cell_gr hg (hc j v hv)⟩
theorem SlAt.nil {α : Type} {w : World} {A : Option Addr} {s : Nat} {cells : α → List Value} : SlAt w A s cells ([] : List α) := fun _ _ h => by simp at h

theorem flat_get {α : Type} {s : Nat} {cells : α → List Value} (hs : ∀ x, (cells x).length = s) : ∀ (xs : List α) (i : Nat) (x : α) (j : Nat) (v : Value), xs[i]? = some x → (cells x)[j]? = some v → (xs.flatMap cells)[i * s + j]? = some v
  | [], _, _, _, _, h, _ => by simp at h
  | y :: ys, 0, x, j, v, h, hv => by
    have : y = x := by simpa using h
    subst this
    have hj : j < (cells y).length := (List.getElem?_eq_some_iff.1 hv).1
    rw [List.flatMap_cons, Nat.zero_mul, Nat.zero_add, List.getElem?_append_left hj]; exact hv
  | y :: ys, i + 1, x, j, v, h, hv => by
    have ih := flat_get hs ys i x j v (by simpa using h) hv
    have hl := hs y
    rw [List.flatMap_cons, List.getElem?_append_right (by rw [hl, Nat.succ_mul]; omega), hl]
    rw [show (i + 1) * s + j - s = i * s + j by rw [Nat.succ_mul]; omega]; exact ih
theorem SlAt.of_cells {α : Type} {w : World} {b o s : Nat} {cells : α → List Value} {xs : List α} (hs : ∀ x, (cells x).length = s) (h : ∀ j v, (xs.flatMap cells)[j]? = some v → w.cell? ⟨b, o + j, none⟩ = some v) : SlAt w (some ⟨b, o, none⟩) s cells xs :=
  fun i x hx => ⟨b, o, rfl, fun j v hv => h _ _ (flat_get hs xs i x j v hx hv)⟩
theorem SlAt.of_block {α : Type} {w : World} {g s : Nat} {t : TypeId} {cells : α → List Value} {xs : List α} {cs : Array Value} (hs : ∀ x, (cells x).length = s) (hg : w.heap[g]? = some (.cells cs t (0, 0))) (hc : cs = (xs.flatMap cells).toArray) : SlAt w (some ⟨g, 0, none⟩) s cells xs :=
  SlAt.of_cells hs fun j v hv => by
    rw [Nat.zero_add, cell_of_row w g j cs t (0, 0) hg, hc]; simpa using hv
theorem insCells_len (x : Ins) : (insCells x).length = 3 := rfl
theorem cstCells_len (x : Cst) : (cstCells x).length = 3 := rfl
theorem hdlCells_len (x : Hdl) : (hdlCells x).length = 5 := rfl

/-- a function's three slices -/
structure FnAt (w : World) (A B C : Option Addr) (f : Fn) : Prop where
  code : SlAt w A 3 insCells f.code
  consts : SlAt w B 3 cstCells f.consts
  hdls : SlAt w C 5 hdlCells f.hdls
theorem FnAt.gr {w w' : World} {A B C : Option Addr} {f : Fn} (h : FnAt w A B C f) (hg : Gr w w') : FnAt w' A B C f := ⟨h.code.gr hg, h.consts.gr hg, h.hdls.gr hg⟩

/-- the unicode tables are laid -/
def Tabs (w : World) : Prop := Lib.Utf8Tabs (Tryd.laysValid_ren.g 3) (Tryd.laysValid_ren.g 4) w
theorem Tabs.gr {w w' : World} (h : Tabs w) (hg : Gr w w') : Tabs w' :=
  ⟨fun c hc => cell_gr hg (h.1 c hc), fun i hi => ⟨cell_gr hg (h.2 i hi).1, cell_gr hg (h.2 i hi).2⟩⟩

def validB (s : ByteArray) : Bool := Lib.validD s.data.toList
theorem valid_any (s : ByteArray) (w : World) (hs : s.size ≤ 9223372036854775807) (hT : Tabs w) :
    Calls Tryd.prog 77 #[.string s] w fun e w' => e = .returned (.bool (validB s)) ∧ Gr w w' := by
  have cV : Calls Tryd.prog 82 #[.string s] w _ := Any.utf8_ValidString Tryd.laysValid s w hs hT
  have H := Lib.hid cV
  clear cV
  go_enter Tryd.func77, Tryd.ntmps77
  go_wp2_with fail
  refine (H.out).mono ?_
  rintro e w' ⟨rfl, hb⟩
  go_wp2_with fail
  go_ret
  exact ⟨rfl, hb⟩

end Go.Proofs.YtlffpgjkhehdmaaDoor
