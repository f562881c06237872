/- The shelf's contract of utf8.ValidString at this dump, in plain words (the kit's lay-plain tool wrote it; the numbers are filled in by name). -/
import Derived.Ground.NamesProg
import Derived.Shelf.Unicode.ValidAny
import Derived.Test.YtjefbgfohijaoaaGreatDoorProg
import Derived.Test.YtjefbgfohijaoaaGreatDoorWGD
import Derived.Lib.Hide
namespace Go.Proofs
open Go.Shelf
def Tryz.laysValid_ren : Go.Shelf.Ren := ⟨fun | 196 => 61 | 259 => 81 | n => n, fun | 9 => 9 | 4 => 4 | 3 => 3 | 5 => 5 | 12 => 12 | 119 => 117 | 0 => 0 | 46 => 86 | 139 => 120 | 138 => 119 | 53 => 98 | n => n, fun | 3 => 0 | 4 => 1 | n => n⟩
theorem Tryz.laysValid : Go.Proofs.Lays.n196 Tryz.prog Tryz.laysValid_ren := {
 mixed := by kernel_rfl
 f196 := Tryz.func61.trans (congrArg some (by kernel_rfl))
 f259 := Tryz.func81.trans (congrArg some (by kernel_rfl))
 t0 := Tryz.underlying0
 a0 := Tryz.isAgg0
 z0 := Tryz.sizeOf0
 v0 := Tryz.zeroValue0
 t3 := Tryz.underlying3
 a3 := Tryz.isAgg3
 z3 := Tryz.sizeOf3
 v3 := Tryz.zeroValue3
 t4 := Tryz.underlying4
 a4 := Tryz.isAgg4
 z4 := Tryz.sizeOf4
 v4 := Tryz.zeroValue4
 t5 := Tryz.underlying5
 a5 := Tryz.isAgg5
 z5 := Tryz.sizeOf5
 v5 := Tryz.zeroValue5
 t9 := Tryz.underlying9
 a9 := Tryz.isAgg9
 z9 := Tryz.sizeOf9
 v9 := Tryz.zeroValue9
 t12 := Tryz.underlying12
 a12 := Tryz.isAgg12
 z12 := Tryz.sizeOf12
 v12 := Tryz.zeroValue12
 t46 := Tryz.underlying86
 a46 := Tryz.isAgg86
 z46 := Tryz.sizeOf86
 v46 := Tryz.zeroValue86
 t53 := Tryz.underlying98
 a53 := Tryz.isAgg98
 z53 := Tryz.sizeOf98
 v53 := Tryz.zeroValue98
 t119 := Tryz.underlying117
 a119 := Tryz.isAgg117
 z119 := Tryz.sizeOf117
 t138 := Tryz.underlying119
 a138 := Tryz.isAgg119
 z138 := Tryz.sizeOf119
 v138 := Tryz.zeroValue119
 t139 := Tryz.underlying120
 a139 := Tryz.isAgg120
 z139 := Tryz.sizeOf120
 v139 := Tryz.zeroValue120
 g3 := by kernel_rfl
 g4 := by kernel_rfl }
end Go.Proofs

/- Own work: the data of programs, and what a slice in memory reads as. -/
namespace Go.Proofs.YtjefbgfohijaoaaGreatDoor
open Go.RowKit
structure Ins where
 op : Int
 a : Int
 b : Int
structure Cst where
 kind : Int
 int : Int
 str : ByteArray
structure Hdl where
 lo : Int
 hi : Int
 tg : Int
 dp : Int
 sc : Int
structure Fn where
 name : ByteArray
 kind : Int
 params : Int
 locals : Int
 code : List Ins
 consts : List Cst
 hdls : List Hdl
def insCells (i : Ins) : List Value := [.int .i64 i.op, .int .i64 i.a, .int .i64 i.b]
def cstCells (c : Cst) : List Value := [.int .i64 c.kind, .int .i64 c.int, .string c.str]
def hdlCells (h : Hdl) : List Value := [.int .i64 h.lo, .int .i64 h.hi, .int .i64 h.tg, .int .i64 h.dp, .int .i64 h.sc]
def SlAt {α : Type} (w : World) (A : Option Addr) (s : Nat) (cells : α -> List Value) (xs : List α) : Prop :=
 ∀ i x, xs[i]? = some x -> ∃ b o, A = some ⟨b, o, none⟩ /\ ∀ j v, (cells x)[j]? = some v -> w.cell? ⟨b, o + (i * s + j), none⟩ = some v
theorem cell_gr {w w' : World} (h : Gr w w') {a : Addr} {v : Value} (hc : w.cell? a = some v) : w'.cell? a = some v := by
 rw [Below.cell h (block_lt_of_cell hc)]; exact hc
theorem SlAt.gr {α : Type} {w w' : World} {A : Option Addr} {s : Nat} {cells : α -> List Value} {xs : List α} (h : SlAt w A s cells xs) (hg : Gr w w') : SlAt w' A s cells xs := by
 intro i x hx
 obtain ⟨b, o, e, hc⟩ := h i x hx
 exact ⟨b, o, e, fun j v hv => cell_gr hg (hc j v hv)⟩
theorem SlAt.nil {α : Type} {w : World} {A : Option Addr} {s : Nat} {cells : α -> List Value} : SlAt w A s cells ([] : List α) := fun _ _ h => by simp at h
theorem flat_get {α : Type} {s : Nat} {cells : α -> List Value} (hs : ∀ x, (cells x).length = s) : ∀ (xs : List α) (i : Nat) (x : α) (j : Nat) (v : Value), xs[i]? = some x -> (cells x)[j]? = some v -> (xs.flatMap cells)[i * s + j]? = some v
 | [], _, _, _, _, h, _ => by simp at h
 | y :: ys, 0, x, j, v, h, hv => by
  have : y = x := by simpa using h
  subst this
  have hj : j < (cells y).length := (List.getElem?_eq_some_iff.1 hv).1
  rw [List.flatMap_cons, Nat.zero_mul, Nat.zero_add, List.getElem?_append_left hj]; exact hv
 | y :: ys, i + 1, x, j, v, h, hv => by
  have ih := flat_get hs ys i x j v (by simpa using h) hv
  have hl := hs y
  rw [List.flatMap_cons, List.getElem?_append_right (by rw [hl, Nat.succ_mul]; omega), hl]
  rw [show (i + 1) * s + j - s = i * s + j by rw [Nat.succ_mul]; omega]; exact ih
theorem SlAt.of_cells {α : Type} {w : World} {b o s : Nat} {cells : α -> List Value} {xs : List α} (hs : ∀ x, (cells x).length = s) (h : ∀ j v, (xs.flatMap cells)[j]? = some v -> w.cell? ⟨b, o + j, none⟩ = some v) : SlAt w (some ⟨b, o, none⟩) s cells xs :=
 fun i x hx => ⟨b, o, rfl, fun j v hv => h _ _ (flat_get hs xs i x j v hx hv)⟩
theorem SlAt.of_block {α : Type} {w : World} {g s : Nat} {t : TypeId} {cells : α -> List Value} {xs : List α} {cs : Array Value} (hs : ∀ x, (cells x).length = s) (hg : w.heap[g]? = some (.cells cs t (0, 0))) (hc : cs = (xs.flatMap cells).toArray) : SlAt w (some ⟨g, 0, none⟩) s cells xs :=
 SlAt.of_cells hs fun j v hv => by
  rw [Nat.zero_add, cell_of_row w g j cs t (0, 0) hg, hc]; simpa using hv
theorem insCells_len (x : Ins) : (insCells x).length = 3 := rfl
theorem cstCells_len (x : Cst) : (cstCells x).length = 3 := rfl
theorem hdlCells_len (x : Hdl) : (hdlCells x).length = 5 := rfl
structure FnAt (w : World) (A B C : Option Addr) (f : Fn) : Prop where
 code : SlAt w A 3 insCells f.code
 consts : SlAt w B 3 cstCells f.consts
 hdls : SlAt w C 5 hdlCells f.hdls
theorem FnAt.gr {w w' : World} {A B C : Option Addr} {f : Fn} (h : FnAt w A B C f) (hg : Gr w w') : FnAt w' A B C f := ⟨h.code.gr hg, h.consts.gr hg, h.hdls.gr hg⟩
def Tabs (w : World) : Prop := Lib.Utf8Tabs (Tryz.laysValid_ren.g 3) (Tryz.laysValid_ren.g 4) w
theorem Tabs.gr {w w' : World} (h : Tabs w) (hg : Gr w w') : Tabs w' :=
 ⟨fun c hc => cell_gr hg (h.1 c hc), fun i hi => ⟨cell_gr hg (h.2 i hi).1, cell_gr hg (h.2 i hi).2⟩⟩
def validB (s : ByteArray) : Bool := Lib.validD s.data.toList
theorem valid_any (s : ByteArray) (w : World) (hs : s.size <= 9223372036854775807) (hT : Tabs w) :
  Calls Tryz.prog 54 #[.string s] w fun e w' => e = .returned (.bool (validB s)) /\ Gr w w' := by
 have cV : Calls Tryz.prog 61 #[.string s] w _ := Any.utf8_ValidString Tryz.laysValid s w hs hT
 have H := Lib.hid cV
 clear cV
 go_enter Tryz.func54, Tryz.ntmps54
 go_wp2_with fail
 refine (H.out).mono ?_
 rintro e w' ⟨rfl, hb⟩
 go_wp2_with fail
 go_ret
 exact ⟨rfl, hb⟩
end Go.Proofs.YtjefbgfohijaoaaGreatDoor
