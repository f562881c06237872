/- Own work: a block that is known whole in a world that is a letter, written into the world's own term, so that loads and stores are reckoned on the literal. -/
import Derived.Below
import Derived.Laws.Rows
import Derived.WalkKit
import Derived.Test.YtjefbgfohijaoaaGreatDoorWGA
import Derived.Test.YtjefbgfohijaoaaGreatDoorProg
import Derived.WalkLawsBesides
import Derived.WalkSpells
import Derived.Outline
import Derived.Lib.Hide
import Derived.Deep.RegionWith
import Derived.Deep.RegionHeld3
import Derived.Deep.DrawnRows
namespace Go.Proofs.YtjefbgfohijaoaaGreatDoor
open Go.RowKit
def plug (w : World) (g : Nat) (o : Obj) : World := { w with heap := w.heap.setIfInBounds g o }
theorem lt_of_block {w : World} {g : Nat} {o : Obj} (h : w.heap[g]? = some o) : g < w.heap.size := by
 rcases Nat.lt_or_ge g w.heap.size with h' | h'
 ·exact h'
 ·rw [Array.getElem?_eq_none h'] at h; cases h
theorem plug_self {w : World} {g : Nat} {o : Obj} (h : w.heap[g]? = some o) : plug w g o = w := by
 have : w.heap.setIfInBounds g o = w.heap := by
  apply Array.ext_getElem?
  intro i
  by_cases hi : g = i
  ·subst hi; rw [Array.getElem?_setIfInBounds_self_of_lt (lt_of_block h), h]
  ·rw [Array.getElem?_setIfInBounds_ne hi]
 unfold plug; rw [this]
theorem heap_plug_same (w : World) (g : Nat) (o : Obj) (h : g < w.heap.size) : (plug w g o).heap[g]? = some o := by
 unfold plug; exact Array.getElem?_setIfInBounds_self_of_lt h
theorem heap_plug_other (w : World) (g b : Nat) (o : Obj) (h : b ≠ g) : (plug w g o).heap[b]? = w.heap[b]? := by
 unfold plug; exact Array.getElem?_setIfInBounds_ne (Ne.symm h)
theorem size_plug (w : World) (g : Nat) (o : Obj) : (plug w g o).heap.size = w.heap.size := by simp [plug]
theorem drew_plug (w : World) (g : Nat) (o : Obj) : (plug w g o).drew = plug w.drew g o := rfl
theorem cell_plug_same (w : World) (g i : Nat) (cs : Array Value) (t : TypeId) (h : g < w.heap.size) : (plug w g (.cells cs t)).cell? ⟨g, i, none⟩ = cs[i]? :=
 cell_of_row _ g i cs t (0, 0) (heap_plug_same w g _ h)
theorem cell_plug_other (w : World) (g b i : Nat) (o : Obj) (h : ¬ b = g) : (plug w g o).cell? ⟨b, i, none⟩ = w.cell? ⟨b, i, none⟩ :=
 World.cell?_of_block (heap_plug_other w g b o h)
theorem frozen_plug_same (w : World) (g i : Nat) (cs : Array Value) (t : TypeId) (h : g < w.heap.size) : (plug w g (.cells cs t)).frozen? ⟨g, i, none⟩ = false :=
 frozen_of_row _ g i cs t (heap_plug_same w g _ h)
theorem frozen_plug_other (w : World) (g b i : Nat) (o : Obj) (h : ¬ b = g) : (plug w g o).frozen? ⟨b, i, none⟩ = w.frozen? ⟨b, i, none⟩ := by
 have := heap_plug_other w g b o h
 simp only [World.frozen?, this]
theorem setCell_plug_same (w : World) (g i : Nat) (cs : Array Value) (t : TypeId) (v : Value) (h : g < w.heap.size) : (plug w g (.cells cs t)).setCell ⟨g, i, none⟩ v = plug w g (.cells (cs.setIfInBounds i v) t) := by
 simp only [World.setCell, plug]
 congr 1
 apply Array.ext_getElem?
 intro j
 by_cases hj : g = j
 ·subst hj
  rw [Array.getElem?_modify]
  rw [if_pos rfl, Array.getElem?_setIfInBounds_self_of_lt h, Array.getElem?_setIfInBounds_self_of_lt h]
  rfl
 ·rw [Array.getElem?_modify, if_neg hj, Array.getElem?_setIfInBounds_ne hj, Array.getElem?_setIfInBounds_ne hj]
theorem setCell_plug_other (w : World) (g b i : Nat) (o : Obj) (v : Value) (h : ¬ b = g) : (plug w g o).setCell ⟨b, i, none⟩ v = plug (w.setCell ⟨b, i, none⟩ v) g o := by
 simp only [World.setCell, plug]
 congr 1
 apply Array.ext_getElem?
 intro j
 by_cases hj : g = j
 ·subst hj
  rw [Array.getElem?_modify, if_neg h]
  by_cases hg : g < w.heap.size
  ·rw [Array.getElem?_setIfInBounds_self_of_lt hg, Array.getElem?_setIfInBounds_self_of_lt (by simpa using hg)]
  ·rw [Array.getElem?_eq_none (by simp; omega), Array.getElem?_eq_none (by simp; omega)]
 ·rw [Array.getElem?_modify, Array.getElem?_setIfInBounds_ne hj, Array.getElem?_setIfInBounds_ne hj, Array.getElem?_modify]
attribute [go_sem] size_plug drew_plug cell_plug_same cell_plug_other frozen_plug_same frozen_plug_other setCell_plug_same setCell_plug_other
theorem below_plug {B : Nat} {w w1 : World} (h : Below B w w1) {g : Nat} (hg : B <= g) (o : Obj) : Below B w (plug w1 g o) :=
 ⟨h.os, h.tape, h.output, by rw [size_plug]; exact h.size, fun k hk => by rw [heap_plug_other _ _ _ _ (by omega)]; exact h.block k hk⟩
theorem plug1 {w1 : World} {g1 : Nat} {o1 : Obj} (h1 : w1.heap[g1]? = some o1) : ∃ W, w1 = plug W g1 o1 /\ g1 < W.heap.size /\ Gr w1 W :=
 ⟨w1, (plug_self h1).symm, lt_of_block h1, Gr.refl _⟩
theorem plug2 {w1 : World} {g1 g2 : Nat} {o1 o2 : Obj} (h1 : w1.heap[g1]? = some o1) (h2 : w1.heap[g2]? = some o2) : ∃ W, w1 = plug (plug W g1 o1) g2 o2 /\ g1 < W.heap.size /\ g2 < W.heap.size /\ Gr w1 W :=
 ⟨w1, by rw [plug_self h1]; exact (plug_self h2).symm, lt_of_block h1, lt_of_block h2, Gr.refl _⟩
theorem heap_gr {w w' : World} (h : Gr w w') {g : Nat} {o : Obj} (hg : w.heap[g]? = some o) : w'.heap[g]? = some o := by
 rw [h.block g (lt_of_block hg)]; exact hg
theorem gr_alloc (w : World) (o : Obj) : Gr w (w.alloc o) := (Below.refl _ _).alloc (Nat.le_refl _) _
theorem gr_alloc2 (w : World) (o o' : Obj) : Gr w ((w.alloc o).alloc o') := (gr_alloc w o).trans (gr_alloc _ o')
theorem gr_alloc3 (w : World) (o o' o'' : Obj) : Gr w (((w.alloc o).alloc o').alloc o'') := (gr_alloc2 w o o').trans (gr_alloc _ o'')
theorem gr_plug {w w1 : World} (h : Gr w w1) {g : Nat} (hg : w.heap.size <= g) (o : Obj) : Gr w (plug w1 g o) := below_plug h hg o
theorem gr_then_alloc {w w1 : World} (h : Gr w w1) (o : Obj) : Gr w (w1.alloc o) := h.trans (gr_alloc _ _)
end Go.Proofs.YtjefbgfohijaoaaGreatDoor

/- DERIVED, own work: walks of the leaf functions of package bytecode and its reference. -/
namespace Go.Proofs.YtjefbgfohijaoaaGreatDoor
open Go.RowKit
theorem ret_int {k : IntKind} {a b : Int} (h : a = b) : Ending.returned (.int k a) = .returned (.int k b) := by rw [h]
theorem ret_bool {a b : Bool} (h : a = b) : Ending.returned (.bool a) = .returned (.bool b) := by rw [h]
def betw (n a b : Int) : Bool := decide (a <= n) && decide (n <= b)
theorem between_any (n a b : Int) (w : World) :
  Calls Tryz.prog 55 #[.int .i64 n, .int .i64 a, .int .i64 b] w fun e w' => e = .returned (.bool (betw n a b)) /\ w = w' := by
 unfold betw
 by_cases h1 : a <= n
 ·go_enter Tryz.func55, Tryz.ntmps55
  go_wp2
  go_ret
  exact ⟨ret_bool (by simp [h1]), rfl⟩
 ·go_enter Tryz.func55, Tryz.ntmps55
  go_wp2
  go_ret
  exact ⟨ret_bool (by simp; omega), rfl⟩
theorem rbetween_any (n a b : Int) (w : World) :
  Calls Tryz.prog 36 #[.int .i64 n, .int .i64 a, .int .i64 b] w fun e w' => e = .returned (.bool (betw n a b)) /\ w = w' := by
 unfold betw
 by_cases h1 : a <= n
 ·go_enter Tryz.func36, Tryz.ntmps36
  go_wp2
  go_ret
  exact ⟨ret_bool (by simp [h1]), rfl⟩
 ·go_enter Tryz.func36, Tryz.ntmps36
  go_wp2
  go_ret
  exact ⟨ret_bool (by simp; omega), rfl⟩
def operandOf (op : Int) : Int :=
 if op = 1 then 1
 else if op = 22 \/ op = 23 \/ op = 24 \/ op = 25 \/ op = 26 \/ op = 27 \/ op = 28 \/ op = 34 then 2
 else if op = 12 \/ op = 13 \/ op = 14 \/ op = 15 then 3
 else if op = 16 \/ op = 17 \/ op = 18 then 4
 else if op = 37 then 5
 else if op = 19 \/ op = 46 \/ op = 47 then 6
 else if op = 40 \/ op = 41 \/ op = 42 \/ op = 43 \/ op = 44 \/ op = 45 \/ op = 51 then 7
 else if op = 38 then 8
 else if op = 39 then 9
 else 0
theorem operand_any (op : Int) (w : World) :
  Calls Tryz.prog 39 #[.int .i64 op] w fun e w' => e = .returned (.int .i64 (operandOf op)) /\ w = w' := by
 go_enter Tryz.func39, Tryz.ntmps39
 go_wp2
 all_goals (go_ret; refine ⟨ret_int ?_, rfl⟩; simp_all [operandOf])
def popsOf (op : Int) : Int :=
 if op = 7 \/ op = 13 \/ op = 14 \/ op = 17 \/ op = 18 \/ op = 23 \/ op = 24 \/ op = 41 \/ op = 42 \/ op = 43 \/ op = 44 \/ op = 45 \/ op = 48 \/ op = 49 \/ op = 8 then 1
 else if op = 9 \/ op = 10 then 2
 else if op = 11 then 3
 else if op = 26 \/ op = 28 \/ op = 38 \/ op = 47 \/ op = 50 \/ op = 52 \/ op = 53 then 1
 else if op = 27 \/ op = 29 \/ op = 31 \/ op = 34 \/ op = 36 \/ op = 39 \/ op = 46 then 2
 else if op = 30 \/ op = 35 then 3
 else 0
def pushesOf (op : Int) : Int :=
 if op = 1 \/ op = 2 \/ op = 3 \/ op = 4 \/ op = 5 \/ op = 6 \/ op = 12 \/ op = 16 \/ op = 22 \/ op = 25 \/ op = 32 \/ op = 33 \/ op = 37 \/ op = 51 then 1
 else if op = 8 then 2
 else if op = 9 then 4
 else if op = 10 then 2
 else if op = 11 then 3
 else if op = 26 \/ op = 28 \/ op = 38 \/ op = 47 \/ op = 50 \/ op = 52 \/ op = 53 then 1
 else if op = 27 \/ op = 29 \/ op = 31 \/ op = 34 \/ op = 36 \/ op = 39 \/ op = 46 then 1
 else if op = 30 \/ op = 35 then 1
 else 0
theorem effect_any (op : Int) (w : World) :
  Calls Tryz.prog 40 #[.int .i64 op] w fun e w' => e = .returned (.tuple #[.int .i64 (popsOf op), .int .i64 (pushesOf op)]) /\ w = w' := by
 go_enter Tryz.func40, Tryz.ntmps40
 go_wp2
 all_goals (go_ret2; refine ⟨?_, rfl⟩; simp_all [popsOf, pushesOf])
end Go.Proofs.YtjefbgfohijaoaaGreatDoor

/- DERIVED, own work: bytecode.names and bytecode.Describe. -/
namespace Go.Proofs.YtjefbgfohijaoaaGreatDoor
open Go.RowKit
attribute [local go_sem ↓] Go.wp_at_zero Go.wp_at_succ
def nameBytes : List (List UInt8) := [[], [76, 111, 97, 100], [85, 110, 100, 101, 102], [78, 117, 108, 108], [84, 114, 117, 101], [70, 97, 108, 115, 101], [84, 104, 105, 115], [80, 111, 112], [68, 117, 112], [80, 97, 105, 114], [83, 119, 97, 112], [84, 117, 114, 110], [76, 111, 99, 97, 108], [83, 101, 116, 76, 111, 99, 97, 108], [73, 110, 105, 116, 76, 111, 99, 97, 108], [67, 108, 101, 97, 114, 76, 111, 99, 97, 108], [69, 110, 118, 71, 101, 116], [69, 110, 118, 83, 101, 116], [69, 110, 118, 73, 110, 105, 116], [80, 117, 115, 104, 69, 110, 118], [80, 111, 112, 69, 110, 118], [67, 111, 112, 121, 69, 110, 118], [71, 108, 111, 98, 97, 108], [83, 101, 116, 71, 108, 111, 98, 97, 108], [68, 101, 102, 71, 108, 111, 98, 97, 108], [84, 121, 112, 101, 71, 108, 111, 98, 97, 108], [71, 101, 116, 80, 114, 111, 112], [83, 101, 116, 80, 114, 111, 112], [68, 101, 108, 80, 114, 111, 112], [71, 101, 116, 73, 110, 100, 101, 120], [83, 101, 116, 73, 110, 100, 101, 120], [68, 101, 108, 73, 110, 100, 101, 120], [78, 101, 119, 79, 98, 106, 101, 99, 116], [78, 101, 119, 65, 114, 114, 97, 121], [70, 105, 101, 108, 100], [70, 105, 101, 108, 100, 65, 116], [80, 117, 115, 104], [67, 108, 111, 115, 117, 114, 101], [85, 110, 97, 114, 121], [66, 105, 110, 97, 114, 121], [74, 117, 109, 112], [73, 102, 70, 97, 108, 115, 101], [73, 102, 84, 114, 117, 101], [65, 110, 100, 74, 117, 109, 112], [79, 114, 74, 117, 109, 112], [78, 117, 108, 108, 74, 117, 109, 112], [67, 97, 108, 108], [78, 101, 119], [82, 101, 116, 117, 114, 110], [84, 104, 114, 111, 119], [73, 116, 101, 114], [78, 101, 120, 116], [89, 105, 101, 108, 100], [65, 119, 97, 105, 116]]
def nameOf (op : Int) : ByteArray := ⟨(nameBytes.getD op.toNat []).toArray⟩
def nameCells : Array Value := (nameBytes.map fun l => Value.string ⟨l.toArray⟩).toArray
theorem nameCells_at (op : Int) (h0 : 0 <= op) (h1 : op <= 53) : nameCells[op.toNat]? = some (.string (nameOf op)) := by
 obtain ⟨n, rfl⟩ := Int.eq_ofNat_of_zero_le h0
 have hn : n < nameBytes.length := by have : nameBytes.length = 54 := by rfl
                                      omega
 simp only [Int.toNat_natCast, nameCells, nameOf, List.getElem?_toArray, List.getElem?_map, List.getD_eq_getElem?_getD, List.getElem?_eq_getElem hn, Option.map_some, Option.getD_some]
theorem names_any (w : World) :
  Calls Tryz.prog 38 #[] w fun e w' => e = .returned (.slice (some ⟨w.heap.size, 0, none⟩) 54 54) /\ w' = w.alloc (.cells nameCells 9) := by
 go_enter Tryz.func38, Tryz.ntmps38
 go_wp2
 go_ret
 refine ⟨rfl,?_⟩
 rfl
end Go.Proofs.YtjefbgfohijaoaaGreatDoor

/- Own work: bytecode.Describe. -/
namespace Go.Proofs.YtjefbgfohijaoaaGreatDoor
open Go.RowKit
def descV (op : Int) (B : Nat) (i : Nat) (v : Value) (w : World) : Prop := match i with
 | 0 => ∃ g, v = .slice (some ⟨g, 0, none⟩) 54 54 /\ w.heap[g]? = some (.cells nameCells 9 (0, 0))
 | 1 => v = .int .i64 op
 | 2 => ∃ g, v = .pointer (some ⟨g, op.toNat, none⟩) /\ w.heap[g]? = some (.cells nameCells 9 (0, 0))
 | 3 => v = .string (nameOf op)
 | 4 => v = .int .i64 op
 | 5 => v = .int .i64 (operandOf op)
 | 6 => v = .int .i64 op
 | 7 => v = .bool (op == 46)
 | 8 => v = .bool (op == 46)
 | 9 => (op == 46) = false -> v = .int .i64 op
 | 10 => (op == 46) = false -> v = .bool (op == 47)
 | 11 => v = .bool (op == 46 || op == 47)
 | 12 => v = .int .i64 op
 | 13 => v = .bool (op == 48)
 | 14 => v = .bool (op == 48)
 | 15 => (op == 48) = false -> v = .int .i64 op
 | 16 => (op == 48) = false -> v = .bool (op == 49)
 | 17 => v = .bool (op == 48 || op == 49)
 | 18 => v = .bool (op == 48 || op == 49)
 | 19 => (op == 48 || op == 49) = false -> v = .int .i64 op
 | 20 => (op == 48 || op == 49) = false -> v = .bool (op == 40)
 | 21 => v = .bool (op == 48 || op == 49 || op == 40)
 | 22 => v = .agg #[.string (nameOf op), .int .i64 (operandOf op), .int .i64 0, .int .i64 0, .bool (op == 46 || op == 47), .int .i64 0, .bool (op == 48 || op == 49 || op == 40)]
 | 23 => ∃ g, v = .pointer (some ⟨g, 0, none⟩) /\ B <= g /\ w.heap[g]? = some (.cells #[.string ByteArray.empty, .int .i64 0, .int .i64 0, .int .i64 0, .bool false, .int .i64 0, .bool false] 43 (0, 0))
 | _ => True
theorem descV_stable (op : Int) (B : Nat) (i : Nat) (v : Value) (w w' : World) (hg : Gr w w') (h : descV op B i v w) : descV op B i v w' := by
 by_cases h0 : i = 0
 ·subst h0; obtain ⟨g, h1, h2⟩ := h; exact ⟨g, h1, heap_gr hg h2⟩
 by_cases h2' : i = 2
 ·subst h2'; obtain ⟨g, h1, h2⟩ := h; exact ⟨g, h1, heap_gr hg h2⟩
 by_cases h23 : i = 23
 ·subst h23; obtain ⟨g, h1, h2, h3⟩ := h; exact ⟨g, h1, h2, heap_gr hg h3⟩
 unfold descV at *
 split at h <;> first | exact h | (exfalso; omega)
def cntOf (op : Int) : Bool := op == 46 || op == 47
def jmpOf (op : Int) : Int := if op = 41 \/ op = 42 \/ op = 51 then -1 else 0
def endsOf (op : Int) : Bool := op == 48 || op == 49 || op == 40
def infoOf (op : Int) : Value := .agg #[.string (nameOf op), .int .i64 (operandOf op), .int .i64 (popsOf op), .int .i64 (pushesOf op), .bool (cntOf op), .int .i64 (jmpOf op), .bool (endsOf op)]
set_option maxHeartbeats 1000000 in
theorem desc_in (op : Int) (w : World) (h0 : 1 <= op) (h1 : op <= 53) :
  Calls Tryz.prog 13 #[.int .i64 op] w fun e w' => e = .returned (.tuple #[infoOf op, .int .i64 0]) /\ Below w.heap.size w w' := by
 have hn := nameCells_at op (by omega) h1
 go_enter Tryz.func13, Tryz.ntmps13
 go_wp2_with fail
 refine wp_region_gr 24 6 (descV op (w.heap.size + 1)) (by kernel_rfl) (by kernel_rfl) (by kernel_rfl) (by decide) (descV_stable _ _) ?hstep ?hend
 case hstep =>
  intro i hi
  rcases i with _ | i
  ·intro o ho ρ w' hC hcst hfun hglo hd hf
   simp only [List.getElem?_toArray, List.getElem?_cons_zero, Option.some.injEq] at ho
   subst ho
   rw [if_pos (by rfl)]
   clear hd hf
   go_simp
   rw [growUpon_enter]
   refine (names_any w').mono ?_
   rintro e w'' ⟨rfl, rfl⟩
   exact ⟨_, rfl, hC.trans (gr_alloc _ _), gr_alloc _ _, _, rfl, heap_alloc_new _ _⟩
  rcases i with _ | i
  ·intro o ho ρ w' hC hcst hfun hglo hd hf
   simp only [List.getElem?_toArray, List.getElem?_cons_zero, List.getElem?_cons_succ, Option.some.injEq] at ho
   subst ho
   rw [if_pos (by rfl)]
   have e0 : ρ (.tmp 0) = .int .i64 op := hf 0 (by kernel_rfl)
   clear hd hf
   go_simp
   exact ⟨hC, Gr.refl _, rfl⟩
  rcases i with _ | i
  ·intro o ho ρ w' hC hcst hfun hglo hd hf
   simp only [List.getElem?_toArray, List.getElem?_cons_zero, List.getElem?_cons_succ, Option.some.injEq] at ho
   subst ho
   rw [if_pos (by rfl)]
   obtain ⟨g, e12, hg⟩ : ∃ g, ρ (.tmp 12) = .slice (some ⟨g, 0, none⟩) 54 54 /\ w'.heap[g]? = some (.cells nameCells 9 (0, 0)) := hd 0 12 (by kernel_rfl)
   have e13 : ρ (.tmp 13) = .int .i64 op := hd 1 13 (by kernel_rfl)
   clear hd hf
   go_simp
   rw [if_pos (by omega)]
   exact ⟨hC, Gr.refl _, g, rfl, hg⟩
  rcases i with _ | i
  ·intro o ho ρ w' hC hcst hfun hglo hd hf
   simp only [List.getElem?_toArray, List.getElem?_cons_zero, List.getElem?_cons_succ, Option.some.injEq] at ho
   subst ho
   rw [if_pos (by rfl)]
   obtain ⟨g, e14, hg⟩ : ∃ g, ρ (.tmp 14) = .pointer (some ⟨g, op.toNat, none⟩) /\ w'.heap[g]? = some (.cells nameCells 9 (0, 0)) := hd 2 14 (by kernel_rfl)
   have hcell : w'.cell? ⟨g, op.toNat, none⟩ = some (.string (nameOf op)) := (cell_of_row w' g op.toNat nameCells _ (0, 0) hg).trans hn
   clear hd hf
   go_simp
   exact ⟨hC, Gr.refl _, rfl⟩
  rcases i with _ | i
  ·intro o ho ρ w' hC hcst hfun hglo hd hf
   simp only [List.getElem?_toArray, List.getElem?_cons_zero, List.getElem?_cons_succ, Option.some.injEq] at ho
   subst ho
   rw [if_pos (by rfl)]
   have e0 : ρ (.tmp 0) = .int .i64 op := hf 0 (by kernel_rfl)
   clear hd hf
   go_simp
   exact ⟨hC, Gr.refl _, rfl⟩
  rcases i with _ | i
  ·intro o ho ρ w' hC hcst hfun hglo hd hf
   simp only [List.getElem?_toArray, List.getElem?_cons_zero, List.getElem?_cons_succ, Option.some.injEq] at ho
   subst ho
   rw [if_pos (by rfl)]
   have e16 : ρ (.tmp 16) = .int .i64 op := hd 4 16 (by kernel_rfl)
   clear hd hf
   go_simp
   rw [growUpon_enter]
   refine (operand_any op w').mono ?_
   rintro e w'' ⟨rfl, rfl⟩
   exact ⟨_, rfl, hC, Gr.refl _, rfl⟩
  rcases i with _ | i
  ·intro o ho ρ w' hC hcst hfun hglo hd hf
   simp only [List.getElem?_toArray, List.getElem?_cons_zero, List.getElem?_cons_succ, Option.some.injEq] at ho
   subst ho
   rw [if_pos (by rfl)]
   have e0 : ρ (.tmp 0) = .int .i64 op := hf 0 (by kernel_rfl)
   clear hd hf
   go_simp
   exact ⟨hC, Gr.refl _, rfl⟩
  rcases i with _ | i
  ·intro o ho ρ w' hC hcst hfun hglo hd hf
   simp only [List.getElem?_toArray, List.getElem?_cons_zero, List.getElem?_cons_succ, Option.some.injEq] at ho
   subst ho
   rw [if_pos (by rfl)]
   have e18 : ρ (.tmp 18) = .int .i64 op := hd 6 18 (by kernel_rfl)
   clear hd hf
   go_simp
   exact ⟨hC, Gr.refl _, rfl⟩
  rcases i with _ | i
  ·intro o ho ρ w' hC hcst hfun hglo hd hf
   simp only [List.getElem?_toArray, List.getElem?_cons_zero, List.getElem?_cons_succ, Option.some.injEq] at ho
   subst ho
   rw [if_pos (by rfl)]
   have e19 : ρ (.tmp 19) = .bool (op == 46) := hd 7 19 (by kernel_rfl)
   clear hd hf
   go_simp
   exact ⟨hC, Gr.refl _, rfl⟩
  rcases i with _ | i
  ·intro o ho ρ w' hC hcst hfun hglo hd hf
   simp only [List.getElem?_toArray, List.getElem?_cons_zero, List.getElem?_cons_succ, Option.some.injEq] at ho
   subst ho
   have e20 : ρ (.tmp 20) = .bool (op == 46) := hd 8 20 (by kernel_rfl)
   have e0 : ρ (.tmp 0) = .int .i64 op := hf 0 (by kernel_rfl)
   clear hd hf
   by_cases hq : (op == 46) = false
   ·rw [hq] at e20
    rw [if_pos (by simp [Region.wanted, yieldedE, e20])]
    have HQ := Lib.hid hq
    clear hq
    go_simp
    exact ⟨hC, Gr.refl _, fun _ => rfl⟩
   ·rw [if_neg (by simp only [Region.wanted, yieldedE, List.getElem?_toArray, List.getElem?_cons_zero, List.getElem?_cons_succ, Option.bind_some, e20]; simpa using hq)]
    exact fun h => absurd h hq
  rcases i with _ | i
  ·intro o ho ρ w' hC hcst hfun hglo hd hf
   simp only [List.getElem?_toArray, List.getElem?_cons_zero, List.getElem?_cons_succ, Option.some.injEq] at ho
   subst ho
   have e20 : ρ (.tmp 20) = .bool (op == 46) := hd 8 20 (by kernel_rfl)
   have e21 : (op == 46) = false -> ρ (.tmp 21) = .int .i64 op := hd 9 21 (by kernel_rfl)
   clear hd hf
   by_cases hq : (op == 46) = false
   ·rw [hq] at e20
    have x := e21 hq
    clear e21
    rw [if_pos (by simp [Region.wanted, yieldedE, e20])]
    have HQ := Lib.hid hq
    clear hq
    go_simp
    exact ⟨hC, Gr.refl _, fun _ => rfl⟩
   ·rw [if_neg (by simp only [Region.wanted, yieldedE, List.getElem?_toArray, List.getElem?_cons_zero, List.getElem?_cons_succ, Option.bind_some, e20]; simpa using hq)]
    exact fun h => absurd h hq
  rcases i with _ | i
  ·intro o ho ρ w' hC hcst hfun hglo hd hf
   simp only [List.getElem?_toArray, List.getElem?_cons_zero, List.getElem?_cons_succ, Option.some.injEq] at ho
   subst ho
   rw [if_pos (by rfl)]
   have e20 : ρ (.tmp 20) = .bool (op == 46) := hd 8 20 (by kernel_rfl)
   have e22 : (op == 46) = false -> ρ (.tmp 22) = .bool (op == 47) := hd 10 22 (by kernel_rfl)
   clear hd hf
   by_cases hq : (op == 46) = false
   ·have x := e22 hq
    clear e22
    rw [hq] at e20
    have HQ := Lib.hid hq
    clear hq
    go_simp
    refine ⟨hC, Gr.refl _,?_⟩
    unfold descV
    simp [HQ.out]
   ·have hq' : (op == 46) = true := eq_true_of_ne_false hq
    clear e22 hq
    rw [hq'] at e20
    have HQ := Lib.hid hq'
    clear hq'
    go_simp
    refine ⟨hC, Gr.refl _,?_⟩
    unfold descV
    simp [HQ.out]
  rcases i with _ | i
  ·intro o ho ρ w' hC hcst hfun hglo hd hf
   simp only [List.getElem?_toArray, List.getElem?_cons_zero, List.getElem?_cons_succ, Option.some.injEq] at ho
   subst ho
   rw [if_pos (by rfl)]
   have e0 : ρ (.tmp 0) = .int .i64 op := hf 0 (by kernel_rfl)
   clear hd hf
   go_simp
   exact ⟨hC, Gr.refl _, rfl⟩
  rcases i with _ | i
  ·intro o ho ρ w' hC hcst hfun hglo hd hf
   simp only [List.getElem?_toArray, List.getElem?_cons_zero, List.getElem?_cons_succ, Option.some.injEq] at ho
   subst ho
   rw [if_pos (by rfl)]
   have e24 : ρ (.tmp 24) = .int .i64 op := hd 12 24 (by kernel_rfl)
   clear hd hf
   go_simp
   exact ⟨hC, Gr.refl _, rfl⟩
  rcases i with _ | i
  ·intro o ho ρ w' hC hcst hfun hglo hd hf
   simp only [List.getElem?_toArray, List.getElem?_cons_zero, List.getElem?_cons_succ, Option.some.injEq] at ho
   subst ho
   rw [if_pos (by rfl)]
   have e25 : ρ (.tmp 25) = .bool (op == 48) := hd 13 25 (by kernel_rfl)
   clear hd hf
   go_simp
   exact ⟨hC, Gr.refl _, rfl⟩
  rcases i with _ | i
  ·intro o ho ρ w' hC hcst hfun hglo hd hf
   simp only [List.getElem?_toArray, List.getElem?_cons_zero, List.getElem?_cons_succ, Option.some.injEq] at ho
   subst ho
   have e26 : ρ (.tmp 26) = .bool (op == 48) := hd 14 26 (by kernel_rfl)
   have e0 : ρ (.tmp 0) = .int .i64 op := hf 0 (by kernel_rfl)
   clear hd hf
   by_cases hq : (op == 48) = false
   ·rw [hq] at e26
    rw [if_pos (by simp [Region.wanted, yieldedE, e26])]
    have HQ := Lib.hid hq
    clear hq
    go_simp
    exact ⟨hC, Gr.refl _, fun _ => rfl⟩
   ·rw [if_neg (by simp only [Region.wanted, yieldedE, List.getElem?_toArray, List.getElem?_cons_zero, List.getElem?_cons_succ, Option.bind_some, e26]; simpa using hq)]
    exact fun h => absurd h hq
  rcases i with _ | i
  ·intro o ho ρ w' hC hcst hfun hglo hd hf
   simp only [List.getElem?_toArray, List.getElem?_cons_zero, List.getElem?_cons_succ, Option.some.injEq] at ho
   subst ho
   have e26 : ρ (.tmp 26) = .bool (op == 48) := hd 14 26 (by kernel_rfl)
   have e27 : (op == 48) = false -> ρ (.tmp 27) = .int .i64 op := hd 15 27 (by kernel_rfl)
   clear hd hf
   by_cases hq : (op == 48) = false
   ·rw [hq] at e26
    have x := e27 hq
    clear e27
    rw [if_pos (by simp [Region.wanted, yieldedE, e26])]
    have HQ := Lib.hid hq
    clear hq
    go_simp
    exact ⟨hC, Gr.refl _, fun _ => rfl⟩
   ·rw [if_neg (by simp only [Region.wanted, yieldedE, List.getElem?_toArray, List.getElem?_cons_zero, List.getElem?_cons_succ, Option.bind_some, e26]; simpa using hq)]
    exact fun h => absurd h hq
  rcases i with _ | i
  ·intro o ho ρ w' hC hcst hfun hglo hd hf
   simp only [List.getElem?_toArray, List.getElem?_cons_zero, List.getElem?_cons_succ, Option.some.injEq] at ho
   subst ho
   rw [if_pos (by rfl)]
   have e26 : ρ (.tmp 26) = .bool (op == 48) := hd 14 26 (by kernel_rfl)
   have e28 : (op == 48) = false -> ρ (.tmp 28) = .bool (op == 49) := hd 16 28 (by kernel_rfl)
   clear hd hf
   by_cases hq : (op == 48) = false
   ·have x := e28 hq
    clear e28
    rw [hq] at e26
    have HQ := Lib.hid hq
    clear hq
    go_simp
    refine ⟨hC, Gr.refl _,?_⟩
    unfold descV
    simp [HQ.out]
   ·have hq' : (op == 48) = true := eq_true_of_ne_false hq
    clear e28 hq
    rw [hq'] at e26
    have HQ := Lib.hid hq'
    clear hq'
    go_simp
    refine ⟨hC, Gr.refl _,?_⟩
    unfold descV
    simp [HQ.out]
  rcases i with _ | i
  ·intro o ho ρ w' hC hcst hfun hglo hd hf
   simp only [List.getElem?_toArray, List.getElem?_cons_zero, List.getElem?_cons_succ, Option.some.injEq] at ho
   subst ho
   rw [if_pos (by rfl)]
   have e29 : ρ (.tmp 29) = .bool (op == 48 || op == 49) := hd 17 29 (by kernel_rfl)
   clear hd hf
   go_simp
   exact ⟨hC, Gr.refl _, rfl⟩
  rcases i with _ | i
  ·intro o ho ρ w' hC hcst hfun hglo hd hf
   simp only [List.getElem?_toArray, List.getElem?_cons_zero, List.getElem?_cons_succ, Option.some.injEq] at ho
   subst ho
   have e30 : ρ (.tmp 30) = .bool (op == 48 || op == 49) := hd 18 30 (by kernel_rfl)
   have e0 : ρ (.tmp 0) = .int .i64 op := hf 0 (by kernel_rfl)
   clear hd hf
   by_cases hq : (op == 48 || op == 49) = false
   ·rw [hq] at e30
    rw [if_pos (by simp [Region.wanted, yieldedE, e30])]
    have HQ := Lib.hid hq
    clear hq
    go_simp
    exact ⟨hC, Gr.refl _, fun _ => rfl⟩
   ·rw [if_neg (by simp only [Region.wanted, yieldedE, List.getElem?_toArray, List.getElem?_cons_zero, List.getElem?_cons_succ, Option.bind_some, e30]; simpa using hq)]
    exact fun h => absurd h hq
  rcases i with _ | i
  ·intro o ho ρ w' hC hcst hfun hglo hd hf
   simp only [List.getElem?_toArray, List.getElem?_cons_zero, List.getElem?_cons_succ, Option.some.injEq] at ho
   subst ho
   have e30 : ρ (.tmp 30) = .bool (op == 48 || op == 49) := hd 18 30 (by kernel_rfl)
   have e31 : (op == 48 || op == 49) = false -> ρ (.tmp 31) = .int .i64 op := hd 19 31 (by kernel_rfl)
   clear hd hf
   by_cases hq : (op == 48 || op == 49) = false
   ·rw [hq] at e30
    have x := e31 hq
    clear e31
    rw [if_pos (by simp [Region.wanted, yieldedE, e30])]
    have HQ := Lib.hid hq
    clear hq
    go_simp
    exact ⟨hC, Gr.refl _, fun _ => rfl⟩
   ·rw [if_neg (by simp only [Region.wanted, yieldedE, List.getElem?_toArray, List.getElem?_cons_zero, List.getElem?_cons_succ, Option.bind_some, e30]; simpa using hq)]
    exact fun h => absurd h hq
  rcases i with _ | i
  ·intro o ho ρ w' hC hcst hfun hglo hd hf
   simp only [List.getElem?_toArray, List.getElem?_cons_zero, List.getElem?_cons_succ, Option.some.injEq] at ho
   subst ho
   rw [if_pos (by rfl)]
   have e30 : ρ (.tmp 30) = .bool (op == 48 || op == 49) := hd 18 30 (by kernel_rfl)
   have e32 : (op == 48 || op == 49) = false -> ρ (.tmp 32) = .bool (op == 40) := hd 20 32 (by kernel_rfl)
   clear hd hf
   by_cases hq : (op == 48 || op == 49) = false
   ·have x := e32 hq
    clear e32
    rw [hq] at e30
    have HQ := Lib.hid hq
    clear hq
    go_simp
    refine ⟨hC, Gr.refl _,?_⟩
    unfold descV
    simp [HQ.out]
   ·have hq' : (op == 48 || op == 49) = true := eq_true_of_ne_false hq
    clear e32 hq
    rw [hq'] at e30
    have HQ := Lib.hid hq'
    clear hq'
    go_simp
    refine ⟨hC, Gr.refl _,?_⟩
    unfold descV
    simp [HQ.out]
  rcases i with _ | i
  ·intro o ho ρ w' hC hcst hfun hglo hd hf
   simp only [List.getElem?_toArray, List.getElem?_cons_zero, List.getElem?_cons_succ, Option.some.injEq] at ho
   subst ho
   rw [if_pos (by rfl)]
   have e15 : ρ (.tmp 15) = .string (nameOf op) := hd 3 15 (by kernel_rfl)
   have e17 : ρ (.tmp 17) = .int .i64 (operandOf op) := hd 5 17 (by kernel_rfl)
   have e23 : ρ (.tmp 23) = .bool (op == 46 || op == 47) := hd 11 23 (by kernel_rfl)
   have e33 : ρ (.tmp 33) = .bool (op == 48 || op == 49 || op == 40) := hd 21 33 (by kernel_rfl)
   clear hd hf
   go_simp
   exact ⟨hC, Gr.refl _, rfl⟩
  rcases i with _ | i
  ·intro o ho ρ w' hC hcst hfun hglo hd hf
   simp only [List.getElem?_toArray, List.getElem?_cons_zero, List.getElem?_cons_succ, Option.some.injEq] at ho
   subst ho
   rw [if_pos (by rfl)]
   clear hd hf
   go_simp
   exact ⟨hC.trans (gr_alloc _ _), gr_alloc _ _, _, rfl, by have := hC.size; simpa using this, heap_alloc_new _ _⟩
  omega
 case hend =>
  intro vs w' hC hV
  obtain ⟨g, e23, hgB, hg⟩ : descV op (w.heap.size + 1) 23 (vs 23) w' := hV 23 (by decide) rfl
  have e22 : vs 22 = _ := hV 22 (by decide) rfl
  have hbox := heap_gr hC (heap_alloc_new w _)
  clear hV
  simp only [putAll, List.getElem?_toArray, List.getElem?_cons_succ, List.getElem?_cons_zero, Option.bind_some, Act.put, List.setIfInBounds_toArray, List.set_cons_succ, List.set_cons_zero, List.drop_succ_cons, List.drop_zero, e22, e23]
  clear e22 e23
  have hne : ¬ g = w.heap.size := by omega
  have hne' : ¬ w.heap.size = g := by omega
  have hb : Below w.heap.size w w' := (Below.trans ((Below.refl _ _).alloc (Nat.le_refl _) _) (Below.mono hC (by simp)))
  obtain ⟨W, rfl, hgs, hbs, hbW⟩ : ∃ W, w' = plug (plug W g (.cells #[.string ByteArray.empty, .int .i64 0, .int .i64 0, .int .i64 0, .bool false, .int .i64 0, .bool false] 43)) w.heap.size (.cells #[.string ByteArray.empty, .int .i64 0, .int .i64 0, .int .i64 0, .bool false, .int .i64 0, .bool false] 43) /\ g < W.heap.size /\ w.heap.size < W.heap.size /\ Below w.heap.size w W :=
   ⟨w', by rw [plug_self hg]; exact (plug_self hbox).symm, lt_of_block hg, lt_of_block hbox, hb⟩
  clear hC hg hbox hn hb
  go_wp2_with (go_at_call 40; refine (effect_any _ _).mono ?_; rintro e w1 ⟨rfl, rfl⟩)
  all_goals
   refine bodyPost_ret (v := .tuple #[infoOf _, .int .i64 0]) ?_ rfl ⟨rfl, below_plug (below_plug hbW (by omega) _) (Nat.le_refl _) _⟩
   simp_all [results, Tryz.results13, go_sem, infoOf, cntOf, jmpOf, endsOf]
theorem desc_out (op : Int) (w : World) (h : op < 1 \/ 53 < op) :
  Calls Tryz.prog 13 #[.int .i64 op] w fun e w' => e = .returned (.tuple #[.agg #[.string ByteArray.empty, .int .i64 0, .int .i64 0, .int .i64 0, .bool false, .int .i64 0, .bool false], .int .i64 6]) /\ Below w.heap.size w w' := by
 rcases h with h | h
 ·go_enter Tryz.func13, Tryz.ntmps13
  go_wp2_with fail
  exact bodyPost_ret (v := .tuple #[.agg #[.string ByteArray.empty, .int .i64 0, .int .i64 0, .int .i64 0, .bool false, .int .i64 0, .bool false], .int .i64 6]) (by simp [results, Tryz.results13, go_sem]; rfl) rfl ⟨rfl, (Below.refl _ _).alloc (Nat.le_refl _) _⟩
 ·have h' : ¬ op < 1 := by omega
  go_enter Tryz.func13, Tryz.ntmps13
  go_wp2_with fail
  exact bodyPost_ret (v := .tuple #[.agg #[.string ByteArray.empty, .int .i64 0, .int .i64 0, .int .i64 0, .bool false, .int .i64 0, .bool false], .int .i64 6]) (by simp [results, Tryz.results13, go_sem]; rfl) rfl ⟨rfl, (Below.refl _ _).alloc (Nat.le_refl _) _⟩
end Go.Proofs.YtjefbgfohijaoaaGreatDoor
