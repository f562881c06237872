/- Own work: a block that is known whole in a world that is a letter, written into the world's own term, so that loads and stores are reckoned on the literal. -/
import Derived.Below
import Derived.Laws.Rows
import Derived.WalkKit
import Derived.Test.YtlffpgjkhehdmaaDoorRg
namespace Go.Proofs.YtlffpgjkhehdmaaDoor
open Go.RowKit

/-- the world with the object o as block g -/
def plug (w : World) (g : Nat) (o : Obj) : World := { w with heap := w.heap.setIfInBounds g o }

theorem lt_of_block {w : World} {g : Nat} {o : Obj} (h : w.heap[g]? = some o) : g < w.heap.size := by
  rcases Nat.lt_or_ge g w.heap.size with h' | h'
  · exact h'
  · rw [Array.getElem?_eq_none h'] at h; cases h
theorem plug_self {w : World} {g : Nat} {o : Obj} (h : w.heap[g]? = some o) : plug w g o = w := by
  have : w.heap.setIfInBounds g o = w.heap := by
    apply Array.ext_getElem?
    intro i
    by_cases hi : g = i
    · subst hi; rw [Array.getElem?_setIfInBounds_self_of_lt (lt_of_block h), h]
    · rw [Array.getElem?_setIfInBounds_ne hi]
  unfold plug; rw [this]
theorem heap_plug_same (w : World) (g : Nat) (o : Obj) (h : g < w.heap.size) : (plug w g o).heap[g]? = some o := by
  unfold plug; exact Array.getElem?_setIfInBounds_self_of_lt h
theorem heap_plug_other (w : World) (g b : Nat) (o : Obj) (h : b ≠ g) : (plug w g o).heap[b]? = w.heap[b]? := by
  unfold plug; exact Array.getElem?_setIfInBounds_ne (Ne.symm h)
theorem size_plug (w : World) (g : Nat) (o : Obj) : (plug w g o).heap.size = w.heap.size := by simp [plug]
theorem drew_plug (w : World) (g : Nat) (o : Obj) : (plug w g o).drew = plug w.drew g o := rfl
theorem cell_plug_same (w : World) (g i : Nat) (cs : Array Value) (t : TypeId) (h : g < w.heap.size) : (plug w g (.cells cs t)).cell? ⟨g, i, none⟩ = cs[i]? :=
  cell_of_row _ g i cs t (0, 0) (heap_plug_same w g _ h)
theorem cell_plug_other (w : World) (g b i : Nat) (o : Obj) (h : ¬ b = g) : (plug w g o).cell? ⟨b, i, none⟩ = w.cell? ⟨b, i, none⟩ :=
  World.cell?_of_block (heap_plug_other w g b o h)
theorem frozen_plug_same (w : World) (g i : Nat) (cs : Array Value) (t : TypeId) (h : g < w.heap.size) : (plug w g (.cells cs t)).frozen? ⟨g, i, none⟩ = false :=
  frozen_of_row _ g i cs t (heap_plug_same w g _ h)
theorem frozen_plug_other (w : World) (g b i : Nat) (o : Obj) (h : ¬ b = g) : (plug w g o).frozen? ⟨b, i, none⟩ = w.frozen? ⟨b, i, none⟩ := by
  have := heap_plug_other w g b o h
  simp only [World.frozen?, this]
theorem setCell_plug_same (w : World) (g i : Nat) (cs : Array Value) (t : TypeId) (v : Value) (h : g < w.heap.size) : (plug w g (.cells cs t)).setCell ⟨g, i, none⟩ v = plug w g (.cells (cs.setIfInBounds i v) t) := by
  simp only [World.setCell, plug]
  congr 1
  apply Array.ext_getElem?
  intro j
  by_cases hj : g = j
  · subst hj
    rw [Array.getElem?_modify]
    rw [if_pos rfl, Array.getElem?_setIfInBounds_self_of_lt h, Array.getElem?_setIfInBounds_self_of_lt h]
    rfl
  · rw [Array.getElem?_modify, if_neg hj, Array.getElem?_setIfInBounds_ne hj, Array.getElem?_setIfInBounds_ne hj]
theorem setCell_plug_other (w : World) (g b i : Nat) (o : Obj) (v : Value) (h : ¬ b = g) : (plug w g o).setCell ⟨b, i, none⟩ v = plug (w.setCell ⟨b, i, none⟩ v) g o := by
  simp only [World.setCell, plug]
  congr 1
  apply Array.ext_getElem?
  intro j
  by_cases hj : g = j
  · subst hj
    rw [Array.getElem?_modify, if_neg h]
    by_cases hg : g < w.heap.size
    · rw [Array.getElem?_setIfInBounds_self_of_lt hg, Array.getElem?_setIfInBounds_self_of_lt (by simpa using hg)]
    · rw [Array.getElem?_eq_none (by simp; omega), Array.getElem?_eq_none (by simp; omega)]
  · rw [Array.getElem?_modify, Array.getElem?_setIfInBounds_ne hj, Array.getElem?_setIfInBounds_ne hj, Array.getElem?_modify]
theorem plug_plug (w : World) (g : Nat) (o o' : Obj) : plug (plug w g o) g o' = plug w g o' := by simp [plug]

attribute [go_sem] size_plug drew_plug cell_plug_same cell_plug_other frozen_plug_same frozen_plug_other setCell_plug_same setCell_plug_other

theorem below_plug {B : Nat} {w w1 : World} (h : Below B w w1) {g : Nat} (hg : B ≤ g) (o : Obj) : Below B w (plug w1 g o) :=
  ⟨h.os, h.tape, h.output, by rw [size_plug]; exact h.size, fun k hk => by rw [heap_plug_other _ _ _ _ (by omega)]; exact h.block k hk⟩

/-- a world with blocks that are known, as a plugged one -/
theorem plug1 {w1 : World} {g1 : Nat} {o1 : Obj} (h1 : w1.heap[g1]? = some o1) : ∃ W, w1 = plug W g1 o1 ∧ g1 < W.heap.size ∧ Gr w1 W :=
  ⟨w1, (plug_self h1).symm, lt_of_block h1, Gr.refl _⟩
theorem plug2 {w1 : World} {g1 g2 : Nat} {o1 o2 : Obj} (h1 : w1.heap[g1]? = some o1) (h2 : w1.heap[g2]? = some o2) : ∃ W, w1 = plug (plug W g1 o1) g2 o2 ∧ g1 < W.heap.size ∧ g2 < W.heap.size ∧ Gr w1 W :=
  ⟨w1, by rw [plug_self h1]; exact (plug_self h2).symm, lt_of_block h1, lt_of_block h2, Gr.refl _⟩
theorem plug3 {w1 : World} {g1 g2 g3 : Nat} {o1 o2 o3 : Obj} (h1 : w1.heap[g1]? = some o1) (h2 : w1.heap[g2]? = some o2) (h3 : w1.heap[g3]? = some o3) :
    ∃ W, w1 = plug (plug (plug W g1 o1) g2 o2) g3 o3 ∧ g1 < W.heap.size ∧ g2 < W.heap.size ∧ g3 < W.heap.size ∧ Gr w1 W :=
  ⟨w1, by rw [plug_self h1, plug_self h2]; exact (plug_self h3).symm, lt_of_block h1, lt_of_block h2, lt_of_block h3, Gr.refl _⟩
theorem heap_gr {w w' : World} (h : Gr w w') {g : Nat} {o : Obj} (hg : w.heap[g]? = some o) : w'.heap[g]? = some o := by
  rw [h.block g (lt_of_block hg)]; exact hg
theorem gr_alloc (w : World) (o : Obj) : Gr w (w.alloc o) := (Below.refl _ _).alloc (Nat.le_refl _) _
theorem gr_alloc2 (w : World) (o o' : Obj) : Gr w ((w.alloc o).alloc o') := (gr_alloc w o).trans (gr_alloc _ o')
theorem gr_alloc3 (w : World) (o o' o'' : Obj) : Gr w (((w.alloc o).alloc o').alloc o'') := (gr_alloc2 w o o').trans (gr_alloc _ o'')
theorem gr_drew {w w' : World} (h : Gr w w') : Gr w w'.drew := Below.drew h
/-- what is plugged lies behind the old memory -/
theorem gr_plug {w w1 : World} (h : Gr w w1) {g : Nat} (hg : w.heap.size ≤ g) (o : Obj) : Gr w (plug w1 g o) := below_plug h hg o
theorem gr_then_alloc {w w1 : World} (h : Gr w w1) (o : Obj) : Gr w (w1.alloc o) := h.trans (gr_alloc _ _)

end Go.Proofs.YtlffpgjkhehdmaaDoor
