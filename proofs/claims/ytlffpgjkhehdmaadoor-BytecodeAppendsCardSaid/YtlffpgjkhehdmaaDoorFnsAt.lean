/- Own work: programs in memory; bytecode.Formed. -/
import Derived.Test.YtlffpgjkhehdmaaDoorFormed2
namespace Go.Proofs.YtlffpgjkhehdmaaDoor
open Go.RowKit
set_option linter.unusedVariables false
set_option linter.unusedSimpArgs false

/-- a world with blocks that are known, as a plugged one; it has grown out of the one that is plugged, too -/
theorem plug1b {w1 : World} {g1 : Nat} {o1 : Obj} (h1 : w1.heap[g1]? = some o1) : ∃ W, w1 = plug W g1 o1 ∧ g1 < W.heap.size ∧ Gr w1 W ∧ Gr W w1 :=
  ⟨w1, (plug_self h1).symm, lt_of_block h1, Gr.refl _, Gr.refl _⟩
theorem plug2b {w1 : World} {g1 g2 : Nat} {o1 o2 : Obj} (h1 : w1.heap[g1]? = some o1) (h2 : w1.heap[g2]? = some o2) : ∃ W, w1 = plug (plug W g1 o1) g2 o2 ∧ g1 < W.heap.size ∧ g2 < W.heap.size ∧ Gr w1 W ∧ Gr W w1 :=
  ⟨w1, by rw [plug_self h1]; exact (plug_self h2).symm, lt_of_block h1, lt_of_block h2, Gr.refl _, Gr.refl _⟩
theorem plug3b {w1 : World} {g1 g2 g3 : Nat} {o1 o2 o3 : Obj} (h1 : w1.heap[g1]? = some o1) (h2 : w1.heap[g2]? = some o2) (h3 : w1.heap[g3]? = some o3) :
    ∃ W, w1 = plug (plug (plug W g1 o1) g2 o2) g3 o3 ∧ g1 < W.heap.size ∧ g2 < W.heap.size ∧ g3 < W.heap.size ∧ Gr w1 W ∧ Gr W w1 :=
  ⟨w1, by rw [plug_self h1, plug_self h2]; exact (plug_self h3).symm, lt_of_block h1, lt_of_block h2, lt_of_block h3, Gr.refl _, Gr.refl _⟩

/-- a function, and where its slices lie -/
structure FnRef where
  f : Fn
  A : Option Addr
  B : Option Addr
  C : Option Addr
  ca : Nat
  cb : Nat
  cc : Nat
def fnCells (r : FnRef) : List Value := [.string r.f.name, .int .i64 r.f.kind, .int .i64 r.f.params, .int .i64 r.f.locals, .slice r.A r.f.code.length r.ca, .slice r.B r.f.consts.length r.cb, .slice r.C r.f.hdls.length r.cc]
theorem fnCells_len (x : FnRef) : (fnCells x).length = 7 := rfl
/-- sizes that memory bears -/
structure FnWf (r : FnRef) : Prop where
  nm : r.f.name.size ≤ 9223372036854775807
  l1 : r.f.code.length ≤ 9223372036854775807
  l2 : r.f.consts.length ≤ 9223372036854775807
  l3 : r.f.hdls.length ≤ 9223372036854775807
  cs : ∀ c ∈ r.f.consts, c.str.size ≤ 9223372036854775807
/-- a program's slice of functions -/
structure ProgAt (w : World) (A : Option Addr) (rs : List FnRef) : Prop where
  sl : SlAt w A 7 fnCells rs
  fns : ∀ r ∈ rs, FnAt w r.A r.B r.C r.f
  wf : ∀ r ∈ rs, FnWf r
theorem ProgAt.gr {w w' : World} {A : Option Addr} {rs : List FnRef} (h : ProgAt w A rs) (hg : Gr w w') : ProgAt w' A rs :=
  ⟨h.sl.gr hg, fun r hr => (h.fns r hr).gr hg, h.wf⟩

def progB (rs : List FnRef) : Bool := rs.all (fun r => formedB r.f rs.length) && decide ((rs.length : Int) ≤ 4096)

theorem formed_eq (r : FnRef) (funcs : Int) (w : World) (q : Bool) (hq : formedB r.f funcs = q) (hT : Tabs w) (hF : FnAt w r.A r.B r.C r.f) (hW : FnWf r) (hfu : 0 ≤ funcs) (hfu' : funcs ≤ 1000000) :
    Calls Tryd.prog 57 #[.agg #[.string r.f.name, .int .i64 r.f.kind, .int .i64 r.f.params, .int .i64 r.f.locals, .slice r.A r.f.code.length r.ca, .slice r.B r.f.consts.length r.cb, .slice r.C r.f.hdls.length r.cc], .int .i64 funcs] w
      fun e w' => e = .returned (.bool q) ∧ Gr w w' := by
  subst hq; exact formed_any r.f r.A r.B r.C r.ca r.cb r.cc funcs w hT hF hfu hfu' hW.cs hW.nm hW.l1 hW.l2 hW.l3

def progBox (A : Option Addr) (n c : Nat) : Obj := .cells #[.slice A n c] 33 (0, 0)

set_option maxHeartbeats 2000000 in
set_option maxRecDepth 100000 in
theorem Formed_any (A : Option Addr) (c : Nat) (rs : List FnRef) (w : World) (hT : Tabs w) (hP : ProgAt w A rs) (hn : rs.length ≤ 1000000) :
    Calls Tryd.prog 36 #[.agg #[.slice A rs.length c]] w fun e w' => e = .returned (.bool (progB rs)) ∧ Gr w w' := by
  have HT := Lib.hid hT
  have HP := Lib.hid hP
  clear hT hP
  go_enter Tryd.func36, Tryd.ntmps36
  go_wp2_with fail
  go_loopw [8] (LoopRel w w.heap.size (progBox A rs.length c) rs.length (fun k => (rs.take k).all (fun r => formedB r.f rs.length) = true)) (fun i _ => rs.length - (intOf i).toNat)
  case atStart => exact ⟨0, Nat.zero_le _, rfl, rfl, gr_alloc _ _, heap_alloc_new _ _⟩
  case round =>
    obtain ⟨k, hk, rfl, hall, hgr, hbx⟩ := hrel
    obtain ⟨W1, hw1, hs1, hW⟩ := plug1 hbx
    replace hW := hgr.trans hW
    clear hgr hbx
    unfold progBox at hw1
    subst hw1
    have Hall := Lib.hid hall
    clear hall
    by_cases hlt : k < rs.length
    · obtain ⟨b, o, hB, hcell⟩ := HP.out.sl k rs[k] (List.getElem?_eq_getElem hlt)
      have hx : rs[k]? = some rs[k] := List.getElem?_eq_getElem hlt
      have hm := List.mem_of_getElem? hx
      have HF := Lib.hid (HP.out.fns _ hm)
      have HW := Lib.hid (HP.out.wf _ hm)
      generalize rs[k] = r at hcell hx hm HF HW
      have c0 := cell_gr hW (hcell 0 _ rfl)
      have c1 := cell_gr hW (hcell 1 _ rfl)
      have c2 := cell_gr hW (hcell 2 _ rfl)
      have c3 := cell_gr hW (hcell 3 _ rfl)
      have c4 := cell_gr hW (hcell 4 _ rfl)
      have c5 := cell_gr hW (hcell 5 _ rfl)
      have c6 := cell_gr hW (hcell 6 _ rfl)
      have hblt : b < w.heap.size := block_lt_of_cell (hcell 0 _ rfl)
      have hbne : ¬ b = w.heap.size := by omega
      have hblt' : b < W1.heap.size := by omega
      rw [← Nat.add_assoc] at c0 c1 c2 c3 c4 c5 c6
      rw [Nat.add_zero] at c0
      have HX := Lib.hid hx
      clear hcell hx hm
      subst hB
      cases hq : formedB r.f rs.length
      · have HQ := Lib.hid hq
        clear hq
        go_wp2_with fail
        refine (formed_eq r _ _ false HQ.out (HT.out.gr (gr_then_alloc (gr_plug hW (Nat.le_refl _) _) _)) (HF.out.gr (gr_then_alloc (gr_plug hW (Nat.le_refl _) _) _)) HW.out (by omega) (by omega)).mono ?_
        rintro e w1 ⟨rfl, hb1⟩
        have hW2 : Gr w w1 := Gr.trans (gr_then_alloc (gr_plug hW (Nat.le_refl _) _) _) hb1
        clear hb1
        go_wp2_with fail
        go_ret
        exact ⟨ret_bool (by unfold progB; rw [all_false_at HX.out HQ.out]; rfl), hW2⟩
      · have HQ := Lib.hid hq
        clear hq
        go_wp2_with fail
        refine (formed_eq r _ _ true HQ.out (HT.out.gr (gr_then_alloc (gr_plug hW (Nat.le_refl _) _) _)) (HF.out.gr (gr_then_alloc (gr_plug hW (Nat.le_refl _) _) _)) HW.out (by omega) (by omega)).mono ?_
        rintro e w1 ⟨rfl, hb1⟩
        have hW2 : Gr w w1 := Gr.trans (gr_then_alloc (gr_plug hW (Nat.le_refl _) _) _) hb1
        have hbx2 := heap_gr hb1 (heap_gr (gr_alloc _ _) (heap_plug_same _ _ _ hs1))
        clear hb1
        go_wp2_with fail
        go_roundw
        case rel => exact ⟨k + 1, by omega, by go_num, all_take_succ Hall.out HX.out HQ.out, hW2, hbx2⟩
        case measure => simp [intOf]; omega
    · go_wp2_with fail
      go_ret
      exact ⟨ret_bool (by unfold progB; rw [all_take_len Hall.out hlt]; rfl), gr_plug hW (Nat.le_refl _) _⟩

theorem Formed_eq (A : Option Addr) (c : Nat) (rs : List FnRef) (w : World) (q : Bool) (hq : progB rs = q) (hT : Tabs w) (hP : ProgAt w A rs) (hn : rs.length ≤ 1000000) :
    Calls Tryd.prog 36 #[.agg #[.slice A rs.length c]] w fun e w' => e = .returned (.bool q) ∧ Gr w w' := by
  subst hq; exact Formed_any A c rs w hT hP hn
end Go.Proofs.YtlffpgjkhehdmaaDoor
