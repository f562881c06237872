/- Own work: programs as data. -/
import Derived.Test.YtlffpgjkhehdmaaDoorZGC
import Derived.Test.YtlffpgjkhehdmaaDoorZGF
import Derived.Test.YtlffpgjkhehdmaaDoorRows
import Derived.Test.YtlffpgjkhehdmaaDoorZGE
import Derived.PinnedBridge
import Derived.Lib.LaidU8T
import Derived.ProofKit
import Derived.Lay
import Derived.LaidMore
import Derived.LaidOnce
import Derived.SevenTiedAt
import Derived.Deep.Slices
namespace Go.Proofs.YtlffpgjkhehdmaaDoor
open Go.RowKit
set_option maxRecDepth 100000

abbrev pS (s : ByteArray) : PV := .v (.string s)
theorem tabs_gr : ∀ w w', Gr w w' → Tabs w → Tabs w' := fun _ _ hg h => h.gr hg
abbrev RT (f : FuncId) (l : List PV) (r : PV) : Prop := Ret Tryd.prog Tabs f l r
def pIns (i : Ins) : List PV := [pI i.op, pI i.a, pI i.b]
def pCst (c : Cst) : List PV := [pI c.kind, pI c.int, pS c.str]
def pHdl (h : Hdl) : List PV := [pI h.lo, pI h.hi, pI h.tg, pI h.dp, pI h.sc]
def pCode (l : List Ins) : List (List PV) := l.map pIns
def pCons (l : List Cst) : List (List PV) := l.map pCst
def pHdls (l : List Hdl) : List (List PV) := l.map pHdl
def pFn (f : Fn) : List PV := [pS f.name, pI f.kind, pI f.params, pI f.locals, .ro 3 (pCode f.code), .ro 3 (pCons f.consts), .ro 5 (pHdls f.hdls)]
def pFns (fs : List Fn) : List (List PV) := fs.map pFn
abbrev pProg (fs : List Fn) : PV := .agg [.ro 7 (pFns fs)]
/-- sizes that memory bears -/
structure FnSz (f : Fn) : Prop where
  nm : f.name.size ≤ 9223372036854775807
  l1 : f.code.length ≤ 9223372036854775807
  l2 : f.consts.length ≤ 9223372036854775807
  l3 : f.hdls.length ≤ 9223372036854775807
  cs : ∀ c ∈ f.consts, c.str.size ≤ 9223372036854775807
section
variable {w : World} {R : Nat → Prop}
theorem repPv {x v : Value} (h : RepP w R (.v x) v) : v = x := by cases h; rfl
theorem sl_of {α : Type} {s : Nat} {cells : α → List Value} {pc : α → List PV} (hpc : ∀ x, pc x = (cells x).map .v) {xs : List α} {v : Value} (h : RepP w R (.ro s (xs.map pc)) v) :
    ∃ A c, v = .slice A xs.length c ∧ SlAt w A s cells xs := by
  obtain ⟨rows, hr⟩ : ∃ rows, xs.map pc = rows := ⟨_, rfl⟩
  have hl : rows.length = xs.length := by rw [← hr]; simp
  rw [hr] at h
  cases h with
  | ro0 _ A cap =>
    have : xs = [] := List.length_eq_zero_iff.1 (by simpa using hl.symm)
    subst this
    exact ⟨A, cap, rfl, SlAt.nil⟩
  | ro _ _ b o cap vs hR hb hcap hs hc hrr =>
    refine ⟨some ⟨b, o, none⟩, cap, by rw [hl], fun i x hx => ⟨b, o, rfl, fun j v hv => ?_⟩⟩
    have h1 : rows[i]? = some (pc x) := by rw [← hr, List.getElem?_map, hx]; rfl
    have h2 : (pc x)[j]? = some (.v v) := by rw [hpc, List.getElem?_map, hv]; rfl
    have h3 := hrr i j _ _ h1 h2
    have h4 := (hc i j _ _ h1 h2).1
    cases h3
    exact h4
theorem pIns_v (x : Ins) : pIns x = (insCells x).map .v := rfl
theorem pCst_v (x : Cst) : pCst x = (cstCells x).map .v := rfl
theorem pHdl_v (x : Hdl) : pHdl x = (hdlCells x).map .v := rfl
theorem lists_of {α : Type} {n : Nat} {Q : Nat → α → Prop} (h : ∀ i, i < n → ∃ x, Q i x) : ∃ xs : List α, xs.length = n ∧ ∀ i x, xs[i]? = some x → Q i x := by
  induction n with
  | zero => exact ⟨[], rfl, fun i x hx => by simp at hx⟩
  | succ n ih =>
    obtain ⟨xs, hl, hx⟩ := ih fun i hi => h i (by omega)
    obtain ⟨y, hy⟩ := h n (by omega)
    refine ⟨xs ++ [y], by simp [hl], fun i x hi => ?_⟩
    by_cases hlt : i < xs.length
    · rw [List.getElem?_append_left hlt] at hi; exact hx i x hi
    · rw [List.getElem?_append_right (by omega)] at hi
      have hb := (List.getElem?_eq_some_iff.1 hi).1
      have e0 : i = n := by simp at hb; omega
      have e1 : i - xs.length = 0 := by omega
      rw [e1] at hi
      cases hi
      rw [e0]; exact hy
/-- a program that is read as data lies in memory -/
theorem prog_of {fs : List Fn} {v : Value} (h : RepP w R (pProg fs) v) (hw : ∀ f ∈ fs, FnSz f) : ∃ A c rs, v = .agg #[.slice A rs.length c] ∧ rs.map (·.f) = fs ∧ ProgAt w A rs := by
  obtain ⟨l, hl⟩ : ∃ l : List PV, [PV.ro 7 (pFns fs)] = l := ⟨_, rfl⟩
  unfold pProg at h
  rw [hl] at h
  cases h with
  | agg _ vs hlen hr =>
    subst hl
    match vs, hlen with
    | [v], _ =>
      have h := hr 0 _ v rfl rfl
      obtain ⟨rows, hrw⟩ : ∃ rows, pFns fs = rows := ⟨_, rfl⟩
      have hl : rows.length = fs.length := by rw [← hrw]; simp [pFns]
      rw [hrw] at h
      cases h with
      | ro0 _ A cap =>
        have : fs = [] := List.length_eq_zero_iff.1 (by simpa using hl.symm)
        subst this
        exact ⟨A, cap, [], rfl, rfl, SlAt.nil, fun r hr => by simp at hr, fun r hr => by simp at hr⟩
      | ro _ _ b o cap vs hR hb hcap hs hc hrr =>
        obtain ⟨rs, hrl, hrs⟩ := lists_of (n := fs.length) (Q := fun i (r : FnRef) => fs[i]? = some r.f ∧ FnAt w r.A r.B r.C r.f ∧ ∀ j v, (fnCells r)[j]? = some v → w.cell? ⟨b, o + (i * 7 + j), none⟩ = some v) fun i hi => by
          obtain ⟨f, hf⟩ : ∃ f, fs[i]? = some f := ⟨_, List.getElem?_eq_getElem hi⟩
          have h1 : rows[i]? = some (pFn f) := by rw [← hrw, pFns, List.getElem?_map, hf]; rfl
          have g : ∀ j a, (pFn f)[j]? = some a → w.cell? ⟨b, o + (i * 7 + j), none⟩ = some (vs i j) ∧ RepP w R a (vs i j) := fun j a ha => ⟨(hc i j _ a h1 ha).1, hrr i j _ a h1 ha⟩
          obtain ⟨c0, r0⟩ := g 0 _ rfl
          obtain ⟨c1, r1⟩ := g 1 _ rfl
          obtain ⟨c2, r2⟩ := g 2 _ rfl
          obtain ⟨c3, r3⟩ := g 3 _ rfl
          obtain ⟨c4, r4⟩ := g 4 _ rfl
          obtain ⟨c5, r5⟩ := g 5 _ rfl
          obtain ⟨c6, r6⟩ := g 6 _ rfl
          have v0 : vs i 0 = .string f.name := repPv r0
          have v1 : vs i 1 = .int .i64 f.kind := repPv r1
          have v2 : vs i 2 = .int .i64 f.params := repPv r2
          have v3 : vs i 3 = .int .i64 f.locals := repPv r3
          obtain ⟨A4, k4, e4, s4⟩ := sl_of pIns_v r4
          obtain ⟨A5, k5, e5, s5⟩ := sl_of pCst_v r5
          obtain ⟨A6, k6, e6, s6⟩ := sl_of pHdl_v r6
          rw [v0] at c0
          rw [v1] at c1
          rw [v2] at c2
          rw [v3] at c3
          rw [e4] at c4
          rw [e5] at c5
          rw [e6] at c6
          refine ⟨⟨f, A4, A5, A6, k4, k5, k6⟩, hf, ⟨s4, s5, s6⟩, fun j v hv => ?_⟩
          match j, hv with
          | 0, hv => cases hv; exact c0
          | 1, hv => cases hv; exact c1
          | 2, hv => cases hv; exact c2
          | 3, hv => cases hv; exact c3
          | 4, hv => cases hv; exact c4
          | 5, hv => cases hv; exact c5
          | 6, hv => cases hv; exact c6
          | j + 7, hv => simp [fnCells] at hv
        have hmap : rs.map (·.f) = fs := by
          apply List.ext_getElem?
          intro i
          rw [List.getElem?_map]
          cases hri : rs[i]? with
          | none =>
            have := List.getElem?_eq_none_iff.1 hri
            rw [List.getElem?_eq_none (by omega)]; rfl
          | some r => exact (hrs i r hri).1.symm
        have hmem : ∀ r ∈ rs, r.f ∈ fs := fun r hr => by rw [← hmap]; exact List.mem_map_of_mem hr
        refine ⟨some ⟨b, o, none⟩, cap, rs, by rw [hrl, ← hl], hmap, fun i r hr => ⟨b, o, rfl, (hrs i r hr).2.2⟩, fun r hr => ?_, fun r hr => ?_⟩
        · obtain ⟨i, hi⟩ := List.getElem?_of_mem hr
          exact (hrs i r hi).2.1
        · have := hw _ (hmem r hr)
          exact ⟨this.nm, this.l1, this.l2, this.l3, this.cs⟩
end
end Go.Proofs.YtlffpgjkhehdmaaDoor

/- Own work: knapsackref27.Few. -/
namespace Go.Proofs.YtlffpgjkhehdmaaDoor
open Go.RowKit
set_option linter.unusedVariables false
set_option linter.unusedSimpArgs false

def fewC (c : Cst) : Bool := decide (c.str.size ≤ 60)
def fewF (r : FnRef) : Bool := decide (r.f.name.size ≤ 40) && (decide (r.f.code.length ≤ 80) && (decide (r.f.consts.length ≤ 20) && (decide (r.f.hdls.length ≤ 10) && r.f.consts.all fewC)))
def fewB (rs : List FnRef) (n : Int) : Bool := decide ((rs.length : Int) ≤ n) && rs.all fewF

set_option maxHeartbeats 4000000 in
set_option maxRecDepth 100000 in
theorem few_any (A : Option Addr) (c : Nat) (rs : List FnRef) (n : Int) (w : World) (hP : ProgAt w A rs) (hn : n ≤ 100) :
    Calls Tryd.prog 20 #[.agg #[.slice A rs.length c], .int .i64 n] w fun e w' => e = .returned (.bool (fewB rs n)) ∧ Gr w w' := by
  have HP := Lib.hid hP
  clear hP
  by_cases hle : (rs.length : Int) ≤ n
  case neg =>
    have hd : decide (n < (rs.length : Int)) = true := by simp; omega
    have hfin : fewB rs n = false := by simp [fewB, hle]
    rw [hfin]
    clear hle
    go_enter Tryd.func20, Tryd.ntmps20
    go_wp2_with fail
    go_ret
    exact ⟨rfl, gr_alloc _ _⟩
  have hd : decide (n < (rs.length : Int)) = false := by simp; omega
  have hfin : fewB rs n = rs.all fewF := by simp [fewB, hle]
  rw [hfin]
  clear hfin
  go_enter Tryd.func20, Tryd.ntmps20
  go_wp2_with fail
  go_loopw [5] (LoopRel w w.heap.size (progBox A rs.length c) rs.length (fun k => (rs.take k).all fewF = true)) (fun i _ => rs.length - (intOf i).toNat)
  case atStart => exact ⟨0, Nat.zero_le _, rfl, rfl, gr_alloc _ _, heap_alloc_new _ _⟩
  case round =>
    obtain ⟨k, hk, rfl, hall, hgr, hbx⟩ := hrel
    obtain ⟨W1, hw1, hs1, hW, hWb⟩ := plug1b hbx
    replace hW := hgr.trans hW
    clear hbx
    unfold progBox at hw1
    subst hw1
    have Hall := Lib.hid hall
    clear hall
    by_cases hlt : k < rs.length
    · obtain ⟨b, o, hB, hcell⟩ := HP.out.sl k rs[k] (List.getElem?_eq_getElem hlt)
      have hx : rs[k]? = some rs[k] := List.getElem?_eq_getElem hlt
      have hm := List.mem_of_getElem? hx
      have HF := Lib.hid (HP.out.fns _ hm)
      have hwf := HP.out.wf _ hm
      generalize rs[k] = r at hcell hx hm HF hwf
      have hnm := hwf.nm
      have hl1 := hwf.l1
      have hl2 := hwf.l2
      have hl3 := hwf.l3
      have Hcs := Lib.hid hwf.cs
      clear hwf
      have c0 := cell_gr hW (hcell 0 _ rfl)
      have c1 := cell_gr hW (hcell 1 _ rfl)
      have c2 := cell_gr hW (hcell 2 _ rfl)
      have c3 := cell_gr hW (hcell 3 _ rfl)
      have c4 := cell_gr hW (hcell 4 _ rfl)
      have c5 := cell_gr hW (hcell 5 _ rfl)
      have c6 := cell_gr hW (hcell 6 _ rfl)
      have hblt : b < w.heap.size := block_lt_of_cell (hcell 0 _ rfl)
      have hbne : ¬ b = w.heap.size := by omega
      have hblt' : b < W1.heap.size := by omega
      rw [← Nat.add_assoc] at c0 c1 c2 c3 c4 c5 c6
      rw [Nat.add_zero] at c0
      have HX := Lib.hid hx
      clear hcell hx hm
      subst hB
      by_cases h0 : r.f.name.size ≤ 40
      case neg =>
        have hk0 : decide ((40 : Int) < (r.f.name.size : Int)) = true := by simp; omega
        have Hok := Lib.hid (show fewF r = false by simp [fewF, h0])
        clear h0
        go_wp2_with fail
        go_ret
        exact ⟨ret_bool (all_false_at HX.out Hok.out).symm, gr_then_alloc hgr _⟩
      have hk0 : decide ((40 : Int) < (r.f.name.size : Int)) = false := by simp; omega
      by_cases h1 : r.f.code.length ≤ 80
      case neg =>
        have hk1 : decide ((80 : Int) < (r.f.code.length : Int)) = true := by simp; omega
        have Hok := Lib.hid (show fewF r = false by simp [fewF, h1])
        clear h0 h1
        go_wp2_with fail
        go_ret
        exact ⟨ret_bool (all_false_at HX.out Hok.out).symm, gr_then_alloc hgr _⟩
      have hk1 : decide ((80 : Int) < (r.f.code.length : Int)) = false := by simp; omega
      by_cases h2 : r.f.consts.length ≤ 20
      case neg =>
        have hk2 : decide ((20 : Int) < (r.f.consts.length : Int)) = true := by simp; omega
        have Hok := Lib.hid (show fewF r = false by simp [fewF, h2])
        clear h0 h1 h2
        go_wp2_with fail
        go_ret
        exact ⟨ret_bool (all_false_at HX.out Hok.out).symm, gr_then_alloc hgr _⟩
      have hk2 : decide ((20 : Int) < (r.f.consts.length : Int)) = false := by simp; omega
      by_cases h3 : r.f.hdls.length ≤ 10
      case neg =>
        have hk3 : decide ((10 : Int) < (r.f.hdls.length : Int)) = true := by simp; omega
        have Hok := Lib.hid (show fewF r = false by simp [fewF, h3])
        clear h0 h1 h2 h3
        go_wp2_with fail
        go_ret
        exact ⟨ret_bool (all_false_at HX.out Hok.out).symm, gr_then_alloc hgr _⟩
      have hk3 : decide ((10 : Int) < (r.f.hdls.length : Int)) = false := by simp; omega
      have Hpre := Lib.hid (show fewF r = r.f.consts.all fewC by simp [fewF, h0, h1, h2, h3])
      go_wp2_with fail
      go_loop [7] (fun j => ∃ q : Nat, q ≤ r.f.consts.length ∧ j = .int .i64 q ∧ (r.f.consts.take q).all fewC = true) (fun j => r.f.consts.length - (intOf j).toNat)
      case atStart => exact ⟨0, Nat.zero_le _, rfl, rfl⟩
      case round =>
        obtain ⟨q, hq, rfl, hall2⟩ := hrel
        have Hall2 := Lib.hid hall2
        clear hall2
        by_cases hlt2 : q < r.f.consts.length
        · obtain ⟨b2, o2, hB2, hcell2⟩ := HF.out.consts q r.f.consts[q] (List.getElem?_eq_getElem hlt2)
          have hx2 : r.f.consts[q]? = some r.f.consts[q] := List.getElem?_eq_getElem hlt2
          have hsz2 := Hcs.out _ (List.mem_of_getElem? hx2)
          generalize r.f.consts[q] = y at hcell2 hx2 hsz2
          have d2 := cell_gr hW (hcell2 2 _ rfl)
          have hblt2 : b2 < w.heap.size := block_lt_of_cell (hcell2 2 _ rfl)
          have hbne2 : ¬ b2 = w.heap.size := by omega
          have hblt2' : b2 < W1.heap.size := by omega
          rw [← Nat.add_assoc] at d2
          have HX2 := Lib.hid hx2
          clear hcell2 hx2
          rw [hB2]
          by_cases h5 : y.str.size ≤ 60
          case neg =>
            have hk5 : decide ((60 : Int) < (y.str.size : Int)) = true := by simp; omega
            have Hok2 := Lib.hid (show fewC y = false by simp [fewC, h5])
            clear h5
            go_wp2_with fail
            go_ret
            exact ⟨ret_bool (all_false_at HX.out (Hpre.out.trans (all_false_at HX2.out Hok2.out))).symm, gr_then_alloc hgr _⟩
          have hk5 : decide ((60 : Int) < (y.str.size : Int)) = false := by simp; omega
          have Hok2 := Lib.hid (show fewC y = true by simp [fewC, h5])
          clear h5
          go_wp2_with fail
          go_round
          case rel => exact ⟨q + 1, by omega, by go_num, all_take_succ Hall2.out HX2.out Hok2.out⟩
          case measure => simp [intOf]; omega
        · go_wp2_with fail
          go_roundw
          case rel => exact ⟨k + 1, by omega, by go_num, all_take_succ Hall.out HX.out (Hpre.out.trans (all_take_len Hall2.out hlt2)), gr_then_alloc hgr _, heap_gr (gr_alloc _ _) (heap_plug_same _ _ _ hs1)⟩
          case measure => simp [intOf]; omega
    · go_wp2_with fail
      go_ret
      exact ⟨ret_bool (all_take_len Hall.out hlt).symm, hgr⟩
end Go.Proofs.YtlffpgjkhehdmaaDoor

/- Own work: what the rows of this seat share: the listed tables give what the walks ask of them. -/
namespace Go.Proofs.YtlffpgjkhehdmaaDoor
open Go.ChangeShapes Go.WideShapes Go.ChangeAt Go.RowKit Go.Lib Go.Shelf

def laid2 : List (String × DataW Unit) := Rows.bytecodeTableRow.laid
theorem own : ownKnob Tryd.prog.godebug = none := by kernel_rfl
theorem xU : U8Extra Tryd.prog Tryd.laysValid_ren := ⟨by kernel_rfl, by kernel_rfl, by kernel_rfl, by kernel_rfl, by kernel_rfl, by kernel_rfl, by kernel_rfl⟩
theorem accept_eq : (Rows.laid_unicode_utf8_acceptRanges : DataW Unit) = acceptData := by kernel_rfl
theorem tabs_of_laid {W : World} (hL : laidMetH Tryd.prog laid2 W) : Tabs W := by
  rw [MakeChecks.laidMetH_plain _ _ _ (by kernel_rfl)] at hL
  exact utf8Tabs_of_readsT (U8Types.of196 Tryd.laysValid) xU (Pinned.utf8First_eq ▸ Lib.laidMet.reads hL (.tail _ (.head _))) (accept_eq ▸ Lib.laidMet.reads hL (.head _))
/-- a world that meets the condition -/
theorem laid_met (os : Os) (args : Array Value) : laidMetH Tryd.prog laid2 ((World.laidAll Tryd.prog os laid2).forCall (fun _ _ => 0) ⟨#[], args, []⟩).memory := by
  rw [MakeChecks.laidMetH_plain _ _ _ (by kernel_rfl)]; exact laidMet_laidAll _ (by kernel_rfl) (by kernel_rfl)

end Go.Proofs.YtlffpgjkhehdmaaDoor

/- Own work: programs that come in as arguments are read out of memory. -/
namespace Go.Proofs.YtlffpgjkhehdmaaDoor
open Go.ChangeShapes Go.WideShapes Go.ChangeAt Go.RowKit Go.Deep
set_option linter.unusedVariables false
set_option linter.unusedSimpArgs false

theorem list_of {α : Type} {n : Nat} {Q : Nat → α → Prop} (h : ∀ i, i < n → ∃ x, Q i x) : ∃ xs : List α, xs.length = n ∧ ∀ i x, xs[i]? = some x → Q i x := by
  induction n with
  | zero => exact ⟨[], rfl, fun i x hx => by simp at hx⟩
  | succ n ih =>
    obtain ⟨xs, hl, hx⟩ := ih fun i hi => h i (by omega)
    obtain ⟨y, hy⟩ := h n (by omega)
    refine ⟨xs ++ [y], by simp [hl], fun i x hi => ?_⟩
    by_cases hlt : i < xs.length
    · rw [List.getElem?_append_left hlt] at hi; exact hx i x hi
    · rw [List.getElem?_append_right (by omega)] at hi
      have : i - xs.length = 0 := by
        rcases Nat.eq_zero_or_pos (i - xs.length) with h0 | h0
        · exact h0
        · rw [List.getElem?_eq_none (by simp; omega)] at hi; cases hi
      rw [this] at hi
      obtain rfl : y = x := by simpa using hi
      obtain rfl : i = n := by omega
      exact hy

section
variable {H : Type} {enc : TypeId × Value → H} {w : World} {base : Nat} {spare : Nat → Bool} {held : Bool}

theorem cell_spot_none {w : World} {a : Addr} {v : Value} (h : w.cell? a = some v) : a.spot = none := by
  obtain ⟨b, o, sp⟩ := a
  cases sp with
  | none => rfl
  | some x =>
    unfold World.cell? at h
    split at h <;> simp at h

/-- a slice whose elements are read as α -/
theorem read_rows {α : Type} {t e : TypeId} {s : Nat} {cells : α → List Value} {Q : α → Prop} {fuel : Nat} {cs : List Value} {x : DataW H × List MemPlace} (ht : Tryd.prog.underlying t = some (.slice e)) (hs : Tryd.prog.cellsOf e = s) (hs0 : 0 < s)
    (hlen : ∀ a, (cells a).length = s)
    (hel : ∀ fuel cs x, DataW.trod enc Tryd.prog w base spare held fuel e cs = some x → ∃ a, cs = cells a ∧ Q a) (h : DataW.trod enc Tryd.prog w base spare held fuel t cs = some x) :
    ∃ (A : Option Addr) (xs : List α) (c : Nat), cs = [.slice A xs.length c] ∧ SlAt w A s cells xs ∧ (∀ a ∈ xs, Q a) ∧ xs.length ≤ c ∧ c ≤ maxLen := by
  rcases open_slice ht h with ⟨rfl, _⟩ | ⟨a, len, cap, m, n, D, Pl, rfl, _, hl, hm, hmm, _, hi⟩
  · exact ⟨none, [], 0, rfl, SlAt.nil, fun _ h => by simp at h, Nat.le_refl _, Nat.zero_le _⟩
  have hlm : len ≤ m := by rw [hmm]; split <;> omega
  obtain ⟨xs, hxl, hxs⟩ := list_of (n := len) (Q := fun i (y : α) => Q y ∧ ∀ j v, (cells y)[j]? = some v → w.cell? ((a.add (i * s)).add j) = some v) fun i hi' => by
    obtain ⟨cs', hc, ht'⟩ := hi i (by omega)
    rw [hs] at hc
    obtain ⟨y, rfl, hq⟩ := hel _ _ _ ht'
    obtain ⟨_, hcl, hat⟩ := World.cells?_some hc
    exact ⟨y, hq, fun j v hv => by rw [hat j (by rw [← hcl]; exact (List.getElem?_eq_some_iff.1 hv).1), hv]⟩
  refine ⟨some a, xs, cap, by rw [hxl], fun i y hy => ?_, fun y hy => ?_, by omega, hm⟩
  · have hlt : i < xs.length := (List.getElem?_eq_some_iff.1 hy).1
    have h0 : xs[0]? = some xs[0] := List.getElem?_eq_getElem (by omega)
    have hcs0 : 0 < (cells xs[0]).length := by rw [hlen]; exact hs0
    have hc0 := (hxs 0 _ h0).2 0 _ (List.getElem?_eq_getElem hcs0)
    have hsp : a.spot = none := by
      have := cell_spot_none hc0
      simpa [Addr.add] using this
    obtain ⟨b, o, sp⟩ := a
    simp only at hsp
    subst hsp
    refine ⟨b, o, rfl, fun j v hv => ?_⟩
    have := (hxs i y hy).2 j v hv
    have e : ((⟨b, o, none⟩ : Addr).add (i * s)).add j = ⟨b, o + (i * s + j), none⟩ := by
      unfold Addr.add
      by_cases h1 : i * s = 0 <;> by_cases h2 : j = 0 <;> simp [h1, h2, Nat.add_assoc]
    rw [e] at this
    exact this
  · obtain ⟨i, hi'⟩ := List.getElem?_of_mem hy
    exact (hxs i y hi').1

theorem c_int : Tryd.prog.cellsOf 3 = 1 := by kernel_rfl
theorem c_int64 : Tryd.prog.cellsOf 2 = 1 := by kernel_rfl
theorem c_str : Tryd.prog.cellsOf 9 = 1 := by kernel_rfl
theorem c_s1 : Tryd.prog.cellsOf 46 = 1 := by kernel_rfl
theorem c_s2 : Tryd.prog.cellsOf 47 = 1 := by kernel_rfl
theorem c_s3 : Tryd.prog.cellsOf 48 = 1 := by kernel_rfl
theorem c_s4 : Tryd.prog.cellsOf 31 = 1 := by kernel_rfl
theorem c_ins : Tryd.prog.cellsOf 54 = 3 := by kernel_rfl
theorem c_cst : Tryd.prog.cellsOf 69 = 3 := by kernel_rfl
theorem c_hdl : Tryd.prog.cellsOf 56 = 5 := by kernel_rfl
theorem c_fn : Tryd.prog.cellsOf 50 = 7 := by kernel_rfl
theorem c_prog : Tryd.prog.cellsOf 33 = 1 := by kernel_rfl

/-- an int of Go's -/
def I64 (n : Int) : Prop := -9223372036854775808 ≤ n ∧ n ≤ 9223372036854775807
theorem i64_of_wf {n : Int} (h : (Lit.int .i64 n).wf = true) : I64 n := by
  simpa [Lit.wf, IntKind.min, IntKind.max, IntKind.signed, IntKind.bits, I64] using h

structure InsWf (x : Ins) : Prop where
  op : I64 x.op
  a : I64 x.a
  b : I64 x.b
structure CstWf (c : Cst) : Prop where
  kind : I64 c.kind
  int : I64 c.int
  str : c.str.size ≤ 9223372036854775807
structure HdlWf (h : Hdl) : Prop where
  lo : I64 h.lo
  hi : I64 h.hi
  tg : I64 h.tg
  dp : I64 h.dp
  sc : I64 h.sc

theorem len3 {α : Type} {l : List α} (h : l.length = 3) : ∃ a b c, l = [a, b, c] := by
  match l, h with
  | [a, b, c], _ => exact ⟨a, b, c, rfl⟩
theorem len5 {α : Type} {l : List α} (h : l.length = 5) : ∃ a b c d e, l = [a, b, c, d, e] := by
  match l, h with
  | [a, b, c, d, e], _ => exact ⟨a, b, c, d, e, rfl⟩
theorem len7 {α : Type} {l : List α} (h : l.length = 7) : ∃ a b c d e f g, l = [a, b, c, d, e, f, g] := by
  match l, h with
  | [a, b, c, d, e, f, g], _ => exact ⟨a, b, c, d, e, f, g, rfl⟩

theorem read_ins (fuel : Nat) (cs : List Value) (x : DataW H × List MemPlace) (h : DataW.trod enc Tryd.prog w base spare held fuel 54 cs = some x) : ∃ i : Ins, cs = insCells i ∧ InsWf i := by
  obtain ⟨ys, n, _, _, hcl, hyl, hf⟩ := DataW.trod_struct Tryd.underlying54 h
  rw [c_ins] at hcl
  obtain ⟨c0, c1, c2, rfl⟩ := len3 hcl
  obtain ⟨y0, y1, y2, rfl⟩ := len3 (show ys.length = 3 from hyl)
  have h0 : DataW.trod enc Tryd.prog w base spare held n 3 (([c0, c1, c2].drop 0).take (Tryd.prog.cellsOf 3)) = some y0 := hf 0 _ rfl
  rw [c_int] at h0
  have h1 : DataW.trod enc Tryd.prog w base spare held n 3 (([c0, c1, c2].drop 1).take (Tryd.prog.cellsOf 3)) = some y1 := hf 1 _ rfl
  rw [c_int] at h1
  have h2 : DataW.trod enc Tryd.prog w base spare held n 3 (([c0, c1, c2].drop 2).take (Tryd.prog.cellsOf 3)) = some y2 := hf 2 _ rfl
  rw [c_int] at h2
  obtain ⟨a, e0, _, w0⟩ := DataW.trod_int Tryd.underlying3 h0
  obtain ⟨b, e1, _, w1⟩ := DataW.trod_int Tryd.underlying3 h1
  obtain ⟨c, e2, _, w2⟩ := DataW.trod_int Tryd.underlying3 h2
  simp at e0 e1 e2
  subst e0 e1 e2
  exact ⟨⟨a, b, c⟩, rfl, i64_of_wf w0, i64_of_wf w1, i64_of_wf w2⟩
theorem read_cst (fuel : Nat) (cs : List Value) (x : DataW H × List MemPlace) (h : DataW.trod enc Tryd.prog w base spare held fuel 69 cs = some x) : ∃ i : Cst, cs = cstCells i ∧ CstWf i := by
  obtain ⟨ys, n, _, _, hcl, hyl, hf⟩ := DataW.trod_struct Tryd.underlying69 h
  rw [c_cst] at hcl
  obtain ⟨c0, c1, c2, rfl⟩ := len3 hcl
  obtain ⟨y0, y1, y2, rfl⟩ := len3 (show ys.length = 3 from hyl)
  have h0 : DataW.trod enc Tryd.prog w base spare held n 3 (([c0, c1, c2].drop 0).take (Tryd.prog.cellsOf 3)) = some y0 := hf 0 _ rfl
  rw [c_int] at h0
  have h1 : DataW.trod enc Tryd.prog w base spare held n 2 (([c0, c1, c2].drop 1).take (Tryd.prog.cellsOf 2)) = some y1 := hf 1 _ rfl
  rw [c_int64] at h1
  have h2 : DataW.trod enc Tryd.prog w base spare held n 9 (([c0, c1, c2].drop 2).take (Tryd.prog.cellsOf 9)) = some y2 := hf 2 _ rfl
  rw [c_str] at h2
  obtain ⟨a, e0, _, w0⟩ := DataW.trod_int Tryd.underlying3 h0
  obtain ⟨b, e1, _, w1⟩ := DataW.trod_int Tryd.underlying2 h1
  obtain ⟨c, e2, _, w2⟩ := DataW.trod_string Tryd.underlying9 h2
  simp at e0 e1 e2
  subst e0 e1 e2
  exact ⟨⟨a, b, c⟩, rfl, i64_of_wf w0, i64_of_wf w1, w2⟩
theorem read_hdl (fuel : Nat) (cs : List Value) (x : DataW H × List MemPlace) (h : DataW.trod enc Tryd.prog w base spare held fuel 56 cs = some x) : ∃ i : Hdl, cs = hdlCells i ∧ HdlWf i := by
  obtain ⟨ys, n, _, _, hcl, hyl, hf⟩ := DataW.trod_struct Tryd.underlying56 h
  rw [c_hdl] at hcl
  obtain ⟨c0, c1, c2, c3, c4, rfl⟩ := len5 hcl
  obtain ⟨y0, y1, y2, y3, y4, rfl⟩ := len5 (show ys.length = 5 from hyl)
  have h0 : DataW.trod enc Tryd.prog w base spare held n 3 (([c0, c1, c2, c3, c4].drop 0).take (Tryd.prog.cellsOf 3)) = some y0 := hf 0 _ rfl
  rw [c_int] at h0
  have h1 : DataW.trod enc Tryd.prog w base spare held n 3 (([c0, c1, c2, c3, c4].drop 1).take (Tryd.prog.cellsOf 3)) = some y1 := hf 1 _ rfl
  rw [c_int] at h1
  have h2 : DataW.trod enc Tryd.prog w base spare held n 3 (([c0, c1, c2, c3, c4].drop 2).take (Tryd.prog.cellsOf 3)) = some y2 := hf 2 _ rfl
  rw [c_int] at h2
  have h3 : DataW.trod enc Tryd.prog w base spare held n 3 (([c0, c1, c2, c3, c4].drop 3).take (Tryd.prog.cellsOf 3)) = some y3 := hf 3 _ rfl
  rw [c_int] at h3
  have h4 : DataW.trod enc Tryd.prog w base spare held n 3 (([c0, c1, c2, c3, c4].drop 4).take (Tryd.prog.cellsOf 3)) = some y4 := hf 4 _ rfl
  rw [c_int] at h4
  obtain ⟨a, e0, _, w0⟩ := DataW.trod_int Tryd.underlying3 h0
  obtain ⟨b, e1, _, w1⟩ := DataW.trod_int Tryd.underlying3 h1
  obtain ⟨c, e2, _, w2⟩ := DataW.trod_int Tryd.underlying3 h2
  obtain ⟨d, e3, _, w3⟩ := DataW.trod_int Tryd.underlying3 h3
  obtain ⟨e, e4, _, w4⟩ := DataW.trod_int Tryd.underlying3 h4
  simp at e0 e1 e2 e3 e4
  subst e0 e1 e2 e3 e4
  exact ⟨⟨a, b, c, d, e⟩, rfl, i64_of_wf w0, i64_of_wf w1, i64_of_wf w2, i64_of_wf w3, i64_of_wf w4⟩

/-- all that a reading gives of a function -/
structure FnFull (w : World) (r : FnRef) : Prop where
  at_ : FnAt w r.A r.B r.C r.f
  wf : FnWf r
  kind : I64 r.f.kind
  params : I64 r.f.params
  locals : I64 r.f.locals
  code : ∀ x ∈ r.f.code, InsWf x
  consts : ∀ x ∈ r.f.consts, CstWf x
  hdls : ∀ x ∈ r.f.hdls, HdlWf x
  la : r.f.code.length ≤ r.ca
  lb : r.f.consts.length ≤ r.cb
  lc : r.f.hdls.length ≤ r.cc
  ma : r.ca ≤ maxLen
  mb : r.cb ≤ maxLen
  mc : r.cc ≤ maxLen

theorem read_fn (fuel : Nat) (cs : List Value) (x : DataW H × List MemPlace) (h : DataW.trod enc Tryd.prog w base spare held fuel 50 cs = some x) : ∃ r : FnRef, cs = fnCells r ∧ FnFull w r := by
  obtain ⟨ys, n, _, _, hcl, hyl, hf⟩ := DataW.trod_struct Tryd.underlying50 h
  rw [c_fn] at hcl
  obtain ⟨c0, c1, c2, c3, c4, c5, c6, rfl⟩ := len7 hcl
  obtain ⟨y0, y1, y2, y3, y4, y5, y6, rfl⟩ := len7 (show ys.length = 7 from hyl)
  have h0 : DataW.trod enc Tryd.prog w base spare held n 9 (([c0, c1, c2, c3, c4, c5, c6].drop 0).take (Tryd.prog.cellsOf 9)) = some y0 := hf 0 _ rfl
  rw [c_str] at h0
  have h1 : DataW.trod enc Tryd.prog w base spare held n 3 (([c0, c1, c2, c3, c4, c5, c6].drop 1).take (Tryd.prog.cellsOf 3)) = some y1 := hf 1 _ rfl
  rw [c_int] at h1
  have h2 : DataW.trod enc Tryd.prog w base spare held n 3 (([c0, c1, c2, c3, c4, c5, c6].drop 2).take (Tryd.prog.cellsOf 3)) = some y2 := hf 2 _ rfl
  rw [c_int] at h2
  have h3 : DataW.trod enc Tryd.prog w base spare held n 3 (([c0, c1, c2, c3, c4, c5, c6].drop 3).take (Tryd.prog.cellsOf 3)) = some y3 := hf 3 _ rfl
  rw [c_int] at h3
  have h4 : DataW.trod enc Tryd.prog w base spare held n 46 (([c0, c1, c2, c3, c4, c5, c6].drop 4).take (Tryd.prog.cellsOf 46)) = some y4 := hf 4 _ rfl
  rw [c_s1] at h4
  have h5 : DataW.trod enc Tryd.prog w base spare held n 47 (([c0, c1, c2, c3, c4, c5, c6].drop 5).take (Tryd.prog.cellsOf 47)) = some y5 := hf 5 _ rfl
  rw [c_s2] at h5
  have h6 : DataW.trod enc Tryd.prog w base spare held n 48 (([c0, c1, c2, c3, c4, c5, c6].drop 6).take (Tryd.prog.cellsOf 48)) = some y6 := hf 6 _ rfl
  rw [c_s3] at h6
  obtain ⟨nm, e0, _, w0⟩ := DataW.trod_string Tryd.underlying9 h0
  obtain ⟨kd, e1, _, w1⟩ := DataW.trod_int Tryd.underlying3 h1
  obtain ⟨pr, e2, _, w2⟩ := DataW.trod_int Tryd.underlying3 h2
  obtain ⟨lo, e3, _, w3⟩ := DataW.trod_int Tryd.underlying3 h3
  obtain ⟨A, code, ca, e4, hA, qA, la, ma⟩ := read_rows (cells := insCells) (Q := InsWf) Tryd.underlying46 c_ins (by decide) insCells_len read_ins h4
  obtain ⟨B, consts, cb, e5, hB, qB, lb, mb⟩ := read_rows (cells := cstCells) (Q := CstWf) Tryd.underlying47 c_cst (by decide) cstCells_len read_cst h5
  obtain ⟨C, hdls, cc, e6, hC, qC, lc, mc⟩ := read_rows (cells := hdlCells) (Q := HdlWf) Tryd.underlying48 c_hdl (by decide) hdlCells_len read_hdl h6
  simp at e0 e1 e2 e3 e4 e5 e6
  subst e0 e1 e2 e3 e4 e5 e6
  have hm : maxLen = 9223372036854775807 := rfl
  refine ⟨⟨⟨nm, kd, pr, lo, code, consts, hdls⟩, A, B, C, ca, cb, cc⟩, rfl, ⟨hA, hB, hC⟩, ⟨w0, ?_, ?_, ?_, fun c hc => (qB c hc).str⟩, i64_of_wf w1, i64_of_wf w2, i64_of_wf w3, qA, qB, qC, la, lb, lc, ma, mb, mc⟩
  · exact Nat.le_trans la (hm ▸ ma)
  · exact Nat.le_trans lb (hm ▸ mb)
  · exact Nat.le_trans lc (hm ▸ mc)

set_option maxRecDepth 100000 in
/-- a program as an argument -/
theorem open_prog {r : Reach} {b0 : Nat} {v : Value} {d : DataW H} {p : List MemPlace} (hv : Value.okWide Tryd.prog w r b0 33 v) (h : DataW.Trod enc Tryd.prog w base spare held 33 v d p) :
    ∃ (A : Option Addr) (rs : List FnRef) (c : Nat), v = .agg #[.slice A rs.length c] ∧ ProgAt w A rs ∧ (∀ r ∈ rs, FnFull w r) ∧ rs.length ≤ c ∧ c ≤ maxLen := by
  obtain ⟨cs, rfl, hsz⟩ := okWide_struct Tryd.underlying33 hv
  obtain ⟨fuel, hf⟩ := h
  obtain ⟨ys, n, _, _, hcl, hyl, hfs⟩ := DataW.trod_struct Tryd.underlying33 hf
  rw [c_prog] at hcl
  obtain ⟨c0, hc0⟩ := List.length_eq_one_iff.1 hcl
  obtain ⟨y0, rfl⟩ := List.length_eq_one_iff.1 (show ys.length = 1 from hyl)
  rw [hc0] at hfs
  have h0 : DataW.trod enc Tryd.prog w base spare held n 31 (([c0].drop 0).take (Tryd.prog.cellsOf 31)) = some y0 := hfs 0 _ rfl
  rw [c_s4] at h0
  obtain ⟨A, rs, c, e, hA, q, la, ma⟩ := read_rows (cells := fnCells) (Q := FnFull w) Tryd.underlying31 c_fn (by decide) fnCells_len read_fn h0
  simp at e
  subst e
  refine ⟨A, rs, c, ?_, ⟨hA, fun r hr => (q r hr).at_, fun r hr => (q r hr).wf⟩, q, la, ma⟩
  have hc1 : cs.toList = [.slice A rs.length c] := hc0
  rw [← Array.toArray_toList (xs := cs), hc1]
end
end Go.Proofs.YtlffpgjkhehdmaaDoor

/- Own work: a program in memory, as data. -/
namespace Go.Proofs.YtlffpgjkhehdmaaDoor
open Go.RowKit
set_option maxRecDepth 100000

section
variable {w : World}
theorem rep_sl {α : Type} {s cap : Nat} {A : Option Addr} {cells : α → List Value} {pc : α → List PV} {xs : List α} (hs : ∀ x, (pc x).length = s) (hl : ∀ x, (cells x).length = s) (hpos : 0 < s) (hcap : xs.length ≤ cap) (h : SlAt w A s cells xs)
    (hone : ∀ x ∈ xs, ∀ (j : Nat) (v : Value), (cells x)[j]? = some v → v.oneCell' = true) (hr : ∀ x ∈ xs, ∀ (j : Nat) (a : PV) (v : Value), (pc x)[j]? = some a → (cells x)[j]? = some v → RepP w (fun _ => True) a v) : RepP w (fun _ => True) (.ro s (xs.map pc)) (.slice A xs.length cap) := by
  cases hx : xs with
  | nil => exact .ro0 _ _ _
  | cons x0 xs0 =>
    rw [← hx]
    obtain ⟨b, o, hA, hc0⟩ := h 0 x0 (by rw [hx]; rfl)
    have hat : ∀ (i : Nat) (x : α), xs[i]? = some x → ∀ (j : Nat) (v : Value), (cells x)[j]? = some v → w.cell? ⟨b, o + (i * s + j), none⟩ = some v := fun i x hi j v hv => by
      obtain ⟨b', o', hA', hc⟩ := h i x hi
      rw [hA] at hA'
      cases hA'
      exact hc j v hv
    obtain ⟨v0, hv0⟩ : ∃ v, (cells x0)[0]? = some v := ⟨_, List.getElem?_eq_getElem (by rw [hl]; exact hpos)⟩
    have hb : b < w.heap.size := block_lt_of_cell (hat 0 x0 (by rw [hx]; rfl) 0 v0 hv0)
    obtain ⟨vs, hvs⟩ : ∃ vs : Nat → Nat → Value, ∀ i j x v, xs[i]? = some x → (cells x)[j]? = some v → vs i j = v := ⟨fun i j => ((((xs[i]?).map cells).getD [])[j]?).getD undef, fun i j x v h1 h2 => by simp [h1, h2]⟩
    have key : ∀ (i j : Nat) (row : List PV) (a : PV), (xs.map pc)[i]? = some row → row[j]? = some a → ∃ x v, xs[i]? = some x ∧ (cells x)[j]? = some v ∧ (pc x)[j]? = some a := fun i j row a h1 h2 => by
      rw [List.getElem?_map] at h1
      cases hi : xs[i]? with
      | none => rw [hi] at h1; cases h1
      | some x =>
        rw [hi] at h1; cases h1
        have hj := (List.getElem?_eq_some_iff.1 h2).1
        rw [hs] at hj
        exact ⟨x, _, rfl, List.getElem?_eq_getElem (by rw [hl]; exact hj), h2⟩
    have := RepP.ro (w := w) (R := fun _ => True) s (xs.map pc) b o cap vs trivial hb (by simpa using hcap) (fun i row h1 => by
      rw [List.getElem?_map] at h1
      cases hi : xs[i]? with
      | none => rw [hi] at h1; cases h1
      | some x => rw [hi] at h1; cases h1; exact hs x) (fun i j row a h1 h2 => by
      obtain ⟨x, v, hx, hv, ha⟩ := key i j row a h1 h2
      rw [hvs i j x v hx hv]
      exact ⟨hat i x hx j v hv, hone x (List.mem_of_getElem? hx) j v hv⟩) (fun i j row a h1 h2 => by
      obtain ⟨x, v, hx, hv, ha⟩ := key i j row a h1 h2
      rw [hvs i j x v hx hv]
      exact hr x (List.mem_of_getElem? hx) j a v ha hv)
    rw [hA]
    simpa using this
theorem repV {α : Type} {cells : α → List Value} {pc : α → List PV} (hpc : ∀ x, pc x = (cells x).map .v) (x : α) (j : Nat) (a : PV) (v : Value) (h1 : (pc x)[j]? = some a) (h2 : (cells x)[j]? = some v) : RepP w (fun _ => True) a v := by
  rw [hpc, List.getElem?_map, h2] at h1
  cases h1
  exact .v _
/-- what the walks ask of a function -/
structure FnCap (r : FnRef) : Prop where
  a : r.f.code.length ≤ r.ca
  b : r.f.consts.length ≤ r.cb
  c : r.f.hdls.length ≤ r.cc
theorem one_ins (x : Ins) (j : Nat) (v : Value) (h : (insCells x)[j]? = some v) : v.oneCell' = true := by
  match j, h with
  | 0, h => cases h; rfl
  | 1, h => cases h; rfl
  | 2, h => cases h; rfl
  | j + 3, h => simp [insCells] at h
theorem one_cst (x : Cst) (j : Nat) (v : Value) (h : (cstCells x)[j]? = some v) : v.oneCell' = true := by
  match j, h with
  | 0, h => cases h; rfl
  | 1, h => cases h; rfl
  | 2, h => cases h; rfl
  | j + 3, h => simp [cstCells] at h
theorem one_hdl (x : Hdl) (j : Nat) (v : Value) (h : (hdlCells x)[j]? = some v) : v.oneCell' = true := by
  match j, h with
  | 0, h => cases h; rfl
  | 1, h => cases h; rfl
  | 2, h => cases h; rfl
  | 3, h => cases h; rfl
  | 4, h => cases h; rfl
  | j + 5, h => simp [hdlCells] at h
theorem one_fn (x : FnRef) (j : Nat) (v : Value) (h : (fnCells x)[j]? = some v) : v.oneCell' = true := by
  match j, h with
  | 0, h => cases h; rfl
  | 1, h => cases h; rfl
  | 2, h => cases h; rfl
  | 3, h => cases h; rfl
  | 4, h => cases h; rfl
  | 5, h => cases h; rfl
  | 6, h => cases h; rfl
  | j + 7, h => simp [fnCells] at h
theorem rep_prog {A : Option Addr} {rs : List FnRef} {c : Nat} (h : ProgAt w A rs) (hc : rs.length ≤ c) (hf : ∀ r ∈ rs, FnCap r) : RepP w (fun _ => True) (pProg (rs.map (·.f))) (.agg #[.slice A rs.length c]) := by
  have h1 : RepP w (fun _ => True) (.ro 7 (rs.map fun r => pFn r.f)) (.slice A rs.length c) := by
    refine rep_sl (cells := fnCells) (fun r => rfl) fnCells_len (by decide) hc h.sl (fun x _ => one_fn x) fun r hr j a v ha hv => ?_
    have hF := h.fns r hr
    have hC := hf r hr
    match j, ha, hv with
    | 0, ha, hv => cases ha; cases hv; exact .v _
    | 1, ha, hv => cases ha; cases hv; exact .v _
    | 2, ha, hv => cases ha; cases hv; exact .v _
    | 3, ha, hv => cases ha; cases hv; exact .v _
    | 4, ha, hv => cases ha; cases hv; exact rep_sl (cells := insCells) (fun _ => rfl) insCells_len (by decide) hC.a hF.code (fun x _ => one_ins x) fun x _ => repV pIns_v x
    | 5, ha, hv => cases ha; cases hv; exact rep_sl (cells := cstCells) (fun _ => rfl) cstCells_len (by decide) hC.b hF.consts (fun x _ => one_cst x) fun x _ => repV pCst_v x
    | 6, ha, hv => cases ha; cases hv; exact rep_sl (cells := hdlCells) (fun _ => rfl) hdlCells_len (by decide) hC.c hF.hdls (fun x _ => one_hdl x) fun x _ => repV pHdl_v x
    | j + 7, ha, hv => simp [fnCells] at hv
  have h2 : pFns (rs.map (·.f)) = rs.map fun r => pFn r.f := by rw [pFns, List.map_map]; rfl
  unfold pProg
  rw [h2]
  refine .agg [_] [_] rfl fun j a v ha hv => ?_
  match j, ha, hv with
  | 0, ha, hv => cases ha; cases hv; exact h1
  | j + 1, ha, hv => simp at hv
/-- the arguments, one by one -/
def Reps (w : World) (ps : List PV) (vs : List Value) : Prop := ps.length = vs.length ∧ ∀ (j : Nat) (a : PV) (v : Value), ps[j]? = some a → vs[j]? = some v → RepP w (fun _ => True) a v
theorem reps0 : Reps w [] [] := ⟨rfl, fun j a v h => by simp at h⟩
theorem repsC {p : PV} {v : Value} {ps : List PV} {vs : List Value} (h : RepP w (fun _ => True) p v) (hr : Reps w ps vs) : Reps w (p :: ps) (v :: vs) := by
  refine ⟨by simp [hr.1], fun j a x ha hx => ?_⟩
  cases j with
  | zero => simp at ha hx; subst ha; subst hx; exact h
  | succ j => exact hr.2 j a x (by simpa using ha) (by simpa using hx)
theorem ret_trueT {f : FuncId} {ps : List PV} {vs : List Value} (h : RT f ps (pB true)) (hT : Tabs w) (hr : Reps w ps vs) : Calls Tryd.prog f vs.toArray w fun e W' => e = .returned (.bool true) ∧ Gr w W' :=
  (h.2 w (fun _ => True) vs hT hr.1 hr.2).mono fun e w' ⟨h2, v, h1, h3⟩ => ⟨by cases h3; exact h1, h2⟩
theorem fnCap_of {r : FnRef} (h : FnFull w r) : FnCap r := ⟨h.la, h.lb, h.lc⟩
theorem fnSz_of {rs : List FnRef} {A : Option Addr} (h : ProgAt w A rs) : ∀ f ∈ rs.map (·.f), FnSz f := by
  intro f hf
  obtain ⟨r, hr, rfl⟩ := List.mem_map.1 hf
  have := h.wf r hr
  exact ⟨this.nm, this.l1, this.l2, this.l3, this.cs⟩
end
end Go.Proofs.YtlffpgjkhehdmaaDoor

/- Own work: knapsacklaw27.awake. -/
namespace Go.Proofs.YtlffpgjkhehdmaaDoor
open Go.RowKit
set_option linter.unusedVariables false
set_option linter.unusedSimpArgs false

def awFn : Fn := ⟨⟨#[102]⟩, 1, 0, 0, [⟨2, 0, 0⟩, ⟨48, 0, 0⟩], [], []⟩
def awRef (g : Nat) : FnRef := ⟨awFn, some ⟨g, 0, none⟩, none, none, 2, 0, 0⟩
theorem aw_formed (g : Nat) : progB [awRef g] = true := by kernel_rfl

theorem aw_at {w : World} {g h : Nat} {t u : TypeId} (hg : w.heap[g]? = some (.cells #[.int .i64 2, .int .i64 0, .int .i64 0, .int .i64 48, .int .i64 0, .int .i64 0] t (0, 0)))
    (hh : w.heap[h]? = some (.cells #[.string ⟨#[102]⟩, .int .i64 1, .int .i64 0, .int .i64 0, .slice (some ⟨g, 0, none⟩) 2 2, .slice none 0 0, .slice none 0 0] u (0, 0))) : ProgAt w (some ⟨h, 0, none⟩) [awRef g] := by
  refine ⟨SlAt.of_block fnCells_len hh rfl, fun r hr => ?_, fun r hr => ?_⟩
  · obtain rfl : r = awRef g := by simpa using hr
    exact ⟨SlAt.of_block insCells_len hg rfl, SlAt.nil, SlAt.nil⟩
  · obtain rfl : r = awRef g := by simpa using hr
    refine ⟨?_, ?_, ?_, ?_, fun c hc => ?_⟩
    · show (1 : Nat) ≤ _; omega
    · show (2 : Nat) ≤ _; omega
    · show (0 : Nat) ≤ _; omega
    · show (0 : Nat) ≤ _; omega
    · simp [awRef, awFn] at hc

theorem desc46 (w : World) : Calls Tryd.prog 18 #[.int .i64 46] w fun e w' => e = .returned (.tuple #[.agg #[.string ⟨#[67, 97, 108, 108]⟩, .int .i64 6, .int .i64 2, .int .i64 1, .bool true, .int .i64 0, .bool false], .int .i64 0]) ∧ Gr w w' :=
  (desc_in 46 w (by decide) (by decide)).mono fun e w' h => ⟨h.1.trans (by kernel_rfl), h.2⟩
set_option maxHeartbeats 1000000 in
set_option maxRecDepth 100000 in
theorem awake27 (w : World) (hT : Tabs w) : Calls Tryd.prog 17 #[] w fun e w' => e = .returned (.bool true) ∧ Gr w w' := by
  have HT := Lib.hid hT
  clear hT
  go_enter Tryd.func17, Tryd.ntmps17
  go_wp2_with fail
  refine (desc46 _).mono ?_
  rintro e w1 ⟨rfl, hb1⟩
  have e1 := heap_gr hb1 (heap_gr (gr_alloc2 _ _ _) (heap_alloc_new w _))
  have e2 := heap_gr hb1 (heap_gr (gr_alloc _ _) (heap_alloc_new (w.alloc _) _))
  have e3 := heap_gr hb1 (heap_alloc_new ((w.alloc _).alloc _) _)
  simp only [World.size_alloc] at e1 e2 e3
  have hP := aw_at e1 e2
  have hW0 : Gr w w1 := (gr_alloc3 w _ _ _).trans hb1
  clear hb1 e1 e2
  obtain ⟨W, hw1, hs1, hW, hWb⟩ := plug1b e3
  have HP := Lib.hid hP
  replace hW := hW0.trans hW
  clear e3 hP
  subst hw1
  go_wp2_with fail
  refine (Formed_eq (some ⟨w.heap.size + 1, 0, none⟩) 1 [awRef w.heap.size] _ true (aw_formed _) (HT.out.gr (gr_then_alloc hW0 _)) (HP.out.gr (gr_alloc _ _)) (by simp)).mono ?_
  rintro e w2 ⟨rfl, hb2⟩
  have e2 := heap_gr hb2 (heap_alloc_new _ _)
  simp only [size_plug] at e2
  have hW2 : Gr w w2 := (gr_then_alloc hW0 _).trans hb2
  clear hb2
  obtain ⟨W2, hw2, hs2, hW3, _⟩ := plug1b e2
  replace hW3 := hW2.trans hW3
  clear e2
  subst hw2
  go_wp2_with fail
  go_ret
  exact ⟨rfl, hW2⟩
end Go.Proofs.YtlffpgjkhehdmaaDoor
