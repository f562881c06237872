/- Own work: bytecode.formed, its loops. -/
import Derived.Test.YtlffpgjkhehdmaaDoorFormed
namespace Go.Proofs.YtlffpgjkhehdmaaDoor
open Go.RowKit
set_option linter.unusedVariables false
set_option linter.unusedSimpArgs false

/-- what holds at a loop's head: the counter, what has been found, the old memory, one box -/
def LoopRel (w : World) (g : Nat) (bx : Obj) (n : Nat) (P : Nat → Prop) (i : Value) (wr : World) : Prop := ∃ k : Nat, k ≤ n ∧ i = .int .i64 k ∧ P k ∧ Gr w wr ∧ wr.heap[g]? = some bx
theorem all_take_succ {α : Type} {p : α → Bool} {l : List α} {k : Nat} {x : α} (h : (l.take k).all p = true) (hx : l[k]? = some x) (hp : p x = true) : (l.take (k + 1)).all p = true := by
  rw [List.take_add_one, hx]; simp only [Option.toList_some, List.all_append, h, List.all_cons, hp, List.all_nil, Bool.and_self]
theorem all_false_at {α : Type} {p : α → Bool} {l : List α} {k : Nat} {x : α} (hx : l[k]? = some x) (hp : p x = false) : l.all p = false := by
  rw [List.all_eq_false]; exact ⟨x, List.mem_of_getElem? hx, by simp [hp]⟩
theorem all_take_len {α : Type} {p : α → Bool} {l : List α} {k : Nat} (h : (l.take k).all p = true) (hk : ¬ k < l.length) : l.all p = true := by
  rwa [List.take_of_length_le (by omega)] at h
theorem parts1 {f : Fn} {funcs : Int} (h : f.consts.all cstOk = false) : partsB f funcs = false := by unfold partsB; rw [h]; rfl
theorem parts2 {f : Fn} {funcs : Int} (h : f.code.all (fitsB f funcs) = false) : partsB f funcs = false := by unfold partsB; rw [h]; simp
theorem parts3 {f : Fn} {funcs : Int} (h : f.hdls.all (hdlOk f.code.length) = false) : partsB f funcs = false := by unfold partsB; rw [h]; simp
theorem parts0 {f : Fn} {funcs : Int} (h1 : f.consts.all cstOk = true) (h2 : f.code.all (fitsB f funcs) = true) (h3 : f.hdls.all (hdlOk f.code.length) = true) : partsB f funcs = true := by unfold partsB; rw [h1, h2, h3]; rfl
theorem fits_eq (f : Fn) (A B C : Option Addr) (ca cb cc : Nat) (funcs : Int) (x : Ins) (w : World) (r : Bool) (hr : fitsB f funcs x = r) (hl : f.consts.length ≤ 10000) (hco : f.code.length ≤ 65536) (hlo : 0 ≤ f.locals) (hlo' : f.locals ≤ 10000) (hfu : 0 ≤ funcs) (hfu' : funcs ≤ 1000000) (hB : SlAt w B 3 cstCells f.consts) :
    Calls Tryd.prog 79 #[.agg #[.string f.name, .int .i64 f.kind, .int .i64 f.params, .int .i64 f.locals, .slice A f.code.length ca, .slice B f.consts.length cb, .slice C f.hdls.length cc], .agg #[.int .i64 x.op, .int .i64 x.a, .int .i64 x.b], .int .i64 funcs] w
      fun e w' => e = .returned (.bool r) ∧ Gr w w' := by
  subst hr; exact fits_any f A B C ca cb cc funcs x w hl hco hlo hlo' hfu hfu' hB

set_option maxHeartbeats 4000000 in
set_option maxRecDepth 100000 in
theorem formed_loops (f : Fn) (A B C : Option Addr) (ca cb cc : Nat) (funcs : Int) (w : World) (hT : Tabs w) (hF : FnAt w A B C f) (hfu : 0 ≤ funcs) (hfu' : funcs ≤ 1000000) (hcs : ∀ c ∈ f.consts, c.str.size ≤ 9223372036854775807)
    (h : f.name.size ≤ 1000) (hv : validB f.name = true) (hk : betw f.kind 1 5 = true) (hp : betw f.params 0 f.locals = true) (hlo : f.locals ≤ 10000) (hc : betw f.code.length 1 65536 = true) (hn : f.consts.length ≤ 10000) (hm : f.hdls.length ≤ 10000) :
    FormedIs f A B C ca cb cc funcs w (partsB f funcs) := by
  have hcl : f.code.length ≤ 65536 := by simp [betw] at hc; omega
  have hl0 : 0 ≤ f.locals := by simp [betw] at hp; omega
  have HT := Lib.hid hT
  have HF := Lib.hid hF
  have Hcs := Lib.hid hcs
  have hHv := Lib.hid hv
  have hHk := Lib.hid hk
  have hHp := Lib.hid hp
  have hHc := Lib.hid hc
  clear hT hv hk hp hc hF hcs
  have h' : decide ((1000 : Int) < f.name.size) = false := by simp; omega
  have hlo' : decide ((10000 : Int) < f.locals) = false := by simp; omega
  have hn' : decide ((10000 : Int) < f.consts.length) = false := by simp; omega
  have hm' : decide ((10000 : Int) < f.hdls.length) = false := by simp; omega
  unfold FormedIs
  go_enter Tryd.func57, Tryd.ntmps57
  go_wp2_with fail
  refine (valid_eq _ true hHv.out _ (by omega) (HT.out.gr (gr_alloc _ _))).mono ?_
  rintro e w1 ⟨rfl, hb1⟩
  have e1 := heap_gr hb1 (heap_alloc_new w _)
  have hW0 : Gr w w1 := (gr_alloc w _).trans hb1
  clear hb1
  obtain ⟨W, hw1, hs1, hW⟩ := plug1 e1
  replace hW := hW0.trans hW
  clear e1 hW0
  subst hw1
  go_wp2_with fail
  refine (between_eq _ _ _ true hHk.out _).mono ?_
  rintro e w1 ⟨rfl, rfl⟩
  go_wp2_with fail
  refine (between_eq _ _ _ true hHp.out _).mono ?_
  rintro e w1 ⟨rfl, rfl⟩
  go_wp2_with fail
  refine (between_eq _ _ _ true hHc.out _).mono ?_
  rintro e w1 ⟨rfl, rfl⟩
  go_wp2_with fail
  go_loopw [60] (LoopRel w w.heap.size (fnBox f A B C ca cb cc) f.consts.length (fun k => (f.consts.take k).all (cstOk) = true)) (fun i _ => f.consts.length - (intOf i).toNat)
  case atStart => exact ⟨0, Nat.zero_le _, rfl, rfl, gr_plug hW (Nat.le_refl _) _, heap_plug_same _ _ _ hs1⟩
  case round =>
    clear hW hs1
    obtain ⟨k, hk, rfl, hall, hgr, hbx⟩ := hrel
    obtain ⟨W1, hw1, hs1, hW⟩ := plug1 hbx
    replace hW := hgr.trans hW
    clear hgr hbx
    unfold fnBox at hw1
    subst hw1
    have Hall := Lib.hid hall
    clear hall
    by_cases hlt : k < f.consts.length
    · obtain ⟨b, o, hB, hcell⟩ := HF.out.consts k f.consts[k] (List.getElem?_eq_getElem hlt)
      have hx : f.consts[k]? = some f.consts[k] := List.getElem?_eq_getElem hlt
      have hxs := Hcs.out _ (List.mem_of_getElem? hx)
      generalize f.consts[k] = c at hcell hx hxs
      have c0 := cell_gr hW (hcell 0 _ rfl)
      have c1 := cell_gr hW (hcell 1 _ rfl)
      have c2 := cell_gr hW (hcell 2 _ rfl)
      have hblt : b < w.heap.size := block_lt_of_cell (hcell 0 _ rfl)
      have hbne : ¬ b = w.heap.size := by omega
      have hblt' : b < W1.heap.size := by omega
      rw [← Nat.add_assoc] at c0 c1 c2
      rw [Nat.add_zero] at c0
      have HX := Lib.hid hx
      clear hcell hx
      subst hB
      by_cases h1 : c.kind = 1
      · have hk1 : (c.kind != 1) = false := by simp [h1]
        have Hok : cstOk c = true := by simp [cstOk, h1]
        have Hok := Lib.hid Hok
        clear h1
        go_wp2_with fail
        go_roundw
        case rel => exact ⟨k + 1, by omega, by go_num, all_take_succ Hall.out HX.out Hok.out, gr_then_alloc (gr_plug hW (Nat.le_refl _) _) _, heap_gr (gr_alloc _ _) (heap_plug_same _ _ _ hs1)⟩
        case measure => simp [intOf]; omega
      have hk1 : (c.kind != 1) = true := by simp [h1]
      by_cases h2 : c.kind = 2
      case neg =>
        have hk2 : (c.kind != 2) = true := by simp [h2]
        have Hok := Lib.hid (show cstOk c = false by simp [cstOk, h1, h2])
        clear h1 h2
        go_wp2_with fail
        go_ret
        exact ⟨ret_bool (parts1 (all_false_at HX.out Hok.out)).symm, gr_then_alloc (gr_plug hW (Nat.le_refl _) _) _⟩
      have hk2 : (c.kind != 2) = false := by simp [h2]
      by_cases h3 : c.str.size ≤ 1048576
      case neg =>
        have hk3 : decide ((1048576 : Int) < c.str.size) = true := by simp; omega
        have Hok := Lib.hid (show cstOk c = false by simp [cstOk, h1, h3])
        clear h1 h2 h3
        go_wp2_with fail
        go_ret
        exact ⟨ret_bool (parts1 (all_false_at HX.out Hok.out)).symm, gr_then_alloc (gr_plug hW (Nat.le_refl _) _) _⟩
      have hk3 : decide ((1048576 : Int) < c.str.size) = false := by simp; omega
      by_cases h4 : validB c.str = true
      case neg =>
        have Hv := Lib.hid (eq_false_of_ne_true h4)
        have Hok := Lib.hid (show cstOk c = false by simp [cstOk, h1, h4])
        clear h1 h2 h3 h4
        go_wp2_with fail
        refine (valid_eq _ false Hv.out _ (by omega) (HT.out.gr (gr_then_alloc (gr_plug hW (Nat.le_refl _) _) _))).mono ?_
        rintro e w1 ⟨rfl, hb1⟩
        have hW2 : Gr w w1 := Gr.trans (gr_then_alloc (gr_plug hW (Nat.le_refl _) _) _) hb1
        have hbx2 := heap_gr hb1 (heap_gr (gr_alloc _ _) (heap_plug_same _ _ _ hs1))
        clear hb1
        go_wp2_with fail
        go_ret
        exact ⟨ret_bool (parts1 (all_false_at HX.out Hok.out)).symm, hW2⟩
      have Hv := Lib.hid h4
      have Hok := Lib.hid (show cstOk c = true by simp [cstOk, h2, h3, h4])
      clear h1 h2 h3 h4
      go_wp2_with fail
      refine (valid_eq _ true Hv.out _ (by omega) (HT.out.gr (gr_then_alloc (gr_plug hW (Nat.le_refl _) _) _))).mono ?_
      rintro e w1 ⟨rfl, hb1⟩
      have hW2 : Gr w w1 := Gr.trans (gr_then_alloc (gr_plug hW (Nat.le_refl _) _) _) hb1
      have hbx2 := heap_gr hb1 (heap_gr (gr_alloc _ _) (heap_plug_same _ _ _ hs1))
      clear hb1
      go_wp2_with fail
      go_roundw
      case rel => exact ⟨k + 1, by omega, by go_num, all_take_succ Hall.out HX.out Hok.out, hW2, hbx2⟩
      case measure => simp [intOf]; omega
    have HC1 := Lib.hid (all_take_len Hall.out hlt)
    clear Hall
    go_wp2_with fail
    go_loopw [88] (LoopRel w w.heap.size (fnBox f A B C ca cb cc) f.code.length (fun k => (f.code.take k).all (fitsB f funcs) = true)) (fun i _ => f.code.length - (intOf i).toNat)
    case atStart => exact ⟨0, Nat.zero_le _, rfl, rfl, gr_plug hW (Nat.le_refl _) _, heap_plug_same _ _ _ hs1⟩
    case round =>
      clear hW hs1
      obtain ⟨k, hk, rfl, hall, hgr, hbx⟩ := hrel
      obtain ⟨W1, hw1, hs1, hW⟩ := plug1 hbx
      replace hW := hgr.trans hW
      clear hgr hbx
      unfold fnBox at hw1
      subst hw1
      have Hall := Lib.hid hall
      clear hall
      by_cases hlt2 : k < f.code.length
      · obtain ⟨b, o, hB, hcell⟩ := HF.out.code k f.code[k] (List.getElem?_eq_getElem hlt2)
        have hx : f.code[k]? = some f.code[k] := List.getElem?_eq_getElem hlt2
        generalize f.code[k] = c at hcell hx 
        have c0 := cell_gr hW (hcell 0 _ rfl)
        have c1 := cell_gr hW (hcell 1 _ rfl)
        have c2 := cell_gr hW (hcell 2 _ rfl)
        have hblt : b < w.heap.size := block_lt_of_cell (hcell 0 _ rfl)
        have hbne : ¬ b = w.heap.size := by omega
        have hblt' : b < W1.heap.size := by omega
        rw [← Nat.add_assoc] at c0 c1 c2
        rw [Nat.add_zero] at c0
        have HX := Lib.hid hx
        clear hcell hx
        subst hB
        cases hq : fitsB f funcs c
        · have HQ := Lib.hid hq
          clear hq
          go_wp2_with fail
          refine (fits_eq f _ B C ca cb cc funcs c _ false HQ.out (by omega) (by omega) (by omega) (by omega) (by omega) (by omega) (HF.out.consts.gr (gr_then_alloc (gr_plug hW (Nat.le_refl _) _) _))).mono ?_
          rintro e w1 ⟨rfl, hb1⟩
          have hW2 : Gr w w1 := Gr.trans (gr_then_alloc (gr_plug hW (Nat.le_refl _) _) _) hb1
          clear hb1
          go_wp2_with fail
          go_ret
          exact ⟨ret_bool (parts2 (all_false_at HX.out HQ.out)).symm, hW2⟩
        · have HQ := Lib.hid hq
          clear hq
          go_wp2_with fail
          refine (fits_eq f _ B C ca cb cc funcs c _ true HQ.out (by omega) (by omega) (by omega) (by omega) (by omega) (by omega) (HF.out.consts.gr (gr_then_alloc (gr_plug hW (Nat.le_refl _) _) _))).mono ?_
          rintro e w1 ⟨rfl, hb1⟩
          have hW2 : Gr w w1 := Gr.trans (gr_then_alloc (gr_plug hW (Nat.le_refl _) _) _) hb1
          have hbx2 := heap_gr hb1 (heap_gr (gr_alloc _ _) (heap_plug_same _ _ _ hs1))
          clear hb1
          go_wp2_with fail
          go_roundw
          case rel => exact ⟨k + 1, by omega, by go_num, all_take_succ Hall.out HX.out HQ.out, hW2, hbx2⟩
          case measure => simp [intOf]; omega
      have HC2 := Lib.hid (all_take_len Hall.out hlt2)
      clear Hall
      go_wp2_with fail
      go_loopw [101] (LoopRel w w.heap.size (fnBox f A B C ca cb cc) f.hdls.length (fun k => (f.hdls.take k).all (hdlOk f.code.length) = true)) (fun i _ => f.hdls.length - (intOf i).toNat)
      case atStart => exact ⟨0, Nat.zero_le _, rfl, rfl, gr_plug hW (Nat.le_refl _) _, heap_plug_same _ _ _ hs1⟩
      case round =>
        clear hW hs1
        obtain ⟨k, hk, rfl, hall, hgr, hbx⟩ := hrel
        obtain ⟨W1, hw1, hs1, hW⟩ := plug1 hbx
        replace hW := hgr.trans hW
        clear hgr hbx
        unfold fnBox at hw1
        subst hw1
        have Hall := Lib.hid hall
        clear hall
        by_cases hlt3 : k < f.hdls.length
        · obtain ⟨b, o, hB, hcell⟩ := HF.out.hdls k f.hdls[k] (List.getElem?_eq_getElem hlt3)
          have hx : f.hdls[k]? = some f.hdls[k] := List.getElem?_eq_getElem hlt3
          generalize f.hdls[k] = c at hcell hx 
          have c0 := cell_gr hW (hcell 0 _ rfl)
          have c1 := cell_gr hW (hcell 1 _ rfl)
          have c2 := cell_gr hW (hcell 2 _ rfl)
          have c3 := cell_gr hW (hcell 3 _ rfl)
          have c4 := cell_gr hW (hcell 4 _ rfl)
          have hblt : b < w.heap.size := block_lt_of_cell (hcell 0 _ rfl)
          have hbne : ¬ b = w.heap.size := by omega
          have hblt' : b < W1.heap.size := by omega
          rw [← Nat.add_assoc] at c0 c1 c2 c3 c4
          rw [Nat.add_zero] at c0
          have HX := Lib.hid hx
          clear hcell hx
          subst hB
          by_cases h1 : 0 ≤ c.lo
          case neg =>
            have hk1 : decide (c.lo < 0) = true := by simp; omega
            have Hok := Lib.hid (show hdlOk f.code.length c = false by simp [hdlOk, h1])
            clear h1
            go_wp2_with fail
            go_ret
            exact ⟨ret_bool (parts3 (all_false_at HX.out Hok.out)).symm, gr_then_alloc (gr_plug hW (Nat.le_refl _) _) _⟩
          have hk1 : decide (c.lo < 0) = false := by simp; omega
          by_cases h2 : c.lo < c.hi
          case neg =>
            have hk2 : decide (c.hi ≤ c.lo) = true := by simp; omega
            have Hok := Lib.hid (show hdlOk f.code.length c = false by simp [hdlOk, h2])
            clear h1 h2
            go_wp2_with fail
            go_ret
            exact ⟨ret_bool (parts3 (all_false_at HX.out Hok.out)).symm, gr_then_alloc (gr_plug hW (Nat.le_refl _) _) _⟩
          have hk2 : decide (c.hi ≤ c.lo) = false := by simp; omega
          by_cases h3 : c.hi ≤ (f.code.length : Int)
          case neg =>
            have hk3 : decide ((f.code.length : Int) < c.hi) = true := by simp; omega
            have Hok := Lib.hid (show hdlOk f.code.length c = false by simp [hdlOk, h3])
            clear h1 h2 h3
            go_wp2_with fail
            go_ret
            exact ⟨ret_bool (parts3 (all_false_at HX.out Hok.out)).symm, gr_then_alloc (gr_plug hW (Nat.le_refl _) _) _⟩
          have hk3 : decide ((f.code.length : Int) < c.hi) = false := by simp; omega
          by_cases h4 : betw c.tg 0 ((f.code.length : Int) - 1) = true
          case neg =>
            have Hq4 := Lib.hid (eq_false_of_ne_true h4)
            have Hok := Lib.hid (show hdlOk f.code.length c = false by simp [hdlOk, h4])
            clear h1 h2 h3 h4
            go_wp2_with fail
            refine (between_eq _ _ _ false Hq4.out _).mono ?_
            rintro e w1 ⟨rfl, rfl⟩
            go_wp2_with fail
            go_ret
            exact ⟨ret_bool (parts3 (all_false_at HX.out Hok.out)).symm, gr_then_alloc (gr_plug hW (Nat.le_refl _) _) _⟩
          have Hq4 := Lib.hid h4
          by_cases h5 : betw c.dp 0 10000 = true
          case neg =>
            have Hq5 := Lib.hid (eq_false_of_ne_true h5)
            have Hok := Lib.hid (show hdlOk f.code.length c = false by simp [hdlOk, h5])
            clear h1 h2 h3 h4 h5
            go_wp2_with fail
            refine (between_eq _ _ _ true Hq4.out _).mono ?_
            rintro e w1 ⟨rfl, rfl⟩
            go_wp2_with fail
            refine (between_eq _ _ _ false Hq5.out _).mono ?_
            rintro e w1 ⟨rfl, rfl⟩
            go_wp2_with fail
            go_ret
            exact ⟨ret_bool (parts3 (all_false_at HX.out Hok.out)).symm, gr_then_alloc (gr_plug hW (Nat.le_refl _) _) _⟩
          have Hq5 := Lib.hid h5
          by_cases h6 : betw c.sc 0 10000 = true
          case neg =>
            have Hq6 := Lib.hid (eq_false_of_ne_true h6)
            have Hok := Lib.hid (show hdlOk f.code.length c = false by simp [hdlOk, h6])
            clear h1 h2 h3 h4 h5 h6
            go_wp2_with fail
            refine (between_eq _ _ _ true Hq4.out _).mono ?_
            rintro e w1 ⟨rfl, rfl⟩
            go_wp2_with fail
            refine (between_eq _ _ _ true Hq5.out _).mono ?_
            rintro e w1 ⟨rfl, rfl⟩
            go_wp2_with fail
            refine (between_eq _ _ _ false Hq6.out _).mono ?_
            rintro e w1 ⟨rfl, rfl⟩
            go_wp2_with fail
            go_ret
            exact ⟨ret_bool (parts3 (all_false_at HX.out Hok.out)).symm, gr_then_alloc (gr_plug hW (Nat.le_refl _) _) _⟩
          have Hq6 := Lib.hid h6
          have Hok := Lib.hid (show hdlOk f.code.length c = true by simp [hdlOk, h1, h2, h3, h4, h5, h6])
          clear h1 h2 h3 h4 h5 h6
          go_wp2_with fail
          refine (between_eq _ _ _ true Hq4.out _).mono ?_
          rintro e w1 ⟨rfl, rfl⟩
          go_wp2_with fail
          refine (between_eq _ _ _ true Hq5.out _).mono ?_
          rintro e w1 ⟨rfl, rfl⟩
          go_wp2_with fail
          refine (between_eq _ _ _ true Hq6.out _).mono ?_
          rintro e w1 ⟨rfl, rfl⟩
          go_wp2_with fail
          go_roundw
          case rel => exact ⟨k + 1, by omega, by go_num, all_take_succ Hall.out HX.out Hok.out, gr_then_alloc (gr_plug hW (Nat.le_refl _) _) _, heap_gr (gr_alloc _ _) (heap_plug_same _ _ _ hs1)⟩
          case measure => simp [intOf]; omega
        have HC3 := Lib.hid (all_take_len Hall.out hlt3)
        go_wp2_with fail
        go_ret
        exact ⟨ret_bool (parts0 HC1.out HC2.out HC3.out).symm, gr_plug hW (Nat.le_refl _) _⟩

/-- bytecode.formed -/
theorem formed_any (f : Fn) (A B C : Option Addr) (ca cb cc : Nat) (funcs : Int) (w : World) (hT : Tabs w) (hF : FnAt w A B C f) (hfu : 0 ≤ funcs) (hfu' : funcs ≤ 1000000) (hcs : ∀ c ∈ f.consts, c.str.size ≤ 9223372036854775807)
    (hnm : f.name.size ≤ 9223372036854775807) (hl1 : f.code.length ≤ 9223372036854775807) (hl2 : f.consts.length ≤ 9223372036854775807) (hl3 : f.hdls.length ≤ 9223372036854775807) : FormedIs f A B C ca cb cc funcs w (formedB f funcs) := by
  have F0 : ∀ r : Bool, formedB f funcs = r → FormedIs f A B C ca cb cc funcs w r → FormedIs f A B C ca cb cc funcs w (formedB f funcs) := fun r hr h => by rw [hr]; exact h
  by_cases h1 : f.name.size ≤ 1000
  case neg => exact F0 false (by simp [formedB, headB, h1]) (formed_h1 f A B C ca cb cc funcs w hT hnm hl1 hl2 hl3 (by omega))
  by_cases h2 : validB f.name = true
  case neg => exact F0 false (by simp [formedB, headB, h2]) (formed_h2 f A B C ca cb cc funcs w hT hnm hl1 hl2 hl3 h1 (eq_false_of_ne_true h2))
  by_cases h3 : betw f.kind 1 5 = true
  case neg => exact F0 false (by simp [formedB, headB, h3]) (formed_h3 f A B C ca cb cc funcs w hT hnm hl1 hl2 hl3 h1 h2 (eq_false_of_ne_true h3))
  by_cases h4 : betw f.params 0 f.locals = true
  case neg => exact F0 false (by simp [formedB, headB, h4]) (formed_h4 f A B C ca cb cc funcs w hT hnm hl1 hl2 hl3 h1 h2 h3 (eq_false_of_ne_true h4))
  by_cases h5 : f.locals ≤ 10000
  case neg => exact F0 false (by simp [formedB, headB, h5]) (formed_h5 f A B C ca cb cc funcs w hT hnm hl1 hl2 hl3 h1 h2 h3 h4 (by omega))
  by_cases h6 : betw f.code.length 1 65536 = true
  case neg => exact F0 false (by simp [formedB, sizeB, h6]) (formed_s1 f A B C ca cb cc funcs w hT hnm hl1 hl2 hl3 h1 h2 h3 h4 h5 (eq_false_of_ne_true h6))
  by_cases h7 : f.consts.length ≤ 10000
  case neg => exact F0 false (by simp [formedB, sizeB, h7]) (formed_s2 f A B C ca cb cc funcs w hT hnm hl1 hl2 hl3 h1 h2 h3 h4 h5 h6 (by omega))
  by_cases h8 : f.hdls.length ≤ 10000
  case neg => exact F0 false (by simp [formedB, sizeB, h8]) (formed_s3 f A B C ca cb cc funcs w hT hnm hl1 hl2 hl3 h1 h2 h3 h4 h5 h6 h7 (by omega))
  exact F0 (partsB f funcs) (by simp [formedB, headB, sizeB, h1, h2, h3, h4, h5, h6, h7, h8]) (formed_loops f A B C ca cb cc funcs w hT hF hfu hfu' hcs h1 h2 h3 h4 h5 h6 h7 h8)
end Go.Proofs.YtlffpgjkhehdmaaDoor
