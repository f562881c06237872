/- Own work: knapsackref27.Few. -/
import Derived.Test.YtlffpgjkhehdmaaDoorFnsAt
namespace Go.Proofs.YtlffpgjkhehdmaaDoor
open Go.RowKit
set_option linter.unusedVariables false
set_option linter.unusedSimpArgs false

def fewC (c : Cst) : Bool := decide (c.str.size ≤ 60)
def fewF (r : FnRef) : Bool := decide (r.f.name.size ≤ 40) && (decide (r.f.code.length ≤ 80) && (decide (r.f.consts.length ≤ 20) && (decide (r.f.hdls.length ≤ 10) && r.f.consts.all fewC)))
def fewB (rs : List FnRef) (n : Int) : Bool := decide ((rs.length : Int) ≤ n) && rs.all fewF

set_option maxHeartbeats 4000000 in
set_option maxRecDepth 100000 in
theorem few_any (A : Option Addr) (c : Nat) (rs : List FnRef) (n : Int) (w : World) (hP : ProgAt w A rs) (hn : n ≤ 100) :
    Calls Tryd.prog 20 #[.agg #[.slice A rs.length c], .int .i64 n] w fun e w' => e = .returned (.bool (fewB rs n)) ∧ Gr w w' := by
  have HP := Lib.hid hP
  clear hP
  by_cases hle : (rs.length : Int) ≤ n
  case neg =>
    have hd : decide (n < (rs.length : Int)) = true := by simp; omega
    have hfin : fewB rs n = false := by simp [fewB, hle]
    rw [hfin]
    clear hle
    go_enter Tryd.func20, Tryd.ntmps20
    go_wp2_with fail
    go_ret
    exact ⟨rfl, gr_alloc _ _⟩
  have hd : decide (n < (rs.length : Int)) = false := by simp; omega
  have hfin : fewB rs n = rs.all fewF := by simp [fewB, hle]
  rw [hfin]
  clear hfin
  go_enter Tryd.func20, Tryd.ntmps20
  go_wp2_with fail
  go_loopw [5] (LoopRel w w.heap.size (progBox A rs.length c) rs.length (fun k => (rs.take k).all fewF = true)) (fun i _ => rs.length - (intOf i).toNat)
  case atStart => exact ⟨0, Nat.zero_le _, rfl, rfl, gr_alloc _ _, heap_alloc_new _ _⟩
  case round =>
    obtain ⟨k, hk, rfl, hall, hgr, hbx⟩ := hrel
    obtain ⟨W1, hw1, hs1, hW, hWb⟩ := plug1b hbx
    replace hW := hgr.trans hW
    clear hbx
    unfold progBox at hw1
    subst hw1
    have Hall := Lib.hid hall
    clear hall
    by_cases hlt : k < rs.length
    · obtain ⟨b, o, hB, hcell⟩ := HP.out.sl k rs[k] (List.getElem?_eq_getElem hlt)
      have hx : rs[k]? = some rs[k] := List.getElem?_eq_getElem hlt
      have hm := List.mem_of_getElem? hx
      have HF := Lib.hid (HP.out.fns _ hm)
      have hwf := HP.out.wf _ hm
      generalize rs[k] = r at hcell hx hm HF hwf
      have hnm := hwf.nm
      have hl1 := hwf.l1
      have hl2 := hwf.l2
      have hl3 := hwf.l3
      have Hcs := Lib.hid hwf.cs
      clear hwf
      have c0 := cell_gr hW (hcell 0 _ rfl)
      have c1 := cell_gr hW (hcell 1 _ rfl)
      have c2 := cell_gr hW (hcell 2 _ rfl)
      have c3 := cell_gr hW (hcell 3 _ rfl)
      have c4 := cell_gr hW (hcell 4 _ rfl)
      have c5 := cell_gr hW (hcell 5 _ rfl)
      have c6 := cell_gr hW (hcell 6 _ rfl)
      have hblt : b < w.heap.size := block_lt_of_cell (hcell 0 _ rfl)
      have hbne : ¬ b = w.heap.size := by omega
      have hblt' : b < W1.heap.size := by omega
      rw [← Nat.add_assoc] at c0 c1 c2 c3 c4 c5 c6
      rw [Nat.add_zero] at c0
      have HX := Lib.hid hx
      clear hcell hx hm
      subst hB
      by_cases h0 : r.f.name.size ≤ 40
      case neg =>
        have hk0 : decide ((40 : Int) < (r.f.name.size : Int)) = true := by simp; omega
        have Hok := Lib.hid (show fewF r = false by simp [fewF, h0])
        clear h0
        go_wp2_with fail
        go_ret
        exact ⟨ret_bool (all_false_at HX.out Hok.out).symm, gr_then_alloc hgr _⟩
      have hk0 : decide ((40 : Int) < (r.f.name.size : Int)) = false := by simp; omega
      by_cases h1 : r.f.code.length ≤ 80
      case neg =>
        have hk1 : decide ((80 : Int) < (r.f.code.length : Int)) = true := by simp; omega
        have Hok := Lib.hid (show fewF r = false by simp [fewF, h1])
        clear h0 h1
        go_wp2_with fail
        go_ret
        exact ⟨ret_bool (all_false_at HX.out Hok.out).symm, gr_then_alloc hgr _⟩
      have hk1 : decide ((80 : Int) < (r.f.code.length : Int)) = false := by simp; omega
      by_cases h2 : r.f.consts.length ≤ 20
      case neg =>
        have hk2 : decide ((20 : Int) < (r.f.consts.length : Int)) = true := by simp; omega
        have Hok := Lib.hid (show fewF r = false by simp [fewF, h2])
        clear h0 h1 h2
        go_wp2_with fail
        go_ret
        exact ⟨ret_bool (all_false_at HX.out Hok.out).symm, gr_then_alloc hgr _⟩
      have hk2 : decide ((20 : Int) < (r.f.consts.length : Int)) = false := by simp; omega
      by_cases h3 : r.f.hdls.length ≤ 10
      case neg =>
        have hk3 : decide ((10 : Int) < (r.f.hdls.length : Int)) = true := by simp; omega
        have Hok := Lib.hid (show fewF r = false by simp [fewF, h3])
        clear h0 h1 h2 h3
        go_wp2_with fail
        go_ret
        exact ⟨ret_bool (all_false_at HX.out Hok.out).symm, gr_then_alloc hgr _⟩
      have hk3 : decide ((10 : Int) < (r.f.hdls.length : Int)) = false := by simp; omega
      have Hpre := Lib.hid (show fewF r = r.f.consts.all fewC by simp [fewF, h0, h1, h2, h3])
      go_wp2_with fail
      go_loop [7] (fun j => ∃ q : Nat, q ≤ r.f.consts.length ∧ j = .int .i64 q ∧ (r.f.consts.take q).all fewC = true) (fun j => r.f.consts.length - (intOf j).toNat)
      case atStart => exact ⟨0, Nat.zero_le _, rfl, rfl⟩
      case round =>
        obtain ⟨q, hq, rfl, hall2⟩ := hrel
        have Hall2 := Lib.hid hall2
        clear hall2
        by_cases hlt2 : q < r.f.consts.length
        · obtain ⟨b2, o2, hB2, hcell2⟩ := HF.out.consts q r.f.consts[q] (List.getElem?_eq_getElem hlt2)
          have hx2 : r.f.consts[q]? = some r.f.consts[q] := List.getElem?_eq_getElem hlt2
          have hsz2 := Hcs.out _ (List.mem_of_getElem? hx2)
          generalize r.f.consts[q] = y at hcell2 hx2 hsz2
          have d2 := cell_gr hW (hcell2 2 _ rfl)
          have hblt2 : b2 < w.heap.size := block_lt_of_cell (hcell2 2 _ rfl)
          have hbne2 : ¬ b2 = w.heap.size := by omega
          have hblt2' : b2 < W1.heap.size := by omega
          rw [← Nat.add_assoc] at d2
          have HX2 := Lib.hid hx2
          clear hcell2 hx2
          rw [hB2]
          by_cases h5 : y.str.size ≤ 60
          case neg =>
            have hk5 : decide ((60 : Int) < (y.str.size : Int)) = true := by simp; omega
            have Hok2 := Lib.hid (show fewC y = false by simp [fewC, h5])
            clear h5
            go_wp2_with fail
            go_ret
            exact ⟨ret_bool (all_false_at HX.out (Hpre.out.trans (all_false_at HX2.out Hok2.out))).symm, gr_then_alloc hgr _⟩
          have hk5 : decide ((60 : Int) < (y.str.size : Int)) = false := by simp; omega
          have Hok2 := Lib.hid (show fewC y = true by simp [fewC, h5])
          clear h5
          go_wp2_with fail
          go_round
          case rel => exact ⟨q + 1, by omega, by go_num, all_take_succ Hall2.out HX2.out Hok2.out⟩
          case measure => simp [intOf]; omega
        · go_wp2_with fail
          go_roundw
          case rel => exact ⟨k + 1, by omega, by go_num, all_take_succ Hall.out HX.out (Hpre.out.trans (all_take_len Hall2.out hlt2)), gr_then_alloc hgr _, heap_gr (gr_alloc _ _) (heap_plug_same _ _ _ hs1)⟩
          case measure => simp [intOf]; omega
    · go_wp2_with fail
      go_ret
      exact ⟨ret_bool (all_take_len Hall.out hlt).symm, hgr⟩
end Go.Proofs.YtlffpgjkhehdmaaDoor
