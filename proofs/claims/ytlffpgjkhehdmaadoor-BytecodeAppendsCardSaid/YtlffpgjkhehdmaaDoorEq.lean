/- Own work: bytecode.equal at instructions and at handlers. -/
import Derived.Test.YtlffpgjkhehdmaaDoorRFormed
import Derived.Test.YtlffpgjkhehdmaaDoorFnsAt
import Derived.Deep.QuietTactic
import Derived.BigQuiet
namespace Go.Proofs.YtlffpgjkhehdmaaDoor
open Go.RowKit
set_option linter.unusedVariables false
set_option linter.unusedSimpArgs false

def insEq (x y : Ins) : Bool := x.op == y.op && (x.a == y.a && x.b == y.b)
def hdlEq (x y : Hdl) : Bool := x.lo == y.lo && (x.hi == y.hi && (x.tg == y.tg && (x.dp == y.dp && x.sc == y.sc)))
def all2 {α : Type} (p : α → α → Bool) (xs ys : List α) : Bool := (xs.zip ys).all fun q => p q.1 q.2
def listEq {α : Type} (p : α → α → Bool) (xs ys : List α) : Bool := decide (xs.length = ys.length) && all2 p xs ys
theorem zip_at {α : Type} {xs ys : List α} {k : Nat} {x y : α} (hx : xs[k]? = some x) (hy : ys[k]? = some y) : (xs.zip ys)[k]? = some (x, y) := by
  rw [List.getElem?_zip_eq_some]; exact ⟨hx, hy⟩

theorem neq_ins (x y : Ins) (W : World) : (binOp .neq 54 (.agg #[.int .i64 x.op, .int .i64 x.a, .int .i64 x.b]) (.agg #[.int .i64 y.op, .int .i64 y.a, .int .i64 y.b])).run Tryd.prog W = .ok (.bool (!insEq x y)) W := by
  unfold insEq
  cases h1 : x.op == y.op <;> cases h2 : x.a == y.a <;> cases h3 : x.b == y.b <;> go_simp
theorem neq_hdl (x y : Hdl) (W : World) : (binOp .neq 56 (.agg #[.int .i64 x.lo, .int .i64 x.hi, .int .i64 x.tg, .int .i64 x.dp, .int .i64 x.sc]) (.agg #[.int .i64 y.lo, .int .i64 y.hi, .int .i64 y.tg, .int .i64 y.dp, .int .i64 y.sc])).run Tryd.prog W = .ok (.bool (!hdlEq x y)) W := by
  unfold hdlEq
  cases h1 : x.lo == y.lo <;> cases h2 : x.hi == y.hi <;> cases h3 : x.tg == y.tg <;> cases h4 : x.dp == y.dp <;> cases h5 : x.sc == y.sc <;> go_simp

theorem gr_drewN {w w' : World} (h : Gr w w') (n : Nat) : Gr w (w'.drewN n) := ⟨h.os, h.tape, h.output, h.size, h.block⟩

set_option maxHeartbeats 1000000 in
set_option maxRecDepth 100000 in
theorem equalI_any (A B : Option Addr) (xs ys : List Ins) (c d : Nat) (w : World) (hA : SlAt w A 3 insCells xs) (hB : SlAt w B 3 insCells ys) (hx : xs.length ≤ 9223372036854775807) (hy : ys.length ≤ 9223372036854775807) :
    Calls Tryd.prog 43 #[.slice A xs.length c, .slice B ys.length d] w fun e w' => e = .returned (.bool (listEq insEq xs ys)) ∧ Gr w w' := by
  have HA := Lib.hid hA
  have HB := Lib.hid hB
  clear hA hB
  by_cases hn : xs.length = ys.length
  case neg =>
    have hne : ((xs.length : Int) != (ys.length : Int)) = true := by simp; omega
    have hfin : listEq insEq xs ys = false := by simp [listEq, hn]
    rw [hfin]
    clear hn
    go_enter Tryd.func43, Tryd.ntmps43
    go_wp2_with fail
    go_ret
    exact ⟨rfl, Gr.refl _⟩
  have hfin : listEq insEq xs ys = all2 insEq xs ys := by simp [listEq, hn]
  rw [hfin]
  generalize hm : ys.length = m at *
  have hne : ((xs.length : Int) != (m : Int)) = false := by simp; omega
  have Hn := Lib.hid hn
  have Hm := Lib.hid hm
  clear hfin hn hm
  go_enter Tryd.func43, Tryd.ntmps43
  go_wp2_with fail
  go_loopw [13] (fun i wr => ∃ k : Nat, k ≤ xs.length ∧ i = .int .i64 k ∧ ((xs.zip ys).take k).all (fun q => insEq q.1 q.2) = true ∧ Gr w wr) (fun i _ => xs.length - (intOf i).toNat)
  case atStart => exact ⟨0, Nat.zero_le _, rfl, rfl, Gr.refl _⟩
  case round =>
    obtain ⟨k, hk, rfl, hall, hgr⟩ := hrel
    have Hall := Lib.hid hall
    clear hall
    by_cases hlt : k < xs.length
    · have hlt2 : k < ys.length := by rw [Hm.out, ← Hn.out]; exact hlt
      have hlt3 : k < m := by rw [← Hn.out]; exact hlt
      obtain ⟨b, o, e1, hc1⟩ := HA.out k xs[k] (List.getElem?_eq_getElem hlt)
      obtain ⟨b2, o2, e2, hc2⟩ := HB.out k ys[k] (List.getElem?_eq_getElem hlt2)
      have hz := Lib.hid (zip_at (List.getElem?_eq_getElem hlt) (List.getElem?_eq_getElem hlt2))
      generalize xs[k] = x at hc1 hz
      generalize ys[k] = y at hc2 hz
      have x0 := cell_gr hgr (hc1 0 _ rfl)
      have y0 := cell_gr hgr (hc2 0 _ rfl)
      have x1 := cell_gr hgr (hc1 1 _ rfl)
      have y1 := cell_gr hgr (hc2 1 _ rfl)
      have x2 := cell_gr hgr (hc1 2 _ rfl)
      have y2 := cell_gr hgr (hc2 2 _ rfl)
      rw [← Nat.add_assoc] at x0 y0 x1 y1 x2 y2
      rw [Nat.add_zero] at x0 y0
      clear hc1 hc2
      subst e1 e2
      have hneq := fun W => neq_ins x y W
      cases hq : insEq x y
      · rw [hq] at hneq
        have HQ := Lib.hid hq
        clear hq
        go_wp2_with fail
        go_quiet (fail)
        go_wp2_with fail
        go_ret
        exact ⟨ret_bool (all_false_at hz.out HQ.out).symm, gr_drewN hgr _⟩
      · rw [hq] at hneq
        have HQ := Lib.hid hq
        clear hq
        go_wp2_with fail
        go_quiet (fail)
        go_wp2_with fail
        go_roundw
        case rel => exact ⟨k + 1, by omega, by go_num, all_take_succ Hall.out hz.out HQ.out, gr_drewN hgr _⟩
        case measure => simp [intOf]; omega
    · go_wp2_with fail
      go_ret
      exact ⟨ret_bool (all_take_len Hall.out (by rw [List.length_zip, Hm.out, ← Hn.out]; omega)).symm, hgr⟩
theorem equalI_eq (A B : Option Addr) (xs ys : List Ins) (c d : Nat) (w : World) (q : Bool) (hq : listEq insEq xs ys = q) (hA : SlAt w A 3 insCells xs) (hB : SlAt w B 3 insCells ys) (hx : xs.length ≤ 9223372036854775807) (hy : ys.length ≤ 9223372036854775807) :
    Calls Tryd.prog 43 #[.slice A xs.length c, .slice B ys.length d] w fun e w' => e = .returned (.bool q) ∧ Gr w w' := by
  subst hq; exact equalI_any A B xs ys c d w hA hB hx hy

set_option maxHeartbeats 1000000 in
set_option maxRecDepth 100000 in
theorem equalH_any (A B : Option Addr) (xs ys : List Hdl) (c d : Nat) (w : World) (hA : SlAt w A 5 hdlCells xs) (hB : SlAt w B 5 hdlCells ys) (hx : xs.length ≤ 9223372036854775807) (hy : ys.length ≤ 9223372036854775807) :
    Calls Tryd.prog 44 #[.slice A xs.length c, .slice B ys.length d] w fun e w' => e = .returned (.bool (listEq hdlEq xs ys)) ∧ Gr w w' := by
  have HA := Lib.hid hA
  have HB := Lib.hid hB
  clear hA hB
  by_cases hn : xs.length = ys.length
  case neg =>
    have hne : ((xs.length : Int) != (ys.length : Int)) = true := by simp; omega
    have hfin : listEq hdlEq xs ys = false := by simp [listEq, hn]
    rw [hfin]
    clear hn
    go_enter Tryd.func44, Tryd.ntmps44
    go_wp2_with fail
    go_ret
    exact ⟨rfl, Gr.refl _⟩
  have hfin : listEq hdlEq xs ys = all2 hdlEq xs ys := by simp [listEq, hn]
  rw [hfin]
  generalize hm : ys.length = m at *
  have hne : ((xs.length : Int) != (m : Int)) = false := by simp; omega
  have Hn := Lib.hid hn
  have Hm := Lib.hid hm
  clear hfin hn hm
  go_enter Tryd.func44, Tryd.ntmps44
  go_wp2_with fail
  go_loopw [13] (fun i wr => ∃ k : Nat, k ≤ xs.length ∧ i = .int .i64 k ∧ ((xs.zip ys).take k).all (fun q => hdlEq q.1 q.2) = true ∧ Gr w wr) (fun i _ => xs.length - (intOf i).toNat)
  case atStart => exact ⟨0, Nat.zero_le _, rfl, rfl, Gr.refl _⟩
  case round =>
    obtain ⟨k, hk, rfl, hall, hgr⟩ := hrel
    have Hall := Lib.hid hall
    clear hall
    by_cases hlt : k < xs.length
    · have hlt2 : k < ys.length := by rw [Hm.out, ← Hn.out]; exact hlt
      have hlt3 : k < m := by rw [← Hn.out]; exact hlt
      obtain ⟨b, o, e1, hc1⟩ := HA.out k xs[k] (List.getElem?_eq_getElem hlt)
      obtain ⟨b2, o2, e2, hc2⟩ := HB.out k ys[k] (List.getElem?_eq_getElem hlt2)
      have hz := Lib.hid (zip_at (List.getElem?_eq_getElem hlt) (List.getElem?_eq_getElem hlt2))
      generalize xs[k] = x at hc1 hz
      generalize ys[k] = y at hc2 hz
      have x0 := cell_gr hgr (hc1 0 _ rfl)
      have y0 := cell_gr hgr (hc2 0 _ rfl)
      have x1 := cell_gr hgr (hc1 1 _ rfl)
      have y1 := cell_gr hgr (hc2 1 _ rfl)
      have x2 := cell_gr hgr (hc1 2 _ rfl)
      have y2 := cell_gr hgr (hc2 2 _ rfl)
      have x3 := cell_gr hgr (hc1 3 _ rfl)
      have y3 := cell_gr hgr (hc2 3 _ rfl)
      have x4 := cell_gr hgr (hc1 4 _ rfl)
      have y4 := cell_gr hgr (hc2 4 _ rfl)
      rw [← Nat.add_assoc] at x0 y0 x1 y1 x2 y2 x3 y3 x4 y4
      rw [Nat.add_zero] at x0 y0
      clear hc1 hc2
      subst e1 e2
      have hneq := fun W => neq_hdl x y W
      cases hq : hdlEq x y
      · rw [hq] at hneq
        have HQ := Lib.hid hq
        clear hq
        go_wp2_with fail
        go_quiet (fail)
        go_wp2_with fail
        go_ret
        exact ⟨ret_bool (all_false_at hz.out HQ.out).symm, gr_drewN hgr _⟩
      · rw [hq] at hneq
        have HQ := Lib.hid hq
        clear hq
        go_wp2_with fail
        go_quiet (fail)
        go_wp2_with fail
        go_roundw
        case rel => exact ⟨k + 1, by omega, by go_num, all_take_succ Hall.out hz.out HQ.out, gr_drewN hgr _⟩
        case measure => simp [intOf]; omega
    · go_wp2_with fail
      go_ret
      exact ⟨ret_bool (all_take_len Hall.out (by rw [List.length_zip, Hm.out, ← Hn.out]; omega)).symm, hgr⟩
theorem equalH_eq (A B : Option Addr) (xs ys : List Hdl) (c d : Nat) (w : World) (q : Bool) (hq : listEq hdlEq xs ys = q) (hA : SlAt w A 5 hdlCells xs) (hB : SlAt w B 5 hdlCells ys) (hx : xs.length ≤ 9223372036854775807) (hy : ys.length ≤ 9223372036854775807) :
    Calls Tryd.prog 44 #[.slice A xs.length c, .slice B ys.length d] w fun e w' => e = .returned (.bool q) ∧ Gr w w' := by
  subst hq; exact equalH_any A B xs ys c d w hA hB hx hy

end Go.Proofs.YtlffpgjkhehdmaaDoor
