/- Own work: knapsackref27.FormedFunc. -/
import Derived.Test.YtjefbgfohijaoaaGreatDoorWRefOp
import Derived.Test.YtjefbgfohijaoaaGreatDoorWRepair
import Derived.Test.YtjefbgfohijaoaaGreatDoorWRg2
import Derived.Test.YtjefbgfohijaoaaGreatDoorWGF
import Derived.Deep.QuietTactic
import Derived.BigQuiet
namespace Go.Proofs.YtjefbgfohijaoaaGreatDoor
open Go.RowKit
set_option linter.unusedVariables false
set_option linter.unusedSimpArgs false
theorem text_eq (s : ByteArray) (n : Int) (r : Bool) (h : textB s n = r) (w : World) (hs : s.size <= 9223372036854775807) (hn : n <= 2000000) :
  Calls Tryz.prog 35 #[.string s, .int .i64 n] w fun e w' => e = .returned (.bool r) /\ Gr w w' := by
 subst h; exact text_any s n w hs hn
theorem rop_eq (f : Fn) (A B C : Option Addr) (ca cb cc : Nat) (funcs : Int) (x : Ins) (w : World) (r : Bool) (hr : fitsB f funcs x = r) (hl : f.consts.length <= 10000) (hco : f.code.length <= 65536) (hlo : 0 <= f.locals) (hlo' : f.locals <= 10000) (hfu : 0 <= funcs) (hfu' : funcs <= 1000000) (hB : SlAt w B 3 cstCells f.consts) :
  Calls Tryz.prog 37 #[.agg #[.string f.name, .int .i64 f.kind, .int .i64 f.params, .int .i64 f.locals, .slice A f.code.length ca, .slice B f.consts.length cb, .slice C f.hdls.length cc], .agg #[.int .i64 x.op, .int .i64 x.a, .int .i64 x.b], .int .i64 funcs] w
   fun e w' => e = .returned (.bool r) /\ Gr w w' := by
 subst hr; exact rop_any f A B C ca cb cc funcs x w hl hco hlo hlo' hfu hfu' hB
def RFormedIs (f : Fn) (A B C : Option Addr) (ca cb cc : Nat) (funcs : Int) (w : World) (r : Bool) : Prop :=
 Calls Tryz.prog 12 #[.agg #[.string f.name, .int .i64 f.kind, .int .i64 f.params, .int .i64 f.locals, .slice A f.code.length ca, .slice B f.consts.length cb, .slice C f.hdls.length cc], .int .i64 funcs] w
   fun e w' => e = .returned (.bool r) /\ Gr w w'
set_option maxHeartbeats 1000000 in
set_option maxRecDepth 100000 in
theorem rformed_h2 (f : Fn) (A B C : Option Addr) (ca cb cc : Nat) (funcs : Int) (w : World) (hnm : f.name.size <= 9223372036854775807) (hl1 : f.code.length <= 9223372036854775807) (hl2 : f.consts.length <= 9223372036854775807) (hl3 : f.hdls.length <= 9223372036854775807) (hv : textB f.name 1000 = false) : RFormedIs f A B C ca cb cc funcs w false := by
 have Hhv := Lib.hid hv
 clear hv
 unfold RFormedIs
 go_enter Tryz.func12, Tryz.ntmps12
 go_wp2_with fail
 refine (text_eq _ _ false Hhv.out _ (by omega) (by omega)).mono ?_
 rintro e w1 ⟨rfl, hb1⟩
 have e1 := heap_gr hb1 (heap_alloc_new w _)
 have hW0 : Gr w w1 := (gr_alloc w _).trans hb1
 clear hb1
 obtain ⟨W, hw1, hs1, hW⟩ := plug1 e1
 replace hW := hW0.trans hW
 clear e1 hW0
 subst hw1
 go_wp2_with fail
 go_ret
 exact ⟨rfl, gr_plug hW (Nat.le_refl _) _⟩
set_option maxHeartbeats 1000000 in
set_option maxRecDepth 100000 in
theorem rformed_h3 (f : Fn) (A B C : Option Addr) (ca cb cc : Nat) (funcs : Int) (w : World) (hnm : f.name.size <= 9223372036854775807) (hl1 : f.code.length <= 9223372036854775807) (hl2 : f.consts.length <= 9223372036854775807) (hl3 : f.hdls.length <= 9223372036854775807) (hv : textB f.name 1000 = true) (hk : betw f.kind 1 5 = false) : RFormedIs f A B C ca cb cc funcs w false := by
 have Hhv := Lib.hid hv
 clear hv
 have Hhk := Lib.hid hk
 clear hk
 unfold RFormedIs
 go_enter Tryz.func12, Tryz.ntmps12
 go_wp2_with fail
 refine (text_eq _ _ true Hhv.out _ (by omega) (by omega)).mono ?_
 rintro e w1 ⟨rfl, hb1⟩
 have e1 := heap_gr hb1 (heap_alloc_new w _)
 have hW0 : Gr w w1 := (gr_alloc w _).trans hb1
 clear hb1
 obtain ⟨W, hw1, hs1, hW⟩ := plug1 e1
 replace hW := hW0.trans hW
 clear e1 hW0
 subst hw1
 go_wp2_with fail
 refine (rbetween_eq _ _ _ false Hhk.out _).mono ?_
 rintro e w1 ⟨rfl, rfl⟩
 go_wp2_with fail
 go_ret
 exact ⟨rfl, gr_plug hW (Nat.le_refl _) _⟩
set_option maxHeartbeats 1000000 in
set_option maxRecDepth 100000 in
theorem rformed_h4 (f : Fn) (A B C : Option Addr) (ca cb cc : Nat) (funcs : Int) (w : World) (hnm : f.name.size <= 9223372036854775807) (hl1 : f.code.length <= 9223372036854775807) (hl2 : f.consts.length <= 9223372036854775807) (hl3 : f.hdls.length <= 9223372036854775807) (hv : textB f.name 1000 = true) (hk : betw f.kind 1 5 = true) (hp : betw f.params 0 f.locals = false) : RFormedIs f A B C ca cb cc funcs w false := by
 have Hhv := Lib.hid hv
 clear hv
 have Hhk := Lib.hid hk
 clear hk
 have Hhp := Lib.hid hp
 clear hp
 unfold RFormedIs
 go_enter Tryz.func12, Tryz.ntmps12
 go_wp2_with fail
 refine (text_eq _ _ true Hhv.out _ (by omega) (by omega)).mono ?_
 rintro e w1 ⟨rfl, hb1⟩
 have e1 := heap_gr hb1 (heap_alloc_new w _)
 have hW0 : Gr w w1 := (gr_alloc w _).trans hb1
 clear hb1
 obtain ⟨W, hw1, hs1, hW⟩ := plug1 e1
 replace hW := hW0.trans hW
 clear e1 hW0
 subst hw1
 go_wp2_with fail
 refine (rbetween_eq _ _ _ true Hhk.out _).mono ?_
 rintro e w1 ⟨rfl, rfl⟩
 go_wp2_with fail
 refine (rbetween_eq _ _ _ false Hhp.out _).mono ?_
 rintro e w1 ⟨rfl, rfl⟩
 go_wp2_with fail
 go_ret
 exact ⟨rfl, gr_plug hW (Nat.le_refl _) _⟩
set_option maxHeartbeats 1000000 in
set_option maxRecDepth 100000 in
theorem rformed_h5 (f : Fn) (A B C : Option Addr) (ca cb cc : Nat) (funcs : Int) (w : World) (hnm : f.name.size <= 9223372036854775807) (hl1 : f.code.length <= 9223372036854775807) (hl2 : f.consts.length <= 9223372036854775807) (hl3 : f.hdls.length <= 9223372036854775807) (hv : textB f.name 1000 = true) (hk : betw f.kind 1 5 = true) (hp : betw f.params 0 f.locals = true) (hlo : 10000 < f.locals) : RFormedIs f A B C ca cb cc funcs w false := by
 have Hhv := Lib.hid hv
 clear hv
 have Hhk := Lib.hid hk
 clear hk
 have Hhp := Lib.hid hp
 clear hp
 unfold RFormedIs
 go_enter Tryz.func12, Tryz.ntmps12
 go_wp2_with fail
 refine (text_eq _ _ true Hhv.out _ (by omega) (by omega)).mono ?_
 rintro e w1 ⟨rfl, hb1⟩
 have e1 := heap_gr hb1 (heap_alloc_new w _)
 have hW0 : Gr w w1 := (gr_alloc w _).trans hb1
 clear hb1
 obtain ⟨W, hw1, hs1, hW⟩ := plug1 e1
 replace hW := hW0.trans hW
 clear e1 hW0
 subst hw1
 go_wp2_with fail
 refine (rbetween_eq _ _ _ true Hhk.out _).mono ?_
 rintro e w1 ⟨rfl, rfl⟩
 go_wp2_with fail
 refine (rbetween_eq _ _ _ true Hhp.out _).mono ?_
 rintro e w1 ⟨rfl, rfl⟩
 go_wp2_with fail
 go_ret
 exact ⟨rfl, gr_plug hW (Nat.le_refl _) _⟩
set_option maxHeartbeats 1000000 in
set_option maxRecDepth 100000 in
theorem rformed_s1 (f : Fn) (A B C : Option Addr) (ca cb cc : Nat) (funcs : Int) (w : World) (hnm : f.name.size <= 9223372036854775807) (hl1 : f.code.length <= 9223372036854775807) (hl2 : f.consts.length <= 9223372036854775807) (hl3 : f.hdls.length <= 9223372036854775807) (hv : textB f.name 1000 = true) (hk : betw f.kind 1 5 = true) (hp : betw f.params 0 f.locals = true) (hlo : f.locals <= 10000) (hc : betw f.code.length 1 65536 = false) : RFormedIs f A B C ca cb cc funcs w false := by
 have Hhv := Lib.hid hv
 clear hv
 have Hhk := Lib.hid hk
 clear hk
 have Hhp := Lib.hid hp
 clear hp
 have Hhc := Lib.hid hc
 clear hc
 unfold RFormedIs
 go_enter Tryz.func12, Tryz.ntmps12
 go_wp2_with fail
 refine (text_eq _ _ true Hhv.out _ (by omega) (by omega)).mono ?_
 rintro e w1 ⟨rfl, hb1⟩
 have e1 := heap_gr hb1 (heap_alloc_new w _)
 have hW0 : Gr w w1 := (gr_alloc w _).trans hb1
 clear hb1
 obtain ⟨W, hw1, hs1, hW⟩ := plug1 e1
 replace hW := hW0.trans hW
 clear e1 hW0
 subst hw1
 go_wp2_with fail
 refine (rbetween_eq _ _ _ true Hhk.out _).mono ?_
 rintro e w1 ⟨rfl, rfl⟩
 go_wp2_with fail
 refine (rbetween_eq _ _ _ true Hhp.out _).mono ?_
 rintro e w1 ⟨rfl, rfl⟩
 go_wp2_with fail
 refine (rbetween_eq _ _ _ false Hhc.out _).mono ?_
 rintro e w1 ⟨rfl, rfl⟩
 go_wp2_with fail
 go_ret
 exact ⟨rfl, gr_plug hW (Nat.le_refl _) _⟩
set_option maxHeartbeats 1000000 in
set_option maxRecDepth 100000 in
theorem rformed_s2 (f : Fn) (A B C : Option Addr) (ca cb cc : Nat) (funcs : Int) (w : World) (hnm : f.name.size <= 9223372036854775807) (hl1 : f.code.length <= 9223372036854775807) (hl2 : f.consts.length <= 9223372036854775807) (hl3 : f.hdls.length <= 9223372036854775807) (hv : textB f.name 1000 = true) (hk : betw f.kind 1 5 = true) (hp : betw f.params 0 f.locals = true) (hlo : f.locals <= 10000) (hc : betw f.code.length 1 65536 = true) (hn : 10000 < f.consts.length) : RFormedIs f A B C ca cb cc funcs w false := by
 have Hhv := Lib.hid hv
 clear hv
 have Hhk := Lib.hid hk
 clear hk
 have Hhp := Lib.hid hp
 clear hp
 have Hhc := Lib.hid hc
 clear hc
 have hn' : (10000 : Int) < f.consts.length := by omega
 unfold RFormedIs
 go_enter Tryz.func12, Tryz.ntmps12
 go_wp2_with fail
 refine (text_eq _ _ true Hhv.out _ (by omega) (by omega)).mono ?_
 rintro e w1 ⟨rfl, hb1⟩
 have e1 := heap_gr hb1 (heap_alloc_new w _)
 have hW0 : Gr w w1 := (gr_alloc w _).trans hb1
 clear hb1
 obtain ⟨W, hw1, hs1, hW⟩ := plug1 e1
 replace hW := hW0.trans hW
 clear e1 hW0
 subst hw1
 go_wp2_with fail
 refine (rbetween_eq _ _ _ true Hhk.out _).mono ?_
 rintro e w1 ⟨rfl, rfl⟩
 go_wp2_with fail
 refine (rbetween_eq _ _ _ true Hhp.out _).mono ?_
 rintro e w1 ⟨rfl, rfl⟩
 go_wp2_with fail
 refine (rbetween_eq _ _ _ true Hhc.out _).mono ?_
 rintro e w1 ⟨rfl, rfl⟩
 go_wp2_with fail
 go_ret
 exact ⟨rfl, gr_plug hW (Nat.le_refl _) _⟩
set_option maxHeartbeats 1000000 in
set_option maxRecDepth 100000 in
theorem rformed_s3 (f : Fn) (A B C : Option Addr) (ca cb cc : Nat) (funcs : Int) (w : World) (hnm : f.name.size <= 9223372036854775807) (hl1 : f.code.length <= 9223372036854775807) (hl2 : f.consts.length <= 9223372036854775807) (hl3 : f.hdls.length <= 9223372036854775807) (hv : textB f.name 1000 = true) (hk : betw f.kind 1 5 = true) (hp : betw f.params 0 f.locals = true) (hlo : f.locals <= 10000) (hc : betw f.code.length 1 65536 = true) (hn : f.consts.length <= 10000) (hm : 10000 < f.hdls.length) : RFormedIs f A B C ca cb cc funcs w false := by
 have Hhv := Lib.hid hv
 clear hv
 have Hhk := Lib.hid hk
 clear hk
 have Hhp := Lib.hid hp
 clear hp
 have Hhc := Lib.hid hc
 clear hc
 have hn' : ¬ (10000 : Int) < f.consts.length := by omega
 have hm' : (10000 : Int) < f.hdls.length := by omega
 unfold RFormedIs
 go_enter Tryz.func12, Tryz.ntmps12
 go_wp2_with fail
 refine (text_eq _ _ true Hhv.out _ (by omega) (by omega)).mono ?_
 rintro e w1 ⟨rfl, hb1⟩
 have e1 := heap_gr hb1 (heap_alloc_new w _)
 have hW0 : Gr w w1 := (gr_alloc w _).trans hb1
 clear hb1
 obtain ⟨W, hw1, hs1, hW⟩ := plug1 e1
 replace hW := hW0.trans hW
 clear e1 hW0
 subst hw1
 go_wp2_with fail
 refine (rbetween_eq _ _ _ true Hhk.out _).mono ?_
 rintro e w1 ⟨rfl, rfl⟩
 go_wp2_with fail
 refine (rbetween_eq _ _ _ true Hhp.out _).mono ?_
 rintro e w1 ⟨rfl, rfl⟩
 go_wp2_with fail
 refine (rbetween_eq _ _ _ true Hhc.out _).mono ?_
 rintro e w1 ⟨rfl, rfl⟩
 go_wp2_with fail
 go_ret
 exact ⟨rfl, gr_plug hW (Nat.le_refl _) _⟩
theorem cellp {W : World} {g b i : Nat} {o : Obj} {v : Value} (hb : ¬ b = g) (h : W.cell? ⟨b, i, none⟩ = some v) : (plug W g o).cell? ⟨b, i, none⟩ = some v := by rw [cell_plug_other _ _ _ _ _ hb]; exact h
set_option maxHeartbeats 4000000 in
set_option maxRecDepth 100000 in
theorem rformed_loops (f : Fn) (A B C : Option Addr) (ca cb cc : Nat) (funcs : Int) (w : World) (hF : FnAt w A B C f) (hfu : 0 <= funcs) (hfu' : funcs <= 1000000) (hcs : ∀ c ∈ f.consts, c.str.size <= 9223372036854775807)
  (hnm : f.name.size <= 9223372036854775807) (hv : textB f.name 1000 = true) (hk : betw f.kind 1 5 = true) (hp : betw f.params 0 f.locals = true) (hlo : f.locals <= 10000) (hc : betw f.code.length 1 65536 = true) (hn : f.consts.length <= 10000) (hm : f.hdls.length <= 10000) :
  RFormedIs f A B C ca cb cc funcs w (partsB f funcs) := by
 have hcl : f.code.length <= 65536 := by simp [betw] at hc; omega
 have hl0 : 0 <= f.locals := by simp [betw] at hp; omega
 have HF := Lib.hid hF
 have Hcs := Lib.hid hcs
 have Hhv := Lib.hid hv
 have Hhk := Lib.hid hk
 have Hhp := Lib.hid hp
 have Hhc := Lib.hid hc
 clear hv hk hp hc hF hcs
 have hlo' : decide ((10000 : Int) < f.locals) = false := by simp; omega
 have hn' : decide ((10000 : Int) < f.consts.length) = false := by simp; omega
 have hm' : decide ((10000 : Int) < f.hdls.length) = false := by simp; omega
 unfold RFormedIs
 go_enter Tryz.func12, Tryz.ntmps12
 go_wp2_with fail
 refine (text_eq _ _ true Hhv.out _ (by omega) (by omega)).mono ?_
 rintro e w1 ⟨rfl, hb1⟩
 have e1 := heap_gr hb1 (heap_alloc_new w _)
 have hW0 : Gr w w1 := (gr_alloc w _).trans hb1
 clear hb1
 obtain ⟨W, hw1, hs1, hW⟩ := plug1 e1
 replace hW := hW0.trans hW
 clear e1 hW0
 subst hw1
 go_wp2_with fail
 refine (rbetween_eq _ _ _ true Hhk.out _).mono ?_
 rintro e w1 ⟨rfl, rfl⟩
 go_wp2_with fail
 refine (rbetween_eq _ _ _ true Hhp.out _).mono ?_
 rintro e w1 ⟨rfl, rfl⟩
 go_wp2_with fail
 refine (rbetween_eq _ _ _ true Hhc.out _).mono ?_
 rintro e w1 ⟨rfl, rfl⟩
 go_wp2_with fail
 go_loopw [5] (LoopRel w w.heap.size (fnBox f A B C ca cb cc) f.consts.length (fun k => (f.consts.take k).all (cstOk) = true)) (fun i _ => f.consts.length - (intOf i).toNat)
 case atStart => exact ⟨0, Nat.zero_le _, rfl, rfl, gr_plug hW (Nat.le_refl _) _, heap_plug_same _ _ _ hs1⟩
 case round =>
  clear hW hs1
  obtain ⟨k, hk, rfl, hall, hgr, hbx⟩ := hrel
  obtain ⟨W1, hw1, hs1, hW⟩ := plug1 hbx
  replace hW := hgr.trans hW
  clear hgr hbx
  unfold fnBox at hw1
  subst hw1
  have Hall := Lib.hid hall
  clear hall
  by_cases hlt : k < f.consts.length
  ·obtain ⟨b, o, hB, hcell⟩ := HF.out.consts k f.consts[k] (List.getElem?_eq_getElem hlt)
   have hx : f.consts[k]? = some f.consts[k] := List.getElem?_eq_getElem hlt
   have hxs := Hcs.out _ (List.mem_of_getElem? hx)
   generalize f.consts[k] = c at hcell hx hxs
   have c0 := cell_gr hW (hcell 0 _ rfl)
   have c1 := cell_gr hW (hcell 1 _ rfl)
   have c2 := cell_gr hW (hcell 2 _ rfl)
   have hblt : b < w.heap.size := block_lt_of_cell (hcell 0 _ rfl)
   have hbne : ¬ b = w.heap.size := by omega
   have hblt' : b < W1.heap.size := by omega
   rw [<-Nat.add_assoc] at c0 c1 c2
   rw [Nat.add_zero] at c0
   have HX := Lib.hid hx
   clear hcell hx
   subst hB
   by_cases h0 : betw c.kind 1 2 = true
   case neg =>
    have Hq := Lib.hid (eq_false_of_ne_true h0)
    have Hok := Lib.hid (show cstOk c = false by have h0' := h0; simp [betw] at h0'; simp [cstOk]; omega)
    clear h0
    go_wp2_with fail
    refine (rbetween_eq _ _ _ false Hq.out _).mono ?_
    rintro e w1 ⟨rfl, rfl⟩
    go_wp2_with fail
    go_ret
    exact ⟨ret_bool (parts1 (all_false_at HX.out Hok.out)).symm, gr_plug hW (Nat.le_refl _) _⟩
   have Hq := Lib.hid h0
   have h12 : c.kind = 1 \/ c.kind = 2 := by simp [betw] at h0; omega
   clear h0
   by_cases h2 : c.kind = 2
   case neg =>
    have hk2 : (c.kind == 2) = false := by simp [h2]
    have Hok := Lib.hid (show cstOk c = true by simp [cstOk]; omega)
    clear h12 h2
    go_wp2_with fail
    refine (rbetween_eq _ _ _ true Hq.out _).mono ?_
    rintro e w1 ⟨rfl, rfl⟩
    go_wp2_with fail
    go_roundw
    case rel => exact ⟨k + 1, by omega, by go_num, all_take_succ Hall.out HX.out Hok.out, gr_plug hW (Nat.le_refl _) _, heap_plug_same _ _ _ hs1⟩
    case measure => simp [intOf]; omega
   have hk2 : (c.kind == 2) = true := by simp [h2]
   cases h4 : textB c.str 1048576
   ·have Hv := Lib.hid h4
    have Hok := Lib.hid (show cstOk c = false by simp [textB] at h4; simp [cstOk, h2]; intro h; exact h4 (by omega))
    clear h12 h2 h4
    go_wp2_with fail
    refine (rbetween_eq _ _ _ true Hq.out _).mono ?_
    rintro e w1 ⟨rfl, rfl⟩
    go_wp2_with fail
    refine (text_eq _ _ false Hv.out _ (by omega) (by omega)).mono ?_
    rintro e w1 ⟨rfl, hb1⟩
    have hW2 : Gr w w1 := Gr.trans (gr_plug hW (Nat.le_refl _) _) hb1
    have hbx2 := heap_gr hb1 (heap_plug_same _ _ _ hs1)
    clear hb1
    go_wp2_with fail
    go_ret
    exact ⟨ret_bool (parts1 (all_false_at HX.out Hok.out)).symm, hW2⟩
   ·have Hv := Lib.hid h4
    have Hok := Lib.hid (show cstOk c = true by simp [textB] at h4; simp [cstOk, h2]; exact ⟨by omega, h4.2⟩)
    clear h12 h2 h4
    go_wp2_with fail
    refine (rbetween_eq _ _ _ true Hq.out _).mono ?_
    rintro e w1 ⟨rfl, rfl⟩
    go_wp2_with fail
    refine (text_eq _ _ true Hv.out _ (by omega) (by omega)).mono ?_
    rintro e w1 ⟨rfl, hb1⟩
    have hW2 : Gr w w1 := Gr.trans (gr_plug hW (Nat.le_refl _) _) hb1
    have hbx2 := heap_gr hb1 (heap_plug_same _ _ _ hs1)
    clear hb1
    go_wp2_with fail
    go_roundw
    case rel => exact ⟨k + 1, by omega, by go_num, all_take_succ Hall.out HX.out Hok.out, hW2, hbx2⟩
    case measure => simp [intOf]; omega
  have HC1 := Lib.hid (all_take_len Hall.out hlt)
  clear Hall
  go_wp2_with fail
  go_loopw [6] (LoopRel w w.heap.size (fnBox f A B C ca cb cc) f.code.length (fun k => (f.code.take k).all (fitsB f funcs) = true)) (fun i _ => f.code.length - (intOf i).toNat)
  case atStart => exact ⟨0, Nat.zero_le _, rfl, rfl, gr_plug hW (Nat.le_refl _) _, heap_plug_same _ _ _ hs1⟩
  case round =>
   clear hW hs1
   obtain ⟨k, hk, rfl, hall, hgr, hbx⟩ := hrel
   obtain ⟨W1, hw1, hs1, hW⟩ := plug1 hbx
   replace hW := hgr.trans hW
   clear hgr hbx
   unfold fnBox at hw1
   subst hw1
   have Hall := Lib.hid hall
   clear hall
   by_cases hlt2 : k < f.code.length
   ·obtain ⟨b, o, hB, hcell⟩ := HF.out.code k f.code[k] (List.getElem?_eq_getElem hlt2)
    have hx : f.code[k]? = some f.code[k] := List.getElem?_eq_getElem hlt2
    generalize f.code[k] = c at hcell hx
    have c0 := cell_gr hW (hcell 0 _ rfl)
    have c1 := cell_gr hW (hcell 1 _ rfl)
    have c2 := cell_gr hW (hcell 2 _ rfl)
    have hblt : b < w.heap.size := block_lt_of_cell (hcell 0 _ rfl)
    have hbne : ¬ b = w.heap.size := by omega
    have hblt' : b < W1.heap.size := by omega
    rw [<-Nat.add_assoc] at c0 c1 c2
    rw [Nat.add_zero] at c0
    have HX := Lib.hid hx
    clear hcell hx
    subst hB
    cases hq : fitsB f funcs c
    ·have HQ := Lib.hid hq
     clear hq
     go_wp2_with fail
     refine wp_region_const 9 6 (fun i => ([.agg #[.string f.name, .int .i64 f.kind, .int .i64 f.params, .int .i64 f.locals, .slice (some ⟨b, o, none⟩) f.code.length ca, .slice B f.consts.length cb, .slice C f.hdls.length cc], .pointer (some ⟨w.heap.size, 4, none⟩), .slice (some ⟨b, o, none⟩) f.code.length ca, .int .i64 k, .pointer (some ⟨b, o + k * 3, none⟩), .agg #[.int .i64 c.op, .int .i64 c.a, .int .i64 c.b], .int .i64 funcs, .bool false, .bool true] : List Value).getD i undef) (by kernel_rfl) (by kernel_rfl) (by kernel_rfl) (by decide) ?hstep ?hend
     case hstep =>
      intro i hi
      rcases i with _ | i
      ·intro op ho ρ w' hC hcst hfun hglo hd hf
       simp only [List.getElem?_toArray, List.getElem?_cons_zero, List.getElem?_cons_succ, Option.some.injEq] at ho
       subst ho
       rw [if_pos (by rfl)]
       have e2 : ρ (.tmp 2) = .pointer (some ⟨w.heap.size, 0, none⟩) := hf 2 (by kernel_rfl)
       obtain ⟨W2, hw2, hs2, _⟩ := plug1 (heap_gr hC (heap_plug_same _ _ _ hs1))
       clear hd hf hC
       subst hw2
       go_simp
       exact ⟨Gr.refl _, rfl⟩
      rcases i with _ | i
      ·intro op ho ρ w' hC hcst hfun hglo hd hf
       simp only [List.getElem?_toArray, List.getElem?_cons_zero, List.getElem?_cons_succ, Option.some.injEq] at ho
       subst ho
       rw [if_pos (by rfl)]
       have e2 : ρ (.tmp 2) = .pointer (some ⟨w.heap.size, 0, none⟩) := hf 2 (by kernel_rfl)
       clear hd hf
       go_simp
       exact ⟨Gr.refl _, rfl⟩
      rcases i with _ | i
      ·intro op ho ρ w' hC hcst hfun hglo hd hf
       simp only [List.getElem?_toArray, List.getElem?_cons_zero, List.getElem?_cons_succ, Option.some.injEq] at ho
       subst ho
       rw [if_pos (by rfl)]
       have e91 : ρ (.tmp 91) = .pointer (some ⟨w.heap.size, 4, none⟩) := hd 1 91 (by kernel_rfl)
       obtain ⟨W2, hw2, hs2, _⟩ := plug1 (heap_gr hC (heap_plug_same _ _ _ hs1))
       clear hd hf hC
       subst hw2
       go_simp
       exact ⟨Gr.refl _, rfl⟩
      rcases i with _ | i
      ·intro op ho ρ w' hC hcst hfun hglo hd hf
       simp only [List.getElem?_toArray, List.getElem?_cons_zero, List.getElem?_cons_succ, Option.some.injEq] at ho
       subst ho
       rw [if_pos (by rfl)]
       have e6 : ρ (.tmp 6) = .int .i64 k := hf 6 (by kernel_rfl)
       clear hd hf
       go_simp
       exact ⟨Gr.refl _, rfl⟩
      rcases i with _ | i
      ·intro op ho ρ w' hC hcst hfun hglo hd hf
       simp only [List.getElem?_toArray, List.getElem?_cons_zero, List.getElem?_cons_succ, Option.some.injEq] at ho
       subst ho
       rw [if_pos (by rfl)]
       have e92 : ρ (.tmp 92) = .slice (some ⟨b, o, none⟩) f.code.length ca := hd 2 92 (by kernel_rfl)
       have e93 : ρ (.tmp 93) = .int .i64 k := hd 3 93 (by kernel_rfl)
       clear hd hf
       go_simp
       exact ⟨Gr.refl _, rfl⟩
      rcases i with _ | i
      ·intro op ho ρ w' hC hcst hfun hglo hd hf
       simp only [List.getElem?_toArray, List.getElem?_cons_zero, List.getElem?_cons_succ, Option.some.injEq] at ho
       subst ho
       rw [if_pos (by rfl)]
       have e94 : ρ (.tmp 94) = .pointer (some ⟨b, o + k * 3, none⟩) := hd 4 94 (by kernel_rfl)
       have x0 := cell_gr hC (cellp hbne c0)
       have x1 := cell_gr hC (cellp hbne c1)
       have x2 := cell_gr hC (cellp hbne c2)
       clear hd hf hC
       go_simp
       exact ⟨Gr.refl _, rfl⟩
      rcases i with _ | i
      ·intro op ho ρ w' hC hcst hfun hglo hd hf
       simp only [List.getElem?_toArray, List.getElem?_cons_zero, List.getElem?_cons_succ, Option.some.injEq] at ho
       subst ho
       rw [if_pos (by rfl)]
       have e1 : ρ (.tmp 1) = .int .i64 funcs := hf 1 (by kernel_rfl)
       clear hd hf
       go_simp
       exact ⟨Gr.refl _, rfl⟩
      rcases i with _ | i
      ·intro op ho ρ w' hC hcst hfun hglo hd hf
       simp only [List.getElem?_toArray, List.getElem?_cons_zero, List.getElem?_cons_succ, Option.some.injEq] at ho
       subst ho
       rw [if_pos (by rfl)]
       have e90 : ρ (.tmp 90) = .agg #[.string f.name, .int .i64 f.kind, .int .i64 f.params, .int .i64 f.locals, .slice (some ⟨b, o, none⟩) f.code.length ca, .slice B f.consts.length cb, .slice C f.hdls.length cc] := hd 0 90 (by kernel_rfl)
       have e95 : ρ (.tmp 95) = .agg #[.int .i64 c.op, .int .i64 c.a, .int .i64 c.b] := hd 5 95 (by kernel_rfl)
       have e96 : ρ (.tmp 96) = .int .i64 funcs := hd 6 96 (by kernel_rfl)
       clear hd hf
       go_simp
       rw [growUpon_enter]
       refine (rop_eq f _ B C ca cb cc funcs c _ false HQ.out (by omega) (by omega) (by omega) (by omega) (by omega) (by omega) (HF.out.consts.gr (Gr.trans (gr_plug hW (Nat.le_refl _) _) hC))).mono ?_
       rintro e w1 ⟨rfl, hb1⟩
       exact ⟨_, rfl, hb1, rfl⟩
      rcases i with _ | i
      ·intro op ho ρ w' hC hcst hfun hglo hd hf
       simp only [List.getElem?_toArray, List.getElem?_cons_zero, List.getElem?_cons_succ, Option.some.injEq] at ho
       subst ho
       rw [if_pos (by rfl)]
       have e97 : ρ (.tmp 97) = .bool false := hd 7 97 (by kernel_rfl)
       clear hd hf
       go_simp
       exact ⟨Gr.refl _, rfl⟩
      omega
     case hend =>
      intro w1 hb1
      have hW2 : Gr w w1 := Gr.trans (gr_plug hW (Nat.le_refl _) _) hb1
      have hbx2 := heap_gr hb1 (heap_plug_same _ _ _ hs1)
      clear hb1
      simp only [putAll, List.getElem?_toArray, List.getElem?_cons_succ, List.getElem?_cons_zero, Option.bind_some, Act.put, List.setIfInBounds_toArray, List.set_cons_succ, List.set_cons_zero, List.drop_succ_cons, List.drop_zero, List.getD_cons_zero, List.getD_cons_succ]
      go_wp2_with fail
      go_ret
      exact ⟨ret_bool (parts2 (all_false_at HX.out HQ.out)).symm, hW2⟩
    ·have HQ := Lib.hid hq
     clear hq
     go_wp2_with fail
     refine wp_region_const 9 6 (fun i => ([.agg #[.string f.name, .int .i64 f.kind, .int .i64 f.params, .int .i64 f.locals, .slice (some ⟨b, o, none⟩) f.code.length ca, .slice B f.consts.length cb, .slice C f.hdls.length cc], .pointer (some ⟨w.heap.size, 4, none⟩), .slice (some ⟨b, o, none⟩) f.code.length ca, .int .i64 k, .pointer (some ⟨b, o + k * 3, none⟩), .agg #[.int .i64 c.op, .int .i64 c.a, .int .i64 c.b], .int .i64 funcs, .bool true, .bool false] : List Value).getD i undef) (by kernel_rfl) (by kernel_rfl) (by kernel_rfl) (by decide) ?hstep ?hend
     case hstep =>
      intro i hi
      rcases i with _ | i
      ·intro op ho ρ w' hC hcst hfun hglo hd hf
       simp only [List.getElem?_toArray, List.getElem?_cons_zero, List.getElem?_cons_succ, Option.some.injEq] at ho
       subst ho
       rw [if_pos (by rfl)]
       have e2 : ρ (.tmp 2) = .pointer (some ⟨w.heap.size, 0, none⟩) := hf 2 (by kernel_rfl)
       obtain ⟨W2, hw2, hs2, _⟩ := plug1 (heap_gr hC (heap_plug_same _ _ _ hs1))
       clear hd hf hC
       subst hw2
       go_simp
       exact ⟨Gr.refl _, rfl⟩
      rcases i with _ | i
      ·intro op ho ρ w' hC hcst hfun hglo hd hf
       simp only [List.getElem?_toArray, List.getElem?_cons_zero, List.getElem?_cons_succ, Option.some.injEq] at ho
       subst ho
       rw [if_pos (by rfl)]
       have e2 : ρ (.tmp 2) = .pointer (some ⟨w.heap.size, 0, none⟩) := hf 2 (by kernel_rfl)
       clear hd hf
       go_simp
       exact ⟨Gr.refl _, rfl⟩
      rcases i with _ | i
      ·intro op ho ρ w' hC hcst hfun hglo hd hf
       simp only [List.getElem?_toArray, List.getElem?_cons_zero, List.getElem?_cons_succ, Option.some.injEq] at ho
       subst ho
       rw [if_pos (by rfl)]
       have e91 : ρ (.tmp 91) = .pointer (some ⟨w.heap.size, 4, none⟩) := hd 1 91 (by kernel_rfl)
       obtain ⟨W2, hw2, hs2, _⟩ := plug1 (heap_gr hC (heap_plug_same _ _ _ hs1))
       clear hd hf hC
       subst hw2
       go_simp
       exact ⟨Gr.refl _, rfl⟩
      rcases i with _ | i
      ·intro op ho ρ w' hC hcst hfun hglo hd hf
       simp only [List.getElem?_toArray, List.getElem?_cons_zero, List.getElem?_cons_succ, Option.some.injEq] at ho
       subst ho
       rw [if_pos (by rfl)]
       have e6 : ρ (.tmp 6) = .int .i64 k := hf 6 (by kernel_rfl)
       clear hd hf
       go_simp
       exact ⟨Gr.refl _, rfl⟩
      rcases i with _ | i
      ·intro op ho ρ w' hC hcst hfun hglo hd hf
       simp only [List.getElem?_toArray, List.getElem?_cons_zero, List.getElem?_cons_succ, Option.some.injEq] at ho
       subst ho
       rw [if_pos (by rfl)]
       have e92 : ρ (.tmp 92) = .slice (some ⟨b, o, none⟩) f.code.length ca := hd 2 92 (by kernel_rfl)
       have e93 : ρ (.tmp 93) = .int .i64 k := hd 3 93 (by kernel_rfl)
       clear hd hf
       go_simp
       exact ⟨Gr.refl _, rfl⟩
      rcases i with _ | i
      ·intro op ho ρ w' hC hcst hfun hglo hd hf
       simp only [List.getElem?_toArray, List.getElem?_cons_zero, List.getElem?_cons_succ, Option.some.injEq] at ho
       subst ho
       rw [if_pos (by rfl)]
       have e94 : ρ (.tmp 94) = .pointer (some ⟨b, o + k * 3, none⟩) := hd 4 94 (by kernel_rfl)
       have x0 := cell_gr hC (cellp hbne c0)
       have x1 := cell_gr hC (cellp hbne c1)
       have x2 := cell_gr hC (cellp hbne c2)
       clear hd hf hC
       go_simp
       exact ⟨Gr.refl _, rfl⟩
      rcases i with _ | i
      ·intro op ho ρ w' hC hcst hfun hglo hd hf
       simp only [List.getElem?_toArray, List.getElem?_cons_zero, List.getElem?_cons_succ, Option.some.injEq] at ho
       subst ho
       rw [if_pos (by rfl)]
       have e1 : ρ (.tmp 1) = .int .i64 funcs := hf 1 (by kernel_rfl)
       clear hd hf
       go_simp
       exact ⟨Gr.refl _, rfl⟩
      rcases i with _ | i
      ·intro op ho ρ w' hC hcst hfun hglo hd hf
       simp only [List.getElem?_toArray, List.getElem?_cons_zero, List.getElem?_cons_succ, Option.some.injEq] at ho
       subst ho
       rw [if_pos (by rfl)]
       have e90 : ρ (.tmp 90) = .agg #[.string f.name, .int .i64 f.kind, .int .i64 f.params, .int .i64 f.locals, .slice (some ⟨b, o, none⟩) f.code.length ca, .slice B f.consts.length cb, .slice C f.hdls.length cc] := hd 0 90 (by kernel_rfl)
       have e95 : ρ (.tmp 95) = .agg #[.int .i64 c.op, .int .i64 c.a, .int .i64 c.b] := hd 5 95 (by kernel_rfl)
       have e96 : ρ (.tmp 96) = .int .i64 funcs := hd 6 96 (by kernel_rfl)
       clear hd hf
       go_simp
       rw [growUpon_enter]
       refine (rop_eq f _ B C ca cb cc funcs c _ true HQ.out (by omega) (by omega) (by omega) (by omega) (by omega) (by omega) (HF.out.consts.gr (Gr.trans (gr_plug hW (Nat.le_refl _) _) hC))).mono ?_
       rintro e w1 ⟨rfl, hb1⟩
       exact ⟨_, rfl, hb1, rfl⟩
      rcases i with _ | i
      ·intro op ho ρ w' hC hcst hfun hglo hd hf
       simp only [List.getElem?_toArray, List.getElem?_cons_zero, List.getElem?_cons_succ, Option.some.injEq] at ho
       subst ho
       rw [if_pos (by rfl)]
       have e97 : ρ (.tmp 97) = .bool true := hd 7 97 (by kernel_rfl)
       clear hd hf
       go_simp
       exact ⟨Gr.refl _, rfl⟩
      omega
     case hend =>
      intro w1 hb1
      have hW2 : Gr w w1 := Gr.trans (gr_plug hW (Nat.le_refl _) _) hb1
      have hbx2 := heap_gr hb1 (heap_plug_same _ _ _ hs1)
      clear hb1
      simp only [putAll, List.getElem?_toArray, List.getElem?_cons_succ, List.getElem?_cons_zero, Option.bind_some, Act.put, List.setIfInBounds_toArray, List.set_cons_succ, List.set_cons_zero, List.drop_succ_cons, List.drop_zero, List.getD_cons_zero, List.getD_cons_succ]
      go_wp2_with fail
      go_roundw
      case rel => exact ⟨k + 1, by omega, by go_num, all_take_succ Hall.out HX.out HQ.out, hW2, hbx2⟩
      case measure => simp [intOf]; omega
   have HC2 := Lib.hid (all_take_len Hall.out hlt2)
   clear Hall
   go_wp2_with fail
   go_loopw [7] (LoopRel w w.heap.size (fnBox f A B C ca cb cc) f.hdls.length (fun k => (f.hdls.take k).all (hdlOk f.code.length) = true)) (fun i _ => f.hdls.length - (intOf i).toNat)
   case atStart => exact ⟨0, Nat.zero_le _, rfl, rfl, gr_plug hW (Nat.le_refl _) _, heap_plug_same _ _ _ hs1⟩
   case round =>
    clear hW hs1
    obtain ⟨k, hk, rfl, hall, hgr, hbx⟩ := hrel
    obtain ⟨W1, hw1, hs1, hW⟩ := plug1 hbx
    replace hW := hgr.trans hW
    clear hgr hbx
    unfold fnBox at hw1
    subst hw1
    have Hall := Lib.hid hall
    clear hall
    by_cases hlt3 : k < f.hdls.length
    ·obtain ⟨b, o, hB, hcell⟩ := HF.out.hdls k f.hdls[k] (List.getElem?_eq_getElem hlt3)
     have hx : f.hdls[k]? = some f.hdls[k] := List.getElem?_eq_getElem hlt3
     generalize f.hdls[k] = c at hcell hx
     have c0 := cell_gr hW (hcell 0 _ rfl)
     have c1 := cell_gr hW (hcell 1 _ rfl)
     have c2 := cell_gr hW (hcell 2 _ rfl)
     have c3 := cell_gr hW (hcell 3 _ rfl)
     have c4 := cell_gr hW (hcell 4 _ rfl)
     have hblt : b < w.heap.size := block_lt_of_cell (hcell 0 _ rfl)
     have hbne : ¬ b = w.heap.size := by omega
     have hblt' : b < W1.heap.size := by omega
     rw [<-Nat.add_assoc] at c0 c1 c2 c3 c4
     rw [Nat.add_zero] at c0
     have HX := Lib.hid hx
     clear hcell hx
     subst hB
     by_cases h1 : 0 <= c.lo
     case neg =>
      have hk1 : decide (c.lo < 0) = true := by simp; omega
      have Hok := Lib.hid (show hdlOk f.code.length c = false by simp [hdlOk, h1])
      clear h1
      go_wp2_with fail
      go_ret
      exact ⟨ret_bool (parts3 (all_false_at HX.out Hok.out)).symm, gr_then_alloc (gr_plug hW (Nat.le_refl _) _) _⟩
     have hk1 : decide (c.lo < 0) = false := by simp; omega
     by_cases h2 : c.lo < c.hi
     case neg =>
      have hk2 : decide (c.hi <= c.lo) = true := by simp; omega
      have Hok := Lib.hid (show hdlOk f.code.length c = false by simp [hdlOk, h2])
      clear h1 h2
      go_wp2_with fail
      go_ret
      exact ⟨ret_bool (parts3 (all_false_at HX.out Hok.out)).symm, gr_then_alloc (gr_plug hW (Nat.le_refl _) _) _⟩
     have hk2 : decide (c.hi <= c.lo) = false := by simp; omega
     by_cases h3 : c.hi <= (f.code.length : Int)
     case neg =>
      have hk3 : decide ((f.code.length : Int) < c.hi) = true := by simp; omega
      have Hok := Lib.hid (show hdlOk f.code.length c = false by simp [hdlOk, h3])
      clear h1 h2 h3
      go_wp2_with fail
      go_ret
      exact ⟨ret_bool (parts3 (all_false_at HX.out Hok.out)).symm, gr_then_alloc (gr_plug hW (Nat.le_refl _) _) _⟩
     have hk3 : decide ((f.code.length : Int) < c.hi) = false := by simp; omega
     by_cases h4 : betw c.tg 0 ((f.code.length : Int) - 1) = true
     case neg =>
      have Hq4 := Lib.hid (eq_false_of_ne_true h4)
      have Hok := Lib.hid (show hdlOk f.code.length c = false by simp [hdlOk, h4])
      clear h1 h2 h3 h4
      go_wp2_with fail
      refine (rbetween_eq _ _ _ false Hq4.out _).mono ?_
      rintro e w1 ⟨rfl, rfl⟩
      go_wp2_with fail
      go_ret
      exact ⟨ret_bool (parts3 (all_false_at HX.out Hok.out)).symm, gr_then_alloc (gr_plug hW (Nat.le_refl _) _) _⟩
     have Hq4 := Lib.hid h4
     by_cases h5 : betw c.dp 0 10000 = true
     case neg =>
      have Hq5 := Lib.hid (eq_false_of_ne_true h5)
      have Hok := Lib.hid (show hdlOk f.code.length c = false by simp [hdlOk, h5])
      clear h1 h2 h3 h4 h5
      go_wp2_with fail
      refine (rbetween_eq _ _ _ true Hq4.out _).mono ?_
      rintro e w1 ⟨rfl, rfl⟩
      go_wp2_with fail
      refine (rbetween_eq _ _ _ false Hq5.out _).mono ?_
      rintro e w1 ⟨rfl, rfl⟩
      go_wp2_with fail
      go_ret
      exact ⟨ret_bool (parts3 (all_false_at HX.out Hok.out)).symm, gr_then_alloc (gr_plug hW (Nat.le_refl _) _) _⟩
     have Hq5 := Lib.hid h5
     by_cases h6 : betw c.sc 0 10000 = true
     case neg =>
      have Hq6 := Lib.hid (eq_false_of_ne_true h6)
      have Hok := Lib.hid (show hdlOk f.code.length c = false by simp [hdlOk, h6])
      clear h1 h2 h3 h4 h5 h6
      go_wp2_with fail
      refine (rbetween_eq _ _ _ true Hq4.out _).mono ?_
      rintro e w1 ⟨rfl, rfl⟩
      go_wp2_with fail
      refine (rbetween_eq _ _ _ true Hq5.out _).mono ?_
      rintro e w1 ⟨rfl, rfl⟩
      go_wp2_with fail
      refine (rbetween_eq _ _ _ false Hq6.out _).mono ?_
      rintro e w1 ⟨rfl, rfl⟩
      go_wp2_with fail
      go_ret
      exact ⟨ret_bool (parts3 (all_false_at HX.out Hok.out)).symm, gr_then_alloc (gr_plug hW (Nat.le_refl _) _) _⟩
     have Hq6 := Lib.hid h6
     have Hok := Lib.hid (show hdlOk f.code.length c = true by simp [hdlOk, h1, h2, h3, h4, h5, h6])
     clear h1 h2 h3 h4 h5 h6
     go_wp2_with fail
     refine (rbetween_eq _ _ _ true Hq4.out _).mono ?_
     rintro e w1 ⟨rfl, rfl⟩
     go_wp2_with fail
     refine (rbetween_eq _ _ _ true Hq5.out _).mono ?_
     rintro e w1 ⟨rfl, rfl⟩
     go_wp2_with fail
     refine (rbetween_eq _ _ _ true Hq6.out _).mono ?_
     rintro e w1 ⟨rfl, rfl⟩
     go_wp2_with fail
     go_roundw
     case rel => exact ⟨k + 1, by omega, by go_num, all_take_succ Hall.out HX.out Hok.out, gr_then_alloc (gr_plug hW (Nat.le_refl _) _) _, heap_gr (gr_alloc _ _) (heap_plug_same _ _ _ hs1)⟩
     case measure => simp [intOf]; omega
    have HC3 := Lib.hid (all_take_len Hall.out hlt3)
    go_wp2_with fail
    go_ret
    exact ⟨ret_bool (parts0 HC1.out HC2.out HC3.out).symm, gr_plug hW (Nat.le_refl _) _⟩
theorem rformed_any (f : Fn) (A B C : Option Addr) (ca cb cc : Nat) (funcs : Int) (w : World) (hF : FnAt w A B C f) (hfu : 0 <= funcs) (hfu' : funcs <= 1000000) (hcs : ∀ c ∈ f.consts, c.str.size <= 9223372036854775807)
  (hnm : f.name.size <= 9223372036854775807) (hl1 : f.code.length <= 9223372036854775807) (hl2 : f.consts.length <= 9223372036854775807) (hl3 : f.hdls.length <= 9223372036854775807) : RFormedIs f A B C ca cb cc funcs w (formedB f funcs) := by
 have F0 : ∀ r : Bool, formedB f funcs = r -> RFormedIs f A B C ca cb cc funcs w r -> RFormedIs f A B C ca cb cc funcs w (formedB f funcs) := fun r hr h => by rw [hr]; exact h
 have ht : textB f.name 1000 = (decide (f.name.size <= 1000) && validB f.name) := by
  unfold textB
  congr 1
  simp only [decide_eq_decide]; omega
 by_cases h1 : textB f.name 1000 = true
 case neg => exact F0 false (by rw [ht] at h1; simp only [formedB, headB]; cases hd : decide (f.name.size <= 1000) <;> cases hv : validB f.name <;> simp_all) (rformed_h2 f A B C ca cb cc funcs w hnm hl1 hl2 hl3 (eq_false_of_ne_true h1))
 have h1' := h1
 rw [ht, Bool.and_eq_true] at h1'
 obtain ⟨ha, hb⟩ := h1'
 by_cases h3 : betw f.kind 1 5 = true
 case neg => exact F0 false (by simp [formedB, headB, h3]) (rformed_h3 f A B C ca cb cc funcs w hnm hl1 hl2 hl3 h1 (eq_false_of_ne_true h3))
 by_cases h4 : betw f.params 0 f.locals = true
 case neg => exact F0 false (by simp [formedB, headB, h4]) (rformed_h4 f A B C ca cb cc funcs w hnm hl1 hl2 hl3 h1 h3 (eq_false_of_ne_true h4))
 by_cases h5 : f.locals <= 10000
 case neg => exact F0 false (by simp [formedB, headB, h5]) (rformed_h5 f A B C ca cb cc funcs w hnm hl1 hl2 hl3 h1 h3 h4 (by omega))
 by_cases h6 : betw f.code.length 1 65536 = true
 case neg => exact F0 false (by simp [formedB, sizeB, h6]) (rformed_s1 f A B C ca cb cc funcs w hnm hl1 hl2 hl3 h1 h3 h4 h5 (eq_false_of_ne_true h6))
 by_cases h7 : f.consts.length <= 10000
 case neg => exact F0 false (by simp [formedB, sizeB, h7]) (rformed_s2 f A B C ca cb cc funcs w hnm hl1 hl2 hl3 h1 h3 h4 h5 h6 (by omega))
 by_cases h8 : f.hdls.length <= 10000
 case neg => exact F0 false (by simp [formedB, sizeB, h8]) (rformed_s3 f A B C ca cb cc funcs w hnm hl1 hl2 hl3 h1 h3 h4 h5 h6 h7 (by omega))
 exact F0 (partsB f funcs) (by simp [formedB, headB, sizeB, ha, hb, h3, h4, h5, h6, h7, h8]) (rformed_loops f A B C ca cb cc funcs w hF hfu hfu' hcs hnm h1 h3 h4 h5 h6 h7 h8)
end Go.Proofs.YtjefbgfohijaoaaGreatDoor

/- Own work: knapsackref27.Formed. -/
namespace Go.Proofs.YtjefbgfohijaoaaGreatDoor
open Go.RowKit
set_option linter.unusedVariables false
set_option linter.unusedSimpArgs false
theorem rformed_eq (r : FnRef) (funcs : Int) (w : World) (q : Bool) (hq : formedB r.f funcs = q) (hF : FnAt w r.A r.B r.C r.f) (hW : FnWf r) (hfu : 0 <= funcs) (hfu' : funcs <= 1000000) :
  Calls Tryz.prog 12 #[.agg #[.string r.f.name, .int .i64 r.f.kind, .int .i64 r.f.params, .int .i64 r.f.locals, .slice r.A r.f.code.length r.ca, .slice r.B r.f.consts.length r.cb, .slice r.C r.f.hdls.length r.cc], .int .i64 funcs] w
   fun e w' => e = .returned (.bool q) /\ Gr w w' := by
 subst hq; exact rformed_any r.f r.A r.B r.C r.ca r.cb r.cc funcs w hF hfu hfu' hW.cs hW.nm hW.l1 hW.l2 hW.l3
set_option maxHeartbeats 2000000 in
set_option maxRecDepth 100000 in
theorem RFormed_any (A : Option Addr) (c : Nat) (rs : List FnRef) (w : World) (hP : ProgAt w A rs) (hn : rs.length <= 1000000) :
  Calls Tryz.prog 7 #[.agg #[.slice A rs.length c]] w fun e w' => e = .returned (.bool (progB rs)) /\ Gr w w' := by
 have HP := Lib.hid hP
 clear hP
 go_enter Tryz.func7, Tryz.ntmps7
 go_wp2_with fail
 go_loopw [3] (LoopRel w w.heap.size (progBox A rs.length c) rs.length (fun k => (rs.take k).all (fun r => formedB r.f rs.length) = true)) (fun i _ => rs.length - (intOf i).toNat)
 case atStart => exact ⟨0, Nat.zero_le _, rfl, rfl, gr_alloc _ _, heap_alloc_new _ _⟩
 case round =>
  obtain ⟨k, hk, rfl, hall, hgr, hbx⟩ := hrel
  obtain ⟨W1, hw1, hs1, hW⟩ := plug1 hbx
  replace hW := hgr.trans hW
  clear hgr hbx
  unfold progBox at hw1
  subst hw1
  have Hall := Lib.hid hall
  clear hall
  by_cases hlt : k < rs.length
  ·obtain ⟨b, o, hB, hcell⟩ := HP.out.sl k rs[k] (List.getElem?_eq_getElem hlt)
   have hx : rs[k]? = some rs[k] := List.getElem?_eq_getElem hlt
   have hm := List.mem_of_getElem? hx
   have HF := Lib.hid (HP.out.fns _ hm)
   have HWf := Lib.hid (HP.out.wf _ hm)
   generalize rs[k] = r at hcell hx hm HF HWf
   have c0 := cell_gr hW (hcell 0 _ rfl)
   have c1 := cell_gr hW (hcell 1 _ rfl)
   have c2 := cell_gr hW (hcell 2 _ rfl)
   have c3 := cell_gr hW (hcell 3 _ rfl)
   have c4 := cell_gr hW (hcell 4 _ rfl)
   have c5 := cell_gr hW (hcell 5 _ rfl)
   have c6 := cell_gr hW (hcell 6 _ rfl)
   have hblt : b < w.heap.size := block_lt_of_cell (hcell 0 _ rfl)
   have hbne : ¬ b = w.heap.size := by omega
   have hblt' : b < W1.heap.size := by omega
   rw [<-Nat.add_assoc] at c0 c1 c2 c3 c4 c5 c6
   rw [Nat.add_zero] at c0
   have HX := Lib.hid hx
   clear hcell hx hm
   subst hB
   cases hq : formedB r.f rs.length
   ·have HQ := Lib.hid hq
    clear hq
    go_wp2_with fail
    refine wp_region_const 10 6 (fun i => ([.pointer (some ⟨w.heap.size, 0, none⟩), .slice (some ⟨b, o, none⟩) rs.length c, .int .i64 k, .pointer (some ⟨b, o + k * 7, none⟩), .agg #[.string r.f.name, .int .i64 r.f.kind, .int .i64 r.f.params, .int .i64 r.f.locals, .slice r.A r.f.code.length r.ca, .slice r.B r.f.consts.length r.cb, .slice r.C r.f.hdls.length r.cc], .pointer (some ⟨w.heap.size, 0, none⟩), .slice (some ⟨b, o, none⟩) rs.length c, .int .i64 rs.length, .bool false, .bool true] : List Value).getD i undef) (by kernel_rfl) (by kernel_rfl) (by kernel_rfl) (by decide) ?hstep ?hend
    case hstep =>
     intro i hi
     rcases i with _ | i
     ·intro op ho ρ w' hC hcst hfun hglo hd hf
      simp only [List.getElem?_toArray, List.getElem?_cons_zero, List.getElem?_cons_succ, Option.some.injEq] at ho
      subst ho
      rw [if_pos (by rfl)]
      have e1 : ρ (.tmp 1) = .pointer (some ⟨w.heap.size, 0, none⟩) := hf 1 (by kernel_rfl)
      clear hd hf
      go_simp
      exact ⟨Gr.refl _, rfl⟩
     rcases i with _ | i
     ·intro op ho ρ w' hC hcst hfun hglo hd hf
      simp only [List.getElem?_toArray, List.getElem?_cons_zero, List.getElem?_cons_succ, Option.some.injEq] at ho
      subst ho
      rw [if_pos (by rfl)]
      have e11 : ρ (.tmp 11) = .pointer (some ⟨w.heap.size, 0, none⟩) := hd 0 11 (by kernel_rfl)
      obtain ⟨W2, hw2, hs2, _⟩ := plug1 (heap_gr hC (heap_plug_same _ _ _ hs1))
      clear hd hf hC
      subst hw2
      go_simp
      exact ⟨Gr.refl _, rfl⟩
     rcases i with _ | i
     ·intro op ho ρ w' hC hcst hfun hglo hd hf
      simp only [List.getElem?_toArray, List.getElem?_cons_zero, List.getElem?_cons_succ, Option.some.injEq] at ho
      subst ho
      rw [if_pos (by rfl)]
      have e3 : ρ (.tmp 3) = .int .i64 k := hf 3 (by kernel_rfl)
      clear hd hf
      go_simp
      exact ⟨Gr.refl _, rfl⟩
     rcases i with _ | i
     ·intro op ho ρ w' hC hcst hfun hglo hd hf
      simp only [List.getElem?_toArray, List.getElem?_cons_zero, List.getElem?_cons_succ, Option.some.injEq] at ho
      subst ho
      rw [if_pos (by rfl)]
      have e12 : ρ (.tmp 12) = .slice (some ⟨b, o, none⟩) rs.length c := hd 1 12 (by kernel_rfl)
      have e13 : ρ (.tmp 13) = .int .i64 k := hd 2 13 (by kernel_rfl)
      clear hd hf
      go_simp
      exact ⟨Gr.refl _, rfl⟩
     rcases i with _ | i
     ·intro op ho ρ w' hC hcst hfun hglo hd hf
      simp only [List.getElem?_toArray, List.getElem?_cons_zero, List.getElem?_cons_succ, Option.some.injEq] at ho
      subst ho
      rw [if_pos (by rfl)]
      have e14 : ρ (.tmp 14) = .pointer (some ⟨b, o + k * 7, none⟩) := hd 3 14 (by kernel_rfl)
      have x0 := cell_gr hC (cellp hbne c0)
      have x1 := cell_gr hC (cellp hbne c1)
      have x2 := cell_gr hC (cellp hbne c2)
      have x3 := cell_gr hC (cellp hbne c3)
      have x4 := cell_gr hC (cellp hbne c4)
      have x5 := cell_gr hC (cellp hbne c5)
      have x6 := cell_gr hC (cellp hbne c6)
      clear hd hf hC
      go_simp
      exact ⟨Gr.refl _, rfl⟩
     rcases i with _ | i
     ·intro op ho ρ w' hC hcst hfun hglo hd hf
      simp only [List.getElem?_toArray, List.getElem?_cons_zero, List.getElem?_cons_succ, Option.some.injEq] at ho
      subst ho
      rw [if_pos (by rfl)]
      have e1 : ρ (.tmp 1) = .pointer (some ⟨w.heap.size, 0, none⟩) := hf 1 (by kernel_rfl)
      clear hd hf
      go_simp
      exact ⟨Gr.refl _, rfl⟩
     rcases i with _ | i
     ·intro op ho ρ w' hC hcst hfun hglo hd hf
      simp only [List.getElem?_toArray, List.getElem?_cons_zero, List.getElem?_cons_succ, Option.some.injEq] at ho
      subst ho
      rw [if_pos (by rfl)]
      have e16 : ρ (.tmp 16) = .pointer (some ⟨w.heap.size, 0, none⟩) := hd 5 16 (by kernel_rfl)
      obtain ⟨W2, hw2, hs2, _⟩ := plug1 (heap_gr hC (heap_plug_same _ _ _ hs1))
      clear hd hf hC
      subst hw2
      go_simp
      exact ⟨Gr.refl _, rfl⟩
     rcases i with _ | i
     ·intro op ho ρ w' hC hcst hfun hglo hd hf
      simp only [List.getElem?_toArray, List.getElem?_cons_zero, List.getElem?_cons_succ, Option.some.injEq] at ho
      subst ho
      rw [if_pos (by rfl)]
      have e17 : ρ (.tmp 17) = .slice (some ⟨b, o, none⟩) rs.length c := hd 6 17 (by kernel_rfl)
      clear hd hf
      go_simp
      exact ⟨Gr.refl _, rfl⟩
     rcases i with _ | i
     ·intro op ho ρ w' hC hcst hfun hglo hd hf
      simp only [List.getElem?_toArray, List.getElem?_cons_zero, List.getElem?_cons_succ, Option.some.injEq] at ho
      subst ho
      rw [if_pos (by rfl)]
      have e15 : ρ (.tmp 15) = .agg #[.string r.f.name, .int .i64 r.f.kind, .int .i64 r.f.params, .int .i64 r.f.locals, .slice r.A r.f.code.length r.ca, .slice r.B r.f.consts.length r.cb, .slice r.C r.f.hdls.length r.cc] := hd 4 15 (by kernel_rfl)
      have e18 : ρ (.tmp 18) = .int .i64 rs.length := hd 7 18 (by kernel_rfl)
      clear hd hf
      go_simp
      rw [growUpon_enter]
      refine (rformed_eq r _ _ false HQ.out (HF.out.gr (Gr.trans (gr_plug hW (Nat.le_refl _) _) hC)) HWf.out (by omega) (by omega)).mono ?_
      rintro e w1 ⟨rfl, hb1⟩
      exact ⟨_, rfl, hb1, rfl⟩
     rcases i with _ | i
     ·intro op ho ρ w' hC hcst hfun hglo hd hf
      simp only [List.getElem?_toArray, List.getElem?_cons_zero, List.getElem?_cons_succ, Option.some.injEq] at ho
      subst ho
      rw [if_pos (by rfl)]
      have e19 : ρ (.tmp 19) = .bool false := hd 8 19 (by kernel_rfl)
      clear hd hf
      go_simp
      exact ⟨Gr.refl _, rfl⟩
     omega
    case hend =>
     intro w1 hb1
     have hW2 : Gr w w1 := Gr.trans (gr_plug hW (Nat.le_refl _) _) hb1
     have hbx2 := heap_gr hb1 (heap_plug_same _ _ _ hs1)
     clear hb1
     simp only [putAll, List.getElem?_toArray, List.getElem?_cons_succ, List.getElem?_cons_zero, Option.bind_some, Act.put, List.setIfInBounds_toArray, List.set_cons_succ, List.set_cons_zero, List.drop_succ_cons, List.drop_zero, List.getD_cons_zero, List.getD_cons_succ]
     go_wp2_with fail
     go_ret
     exact ⟨ret_bool (by unfold progB; rw [all_false_at HX.out HQ.out]; rfl), hW2⟩
   ·have HQ := Lib.hid hq
    clear hq
    go_wp2_with fail
    refine wp_region_const 10 6 (fun i => ([.pointer (some ⟨w.heap.size, 0, none⟩), .slice (some ⟨b, o, none⟩) rs.length c, .int .i64 k, .pointer (some ⟨b, o + k * 7, none⟩), .agg #[.string r.f.name, .int .i64 r.f.kind, .int .i64 r.f.params, .int .i64 r.f.locals, .slice r.A r.f.code.length r.ca, .slice r.B r.f.consts.length r.cb, .slice r.C r.f.hdls.length r.cc], .pointer (some ⟨w.heap.size, 0, none⟩), .slice (some ⟨b, o, none⟩) rs.length c, .int .i64 rs.length, .bool true, .bool false] : List Value).getD i undef) (by kernel_rfl) (by kernel_rfl) (by kernel_rfl) (by decide) ?hstep ?hend
    case hstep =>
     intro i hi
     rcases i with _ | i
     ·intro op ho ρ w' hC hcst hfun hglo hd hf
      simp only [List.getElem?_toArray, List.getElem?_cons_zero, List.getElem?_cons_succ, Option.some.injEq] at ho
      subst ho
      rw [if_pos (by rfl)]
      have e1 : ρ (.tmp 1) = .pointer (some ⟨w.heap.size, 0, none⟩) := hf 1 (by kernel_rfl)
      clear hd hf
      go_simp
      exact ⟨Gr.refl _, rfl⟩
     rcases i with _ | i
     ·intro op ho ρ w' hC hcst hfun hglo hd hf
      simp only [List.getElem?_toArray, List.getElem?_cons_zero, List.getElem?_cons_succ, Option.some.injEq] at ho
      subst ho
      rw [if_pos (by rfl)]
      have e11 : ρ (.tmp 11) = .pointer (some ⟨w.heap.size, 0, none⟩) := hd 0 11 (by kernel_rfl)
      obtain ⟨W2, hw2, hs2, _⟩ := plug1 (heap_gr hC (heap_plug_same _ _ _ hs1))
      clear hd hf hC
      subst hw2
      go_simp
      exact ⟨Gr.refl _, rfl⟩
     rcases i with _ | i
     ·intro op ho ρ w' hC hcst hfun hglo hd hf
      simp only [List.getElem?_toArray, List.getElem?_cons_zero, List.getElem?_cons_succ, Option.some.injEq] at ho
      subst ho
      rw [if_pos (by rfl)]
      have e3 : ρ (.tmp 3) = .int .i64 k := hf 3 (by kernel_rfl)
      clear hd hf
      go_simp
      exact ⟨Gr.refl _, rfl⟩
     rcases i with _ | i
     ·intro op ho ρ w' hC hcst hfun hglo hd hf
      simp only [List.getElem?_toArray, List.getElem?_cons_zero, List.getElem?_cons_succ, Option.some.injEq] at ho
      subst ho
      rw [if_pos (by rfl)]
      have e12 : ρ (.tmp 12) = .slice (some ⟨b, o, none⟩) rs.length c := hd 1 12 (by kernel_rfl)
      have e13 : ρ (.tmp 13) = .int .i64 k := hd 2 13 (by kernel_rfl)
      clear hd hf
      go_simp
      exact ⟨Gr.refl _, rfl⟩
     rcases i with _ | i
     ·intro op ho ρ w' hC hcst hfun hglo hd hf
      simp only [List.getElem?_toArray, List.getElem?_cons_zero, List.getElem?_cons_succ, Option.some.injEq] at ho
      subst ho
      rw [if_pos (by rfl)]
      have e14 : ρ (.tmp 14) = .pointer (some ⟨b, o + k * 7, none⟩) := hd 3 14 (by kernel_rfl)
      have x0 := cell_gr hC (cellp hbne c0)
      have x1 := cell_gr hC (cellp hbne c1)
      have x2 := cell_gr hC (cellp hbne c2)
      have x3 := cell_gr hC (cellp hbne c3)
      have x4 := cell_gr hC (cellp hbne c4)
      have x5 := cell_gr hC (cellp hbne c5)
      have x6 := cell_gr hC (cellp hbne c6)
      clear hd hf hC
      go_simp
      exact ⟨Gr.refl _, rfl⟩
     rcases i with _ | i
     ·intro op ho ρ w' hC hcst hfun hglo hd hf
      simp only [List.getElem?_toArray, List.getElem?_cons_zero, List.getElem?_cons_succ, Option.some.injEq] at ho
      subst ho
      rw [if_pos (by rfl)]
      have e1 : ρ (.tmp 1) = .pointer (some ⟨w.heap.size, 0, none⟩) := hf 1 (by kernel_rfl)
      clear hd hf
      go_simp
      exact ⟨Gr.refl _, rfl⟩
     rcases i with _ | i
     ·intro op ho ρ w' hC hcst hfun hglo hd hf
      simp only [List.getElem?_toArray, List.getElem?_cons_zero, List.getElem?_cons_succ, Option.some.injEq] at ho
      subst ho
      rw [if_pos (by rfl)]
      have e16 : ρ (.tmp 16) = .pointer (some ⟨w.heap.size, 0, none⟩) := hd 5 16 (by kernel_rfl)
      obtain ⟨W2, hw2, hs2, _⟩ := plug1 (heap_gr hC (heap_plug_same _ _ _ hs1))
      clear hd hf hC
      subst hw2
      go_simp
      exact ⟨Gr.refl _, rfl⟩
     rcases i with _ | i
     ·intro op ho ρ w' hC hcst hfun hglo hd hf
      simp only [List.getElem?_toArray, List.getElem?_cons_zero, List.getElem?_cons_succ, Option.some.injEq] at ho
      subst ho
      rw [if_pos (by rfl)]
      have e17 : ρ (.tmp 17) = .slice (some ⟨b, o, none⟩) rs.length c := hd 6 17 (by kernel_rfl)
      clear hd hf
      go_simp
      exact ⟨Gr.refl _, rfl⟩
     rcases i with _ | i
     ·intro op ho ρ w' hC hcst hfun hglo hd hf
      simp only [List.getElem?_toArray, List.getElem?_cons_zero, List.getElem?_cons_succ, Option.some.injEq] at ho
      subst ho
      rw [if_pos (by rfl)]
      have e15 : ρ (.tmp 15) = .agg #[.string r.f.name, .int .i64 r.f.kind, .int .i64 r.f.params, .int .i64 r.f.locals, .slice r.A r.f.code.length r.ca, .slice r.B r.f.consts.length r.cb, .slice r.C r.f.hdls.length r.cc] := hd 4 15 (by kernel_rfl)
      have e18 : ρ (.tmp 18) = .int .i64 rs.length := hd 7 18 (by kernel_rfl)
      clear hd hf
      go_simp
      rw [growUpon_enter]
      refine (rformed_eq r _ _ true HQ.out (HF.out.gr (Gr.trans (gr_plug hW (Nat.le_refl _) _) hC)) HWf.out (by omega) (by omega)).mono ?_
      rintro e w1 ⟨rfl, hb1⟩
      exact ⟨_, rfl, hb1, rfl⟩
     rcases i with _ | i
     ·intro op ho ρ w' hC hcst hfun hglo hd hf
      simp only [List.getElem?_toArray, List.getElem?_cons_zero, List.getElem?_cons_succ, Option.some.injEq] at ho
      subst ho
      rw [if_pos (by rfl)]
      have e19 : ρ (.tmp 19) = .bool true := hd 8 19 (by kernel_rfl)
      clear hd hf
      go_simp
      exact ⟨Gr.refl _, rfl⟩
     omega
    case hend =>
     intro w1 hb1
     have hW2 : Gr w w1 := Gr.trans (gr_plug hW (Nat.le_refl _) _) hb1
     have hbx2 := heap_gr hb1 (heap_plug_same _ _ _ hs1)
     clear hb1
     simp only [putAll, List.getElem?_toArray, List.getElem?_cons_succ, List.getElem?_cons_zero, Option.bind_some, Act.put, List.setIfInBounds_toArray, List.set_cons_succ, List.set_cons_zero, List.drop_succ_cons, List.drop_zero, List.getD_cons_zero, List.getD_cons_succ]
     go_wp2_with fail
     go_roundw
     case rel => exact ⟨k + 1, by omega, by go_num, all_take_succ Hall.out HX.out HQ.out, hW2, hbx2⟩
     case measure => simp [intOf]; omega
  ·go_wp2_with fail
   go_ret
   exact ⟨ret_bool (by unfold progB; rw [all_take_len Hall.out hlt]; rfl), gr_plug hW (Nat.le_refl _) _⟩
end Go.Proofs.YtjefbgfohijaoaaGreatDoor

/- Own work: bytecode.equal at instructions and at handlers. -/
namespace Go.Proofs.YtjefbgfohijaoaaGreatDoor
open Go.RowKit
set_option linter.unusedVariables false
set_option linter.unusedSimpArgs false
def insEq (x y : Ins) : Bool := x.op == y.op && (x.a == y.a && x.b == y.b)
def hdlEq (x y : Hdl) : Bool := x.lo == y.lo && (x.hi == y.hi && (x.tg == y.tg && (x.dp == y.dp && x.sc == y.sc)))
def all2 {α : Type} (p : α -> α -> Bool) (xs ys : List α) : Bool := (xs.zip ys).all fun q => p q.1 q.2
def listEq {α : Type} (p : α -> α -> Bool) (xs ys : List α) : Bool := decide (xs.length = ys.length) && all2 p xs ys
end Go.Proofs.YtjefbgfohijaoaaGreatDoor

/- Own work: bytecode.plain and knapsackref27.same. -/
namespace Go.Proofs.YtjefbgfohijaoaaGreatDoor
open Go.RowKit
set_option linter.unusedVariables false
set_option linter.unusedSimpArgs false
def plainC (c : Cst) : Cst := if c.kind = 1 then { c with str := ByteArray.empty } else if c.kind = 2 then { c with int := 0 } else c
def cstSame (x y : Cst) : Bool := x.kind == y.kind && ((x.kind == 2 || x.int == y.int) && (x.kind == 1 || x.str.toList == y.str.toList))
def cstEq (x y : Cst) : Bool := x.kind == y.kind && (x.int == y.int && x.str.toList == y.str.toList)
end Go.Proofs.YtjefbgfohijaoaaGreatDoor

/- Own work: knapsackref27.SameFunc. -/
namespace Go.Proofs.YtjefbgfohijaoaaGreatDoor
open Go.RowKit
set_option linter.unusedVariables false
set_option linter.unusedSimpArgs false
def headSame (x y : Fn) : Bool := x.name.toList == y.name.toList && (x.kind == y.kind && (x.params == y.params && (x.locals == y.locals && (decide (x.code.length = y.code.length) && (decide (x.consts.length = y.consts.length) && decide (x.hdls.length = y.hdls.length))))))
def bodySame (x y : Fn) : Bool := all2 insEq x.code y.code && (all2 cstSame x.consts y.consts && all2 hdlEq x.hdls y.hdls)
def fnSame (x y : Fn) : Bool := headSame x y && bodySame x y
def SFIs (x y : FnRef) (w : World) (q : Bool) : Prop :=
 Calls Tryz.prog 11 #[.agg #[.string x.f.name, .int .i64 x.f.kind, .int .i64 x.f.params, .int .i64 x.f.locals, .slice x.A x.f.code.length x.ca, .slice x.B x.f.consts.length x.cb, .slice x.C x.f.hdls.length x.cc], .agg #[.string y.f.name, .int .i64 y.f.kind, .int .i64 y.f.params, .int .i64 y.f.locals, .slice y.A y.f.code.length y.ca, .slice y.B y.f.consts.length y.cb, .slice y.C y.f.hdls.length y.cc]] w fun e w' => e = .returned (.bool q) /\ Gr w w'
def refBox (r : FnRef) : Obj := .cells #[.string r.f.name, .int .i64 r.f.kind, .int .i64 r.f.params, .int .i64 r.f.locals, .slice r.A r.f.code.length r.ca, .slice r.B r.f.consts.length r.cb, .slice r.C r.f.hdls.length r.cc] 33 (0, 0)
def LoopRel2 (w : World) (g1 g2 : Nat) (b1 b2 : Obj) (n : Nat) (P : Nat -> Prop) (i : Value) (wr : World) : Prop := ∃ k : Nat, k <= n /\ i = .int .i64 k /\ P k /\ Gr w wr /\ wr.heap[g1]? = some b1 /\ wr.heap[g2]? = some b2
end Go.Proofs.YtjefbgfohijaoaaGreatDoor

/- Own work: knapsackref27.Same. -/
namespace Go.Proofs.YtjefbgfohijaoaaGreatDoor
open Go.RowKit
set_option linter.unusedVariables false
set_option linter.unusedSimpArgs false
def refSame (x y : FnRef) : Bool := fnSame x.f y.f
def progSame (xs ys : List FnRef) : Bool := listEq refSame xs ys
end Go.Proofs.YtjefbgfohijaoaaGreatDoor

/- Own work: knapsackref27.Few. -/
namespace Go.Proofs.YtjefbgfohijaoaaGreatDoor
open Go.RowKit
set_option linter.unusedVariables false
set_option linter.unusedSimpArgs false
def fewC (c : Cst) : Bool := decide (c.str.size <= 60)
def fewF (r : FnRef) : Bool := decide (r.f.name.size <= 40) && (decide (r.f.code.length <= 80) && (decide (r.f.consts.length <= 20) && (decide (r.f.hdls.length <= 10) && r.f.consts.all fewC)))
def fewB (rs : List FnRef) (n : Int) : Bool := decide ((rs.length : Int) <= n) && rs.all fewF
set_option maxHeartbeats 4000000 in
set_option maxRecDepth 100000 in
theorem few_any (A : Option Addr) (c : Nat) (rs : List FnRef) (n : Int) (w : World) (hP : ProgAt w A rs) (hn : n <= 100) :
  Calls Tryz.prog 6 #[.agg #[.slice A rs.length c], .int .i64 n] w fun e w' => e = .returned (.bool (fewB rs n)) /\ Gr w w' := by
 have HP := Lib.hid hP
 clear hP
 by_cases hle : (rs.length : Int) <= n
 case neg =>
  have hd : decide (n < (rs.length : Int)) = true := by simp; omega
  have hfin : fewB rs n = false := by simp [fewB, hle]
  rw [hfin]
  clear hle
  go_enter Tryz.func6, Tryz.ntmps6
  go_wp2_with fail
  go_ret
  exact ⟨rfl, gr_alloc _ _⟩
 have hd : decide (n < (rs.length : Int)) = false := by simp; omega
 have hfin : fewB rs n = rs.all fewF := by simp [fewB, hle]
 rw [hfin]
 clear hfin
 go_enter Tryz.func6, Tryz.ntmps6
 go_wp2_with fail
 go_loopw [5] (LoopRel w w.heap.size (progBox A rs.length c) rs.length (fun k => (rs.take k).all fewF = true)) (fun i _ => rs.length - (intOf i).toNat)
 case atStart => exact ⟨0, Nat.zero_le _, rfl, rfl, gr_alloc _ _, heap_alloc_new _ _⟩
 case round =>
  obtain ⟨k, hk, rfl, hall, hgr, hbx⟩ := hrel
  obtain ⟨W1, hw1, hs1, hW, hWb⟩ := plug1b hbx
  replace hW := hgr.trans hW
  clear hbx
  unfold progBox at hw1
  subst hw1
  have Hall := Lib.hid hall
  clear hall
  by_cases hlt : k < rs.length
  ·obtain ⟨b, o, hB, hcell⟩ := HP.out.sl k rs[k] (List.getElem?_eq_getElem hlt)
   have hx : rs[k]? = some rs[k] := List.getElem?_eq_getElem hlt
   have hm := List.mem_of_getElem? hx
   have HF := Lib.hid (HP.out.fns _ hm)
   have hwf := HP.out.wf _ hm
   generalize rs[k] = r at hcell hx hm HF hwf
   have hnm := hwf.nm
   have hl1 := hwf.l1
   have hl2 := hwf.l2
   have hl3 := hwf.l3
   have Hcs := Lib.hid hwf.cs
   clear hwf
   have c0 := cell_gr hW (hcell 0 _ rfl)
   have c1 := cell_gr hW (hcell 1 _ rfl)
   have c2 := cell_gr hW (hcell 2 _ rfl)
   have c3 := cell_gr hW (hcell 3 _ rfl)
   have c4 := cell_gr hW (hcell 4 _ rfl)
   have c5 := cell_gr hW (hcell 5 _ rfl)
   have c6 := cell_gr hW (hcell 6 _ rfl)
   have hblt : b < w.heap.size := block_lt_of_cell (hcell 0 _ rfl)
   have hbne : ¬ b = w.heap.size := by omega
   have hblt' : b < W1.heap.size := by omega
   rw [<-Nat.add_assoc] at c0 c1 c2 c3 c4 c5 c6
   rw [Nat.add_zero] at c0
   have HX := Lib.hid hx
   clear hcell hx hm
   subst hB
   by_cases h0 : r.f.name.size <= 40
   case neg =>
    have hk0 : decide ((40 : Int) < (r.f.name.size : Int)) = true := by simp; omega
    have Hok := Lib.hid (show fewF r = false by simp [fewF, h0])
    clear h0
    go_wp2_with fail
    go_ret
    exact ⟨ret_bool (all_false_at HX.out Hok.out).symm, gr_then_alloc hgr _⟩
   have hk0 : decide ((40 : Int) < (r.f.name.size : Int)) = false := by simp; omega
   by_cases h1 : r.f.code.length <= 80
   case neg =>
    have hk1 : decide ((80 : Int) < (r.f.code.length : Int)) = true := by simp; omega
    have Hok := Lib.hid (show fewF r = false by simp [fewF, h1])
    clear h0 h1
    go_wp2_with fail
    go_ret
    exact ⟨ret_bool (all_false_at HX.out Hok.out).symm, gr_then_alloc hgr _⟩
   have hk1 : decide ((80 : Int) < (r.f.code.length : Int)) = false := by simp; omega
   by_cases h2 : r.f.consts.length <= 20
   case neg =>
    have hk2 : decide ((20 : Int) < (r.f.consts.length : Int)) = true := by simp; omega
    have Hok := Lib.hid (show fewF r = false by simp [fewF, h2])
    clear h0 h1 h2
    go_wp2_with fail
    go_ret
    exact ⟨ret_bool (all_false_at HX.out Hok.out).symm, gr_then_alloc hgr _⟩
   have hk2 : decide ((20 : Int) < (r.f.consts.length : Int)) = false := by simp; omega
   by_cases h3 : r.f.hdls.length <= 10
   case neg =>
    have hk3 : decide ((10 : Int) < (r.f.hdls.length : Int)) = true := by simp; omega
    have Hok := Lib.hid (show fewF r = false by simp [fewF, h3])
    clear h0 h1 h2 h3
    go_wp2_with fail
    go_ret
    exact ⟨ret_bool (all_false_at HX.out Hok.out).symm, gr_then_alloc hgr _⟩
   have hk3 : decide ((10 : Int) < (r.f.hdls.length : Int)) = false := by simp; omega
   have Hpre := Lib.hid (show fewF r = r.f.consts.all fewC by simp [fewF, h0, h1, h2, h3])
   go_wp2_with fail
   go_loop [7] (fun j => ∃ q : Nat, q <= r.f.consts.length /\ j = .int .i64 q /\ (r.f.consts.take q).all fewC = true) (fun j => r.f.consts.length - (intOf j).toNat)
   case atStart => exact ⟨0, Nat.zero_le _, rfl, rfl⟩
   case round =>
    obtain ⟨q, hq, rfl, hall2⟩ := hrel
    have Hall2 := Lib.hid hall2
    clear hall2
    by_cases hlt2 : q < r.f.consts.length
    ·obtain ⟨b2, o2, hB2, hcell2⟩ := HF.out.consts q r.f.consts[q] (List.getElem?_eq_getElem hlt2)
     have hx2 : r.f.consts[q]? = some r.f.consts[q] := List.getElem?_eq_getElem hlt2
     have hsz2 := Hcs.out _ (List.mem_of_getElem? hx2)
     generalize r.f.consts[q] = y at hcell2 hx2 hsz2
     have d2 := cell_gr hW (hcell2 2 _ rfl)
     have hblt2 : b2 < w.heap.size := block_lt_of_cell (hcell2 2 _ rfl)
     have hbne2 : ¬ b2 = w.heap.size := by omega
     have hblt2' : b2 < W1.heap.size := by omega
     rw [<-Nat.add_assoc] at d2
     have HX2 := Lib.hid hx2
     clear hcell2 hx2
     rw [hB2]
     by_cases h5 : y.str.size <= 60
     case neg =>
      have hk5 : decide ((60 : Int) < (y.str.size : Int)) = true := by simp; omega
      have Hok2 := Lib.hid (show fewC y = false by simp [fewC, h5])
      clear h5
      go_wp2_with fail
      go_ret
      exact ⟨ret_bool (all_false_at HX.out (Hpre.out.trans (all_false_at HX2.out Hok2.out))).symm, gr_then_alloc hgr _⟩
     have hk5 : decide ((60 : Int) < (y.str.size : Int)) = false := by simp; omega
     have Hok2 := Lib.hid (show fewC y = true by simp [fewC, h5])
     clear h5
     go_wp2_with fail
     go_round
     case rel => exact ⟨q + 1, by omega, by go_num, all_take_succ Hall2.out HX2.out Hok2.out⟩
     case measure => simp [intOf]; omega
    ·go_wp2_with fail
     go_roundw
     case rel => exact ⟨k + 1, by omega, by go_num, all_take_succ Hall.out HX.out (Hpre.out.trans (all_take_len Hall2.out hlt2)), gr_then_alloc hgr _, heap_gr (gr_alloc _ _) (heap_plug_same _ _ _ hs1)⟩
     case measure => simp [intOf]; omega
  ·go_wp2_with fail
   go_ret
   exact ⟨ret_bool (all_take_len Hall.out hlt).symm, hgr⟩
end Go.Proofs.YtjefbgfohijaoaaGreatDoor
