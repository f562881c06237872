/- Own work: bytecode.formed. -/
import Derived.Test.YtlffpgjkhehdmaaDoorFits
import Derived.LoopTactic
namespace Go.Proofs.YtlffpgjkhehdmaaDoor
open Go.RowKit
set_option linter.unusedVariables false
set_option linter.unusedSimpArgs false

def headB (f : Fn) : Bool := decide (f.name.size ≤ 1000) && (validB f.name && (betw f.kind 1 5 && (betw f.params 0 f.locals && decide (f.locals ≤ 10000))))
def sizeB (f : Fn) : Bool := betw f.code.length 1 65536 && (decide (f.consts.length ≤ 10000) && decide (f.hdls.length ≤ 10000))
def cstOk (c : Cst) : Bool := decide (c.kind = 1) || (decide (c.kind = 2) && (decide (c.str.size ≤ 1048576) && validB c.str))
def hdlOk (n : Int) (h : Hdl) : Bool := decide (0 ≤ h.lo) && (decide (h.lo < h.hi) && (decide (h.hi ≤ n) && (betw h.tg 0 (n - 1) && (betw h.dp 0 10000 && betw h.sc 0 10000))))
def partsB (f : Fn) (funcs : Int) : Bool := f.consts.all cstOk && (f.code.all (fitsB f funcs) && f.hdls.all (hdlOk f.code.length))
def formedB (f : Fn) (funcs : Int) : Bool := headB f && (sizeB f && partsB f funcs)

theorem valid_eq (s : ByteArray) (r : Bool) (h : validB s = r) (w : World) (hs : s.size ≤ 9223372036854775807) (hT : Tabs w) :
    Calls Tryd.prog 77 #[.string s] w fun e w' => e = .returned (.bool r) ∧ Gr w w' := by
  subst h; exact valid_any s w hs hT

/-- what formed returns -/
def FormedIs (f : Fn) (A B C : Option Addr) (ca cb cc : Nat) (funcs : Int) (w : World) (r : Bool) : Prop :=
  Calls Tryd.prog 57 #[.agg #[.string f.name, .int .i64 f.kind, .int .i64 f.params, .int .i64 f.locals, .slice A f.code.length ca, .slice B f.consts.length cb, .slice C f.hdls.length cc], .int .i64 funcs] w
      fun e w' => e = .returned (.bool r) ∧ Gr w w'
/-- the box of the function's parameter -/
def fnBox (f : Fn) (A B C : Option Addr) (ca cb cc : Nat) : Obj := .cells #[.string f.name, .int .i64 f.kind, .int .i64 f.params, .int .i64 f.locals, .slice A f.code.length ca, .slice B f.consts.length cb, .slice C f.hdls.length cc] 50 (0, 0)

set_option maxHeartbeats 1000000 in
set_option maxRecDepth 100000 in
theorem formed_h1 (f : Fn) (A B C : Option Addr) (ca cb cc : Nat) (funcs : Int) (w : World) (hT : Tabs w) (hnm : f.name.size ≤ 9223372036854775807) (hl1 : f.code.length ≤ 9223372036854775807) (hl2 : f.consts.length ≤ 9223372036854775807) (hl3 : f.hdls.length ≤ 9223372036854775807) (h : 1000 < f.name.size) : FormedIs f A B C ca cb cc funcs w false := by
  have HhT := Lib.hid hT
  clear hT
  have h' : (1000 : Int) < f.name.size := by omega
  unfold FormedIs
  go_enter Tryd.func57, Tryd.ntmps57
  go_wp2_with fail
  go_ret
  exact ⟨rfl, gr_alloc _ _⟩

set_option maxHeartbeats 1000000 in
set_option maxRecDepth 100000 in
theorem formed_h2 (f : Fn) (A B C : Option Addr) (ca cb cc : Nat) (funcs : Int) (w : World) (hT : Tabs w) (hnm : f.name.size ≤ 9223372036854775807) (hl1 : f.code.length ≤ 9223372036854775807) (hl2 : f.consts.length ≤ 9223372036854775807) (hl3 : f.hdls.length ≤ 9223372036854775807) (h : f.name.size ≤ 1000) (hv : validB f.name = false) : FormedIs f A B C ca cb cc funcs w false := by
  have HhT := Lib.hid hT
  clear hT
  have Hhv := Lib.hid hv
  clear hv
  have h' : ¬ (1000 : Int) < f.name.size := by omega
  unfold FormedIs
  go_enter Tryd.func57, Tryd.ntmps57
  go_wp2_with fail
  refine (valid_eq _ false Hhv.out _ (by omega) (HhT.out.gr (gr_alloc _ _))).mono ?_
  rintro e w1 ⟨rfl, hb1⟩
  have e1 := heap_gr hb1 (heap_alloc_new w _)
  have hW0 : Gr w w1 := (gr_alloc w _).trans hb1
  clear hb1
  obtain ⟨W, hw1, hs1, hW⟩ := plug1 e1
  replace hW := hW0.trans hW
  clear e1 hW0
  subst hw1
  go_wp2_with fail
  go_ret
  exact ⟨rfl, gr_plug hW (Nat.le_refl _) _⟩

set_option maxHeartbeats 1000000 in
set_option maxRecDepth 100000 in
theorem formed_h3 (f : Fn) (A B C : Option Addr) (ca cb cc : Nat) (funcs : Int) (w : World) (hT : Tabs w) (hnm : f.name.size ≤ 9223372036854775807) (hl1 : f.code.length ≤ 9223372036854775807) (hl2 : f.consts.length ≤ 9223372036854775807) (hl3 : f.hdls.length ≤ 9223372036854775807) (h : f.name.size ≤ 1000) (hv : validB f.name = true) (hk : betw f.kind 1 5 = false) : FormedIs f A B C ca cb cc funcs w false := by
  have HhT := Lib.hid hT
  clear hT
  have Hhv := Lib.hid hv
  clear hv
  have Hhk := Lib.hid hk
  clear hk
  have h' : ¬ (1000 : Int) < f.name.size := by omega
  unfold FormedIs
  go_enter Tryd.func57, Tryd.ntmps57
  go_wp2_with fail
  refine (valid_eq _ true Hhv.out _ (by omega) (HhT.out.gr (gr_alloc _ _))).mono ?_
  rintro e w1 ⟨rfl, hb1⟩
  have e1 := heap_gr hb1 (heap_alloc_new w _)
  have hW0 : Gr w w1 := (gr_alloc w _).trans hb1
  clear hb1
  obtain ⟨W, hw1, hs1, hW⟩ := plug1 e1
  replace hW := hW0.trans hW
  clear e1 hW0
  subst hw1
  go_wp2_with fail
  refine (between_eq _ _ _ false Hhk.out _).mono ?_
  rintro e w1 ⟨rfl, rfl⟩
  go_wp2_with fail
  go_ret
  exact ⟨rfl, gr_plug hW (Nat.le_refl _) _⟩

set_option maxHeartbeats 1000000 in
set_option maxRecDepth 100000 in
theorem formed_h4 (f : Fn) (A B C : Option Addr) (ca cb cc : Nat) (funcs : Int) (w : World) (hT : Tabs w) (hnm : f.name.size ≤ 9223372036854775807) (hl1 : f.code.length ≤ 9223372036854775807) (hl2 : f.consts.length ≤ 9223372036854775807) (hl3 : f.hdls.length ≤ 9223372036854775807) (h : f.name.size ≤ 1000) (hv : validB f.name = true) (hk : betw f.kind 1 5 = true) (hp : betw f.params 0 f.locals = false) : FormedIs f A B C ca cb cc funcs w false := by
  have HhT := Lib.hid hT
  clear hT
  have Hhv := Lib.hid hv
  clear hv
  have Hhk := Lib.hid hk
  clear hk
  have Hhp := Lib.hid hp
  clear hp
  have h' : ¬ (1000 : Int) < f.name.size := by omega
  unfold FormedIs
  go_enter Tryd.func57, Tryd.ntmps57
  go_wp2_with fail
  refine (valid_eq _ true Hhv.out _ (by omega) (HhT.out.gr (gr_alloc _ _))).mono ?_
  rintro e w1 ⟨rfl, hb1⟩
  have e1 := heap_gr hb1 (heap_alloc_new w _)
  have hW0 : Gr w w1 := (gr_alloc w _).trans hb1
  clear hb1
  obtain ⟨W, hw1, hs1, hW⟩ := plug1 e1
  replace hW := hW0.trans hW
  clear e1 hW0
  subst hw1
  go_wp2_with fail
  refine (between_eq _ _ _ true Hhk.out _).mono ?_
  rintro e w1 ⟨rfl, rfl⟩
  go_wp2_with fail
  refine (between_eq _ _ _ false Hhp.out _).mono ?_
  rintro e w1 ⟨rfl, rfl⟩
  go_wp2_with fail
  go_ret
  exact ⟨rfl, gr_plug hW (Nat.le_refl _) _⟩

set_option maxHeartbeats 1000000 in
set_option maxRecDepth 100000 in
theorem formed_h5 (f : Fn) (A B C : Option Addr) (ca cb cc : Nat) (funcs : Int) (w : World) (hT : Tabs w) (hnm : f.name.size ≤ 9223372036854775807) (hl1 : f.code.length ≤ 9223372036854775807) (hl2 : f.consts.length ≤ 9223372036854775807) (hl3 : f.hdls.length ≤ 9223372036854775807) (h : f.name.size ≤ 1000) (hv : validB f.name = true) (hk : betw f.kind 1 5 = true) (hp : betw f.params 0 f.locals = true) (hlo : 10000 < f.locals) : FormedIs f A B C ca cb cc funcs w false := by
  have HhT := Lib.hid hT
  clear hT
  have Hhv := Lib.hid hv
  clear hv
  have Hhk := Lib.hid hk
  clear hk
  have Hhp := Lib.hid hp
  clear hp
  have h' : ¬ (1000 : Int) < f.name.size := by omega
  unfold FormedIs
  go_enter Tryd.func57, Tryd.ntmps57
  go_wp2_with fail
  refine (valid_eq _ true Hhv.out _ (by omega) (HhT.out.gr (gr_alloc _ _))).mono ?_
  rintro e w1 ⟨rfl, hb1⟩
  have e1 := heap_gr hb1 (heap_alloc_new w _)
  have hW0 : Gr w w1 := (gr_alloc w _).trans hb1
  clear hb1
  obtain ⟨W, hw1, hs1, hW⟩ := plug1 e1
  replace hW := hW0.trans hW
  clear e1 hW0
  subst hw1
  go_wp2_with fail
  refine (between_eq _ _ _ true Hhk.out _).mono ?_
  rintro e w1 ⟨rfl, rfl⟩
  go_wp2_with fail
  refine (between_eq _ _ _ true Hhp.out _).mono ?_
  rintro e w1 ⟨rfl, rfl⟩
  go_wp2_with fail
  go_ret
  exact ⟨rfl, gr_plug hW (Nat.le_refl _) _⟩

set_option maxHeartbeats 1000000 in
set_option maxRecDepth 100000 in
theorem formed_s1 (f : Fn) (A B C : Option Addr) (ca cb cc : Nat) (funcs : Int) (w : World) (hT : Tabs w) (hnm : f.name.size ≤ 9223372036854775807) (hl1 : f.code.length ≤ 9223372036854775807) (hl2 : f.consts.length ≤ 9223372036854775807) (hl3 : f.hdls.length ≤ 9223372036854775807) (h : f.name.size ≤ 1000) (hv : validB f.name = true) (hk : betw f.kind 1 5 = true) (hp : betw f.params 0 f.locals = true) (hlo : f.locals ≤ 10000) (hc : betw f.code.length 1 65536 = false) : FormedIs f A B C ca cb cc funcs w false := by
  have HhT := Lib.hid hT
  clear hT
  have Hhv := Lib.hid hv
  clear hv
  have Hhk := Lib.hid hk
  clear hk
  have Hhp := Lib.hid hp
  clear hp
  have Hhc := Lib.hid hc
  clear hc
  have h' : ¬ (1000 : Int) < f.name.size := by omega
  unfold FormedIs
  go_enter Tryd.func57, Tryd.ntmps57
  go_wp2_with fail
  refine (valid_eq _ true Hhv.out _ (by omega) (HhT.out.gr (gr_alloc _ _))).mono ?_
  rintro e w1 ⟨rfl, hb1⟩
  have e1 := heap_gr hb1 (heap_alloc_new w _)
  have hW0 : Gr w w1 := (gr_alloc w _).trans hb1
  clear hb1
  obtain ⟨W, hw1, hs1, hW⟩ := plug1 e1
  replace hW := hW0.trans hW
  clear e1 hW0
  subst hw1
  go_wp2_with fail
  refine (between_eq _ _ _ true Hhk.out _).mono ?_
  rintro e w1 ⟨rfl, rfl⟩
  go_wp2_with fail
  refine (between_eq _ _ _ true Hhp.out _).mono ?_
  rintro e w1 ⟨rfl, rfl⟩
  go_wp2_with fail
  refine (between_eq _ _ _ false Hhc.out _).mono ?_
  rintro e w1 ⟨rfl, rfl⟩
  go_wp2_with fail
  go_ret
  exact ⟨rfl, gr_plug hW (Nat.le_refl _) _⟩

set_option maxHeartbeats 1000000 in
set_option maxRecDepth 100000 in
theorem formed_s2 (f : Fn) (A B C : Option Addr) (ca cb cc : Nat) (funcs : Int) (w : World) (hT : Tabs w) (hnm : f.name.size ≤ 9223372036854775807) (hl1 : f.code.length ≤ 9223372036854775807) (hl2 : f.consts.length ≤ 9223372036854775807) (hl3 : f.hdls.length ≤ 9223372036854775807) (h : f.name.size ≤ 1000) (hv : validB f.name = true) (hk : betw f.kind 1 5 = true) (hp : betw f.params 0 f.locals = true) (hlo : f.locals ≤ 10000) (hc : betw f.code.length 1 65536 = true) (hn : 10000 < f.consts.length) : FormedIs f A B C ca cb cc funcs w false := by
  have HhT := Lib.hid hT
  clear hT
  have Hhv := Lib.hid hv
  clear hv
  have Hhk := Lib.hid hk
  clear hk
  have Hhp := Lib.hid hp
  clear hp
  have Hhc := Lib.hid hc
  clear hc
  have hn' : (10000 : Int) < f.consts.length := by omega
  have h' : ¬ (1000 : Int) < f.name.size := by omega
  unfold FormedIs
  go_enter Tryd.func57, Tryd.ntmps57
  go_wp2_with fail
  refine (valid_eq _ true Hhv.out _ (by omega) (HhT.out.gr (gr_alloc _ _))).mono ?_
  rintro e w1 ⟨rfl, hb1⟩
  have e1 := heap_gr hb1 (heap_alloc_new w _)
  have hW0 : Gr w w1 := (gr_alloc w _).trans hb1
  clear hb1
  obtain ⟨W, hw1, hs1, hW⟩ := plug1 e1
  replace hW := hW0.trans hW
  clear e1 hW0
  subst hw1
  go_wp2_with fail
  refine (between_eq _ _ _ true Hhk.out _).mono ?_
  rintro e w1 ⟨rfl, rfl⟩
  go_wp2_with fail
  refine (between_eq _ _ _ true Hhp.out _).mono ?_
  rintro e w1 ⟨rfl, rfl⟩
  go_wp2_with fail
  refine (between_eq _ _ _ true Hhc.out _).mono ?_
  rintro e w1 ⟨rfl, rfl⟩
  go_wp2_with fail
  go_ret
  exact ⟨rfl, gr_plug hW (Nat.le_refl _) _⟩

set_option maxHeartbeats 1000000 in
set_option maxRecDepth 100000 in
theorem formed_s3 (f : Fn) (A B C : Option Addr) (ca cb cc : Nat) (funcs : Int) (w : World) (hT : Tabs w) (hnm : f.name.size ≤ 9223372036854775807) (hl1 : f.code.length ≤ 9223372036854775807) (hl2 : f.consts.length ≤ 9223372036854775807) (hl3 : f.hdls.length ≤ 9223372036854775807) (h : f.name.size ≤ 1000) (hv : validB f.name = true) (hk : betw f.kind 1 5 = true) (hp : betw f.params 0 f.locals = true) (hlo : f.locals ≤ 10000) (hc : betw f.code.length 1 65536 = true) (hn : f.consts.length ≤ 10000) (hm : 10000 < f.hdls.length) : FormedIs f A B C ca cb cc funcs w false := by
  have HhT := Lib.hid hT
  clear hT
  have Hhv := Lib.hid hv
  clear hv
  have Hhk := Lib.hid hk
  clear hk
  have Hhp := Lib.hid hp
  clear hp
  have Hhc := Lib.hid hc
  clear hc
  have hn' : ¬ (10000 : Int) < f.consts.length := by omega
  have hm' : (10000 : Int) < f.hdls.length := by omega
  have h' : ¬ (1000 : Int) < f.name.size := by omega
  unfold FormedIs
  go_enter Tryd.func57, Tryd.ntmps57
  go_wp2_with fail
  refine (valid_eq _ true Hhv.out _ (by omega) (HhT.out.gr (gr_alloc _ _))).mono ?_
  rintro e w1 ⟨rfl, hb1⟩
  have e1 := heap_gr hb1 (heap_alloc_new w _)
  have hW0 : Gr w w1 := (gr_alloc w _).trans hb1
  clear hb1
  obtain ⟨W, hw1, hs1, hW⟩ := plug1 e1
  replace hW := hW0.trans hW
  clear e1 hW0
  subst hw1
  go_wp2_with fail
  refine (between_eq _ _ _ true Hhk.out _).mono ?_
  rintro e w1 ⟨rfl, rfl⟩
  go_wp2_with fail
  refine (between_eq _ _ _ true Hhp.out _).mono ?_
  rintro e w1 ⟨rfl, rfl⟩
  go_wp2_with fail
  refine (between_eq _ _ _ true Hhc.out _).mono ?_
  rintro e w1 ⟨rfl, rfl⟩
  go_wp2_with fail
  go_ret
  exact ⟨rfl, gr_plug hW (Nat.le_refl _) _⟩

end Go.Proofs.YtlffpgjkhehdmaaDoor
