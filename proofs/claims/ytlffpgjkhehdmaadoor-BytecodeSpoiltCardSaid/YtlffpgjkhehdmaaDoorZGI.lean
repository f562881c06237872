/- Own work: bytecode.plain and knapsackref27.same. -/
import Derived.Test.YtlffpgjkhehdmaaDoorZGH
import Derived.Test.YtlffpgjkhehdmaaDoorZGG
namespace Go.Proofs.YtlffpgjkhehdmaaDoor
open Go.RowKit
set_option linter.unusedVariables false
set_option linter.unusedSimpArgs false

def plainC (c : Cst) : Cst := if c.kind = 1 then { c with str := ByteArray.empty } else if c.kind = 2 then { c with int := 0 } else c
def cstSame (x y : Cst) : Bool := x.kind == y.kind && ((x.kind == 2 || x.int == y.int) && (x.kind == 1 || x.str.toList == y.str.toList))
def cstEq (x y : Cst) : Bool := x.kind == y.kind && (x.int == y.int && x.str.toList == y.str.toList)

theorem plainC_kind (c : Cst) : (plainC c).kind = c.kind := by unfold plainC; split <;> (try split) <;> rfl
theorem plain_same (x y : Cst) : cstEq (plainC x) (plainC y) = cstSame x y := by
  unfold cstEq cstSame
  rw [plainC_kind, plainC_kind]
  by_cases hk : x.kind = y.kind
  case neg => rw [beq_eq_false_iff_ne.2 hk]; rfl
  unfold plainC
  rw [hk]
  by_cases h1 : y.kind = 1
  · simp [h1]
  · by_cases h2 : y.kind = 2
    · simp [h2]
    · simp only [if_neg h1, if_neg h2, beq_eq_false_iff_ne.2 h1, beq_eq_false_iff_ne.2 h2, Bool.false_or, beq_self_eq_true, Bool.true_and]

theorem neq_cst (x y : Cst) (W : World) : (binOp .neq 69 (.agg #[.int .i64 x.kind, .int .i64 x.int, .string x.str]) (.agg #[.int .i64 y.kind, .int .i64 y.int, .string y.str])).run Tryd.prog W = .ok (.bool (!cstEq x y)) W := by
  unfold cstEq
  cases h1 : x.kind == y.kind <;> cases h2 : x.int == y.int <;> cases h3 : x.str.toList == y.str.toList <;> go_simp

set_option maxHeartbeats 1000000 in
theorem plain_any (c : Cst) (w : World) :
    Calls Tryd.prog 45 #[.agg #[.int .i64 c.kind, .int .i64 c.int, .string c.str]] w fun e w' => e = .returned (.agg #[.int .i64 (plainC c).kind, .int .i64 (plainC c).int, .string (plainC c).str]) ∧ Gr w w' := by
  by_cases h1 : c.kind = 1
  · have k1 : (c.kind == 1) = true := by simp [h1]
    have hp : plainC c = { c with str := ByteArray.empty } := by simp [plainC, h1]
    rw [hp]
    clear h1 hp
    go_enter Tryd.func45, Tryd.ntmps45
    go_wp2_with fail
    refine bodyPost_ret (v := .agg #[.int .i64 c.kind, .int .i64 c.int, .string ByteArray.empty]) ?_ rfl ⟨rfl, gr_alloc2 _ _ _⟩
    simp [results, Tryd.results45, go_sem]
    rfl
  have k1 : (c.kind == 1) = false := by simp [h1]
  by_cases h2 : c.kind = 2
  · have k2 : (c.kind == 2) = true := by simp [h2]
    have hp : plainC c = { c with int := 0 } := by simp [plainC, h2]
    rw [hp]
    clear h1 h2 hp
    go_enter Tryd.func45, Tryd.ntmps45
    go_wp2_with fail
    refine bodyPost_ret (v := .agg #[.int .i64 c.kind, .int .i64 0, .string c.str]) ?_ rfl ⟨rfl, gr_alloc2 _ _ _⟩
    simp [results, Tryd.results45, go_sem]
  · have k2 : (c.kind == 2) = false := by simp [h2]
    have hp : plainC c = c := by simp [plainC, h1, h2]
    rw [hp]
    clear h1 h2 hp
    go_enter Tryd.func45, Tryd.ntmps45
    go_wp2_with fail
    refine bodyPost_ret (v := .agg #[.int .i64 c.kind, .int .i64 c.int, .string c.str]) ?_ rfl ⟨rfl, gr_alloc2 _ _ _⟩
    simp [results, Tryd.results45, go_sem]

set_option maxHeartbeats 1000000 in
theorem same_any (x y : Cst) (w : World) :
    Calls Tryd.prog 61 #[.agg #[.int .i64 x.kind, .int .i64 x.int, .string x.str], .agg #[.int .i64 y.kind, .int .i64 y.int, .string y.str]] w fun e w' => e = .returned (.bool (cstSame x y)) ∧ Gr w w' := by
  by_cases h1 : x.kind = y.kind
  case neg =>
    have k1 : (x.kind != y.kind) = true := by simp [h1]
    have hp : cstSame x y = false := by simp [cstSame, h1]
    rw [hp]
    clear h1 hp
    go_enter Tryd.func61, Tryd.ntmps61
    go_wp2_with fail
    go_ret
    exact ⟨rfl, gr_alloc2 _ _ _⟩
  have k1 : (x.kind != y.kind) = false := by simp [h1]
  have hp : cstSame x y = ((x.kind == 2 || x.int == y.int) && (x.kind == 1 || x.str.toList == y.str.toList)) := by simp [cstSame, h1]
  rw [hp]
  clear h1 hp
  by_cases h2 : x.kind = 2
  · have k2 : (x.kind != 2) = false := by simp [h2]
    have k3 : (x.kind == 1) = false := by simp [h2]
    have hp : ((x.kind == 2 || x.int == y.int) && (x.kind == 1 || x.str.toList == y.str.toList)) = (x.str.toList == y.str.toList) := by simp [h2]
    rw [hp]
    clear h2 hp
    go_enter Tryd.func61, Tryd.ntmps61
    go_wp2_with fail
    go_ret
    exact ⟨rfl, gr_alloc2 _ _ _⟩
  have k2 : (x.kind != 2) = true := by simp [h2]
  by_cases h3 : x.int = y.int
  case neg =>
    have k3 : (x.int != y.int) = true := by simp [h3]
    have hp : ((x.kind == 2 || x.int == y.int) && (x.kind == 1 || x.str.toList == y.str.toList)) = false := by simp [h2, h3]
    rw [hp]
    clear h2 h3 hp
    go_enter Tryd.func61, Tryd.ntmps61
    go_wp2_with fail
    go_ret
    exact ⟨rfl, gr_alloc2 _ _ _⟩
  have k3 : (x.int != y.int) = false := by simp [h3]
  by_cases h4 : x.kind = 1
  · have k4 : (x.kind == 1) = true := by simp [h4]
    have hp : ((x.kind == 2 || x.int == y.int) && (x.kind == 1 || x.str.toList == y.str.toList)) = true := by simp [h3, h4]
    rw [hp]
    clear h2 h3 h4 hp
    go_enter Tryd.func61, Tryd.ntmps61
    go_wp2_with fail
    go_ret
    exact ⟨rfl, gr_alloc2 _ _ _⟩
  · have k4 : (x.kind == 1) = false := by simp [h4]
    have hp : ((x.kind == 2 || x.int == y.int) && (x.kind == 1 || x.str.toList == y.str.toList)) = (x.str.toList == y.str.toList) := by simp [h3, h4]
    rw [hp]
    clear h2 h3 h4 hp
    go_enter Tryd.func61, Tryd.ntmps61
    go_wp2_with fail
    go_ret
    exact ⟨rfl, gr_alloc2 _ _ _⟩
theorem same_eq (x y : Cst) (w : World) (q : Bool) (hq : cstSame x y = q) :
    Calls Tryd.prog 61 #[.agg #[.int .i64 x.kind, .int .i64 x.int, .string x.str], .agg #[.int .i64 y.kind, .int .i64 y.int, .string y.str]] w fun e w' => e = .returned (.bool q) ∧ Gr w w' := by
  subst hq; exact same_any x y w
end Go.Proofs.YtlffpgjkhehdmaaDoor

/- Own work: knapsackref27.SameFunc. -/
namespace Go.Proofs.YtlffpgjkhehdmaaDoor
open Go.RowKit
set_option linter.unusedVariables false
set_option linter.unusedSimpArgs false

/-- what counts of a function's head -/
def headSame (x y : Fn) : Bool := x.name.toList == y.name.toList && (x.kind == y.kind && (x.params == y.params && (x.locals == y.locals && (decide (x.code.length = y.code.length) && (decide (x.consts.length = y.consts.length) && decide (x.hdls.length = y.hdls.length))))))
def bodySame (x y : Fn) : Bool := all2 insEq x.code y.code && (all2 cstSame x.consts y.consts && all2 hdlEq x.hdls y.hdls)
def fnSame (x y : Fn) : Bool := headSame x y && bodySame x y

/-- what SameFunc returns -/
def SFIs (x y : FnRef) (w : World) (q : Bool) : Prop :=
  Calls Tryd.prog 42 #[.agg #[.string x.f.name, .int .i64 x.f.kind, .int .i64 x.f.params, .int .i64 x.f.locals, .slice x.A x.f.code.length x.ca, .slice x.B x.f.consts.length x.cb, .slice x.C x.f.hdls.length x.cc], .agg #[.string y.f.name, .int .i64 y.f.kind, .int .i64 y.f.params, .int .i64 y.f.locals, .slice y.A y.f.code.length y.ca, .slice y.B y.f.consts.length y.cb, .slice y.C y.f.hdls.length y.cc]] w fun e w' => e = .returned (.bool q) ∧ Gr w w'
def refBox (r : FnRef) : Obj := .cells #[.string r.f.name, .int .i64 r.f.kind, .int .i64 r.f.params, .int .i64 r.f.locals, .slice r.A r.f.code.length r.ca, .slice r.B r.f.consts.length r.cb, .slice r.C r.f.hdls.length r.cc] 50 (0, 0)
def LoopRel2 (w : World) (g1 g2 : Nat) (b1 b2 : Obj) (n : Nat) (P : Nat → Prop) (i : Value) (wr : World) : Prop := ∃ k : Nat, k ≤ n ∧ i = .int .i64 k ∧ P k ∧ Gr w wr ∧ wr.heap[g1]? = some b1 ∧ wr.heap[g2]? = some b2
theorem beq_of_bne {α : Type} [BEq α] {a b : α} {r : Bool} (h : (a != b) = r) : (a == b) = !r := by
  simp only [bne] at h; cases hh : (a == b) <;> rw [hh] at h <;> simp at h <;> subst h <;> rfl
theorem insEq_ite {β : Type} (u v : Ins) (F T : β) : (if u.op = v.op then if u.a = v.a then if u.b = v.b then F else T else T else T) = if insEq u v = true then F else T := by
  unfold insEq
  by_cases h1 : u.op = v.op <;> by_cases h2 : u.a = v.a <;> by_cases h3 : u.b = v.b <;> simp [h1, h2, h3]
theorem hdlEq_ite {β : Type} (u v : Hdl) (F T : β) : (if u.lo = v.lo then if u.hi = v.hi then if u.tg = v.tg then if u.dp = v.dp then if u.sc = v.sc then F else T else T else T else T else T) = if hdlEq u v = true then F else T := by
  unfold hdlEq
  by_cases h1 : u.lo = v.lo <;> by_cases h2 : u.hi = v.hi <;> by_cases h3 : u.tg = v.tg <;> by_cases h4 : u.dp = v.dp <;> by_cases h5 : u.sc = v.sc <;> simp [h1, h2, h3, h4, h5]
theorem gr_plug2 {w w1 : World} (h : Gr w w1) {g1 g2 : Nat} (h1 : w.heap.size ≤ g1) (h2 : w.heap.size ≤ g2) (o1 o2 : Obj) : Gr w (plug (plug w1 g1 o1) g2 o2) := gr_plug (gr_plug h h1 o1) h2 o2
theorem heap_plug2_fst (W : World) (g1 g2 : Nat) (o1 o2 : Obj) (h : g1 < W.heap.size) (hne : ¬ g1 = g2) : (plug (plug W g1 o1) g2 o2).heap[g1]? = some o1 := by
  rw [heap_plug_other _ _ _ _ hne]; exact heap_plug_same _ _ _ h
theorem heap_plug2_snd (W : World) (g1 g2 : Nat) (o1 o2 : Obj) (h : g2 < W.heap.size) : (plug (plug W g1 o1) g2 o2).heap[g2]? = some o2 := heap_plug_same _ _ _ (by rw [size_plug]; exact h)
theorem cellp2 {W : World} {g1 g2 b i : Nat} {o1 o2 : Obj} {v : Value} (hb1 : ¬ b = g1) (hb2 : ¬ b = g2) (h : W.cell? ⟨b, i, none⟩ = some v) : (plug (plug W g1 o1) g2 o2).cell? ⟨b, i, none⟩ = some v := cellp hb2 (cellp hb1 h)

set_option maxHeartbeats 1000000 in
set_option maxRecDepth 100000 in
theorem sf_name (x y : FnRef) (w : World) (wx : FnWf x) (wy : FnWf y)  (q0 : (x.f.name.toList != y.f.name.toList) = true) : SFIs x y w false := by
  have q0' := (beq_of_bne q0)
  have l1 := wx.l1
  have l2 := wx.l2
  have l3 := wx.l3
  have l4 := wy.l1
  have l5 := wy.l2
  have l6 := wy.l3
  have l7 := wx.nm
  have l8 := wy.nm
  clear wx wy
  unfold SFIs
  go_enter Tryd.func42, Tryd.ntmps42
  go_wp2_with fail
  go_ret
  exact ⟨rfl, gr_alloc2 _ _ _⟩

set_option maxHeartbeats 1000000 in
set_option maxRecDepth 100000 in
theorem sf_kind (x y : FnRef) (w : World) (wx : FnWf x) (wy : FnWf y) (q0 : (x.f.name.toList != y.f.name.toList) = false) (q1 : (x.f.kind != y.f.kind) = true) : SFIs x y w false := by
  have q0' := (beq_of_bne q0)
  have l1 := wx.l1
  have l2 := wx.l2
  have l3 := wx.l3
  have l4 := wy.l1
  have l5 := wy.l2
  have l6 := wy.l3
  have l7 := wx.nm
  have l8 := wy.nm
  clear wx wy
  unfold SFIs
  go_enter Tryd.func42, Tryd.ntmps42
  go_wp2_with fail
  go_ret
  exact ⟨rfl, gr_alloc2 _ _ _⟩

set_option maxHeartbeats 1000000 in
set_option maxRecDepth 100000 in
theorem sf_params (x y : FnRef) (w : World) (wx : FnWf x) (wy : FnWf y) (q0 : (x.f.name.toList != y.f.name.toList) = false) (q1 : (x.f.kind != y.f.kind) = false) (q2 : (x.f.params != y.f.params) = true) : SFIs x y w false := by
  have q0' := (beq_of_bne q0)
  have l1 := wx.l1
  have l2 := wx.l2
  have l3 := wx.l3
  have l4 := wy.l1
  have l5 := wy.l2
  have l6 := wy.l3
  have l7 := wx.nm
  have l8 := wy.nm
  clear wx wy
  unfold SFIs
  go_enter Tryd.func42, Tryd.ntmps42
  go_wp2_with fail
  go_ret
  exact ⟨rfl, gr_alloc2 _ _ _⟩

set_option maxHeartbeats 1000000 in
set_option maxRecDepth 100000 in
theorem sf_locals (x y : FnRef) (w : World) (wx : FnWf x) (wy : FnWf y) (q0 : (x.f.name.toList != y.f.name.toList) = false) (q1 : (x.f.kind != y.f.kind) = false) (q2 : (x.f.params != y.f.params) = false) (q3 : (x.f.locals != y.f.locals) = true) : SFIs x y w false := by
  have q0' := (beq_of_bne q0)
  have l1 := wx.l1
  have l2 := wx.l2
  have l3 := wx.l3
  have l4 := wy.l1
  have l5 := wy.l2
  have l6 := wy.l3
  have l7 := wx.nm
  have l8 := wy.nm
  clear wx wy
  unfold SFIs
  go_enter Tryd.func42, Tryd.ntmps42
  go_wp2_with fail
  go_ret
  exact ⟨rfl, gr_alloc2 _ _ _⟩

set_option maxHeartbeats 1000000 in
set_option maxRecDepth 100000 in
theorem sf_code (x y : FnRef) (w : World) (wx : FnWf x) (wy : FnWf y) (q0 : (x.f.name.toList != y.f.name.toList) = false) (q1 : (x.f.kind != y.f.kind) = false) (q2 : (x.f.params != y.f.params) = false) (q3 : (x.f.locals != y.f.locals) = false) (q4 : ((x.f.code.length : Int) != (y.f.code.length : Int)) = true) : SFIs x y w false := by
  have q0' := (beq_of_bne q0)
  have l1 := wx.l1
  have l2 := wx.l2
  have l3 := wx.l3
  have l4 := wy.l1
  have l5 := wy.l2
  have l6 := wy.l3
  have l7 := wx.nm
  have l8 := wy.nm
  clear wx wy
  unfold SFIs
  go_enter Tryd.func42, Tryd.ntmps42
  go_wp2_with fail
  go_ret
  exact ⟨rfl, gr_alloc2 _ _ _⟩

set_option maxHeartbeats 1000000 in
set_option maxRecDepth 100000 in
theorem sf_consts (x y : FnRef) (w : World) (wx : FnWf x) (wy : FnWf y) (q0 : (x.f.name.toList != y.f.name.toList) = false) (q1 : (x.f.kind != y.f.kind) = false) (q2 : (x.f.params != y.f.params) = false) (q3 : (x.f.locals != y.f.locals) = false) (q4 : ((x.f.code.length : Int) != (y.f.code.length : Int)) = false) (q5 : ((x.f.consts.length : Int) != (y.f.consts.length : Int)) = true) : SFIs x y w false := by
  have q0' := (beq_of_bne q0)
  have l1 := wx.l1
  have l2 := wx.l2
  have l3 := wx.l3
  have l4 := wy.l1
  have l5 := wy.l2
  have l6 := wy.l3
  have l7 := wx.nm
  have l8 := wy.nm
  clear wx wy
  unfold SFIs
  go_enter Tryd.func42, Tryd.ntmps42
  go_wp2_with fail
  go_ret
  exact ⟨rfl, gr_alloc2 _ _ _⟩

set_option maxHeartbeats 1000000 in
set_option maxRecDepth 100000 in
theorem sf_hdls (x y : FnRef) (w : World) (wx : FnWf x) (wy : FnWf y) (q0 : (x.f.name.toList != y.f.name.toList) = false) (q1 : (x.f.kind != y.f.kind) = false) (q2 : (x.f.params != y.f.params) = false) (q3 : (x.f.locals != y.f.locals) = false) (q4 : ((x.f.code.length : Int) != (y.f.code.length : Int)) = false) (q5 : ((x.f.consts.length : Int) != (y.f.consts.length : Int)) = false) (q6 : ((x.f.hdls.length : Int) != (y.f.hdls.length : Int)) = true) : SFIs x y w false := by
  have q0' := (beq_of_bne q0)
  have l1 := wx.l1
  have l2 := wx.l2
  have l3 := wx.l3
  have l4 := wy.l1
  have l5 := wy.l2
  have l6 := wy.l3
  have l7 := wx.nm
  have l8 := wy.nm
  clear wx wy
  unfold SFIs
  go_enter Tryd.func42, Tryd.ntmps42
  go_wp2_with fail
  go_ret
  exact ⟨rfl, gr_alloc2 _ _ _⟩

theorem body1 {x y : Fn} (h : all2 insEq x.code y.code = false) : bodySame x y = false := by unfold bodySame; rw [h]; rfl
theorem body2 {x y : Fn} (h : all2 cstSame x.consts y.consts = false) : bodySame x y = false := by unfold bodySame; rw [h]; simp
theorem body3 {x y : Fn} (h : all2 hdlEq x.hdls y.hdls = false) : bodySame x y = false := by unfold bodySame; rw [h]; simp
theorem body0 {x y : Fn} (h1 : all2 insEq x.code y.code = true) (h2 : all2 cstSame x.consts y.consts = true) (h3 : all2 hdlEq x.hdls y.hdls = true) : bodySame x y = true := by unfold bodySame; rw [h1, h2, h3]; rfl

set_option maxHeartbeats 4000000 in
set_option maxRecDepth 100000 in
theorem sf_body (x y : FnRef) (w : World) (wx : FnWf x) (wy : FnWf y) (q0 : (x.f.name.toList != y.f.name.toList) = false) (q1 : (x.f.kind != y.f.kind) = false) (q2 : (x.f.params != y.f.params) = false) (q3 : (x.f.locals != y.f.locals) = false) (q4 : ((x.f.code.length : Int) != (y.f.code.length : Int)) = false) (q5 : ((x.f.consts.length : Int) != (y.f.consts.length : Int)) = false) (q6 : ((x.f.hdls.length : Int) != (y.f.hdls.length : Int)) = false) (hX : FnAt w x.A x.B x.C x.f) (hY : FnAt w y.A y.B y.C y.f) : SFIs x y w (bodySame x.f y.f) := by
  have q0' := (beq_of_bne q0)
  have l1 := wx.l1
  have l2 := wx.l2
  have l3 := wx.l3
  have l4 := wy.l1
  have l5 := wy.l2
  have l6 := wy.l3
  have l7 := wx.nm
  have l8 := wy.nm
  clear wx wy
  have HX := Lib.hid hX
  have HY := Lib.hid hY
  have H1 := Lib.hid (show x.f.code.length = y.f.code.length by simp at q4; omega)
  have H2 := Lib.hid (show x.f.consts.length = y.f.consts.length by simp at q5; omega)
  have H3 := Lib.hid (show x.f.hdls.length = y.f.hdls.length by simp at q6; omega)
  clear hX hY
  unfold SFIs
  go_enter Tryd.func42, Tryd.ntmps42
  go_wp2_with fail
  go_loopw [5] (LoopRel2 w w.heap.size (w.heap.size + 1) (refBox x) (refBox y) x.f.code.length (fun k => ((x.f.code.zip y.f.code).take k).all (fun q => insEq q.1 q.2) = true)) (fun i _ => x.f.code.length - (intOf i).toNat)
  case atStart => exact ⟨0, Nat.zero_le _, rfl, rfl, gr_alloc2 _ _ _, heap_alloc2_old _ _ _, heap_alloc2_new _ _ _⟩
  case round =>
    obtain ⟨k, hk, rfl, hall, hgr, hbx1, hbx2⟩ := hrel
    obtain ⟨W1, hw1, hs1, hs2, hW⟩ := plug2 hbx1 hbx2
    replace hW := hgr.trans hW
    clear hgr hbx1 hbx2
    unfold refBox at hw1
    subst hw1
    have Hall := Lib.hid hall
    clear hall
    by_cases hlt : k < x.f.code.length
    · have hlt2 : k < y.f.code.length := by rw [← H1.out]; exact hlt
      obtain ⟨b, o, e1, hc1⟩ := HX.out.code k x.f.code[k] (List.getElem?_eq_getElem hlt)
      obtain ⟨b2, o2, e2, hc2⟩ := HY.out.code k y.f.code[k] (List.getElem?_eq_getElem hlt2)
      have hz := Lib.hid (zip_at (List.getElem?_eq_getElem hlt) (List.getElem?_eq_getElem hlt2))
      generalize x.f.code[k] = u at hc1 hz
      generalize y.f.code[k] = v at hc2 hz
      have x0 := cell_gr hW (hc1 0 _ rfl)
      have y0 := cell_gr hW (hc2 0 _ rfl)
      have x1 := cell_gr hW (hc1 1 _ rfl)
      have y1 := cell_gr hW (hc2 1 _ rfl)
      have x2 := cell_gr hW (hc1 2 _ rfl)
      have y2 := cell_gr hW (hc2 2 _ rfl)
      have hbl1 : b < w.heap.size := block_lt_of_cell (hc1 0 _ rfl)
      have hbl2 : b2 < w.heap.size := block_lt_of_cell (hc2 0 _ rfl)
      have hn1 : ¬ b = w.heap.size := by omega
      have hn2 : ¬ b = w.heap.size + 1 := by omega
      have hn3 : ¬ b2 = w.heap.size := by omega
      have hn4 : ¬ b2 = w.heap.size + 1 := by omega
      have hn5 : b < W1.heap.size := by omega
      have hn6 : b2 < W1.heap.size := by omega
      rw [← Nat.add_assoc] at x0 y0 x1 y1 x2 y2
      rw [Nat.add_zero] at x0 y0
      have E1 := Lib.hid e1
      have E2 := Lib.hid e2
      clear hc1 hc2 e1 e2
      cases hq : insEq u v
      · have HQ := Lib.hid hq
        clear hq
        go_wp2_with fail
        refine wp_region_const 11 6 (fun i => ([.pointer (some ⟨w.heap.size, 4, none⟩), .slice x.A x.f.code.length x.ca, .int .i64 k, .pointer (some ⟨b, o + k * 3, none⟩), .agg #[.int .i64 u.op, .int .i64 u.a, .int .i64 u.b], .pointer (some ⟨w.heap.size + 1, 4, none⟩), .slice y.A y.f.code.length y.ca, .int .i64 k, .pointer (some ⟨b2, o2 + k * 3, none⟩), .agg #[.int .i64 v.op, .int .i64 v.a, .int .i64 v.b], .bool true] : List Value).getD i undef) (by kernel_rfl) (by kernel_rfl) (by kernel_rfl) (by decide) ?hstep ?hend
        case hstep =>
          intro i hi
          rcases i with _ | i
          · intro op ho ρ w' hC hcst hfun hglo hd hf
            simp only [List.getElem?_toArray, List.getElem?_cons_zero, List.getElem?_cons_succ, Option.some.injEq] at ho
            subst ho
            rw [if_pos (by rfl)]
            have e2 : ρ (.tmp 2) = .pointer (some ⟨w.heap.size, 0, none⟩) := hf 2 (by kernel_rfl)
            clear hd hf
            go_simp
            exact ⟨Gr.refl _, rfl⟩
          rcases i with _ | i
          · intro op ho ρ w' hC hcst hfun hglo hd hf
            simp only [List.getElem?_toArray, List.getElem?_cons_zero, List.getElem?_cons_succ, Option.some.injEq] at ho
            subst ho
            rw [if_pos (by rfl)]
            have e68 : ρ (.tmp 68) = .pointer (some ⟨w.heap.size, 4, none⟩) := hd 0 68 (by kernel_rfl)
            obtain ⟨W2, hw2, hs3, hs4, _⟩ := plug2 (heap_gr hC (heap_plug2_fst _ _ _ _ _ hs1 (by omega))) (heap_gr hC (heap_plug2_snd _ _ _ _ _ hs2))
            clear hd hf hC
            subst hw2
            go_simp
            exact ⟨Gr.refl _, rfl⟩
          rcases i with _ | i
          · intro op ho ρ w' hC hcst hfun hglo hd hf
            simp only [List.getElem?_toArray, List.getElem?_cons_zero, List.getElem?_cons_succ, Option.some.injEq] at ho
            subst ho
            rw [if_pos (by rfl)]
            have e5 : ρ (.tmp 5) = .int .i64 k := hf 5 (by kernel_rfl)
            clear hd hf
            go_simp
            exact ⟨Gr.refl _, rfl⟩
          rcases i with _ | i
          · intro op ho ρ w' hC hcst hfun hglo hd hf
            simp only [List.getElem?_toArray, List.getElem?_cons_zero, List.getElem?_cons_succ, Option.some.injEq] at ho
            subst ho
            rw [if_pos (by rfl)]
            have e69 : ρ (.tmp 69) = .slice x.A x.f.code.length x.ca := hd 1 69 (by kernel_rfl)
            have e70 : ρ (.tmp 70) = .int .i64 k := hd 2 70 (by kernel_rfl)
            rw [E1.out] at e69
            clear hd hf
            go_simp
            exact ⟨Gr.refl _, rfl⟩
          rcases i with _ | i
          · intro op ho ρ w' hC hcst hfun hglo hd hf
            simp only [List.getElem?_toArray, List.getElem?_cons_zero, List.getElem?_cons_succ, Option.some.injEq] at ho
            subst ho
            rw [if_pos (by rfl)]
            have e71 : ρ (.tmp 71) = .pointer (some ⟨b, o + k * 3, none⟩) := hd 3 71 (by kernel_rfl)
            have z0 := cell_gr hC (cellp2 hn1 hn2 x0)
            have z1 := cell_gr hC (cellp2 hn1 hn2 x1)
            have z2 := cell_gr hC (cellp2 hn1 hn2 x2)
            clear hd hf hC
            go_simp
            exact ⟨Gr.refl _, rfl⟩
          rcases i with _ | i
          · intro op ho ρ w' hC hcst hfun hglo hd hf
            simp only [List.getElem?_toArray, List.getElem?_cons_zero, List.getElem?_cons_succ, Option.some.injEq] at ho
            subst ho
            rw [if_pos (by rfl)]
            have e3 : ρ (.tmp 3) = .pointer (some ⟨w.heap.size + 1, 0, none⟩) := hf 3 (by kernel_rfl)
            clear hd hf
            go_simp
            exact ⟨Gr.refl _, rfl⟩
          rcases i with _ | i
          · intro op ho ρ w' hC hcst hfun hglo hd hf
            simp only [List.getElem?_toArray, List.getElem?_cons_zero, List.getElem?_cons_succ, Option.some.injEq] at ho
            subst ho
            rw [if_pos (by rfl)]
            have e73 : ρ (.tmp 73) = .pointer (some ⟨w.heap.size + 1, 4, none⟩) := hd 5 73 (by kernel_rfl)
            obtain ⟨W2, hw2, hs3, hs4, _⟩ := plug2 (heap_gr hC (heap_plug2_fst _ _ _ _ _ hs1 (by omega))) (heap_gr hC (heap_plug2_snd _ _ _ _ _ hs2))
            clear hd hf hC
            subst hw2
            go_simp
            exact ⟨Gr.refl _, rfl⟩
          rcases i with _ | i
          · intro op ho ρ w' hC hcst hfun hglo hd hf
            simp only [List.getElem?_toArray, List.getElem?_cons_zero, List.getElem?_cons_succ, Option.some.injEq] at ho
            subst ho
            rw [if_pos (by rfl)]
            have e5 : ρ (.tmp 5) = .int .i64 k := hf 5 (by kernel_rfl)
            clear hd hf
            go_simp
            exact ⟨Gr.refl _, rfl⟩
          rcases i with _ | i
          · intro op ho ρ w' hC hcst hfun hglo hd hf
            simp only [List.getElem?_toArray, List.getElem?_cons_zero, List.getElem?_cons_succ, Option.some.injEq] at ho
            subst ho
            rw [if_pos (by rfl)]
            have e74 : ρ (.tmp 74) = .slice y.A y.f.code.length y.ca := hd 6 74 (by kernel_rfl)
            have e75 : ρ (.tmp 75) = .int .i64 k := hd 7 75 (by kernel_rfl)
            rw [E2.out] at e74
            clear hd hf
            go_simp
            exact ⟨Gr.refl _, rfl⟩
          rcases i with _ | i
          · intro op ho ρ w' hC hcst hfun hglo hd hf
            simp only [List.getElem?_toArray, List.getElem?_cons_zero, List.getElem?_cons_succ, Option.some.injEq] at ho
            subst ho
            rw [if_pos (by rfl)]
            have e76 : ρ (.tmp 76) = .pointer (some ⟨b2, o2 + k * 3, none⟩) := hd 8 76 (by kernel_rfl)
            have z0 := cell_gr hC (cellp2 hn3 hn4 y0)
            have z1 := cell_gr hC (cellp2 hn3 hn4 y1)
            have z2 := cell_gr hC (cellp2 hn3 hn4 y2)
            clear hd hf hC
            go_simp
            exact ⟨Gr.refl _, rfl⟩
          rcases i with _ | i
          · intro op ho ρ w' hC hcst hfun hglo hd hf
            simp only [List.getElem?_toArray, List.getElem?_cons_zero, List.getElem?_cons_succ, Option.some.injEq] at ho
            subst ho
            rw [if_pos (by rfl)]
            have e72 : ρ (.tmp 72) = .agg #[.int .i64 u.op, .int .i64 u.a, .int .i64 u.b] := hd 4 72 (by kernel_rfl)
            have e77 : ρ (.tmp 77) = .agg #[.int .i64 v.op, .int .i64 v.a, .int .i64 v.b] := hd 9 77 (by kernel_rfl)
            clear hd hf
            go_simp
            rw [insEq_ite, HQ.out]
            exact ⟨Gr.refl _, rfl⟩
          omega
        case hend =>
          intro w1 hb1
          have hW2 : Gr w w1 := Gr.trans (gr_plug2 hW (Nat.le_refl _) (by omega) _ _) hb1
          have hbxa := heap_gr hb1 (heap_plug2_fst _ _ _ _ _ hs1 (by omega))
          have hbxb := heap_gr hb1 (heap_plug2_snd _ _ _ _ _ hs2)
          clear hb1
          simp only [putAll, List.getElem?_toArray, List.getElem?_cons_succ, List.getElem?_cons_zero, Option.bind_some, Act.put, List.setIfInBounds_toArray, List.set_cons_succ, List.set_cons_zero, List.drop_succ_cons, List.drop_zero, List.getD_cons_zero, List.getD_cons_succ]
          go_wp2_with fail
          go_ret
          exact ⟨ret_bool (body1 (all_false_at hz.out HQ.out)).symm, hW2⟩
      · have HQ := Lib.hid hq
        clear hq
        go_wp2_with fail
        refine wp_region_const 11 6 (fun i => ([.pointer (some ⟨w.heap.size, 4, none⟩), .slice x.A x.f.code.length x.ca, .int .i64 k, .pointer (some ⟨b, o + k * 3, none⟩), .agg #[.int .i64 u.op, .int .i64 u.a, .int .i64 u.b], .pointer (some ⟨w.heap.size + 1, 4, none⟩), .slice y.A y.f.code.length y.ca, .int .i64 k, .pointer (some ⟨b2, o2 + k * 3, none⟩), .agg #[.int .i64 v.op, .int .i64 v.a, .int .i64 v.b], .bool false] : List Value).getD i undef) (by kernel_rfl) (by kernel_rfl) (by kernel_rfl) (by decide) ?hstep ?hend
        case hstep =>
          intro i hi
          rcases i with _ | i
          · intro op ho ρ w' hC hcst hfun hglo hd hf
            simp only [List.getElem?_toArray, List.getElem?_cons_zero, List.getElem?_cons_succ, Option.some.injEq] at ho
            subst ho
            rw [if_pos (by rfl)]
            have e2 : ρ (.tmp 2) = .pointer (some ⟨w.heap.size, 0, none⟩) := hf 2 (by kernel_rfl)
            clear hd hf
            go_simp
            exact ⟨Gr.refl _, rfl⟩
          rcases i with _ | i
          · intro op ho ρ w' hC hcst hfun hglo hd hf
            simp only [List.getElem?_toArray, List.getElem?_cons_zero, List.getElem?_cons_succ, Option.some.injEq] at ho
            subst ho
            rw [if_pos (by rfl)]
            have e68 : ρ (.tmp 68) = .pointer (some ⟨w.heap.size, 4, none⟩) := hd 0 68 (by kernel_rfl)
            obtain ⟨W2, hw2, hs3, hs4, _⟩ := plug2 (heap_gr hC (heap_plug2_fst _ _ _ _ _ hs1 (by omega))) (heap_gr hC (heap_plug2_snd _ _ _ _ _ hs2))
            clear hd hf hC
            subst hw2
            go_simp
            exact ⟨Gr.refl _, rfl⟩
          rcases i with _ | i
          · intro op ho ρ w' hC hcst hfun hglo hd hf
            simp only [List.getElem?_toArray, List.getElem?_cons_zero, List.getElem?_cons_succ, Option.some.injEq] at ho
            subst ho
            rw [if_pos (by rfl)]
            have e5 : ρ (.tmp 5) = .int .i64 k := hf 5 (by kernel_rfl)
            clear hd hf
            go_simp
            exact ⟨Gr.refl _, rfl⟩
          rcases i with _ | i
          · intro op ho ρ w' hC hcst hfun hglo hd hf
            simp only [List.getElem?_toArray, List.getElem?_cons_zero, List.getElem?_cons_succ, Option.some.injEq] at ho
            subst ho
            rw [if_pos (by rfl)]
            have e69 : ρ (.tmp 69) = .slice x.A x.f.code.length x.ca := hd 1 69 (by kernel_rfl)
            have e70 : ρ (.tmp 70) = .int .i64 k := hd 2 70 (by kernel_rfl)
            rw [E1.out] at e69
            clear hd hf
            go_simp
            exact ⟨Gr.refl _, rfl⟩
          rcases i with _ | i
          · intro op ho ρ w' hC hcst hfun hglo hd hf
            simp only [List.getElem?_toArray, List.getElem?_cons_zero, List.getElem?_cons_succ, Option.some.injEq] at ho
            subst ho
            rw [if_pos (by rfl)]
            have e71 : ρ (.tmp 71) = .pointer (some ⟨b, o + k * 3, none⟩) := hd 3 71 (by kernel_rfl)
            have z0 := cell_gr hC (cellp2 hn1 hn2 x0)
            have z1 := cell_gr hC (cellp2 hn1 hn2 x1)
            have z2 := cell_gr hC (cellp2 hn1 hn2 x2)
            clear hd hf hC
            go_simp
            exact ⟨Gr.refl _, rfl⟩
          rcases i with _ | i
          · intro op ho ρ w' hC hcst hfun hglo hd hf
            simp only [List.getElem?_toArray, List.getElem?_cons_zero, List.getElem?_cons_succ, Option.some.injEq] at ho
            subst ho
            rw [if_pos (by rfl)]
            have e3 : ρ (.tmp 3) = .pointer (some ⟨w.heap.size + 1, 0, none⟩) := hf 3 (by kernel_rfl)
            clear hd hf
            go_simp
            exact ⟨Gr.refl _, rfl⟩
          rcases i with _ | i
          · intro op ho ρ w' hC hcst hfun hglo hd hf
            simp only [List.getElem?_toArray, List.getElem?_cons_zero, List.getElem?_cons_succ, Option.some.injEq] at ho
            subst ho
            rw [if_pos (by rfl)]
            have e73 : ρ (.tmp 73) = .pointer (some ⟨w.heap.size + 1, 4, none⟩) := hd 5 73 (by kernel_rfl)
            obtain ⟨W2, hw2, hs3, hs4, _⟩ := plug2 (heap_gr hC (heap_plug2_fst _ _ _ _ _ hs1 (by omega))) (heap_gr hC (heap_plug2_snd _ _ _ _ _ hs2))
            clear hd hf hC
            subst hw2
            go_simp
            exact ⟨Gr.refl _, rfl⟩
          rcases i with _ | i
          · intro op ho ρ w' hC hcst hfun hglo hd hf
            simp only [List.getElem?_toArray, List.getElem?_cons_zero, List.getElem?_cons_succ, Option.some.injEq] at ho
            subst ho
            rw [if_pos (by rfl)]
            have e5 : ρ (.tmp 5) = .int .i64 k := hf 5 (by kernel_rfl)
            clear hd hf
            go_simp
            exact ⟨Gr.refl _, rfl⟩
          rcases i with _ | i
          · intro op ho ρ w' hC hcst hfun hglo hd hf
            simp only [List.getElem?_toArray, List.getElem?_cons_zero, List.getElem?_cons_succ, Option.some.injEq] at ho
            subst ho
            rw [if_pos (by rfl)]
            have e74 : ρ (.tmp 74) = .slice y.A y.f.code.length y.ca := hd 6 74 (by kernel_rfl)
            have e75 : ρ (.tmp 75) = .int .i64 k := hd 7 75 (by kernel_rfl)
            rw [E2.out] at e74
            clear hd hf
            go_simp
            exact ⟨Gr.refl _, rfl⟩
          rcases i with _ | i
          · intro op ho ρ w' hC hcst hfun hglo hd hf
            simp only [List.getElem?_toArray, List.getElem?_cons_zero, List.getElem?_cons_succ, Option.some.injEq] at ho
            subst ho
            rw [if_pos (by rfl)]
            have e76 : ρ (.tmp 76) = .pointer (some ⟨b2, o2 + k * 3, none⟩) := hd 8 76 (by kernel_rfl)
            have z0 := cell_gr hC (cellp2 hn3 hn4 y0)
            have z1 := cell_gr hC (cellp2 hn3 hn4 y1)
            have z2 := cell_gr hC (cellp2 hn3 hn4 y2)
            clear hd hf hC
            go_simp
            exact ⟨Gr.refl _, rfl⟩
          rcases i with _ | i
          · intro op ho ρ w' hC hcst hfun hglo hd hf
            simp only [List.getElem?_toArray, List.getElem?_cons_zero, List.getElem?_cons_succ, Option.some.injEq] at ho
            subst ho
            rw [if_pos (by rfl)]
            have e72 : ρ (.tmp 72) = .agg #[.int .i64 u.op, .int .i64 u.a, .int .i64 u.b] := hd 4 72 (by kernel_rfl)
            have e77 : ρ (.tmp 77) = .agg #[.int .i64 v.op, .int .i64 v.a, .int .i64 v.b] := hd 9 77 (by kernel_rfl)
            clear hd hf
            go_simp
            rw [insEq_ite, HQ.out]
            exact ⟨Gr.refl _, rfl⟩
          omega
        case hend =>
          intro w1 hb1
          have hW2 : Gr w w1 := Gr.trans (gr_plug2 hW (Nat.le_refl _) (by omega) _ _) hb1
          have hbxa := heap_gr hb1 (heap_plug2_fst _ _ _ _ _ hs1 (by omega))
          have hbxb := heap_gr hb1 (heap_plug2_snd _ _ _ _ _ hs2)
          clear hb1
          simp only [putAll, List.getElem?_toArray, List.getElem?_cons_succ, List.getElem?_cons_zero, Option.bind_some, Act.put, List.setIfInBounds_toArray, List.set_cons_succ, List.set_cons_zero, List.drop_succ_cons, List.drop_zero, List.getD_cons_zero, List.getD_cons_succ]
          go_wp2_with fail
          go_roundw
          case rel => exact ⟨k + 1, by omega, by go_num, all_take_succ Hall.out hz.out HQ.out, hW2, hbxa, hbxb⟩
          case measure => simp [intOf]; omega
    · have HC1 := Lib.hid (all_take_len Hall.out (by rw [List.length_zip, ← H1.out]; omega))
      clear Hall
      go_wp2_with fail
      go_loopw [6] (LoopRel2 w w.heap.size (w.heap.size + 1) (refBox x) (refBox y) x.f.consts.length (fun k => ((x.f.consts.zip y.f.consts).take k).all (fun q => cstSame q.1 q.2) = true)) (fun i _ => x.f.consts.length - (intOf i).toNat)
      case atStart => exact ⟨0, Nat.zero_le _, rfl, rfl, gr_plug2 hW (Nat.le_refl _) (by omega) _ _, heap_plug2_fst _ _ _ _ _ hs1 (by omega), heap_plug2_snd _ _ _ _ _ hs2⟩
      case round =>
        obtain ⟨k, hk, rfl, hall, hgr, hbx1, hbx2⟩ := hrel
        obtain ⟨W1, hw1, hs1, hs2, hW⟩ := plug2 hbx1 hbx2
        replace hW := hgr.trans hW
        clear hgr hbx1 hbx2
        unfold refBox at hw1
        subst hw1
        have Hall := Lib.hid hall
        clear hall
        by_cases hlt : k < x.f.consts.length
        · have hlt2 : k < y.f.consts.length := by rw [← H2.out]; exact hlt
          obtain ⟨b, o, e1, hc1⟩ := HX.out.consts k x.f.consts[k] (List.getElem?_eq_getElem hlt)
          obtain ⟨b2, o2, e2, hc2⟩ := HY.out.consts k y.f.consts[k] (List.getElem?_eq_getElem hlt2)
          have hz := Lib.hid (zip_at (List.getElem?_eq_getElem hlt) (List.getElem?_eq_getElem hlt2))
          generalize x.f.consts[k] = u at hc1 hz
          generalize y.f.consts[k] = v at hc2 hz
          have x0 := cell_gr hW (hc1 0 _ rfl)
          have y0 := cell_gr hW (hc2 0 _ rfl)
          have x1 := cell_gr hW (hc1 1 _ rfl)
          have y1 := cell_gr hW (hc2 1 _ rfl)
          have x2 := cell_gr hW (hc1 2 _ rfl)
          have y2 := cell_gr hW (hc2 2 _ rfl)
          have hbl1 : b < w.heap.size := block_lt_of_cell (hc1 0 _ rfl)
          have hbl2 : b2 < w.heap.size := block_lt_of_cell (hc2 0 _ rfl)
          have hn1 : ¬ b = w.heap.size := by omega
          have hn2 : ¬ b = w.heap.size + 1 := by omega
          have hn3 : ¬ b2 = w.heap.size := by omega
          have hn4 : ¬ b2 = w.heap.size + 1 := by omega
          have hn5 : b < W1.heap.size := by omega
          have hn6 : b2 < W1.heap.size := by omega
          rw [← Nat.add_assoc] at x0 y0 x1 y1 x2 y2
          rw [Nat.add_zero] at x0 y0
          have E1 := Lib.hid e1
          have E2 := Lib.hid e2
          clear hc1 hc2 e1 e2
          cases hq : cstSame u v
          · have HQ := Lib.hid hq
            clear hq
            go_wp2_with fail
            refine wp_region_const 12 6 (fun i => ([.pointer (some ⟨w.heap.size, 5, none⟩), .slice x.B x.f.consts.length x.cb, .int .i64 k, .pointer (some ⟨b, o + k * 3, none⟩), .agg #[.int .i64 u.kind, .int .i64 u.int, .string u.str], .pointer (some ⟨w.heap.size + 1, 5, none⟩), .slice y.B y.f.consts.length y.cb, .int .i64 k, .pointer (some ⟨b2, o2 + k * 3, none⟩), .agg #[.int .i64 v.kind, .int .i64 v.int, .string v.str], .bool false, .bool true] : List Value).getD i undef) (by kernel_rfl) (by kernel_rfl) (by kernel_rfl) (by decide) ?hstep ?hend
            case hstep =>
              intro i hi
              rcases i with _ | i
              · intro op ho ρ w' hC hcst hfun hglo hd hf
                simp only [List.getElem?_toArray, List.getElem?_cons_zero, List.getElem?_cons_succ, Option.some.injEq] at ho
                subst ho
                rw [if_pos (by rfl)]
                have e2 : ρ (.tmp 2) = .pointer (some ⟨w.heap.size, 0, none⟩) := hf 2 (by kernel_rfl)
                clear hd hf
                go_simp
                exact ⟨Gr.refl _, rfl⟩
              rcases i with _ | i
              · intro op ho ρ w' hC hcst hfun hglo hd hf
                simp only [List.getElem?_toArray, List.getElem?_cons_zero, List.getElem?_cons_succ, Option.some.injEq] at ho
                subst ho
                rw [if_pos (by rfl)]
                have e86 : ρ (.tmp 86) = .pointer (some ⟨w.heap.size, 5, none⟩) := hd 0 86 (by kernel_rfl)
                obtain ⟨W2, hw2, hs3, hs4, _⟩ := plug2 (heap_gr hC (heap_plug2_fst _ _ _ _ _ hs1 (by omega))) (heap_gr hC (heap_plug2_snd _ _ _ _ _ hs2))
                clear hd hf hC
                subst hw2
                go_simp
                exact ⟨Gr.refl _, rfl⟩
              rcases i with _ | i
              · intro op ho ρ w' hC hcst hfun hglo hd hf
                simp only [List.getElem?_toArray, List.getElem?_cons_zero, List.getElem?_cons_succ, Option.some.injEq] at ho
                subst ho
                rw [if_pos (by rfl)]
                have e6 : ρ (.tmp 6) = .int .i64 k := hf 6 (by kernel_rfl)
                clear hd hf
                go_simp
                exact ⟨Gr.refl _, rfl⟩
              rcases i with _ | i
              · intro op ho ρ w' hC hcst hfun hglo hd hf
                simp only [List.getElem?_toArray, List.getElem?_cons_zero, List.getElem?_cons_succ, Option.some.injEq] at ho
                subst ho
                rw [if_pos (by rfl)]
                have e87 : ρ (.tmp 87) = .slice x.B x.f.consts.length x.cb := hd 1 87 (by kernel_rfl)
                have e88 : ρ (.tmp 88) = .int .i64 k := hd 2 88 (by kernel_rfl)
                rw [E1.out] at e87
                clear hd hf
                go_simp
                exact ⟨Gr.refl _, rfl⟩
              rcases i with _ | i
              · intro op ho ρ w' hC hcst hfun hglo hd hf
                simp only [List.getElem?_toArray, List.getElem?_cons_zero, List.getElem?_cons_succ, Option.some.injEq] at ho
                subst ho
                rw [if_pos (by rfl)]
                have e89 : ρ (.tmp 89) = .pointer (some ⟨b, o + k * 3, none⟩) := hd 3 89 (by kernel_rfl)
                have z0 := cell_gr hC (cellp2 hn1 hn2 x0)
                have z1 := cell_gr hC (cellp2 hn1 hn2 x1)
                have z2 := cell_gr hC (cellp2 hn1 hn2 x2)
                clear hd hf hC
                go_simp
                exact ⟨Gr.refl _, rfl⟩
              rcases i with _ | i
              · intro op ho ρ w' hC hcst hfun hglo hd hf
                simp only [List.getElem?_toArray, List.getElem?_cons_zero, List.getElem?_cons_succ, Option.some.injEq] at ho
                subst ho
                rw [if_pos (by rfl)]
                have e3 : ρ (.tmp 3) = .pointer (some ⟨w.heap.size + 1, 0, none⟩) := hf 3 (by kernel_rfl)
                clear hd hf
                go_simp
                exact ⟨Gr.refl _, rfl⟩
              rcases i with _ | i
              · intro op ho ρ w' hC hcst hfun hglo hd hf
                simp only [List.getElem?_toArray, List.getElem?_cons_zero, List.getElem?_cons_succ, Option.some.injEq] at ho
                subst ho
                rw [if_pos (by rfl)]
                have e91 : ρ (.tmp 91) = .pointer (some ⟨w.heap.size + 1, 5, none⟩) := hd 5 91 (by kernel_rfl)
                obtain ⟨W2, hw2, hs3, hs4, _⟩ := plug2 (heap_gr hC (heap_plug2_fst _ _ _ _ _ hs1 (by omega))) (heap_gr hC (heap_plug2_snd _ _ _ _ _ hs2))
                clear hd hf hC
                subst hw2
                go_simp
                exact ⟨Gr.refl _, rfl⟩
              rcases i with _ | i
              · intro op ho ρ w' hC hcst hfun hglo hd hf
                simp only [List.getElem?_toArray, List.getElem?_cons_zero, List.getElem?_cons_succ, Option.some.injEq] at ho
                subst ho
                rw [if_pos (by rfl)]
                have e6 : ρ (.tmp 6) = .int .i64 k := hf 6 (by kernel_rfl)
                clear hd hf
                go_simp
                exact ⟨Gr.refl _, rfl⟩
              rcases i with _ | i
              · intro op ho ρ w' hC hcst hfun hglo hd hf
                simp only [List.getElem?_toArray, List.getElem?_cons_zero, List.getElem?_cons_succ, Option.some.injEq] at ho
                subst ho
                rw [if_pos (by rfl)]
                have e92 : ρ (.tmp 92) = .slice y.B y.f.consts.length y.cb := hd 6 92 (by kernel_rfl)
                have e93 : ρ (.tmp 93) = .int .i64 k := hd 7 93 (by kernel_rfl)
                rw [E2.out] at e92
                clear hd hf
                go_simp
                exact ⟨Gr.refl _, rfl⟩
              rcases i with _ | i
              · intro op ho ρ w' hC hcst hfun hglo hd hf
                simp only [List.getElem?_toArray, List.getElem?_cons_zero, List.getElem?_cons_succ, Option.some.injEq] at ho
                subst ho
                rw [if_pos (by rfl)]
                have e94 : ρ (.tmp 94) = .pointer (some ⟨b2, o2 + k * 3, none⟩) := hd 8 94 (by kernel_rfl)
                have z0 := cell_gr hC (cellp2 hn3 hn4 y0)
                have z1 := cell_gr hC (cellp2 hn3 hn4 y1)
                have z2 := cell_gr hC (cellp2 hn3 hn4 y2)
                clear hd hf hC
                go_simp
                exact ⟨Gr.refl _, rfl⟩
              rcases i with _ | i
              · intro op ho ρ w' hC hcst hfun hglo hd hf
                simp only [List.getElem?_toArray, List.getElem?_cons_zero, List.getElem?_cons_succ, Option.some.injEq] at ho
                subst ho
                rw [if_pos (by rfl)]
                have e90 : ρ (.tmp 90) = .agg #[.int .i64 u.kind, .int .i64 u.int, .string u.str] := hd 4 90 (by kernel_rfl)
                have e95 : ρ (.tmp 95) = .agg #[.int .i64 v.kind, .int .i64 v.int, .string v.str] := hd 9 95 (by kernel_rfl)
                clear hd hf
                go_simp
                rw [growUpon_enter]
                refine (same_eq u v _ false HQ.out).mono ?_
                rintro e w1 ⟨rfl, hb1⟩
                exact ⟨_, rfl, hb1, rfl⟩
              rcases i with _ | i
              · intro op ho ρ w' hC hcst hfun hglo hd hf
                simp only [List.getElem?_toArray, List.getElem?_cons_zero, List.getElem?_cons_succ, Option.some.injEq] at ho
                subst ho
                rw [if_pos (by rfl)]
                have e96 : ρ (.tmp 96) = .bool false := hd 10 96 (by kernel_rfl)
                clear hd hf
                go_simp
                exact ⟨Gr.refl _, rfl⟩
              omega
            case hend =>
              intro w1 hb1
              have hW2 : Gr w w1 := Gr.trans (gr_plug2 hW (Nat.le_refl _) (by omega) _ _) hb1
              have hbxa := heap_gr hb1 (heap_plug2_fst _ _ _ _ _ hs1 (by omega))
              have hbxb := heap_gr hb1 (heap_plug2_snd _ _ _ _ _ hs2)
              clear hb1
              simp only [putAll, List.getElem?_toArray, List.getElem?_cons_succ, List.getElem?_cons_zero, Option.bind_some, Act.put, List.setIfInBounds_toArray, List.set_cons_succ, List.set_cons_zero, List.drop_succ_cons, List.drop_zero, List.getD_cons_zero, List.getD_cons_succ]
              go_wp2_with fail
              go_ret
              exact ⟨ret_bool (body2 (all_false_at hz.out HQ.out)).symm, hW2⟩
          · have HQ := Lib.hid hq
            clear hq
            go_wp2_with fail
            refine wp_region_const 12 6 (fun i => ([.pointer (some ⟨w.heap.size, 5, none⟩), .slice x.B x.f.consts.length x.cb, .int .i64 k, .pointer (some ⟨b, o + k * 3, none⟩), .agg #[.int .i64 u.kind, .int .i64 u.int, .string u.str], .pointer (some ⟨w.heap.size + 1, 5, none⟩), .slice y.B y.f.consts.length y.cb, .int .i64 k, .pointer (some ⟨b2, o2 + k * 3, none⟩), .agg #[.int .i64 v.kind, .int .i64 v.int, .string v.str], .bool true, .bool false] : List Value).getD i undef) (by kernel_rfl) (by kernel_rfl) (by kernel_rfl) (by decide) ?hstep ?hend
            case hstep =>
              intro i hi
              rcases i with _ | i
              · intro op ho ρ w' hC hcst hfun hglo hd hf
                simp only [List.getElem?_toArray, List.getElem?_cons_zero, List.getElem?_cons_succ, Option.some.injEq] at ho
                subst ho
                rw [if_pos (by rfl)]
                have e2 : ρ (.tmp 2) = .pointer (some ⟨w.heap.size, 0, none⟩) := hf 2 (by kernel_rfl)
                clear hd hf
                go_simp
                exact ⟨Gr.refl _, rfl⟩
              rcases i with _ | i
              · intro op ho ρ w' hC hcst hfun hglo hd hf
                simp only [List.getElem?_toArray, List.getElem?_cons_zero, List.getElem?_cons_succ, Option.some.injEq] at ho
                subst ho
                rw [if_pos (by rfl)]
                have e86 : ρ (.tmp 86) = .pointer (some ⟨w.heap.size, 5, none⟩) := hd 0 86 (by kernel_rfl)
                obtain ⟨W2, hw2, hs3, hs4, _⟩ := plug2 (heap_gr hC (heap_plug2_fst _ _ _ _ _ hs1 (by omega))) (heap_gr hC (heap_plug2_snd _ _ _ _ _ hs2))
                clear hd hf hC
                subst hw2
                go_simp
                exact ⟨Gr.refl _, rfl⟩
              rcases i with _ | i
              · intro op ho ρ w' hC hcst hfun hglo hd hf
                simp only [List.getElem?_toArray, List.getElem?_cons_zero, List.getElem?_cons_succ, Option.some.injEq] at ho
                subst ho
                rw [if_pos (by rfl)]
                have e6 : ρ (.tmp 6) = .int .i64 k := hf 6 (by kernel_rfl)
                clear hd hf
                go_simp
                exact ⟨Gr.refl _, rfl⟩
              rcases i with _ | i
              · intro op ho ρ w' hC hcst hfun hglo hd hf
                simp only [List.getElem?_toArray, List.getElem?_cons_zero, List.getElem?_cons_succ, Option.some.injEq] at ho
                subst ho
                rw [if_pos (by rfl)]
                have e87 : ρ (.tmp 87) = .slice x.B x.f.consts.length x.cb := hd 1 87 (by kernel_rfl)
                have e88 : ρ (.tmp 88) = .int .i64 k := hd 2 88 (by kernel_rfl)
                rw [E1.out] at e87
                clear hd hf
                go_simp
                exact ⟨Gr.refl _, rfl⟩
              rcases i with _ | i
              · intro op ho ρ w' hC hcst hfun hglo hd hf
                simp only [List.getElem?_toArray, List.getElem?_cons_zero, List.getElem?_cons_succ, Option.some.injEq] at ho
                subst ho
                rw [if_pos (by rfl)]
                have e89 : ρ (.tmp 89) = .pointer (some ⟨b, o + k * 3, none⟩) := hd 3 89 (by kernel_rfl)
                have z0 := cell_gr hC (cellp2 hn1 hn2 x0)
                have z1 := cell_gr hC (cellp2 hn1 hn2 x1)
                have z2 := cell_gr hC (cellp2 hn1 hn2 x2)
                clear hd hf hC
                go_simp
                exact ⟨Gr.refl _, rfl⟩
              rcases i with _ | i
              · intro op ho ρ w' hC hcst hfun hglo hd hf
                simp only [List.getElem?_toArray, List.getElem?_cons_zero, List.getElem?_cons_succ, Option.some.injEq] at ho
                subst ho
                rw [if_pos (by rfl)]
                have e3 : ρ (.tmp 3) = .pointer (some ⟨w.heap.size + 1, 0, none⟩) := hf 3 (by kernel_rfl)
                clear hd hf
                go_simp
                exact ⟨Gr.refl _, rfl⟩
              rcases i with _ | i
              · intro op ho ρ w' hC hcst hfun hglo hd hf
                simp only [List.getElem?_toArray, List.getElem?_cons_zero, List.getElem?_cons_succ, Option.some.injEq] at ho
                subst ho
                rw [if_pos (by rfl)]
                have e91 : ρ (.tmp 91) = .pointer (some ⟨w.heap.size + 1, 5, none⟩) := hd 5 91 (by kernel_rfl)
                obtain ⟨W2, hw2, hs3, hs4, _⟩ := plug2 (heap_gr hC (heap_plug2_fst _ _ _ _ _ hs1 (by omega))) (heap_gr hC (heap_plug2_snd _ _ _ _ _ hs2))
                clear hd hf hC
                subst hw2
                go_simp
                exact ⟨Gr.refl _, rfl⟩
              rcases i with _ | i
              · intro op ho ρ w' hC hcst hfun hglo hd hf
                simp only [List.getElem?_toArray, List.getElem?_cons_zero, List.getElem?_cons_succ, Option.some.injEq] at ho
                subst ho
                rw [if_pos (by rfl)]
                have e6 : ρ (.tmp 6) = .int .i64 k := hf 6 (by kernel_rfl)
                clear hd hf
                go_simp
                exact ⟨Gr.refl _, rfl⟩
              rcases i with _ | i
              · intro op ho ρ w' hC hcst hfun hglo hd hf
                simp only [List.getElem?_toArray, List.getElem?_cons_zero, List.getElem?_cons_succ, Option.some.injEq] at ho
                subst ho
                rw [if_pos (by rfl)]
                have e92 : ρ (.tmp 92) = .slice y.B y.f.consts.length y.cb := hd 6 92 (by kernel_rfl)
                have e93 : ρ (.tmp 93) = .int .i64 k := hd 7 93 (by kernel_rfl)
                rw [E2.out] at e92
                clear hd hf
                go_simp
                exact ⟨Gr.refl _, rfl⟩
              rcases i with _ | i
              · intro op ho ρ w' hC hcst hfun hglo hd hf
                simp only [List.getElem?_toArray, List.getElem?_cons_zero, List.getElem?_cons_succ, Option.some.injEq] at ho
                subst ho
                rw [if_pos (by rfl)]
                have e94 : ρ (.tmp 94) = .pointer (some ⟨b2, o2 + k * 3, none⟩) := hd 8 94 (by kernel_rfl)
                have z0 := cell_gr hC (cellp2 hn3 hn4 y0)
                have z1 := cell_gr hC (cellp2 hn3 hn4 y1)
                have z2 := cell_gr hC (cellp2 hn3 hn4 y2)
                clear hd hf hC
                go_simp
                exact ⟨Gr.refl _, rfl⟩
              rcases i with _ | i
              · intro op ho ρ w' hC hcst hfun hglo hd hf
                simp only [List.getElem?_toArray, List.getElem?_cons_zero, List.getElem?_cons_succ, Option.some.injEq] at ho
                subst ho
                rw [if_pos (by rfl)]
                have e90 : ρ (.tmp 90) = .agg #[.int .i64 u.kind, .int .i64 u.int, .string u.str] := hd 4 90 (by kernel_rfl)
                have e95 : ρ (.tmp 95) = .agg #[.int .i64 v.kind, .int .i64 v.int, .string v.str] := hd 9 95 (by kernel_rfl)
                clear hd hf
                go_simp
                rw [growUpon_enter]
                refine (same_eq u v _ true HQ.out).mono ?_
                rintro e w1 ⟨rfl, hb1⟩
                exact ⟨_, rfl, hb1, rfl⟩
              rcases i with _ | i
              · intro op ho ρ w' hC hcst hfun hglo hd hf
                simp only [List.getElem?_toArray, List.getElem?_cons_zero, List.getElem?_cons_succ, Option.some.injEq] at ho
                subst ho
                rw [if_pos (by rfl)]
                have e96 : ρ (.tmp 96) = .bool true := hd 10 96 (by kernel_rfl)
                clear hd hf
                go_simp
                exact ⟨Gr.refl _, rfl⟩
              omega
            case hend =>
              intro w1 hb1
              have hW2 : Gr w w1 := Gr.trans (gr_plug2 hW (Nat.le_refl _) (by omega) _ _) hb1
              have hbxa := heap_gr hb1 (heap_plug2_fst _ _ _ _ _ hs1 (by omega))
              have hbxb := heap_gr hb1 (heap_plug2_snd _ _ _ _ _ hs2)
              clear hb1
              simp only [putAll, List.getElem?_toArray, List.getElem?_cons_succ, List.getElem?_cons_zero, Option.bind_some, Act.put, List.setIfInBounds_toArray, List.set_cons_succ, List.set_cons_zero, List.drop_succ_cons, List.drop_zero, List.getD_cons_zero, List.getD_cons_succ]
              go_wp2_with fail
              go_roundw
              case rel => exact ⟨k + 1, by omega, by go_num, all_take_succ Hall.out hz.out HQ.out, hW2, hbxa, hbxb⟩
              case measure => simp [intOf]; omega
        · have HC2 := Lib.hid (all_take_len Hall.out (by rw [List.length_zip, ← H2.out]; omega))
          clear Hall
          go_wp2_with fail
          go_loopw [7] (LoopRel2 w w.heap.size (w.heap.size + 1) (refBox x) (refBox y) x.f.hdls.length (fun k => ((x.f.hdls.zip y.f.hdls).take k).all (fun q => hdlEq q.1 q.2) = true)) (fun i _ => x.f.hdls.length - (intOf i).toNat)
          case atStart => exact ⟨0, Nat.zero_le _, rfl, rfl, gr_plug2 hW (Nat.le_refl _) (by omega) _ _, heap_plug2_fst _ _ _ _ _ hs1 (by omega), heap_plug2_snd _ _ _ _ _ hs2⟩
          case round =>
            obtain ⟨k, hk, rfl, hall, hgr, hbx1, hbx2⟩ := hrel
            obtain ⟨W1, hw1, hs1, hs2, hW⟩ := plug2 hbx1 hbx2
            replace hW := hgr.trans hW
            clear hgr hbx1 hbx2
            unfold refBox at hw1
            subst hw1
            have Hall := Lib.hid hall
            clear hall
            by_cases hlt : k < x.f.hdls.length
            · have hlt2 : k < y.f.hdls.length := by rw [← H3.out]; exact hlt
              obtain ⟨b, o, e1, hc1⟩ := HX.out.hdls k x.f.hdls[k] (List.getElem?_eq_getElem hlt)
              obtain ⟨b2, o2, e2, hc2⟩ := HY.out.hdls k y.f.hdls[k] (List.getElem?_eq_getElem hlt2)
              have hz := Lib.hid (zip_at (List.getElem?_eq_getElem hlt) (List.getElem?_eq_getElem hlt2))
              generalize x.f.hdls[k] = u at hc1 hz
              generalize y.f.hdls[k] = v at hc2 hz
              have x0 := cell_gr hW (hc1 0 _ rfl)
              have y0 := cell_gr hW (hc2 0 _ rfl)
              have x1 := cell_gr hW (hc1 1 _ rfl)
              have y1 := cell_gr hW (hc2 1 _ rfl)
              have x2 := cell_gr hW (hc1 2 _ rfl)
              have y2 := cell_gr hW (hc2 2 _ rfl)
              have x3 := cell_gr hW (hc1 3 _ rfl)
              have y3 := cell_gr hW (hc2 3 _ rfl)
              have x4 := cell_gr hW (hc1 4 _ rfl)
              have y4 := cell_gr hW (hc2 4 _ rfl)
              have hbl1 : b < w.heap.size := block_lt_of_cell (hc1 0 _ rfl)
              have hbl2 : b2 < w.heap.size := block_lt_of_cell (hc2 0 _ rfl)
              have hn1 : ¬ b = w.heap.size := by omega
              have hn2 : ¬ b = w.heap.size + 1 := by omega
              have hn3 : ¬ b2 = w.heap.size := by omega
              have hn4 : ¬ b2 = w.heap.size + 1 := by omega
              have hn5 : b < W1.heap.size := by omega
              have hn6 : b2 < W1.heap.size := by omega
              rw [← Nat.add_assoc] at x0 y0 x1 y1 x2 y2 x3 y3 x4 y4
              rw [Nat.add_zero] at x0 y0
              have E1 := Lib.hid e1
              have E2 := Lib.hid e2
              clear hc1 hc2 e1 e2
              cases hq : hdlEq u v
              · have HQ := Lib.hid hq
                clear hq
                go_wp2_with fail
                refine wp_region_const 11 6 (fun i => ([.pointer (some ⟨w.heap.size, 6, none⟩), .slice x.C x.f.hdls.length x.cc, .int .i64 k, .pointer (some ⟨b, o + k * 5, none⟩), .agg #[.int .i64 u.lo, .int .i64 u.hi, .int .i64 u.tg, .int .i64 u.dp, .int .i64 u.sc], .pointer (some ⟨w.heap.size + 1, 6, none⟩), .slice y.C y.f.hdls.length y.cc, .int .i64 k, .pointer (some ⟨b2, o2 + k * 5, none⟩), .agg #[.int .i64 v.lo, .int .i64 v.hi, .int .i64 v.tg, .int .i64 v.dp, .int .i64 v.sc], .bool true] : List Value).getD i undef) (by kernel_rfl) (by kernel_rfl) (by kernel_rfl) (by decide) ?hstep ?hend
                case hstep =>
                  intro i hi
                  rcases i with _ | i
                  · intro op ho ρ w' hC hcst hfun hglo hd hf
                    simp only [List.getElem?_toArray, List.getElem?_cons_zero, List.getElem?_cons_succ, Option.some.injEq] at ho
                    subst ho
                    rw [if_pos (by rfl)]
                    have e2 : ρ (.tmp 2) = .pointer (some ⟨w.heap.size, 0, none⟩) := hf 2 (by kernel_rfl)
                    clear hd hf
                    go_simp
                    exact ⟨Gr.refl _, rfl⟩
                  rcases i with _ | i
                  · intro op ho ρ w' hC hcst hfun hglo hd hf
                    simp only [List.getElem?_toArray, List.getElem?_cons_zero, List.getElem?_cons_succ, Option.some.injEq] at ho
                    subst ho
                    rw [if_pos (by rfl)]
                    have e105 : ρ (.tmp 105) = .pointer (some ⟨w.heap.size, 6, none⟩) := hd 0 105 (by kernel_rfl)
                    obtain ⟨W2, hw2, hs3, hs4, _⟩ := plug2 (heap_gr hC (heap_plug2_fst _ _ _ _ _ hs1 (by omega))) (heap_gr hC (heap_plug2_snd _ _ _ _ _ hs2))
                    clear hd hf hC
                    subst hw2
                    go_simp
                    exact ⟨Gr.refl _, rfl⟩
                  rcases i with _ | i
                  · intro op ho ρ w' hC hcst hfun hglo hd hf
                    simp only [List.getElem?_toArray, List.getElem?_cons_zero, List.getElem?_cons_succ, Option.some.injEq] at ho
                    subst ho
                    rw [if_pos (by rfl)]
                    have e7 : ρ (.tmp 7) = .int .i64 k := hf 7 (by kernel_rfl)
                    clear hd hf
                    go_simp
                    exact ⟨Gr.refl _, rfl⟩
                  rcases i with _ | i
                  · intro op ho ρ w' hC hcst hfun hglo hd hf
                    simp only [List.getElem?_toArray, List.getElem?_cons_zero, List.getElem?_cons_succ, Option.some.injEq] at ho
                    subst ho
                    rw [if_pos (by rfl)]
                    have e106 : ρ (.tmp 106) = .slice x.C x.f.hdls.length x.cc := hd 1 106 (by kernel_rfl)
                    have e107 : ρ (.tmp 107) = .int .i64 k := hd 2 107 (by kernel_rfl)
                    rw [E1.out] at e106
                    clear hd hf
                    go_simp
                    exact ⟨Gr.refl _, rfl⟩
                  rcases i with _ | i
                  · intro op ho ρ w' hC hcst hfun hglo hd hf
                    simp only [List.getElem?_toArray, List.getElem?_cons_zero, List.getElem?_cons_succ, Option.some.injEq] at ho
                    subst ho
                    rw [if_pos (by rfl)]
                    have e108 : ρ (.tmp 108) = .pointer (some ⟨b, o + k * 5, none⟩) := hd 3 108 (by kernel_rfl)
                    have z0 := cell_gr hC (cellp2 hn1 hn2 x0)
                    have z1 := cell_gr hC (cellp2 hn1 hn2 x1)
                    have z2 := cell_gr hC (cellp2 hn1 hn2 x2)
                    have z3 := cell_gr hC (cellp2 hn1 hn2 x3)
                    have z4 := cell_gr hC (cellp2 hn1 hn2 x4)
                    clear hd hf hC
                    go_simp
                    exact ⟨Gr.refl _, rfl⟩
                  rcases i with _ | i
                  · intro op ho ρ w' hC hcst hfun hglo hd hf
                    simp only [List.getElem?_toArray, List.getElem?_cons_zero, List.getElem?_cons_succ, Option.some.injEq] at ho
                    subst ho
                    rw [if_pos (by rfl)]
                    have e3 : ρ (.tmp 3) = .pointer (some ⟨w.heap.size + 1, 0, none⟩) := hf 3 (by kernel_rfl)
                    clear hd hf
                    go_simp
                    exact ⟨Gr.refl _, rfl⟩
                  rcases i with _ | i
                  · intro op ho ρ w' hC hcst hfun hglo hd hf
                    simp only [List.getElem?_toArray, List.getElem?_cons_zero, List.getElem?_cons_succ, Option.some.injEq] at ho
                    subst ho
                    rw [if_pos (by rfl)]
                    have e110 : ρ (.tmp 110) = .pointer (some ⟨w.heap.size + 1, 6, none⟩) := hd 5 110 (by kernel_rfl)
                    obtain ⟨W2, hw2, hs3, hs4, _⟩ := plug2 (heap_gr hC (heap_plug2_fst _ _ _ _ _ hs1 (by omega))) (heap_gr hC (heap_plug2_snd _ _ _ _ _ hs2))
                    clear hd hf hC
                    subst hw2
                    go_simp
                    exact ⟨Gr.refl _, rfl⟩
                  rcases i with _ | i
                  · intro op ho ρ w' hC hcst hfun hglo hd hf
                    simp only [List.getElem?_toArray, List.getElem?_cons_zero, List.getElem?_cons_succ, Option.some.injEq] at ho
                    subst ho
                    rw [if_pos (by rfl)]
                    have e7 : ρ (.tmp 7) = .int .i64 k := hf 7 (by kernel_rfl)
                    clear hd hf
                    go_simp
                    exact ⟨Gr.refl _, rfl⟩
                  rcases i with _ | i
                  · intro op ho ρ w' hC hcst hfun hglo hd hf
                    simp only [List.getElem?_toArray, List.getElem?_cons_zero, List.getElem?_cons_succ, Option.some.injEq] at ho
                    subst ho
                    rw [if_pos (by rfl)]
                    have e111 : ρ (.tmp 111) = .slice y.C y.f.hdls.length y.cc := hd 6 111 (by kernel_rfl)
                    have e112 : ρ (.tmp 112) = .int .i64 k := hd 7 112 (by kernel_rfl)
                    rw [E2.out] at e111
                    clear hd hf
                    go_simp
                    exact ⟨Gr.refl _, rfl⟩
                  rcases i with _ | i
                  · intro op ho ρ w' hC hcst hfun hglo hd hf
                    simp only [List.getElem?_toArray, List.getElem?_cons_zero, List.getElem?_cons_succ, Option.some.injEq] at ho
                    subst ho
                    rw [if_pos (by rfl)]
                    have e113 : ρ (.tmp 113) = .pointer (some ⟨b2, o2 + k * 5, none⟩) := hd 8 113 (by kernel_rfl)
                    have z0 := cell_gr hC (cellp2 hn3 hn4 y0)
                    have z1 := cell_gr hC (cellp2 hn3 hn4 y1)
                    have z2 := cell_gr hC (cellp2 hn3 hn4 y2)
                    have z3 := cell_gr hC (cellp2 hn3 hn4 y3)
                    have z4 := cell_gr hC (cellp2 hn3 hn4 y4)
                    clear hd hf hC
                    go_simp
                    exact ⟨Gr.refl _, rfl⟩
                  rcases i with _ | i
                  · intro op ho ρ w' hC hcst hfun hglo hd hf
                    simp only [List.getElem?_toArray, List.getElem?_cons_zero, List.getElem?_cons_succ, Option.some.injEq] at ho
                    subst ho
                    rw [if_pos (by rfl)]
                    have e109 : ρ (.tmp 109) = .agg #[.int .i64 u.lo, .int .i64 u.hi, .int .i64 u.tg, .int .i64 u.dp, .int .i64 u.sc] := hd 4 109 (by kernel_rfl)
                    have e114 : ρ (.tmp 114) = .agg #[.int .i64 v.lo, .int .i64 v.hi, .int .i64 v.tg, .int .i64 v.dp, .int .i64 v.sc] := hd 9 114 (by kernel_rfl)
                    clear hd hf
                    go_simp
                    rw [hdlEq_ite, HQ.out]
                    exact ⟨Gr.refl _, rfl⟩
                  omega
                case hend =>
                  intro w1 hb1
                  have hW2 : Gr w w1 := Gr.trans (gr_plug2 hW (Nat.le_refl _) (by omega) _ _) hb1
                  have hbxa := heap_gr hb1 (heap_plug2_fst _ _ _ _ _ hs1 (by omega))
                  have hbxb := heap_gr hb1 (heap_plug2_snd _ _ _ _ _ hs2)
                  clear hb1
                  simp only [putAll, List.getElem?_toArray, List.getElem?_cons_succ, List.getElem?_cons_zero, Option.bind_some, Act.put, List.setIfInBounds_toArray, List.set_cons_succ, List.set_cons_zero, List.drop_succ_cons, List.drop_zero, List.getD_cons_zero, List.getD_cons_succ]
                  go_wp2_with fail
                  go_ret
                  exact ⟨ret_bool (body3 (all_false_at hz.out HQ.out)).symm, hW2⟩
              · have HQ := Lib.hid hq
                clear hq
                go_wp2_with fail
                refine wp_region_const 11 6 (fun i => ([.pointer (some ⟨w.heap.size, 6, none⟩), .slice x.C x.f.hdls.length x.cc, .int .i64 k, .pointer (some ⟨b, o + k * 5, none⟩), .agg #[.int .i64 u.lo, .int .i64 u.hi, .int .i64 u.tg, .int .i64 u.dp, .int .i64 u.sc], .pointer (some ⟨w.heap.size + 1, 6, none⟩), .slice y.C y.f.hdls.length y.cc, .int .i64 k, .pointer (some ⟨b2, o2 + k * 5, none⟩), .agg #[.int .i64 v.lo, .int .i64 v.hi, .int .i64 v.tg, .int .i64 v.dp, .int .i64 v.sc], .bool false] : List Value).getD i undef) (by kernel_rfl) (by kernel_rfl) (by kernel_rfl) (by decide) ?hstep ?hend
                case hstep =>
                  intro i hi
                  rcases i with _ | i
                  · intro op ho ρ w' hC hcst hfun hglo hd hf
                    simp only [List.getElem?_toArray, List.getElem?_cons_zero, List.getElem?_cons_succ, Option.some.injEq] at ho
                    subst ho
                    rw [if_pos (by rfl)]
                    have e2 : ρ (.tmp 2) = .pointer (some ⟨w.heap.size, 0, none⟩) := hf 2 (by kernel_rfl)
                    clear hd hf
                    go_simp
                    exact ⟨Gr.refl _, rfl⟩
                  rcases i with _ | i
                  · intro op ho ρ w' hC hcst hfun hglo hd hf
                    simp only [List.getElem?_toArray, List.getElem?_cons_zero, List.getElem?_cons_succ, Option.some.injEq] at ho
                    subst ho
                    rw [if_pos (by rfl)]
                    have e105 : ρ (.tmp 105) = .pointer (some ⟨w.heap.size, 6, none⟩) := hd 0 105 (by kernel_rfl)
                    obtain ⟨W2, hw2, hs3, hs4, _⟩ := plug2 (heap_gr hC (heap_plug2_fst _ _ _ _ _ hs1 (by omega))) (heap_gr hC (heap_plug2_snd _ _ _ _ _ hs2))
                    clear hd hf hC
                    subst hw2
                    go_simp
                    exact ⟨Gr.refl _, rfl⟩
                  rcases i with _ | i
                  · intro op ho ρ w' hC hcst hfun hglo hd hf
                    simp only [List.getElem?_toArray, List.getElem?_cons_zero, List.getElem?_cons_succ, Option.some.injEq] at ho
                    subst ho
                    rw [if_pos (by rfl)]
                    have e7 : ρ (.tmp 7) = .int .i64 k := hf 7 (by kernel_rfl)
                    clear hd hf
                    go_simp
                    exact ⟨Gr.refl _, rfl⟩
                  rcases i with _ | i
                  · intro op ho ρ w' hC hcst hfun hglo hd hf
                    simp only [List.getElem?_toArray, List.getElem?_cons_zero, List.getElem?_cons_succ, Option.some.injEq] at ho
                    subst ho
                    rw [if_pos (by rfl)]
                    have e106 : ρ (.tmp 106) = .slice x.C x.f.hdls.length x.cc := hd 1 106 (by kernel_rfl)
                    have e107 : ρ (.tmp 107) = .int .i64 k := hd 2 107 (by kernel_rfl)
                    rw [E1.out] at e106
                    clear hd hf
                    go_simp
                    exact ⟨Gr.refl _, rfl⟩
                  rcases i with _ | i
                  · intro op ho ρ w' hC hcst hfun hglo hd hf
                    simp only [List.getElem?_toArray, List.getElem?_cons_zero, List.getElem?_cons_succ, Option.some.injEq] at ho
                    subst ho
                    rw [if_pos (by rfl)]
                    have e108 : ρ (.tmp 108) = .pointer (some ⟨b, o + k * 5, none⟩) := hd 3 108 (by kernel_rfl)
                    have z0 := cell_gr hC (cellp2 hn1 hn2 x0)
                    have z1 := cell_gr hC (cellp2 hn1 hn2 x1)
                    have z2 := cell_gr hC (cellp2 hn1 hn2 x2)
                    have z3 := cell_gr hC (cellp2 hn1 hn2 x3)
                    have z4 := cell_gr hC (cellp2 hn1 hn2 x4)
                    clear hd hf hC
                    go_simp
                    exact ⟨Gr.refl _, rfl⟩
                  rcases i with _ | i
                  · intro op ho ρ w' hC hcst hfun hglo hd hf
                    simp only [List.getElem?_toArray, List.getElem?_cons_zero, List.getElem?_cons_succ, Option.some.injEq] at ho
                    subst ho
                    rw [if_pos (by rfl)]
                    have e3 : ρ (.tmp 3) = .pointer (some ⟨w.heap.size + 1, 0, none⟩) := hf 3 (by kernel_rfl)
                    clear hd hf
                    go_simp
                    exact ⟨Gr.refl _, rfl⟩
                  rcases i with _ | i
                  · intro op ho ρ w' hC hcst hfun hglo hd hf
                    simp only [List.getElem?_toArray, List.getElem?_cons_zero, List.getElem?_cons_succ, Option.some.injEq] at ho
                    subst ho
                    rw [if_pos (by rfl)]
                    have e110 : ρ (.tmp 110) = .pointer (some ⟨w.heap.size + 1, 6, none⟩) := hd 5 110 (by kernel_rfl)
                    obtain ⟨W2, hw2, hs3, hs4, _⟩ := plug2 (heap_gr hC (heap_plug2_fst _ _ _ _ _ hs1 (by omega))) (heap_gr hC (heap_plug2_snd _ _ _ _ _ hs2))
                    clear hd hf hC
                    subst hw2
                    go_simp
                    exact ⟨Gr.refl _, rfl⟩
                  rcases i with _ | i
                  · intro op ho ρ w' hC hcst hfun hglo hd hf
                    simp only [List.getElem?_toArray, List.getElem?_cons_zero, List.getElem?_cons_succ, Option.some.injEq] at ho
                    subst ho
                    rw [if_pos (by rfl)]
                    have e7 : ρ (.tmp 7) = .int .i64 k := hf 7 (by kernel_rfl)
                    clear hd hf
                    go_simp
                    exact ⟨Gr.refl _, rfl⟩
                  rcases i with _ | i
                  · intro op ho ρ w' hC hcst hfun hglo hd hf
                    simp only [List.getElem?_toArray, List.getElem?_cons_zero, List.getElem?_cons_succ, Option.some.injEq] at ho
                    subst ho
                    rw [if_pos (by rfl)]
                    have e111 : ρ (.tmp 111) = .slice y.C y.f.hdls.length y.cc := hd 6 111 (by kernel_rfl)
                    have e112 : ρ (.tmp 112) = .int .i64 k := hd 7 112 (by kernel_rfl)
                    rw [E2.out] at e111
                    clear hd hf
                    go_simp
                    exact ⟨Gr.refl _, rfl⟩
                  rcases i with _ | i
                  · intro op ho ρ w' hC hcst hfun hglo hd hf
                    simp only [List.getElem?_toArray, List.getElem?_cons_zero, List.getElem?_cons_succ, Option.some.injEq] at ho
                    subst ho
                    rw [if_pos (by rfl)]
                    have e113 : ρ (.tmp 113) = .pointer (some ⟨b2, o2 + k * 5, none⟩) := hd 8 113 (by kernel_rfl)
                    have z0 := cell_gr hC (cellp2 hn3 hn4 y0)
                    have z1 := cell_gr hC (cellp2 hn3 hn4 y1)
                    have z2 := cell_gr hC (cellp2 hn3 hn4 y2)
                    have z3 := cell_gr hC (cellp2 hn3 hn4 y3)
                    have z4 := cell_gr hC (cellp2 hn3 hn4 y4)
                    clear hd hf hC
                    go_simp
                    exact ⟨Gr.refl _, rfl⟩
                  rcases i with _ | i
                  · intro op ho ρ w' hC hcst hfun hglo hd hf
                    simp only [List.getElem?_toArray, List.getElem?_cons_zero, List.getElem?_cons_succ, Option.some.injEq] at ho
                    subst ho
                    rw [if_pos (by rfl)]
                    have e109 : ρ (.tmp 109) = .agg #[.int .i64 u.lo, .int .i64 u.hi, .int .i64 u.tg, .int .i64 u.dp, .int .i64 u.sc] := hd 4 109 (by kernel_rfl)
                    have e114 : ρ (.tmp 114) = .agg #[.int .i64 v.lo, .int .i64 v.hi, .int .i64 v.tg, .int .i64 v.dp, .int .i64 v.sc] := hd 9 114 (by kernel_rfl)
                    clear hd hf
                    go_simp
                    rw [hdlEq_ite, HQ.out]
                    exact ⟨Gr.refl _, rfl⟩
                  omega
                case hend =>
                  intro w1 hb1
                  have hW2 : Gr w w1 := Gr.trans (gr_plug2 hW (Nat.le_refl _) (by omega) _ _) hb1
                  have hbxa := heap_gr hb1 (heap_plug2_fst _ _ _ _ _ hs1 (by omega))
                  have hbxb := heap_gr hb1 (heap_plug2_snd _ _ _ _ _ hs2)
                  clear hb1
                  simp only [putAll, List.getElem?_toArray, List.getElem?_cons_succ, List.getElem?_cons_zero, Option.bind_some, Act.put, List.setIfInBounds_toArray, List.set_cons_succ, List.set_cons_zero, List.drop_succ_cons, List.drop_zero, List.getD_cons_zero, List.getD_cons_succ]
                  go_wp2_with fail
                  go_roundw
                  case rel => exact ⟨k + 1, by omega, by go_num, all_take_succ Hall.out hz.out HQ.out, hW2, hbxa, hbxb⟩
                  case measure => simp [intOf]; omega
            · have HC3 := Lib.hid (all_take_len Hall.out (by rw [List.length_zip, ← H3.out]; omega))
              clear Hall
              go_wp2_with fail
              go_ret
              exact ⟨ret_bool (body0 HC1.out HC2.out HC3.out).symm, gr_plug2 hW (Nat.le_refl _) (by omega) _ _⟩


theorem samefunc_any (x y : FnRef) (w : World) (wx : FnWf x) (wy : FnWf y) (hX : FnAt w x.A x.B x.C x.f) (hY : FnAt w y.A y.B y.C y.f) : SFIs x y w (fnSame x.f y.f) := by
  have F0 : ∀ r : Bool, fnSame x.f y.f = r → SFIs x y w r → SFIs x y w (fnSame x.f y.f) := fun r hr h => by rw [hr]; exact h
  by_cases h0 : (x.f.name.toList == y.f.name.toList) = true
  case neg => exact F0 false (by simp only [fnSame, headSame, eq_false_of_ne_true h0, Bool.false_and]) (sf_name x y w wx wy (by simp only [bne, eq_false_of_ne_true h0]; rfl))
  have q0 : (x.f.name.toList != y.f.name.toList) = false := by simp only [bne, h0]; rfl
  by_cases h1 : (x.f.kind == y.f.kind) = true
  case neg => exact F0 false (by simp only [fnSame, headSame, eq_false_of_ne_true h1, Bool.false_and, Bool.and_false]) (sf_kind x y w wx wy  q0 (by simp only [bne, eq_false_of_ne_true h1]; rfl))
  have q1 : (x.f.kind != y.f.kind) = false := by simp only [bne, h1]; rfl
  by_cases h2 : (x.f.params == y.f.params) = true
  case neg => exact F0 false (by simp only [fnSame, headSame, eq_false_of_ne_true h2, Bool.false_and, Bool.and_false]) (sf_params x y w wx wy  q0 q1 (by simp only [bne, eq_false_of_ne_true h2]; rfl))
  have q2 : (x.f.params != y.f.params) = false := by simp only [bne, h2]; rfl
  by_cases h3 : (x.f.locals == y.f.locals) = true
  case neg => exact F0 false (by simp only [fnSame, headSame, eq_false_of_ne_true h3, Bool.false_and, Bool.and_false]) (sf_locals x y w wx wy  q0 q1 q2 (by simp only [bne, eq_false_of_ne_true h3]; rfl))
  have q3 : (x.f.locals != y.f.locals) = false := by simp only [bne, h3]; rfl
  by_cases h4 : x.f.code.length = y.f.code.length
  case neg => exact F0 false (by simp only [fnSame, headSame, decide_eq_false h4, Bool.false_and, Bool.and_false]) (sf_code x y w wx wy  q0 q1 q2 q3 (by simp; omega))
  have q4 : ((x.f.code.length : Int) != (y.f.code.length : Int)) = false := by simp; omega
  by_cases h5 : x.f.consts.length = y.f.consts.length
  case neg => exact F0 false (by simp only [fnSame, headSame, decide_eq_false h5, Bool.false_and, Bool.and_false]) (sf_consts x y w wx wy  q0 q1 q2 q3 q4 (by simp; omega))
  have q5 : ((x.f.consts.length : Int) != (y.f.consts.length : Int)) = false := by simp; omega
  by_cases h6 : x.f.hdls.length = y.f.hdls.length
  case neg => exact F0 false (by simp only [fnSame, headSame, decide_eq_false h6, Bool.false_and, Bool.and_false]) (sf_hdls x y w wx wy  q0 q1 q2 q3 q4 q5 (by simp; omega))
  have q6 : ((x.f.hdls.length : Int) != (y.f.hdls.length : Int)) = false := by simp; omega
  exact F0 (bodySame x.f y.f) (by simp only [fnSame, headSame, h0, h1, h2, h3, decide_eq_true h4, decide_eq_true h5, decide_eq_true h6, Bool.true_and]) (sf_body x y w wx wy  q0 q1 q2 q3 q4 q5 q6 hX hY)
theorem samefunc_eq (x y : FnRef) (w : World) (q : Bool) (hq : fnSame x.f y.f = q) (wx : FnWf x) (wy : FnWf y) (hX : FnAt w x.A x.B x.C x.f) (hY : FnAt w y.A y.B y.C y.f) :
    Calls Tryd.prog 42 #[.agg #[.string x.f.name, .int .i64 x.f.kind, .int .i64 x.f.params, .int .i64 x.f.locals, .slice x.A x.f.code.length x.ca, .slice x.B x.f.consts.length x.cb, .slice x.C x.f.hdls.length x.cc], .agg #[.string y.f.name, .int .i64 y.f.kind, .int .i64 y.f.params, .int .i64 y.f.locals, .slice y.A y.f.code.length y.ca, .slice y.B y.f.consts.length y.cb, .slice y.C y.f.hdls.length y.cc]] w fun e w' => e = .returned (.bool q) ∧ Gr w w' := by
  subst hq; exact samefunc_any x y w wx wy hX hY
end Go.Proofs.YtlffpgjkhehdmaaDoor

/- Own work: knapsackref27.Same. -/
namespace Go.Proofs.YtlffpgjkhehdmaaDoor
open Go.RowKit
set_option linter.unusedVariables false
set_option linter.unusedSimpArgs false

def refSame (x y : FnRef) : Bool := fnSame x.f y.f
def progSame (xs ys : List FnRef) : Bool := listEq refSame xs ys

set_option maxHeartbeats 2000000 in
set_option maxRecDepth 100000 in
theorem RSame_any (A B : Option Addr) (c d : Nat) (xs ys : List FnRef) (w : World) (hA : ProgAt w A xs) (hB : ProgAt w B ys) (hx : xs.length ≤ 1000000) (hy : ys.length ≤ 1000000) :
    Calls Tryd.prog 23 #[.agg #[.slice A xs.length c], .agg #[.slice B ys.length d]] w fun e w' => e = .returned (.bool (progSame xs ys)) ∧ Gr w w' := by
  have HA := Lib.hid hA
  have HB := Lib.hid hB
  clear hA hB
  by_cases hn : xs.length = ys.length
  case neg =>
    have hne : ((xs.length : Int) != (ys.length : Int)) = true := by simp; omega
    have hfin : progSame xs ys = false := by simp [progSame, listEq, hn]
    rw [hfin]
    clear hn
    go_enter Tryd.func23, Tryd.ntmps23
    go_wp2_with fail
    go_ret
    exact ⟨rfl, gr_alloc2 _ _ _⟩
  have hne : ((xs.length : Int) != (ys.length : Int)) = false := by simp; omega
  have hfin : progSame xs ys = all2 refSame xs ys := by simp [progSame, listEq, hn]
  rw [hfin]
  have Hn := Lib.hid hn
  clear hfin hn
  go_enter Tryd.func23, Tryd.ntmps23
  go_wp2_with fail
  go_loopw [5] (LoopRel2 w w.heap.size (w.heap.size + 1) (progBox A xs.length c) (progBox B ys.length d) xs.length (fun k => ((xs.zip ys).take k).all (fun q => refSame q.1 q.2) = true)) (fun i _ => xs.length - (intOf i).toNat)
  case atStart => exact ⟨0, Nat.zero_le _, rfl, rfl, gr_alloc2 _ _ _, heap_alloc2_old _ _ _, heap_alloc2_new _ _ _⟩
  case round =>
    obtain ⟨k, hk, rfl, hall, hgr, hbx1, hbx2⟩ := hrel
    obtain ⟨W1, hw1, hs1, hs2, hW⟩ := plug2 hbx1 hbx2
    replace hW := hgr.trans hW
    clear hgr hbx1 hbx2
    unfold progBox at hw1
    subst hw1
    have Hall := Lib.hid hall
    clear hall
    by_cases hlt : k < xs.length
    · have hlt2 : k < ys.length := by rw [← Hn.out]; exact hlt
      obtain ⟨b, o, e1, hc1⟩ := HA.out.sl k xs[k] (List.getElem?_eq_getElem hlt)
      obtain ⟨b2, o2, e2, hc2⟩ := HB.out.sl k ys[k] (List.getElem?_eq_getElem hlt2)
      have hx1 : xs[k]? = some xs[k] := List.getElem?_eq_getElem hlt
      have hy1 : ys[k]? = some ys[k] := List.getElem?_eq_getElem hlt2
      have FU := Lib.hid (HA.out.fns _ (List.mem_of_getElem? hx1))
      have WU := Lib.hid (HA.out.wf _ (List.mem_of_getElem? hx1))
      have FV := Lib.hid (HB.out.fns _ (List.mem_of_getElem? hy1))
      have WV := Lib.hid (HB.out.wf _ (List.mem_of_getElem? hy1))
      have hz := Lib.hid (zip_at hx1 hy1)
      clear hx1 hy1
      generalize xs[k] = u at hc1 hz FU WU
      generalize ys[k] = v at hc2 hz FV WV
      have x0 := cell_gr hW (hc1 0 _ rfl)
      have y0 := cell_gr hW (hc2 0 _ rfl)
      have x1 := cell_gr hW (hc1 1 _ rfl)
      have y1 := cell_gr hW (hc2 1 _ rfl)
      have x2 := cell_gr hW (hc1 2 _ rfl)
      have y2 := cell_gr hW (hc2 2 _ rfl)
      have x3 := cell_gr hW (hc1 3 _ rfl)
      have y3 := cell_gr hW (hc2 3 _ rfl)
      have x4 := cell_gr hW (hc1 4 _ rfl)
      have y4 := cell_gr hW (hc2 4 _ rfl)
      have x5 := cell_gr hW (hc1 5 _ rfl)
      have y5 := cell_gr hW (hc2 5 _ rfl)
      have x6 := cell_gr hW (hc1 6 _ rfl)
      have y6 := cell_gr hW (hc2 6 _ rfl)
      have hbl1 : b < w.heap.size := block_lt_of_cell (hc1 0 _ rfl)
      have hbl2 : b2 < w.heap.size := block_lt_of_cell (hc2 0 _ rfl)
      have hn1 : ¬ b = w.heap.size := by omega
      have hn2 : ¬ b = w.heap.size + 1 := by omega
      have hn3 : ¬ b2 = w.heap.size := by omega
      have hn4 : ¬ b2 = w.heap.size + 1 := by omega
      rw [← Nat.add_assoc] at x0 y0 x1 y1 x2 y2 x3 y3 x4 y4 x5 y5 x6 y6
      rw [Nat.add_zero] at x0 y0
      have E1 := Lib.hid e1
      have E2 := Lib.hid e2
      clear hc1 hc2 e1 e2
      cases hq : fnSame u.f v.f
      · have HQ := Lib.hid hq
        clear hq
        go_wp2_with fail
        refine wp_region_const 12 6 (fun i => ([.pointer (some ⟨w.heap.size, 0, none⟩), .slice A xs.length c, .int .i64 k, .pointer (some ⟨b, o + k * 7, none⟩), .agg #[.string u.f.name, .int .i64 u.f.kind, .int .i64 u.f.params, .int .i64 u.f.locals, .slice u.A u.f.code.length u.ca, .slice u.B u.f.consts.length u.cb, .slice u.C u.f.hdls.length u.cc], .pointer (some ⟨w.heap.size + 1, 0, none⟩), .slice B ys.length d, .int .i64 k, .pointer (some ⟨b2, o2 + k * 7, none⟩), .agg #[.string v.f.name, .int .i64 v.f.kind, .int .i64 v.f.params, .int .i64 v.f.locals, .slice v.A v.f.code.length v.ca, .slice v.B v.f.consts.length v.cb, .slice v.C v.f.hdls.length v.cc], .bool false, .bool true] : List Value).getD i undef) (by kernel_rfl) (by kernel_rfl) (by kernel_rfl) (by decide) ?hstep ?hend
        case hstep =>
          intro i hi
          rcases i with _ | i
          · intro op ho ρ w' hC hcst hfun hglo hd hf
            simp only [List.getElem?_toArray, List.getElem?_cons_zero, List.getElem?_cons_succ, Option.some.injEq] at ho
            subst ho
            rw [if_pos (by rfl)]
            have e2 : ρ (.tmp 2) = .pointer (some ⟨w.heap.size, 0, none⟩) := hf 2 (by kernel_rfl)
            clear hd hf
            go_simp
            exact ⟨Gr.refl _, rfl⟩
          rcases i with _ | i
          · intro op ho ρ w' hC hcst hfun hglo hd hf
            simp only [List.getElem?_toArray, List.getElem?_cons_zero, List.getElem?_cons_succ, Option.some.injEq] at ho
            subst ho
            rw [if_pos (by rfl)]
            have e20 : ρ (.tmp 20) = .pointer (some ⟨w.heap.size, 0, none⟩) := hd 0 20 (by kernel_rfl)
            obtain ⟨W2, hw2, hs3, hs4, _⟩ := plug2 (heap_gr hC (heap_plug2_fst _ _ _ _ _ hs1 (by omega))) (heap_gr hC (heap_plug2_snd _ _ _ _ _ hs2))
            clear hd hf hC
            subst hw2
            go_simp
            exact ⟨Gr.refl _, rfl⟩
          rcases i with _ | i
          · intro op ho ρ w' hC hcst hfun hglo hd hf
            simp only [List.getElem?_toArray, List.getElem?_cons_zero, List.getElem?_cons_succ, Option.some.injEq] at ho
            subst ho
            rw [if_pos (by rfl)]
            have e5 : ρ (.tmp 5) = .int .i64 k := hf 5 (by kernel_rfl)
            clear hd hf
            go_simp
            exact ⟨Gr.refl _, rfl⟩
          rcases i with _ | i
          · intro op ho ρ w' hC hcst hfun hglo hd hf
            simp only [List.getElem?_toArray, List.getElem?_cons_zero, List.getElem?_cons_succ, Option.some.injEq] at ho
            subst ho
            rw [if_pos (by rfl)]
            have e21 : ρ (.tmp 21) = .slice A xs.length c := hd 1 21 (by kernel_rfl)
            have e22 : ρ (.tmp 22) = .int .i64 k := hd 2 22 (by kernel_rfl)
            rw [E1.out] at e21
            clear hd hf
            go_simp
            exact ⟨Gr.refl _, rfl⟩
          rcases i with _ | i
          · intro op ho ρ w' hC hcst hfun hglo hd hf
            simp only [List.getElem?_toArray, List.getElem?_cons_zero, List.getElem?_cons_succ, Option.some.injEq] at ho
            subst ho
            rw [if_pos (by rfl)]
            have e23 : ρ (.tmp 23) = .pointer (some ⟨b, o + k * 7, none⟩) := hd 3 23 (by kernel_rfl)
            have z0 := cell_gr hC (cellp2 hn1 hn2 x0)
            have z1 := cell_gr hC (cellp2 hn1 hn2 x1)
            have z2 := cell_gr hC (cellp2 hn1 hn2 x2)
            have z3 := cell_gr hC (cellp2 hn1 hn2 x3)
            have z4 := cell_gr hC (cellp2 hn1 hn2 x4)
            have z5 := cell_gr hC (cellp2 hn1 hn2 x5)
            have z6 := cell_gr hC (cellp2 hn1 hn2 x6)
            clear hd hf hC
            go_simp
            exact ⟨Gr.refl _, rfl⟩
          rcases i with _ | i
          · intro op ho ρ w' hC hcst hfun hglo hd hf
            simp only [List.getElem?_toArray, List.getElem?_cons_zero, List.getElem?_cons_succ, Option.some.injEq] at ho
            subst ho
            rw [if_pos (by rfl)]
            have e3 : ρ (.tmp 3) = .pointer (some ⟨w.heap.size + 1, 0, none⟩) := hf 3 (by kernel_rfl)
            clear hd hf
            go_simp
            exact ⟨Gr.refl _, rfl⟩
          rcases i with _ | i
          · intro op ho ρ w' hC hcst hfun hglo hd hf
            simp only [List.getElem?_toArray, List.getElem?_cons_zero, List.getElem?_cons_succ, Option.some.injEq] at ho
            subst ho
            rw [if_pos (by rfl)]
            have e25 : ρ (.tmp 25) = .pointer (some ⟨w.heap.size + 1, 0, none⟩) := hd 5 25 (by kernel_rfl)
            obtain ⟨W2, hw2, hs3, hs4, _⟩ := plug2 (heap_gr hC (heap_plug2_fst _ _ _ _ _ hs1 (by omega))) (heap_gr hC (heap_plug2_snd _ _ _ _ _ hs2))
            clear hd hf hC
            subst hw2
            go_simp
            exact ⟨Gr.refl _, rfl⟩
          rcases i with _ | i
          · intro op ho ρ w' hC hcst hfun hglo hd hf
            simp only [List.getElem?_toArray, List.getElem?_cons_zero, List.getElem?_cons_succ, Option.some.injEq] at ho
            subst ho
            rw [if_pos (by rfl)]
            have e5 : ρ (.tmp 5) = .int .i64 k := hf 5 (by kernel_rfl)
            clear hd hf
            go_simp
            exact ⟨Gr.refl _, rfl⟩
          rcases i with _ | i
          · intro op ho ρ w' hC hcst hfun hglo hd hf
            simp only [List.getElem?_toArray, List.getElem?_cons_zero, List.getElem?_cons_succ, Option.some.injEq] at ho
            subst ho
            rw [if_pos (by rfl)]
            have e26 : ρ (.tmp 26) = .slice B ys.length d := hd 6 26 (by kernel_rfl)
            have e27 : ρ (.tmp 27) = .int .i64 k := hd 7 27 (by kernel_rfl)
            rw [E2.out] at e26
            clear hd hf
            go_simp
            exact ⟨Gr.refl _, rfl⟩
          rcases i with _ | i
          · intro op ho ρ w' hC hcst hfun hglo hd hf
            simp only [List.getElem?_toArray, List.getElem?_cons_zero, List.getElem?_cons_succ, Option.some.injEq] at ho
            subst ho
            rw [if_pos (by rfl)]
            have e28 : ρ (.tmp 28) = .pointer (some ⟨b2, o2 + k * 7, none⟩) := hd 8 28 (by kernel_rfl)
            have z0 := cell_gr hC (cellp2 hn3 hn4 y0)
            have z1 := cell_gr hC (cellp2 hn3 hn4 y1)
            have z2 := cell_gr hC (cellp2 hn3 hn4 y2)
            have z3 := cell_gr hC (cellp2 hn3 hn4 y3)
            have z4 := cell_gr hC (cellp2 hn3 hn4 y4)
            have z5 := cell_gr hC (cellp2 hn3 hn4 y5)
            have z6 := cell_gr hC (cellp2 hn3 hn4 y6)
            clear hd hf hC
            go_simp
            exact ⟨Gr.refl _, rfl⟩
          rcases i with _ | i
          · intro op ho ρ w' hC hcst hfun hglo hd hf
            simp only [List.getElem?_toArray, List.getElem?_cons_zero, List.getElem?_cons_succ, Option.some.injEq] at ho
            subst ho
            rw [if_pos (by rfl)]
            have e24 : ρ (.tmp 24) = .agg #[.string u.f.name, .int .i64 u.f.kind, .int .i64 u.f.params, .int .i64 u.f.locals, .slice u.A u.f.code.length u.ca, .slice u.B u.f.consts.length u.cb, .slice u.C u.f.hdls.length u.cc] := hd 4 24 (by kernel_rfl)
            have e29 : ρ (.tmp 29) = .agg #[.string v.f.name, .int .i64 v.f.kind, .int .i64 v.f.params, .int .i64 v.f.locals, .slice v.A v.f.code.length v.ca, .slice v.B v.f.consts.length v.cb, .slice v.C v.f.hdls.length v.cc] := hd 9 29 (by kernel_rfl)
            clear hd hf
            go_simp
            rw [growUpon_enter]
            refine (samefunc_eq u v _ false HQ.out WU.out WV.out (FU.out.gr (Gr.trans (gr_plug2 hW (Nat.le_refl _) (by omega) _ _) hC)) (FV.out.gr (Gr.trans (gr_plug2 hW (Nat.le_refl _) (by omega) _ _) hC))).mono ?_
            rintro e w1 ⟨rfl, hb1⟩
            exact ⟨_, rfl, hb1, rfl⟩
          rcases i with _ | i
          · intro op ho ρ w' hC hcst hfun hglo hd hf
            simp only [List.getElem?_toArray, List.getElem?_cons_zero, List.getElem?_cons_succ, Option.some.injEq] at ho
            subst ho
            rw [if_pos (by rfl)]
            have e30 : ρ (.tmp 30) = .bool false := hd 10 30 (by kernel_rfl)
            clear hd hf
            go_simp
            exact ⟨Gr.refl _, rfl⟩
          omega
        case hend =>
          intro w1 hb1
          have hW2 : Gr w w1 := Gr.trans (gr_plug2 hW (Nat.le_refl _) (by omega) _ _) hb1
          have hbxa := heap_gr hb1 (heap_plug2_fst _ _ _ _ _ hs1 (by omega))
          have hbxb := heap_gr hb1 (heap_plug2_snd _ _ _ _ _ hs2)
          clear hb1
          simp only [putAll, List.getElem?_toArray, List.getElem?_cons_succ, List.getElem?_cons_zero, Option.bind_some, Act.put, List.setIfInBounds_toArray, List.set_cons_succ, List.set_cons_zero, List.drop_succ_cons, List.drop_zero, List.getD_cons_zero, List.getD_cons_succ]
          go_wp2_with fail
          go_ret
          exact ⟨ret_bool (all_false_at hz.out HQ.out).symm, hW2⟩
      · have HQ := Lib.hid hq
        clear hq
        go_wp2_with fail
        refine wp_region_const 12 6 (fun i => ([.pointer (some ⟨w.heap.size, 0, none⟩), .slice A xs.length c, .int .i64 k, .pointer (some ⟨b, o + k * 7, none⟩), .agg #[.string u.f.name, .int .i64 u.f.kind, .int .i64 u.f.params, .int .i64 u.f.locals, .slice u.A u.f.code.length u.ca, .slice u.B u.f.consts.length u.cb, .slice u.C u.f.hdls.length u.cc], .pointer (some ⟨w.heap.size + 1, 0, none⟩), .slice B ys.length d, .int .i64 k, .pointer (some ⟨b2, o2 + k * 7, none⟩), .agg #[.string v.f.name, .int .i64 v.f.kind, .int .i64 v.f.params, .int .i64 v.f.locals, .slice v.A v.f.code.length v.ca, .slice v.B v.f.consts.length v.cb, .slice v.C v.f.hdls.length v.cc], .bool true, .bool false] : List Value).getD i undef) (by kernel_rfl) (by kernel_rfl) (by kernel_rfl) (by decide) ?hstep ?hend
        case hstep =>
          intro i hi
          rcases i with _ | i
          · intro op ho ρ w' hC hcst hfun hglo hd hf
            simp only [List.getElem?_toArray, List.getElem?_cons_zero, List.getElem?_cons_succ, Option.some.injEq] at ho
            subst ho
            rw [if_pos (by rfl)]
            have e2 : ρ (.tmp 2) = .pointer (some ⟨w.heap.size, 0, none⟩) := hf 2 (by kernel_rfl)
            clear hd hf
            go_simp
            exact ⟨Gr.refl _, rfl⟩
          rcases i with _ | i
          · intro op ho ρ w' hC hcst hfun hglo hd hf
            simp only [List.getElem?_toArray, List.getElem?_cons_zero, List.getElem?_cons_succ, Option.some.injEq] at ho
            subst ho
            rw [if_pos (by rfl)]
            have e20 : ρ (.tmp 20) = .pointer (some ⟨w.heap.size, 0, none⟩) := hd 0 20 (by kernel_rfl)
            obtain ⟨W2, hw2, hs3, hs4, _⟩ := plug2 (heap_gr hC (heap_plug2_fst _ _ _ _ _ hs1 (by omega))) (heap_gr hC (heap_plug2_snd _ _ _ _ _ hs2))
            clear hd hf hC
            subst hw2
            go_simp
            exact ⟨Gr.refl _, rfl⟩
          rcases i with _ | i
          · intro op ho ρ w' hC hcst hfun hglo hd hf
            simp only [List.getElem?_toArray, List.getElem?_cons_zero, List.getElem?_cons_succ, Option.some.injEq] at ho
            subst ho
            rw [if_pos (by rfl)]
            have e5 : ρ (.tmp 5) = .int .i64 k := hf 5 (by kernel_rfl)
            clear hd hf
            go_simp
            exact ⟨Gr.refl _, rfl⟩
          rcases i with _ | i
          · intro op ho ρ w' hC hcst hfun hglo hd hf
            simp only [List.getElem?_toArray, List.getElem?_cons_zero, List.getElem?_cons_succ, Option.some.injEq] at ho
            subst ho
            rw [if_pos (by rfl)]
            have e21 : ρ (.tmp 21) = .slice A xs.length c := hd 1 21 (by kernel_rfl)
            have e22 : ρ (.tmp 22) = .int .i64 k := hd 2 22 (by kernel_rfl)
            rw [E1.out] at e21
            clear hd hf
            go_simp
            exact ⟨Gr.refl _, rfl⟩
          rcases i with _ | i
          · intro op ho ρ w' hC hcst hfun hglo hd hf
            simp only [List.getElem?_toArray, List.getElem?_cons_zero, List.getElem?_cons_succ, Option.some.injEq] at ho
            subst ho
            rw [if_pos (by rfl)]
            have e23 : ρ (.tmp 23) = .pointer (some ⟨b, o + k * 7, none⟩) := hd 3 23 (by kernel_rfl)
            have z0 := cell_gr hC (cellp2 hn1 hn2 x0)
            have z1 := cell_gr hC (cellp2 hn1 hn2 x1)
            have z2 := cell_gr hC (cellp2 hn1 hn2 x2)
            have z3 := cell_gr hC (cellp2 hn1 hn2 x3)
            have z4 := cell_gr hC (cellp2 hn1 hn2 x4)
            have z5 := cell_gr hC (cellp2 hn1 hn2 x5)
            have z6 := cell_gr hC (cellp2 hn1 hn2 x6)
            clear hd hf hC
            go_simp
            exact ⟨Gr.refl _, rfl⟩
          rcases i with _ | i
          · intro op ho ρ w' hC hcst hfun hglo hd hf
            simp only [List.getElem?_toArray, List.getElem?_cons_zero, List.getElem?_cons_succ, Option.some.injEq] at ho
            subst ho
            rw [if_pos (by rfl)]
            have e3 : ρ (.tmp 3) = .pointer (some ⟨w.heap.size + 1, 0, none⟩) := hf 3 (by kernel_rfl)
            clear hd hf
            go_simp
            exact ⟨Gr.refl _, rfl⟩
          rcases i with _ | i
          · intro op ho ρ w' hC hcst hfun hglo hd hf
            simp only [List.getElem?_toArray, List.getElem?_cons_zero, List.getElem?_cons_succ, Option.some.injEq] at ho
            subst ho
            rw [if_pos (by rfl)]
            have e25 : ρ (.tmp 25) = .pointer (some ⟨w.heap.size + 1, 0, none⟩) := hd 5 25 (by kernel_rfl)
            obtain ⟨W2, hw2, hs3, hs4, _⟩ := plug2 (heap_gr hC (heap_plug2_fst _ _ _ _ _ hs1 (by omega))) (heap_gr hC (heap_plug2_snd _ _ _ _ _ hs2))
            clear hd hf hC
            subst hw2
            go_simp
            exact ⟨Gr.refl _, rfl⟩
          rcases i with _ | i
          · intro op ho ρ w' hC hcst hfun hglo hd hf
            simp only [List.getElem?_toArray, List.getElem?_cons_zero, List.getElem?_cons_succ, Option.some.injEq] at ho
            subst ho
            rw [if_pos (by rfl)]
            have e5 : ρ (.tmp 5) = .int .i64 k := hf 5 (by kernel_rfl)
            clear hd hf
            go_simp
            exact ⟨Gr.refl _, rfl⟩
          rcases i with _ | i
          · intro op ho ρ w' hC hcst hfun hglo hd hf
            simp only [List.getElem?_toArray, List.getElem?_cons_zero, List.getElem?_cons_succ, Option.some.injEq] at ho
            subst ho
            rw [if_pos (by rfl)]
            have e26 : ρ (.tmp 26) = .slice B ys.length d := hd 6 26 (by kernel_rfl)
            have e27 : ρ (.tmp 27) = .int .i64 k := hd 7 27 (by kernel_rfl)
            rw [E2.out] at e26
            clear hd hf
            go_simp
            exact ⟨Gr.refl _, rfl⟩
          rcases i with _ | i
          · intro op ho ρ w' hC hcst hfun hglo hd hf
            simp only [List.getElem?_toArray, List.getElem?_cons_zero, List.getElem?_cons_succ, Option.some.injEq] at ho
            subst ho
            rw [if_pos (by rfl)]
            have e28 : ρ (.tmp 28) = .pointer (some ⟨b2, o2 + k * 7, none⟩) := hd 8 28 (by kernel_rfl)
            have z0 := cell_gr hC (cellp2 hn3 hn4 y0)
            have z1 := cell_gr hC (cellp2 hn3 hn4 y1)
            have z2 := cell_gr hC (cellp2 hn3 hn4 y2)
            have z3 := cell_gr hC (cellp2 hn3 hn4 y3)
            have z4 := cell_gr hC (cellp2 hn3 hn4 y4)
            have z5 := cell_gr hC (cellp2 hn3 hn4 y5)
            have z6 := cell_gr hC (cellp2 hn3 hn4 y6)
            clear hd hf hC
            go_simp
            exact ⟨Gr.refl _, rfl⟩
          rcases i with _ | i
          · intro op ho ρ w' hC hcst hfun hglo hd hf
            simp only [List.getElem?_toArray, List.getElem?_cons_zero, List.getElem?_cons_succ, Option.some.injEq] at ho
            subst ho
            rw [if_pos (by rfl)]
            have e24 : ρ (.tmp 24) = .agg #[.string u.f.name, .int .i64 u.f.kind, .int .i64 u.f.params, .int .i64 u.f.locals, .slice u.A u.f.code.length u.ca, .slice u.B u.f.consts.length u.cb, .slice u.C u.f.hdls.length u.cc] := hd 4 24 (by kernel_rfl)
            have e29 : ρ (.tmp 29) = .agg #[.string v.f.name, .int .i64 v.f.kind, .int .i64 v.f.params, .int .i64 v.f.locals, .slice v.A v.f.code.length v.ca, .slice v.B v.f.consts.length v.cb, .slice v.C v.f.hdls.length v.cc] := hd 9 29 (by kernel_rfl)
            clear hd hf
            go_simp
            rw [growUpon_enter]
            refine (samefunc_eq u v _ true HQ.out WU.out WV.out (FU.out.gr (Gr.trans (gr_plug2 hW (Nat.le_refl _) (by omega) _ _) hC)) (FV.out.gr (Gr.trans (gr_plug2 hW (Nat.le_refl _) (by omega) _ _) hC))).mono ?_
            rintro e w1 ⟨rfl, hb1⟩
            exact ⟨_, rfl, hb1, rfl⟩
          rcases i with _ | i
          · intro op ho ρ w' hC hcst hfun hglo hd hf
            simp only [List.getElem?_toArray, List.getElem?_cons_zero, List.getElem?_cons_succ, Option.some.injEq] at ho
            subst ho
            rw [if_pos (by rfl)]
            have e30 : ρ (.tmp 30) = .bool true := hd 10 30 (by kernel_rfl)
            clear hd hf
            go_simp
            exact ⟨Gr.refl _, rfl⟩
          omega
        case hend =>
          intro w1 hb1
          have hW2 : Gr w w1 := Gr.trans (gr_plug2 hW (Nat.le_refl _) (by omega) _ _) hb1
          have hbxa := heap_gr hb1 (heap_plug2_fst _ _ _ _ _ hs1 (by omega))
          have hbxb := heap_gr hb1 (heap_plug2_snd _ _ _ _ _ hs2)
          clear hb1
          simp only [putAll, List.getElem?_toArray, List.getElem?_cons_succ, List.getElem?_cons_zero, Option.bind_some, Act.put, List.setIfInBounds_toArray, List.set_cons_succ, List.set_cons_zero, List.drop_succ_cons, List.drop_zero, List.getD_cons_zero, List.getD_cons_succ]
          go_wp2_with fail
          go_roundw
          case rel => exact ⟨k + 1, by omega, by go_num, all_take_succ Hall.out hz.out HQ.out, hW2, hbxa, hbxb⟩
          case measure => simp [intOf]; omega
    · go_wp2_with fail
      go_ret
      exact ⟨ret_bool (all_take_len Hall.out (by rw [List.length_zip, ← Hn.out]; omega)).symm, gr_plug2 hW (Nat.le_refl _) (by omega) _ _⟩
theorem RSame_eq (A B : Option Addr) (c d : Nat) (xs ys : List FnRef) (w : World) (q : Bool) (hq : progSame xs ys = q) (hA : ProgAt w A xs) (hB : ProgAt w B ys) (hx : xs.length ≤ 1000000) (hy : ys.length ≤ 1000000) :
    Calls Tryd.prog 23 #[.agg #[.slice A xs.length c], .agg #[.slice B ys.length d]] w fun e w' => e = .returned (.bool q) ∧ Gr w w' := by
  subst hq; exact RSame_any A B c d xs ys w hA hB hx hy
end Go.Proofs.YtlffpgjkhehdmaaDoor

/- Own work: Formed, Few and Same as contracts over data. -/
namespace Go.Proofs.YtlffpgjkhehdmaaDoor
open Go.RowKit
set_option maxRecDepth 100000

def progF (fs : List Fn) : Bool := fs.all (fun f => formedB f fs.length) && decide ((fs.length : Int) ≤ 4096)
theorem progF_map (rs : List FnRef) : progF (rs.map (·.f)) = progB rs := by
  unfold progF progB
  rw [List.all_map, List.length_map]
  rfl
def fewFn (f : Fn) : Bool := decide (f.name.size ≤ 40) && (decide (f.code.length ≤ 80) && (decide (f.consts.length ≤ 20) && (decide (f.hdls.length ≤ 10) && f.consts.all fewC)))
def fewP (fs : List Fn) (n : Int) : Bool := decide ((fs.length : Int) ≤ n) && fs.all fewFn
theorem fewP_map (rs : List FnRef) (n : Int) : fewP (rs.map (·.f)) n = fewB rs n := by
  unfold fewP fewB
  rw [List.all_map, List.length_map]
  rfl
def sameP (xs ys : List Fn) : Bool := listEq fnSame xs ys
theorem all2_map {α β : Type} (p : β → β → Bool) (g : α → β) : ∀ xs ys : List α, all2 p (xs.map g) (ys.map g) = all2 (fun x y => p (g x) (g y)) xs ys := by
  intro xs ys
  unfold all2
  rw [List.zip_map, List.all_map]
  rfl
theorem sameP_map (xs ys : List FnRef) : sameP (xs.map (·.f)) (ys.map (·.f)) = progSame xs ys := by
  unfold sameP progSame listEq
  rw [List.length_map, List.length_map, all2_map]
  rfl
/-- a contract that answers a truth value of a program -/
theorem ret_prog {f : FuncId} {fn : Func} (hf : Tryd.prog.funcs[f]? = some fn) (hb : fn.body.isSome = true) (hn : (fn.name == "runtime.NumGoroutine") = false) (fs : List Fn) (hw : ∀ f ∈ fs, FnSz f) (q : Bool)
    (h : ∀ w A c rs, Tabs w → ProgAt w A rs → rs.map (·.f) = fs → Calls Tryd.prog f #[.agg #[.slice A rs.length c]] w fun e w' => e = .returned (.bool q) ∧ Gr w w') : RT f [pProg fs] (pB q) :=
  ⟨enters hf hb hn, fun w B args hG hl hr => by
    match args, hl with
    | [v], _ =>
      obtain ⟨A, c, rs, rfl, hm, hP⟩ := prog_of (hr 0 _ v rfl rfl) hw
      exact (h w A c rs hG hP hm).mono fun e w' ⟨h1, h2⟩ => ⟨h2, by rw [h1]; exact .ret (.v _)⟩⟩
theorem formed_ret (fs : List Fn) (hw : ∀ f ∈ fs, FnSz f) (hn : fs.length ≤ 1000000) : RT 36 [pProg fs] (pB (progF fs)) :=
  ret_prog Tryd.func36 (by kernel_rfl) (by kernel_rfl) fs hw _ fun w A c rs hT hP hm => by
    subst hm
    rw [progF_map]
    exact Formed_any A c rs w hT hP (by simpa using hn)
theorem rformed_ret (fs : List Fn) (hw : ∀ f ∈ fs, FnSz f) (hn : fs.length ≤ 1000000) : RT 21 [pProg fs] (pB (progF fs)) :=
  ret_prog Tryd.func21 (by kernel_rfl) (by kernel_rfl) fs hw _ fun w A c rs hT hP hm => by
    subst hm
    rw [progF_map]
    exact RFormed_any A c rs w hP (by simpa using hn)
theorem few_ret (fs : List Fn) (hw : ∀ f ∈ fs, FnSz f) (n : Int) (hn : n ≤ 100) : RT 20 [pProg fs, pI n] (pB (fewP fs n)) :=
  ⟨enters Tryd.func20 (by kernel_rfl) (by kernel_rfl), fun w B args hG hl hr => by
    match args, hl with
    | [v, u], _ =>
      obtain ⟨A, c, rs, rfl, hm, hP⟩ := prog_of (hr 0 _ v rfl rfl) hw
      have h2 := hr 1 _ u rfl rfl
      cases h2
      subst hm
      rw [fewP_map]
      exact (few_any A c rs n w hP hn).mono fun e w' ⟨h1, h2⟩ => ⟨h2, by rw [h1]; exact .ret (.v _)⟩⟩
theorem same_ret (xs ys : List Fn) (hx : ∀ f ∈ xs, FnSz f) (hy : ∀ f ∈ ys, FnSz f) (nx : xs.length ≤ 1000000) (ny : ys.length ≤ 1000000) : RT 23 [pProg xs, pProg ys] (pB (sameP xs ys)) :=
  ⟨enters Tryd.func23 (by kernel_rfl) (by kernel_rfl), fun w B args hG hl hr => by
    match args, hl with
    | [v, u], _ =>
      obtain ⟨A, c, rs, rfl, hm, hP⟩ := prog_of (hr 0 _ v rfl rfl) hx
      obtain ⟨A', c', rs', rfl, hm', hP'⟩ := prog_of (hr 1 _ u rfl rfl) hy
      subst hm hm'
      rw [sameP_map]
      exact (RSame_any A A' c c' rs rs' w hP hP' (by simpa using nx) (by simpa using ny)).mono fun e w' ⟨h1, h2⟩ => ⟨h2, by rw [h1]; exact .ret (.v _)⟩⟩
end Go.Proofs.YtlffpgjkhehdmaaDoor
