/- Own work: bytecode.fits. -/
import Derived.Test.YtlffpgjkhehdmaaDoorDescribe2
import Derived.Test.YtlffpgjkhehdmaaDoorData
namespace Go.Proofs.YtlffpgjkhehdmaaDoor
open Go.RowKit
set_option linter.unusedVariables false
set_option linter.unusedSimpArgs false

def kindAt (cs : List Cst) (a : Int) : Int := ((cs[a.toNat]?).map (·.kind)).getD 0
/-- the operand A, by its kind -/
def argOk (f : Fn) (funcs k a b : Int) : Bool :=
  if k = 1 then betw a 0 ((f.consts.length : Int) - 1)
  else if k = 2 then betw a 0 ((f.consts.length : Int) - 1) && (kindAt f.consts a == 2)
  else if k = 3 then betw a 0 (f.locals - 1)
  else if k = 4 then betw a 0 10000 && betw b 0 10000
  else if k = 5 then betw a 0 (funcs - 1)
  else if k = 6 then betw a 0 10000
  else if k = 7 then betw a 0 ((f.code.length : Int) - 1)
  else if k = 8 then betw a 1 4
  else if k = 9 then betw a 6 20
  else a == 0
def fitsB (f : Fn) (funcs : Int) (x : Ins) : Bool :=
  decide (1 ≤ x.op ∧ x.op ≤ 53) && (decide (operandOf x.op = 4) || decide (x.b = 0)) && argOk f funcs (operandOf x.op) x.a x.b

theorem operandOf_le (op : Int) : 0 ≤ operandOf op ∧ operandOf op ≤ 9 := by
  unfold operandOf
  repeat' split
  all_goals omega

theorem desc_k (op k : Int) (w : World) (h0 : 1 ≤ op) (h1 : op ≤ 53) (hk : operandOf op = k) :
    Calls Tryd.prog 18 #[.int .i64 op] w fun e w' => e = .returned (.tuple #[.agg #[.string (nameOf op), .int .i64 k, .int .i64 (popsOf op), .int .i64 (pushesOf op), .bool (cntOf op), .int .i64 (jmpOf op), .bool (endsOf op)], .int .i64 0]) ∧ Below w.heap.size w w' := by
  subst hk
  exact desc_in op w h0 h1

theorem between_eq (n a b : Int) (r : Bool) (h : betw n a b = r) (w : World) :
    Calls Tryd.prog 78 #[.int .i64 n, .int .i64 a, .int .i64 b] w fun e w' => e = .returned (.bool r) ∧ w = w' := by
  subst h; exact between_any n a b w

/-- what fits returns -/
def FitsIs (f : Fn) (A B C : Option Addr) (ca cb cc : Nat) (funcs : Int) (x : Ins) (w : World) (r : Bool) : Prop :=
  Calls Tryd.prog 79 #[.agg #[.string f.name, .int .i64 f.kind, .int .i64 f.params, .int .i64 f.locals, .slice A f.code.length ca, .slice B f.consts.length cb, .slice C f.hdls.length cc], .agg #[.int .i64 x.op, .int .i64 x.a, .int .i64 x.b], .int .i64 funcs] w
      fun e w' => e = .returned (.bool r) ∧ Gr w w'

set_option maxHeartbeats 1000000 in
set_option maxRecDepth 100000 in
theorem fits_out (f : Fn) (A B C : Option Addr) (ca cb cc : Nat) (funcs : Int) (x : Ins) (w : World) (hl : f.consts.length ≤ 10000) (hco : f.code.length ≤ 65536) (hlo : 0 ≤ f.locals) (hlo' : f.locals ≤ 10000) (hfu : 0 ≤ funcs) (hfu' : funcs ≤ 1000000) (h : x.op < 1 ∨ 53 < x.op) : FitsIs f A B C ca cb cc funcs x w false := by
  have cD := fun w => desc_out x.op w h
  have HD := Lib.hid cD
  clear cD h
  unfold FitsIs
  go_enter Tryd.func79, Tryd.ntmps79
  go_wp2_with fail
  refine (HD.out _).mono ?_
  rintro e w1 ⟨rfl, hb1⟩
  have e1 := heap_gr hb1 (heap_alloc2_old w _ _)
  have e2 := heap_gr hb1 (heap_alloc2_new w _ _)
  have hW0 : Gr w w1 := (gr_alloc2 w _ _).trans hb1
  clear hb1 HD
  obtain ⟨W, hw1, hs1, hs2, hW⟩ := plug2 e1 e2
  replace hW := hW0.trans hW
  clear e1 e2 hW0
  subst hw1
  go_wp2_with fail
  go_ret
  exact ⟨rfl, gr_then_alloc (gr_plug (gr_plug hW (Nat.le_refl _) _) (by omega) _) _⟩

set_option maxHeartbeats 1000000 in
set_option maxRecDepth 100000 in
theorem fits_b (f : Fn) (A B C : Option Addr) (ca cb cc : Nat) (funcs : Int) (x : Ins) (w : World) (hl : f.consts.length ≤ 10000) (hco : f.code.length ≤ 65536) (hlo : 0 ≤ f.locals) (hlo' : f.locals ≤ 10000) (hfu : 0 ≤ funcs) (hfu' : funcs ≤ 1000000) (h0 : 1 ≤ x.op) (h1 : x.op ≤ 53) (k : Int) (hk : operandOf x.op = k) (hk4 : (k != 4) = true) (hb : (x.b != 0) = true) : FitsIs f A B C ca cb cc funcs x w false := by
  have cD := fun w => desc_k x.op k w h0 h1 hk
  have HD := Lib.hid cD
  clear cD hk
  unfold FitsIs
  go_enter Tryd.func79, Tryd.ntmps79
  go_wp2_with fail
  refine (HD.out _).mono ?_
  rintro e w1 ⟨rfl, hb1⟩
  have e1 := heap_gr hb1 (heap_alloc2_old w _ _)
  have e2 := heap_gr hb1 (heap_alloc2_new w _ _)
  have hW0 : Gr w w1 := (gr_alloc2 w _ _).trans hb1
  clear hb1 HD
  obtain ⟨W, hw1, hs1, hs2, hW⟩ := plug2 e1 e2
  replace hW := hW0.trans hW
  clear e1 e2 hW0
  subst hw1
  go_wp2_with fail
  go_ret
  exact ⟨rfl, gr_then_alloc (gr_plug (gr_plug hW (Nat.le_refl _) _) (by omega) _) _⟩

set_option maxHeartbeats 1000000 in
set_option maxRecDepth 100000 in
theorem fits_0 (f : Fn) (A B C : Option Addr) (ca cb cc : Nat) (funcs : Int) (x : Ins) (w : World) (hl : f.consts.length ≤ 10000) (hco : f.code.length ≤ 65536) (hlo : 0 ≤ f.locals) (hlo' : f.locals ≤ 10000) (hfu : 0 ≤ funcs) (hfu' : funcs ≤ 1000000) (h0 : 1 ≤ x.op) (h1 : x.op ≤ 53) (hk : operandOf x.op = 0) (hb : (x.b != 0) = false) : FitsIs f A B C ca cb cc funcs x w (x.a == 0) := by
  have cD := fun w => desc_k x.op 0 w h0 h1 hk
  have HD := Lib.hid cD
  clear cD hk
  unfold FitsIs
  go_enter Tryd.func79, Tryd.ntmps79
  go_wp2_with fail
  refine (HD.out _).mono ?_
  rintro e w1 ⟨rfl, hb1⟩
  have e1 := heap_gr hb1 (heap_alloc2_old w _ _)
  have e2 := heap_gr hb1 (heap_alloc2_new w _ _)
  have hW0 : Gr w w1 := (gr_alloc2 w _ _).trans hb1
  clear hb1 HD
  obtain ⟨W, hw1, hs1, hs2, hW⟩ := plug2 e1 e2
  replace hW := hW0.trans hW
  clear e1 e2 hW0
  subst hw1
  go_wp2_with (go_at_call 78; refine (between_any _ _ _ _).mono ?_; rintro e w1 ⟨rfl, rfl⟩)
  go_ret
  exact ⟨rfl, gr_then_alloc (gr_plug (gr_plug hW (Nat.le_refl _) _) (by omega) _) _⟩

set_option maxHeartbeats 1000000 in
set_option maxRecDepth 100000 in
theorem fits_1 (f : Fn) (A B C : Option Addr) (ca cb cc : Nat) (funcs : Int) (x : Ins) (w : World) (hl : f.consts.length ≤ 10000) (hco : f.code.length ≤ 65536) (hlo : 0 ≤ f.locals) (hlo' : f.locals ≤ 10000) (hfu : 0 ≤ funcs) (hfu' : funcs ≤ 1000000) (h0 : 1 ≤ x.op) (h1 : x.op ≤ 53) (hk : operandOf x.op = 1) (hb : (x.b != 0) = false) : FitsIs f A B C ca cb cc funcs x w (betw x.a 0 ((f.consts.length : Int) - 1)) := by
  have cD := fun w => desc_k x.op 1 w h0 h1 hk
  have HD := Lib.hid cD
  clear cD hk
  unfold FitsIs
  go_enter Tryd.func79, Tryd.ntmps79
  go_wp2_with fail
  refine (HD.out _).mono ?_
  rintro e w1 ⟨rfl, hb1⟩
  have e1 := heap_gr hb1 (heap_alloc2_old w _ _)
  have e2 := heap_gr hb1 (heap_alloc2_new w _ _)
  have hW0 : Gr w w1 := (gr_alloc2 w _ _).trans hb1
  clear hb1 HD
  obtain ⟨W, hw1, hs1, hs2, hW⟩ := plug2 e1 e2
  replace hW := hW0.trans hW
  clear e1 e2 hW0
  subst hw1
  go_wp2_with (go_at_call 78; refine (between_any _ _ _ _).mono ?_; rintro e w1 ⟨rfl, rfl⟩)
  go_ret
  exact ⟨rfl, gr_then_alloc (gr_plug (gr_plug hW (Nat.le_refl _) _) (by omega) _) _⟩

set_option maxHeartbeats 1000000 in
set_option maxRecDepth 100000 in
theorem fits_3 (f : Fn) (A B C : Option Addr) (ca cb cc : Nat) (funcs : Int) (x : Ins) (w : World) (hl : f.consts.length ≤ 10000) (hco : f.code.length ≤ 65536) (hlo : 0 ≤ f.locals) (hlo' : f.locals ≤ 10000) (hfu : 0 ≤ funcs) (hfu' : funcs ≤ 1000000) (h0 : 1 ≤ x.op) (h1 : x.op ≤ 53) (hk : operandOf x.op = 3) (hb : (x.b != 0) = false) : FitsIs f A B C ca cb cc funcs x w (betw x.a 0 (f.locals - 1)) := by
  have cD := fun w => desc_k x.op 3 w h0 h1 hk
  have HD := Lib.hid cD
  clear cD hk
  unfold FitsIs
  go_enter Tryd.func79, Tryd.ntmps79
  go_wp2_with fail
  refine (HD.out _).mono ?_
  rintro e w1 ⟨rfl, hb1⟩
  have e1 := heap_gr hb1 (heap_alloc2_old w _ _)
  have e2 := heap_gr hb1 (heap_alloc2_new w _ _)
  have hW0 : Gr w w1 := (gr_alloc2 w _ _).trans hb1
  clear hb1 HD
  obtain ⟨W, hw1, hs1, hs2, hW⟩ := plug2 e1 e2
  replace hW := hW0.trans hW
  clear e1 e2 hW0
  subst hw1
  go_wp2_with (go_at_call 78; refine (between_any _ _ _ _).mono ?_; rintro e w1 ⟨rfl, rfl⟩)
  go_ret
  exact ⟨rfl, gr_then_alloc (gr_plug (gr_plug hW (Nat.le_refl _) _) (by omega) _) _⟩

set_option maxHeartbeats 1000000 in
set_option maxRecDepth 100000 in
theorem fits_5 (f : Fn) (A B C : Option Addr) (ca cb cc : Nat) (funcs : Int) (x : Ins) (w : World) (hl : f.consts.length ≤ 10000) (hco : f.code.length ≤ 65536) (hlo : 0 ≤ f.locals) (hlo' : f.locals ≤ 10000) (hfu : 0 ≤ funcs) (hfu' : funcs ≤ 1000000) (h0 : 1 ≤ x.op) (h1 : x.op ≤ 53) (hk : operandOf x.op = 5) (hb : (x.b != 0) = false) : FitsIs f A B C ca cb cc funcs x w (betw x.a 0 (funcs - 1)) := by
  have cD := fun w => desc_k x.op 5 w h0 h1 hk
  have HD := Lib.hid cD
  clear cD hk
  unfold FitsIs
  go_enter Tryd.func79, Tryd.ntmps79
  go_wp2_with fail
  refine (HD.out _).mono ?_
  rintro e w1 ⟨rfl, hb1⟩
  have e1 := heap_gr hb1 (heap_alloc2_old w _ _)
  have e2 := heap_gr hb1 (heap_alloc2_new w _ _)
  have hW0 : Gr w w1 := (gr_alloc2 w _ _).trans hb1
  clear hb1 HD
  obtain ⟨W, hw1, hs1, hs2, hW⟩ := plug2 e1 e2
  replace hW := hW0.trans hW
  clear e1 e2 hW0
  subst hw1
  go_wp2_with (go_at_call 78; refine (between_any _ _ _ _).mono ?_; rintro e w1 ⟨rfl, rfl⟩)
  go_ret
  exact ⟨rfl, gr_then_alloc (gr_plug (gr_plug hW (Nat.le_refl _) _) (by omega) _) _⟩

set_option maxHeartbeats 1000000 in
set_option maxRecDepth 100000 in
theorem fits_6 (f : Fn) (A B C : Option Addr) (ca cb cc : Nat) (funcs : Int) (x : Ins) (w : World) (hl : f.consts.length ≤ 10000) (hco : f.code.length ≤ 65536) (hlo : 0 ≤ f.locals) (hlo' : f.locals ≤ 10000) (hfu : 0 ≤ funcs) (hfu' : funcs ≤ 1000000) (h0 : 1 ≤ x.op) (h1 : x.op ≤ 53) (hk : operandOf x.op = 6) (hb : (x.b != 0) = false) : FitsIs f A B C ca cb cc funcs x w (betw x.a 0 10000) := by
  have cD := fun w => desc_k x.op 6 w h0 h1 hk
  have HD := Lib.hid cD
  clear cD hk
  unfold FitsIs
  go_enter Tryd.func79, Tryd.ntmps79
  go_wp2_with fail
  refine (HD.out _).mono ?_
  rintro e w1 ⟨rfl, hb1⟩
  have e1 := heap_gr hb1 (heap_alloc2_old w _ _)
  have e2 := heap_gr hb1 (heap_alloc2_new w _ _)
  have hW0 : Gr w w1 := (gr_alloc2 w _ _).trans hb1
  clear hb1 HD
  obtain ⟨W, hw1, hs1, hs2, hW⟩ := plug2 e1 e2
  replace hW := hW0.trans hW
  clear e1 e2 hW0
  subst hw1
  go_wp2_with (go_at_call 78; refine (between_any _ _ _ _).mono ?_; rintro e w1 ⟨rfl, rfl⟩)
  go_ret
  exact ⟨rfl, gr_then_alloc (gr_plug (gr_plug hW (Nat.le_refl _) _) (by omega) _) _⟩

set_option maxHeartbeats 1000000 in
set_option maxRecDepth 100000 in
theorem fits_7 (f : Fn) (A B C : Option Addr) (ca cb cc : Nat) (funcs : Int) (x : Ins) (w : World) (hl : f.consts.length ≤ 10000) (hco : f.code.length ≤ 65536) (hlo : 0 ≤ f.locals) (hlo' : f.locals ≤ 10000) (hfu : 0 ≤ funcs) (hfu' : funcs ≤ 1000000) (h0 : 1 ≤ x.op) (h1 : x.op ≤ 53) (hk : operandOf x.op = 7) (hb : (x.b != 0) = false) : FitsIs f A B C ca cb cc funcs x w (betw x.a 0 ((f.code.length : Int) - 1)) := by
  have cD := fun w => desc_k x.op 7 w h0 h1 hk
  have HD := Lib.hid cD
  clear cD hk
  unfold FitsIs
  go_enter Tryd.func79, Tryd.ntmps79
  go_wp2_with fail
  refine (HD.out _).mono ?_
  rintro e w1 ⟨rfl, hb1⟩
  have e1 := heap_gr hb1 (heap_alloc2_old w _ _)
  have e2 := heap_gr hb1 (heap_alloc2_new w _ _)
  have hW0 : Gr w w1 := (gr_alloc2 w _ _).trans hb1
  clear hb1 HD
  obtain ⟨W, hw1, hs1, hs2, hW⟩ := plug2 e1 e2
  replace hW := hW0.trans hW
  clear e1 e2 hW0
  subst hw1
  go_wp2_with (go_at_call 78; refine (between_any _ _ _ _).mono ?_; rintro e w1 ⟨rfl, rfl⟩)
  go_ret
  exact ⟨rfl, gr_then_alloc (gr_plug (gr_plug hW (Nat.le_refl _) _) (by omega) _) _⟩

set_option maxHeartbeats 1000000 in
set_option maxRecDepth 100000 in
theorem fits_8 (f : Fn) (A B C : Option Addr) (ca cb cc : Nat) (funcs : Int) (x : Ins) (w : World) (hl : f.consts.length ≤ 10000) (hco : f.code.length ≤ 65536) (hlo : 0 ≤ f.locals) (hlo' : f.locals ≤ 10000) (hfu : 0 ≤ funcs) (hfu' : funcs ≤ 1000000) (h0 : 1 ≤ x.op) (h1 : x.op ≤ 53) (hk : operandOf x.op = 8) (hb : (x.b != 0) = false) : FitsIs f A B C ca cb cc funcs x w (betw x.a 1 4) := by
  have cD := fun w => desc_k x.op 8 w h0 h1 hk
  have HD := Lib.hid cD
  clear cD hk
  unfold FitsIs
  go_enter Tryd.func79, Tryd.ntmps79
  go_wp2_with fail
  refine (HD.out _).mono ?_
  rintro e w1 ⟨rfl, hb1⟩
  have e1 := heap_gr hb1 (heap_alloc2_old w _ _)
  have e2 := heap_gr hb1 (heap_alloc2_new w _ _)
  have hW0 : Gr w w1 := (gr_alloc2 w _ _).trans hb1
  clear hb1 HD
  obtain ⟨W, hw1, hs1, hs2, hW⟩ := plug2 e1 e2
  replace hW := hW0.trans hW
  clear e1 e2 hW0
  subst hw1
  go_wp2_with (go_at_call 78; refine (between_any _ _ _ _).mono ?_; rintro e w1 ⟨rfl, rfl⟩)
  go_ret
  exact ⟨rfl, gr_then_alloc (gr_plug (gr_plug hW (Nat.le_refl _) _) (by omega) _) _⟩

set_option maxHeartbeats 1000000 in
set_option maxRecDepth 100000 in
theorem fits_9 (f : Fn) (A B C : Option Addr) (ca cb cc : Nat) (funcs : Int) (x : Ins) (w : World) (hl : f.consts.length ≤ 10000) (hco : f.code.length ≤ 65536) (hlo : 0 ≤ f.locals) (hlo' : f.locals ≤ 10000) (hfu : 0 ≤ funcs) (hfu' : funcs ≤ 1000000) (h0 : 1 ≤ x.op) (h1 : x.op ≤ 53) (hk : operandOf x.op = 9) (hb : (x.b != 0) = false) : FitsIs f A B C ca cb cc funcs x w (betw x.a 6 20) := by
  have cD := fun w => desc_k x.op 9 w h0 h1 hk
  have HD := Lib.hid cD
  clear cD hk
  unfold FitsIs
  go_enter Tryd.func79, Tryd.ntmps79
  go_wp2_with fail
  refine (HD.out _).mono ?_
  rintro e w1 ⟨rfl, hb1⟩
  have e1 := heap_gr hb1 (heap_alloc2_old w _ _)
  have e2 := heap_gr hb1 (heap_alloc2_new w _ _)
  have hW0 : Gr w w1 := (gr_alloc2 w _ _).trans hb1
  clear hb1 HD
  obtain ⟨W, hw1, hs1, hs2, hW⟩ := plug2 e1 e2
  replace hW := hW0.trans hW
  clear e1 e2 hW0
  subst hw1
  go_wp2_with (go_at_call 78; refine (between_any _ _ _ _).mono ?_; rintro e w1 ⟨rfl, rfl⟩)
  go_ret
  exact ⟨rfl, gr_then_alloc (gr_plug (gr_plug hW (Nat.le_refl _) _) (by omega) _) _⟩

set_option maxHeartbeats 1000000 in
set_option maxRecDepth 100000 in
theorem fits_4t (f : Fn) (A B C : Option Addr) (ca cb cc : Nat) (funcs : Int) (x : Ins) (w : World) (hl : f.consts.length ≤ 10000) (hco : f.code.length ≤ 65536) (hlo : 0 ≤ f.locals) (hlo' : f.locals ≤ 10000) (hfu : 0 ≤ funcs) (hfu' : funcs ≤ 1000000) (h0 : 1 ≤ x.op) (h1 : x.op ≤ 53) (hk : operandOf x.op = 4) (hq : betw x.a 0 10000 = true) : FitsIs f A B C ca cb cc funcs x w (betw x.b 0 10000) := by
  have cD := fun w => desc_k x.op 4 w h0 h1 hk
  have HD := Lib.hid cD
  clear cD hk
  have HQ := Lib.hid hq
  clear hq
  unfold FitsIs
  go_enter Tryd.func79, Tryd.ntmps79
  go_wp2_with fail
  refine (HD.out _).mono ?_
  rintro e w1 ⟨rfl, hb1⟩
  have e1 := heap_gr hb1 (heap_alloc2_old w _ _)
  have e2 := heap_gr hb1 (heap_alloc2_new w _ _)
  have hW0 : Gr w w1 := (gr_alloc2 w _ _).trans hb1
  clear hb1 HD
  obtain ⟨W, hw1, hs1, hs2, hW⟩ := plug2 e1 e2
  replace hW := hW0.trans hW
  clear e1 e2 hW0
  subst hw1
  go_wp2_with fail
  refine (between_eq _ _ _ true HQ.out _).mono ?_
  rintro e w1 ⟨rfl, rfl⟩
  go_wp2_with (go_at_call 78; refine (between_any _ _ _ _).mono ?_; rintro e w1 ⟨rfl, rfl⟩)
  go_ret
  exact ⟨rfl, gr_then_alloc (gr_plug (gr_plug hW (Nat.le_refl _) _) (by omega) _) _⟩

set_option maxHeartbeats 1000000 in
set_option maxRecDepth 100000 in
theorem fits_4f (f : Fn) (A B C : Option Addr) (ca cb cc : Nat) (funcs : Int) (x : Ins) (w : World) (hl : f.consts.length ≤ 10000) (hco : f.code.length ≤ 65536) (hlo : 0 ≤ f.locals) (hlo' : f.locals ≤ 10000) (hfu : 0 ≤ funcs) (hfu' : funcs ≤ 1000000) (h0 : 1 ≤ x.op) (h1 : x.op ≤ 53) (hk : operandOf x.op = 4) (hq : betw x.a 0 10000 = false) : FitsIs f A B C ca cb cc funcs x w false := by
  have cD := fun w => desc_k x.op 4 w h0 h1 hk
  have HD := Lib.hid cD
  clear cD hk
  have HQ := Lib.hid hq
  clear hq
  unfold FitsIs
  go_enter Tryd.func79, Tryd.ntmps79
  go_wp2_with fail
  refine (HD.out _).mono ?_
  rintro e w1 ⟨rfl, hb1⟩
  have e1 := heap_gr hb1 (heap_alloc2_old w _ _)
  have e2 := heap_gr hb1 (heap_alloc2_new w _ _)
  have hW0 : Gr w w1 := (gr_alloc2 w _ _).trans hb1
  clear hb1 HD
  obtain ⟨W, hw1, hs1, hs2, hW⟩ := plug2 e1 e2
  replace hW := hW0.trans hW
  clear e1 e2 hW0
  subst hw1
  go_wp2_with fail
  refine (between_eq _ _ _ false HQ.out _).mono ?_
  rintro e w1 ⟨rfl, rfl⟩
  go_wp2_with fail
  go_ret
  exact ⟨rfl, gr_then_alloc (gr_plug (gr_plug hW (Nat.le_refl _) _) (by omega) _) _⟩

set_option maxHeartbeats 1000000 in
set_option maxRecDepth 100000 in
theorem fits_2f (f : Fn) (A B C : Option Addr) (ca cb cc : Nat) (funcs : Int) (x : Ins) (w : World) (hl : f.consts.length ≤ 10000) (hco : f.code.length ≤ 65536) (hlo : 0 ≤ f.locals) (hlo' : f.locals ≤ 10000) (hfu : 0 ≤ funcs) (hfu' : funcs ≤ 1000000) (h0 : 1 ≤ x.op) (h1 : x.op ≤ 53) (hk : operandOf x.op = 2) (hb : (x.b != 0) = false) (hq : betw x.a 0 ((f.consts.length : Int) - 1) = false) : FitsIs f A B C ca cb cc funcs x w false := by
  have cD := fun w => desc_k x.op 2 w h0 h1 hk
  have HD := Lib.hid cD
  clear cD hk
  have HQ := Lib.hid hq
  clear hq
  unfold FitsIs
  go_enter Tryd.func79, Tryd.ntmps79
  go_wp2_with fail
  refine (HD.out _).mono ?_
  rintro e w1 ⟨rfl, hb1⟩
  have e1 := heap_gr hb1 (heap_alloc2_old w _ _)
  have e2 := heap_gr hb1 (heap_alloc2_new w _ _)
  have hW0 : Gr w w1 := (gr_alloc2 w _ _).trans hb1
  clear hb1 HD
  obtain ⟨W, hw1, hs1, hs2, hW⟩ := plug2 e1 e2
  replace hW := hW0.trans hW
  clear e1 e2 hW0
  subst hw1
  go_wp2_with fail
  refine (between_eq _ _ _ false HQ.out _).mono ?_
  rintro e w1 ⟨rfl, rfl⟩
  go_wp2_with fail
  go_ret
  exact ⟨rfl, gr_then_alloc (gr_plug (gr_plug hW (Nat.le_refl _) _) (by omega) _) _⟩

set_option maxHeartbeats 1000000 in
set_option maxRecDepth 100000 in
theorem fits_2t (f : Fn) (A B C : Option Addr) (ca cb cc : Nat) (funcs : Int) (x : Ins) (w : World) (hl : f.consts.length ≤ 10000) (hco : f.code.length ≤ 65536) (hlo : 0 ≤ f.locals) (hlo' : f.locals ≤ 10000) (hfu : 0 ≤ funcs) (hfu' : funcs ≤ 1000000) (h0 : 1 ≤ x.op) (h1 : x.op ≤ 53) (hk : operandOf x.op = 2) (hb : (x.b != 0) = false) (hq : betw x.a 0 ((f.consts.length : Int) - 1) = true) (ha : 0 ≤ x.a) (ha' : x.a < f.consts.length) (kd : Int) (b o : Nat) (hB : B = some ⟨b, o, none⟩) (hcell : w.cell? ⟨b, o + x.a.toNat * 3, none⟩ = some (.int .i64 kd)) : FitsIs f A B C ca cb cc funcs x w (kd == 2) := by
  subst hB
  have hblt : b < w.heap.size := block_lt_of_cell hcell
  have cD := fun w => desc_k x.op 2 w h0 h1 hk
  have HD := Lib.hid cD
  clear cD hk
  have HQ := Lib.hid hq
  clear hq
  unfold FitsIs
  go_enter Tryd.func79, Tryd.ntmps79
  go_wp2_with fail
  refine (HD.out _).mono ?_
  rintro e w1 ⟨rfl, hb1⟩
  have e1 := heap_gr hb1 (heap_alloc2_old w _ _)
  have e2 := heap_gr hb1 (heap_alloc2_new w _ _)
  have hW0 : Gr w w1 := (gr_alloc2 w _ _).trans hb1
  clear hb1 HD
  obtain ⟨W, hw1, hs1, hs2, hW⟩ := plug2 e1 e2
  replace hW := hW0.trans hW
  clear e1 e2 hW0
  subst hw1
  have hcW := cell_gr hW hcell
  clear hcell
  have hn1 : ¬ b = w.heap.size := by omega
  have hn2 : ¬ b = w.heap.size + 1 := by omega
  have hn3 : b < W.heap.size := by omega
  go_wp2_with fail
  refine (between_eq _ _ _ true HQ.out _).mono ?_
  rintro e w1 ⟨rfl, rfl⟩
  go_wp2_with fail
  go_ret
  exact ⟨rfl, gr_then_alloc (gr_plug (gr_plug hW (Nat.le_refl _) _) (by omega) _) _⟩


/-- bytecode.fits -/
theorem fits_any (f : Fn) (A B C : Option Addr) (ca cb cc : Nat) (funcs : Int) (x : Ins) (w : World) (hl : f.consts.length ≤ 10000) (hco : f.code.length ≤ 65536) (hlo : 0 ≤ f.locals) (hlo' : f.locals ≤ 10000) (hfu : 0 ≤ funcs) (hfu' : funcs ≤ 1000000) (hB : SlAt w B 3 cstCells f.consts) : FitsIs f A B C ca cb cc funcs x w (fitsB f funcs x) := by
  by_cases hin : 1 ≤ x.op ∧ x.op ≤ 53
  case neg =>
    have : fitsB f funcs x = false := by simp only [fitsB]; rw [decide_eq_false hin]; rfl
    rw [this]
    exact fits_out f A B C ca cb cc funcs x w hl hco hlo hlo' hfu hfu' (by omega)
  obtain ⟨h0, h1⟩ := hin
  have hr : decide (1 ≤ x.op ∧ x.op ≤ 53) = true := by simp; omega
  by_cases hk4 : operandOf x.op = 4
  · by_cases hq : betw x.a 0 10000 = true
    · have : fitsB f funcs x = betw x.b 0 10000 := by simp [fitsB, hk4, argOk, hq, h0, h1]
      rw [this]
      exact fits_4t f A B C ca cb cc funcs x w hl hco hlo hlo' hfu hfu' h0 h1 hk4 hq
    · replace hq := eq_false_of_ne_true hq
      have : fitsB f funcs x = false := by simp [fitsB, hk4, argOk, hq]
      rw [this]
      exact fits_4f f A B C ca cb cc funcs x w hl hco hlo hlo' hfu hfu' h0 h1 hk4 hq
  by_cases hb : x.b = 0
  case neg =>
    have : fitsB f funcs x = false := by simp [fitsB, hk4, hb]
    rw [this]
    exact fits_b f A B C ca cb cc funcs x w hl hco hlo hlo' hfu hfu' h0 h1 _ rfl (by simpa using hk4) (by simpa using hb)
  have hb' : (x.b != 0) = false := by simp [hb]
  have hfit : fitsB f funcs x = argOk f funcs (operandOf x.op) x.a x.b := by simp [fitsB, hb, h0, h1]
  rw [hfit]
  have hle := operandOf_le x.op
  have hks : operandOf x.op = 0 ∨ operandOf x.op = 1 ∨ operandOf x.op = 2 ∨ operandOf x.op = 3 ∨ operandOf x.op = 5 ∨ operandOf x.op = 6 ∨ operandOf x.op = 7 ∨ operandOf x.op = 8 ∨ operandOf x.op = 9 := by omega
  rcases hks with hk | hk | hk | hk | hk | hk | hk | hk | hk
  · rw [hk]; exact fits_0 f A B C ca cb cc funcs x w hl hco hlo hlo' hfu hfu' h0 h1 hk hb'
  · rw [hk]; exact fits_1 f A B C ca cb cc funcs x w hl hco hlo hlo' hfu hfu' h0 h1 hk hb'
  · by_cases hq : betw x.a 0 ((f.consts.length : Int) - 1) = true
    · have hq' := hq
      simp only [betw, Bool.and_eq_true, decide_eq_true_eq] at hq'
      have hlt : x.a.toNat < f.consts.length := by omega
      obtain ⟨b, o, e, hc⟩ := hB x.a.toNat f.consts[x.a.toNat] (List.getElem?_eq_getElem hlt)
      have hc0 := hc 0 _ rfl
      have hk2 : kindAt f.consts x.a = (f.consts[x.a.toNat]).kind := by simp [kindAt, List.getElem?_eq_getElem hlt]
      have : argOk f funcs (operandOf x.op) x.a x.b = ((f.consts[x.a.toNat]).kind == 2) := by rw [hk]; simp [argOk, hq, hk2]
      rw [this]
      exact fits_2t f A B C ca cb cc funcs x w hl hco hlo hlo' hfu hfu' h0 h1 hk hb' hq hq'.1 (by omega) _ b o e hc0
    · replace hq := eq_false_of_ne_true hq
      have : argOk f funcs (operandOf x.op) x.a x.b = false := by rw [hk]; simp [argOk, hq]
      rw [this]
      exact fits_2f f A B C ca cb cc funcs x w hl hco hlo hlo' hfu hfu' h0 h1 hk hb' hq
  · rw [hk]; exact fits_3 f A B C ca cb cc funcs x w hl hco hlo hlo' hfu hfu' h0 h1 hk hb'
  · rw [hk]; exact fits_5 f A B C ca cb cc funcs x w hl hco hlo hlo' hfu hfu' h0 h1 hk hb'
  · rw [hk]; exact fits_6 f A B C ca cb cc funcs x w hl hco hlo hlo' hfu hfu' h0 h1 hk hb'
  · rw [hk]; exact fits_7 f A B C ca cb cc funcs x w hl hco hlo hlo' hfu hfu' h0 h1 hk hb'
  · rw [hk]; exact fits_8 f A B C ca cb cc funcs x w hl hco hlo hlo' hfu hfu' h0 h1 hk hb'
  · rw [hk]; exact fits_9 f A B C ca cb cc funcs x w hl hco hlo hlo' hfu hfu' h0 h1 hk hb'
end Go.Proofs.YtlffpgjkhehdmaaDoor
