/- Own work: bytecode.fits. -/
import Derived.Test.YtjefbgfohijaoaaGreatDoorWGD
import Derived.Test.YtjefbgfohijaoaaGreatDoorWGE
import Derived.LoopTactic
namespace Go.Proofs.YtjefbgfohijaoaaGreatDoor
open Go.RowKit
set_option linter.unusedVariables false
set_option linter.unusedSimpArgs false
def kindAt (cs : List Cst) (a : Int) : Int := ((cs[a.toNat]?).map (·.kind)).getD 0
def argOk (f : Fn) (funcs k a b : Int) : Bool :=
 if k = 1 then betw a 0 ((f.consts.length : Int) - 1)
 else if k = 2 then betw a 0 ((f.consts.length : Int) - 1) && (kindAt f.consts a == 2)
 else if k = 3 then betw a 0 (f.locals - 1)
 else if k = 4 then betw a 0 10000 && betw b 0 10000
 else if k = 5 then betw a 0 (funcs - 1)
 else if k = 6 then betw a 0 10000
 else if k = 7 then betw a 0 ((f.code.length : Int) - 1)
 else if k = 8 then betw a 1 4
 else if k = 9 then betw a 6 20
 else a == 0
def fitsB (f : Fn) (funcs : Int) (x : Ins) : Bool :=
 decide (1 <= x.op /\ x.op <= 53) && (decide (operandOf x.op = 4) || decide (x.b = 0)) && argOk f funcs (operandOf x.op) x.a x.b
theorem operandOf_le (op : Int) : 0 <= operandOf op /\ operandOf op <= 9 := by
 unfold operandOf
 repeat' split
 all_goals omega
theorem desc_k (op k : Int) (w : World) (h0 : 1 <= op) (h1 : op <= 53) (hk : operandOf op = k) :
  Calls Tryz.prog 13 #[.int .i64 op] w fun e w' => e = .returned (.tuple #[.agg #[.string (nameOf op), .int .i64 k, .int .i64 (popsOf op), .int .i64 (pushesOf op), .bool (cntOf op), .int .i64 (jmpOf op), .bool (endsOf op)], .int .i64 0]) /\ Below w.heap.size w w' := by
 subst hk
 exact desc_in op w h0 h1
theorem between_eq (n a b : Int) (r : Bool) (h : betw n a b = r) (w : World) :
  Calls Tryz.prog 55 #[.int .i64 n, .int .i64 a, .int .i64 b] w fun e w' => e = .returned (.bool r) /\ w = w' := by
 subst h; exact between_any n a b w
def FitsIs (f : Fn) (A B C : Option Addr) (ca cb cc : Nat) (funcs : Int) (x : Ins) (w : World) (r : Bool) : Prop :=
 Calls Tryz.prog 56 #[.agg #[.string f.name, .int .i64 f.kind, .int .i64 f.params, .int .i64 f.locals, .slice A f.code.length ca, .slice B f.consts.length cb, .slice C f.hdls.length cc], .agg #[.int .i64 x.op, .int .i64 x.a, .int .i64 x.b], .int .i64 funcs] w
   fun e w' => e = .returned (.bool r) /\ Gr w w'
set_option maxHeartbeats 1000000 in
set_option maxRecDepth 100000 in
theorem fits_out (f : Fn) (A B C : Option Addr) (ca cb cc : Nat) (funcs : Int) (x : Ins) (w : World) (hl : f.consts.length <= 10000) (hco : f.code.length <= 65536) (hlo : 0 <= f.locals) (hlo' : f.locals <= 10000) (hfu : 0 <= funcs) (hfu' : funcs <= 1000000) (h : x.op < 1 \/ 53 < x.op) : FitsIs f A B C ca cb cc funcs x w false := by
 have cD := fun w => desc_out x.op w h
 have HD := Lib.hid cD
 clear cD h
 unfold FitsIs
 go_enter Tryz.func56, Tryz.ntmps56
 go_wp2_with fail
 refine (HD.out _).mono ?_
 rintro e w1 ⟨rfl, hb1⟩
 have e1 := heap_gr hb1 (heap_alloc2_old w _ _)
 have e2 := heap_gr hb1 (heap_alloc2_new w _ _)
 have hW0 : Gr w w1 := (gr_alloc2 w _ _).trans hb1
 clear hb1 HD
 obtain ⟨W, hw1, hs1, hs2, hW⟩ := plug2 e1 e2
 replace hW := hW0.trans hW
 clear e1 e2 hW0
 subst hw1
 go_wp2_with fail
 go_ret
 exact ⟨rfl, gr_then_alloc (gr_plug (gr_plug hW (Nat.le_refl _) _) (by omega) _) _⟩
set_option maxHeartbeats 1000000 in
set_option maxRecDepth 100000 in
theorem fits_b (f : Fn) (A B C : Option Addr) (ca cb cc : Nat) (funcs : Int) (x : Ins) (w : World) (hl : f.consts.length <= 10000) (hco : f.code.length <= 65536) (hlo : 0 <= f.locals) (hlo' : f.locals <= 10000) (hfu : 0 <= funcs) (hfu' : funcs <= 1000000) (h0 : 1 <= x.op) (h1 : x.op <= 53) (k : Int) (hk : operandOf x.op = k) (hk4 : (k != 4) = true) (hb : (x.b != 0) = true) : FitsIs f A B C ca cb cc funcs x w false := by
 have cD := fun w => desc_k x.op k w h0 h1 hk
 have HD := Lib.hid cD
 clear cD hk
 unfold FitsIs
 go_enter Tryz.func56, Tryz.ntmps56
 go_wp2_with fail
 refine (HD.out _).mono ?_
 rintro e w1 ⟨rfl, hb1⟩
 have e1 := heap_gr hb1 (heap_alloc2_old w _ _)
 have e2 := heap_gr hb1 (heap_alloc2_new w _ _)
 have hW0 : Gr w w1 := (gr_alloc2 w _ _).trans hb1
 clear hb1 HD
 obtain ⟨W, hw1, hs1, hs2, hW⟩ := plug2 e1 e2
 replace hW := hW0.trans hW
 clear e1 e2 hW0
 subst hw1
 go_wp2_with fail
 go_ret
 exact ⟨rfl, gr_then_alloc (gr_plug (gr_plug hW (Nat.le_refl _) _) (by omega) _) _⟩
set_option maxHeartbeats 1000000 in
set_option maxRecDepth 100000 in
theorem fits_0 (f : Fn) (A B C : Option Addr) (ca cb cc : Nat) (funcs : Int) (x : Ins) (w : World) (hl : f.consts.length <= 10000) (hco : f.code.length <= 65536) (hlo : 0 <= f.locals) (hlo' : f.locals <= 10000) (hfu : 0 <= funcs) (hfu' : funcs <= 1000000) (h0 : 1 <= x.op) (h1 : x.op <= 53) (hk : operandOf x.op = 0) (hb : (x.b != 0) = false) : FitsIs f A B C ca cb cc funcs x w (x.a == 0) := by
 have cD := fun w => desc_k x.op 0 w h0 h1 hk
 have HD := Lib.hid cD
 clear cD hk
 unfold FitsIs
 go_enter Tryz.func56, Tryz.ntmps56
 go_wp2_with fail
 refine (HD.out _).mono ?_
 rintro e w1 ⟨rfl, hb1⟩
 have e1 := heap_gr hb1 (heap_alloc2_old w _ _)
 have e2 := heap_gr hb1 (heap_alloc2_new w _ _)
 have hW0 : Gr w w1 := (gr_alloc2 w _ _).trans hb1
 clear hb1 HD
 obtain ⟨W, hw1, hs1, hs2, hW⟩ := plug2 e1 e2
 replace hW := hW0.trans hW
 clear e1 e2 hW0
 subst hw1
 go_wp2_with (go_at_call 55; refine (between_any _ _ _ _).mono ?_; rintro e w1 ⟨rfl, rfl⟩)
 go_ret
 exact ⟨rfl, gr_then_alloc (gr_plug (gr_plug hW (Nat.le_refl _) _) (by omega) _) _⟩
set_option maxHeartbeats 1000000 in
set_option maxRecDepth 100000 in
theorem fits_1 (f : Fn) (A B C : Option Addr) (ca cb cc : Nat) (funcs : Int) (x : Ins) (w : World) (hl : f.consts.length <= 10000) (hco : f.code.length <= 65536) (hlo : 0 <= f.locals) (hlo' : f.locals <= 10000) (hfu : 0 <= funcs) (hfu' : funcs <= 1000000) (h0 : 1 <= x.op) (h1 : x.op <= 53) (hk : operandOf x.op = 1) (hb : (x.b != 0) = false) : FitsIs f A B C ca cb cc funcs x w (betw x.a 0 ((f.consts.length : Int) - 1)) := by
 have cD := fun w => desc_k x.op 1 w h0 h1 hk
 have HD := Lib.hid cD
 clear cD hk
 unfold FitsIs
 go_enter Tryz.func56, Tryz.ntmps56
 go_wp2_with fail
 refine (HD.out _).mono ?_
 rintro e w1 ⟨rfl, hb1⟩
 have e1 := heap_gr hb1 (heap_alloc2_old w _ _)
 have e2 := heap_gr hb1 (heap_alloc2_new w _ _)
 have hW0 : Gr w w1 := (gr_alloc2 w _ _).trans hb1
 clear hb1 HD
 obtain ⟨W, hw1, hs1, hs2, hW⟩ := plug2 e1 e2
 replace hW := hW0.trans hW
 clear e1 e2 hW0
 subst hw1
 go_wp2_with (go_at_call 55; refine (between_any _ _ _ _).mono ?_; rintro e w1 ⟨rfl, rfl⟩)
 go_ret
 exact ⟨rfl, gr_then_alloc (gr_plug (gr_plug hW (Nat.le_refl _) _) (by omega) _) _⟩
set_option maxHeartbeats 1000000 in
set_option maxRecDepth 100000 in
theorem fits_3 (f : Fn) (A B C : Option Addr) (ca cb cc : Nat) (funcs : Int) (x : Ins) (w : World) (hl : f.consts.length <= 10000) (hco : f.code.length <= 65536) (hlo : 0 <= f.locals) (hlo' : f.locals <= 10000) (hfu : 0 <= funcs) (hfu' : funcs <= 1000000) (h0 : 1 <= x.op) (h1 : x.op <= 53) (hk : operandOf x.op = 3) (hb : (x.b != 0) = false) : FitsIs f A B C ca cb cc funcs x w (betw x.a 0 (f.locals - 1)) := by
 have cD := fun w => desc_k x.op 3 w h0 h1 hk
 have HD := Lib.hid cD
 clear cD hk
 unfold FitsIs
 go_enter Tryz.func56, Tryz.ntmps56
 go_wp2_with fail
 refine (HD.out _).mono ?_
 rintro e w1 ⟨rfl, hb1⟩
 have e1 := heap_gr hb1 (heap_alloc2_old w _ _)
 have e2 := heap_gr hb1 (heap_alloc2_new w _ _)
 have hW0 : Gr w w1 := (gr_alloc2 w _ _).trans hb1
 clear hb1 HD
 obtain ⟨W, hw1, hs1, hs2, hW⟩ := plug2 e1 e2
 replace hW := hW0.trans hW
 clear e1 e2 hW0
 subst hw1
 go_wp2_with (go_at_call 55; refine (between_any _ _ _ _).mono ?_; rintro e w1 ⟨rfl, rfl⟩)
 go_ret
 exact ⟨rfl, gr_then_alloc (gr_plug (gr_plug hW (Nat.le_refl _) _) (by omega) _) _⟩
set_option maxHeartbeats 1000000 in
set_option maxRecDepth 100000 in
theorem fits_5 (f : Fn) (A B C : Option Addr) (ca cb cc : Nat) (funcs : Int) (x : Ins) (w : World) (hl : f.consts.length <= 10000) (hco : f.code.length <= 65536) (hlo : 0 <= f.locals) (hlo' : f.locals <= 10000) (hfu : 0 <= funcs) (hfu' : funcs <= 1000000) (h0 : 1 <= x.op) (h1 : x.op <= 53) (hk : operandOf x.op = 5) (hb : (x.b != 0) = false) : FitsIs f A B C ca cb cc funcs x w (betw x.a 0 (funcs - 1)) := by
 have cD := fun w => desc_k x.op 5 w h0 h1 hk
 have HD := Lib.hid cD
 clear cD hk
 unfold FitsIs
 go_enter Tryz.func56, Tryz.ntmps56
 go_wp2_with fail
 refine (HD.out _).mono ?_
 rintro e w1 ⟨rfl, hb1⟩
 have e1 := heap_gr hb1 (heap_alloc2_old w _ _)
 have e2 := heap_gr hb1 (heap_alloc2_new w _ _)
 have hW0 : Gr w w1 := (gr_alloc2 w _ _).trans hb1
 clear hb1 HD
 obtain ⟨W, hw1, hs1, hs2, hW⟩ := plug2 e1 e2
 replace hW := hW0.trans hW
 clear e1 e2 hW0
 subst hw1
 go_wp2_with (go_at_call 55; refine (between_any _ _ _ _).mono ?_; rintro e w1 ⟨rfl, rfl⟩)
 go_ret
 exact ⟨rfl, gr_then_alloc (gr_plug (gr_plug hW (Nat.le_refl _) _) (by omega) _) _⟩
set_option maxHeartbeats 1000000 in
set_option maxRecDepth 100000 in
theorem fits_6 (f : Fn) (A B C : Option Addr) (ca cb cc : Nat) (funcs : Int) (x : Ins) (w : World) (hl : f.consts.length <= 10000) (hco : f.code.length <= 65536) (hlo : 0 <= f.locals) (hlo' : f.locals <= 10000) (hfu : 0 <= funcs) (hfu' : funcs <= 1000000) (h0 : 1 <= x.op) (h1 : x.op <= 53) (hk : operandOf x.op = 6) (hb : (x.b != 0) = false) : FitsIs f A B C ca cb cc funcs x w (betw x.a 0 10000) := by
 have cD := fun w => desc_k x.op 6 w h0 h1 hk
 have HD := Lib.hid cD
 clear cD hk
 unfold FitsIs
 go_enter Tryz.func56, Tryz.ntmps56
 go_wp2_with fail
 refine (HD.out _).mono ?_
 rintro e w1 ⟨rfl, hb1⟩
 have e1 := heap_gr hb1 (heap_alloc2_old w _ _)
 have e2 := heap_gr hb1 (heap_alloc2_new w _ _)
 have hW0 : Gr w w1 := (gr_alloc2 w _ _).trans hb1
 clear hb1 HD
 obtain ⟨W, hw1, hs1, hs2, hW⟩ := plug2 e1 e2
 replace hW := hW0.trans hW
 clear e1 e2 hW0
 subst hw1
 go_wp2_with (go_at_call 55; refine (between_any _ _ _ _).mono ?_; rintro e w1 ⟨rfl, rfl⟩)
 go_ret
 exact ⟨rfl, gr_then_alloc (gr_plug (gr_plug hW (Nat.le_refl _) _) (by omega) _) _⟩
set_option maxHeartbeats 1000000 in
set_option maxRecDepth 100000 in
theorem fits_7 (f : Fn) (A B C : Option Addr) (ca cb cc : Nat) (funcs : Int) (x : Ins) (w : World) (hl : f.consts.length <= 10000) (hco : f.code.length <= 65536) (hlo : 0 <= f.locals) (hlo' : f.locals <= 10000) (hfu : 0 <= funcs) (hfu' : funcs <= 1000000) (h0 : 1 <= x.op) (h1 : x.op <= 53) (hk : operandOf x.op = 7) (hb : (x.b != 0) = false) : FitsIs f A B C ca cb cc funcs x w (betw x.a 0 ((f.code.length : Int) - 1)) := by
 have cD := fun w => desc_k x.op 7 w h0 h1 hk
 have HD := Lib.hid cD
 clear cD hk
 unfold FitsIs
 go_enter Tryz.func56, Tryz.ntmps56
 go_wp2_with fail
 refine (HD.out _).mono ?_
 rintro e w1 ⟨rfl, hb1⟩
 have e1 := heap_gr hb1 (heap_alloc2_old w _ _)
 have e2 := heap_gr hb1 (heap_alloc2_new w _ _)
 have hW0 : Gr w w1 := (gr_alloc2 w _ _).trans hb1
 clear hb1 HD
 obtain ⟨W, hw1, hs1, hs2, hW⟩ := plug2 e1 e2
 replace hW := hW0.trans hW
 clear e1 e2 hW0
 subst hw1
 go_wp2_with (go_at_call 55; refine (between_any _ _ _ _).mono ?_; rintro e w1 ⟨rfl, rfl⟩)
 go_ret
 exact ⟨rfl, gr_then_alloc (gr_plug (gr_plug hW (Nat.le_refl _) _) (by omega) _) _⟩
set_option maxHeartbeats 1000000 in
set_option maxRecDepth 100000 in
theorem fits_8 (f : Fn) (A B C : Option Addr) (ca cb cc : Nat) (funcs : Int) (x : Ins) (w : World) (hl : f.consts.length <= 10000) (hco : f.code.length <= 65536) (hlo : 0 <= f.locals) (hlo' : f.locals <= 10000) (hfu : 0 <= funcs) (hfu' : funcs <= 1000000) (h0 : 1 <= x.op) (h1 : x.op <= 53) (hk : operandOf x.op = 8) (hb : (x.b != 0) = false) : FitsIs f A B C ca cb cc funcs x w (betw x.a 1 4) := by
 have cD := fun w => desc_k x.op 8 w h0 h1 hk
 have HD := Lib.hid cD
 clear cD hk
 unfold FitsIs
 go_enter Tryz.func56, Tryz.ntmps56
 go_wp2_with fail
 refine (HD.out _).mono ?_
 rintro e w1 ⟨rfl, hb1⟩
 have e1 := heap_gr hb1 (heap_alloc2_old w _ _)
 have e2 := heap_gr hb1 (heap_alloc2_new w _ _)
 have hW0 : Gr w w1 := (gr_alloc2 w _ _).trans hb1
 clear hb1 HD
 obtain ⟨W, hw1, hs1, hs2, hW⟩ := plug2 e1 e2
 replace hW := hW0.trans hW
 clear e1 e2 hW0
 subst hw1
 go_wp2_with (go_at_call 55; refine (between_any _ _ _ _).mono ?_; rintro e w1 ⟨rfl, rfl⟩)
 go_ret
 exact ⟨rfl, gr_then_alloc (gr_plug (gr_plug hW (Nat.le_refl _) _) (by omega) _) _⟩
set_option maxHeartbeats 1000000 in
set_option maxRecDepth 100000 in
theorem fits_9 (f : Fn) (A B C : Option Addr) (ca cb cc : Nat) (funcs : Int) (x : Ins) (w : World) (hl : f.consts.length <= 10000) (hco : f.code.length <= 65536) (hlo : 0 <= f.locals) (hlo' : f.locals <= 10000) (hfu : 0 <= funcs) (hfu' : funcs <= 1000000) (h0 : 1 <= x.op) (h1 : x.op <= 53) (hk : operandOf x.op = 9) (hb : (x.b != 0) = false) : FitsIs f A B C ca cb cc funcs x w (betw x.a 6 20) := by
 have cD := fun w => desc_k x.op 9 w h0 h1 hk
 have HD := Lib.hid cD
 clear cD hk
 unfold FitsIs
 go_enter Tryz.func56, Tryz.ntmps56
 go_wp2_with fail
 refine (HD.out _).mono ?_
 rintro e w1 ⟨rfl, hb1⟩
 have e1 := heap_gr hb1 (heap_alloc2_old w _ _)
 have e2 := heap_gr hb1 (heap_alloc2_new w _ _)
 have hW0 : Gr w w1 := (gr_alloc2 w _ _).trans hb1
 clear hb1 HD
 obtain ⟨W, hw1, hs1, hs2, hW⟩ := plug2 e1 e2
 replace hW := hW0.trans hW
 clear e1 e2 hW0
 subst hw1
 go_wp2_with (go_at_call 55; refine (between_any _ _ _ _).mono ?_; rintro e w1 ⟨rfl, rfl⟩)
 go_ret
 exact ⟨rfl, gr_then_alloc (gr_plug (gr_plug hW (Nat.le_refl _) _) (by omega) _) _⟩
set_option maxHeartbeats 1000000 in
set_option maxRecDepth 100000 in
theorem fits_4t (f : Fn) (A B C : Option Addr) (ca cb cc : Nat) (funcs : Int) (x : Ins) (w : World) (hl : f.consts.length <= 10000) (hco : f.code.length <= 65536) (hlo : 0 <= f.locals) (hlo' : f.locals <= 10000) (hfu : 0 <= funcs) (hfu' : funcs <= 1000000) (h0 : 1 <= x.op) (h1 : x.op <= 53) (hk : operandOf x.op = 4) (hq : betw x.a 0 10000 = true) : FitsIs f A B C ca cb cc funcs x w (betw x.b 0 10000) := by
 have cD := fun w => desc_k x.op 4 w h0 h1 hk
 have HD := Lib.hid cD
 clear cD hk
 have HQ := Lib.hid hq
 clear hq
 unfold FitsIs
 go_enter Tryz.func56, Tryz.ntmps56
 go_wp2_with fail
 refine (HD.out _).mono ?_
 rintro e w1 ⟨rfl, hb1⟩
 have e1 := heap_gr hb1 (heap_alloc2_old w _ _)
 have e2 := heap_gr hb1 (heap_alloc2_new w _ _)
 have hW0 : Gr w w1 := (gr_alloc2 w _ _).trans hb1
 clear hb1 HD
 obtain ⟨W, hw1, hs1, hs2, hW⟩ := plug2 e1 e2
 replace hW := hW0.trans hW
 clear e1 e2 hW0
 subst hw1
 go_wp2_with fail
 refine (between_eq _ _ _ true HQ.out _).mono ?_
 rintro e w1 ⟨rfl, rfl⟩
 go_wp2_with (go_at_call 55; refine (between_any _ _ _ _).mono ?_; rintro e w1 ⟨rfl, rfl⟩)
 go_ret
 exact ⟨rfl, gr_then_alloc (gr_plug (gr_plug hW (Nat.le_refl _) _) (by omega) _) _⟩
set_option maxHeartbeats 1000000 in
set_option maxRecDepth 100000 in
theorem fits_4f (f : Fn) (A B C : Option Addr) (ca cb cc : Nat) (funcs : Int) (x : Ins) (w : World) (hl : f.consts.length <= 10000) (hco : f.code.length <= 65536) (hlo : 0 <= f.locals) (hlo' : f.locals <= 10000) (hfu : 0 <= funcs) (hfu' : funcs <= 1000000) (h0 : 1 <= x.op) (h1 : x.op <= 53) (hk : operandOf x.op = 4) (hq : betw x.a 0 10000 = false) : FitsIs f A B C ca cb cc funcs x w false := by
 have cD := fun w => desc_k x.op 4 w h0 h1 hk
 have HD := Lib.hid cD
 clear cD hk
 have HQ := Lib.hid hq
 clear hq
 unfold FitsIs
 go_enter Tryz.func56, Tryz.ntmps56
 go_wp2_with fail
 refine (HD.out _).mono ?_
 rintro e w1 ⟨rfl, hb1⟩
 have e1 := heap_gr hb1 (heap_alloc2_old w _ _)
 have e2 := heap_gr hb1 (heap_alloc2_new w _ _)
 have hW0 : Gr w w1 := (gr_alloc2 w _ _).trans hb1
 clear hb1 HD
 obtain ⟨W, hw1, hs1, hs2, hW⟩ := plug2 e1 e2
 replace hW := hW0.trans hW
 clear e1 e2 hW0
 subst hw1
 go_wp2_with fail
 refine (between_eq _ _ _ false HQ.out _).mono ?_
 rintro e w1 ⟨rfl, rfl⟩
 go_wp2_with fail
 go_ret
 exact ⟨rfl, gr_then_alloc (gr_plug (gr_plug hW (Nat.le_refl _) _) (by omega) _) _⟩
set_option maxHeartbeats 1000000 in
set_option maxRecDepth 100000 in
theorem fits_2f (f : Fn) (A B C : Option Addr) (ca cb cc : Nat) (funcs : Int) (x : Ins) (w : World) (hl : f.consts.length <= 10000) (hco : f.code.length <= 65536) (hlo : 0 <= f.locals) (hlo' : f.locals <= 10000) (hfu : 0 <= funcs) (hfu' : funcs <= 1000000) (h0 : 1 <= x.op) (h1 : x.op <= 53) (hk : operandOf x.op = 2) (hb : (x.b != 0) = false) (hq : betw x.a 0 ((f.consts.length : Int) - 1) = false) : FitsIs f A B C ca cb cc funcs x w false := by
 have cD := fun w => desc_k x.op 2 w h0 h1 hk
 have HD := Lib.hid cD
 clear cD hk
 have HQ := Lib.hid hq
 clear hq
 unfold FitsIs
 go_enter Tryz.func56, Tryz.ntmps56
 go_wp2_with fail
 refine (HD.out _).mono ?_
 rintro e w1 ⟨rfl, hb1⟩
 have e1 := heap_gr hb1 (heap_alloc2_old w _ _)
 have e2 := heap_gr hb1 (heap_alloc2_new w _ _)
 have hW0 : Gr w w1 := (gr_alloc2 w _ _).trans hb1
 clear hb1 HD
 obtain ⟨W, hw1, hs1, hs2, hW⟩ := plug2 e1 e2
 replace hW := hW0.trans hW
 clear e1 e2 hW0
 subst hw1
 go_wp2_with fail
 refine (between_eq _ _ _ false HQ.out _).mono ?_
 rintro e w1 ⟨rfl, rfl⟩
 go_wp2_with fail
 go_ret
 exact ⟨rfl, gr_then_alloc (gr_plug (gr_plug hW (Nat.le_refl _) _) (by omega) _) _⟩
set_option maxHeartbeats 1000000 in
set_option maxRecDepth 100000 in
theorem fits_2t (f : Fn) (A B C : Option Addr) (ca cb cc : Nat) (funcs : Int) (x : Ins) (w : World) (hl : f.consts.length <= 10000) (hco : f.code.length <= 65536) (hlo : 0 <= f.locals) (hlo' : f.locals <= 10000) (hfu : 0 <= funcs) (hfu' : funcs <= 1000000) (h0 : 1 <= x.op) (h1 : x.op <= 53) (hk : operandOf x.op = 2) (hb : (x.b != 0) = false) (hq : betw x.a 0 ((f.consts.length : Int) - 1) = true) (ha : 0 <= x.a) (ha' : x.a < f.consts.length) (kd : Int) (b o : Nat) (hB : B = some ⟨b, o, none⟩) (hcell : w.cell? ⟨b, o + x.a.toNat * 3, none⟩ = some (.int .i64 kd)) : FitsIs f A B C ca cb cc funcs x w (kd == 2) := by
 subst hB
 have hblt : b < w.heap.size := block_lt_of_cell hcell
 have cD := fun w => desc_k x.op 2 w h0 h1 hk
 have HD := Lib.hid cD
 clear cD hk
 have HQ := Lib.hid hq
 clear hq
 unfold FitsIs
 go_enter Tryz.func56, Tryz.ntmps56
 go_wp2_with fail
 refine (HD.out _).mono ?_
 rintro e w1 ⟨rfl, hb1⟩
 have e1 := heap_gr hb1 (heap_alloc2_old w _ _)
 have e2 := heap_gr hb1 (heap_alloc2_new w _ _)
 have hW0 : Gr w w1 := (gr_alloc2 w _ _).trans hb1
 clear hb1 HD
 obtain ⟨W, hw1, hs1, hs2, hW⟩ := plug2 e1 e2
 replace hW := hW0.trans hW
 clear e1 e2 hW0
 subst hw1
 have hcW := cell_gr hW hcell
 clear hcell
 have hn1 : ¬ b = w.heap.size := by omega
 have hn2 : ¬ b = w.heap.size + 1 := by omega
 have hn3 : b < W.heap.size := by omega
 go_wp2_with fail
 refine (between_eq _ _ _ true HQ.out _).mono ?_
 rintro e w1 ⟨rfl, rfl⟩
 go_wp2_with fail
 go_ret
 exact ⟨rfl, gr_then_alloc (gr_plug (gr_plug hW (Nat.le_refl _) _) (by omega) _) _⟩
theorem fits_any (f : Fn) (A B C : Option Addr) (ca cb cc : Nat) (funcs : Int) (x : Ins) (w : World) (hl : f.consts.length <= 10000) (hco : f.code.length <= 65536) (hlo : 0 <= f.locals) (hlo' : f.locals <= 10000) (hfu : 0 <= funcs) (hfu' : funcs <= 1000000) (hB : SlAt w B 3 cstCells f.consts) : FitsIs f A B C ca cb cc funcs x w (fitsB f funcs x) := by
 by_cases hin : 1 <= x.op /\ x.op <= 53
 case neg =>
  have : fitsB f funcs x = false := by simp only [fitsB]; rw [decide_eq_false hin]; rfl
  rw [this]
  exact fits_out f A B C ca cb cc funcs x w hl hco hlo hlo' hfu hfu' (by omega)
 obtain ⟨h0, h1⟩ := hin
 have hr : decide (1 <= x.op /\ x.op <= 53) = true := by simp; omega
 by_cases hk4 : operandOf x.op = 4
 ·by_cases hq : betw x.a 0 10000 = true
  ·have : fitsB f funcs x = betw x.b 0 10000 := by simp [fitsB, hk4, argOk, hq, h0, h1]
   rw [this]
   exact fits_4t f A B C ca cb cc funcs x w hl hco hlo hlo' hfu hfu' h0 h1 hk4 hq
  ·replace hq := eq_false_of_ne_true hq
   have : fitsB f funcs x = false := by simp [fitsB, hk4, argOk, hq]
   rw [this]
   exact fits_4f f A B C ca cb cc funcs x w hl hco hlo hlo' hfu hfu' h0 h1 hk4 hq
 by_cases hb : x.b = 0
 case neg =>
  have : fitsB f funcs x = false := by simp [fitsB, hk4, hb]
  rw [this]
  exact fits_b f A B C ca cb cc funcs x w hl hco hlo hlo' hfu hfu' h0 h1 _ rfl (by simpa using hk4) (by simpa using hb)
 have hb' : (x.b != 0) = false := by simp [hb]
 have hfit : fitsB f funcs x = argOk f funcs (operandOf x.op) x.a x.b := by simp [fitsB, hb, h0, h1]
 rw [hfit]
 have hle := operandOf_le x.op
 have hks : operandOf x.op = 0 \/ operandOf x.op = 1 \/ operandOf x.op = 2 \/ operandOf x.op = 3 \/ operandOf x.op = 5 \/ operandOf x.op = 6 \/ operandOf x.op = 7 \/ operandOf x.op = 8 \/ operandOf x.op = 9 := by omega
 rcases hks with hk | hk | hk | hk | hk | hk | hk | hk | hk
 ·rw [hk]; exact fits_0 f A B C ca cb cc funcs x w hl hco hlo hlo' hfu hfu' h0 h1 hk hb'
 ·rw [hk]; exact fits_1 f A B C ca cb cc funcs x w hl hco hlo hlo' hfu hfu' h0 h1 hk hb'
 ·by_cases hq : betw x.a 0 ((f.consts.length : Int) - 1) = true
  ·have hq' := hq
   simp only [betw, Bool.and_eq_true, decide_eq_true_eq] at hq'
   have hlt : x.a.toNat < f.consts.length := by omega
   obtain ⟨b, o, e, hc⟩ := hB x.a.toNat f.consts[x.a.toNat] (List.getElem?_eq_getElem hlt)
   have hc0 := hc 0 _ rfl
   have hk2 : kindAt f.consts x.a = (f.consts[x.a.toNat]).kind := by simp [kindAt, List.getElem?_eq_getElem hlt]
   have : argOk f funcs (operandOf x.op) x.a x.b = ((f.consts[x.a.toNat]).kind == 2) := by rw [hk]; simp [argOk, hq, hk2]
   rw [this]
   exact fits_2t f A B C ca cb cc funcs x w hl hco hlo hlo' hfu hfu' h0 h1 hk hb' hq hq'.1 (by omega) _ b o e hc0
  ·replace hq := eq_false_of_ne_true hq
   have : argOk f funcs (operandOf x.op) x.a x.b = false := by rw [hk]; simp [argOk, hq]
   rw [this]
   exact fits_2f f A B C ca cb cc funcs x w hl hco hlo hlo' hfu hfu' h0 h1 hk hb' hq
 ·rw [hk]; exact fits_3 f A B C ca cb cc funcs x w hl hco hlo hlo' hfu hfu' h0 h1 hk hb'
 ·rw [hk]; exact fits_5 f A B C ca cb cc funcs x w hl hco hlo hlo' hfu hfu' h0 h1 hk hb'
 ·rw [hk]; exact fits_6 f A B C ca cb cc funcs x w hl hco hlo hlo' hfu hfu' h0 h1 hk hb'
 ·rw [hk]; exact fits_7 f A B C ca cb cc funcs x w hl hco hlo hlo' hfu hfu' h0 h1 hk hb'
 ·rw [hk]; exact fits_8 f A B C ca cb cc funcs x w hl hco hlo hlo' hfu hfu' h0 h1 hk hb'
 ·rw [hk]; exact fits_9 f A B C ca cb cc funcs x w hl hco hlo hlo' hfu hfu' h0 h1 hk hb'
end Go.Proofs.YtjefbgfohijaoaaGreatDoor

/- Own work: bytecode.formed. -/
namespace Go.Proofs.YtjefbgfohijaoaaGreatDoor
open Go.RowKit
set_option linter.unusedVariables false
set_option linter.unusedSimpArgs false
def headB (f : Fn) : Bool := decide (f.name.size <= 1000) && (validB f.name && (betw f.kind 1 5 && (betw f.params 0 f.locals && decide (f.locals <= 10000))))
def sizeB (f : Fn) : Bool := betw f.code.length 1 65536 && (decide (f.consts.length <= 10000) && decide (f.hdls.length <= 10000))
def cstOk (c : Cst) : Bool := decide (c.kind = 1) || (decide (c.kind = 2) && (decide (c.str.size <= 1048576) && validB c.str))
def hdlOk (n : Int) (h : Hdl) : Bool := decide (0 <= h.lo) && (decide (h.lo < h.hi) && (decide (h.hi <= n) && (betw h.tg 0 (n - 1) && (betw h.dp 0 10000 && betw h.sc 0 10000))))
def partsB (f : Fn) (funcs : Int) : Bool := f.consts.all cstOk && (f.code.all (fitsB f funcs) && f.hdls.all (hdlOk f.code.length))
def formedB (f : Fn) (funcs : Int) : Bool := headB f && (sizeB f && partsB f funcs)
theorem valid_eq (s : ByteArray) (r : Bool) (h : validB s = r) (w : World) (hs : s.size <= 9223372036854775807) (hT : Tabs w) :
  Calls Tryz.prog 54 #[.string s] w fun e w' => e = .returned (.bool r) /\ Gr w w' := by
 subst h; exact valid_any s w hs hT
def FormedIs (f : Fn) (A B C : Option Addr) (ca cb cc : Nat) (funcs : Int) (w : World) (r : Bool) : Prop :=
 Calls Tryz.prog 29 #[.agg #[.string f.name, .int .i64 f.kind, .int .i64 f.params, .int .i64 f.locals, .slice A f.code.length ca, .slice B f.consts.length cb, .slice C f.hdls.length cc], .int .i64 funcs] w
   fun e w' => e = .returned (.bool r) /\ Gr w w'
def fnBox (f : Fn) (A B C : Option Addr) (ca cb cc : Nat) : Obj := .cells #[.string f.name, .int .i64 f.kind, .int .i64 f.params, .int .i64 f.locals, .slice A f.code.length ca, .slice B f.consts.length cb, .slice C f.hdls.length cc] 33 (0, 0)
set_option maxHeartbeats 1000000 in
set_option maxRecDepth 100000 in
theorem formed_h1 (f : Fn) (A B C : Option Addr) (ca cb cc : Nat) (funcs : Int) (w : World) (hT : Tabs w) (hnm : f.name.size <= 9223372036854775807) (hl1 : f.code.length <= 9223372036854775807) (hl2 : f.consts.length <= 9223372036854775807) (hl3 : f.hdls.length <= 9223372036854775807) (h : 1000 < f.name.size) : FormedIs f A B C ca cb cc funcs w false := by
 have HhT := Lib.hid hT
 clear hT
 have h' : (1000 : Int) < f.name.size := by omega
 unfold FormedIs
 go_enter Tryz.func29, Tryz.ntmps29
 go_wp2_with fail
 go_ret
 exact ⟨rfl, gr_alloc _ _⟩
set_option maxHeartbeats 1000000 in
set_option maxRecDepth 100000 in
theorem formed_h2 (f : Fn) (A B C : Option Addr) (ca cb cc : Nat) (funcs : Int) (w : World) (hT : Tabs w) (hnm : f.name.size <= 9223372036854775807) (hl1 : f.code.length <= 9223372036854775807) (hl2 : f.consts.length <= 9223372036854775807) (hl3 : f.hdls.length <= 9223372036854775807) (h : f.name.size <= 1000) (hv : validB f.name = false) : FormedIs f A B C ca cb cc funcs w false := by
 have HhT := Lib.hid hT
 clear hT
 have Hhv := Lib.hid hv
 clear hv
 have h' : ¬ (1000 : Int) < f.name.size := by omega
 unfold FormedIs
 go_enter Tryz.func29, Tryz.ntmps29
 go_wp2_with fail
 refine (valid_eq _ false Hhv.out _ (by omega) (HhT.out.gr (gr_alloc _ _))).mono ?_
 rintro e w1 ⟨rfl, hb1⟩
 have e1 := heap_gr hb1 (heap_alloc_new w _)
 have hW0 : Gr w w1 := (gr_alloc w _).trans hb1
 clear hb1
 obtain ⟨W, hw1, hs1, hW⟩ := plug1 e1
 replace hW := hW0.trans hW
 clear e1 hW0
 subst hw1
 go_wp2_with fail
 go_ret
 exact ⟨rfl, gr_plug hW (Nat.le_refl _) _⟩
set_option maxHeartbeats 1000000 in
set_option maxRecDepth 100000 in
theorem formed_h3 (f : Fn) (A B C : Option Addr) (ca cb cc : Nat) (funcs : Int) (w : World) (hT : Tabs w) (hnm : f.name.size <= 9223372036854775807) (hl1 : f.code.length <= 9223372036854775807) (hl2 : f.consts.length <= 9223372036854775807) (hl3 : f.hdls.length <= 9223372036854775807) (h : f.name.size <= 1000) (hv : validB f.name = true) (hk : betw f.kind 1 5 = false) : FormedIs f A B C ca cb cc funcs w false := by
 have HhT := Lib.hid hT
 clear hT
 have Hhv := Lib.hid hv
 clear hv
 have Hhk := Lib.hid hk
 clear hk
 have h' : ¬ (1000 : Int) < f.name.size := by omega
 unfold FormedIs
 go_enter Tryz.func29, Tryz.ntmps29
 go_wp2_with fail
 refine (valid_eq _ true Hhv.out _ (by omega) (HhT.out.gr (gr_alloc _ _))).mono ?_
 rintro e w1 ⟨rfl, hb1⟩
 have e1 := heap_gr hb1 (heap_alloc_new w _)
 have hW0 : Gr w w1 := (gr_alloc w _).trans hb1
 clear hb1
 obtain ⟨W, hw1, hs1, hW⟩ := plug1 e1
 replace hW := hW0.trans hW
 clear e1 hW0
 subst hw1
 go_wp2_with fail
 refine (between_eq _ _ _ false Hhk.out _).mono ?_
 rintro e w1 ⟨rfl, rfl⟩
 go_wp2_with fail
 go_ret
 exact ⟨rfl, gr_plug hW (Nat.le_refl _) _⟩
set_option maxHeartbeats 1000000 in
set_option maxRecDepth 100000 in
theorem formed_h4 (f : Fn) (A B C : Option Addr) (ca cb cc : Nat) (funcs : Int) (w : World) (hT : Tabs w) (hnm : f.name.size <= 9223372036854775807) (hl1 : f.code.length <= 9223372036854775807) (hl2 : f.consts.length <= 9223372036854775807) (hl3 : f.hdls.length <= 9223372036854775807) (h : f.name.size <= 1000) (hv : validB f.name = true) (hk : betw f.kind 1 5 = true) (hp : betw f.params 0 f.locals = false) : FormedIs f A B C ca cb cc funcs w false := by
 have HhT := Lib.hid hT
 clear hT
 have Hhv := Lib.hid hv
 clear hv
 have Hhk := Lib.hid hk
 clear hk
 have Hhp := Lib.hid hp
 clear hp
 have h' : ¬ (1000 : Int) < f.name.size := by omega
 unfold FormedIs
 go_enter Tryz.func29, Tryz.ntmps29
 go_wp2_with fail
 refine (valid_eq _ true Hhv.out _ (by omega) (HhT.out.gr (gr_alloc _ _))).mono ?_
 rintro e w1 ⟨rfl, hb1⟩
 have e1 := heap_gr hb1 (heap_alloc_new w _)
 have hW0 : Gr w w1 := (gr_alloc w _).trans hb1
 clear hb1
 obtain ⟨W, hw1, hs1, hW⟩ := plug1 e1
 replace hW := hW0.trans hW
 clear e1 hW0
 subst hw1
 go_wp2_with fail
 refine (between_eq _ _ _ true Hhk.out _).mono ?_
 rintro e w1 ⟨rfl, rfl⟩
 go_wp2_with fail
 refine (between_eq _ _ _ false Hhp.out _).mono ?_
 rintro e w1 ⟨rfl, rfl⟩
 go_wp2_with fail
 go_ret
 exact ⟨rfl, gr_plug hW (Nat.le_refl _) _⟩
set_option maxHeartbeats 1000000 in
set_option maxRecDepth 100000 in
theorem formed_h5 (f : Fn) (A B C : Option Addr) (ca cb cc : Nat) (funcs : Int) (w : World) (hT : Tabs w) (hnm : f.name.size <= 9223372036854775807) (hl1 : f.code.length <= 9223372036854775807) (hl2 : f.consts.length <= 9223372036854775807) (hl3 : f.hdls.length <= 9223372036854775807) (h : f.name.size <= 1000) (hv : validB f.name = true) (hk : betw f.kind 1 5 = true) (hp : betw f.params 0 f.locals = true) (hlo : 10000 < f.locals) : FormedIs f A B C ca cb cc funcs w false := by
 have HhT := Lib.hid hT
 clear hT
 have Hhv := Lib.hid hv
 clear hv
 have Hhk := Lib.hid hk
 clear hk
 have Hhp := Lib.hid hp
 clear hp
 have h' : ¬ (1000 : Int) < f.name.size := by omega
 unfold FormedIs
 go_enter Tryz.func29, Tryz.ntmps29
 go_wp2_with fail
 refine (valid_eq _ true Hhv.out _ (by omega) (HhT.out.gr (gr_alloc _ _))).mono ?_
 rintro e w1 ⟨rfl, hb1⟩
 have e1 := heap_gr hb1 (heap_alloc_new w _)
 have hW0 : Gr w w1 := (gr_alloc w _).trans hb1
 clear hb1
 obtain ⟨W, hw1, hs1, hW⟩ := plug1 e1
 replace hW := hW0.trans hW
 clear e1 hW0
 subst hw1
 go_wp2_with fail
 refine (between_eq _ _ _ true Hhk.out _).mono ?_
 rintro e w1 ⟨rfl, rfl⟩
 go_wp2_with fail
 refine (between_eq _ _ _ true Hhp.out _).mono ?_
 rintro e w1 ⟨rfl, rfl⟩
 go_wp2_with fail
 go_ret
 exact ⟨rfl, gr_plug hW (Nat.le_refl _) _⟩
set_option maxHeartbeats 1000000 in
set_option maxRecDepth 100000 in
theorem formed_s1 (f : Fn) (A B C : Option Addr) (ca cb cc : Nat) (funcs : Int) (w : World) (hT : Tabs w) (hnm : f.name.size <= 9223372036854775807) (hl1 : f.code.length <= 9223372036854775807) (hl2 : f.consts.length <= 9223372036854775807) (hl3 : f.hdls.length <= 9223372036854775807) (h : f.name.size <= 1000) (hv : validB f.name = true) (hk : betw f.kind 1 5 = true) (hp : betw f.params 0 f.locals = true) (hlo : f.locals <= 10000) (hc : betw f.code.length 1 65536 = false) : FormedIs f A B C ca cb cc funcs w false := by
 have HhT := Lib.hid hT
 clear hT
 have Hhv := Lib.hid hv
 clear hv
 have Hhk := Lib.hid hk
 clear hk
 have Hhp := Lib.hid hp
 clear hp
 have Hhc := Lib.hid hc
 clear hc
 have h' : ¬ (1000 : Int) < f.name.size := by omega
 unfold FormedIs
 go_enter Tryz.func29, Tryz.ntmps29
 go_wp2_with fail
 refine (valid_eq _ true Hhv.out _ (by omega) (HhT.out.gr (gr_alloc _ _))).mono ?_
 rintro e w1 ⟨rfl, hb1⟩
 have e1 := heap_gr hb1 (heap_alloc_new w _)
 have hW0 : Gr w w1 := (gr_alloc w _).trans hb1
 clear hb1
 obtain ⟨W, hw1, hs1, hW⟩ := plug1 e1
 replace hW := hW0.trans hW
 clear e1 hW0
 subst hw1
 go_wp2_with fail
 refine (between_eq _ _ _ true Hhk.out _).mono ?_
 rintro e w1 ⟨rfl, rfl⟩
 go_wp2_with fail
 refine (between_eq _ _ _ true Hhp.out _).mono ?_
 rintro e w1 ⟨rfl, rfl⟩
 go_wp2_with fail
 refine (between_eq _ _ _ false Hhc.out _).mono ?_
 rintro e w1 ⟨rfl, rfl⟩
 go_wp2_with fail
 go_ret
 exact ⟨rfl, gr_plug hW (Nat.le_refl _) _⟩
set_option maxHeartbeats 1000000 in
set_option maxRecDepth 100000 in
theorem formed_s2 (f : Fn) (A B C : Option Addr) (ca cb cc : Nat) (funcs : Int) (w : World) (hT : Tabs w) (hnm : f.name.size <= 9223372036854775807) (hl1 : f.code.length <= 9223372036854775807) (hl2 : f.consts.length <= 9223372036854775807) (hl3 : f.hdls.length <= 9223372036854775807) (h : f.name.size <= 1000) (hv : validB f.name = true) (hk : betw f.kind 1 5 = true) (hp : betw f.params 0 f.locals = true) (hlo : f.locals <= 10000) (hc : betw f.code.length 1 65536 = true) (hn : 10000 < f.consts.length) : FormedIs f A B C ca cb cc funcs w false := by
 have HhT := Lib.hid hT
 clear hT
 have Hhv := Lib.hid hv
 clear hv
 have Hhk := Lib.hid hk
 clear hk
 have Hhp := Lib.hid hp
 clear hp
 have Hhc := Lib.hid hc
 clear hc
 have hn' : (10000 : Int) < f.consts.length := by omega
 have h' : ¬ (1000 : Int) < f.name.size := by omega
 unfold FormedIs
 go_enter Tryz.func29, Tryz.ntmps29
 go_wp2_with fail
 refine (valid_eq _ true Hhv.out _ (by omega) (HhT.out.gr (gr_alloc _ _))).mono ?_
 rintro e w1 ⟨rfl, hb1⟩
 have e1 := heap_gr hb1 (heap_alloc_new w _)
 have hW0 : Gr w w1 := (gr_alloc w _).trans hb1
 clear hb1
 obtain ⟨W, hw1, hs1, hW⟩ := plug1 e1
 replace hW := hW0.trans hW
 clear e1 hW0
 subst hw1
 go_wp2_with fail
 refine (between_eq _ _ _ true Hhk.out _).mono ?_
 rintro e w1 ⟨rfl, rfl⟩
 go_wp2_with fail
 refine (between_eq _ _ _ true Hhp.out _).mono ?_
 rintro e w1 ⟨rfl, rfl⟩
 go_wp2_with fail
 refine (between_eq _ _ _ true Hhc.out _).mono ?_
 rintro e w1 ⟨rfl, rfl⟩
 go_wp2_with fail
 go_ret
 exact ⟨rfl, gr_plug hW (Nat.le_refl _) _⟩
set_option maxHeartbeats 1000000 in
set_option maxRecDepth 100000 in
theorem formed_s3 (f : Fn) (A B C : Option Addr) (ca cb cc : Nat) (funcs : Int) (w : World) (hT : Tabs w) (hnm : f.name.size <= 9223372036854775807) (hl1 : f.code.length <= 9223372036854775807) (hl2 : f.consts.length <= 9223372036854775807) (hl3 : f.hdls.length <= 9223372036854775807) (h : f.name.size <= 1000) (hv : validB f.name = true) (hk : betw f.kind 1 5 = true) (hp : betw f.params 0 f.locals = true) (hlo : f.locals <= 10000) (hc : betw f.code.length 1 65536 = true) (hn : f.consts.length <= 10000) (hm : 10000 < f.hdls.length) : FormedIs f A B C ca cb cc funcs w false := by
 have HhT := Lib.hid hT
 clear hT
 have Hhv := Lib.hid hv
 clear hv
 have Hhk := Lib.hid hk
 clear hk
 have Hhp := Lib.hid hp
 clear hp
 have Hhc := Lib.hid hc
 clear hc
 have hn' : ¬ (10000 : Int) < f.consts.length := by omega
 have hm' : (10000 : Int) < f.hdls.length := by omega
 have h' : ¬ (1000 : Int) < f.name.size := by omega
 unfold FormedIs
 go_enter Tryz.func29, Tryz.ntmps29
 go_wp2_with fail
 refine (valid_eq _ true Hhv.out _ (by omega) (HhT.out.gr (gr_alloc _ _))).mono ?_
 rintro e w1 ⟨rfl, hb1⟩
 have e1 := heap_gr hb1 (heap_alloc_new w _)
 have hW0 : Gr w w1 := (gr_alloc w _).trans hb1
 clear hb1
 obtain ⟨W, hw1, hs1, hW⟩ := plug1 e1
 replace hW := hW0.trans hW
 clear e1 hW0
 subst hw1
 go_wp2_with fail
 refine (between_eq _ _ _ true Hhk.out _).mono ?_
 rintro e w1 ⟨rfl, rfl⟩
 go_wp2_with fail
 refine (between_eq _ _ _ true Hhp.out _).mono ?_
 rintro e w1 ⟨rfl, rfl⟩
 go_wp2_with fail
 refine (between_eq _ _ _ true Hhc.out _).mono ?_
 rintro e w1 ⟨rfl, rfl⟩
 go_wp2_with fail
 go_ret
 exact ⟨rfl, gr_plug hW (Nat.le_refl _) _⟩
end Go.Proofs.YtjefbgfohijaoaaGreatDoor

/- Own work: bytecode.formed, its loops. -/
namespace Go.Proofs.YtjefbgfohijaoaaGreatDoor
open Go.RowKit
set_option linter.unusedVariables false
set_option linter.unusedSimpArgs false
def LoopRel (w : World) (g : Nat) (bx : Obj) (n : Nat) (P : Nat -> Prop) (i : Value) (wr : World) : Prop := ∃ k : Nat, k <= n /\ i = .int .i64 k /\ P k /\ Gr w wr /\ wr.heap[g]? = some bx
theorem all_take_succ {α : Type} {p : α -> Bool} {l : List α} {k : Nat} {x : α} (h : (l.take k).all p = true) (hx : l[k]? = some x) (hp : p x = true) : (l.take (k + 1)).all p = true := by
 rw [List.take_add_one, hx]; simp only [Option.toList_some, List.all_append, h, List.all_cons, hp, List.all_nil, Bool.and_self]
theorem all_false_at {α : Type} {p : α -> Bool} {l : List α} {k : Nat} {x : α} (hx : l[k]? = some x) (hp : p x = false) : l.all p = false := by
 rw [List.all_eq_false]; exact ⟨x, List.mem_of_getElem? hx, by simp [hp]⟩
theorem all_take_len {α : Type} {p : α -> Bool} {l : List α} {k : Nat} (h : (l.take k).all p = true) (hk : ¬ k < l.length) : l.all p = true := by
 rwa [List.take_of_length_le (by omega)] at h
theorem parts1 {f : Fn} {funcs : Int} (h : f.consts.all cstOk = false) : partsB f funcs = false := by unfold partsB; rw [h]; rfl
theorem parts2 {f : Fn} {funcs : Int} (h : f.code.all (fitsB f funcs) = false) : partsB f funcs = false := by unfold partsB; rw [h]; simp
theorem parts3 {f : Fn} {funcs : Int} (h : f.hdls.all (hdlOk f.code.length) = false) : partsB f funcs = false := by unfold partsB; rw [h]; simp
theorem parts0 {f : Fn} {funcs : Int} (h1 : f.consts.all cstOk = true) (h2 : f.code.all (fitsB f funcs) = true) (h3 : f.hdls.all (hdlOk f.code.length) = true) : partsB f funcs = true := by unfold partsB; rw [h1, h2, h3]; rfl
theorem fits_eq (f : Fn) (A B C : Option Addr) (ca cb cc : Nat) (funcs : Int) (x : Ins) (w : World) (r : Bool) (hr : fitsB f funcs x = r) (hl : f.consts.length <= 10000) (hco : f.code.length <= 65536) (hlo : 0 <= f.locals) (hlo' : f.locals <= 10000) (hfu : 0 <= funcs) (hfu' : funcs <= 1000000) (hB : SlAt w B 3 cstCells f.consts) :
  Calls Tryz.prog 56 #[.agg #[.string f.name, .int .i64 f.kind, .int .i64 f.params, .int .i64 f.locals, .slice A f.code.length ca, .slice B f.consts.length cb, .slice C f.hdls.length cc], .agg #[.int .i64 x.op, .int .i64 x.a, .int .i64 x.b], .int .i64 funcs] w
   fun e w' => e = .returned (.bool r) /\ Gr w w' := by
 subst hr; exact fits_any f A B C ca cb cc funcs x w hl hco hlo hlo' hfu hfu' hB
set_option maxHeartbeats 4000000 in
set_option maxRecDepth 100000 in
theorem formed_loops (f : Fn) (A B C : Option Addr) (ca cb cc : Nat) (funcs : Int) (w : World) (hT : Tabs w) (hF : FnAt w A B C f) (hfu : 0 <= funcs) (hfu' : funcs <= 1000000) (hcs : ∀ c ∈ f.consts, c.str.size <= 9223372036854775807)
  (h : f.name.size <= 1000) (hv : validB f.name = true) (hk : betw f.kind 1 5 = true) (hp : betw f.params 0 f.locals = true) (hlo : f.locals <= 10000) (hc : betw f.code.length 1 65536 = true) (hn : f.consts.length <= 10000) (hm : f.hdls.length <= 10000) :
  FormedIs f A B C ca cb cc funcs w (partsB f funcs) := by
 have hcl : f.code.length <= 65536 := by simp [betw] at hc; omega
 have hl0 : 0 <= f.locals := by simp [betw] at hp; omega
 have HT := Lib.hid hT
 have HF := Lib.hid hF
 have Hcs := Lib.hid hcs
 have hHv := Lib.hid hv
 have hHk := Lib.hid hk
 have hHp := Lib.hid hp
 have hHc := Lib.hid hc
 clear hT hv hk hp hc hF hcs
 have h' : decide ((1000 : Int) < f.name.size) = false := by simp; omega
 have hlo' : decide ((10000 : Int) < f.locals) = false := by simp; omega
 have hn' : decide ((10000 : Int) < f.consts.length) = false := by simp; omega
 have hm' : decide ((10000 : Int) < f.hdls.length) = false := by simp; omega
 unfold FormedIs
 go_enter Tryz.func29, Tryz.ntmps29
 go_wp2_with fail
 refine (valid_eq _ true hHv.out _ (by omega) (HT.out.gr (gr_alloc _ _))).mono ?_
 rintro e w1 ⟨rfl, hb1⟩
 have e1 := heap_gr hb1 (heap_alloc_new w _)
 have hW0 : Gr w w1 := (gr_alloc w _).trans hb1
 clear hb1
 obtain ⟨W, hw1, hs1, hW⟩ := plug1 e1
 replace hW := hW0.trans hW
 clear e1 hW0
 subst hw1
 go_wp2_with fail
 refine (between_eq _ _ _ true hHk.out _).mono ?_
 rintro e w1 ⟨rfl, rfl⟩
 go_wp2_with fail
 refine (between_eq _ _ _ true hHp.out _).mono ?_
 rintro e w1 ⟨rfl, rfl⟩
 go_wp2_with fail
 refine (between_eq _ _ _ true hHc.out _).mono ?_
 rintro e w1 ⟨rfl, rfl⟩
 go_wp2_with fail
 go_loopw [60] (LoopRel w w.heap.size (fnBox f A B C ca cb cc) f.consts.length (fun k => (f.consts.take k).all (cstOk) = true)) (fun i _ => f.consts.length - (intOf i).toNat)
 case atStart => exact ⟨0, Nat.zero_le _, rfl, rfl, gr_plug hW (Nat.le_refl _) _, heap_plug_same _ _ _ hs1⟩
 case round =>
  clear hW hs1
  obtain ⟨k, hk, rfl, hall, hgr, hbx⟩ := hrel
  obtain ⟨W1, hw1, hs1, hW⟩ := plug1 hbx
  replace hW := hgr.trans hW
  clear hgr hbx
  unfold fnBox at hw1
  subst hw1
  have Hall := Lib.hid hall
  clear hall
  by_cases hlt : k < f.consts.length
  ·obtain ⟨b, o, hB, hcell⟩ := HF.out.consts k f.consts[k] (List.getElem?_eq_getElem hlt)
   have hx : f.consts[k]? = some f.consts[k] := List.getElem?_eq_getElem hlt
   have hxs := Hcs.out _ (List.mem_of_getElem? hx)
   generalize f.consts[k] = c at hcell hx hxs
   have c0 := cell_gr hW (hcell 0 _ rfl)
   have c1 := cell_gr hW (hcell 1 _ rfl)
   have c2 := cell_gr hW (hcell 2 _ rfl)
   have hblt : b < w.heap.size := block_lt_of_cell (hcell 0 _ rfl)
   have hbne : ¬ b = w.heap.size := by omega
   have hblt' : b < W1.heap.size := by omega
   rw [<-Nat.add_assoc] at c0 c1 c2
   rw [Nat.add_zero] at c0
   have HX := Lib.hid hx
   clear hcell hx
   subst hB
   by_cases h1 : c.kind = 1
   ·have hk1 : (c.kind != 1) = false := by simp [h1]
    have Hok : cstOk c = true := by simp [cstOk, h1]
    have Hok := Lib.hid Hok
    clear h1
    go_wp2_with fail
    go_roundw
    case rel => exact ⟨k + 1, by omega, by go_num, all_take_succ Hall.out HX.out Hok.out, gr_then_alloc (gr_plug hW (Nat.le_refl _) _) _, heap_gr (gr_alloc _ _) (heap_plug_same _ _ _ hs1)⟩
    case measure => simp [intOf]; omega
   have hk1 : (c.kind != 1) = true := by simp [h1]
   by_cases h2 : c.kind = 2
   case neg =>
    have hk2 : (c.kind != 2) = true := by simp [h2]
    have Hok := Lib.hid (show cstOk c = false by simp [cstOk, h1, h2])
    clear h1 h2
    go_wp2_with fail
    go_ret
    exact ⟨ret_bool (parts1 (all_false_at HX.out Hok.out)).symm, gr_then_alloc (gr_plug hW (Nat.le_refl _) _) _⟩
   have hk2 : (c.kind != 2) = false := by simp [h2]
   by_cases h3 : c.str.size <= 1048576
   case neg =>
    have hk3 : decide ((1048576 : Int) < c.str.size) = true := by simp; omega
    have Hok := Lib.hid (show cstOk c = false by simp [cstOk, h1, h3])
    clear h1 h2 h3
    go_wp2_with fail
    go_ret
    exact ⟨ret_bool (parts1 (all_false_at HX.out Hok.out)).symm, gr_then_alloc (gr_plug hW (Nat.le_refl _) _) _⟩
   have hk3 : decide ((1048576 : Int) < c.str.size) = false := by simp; omega
   by_cases h4 : validB c.str = true
   case neg =>
    have Hv := Lib.hid (eq_false_of_ne_true h4)
    have Hok := Lib.hid (show cstOk c = false by simp [cstOk, h1, h4])
    clear h1 h2 h3 h4
    go_wp2_with fail
    refine (valid_eq _ false Hv.out _ (by omega) (HT.out.gr (gr_then_alloc (gr_plug hW (Nat.le_refl _) _) _))).mono ?_
    rintro e w1 ⟨rfl, hb1⟩
    have hW2 : Gr w w1 := Gr.trans (gr_then_alloc (gr_plug hW (Nat.le_refl _) _) _) hb1
    have hbx2 := heap_gr hb1 (heap_gr (gr_alloc _ _) (heap_plug_same _ _ _ hs1))
    clear hb1
    go_wp2_with fail
    go_ret
    exact ⟨ret_bool (parts1 (all_false_at HX.out Hok.out)).symm, hW2⟩
   have Hv := Lib.hid h4
   have Hok := Lib.hid (show cstOk c = true by simp [cstOk, h2, h3, h4])
   clear h1 h2 h3 h4
   go_wp2_with fail
   refine (valid_eq _ true Hv.out _ (by omega) (HT.out.gr (gr_then_alloc (gr_plug hW (Nat.le_refl _) _) _))).mono ?_
   rintro e w1 ⟨rfl, hb1⟩
   have hW2 : Gr w w1 := Gr.trans (gr_then_alloc (gr_plug hW (Nat.le_refl _) _) _) hb1
   have hbx2 := heap_gr hb1 (heap_gr (gr_alloc _ _) (heap_plug_same _ _ _ hs1))
   clear hb1
   go_wp2_with fail
   go_roundw
   case rel => exact ⟨k + 1, by omega, by go_num, all_take_succ Hall.out HX.out Hok.out, hW2, hbx2⟩
   case measure => simp [intOf]; omega
  have HC1 := Lib.hid (all_take_len Hall.out hlt)
  clear Hall
  go_wp2_with fail
  go_loopw [88] (LoopRel w w.heap.size (fnBox f A B C ca cb cc) f.code.length (fun k => (f.code.take k).all (fitsB f funcs) = true)) (fun i _ => f.code.length - (intOf i).toNat)
  case atStart => exact ⟨0, Nat.zero_le _, rfl, rfl, gr_plug hW (Nat.le_refl _) _, heap_plug_same _ _ _ hs1⟩
  case round =>
   clear hW hs1
   obtain ⟨k, hk, rfl, hall, hgr, hbx⟩ := hrel
   obtain ⟨W1, hw1, hs1, hW⟩ := plug1 hbx
   replace hW := hgr.trans hW
   clear hgr hbx
   unfold fnBox at hw1
   subst hw1
   have Hall := Lib.hid hall
   clear hall
   by_cases hlt2 : k < f.code.length
   ·obtain ⟨b, o, hB, hcell⟩ := HF.out.code k f.code[k] (List.getElem?_eq_getElem hlt2)
    have hx : f.code[k]? = some f.code[k] := List.getElem?_eq_getElem hlt2
    generalize f.code[k] = c at hcell hx
    have c0 := cell_gr hW (hcell 0 _ rfl)
    have c1 := cell_gr hW (hcell 1 _ rfl)
    have c2 := cell_gr hW (hcell 2 _ rfl)
    have hblt : b < w.heap.size := block_lt_of_cell (hcell 0 _ rfl)
    have hbne : ¬ b = w.heap.size := by omega
    have hblt' : b < W1.heap.size := by omega
    rw [<-Nat.add_assoc] at c0 c1 c2
    rw [Nat.add_zero] at c0
    have HX := Lib.hid hx
    clear hcell hx
    subst hB
    cases hq : fitsB f funcs c
    ·have HQ := Lib.hid hq
     clear hq
     go_wp2_with fail
     refine (fits_eq f _ B C ca cb cc funcs c _ false HQ.out (by omega) (by omega) (by omega) (by omega) (by omega) (by omega) (HF.out.consts.gr (gr_then_alloc (gr_plug hW (Nat.le_refl _) _) _))).mono ?_
     rintro e w1 ⟨rfl, hb1⟩
     have hW2 : Gr w w1 := Gr.trans (gr_then_alloc (gr_plug hW (Nat.le_refl _) _) _) hb1
     clear hb1
     go_wp2_with fail
     go_ret
     exact ⟨ret_bool (parts2 (all_false_at HX.out HQ.out)).symm, hW2⟩
    ·have HQ := Lib.hid hq
     clear hq
     go_wp2_with fail
     refine (fits_eq f _ B C ca cb cc funcs c _ true HQ.out (by omega) (by omega) (by omega) (by omega) (by omega) (by omega) (HF.out.consts.gr (gr_then_alloc (gr_plug hW (Nat.le_refl _) _) _))).mono ?_
     rintro e w1 ⟨rfl, hb1⟩
     have hW2 : Gr w w1 := Gr.trans (gr_then_alloc (gr_plug hW (Nat.le_refl _) _) _) hb1
     have hbx2 := heap_gr hb1 (heap_gr (gr_alloc _ _) (heap_plug_same _ _ _ hs1))
     clear hb1
     go_wp2_with fail
     go_roundw
     case rel => exact ⟨k + 1, by omega, by go_num, all_take_succ Hall.out HX.out HQ.out, hW2, hbx2⟩
     case measure => simp [intOf]; omega
   have HC2 := Lib.hid (all_take_len Hall.out hlt2)
   clear Hall
   go_wp2_with fail
   go_loopw [101] (LoopRel w w.heap.size (fnBox f A B C ca cb cc) f.hdls.length (fun k => (f.hdls.take k).all (hdlOk f.code.length) = true)) (fun i _ => f.hdls.length - (intOf i).toNat)
   case atStart => exact ⟨0, Nat.zero_le _, rfl, rfl, gr_plug hW (Nat.le_refl _) _, heap_plug_same _ _ _ hs1⟩
   case round =>
    clear hW hs1
    obtain ⟨k, hk, rfl, hall, hgr, hbx⟩ := hrel
    obtain ⟨W1, hw1, hs1, hW⟩ := plug1 hbx
    replace hW := hgr.trans hW
    clear hgr hbx
    unfold fnBox at hw1
    subst hw1
    have Hall := Lib.hid hall
    clear hall
    by_cases hlt3 : k < f.hdls.length
    ·obtain ⟨b, o, hB, hcell⟩ := HF.out.hdls k f.hdls[k] (List.getElem?_eq_getElem hlt3)
     have hx : f.hdls[k]? = some f.hdls[k] := List.getElem?_eq_getElem hlt3
     generalize f.hdls[k] = c at hcell hx
     have c0 := cell_gr hW (hcell 0 _ rfl)
     have c1 := cell_gr hW (hcell 1 _ rfl)
     have c2 := cell_gr hW (hcell 2 _ rfl)
     have c3 := cell_gr hW (hcell 3 _ rfl)
     have c4 := cell_gr hW (hcell 4 _ rfl)
     have hblt : b < w.heap.size := block_lt_of_cell (hcell 0 _ rfl)
     have hbne : ¬ b = w.heap.size := by omega
     have hblt' : b < W1.heap.size := by omega
     rw [<-Nat.add_assoc] at c0 c1 c2 c3 c4
     rw [Nat.add_zero] at c0
     have HX := Lib.hid hx
     clear hcell hx
     subst hB
     by_cases h1 : 0 <= c.lo
     case neg =>
      have hk1 : decide (c.lo < 0) = true := by simp; omega
      have Hok := Lib.hid (show hdlOk f.code.length c = false by simp [hdlOk, h1])
      clear h1
      go_wp2_with fail
      go_ret
      exact ⟨ret_bool (parts3 (all_false_at HX.out Hok.out)).symm, gr_then_alloc (gr_plug hW (Nat.le_refl _) _) _⟩
     have hk1 : decide (c.lo < 0) = false := by simp; omega
     by_cases h2 : c.lo < c.hi
     case neg =>
      have hk2 : decide (c.hi <= c.lo) = true := by simp; omega
      have Hok := Lib.hid (show hdlOk f.code.length c = false by simp [hdlOk, h2])
      clear h1 h2
      go_wp2_with fail
      go_ret
      exact ⟨ret_bool (parts3 (all_false_at HX.out Hok.out)).symm, gr_then_alloc (gr_plug hW (Nat.le_refl _) _) _⟩
     have hk2 : decide (c.hi <= c.lo) = false := by simp; omega
     by_cases h3 : c.hi <= (f.code.length : Int)
     case neg =>
      have hk3 : decide ((f.code.length : Int) < c.hi) = true := by simp; omega
      have Hok := Lib.hid (show hdlOk f.code.length c = false by simp [hdlOk, h3])
      clear h1 h2 h3
      go_wp2_with fail
      go_ret
      exact ⟨ret_bool (parts3 (all_false_at HX.out Hok.out)).symm, gr_then_alloc (gr_plug hW (Nat.le_refl _) _) _⟩
     have hk3 : decide ((f.code.length : Int) < c.hi) = false := by simp; omega
     by_cases h4 : betw c.tg 0 ((f.code.length : Int) - 1) = true
     case neg =>
      have Hq4 := Lib.hid (eq_false_of_ne_true h4)
      have Hok := Lib.hid (show hdlOk f.code.length c = false by simp [hdlOk, h4])
      clear h1 h2 h3 h4
      go_wp2_with fail
      refine (between_eq _ _ _ false Hq4.out _).mono ?_
      rintro e w1 ⟨rfl, rfl⟩
      go_wp2_with fail
      go_ret
      exact ⟨ret_bool (parts3 (all_false_at HX.out Hok.out)).symm, gr_then_alloc (gr_plug hW (Nat.le_refl _) _) _⟩
     have Hq4 := Lib.hid h4
     by_cases h5 : betw c.dp 0 10000 = true
     case neg =>
      have Hq5 := Lib.hid (eq_false_of_ne_true h5)
      have Hok := Lib.hid (show hdlOk f.code.length c = false by simp [hdlOk, h5])
      clear h1 h2 h3 h4 h5
      go_wp2_with fail
      refine (between_eq _ _ _ true Hq4.out _).mono ?_
      rintro e w1 ⟨rfl, rfl⟩
      go_wp2_with fail
      refine (between_eq _ _ _ false Hq5.out _).mono ?_
      rintro e w1 ⟨rfl, rfl⟩
      go_wp2_with fail
      go_ret
      exact ⟨ret_bool (parts3 (all_false_at HX.out Hok.out)).symm, gr_then_alloc (gr_plug hW (Nat.le_refl _) _) _⟩
     have Hq5 := Lib.hid h5
     by_cases h6 : betw c.sc 0 10000 = true
     case neg =>
      have Hq6 := Lib.hid (eq_false_of_ne_true h6)
      have Hok := Lib.hid (show hdlOk f.code.length c = false by simp [hdlOk, h6])
      clear h1 h2 h3 h4 h5 h6
      go_wp2_with fail
      refine (between_eq _ _ _ true Hq4.out _).mono ?_
      rintro e w1 ⟨rfl, rfl⟩
      go_wp2_with fail
      refine (between_eq _ _ _ true Hq5.out _).mono ?_
      rintro e w1 ⟨rfl, rfl⟩
      go_wp2_with fail
      refine (between_eq _ _ _ false Hq6.out _).mono ?_
      rintro e w1 ⟨rfl, rfl⟩
      go_wp2_with fail
      go_ret
      exact ⟨ret_bool (parts3 (all_false_at HX.out Hok.out)).symm, gr_then_alloc (gr_plug hW (Nat.le_refl _) _) _⟩
     have Hq6 := Lib.hid h6
     have Hok := Lib.hid (show hdlOk f.code.length c = true by simp [hdlOk, h1, h2, h3, h4, h5, h6])
     clear h1 h2 h3 h4 h5 h6
     go_wp2_with fail
     refine (between_eq _ _ _ true Hq4.out _).mono ?_
     rintro e w1 ⟨rfl, rfl⟩
     go_wp2_with fail
     refine (between_eq _ _ _ true Hq5.out _).mono ?_
     rintro e w1 ⟨rfl, rfl⟩
     go_wp2_with fail
     refine (between_eq _ _ _ true Hq6.out _).mono ?_
     rintro e w1 ⟨rfl, rfl⟩
     go_wp2_with fail
     go_roundw
     case rel => exact ⟨k + 1, by omega, by go_num, all_take_succ Hall.out HX.out Hok.out, gr_then_alloc (gr_plug hW (Nat.le_refl _) _) _, heap_gr (gr_alloc _ _) (heap_plug_same _ _ _ hs1)⟩
     case measure => simp [intOf]; omega
    have HC3 := Lib.hid (all_take_len Hall.out hlt3)
    go_wp2_with fail
    go_ret
    exact ⟨ret_bool (parts0 HC1.out HC2.out HC3.out).symm, gr_plug hW (Nat.le_refl _) _⟩
theorem formed_any (f : Fn) (A B C : Option Addr) (ca cb cc : Nat) (funcs : Int) (w : World) (hT : Tabs w) (hF : FnAt w A B C f) (hfu : 0 <= funcs) (hfu' : funcs <= 1000000) (hcs : ∀ c ∈ f.consts, c.str.size <= 9223372036854775807)
  (hnm : f.name.size <= 9223372036854775807) (hl1 : f.code.length <= 9223372036854775807) (hl2 : f.consts.length <= 9223372036854775807) (hl3 : f.hdls.length <= 9223372036854775807) : FormedIs f A B C ca cb cc funcs w (formedB f funcs) := by
 have F0 : ∀ r : Bool, formedB f funcs = r -> FormedIs f A B C ca cb cc funcs w r -> FormedIs f A B C ca cb cc funcs w (formedB f funcs) := fun r hr h => by rw [hr]; exact h
 by_cases h1 : f.name.size <= 1000
 case neg => exact F0 false (by simp [formedB, headB, h1]) (formed_h1 f A B C ca cb cc funcs w hT hnm hl1 hl2 hl3 (by omega))
 by_cases h2 : validB f.name = true
 case neg => exact F0 false (by simp [formedB, headB, h2]) (formed_h2 f A B C ca cb cc funcs w hT hnm hl1 hl2 hl3 h1 (eq_false_of_ne_true h2))
 by_cases h3 : betw f.kind 1 5 = true
 case neg => exact F0 false (by simp [formedB, headB, h3]) (formed_h3 f A B C ca cb cc funcs w hT hnm hl1 hl2 hl3 h1 h2 (eq_false_of_ne_true h3))
 by_cases h4 : betw f.params 0 f.locals = true
 case neg => exact F0 false (by simp [formedB, headB, h4]) (formed_h4 f A B C ca cb cc funcs w hT hnm hl1 hl2 hl3 h1 h2 h3 (eq_false_of_ne_true h4))
 by_cases h5 : f.locals <= 10000
 case neg => exact F0 false (by simp [formedB, headB, h5]) (formed_h5 f A B C ca cb cc funcs w hT hnm hl1 hl2 hl3 h1 h2 h3 h4 (by omega))
 by_cases h6 : betw f.code.length 1 65536 = true
 case neg => exact F0 false (by simp [formedB, sizeB, h6]) (formed_s1 f A B C ca cb cc funcs w hT hnm hl1 hl2 hl3 h1 h2 h3 h4 h5 (eq_false_of_ne_true h6))
 by_cases h7 : f.consts.length <= 10000
 case neg => exact F0 false (by simp [formedB, sizeB, h7]) (formed_s2 f A B C ca cb cc funcs w hT hnm hl1 hl2 hl3 h1 h2 h3 h4 h5 h6 (by omega))
 by_cases h8 : f.hdls.length <= 10000
 case neg => exact F0 false (by simp [formedB, sizeB, h8]) (formed_s3 f A B C ca cb cc funcs w hT hnm hl1 hl2 hl3 h1 h2 h3 h4 h5 h6 h7 (by omega))
 exact F0 (partsB f funcs) (by simp [formedB, headB, sizeB, h1, h2, h3, h4, h5, h6, h7, h8]) (formed_loops f A B C ca cb cc funcs w hT hF hfu hfu' hcs h1 h2 h3 h4 h5 h6 h7 h8)
end Go.Proofs.YtjefbgfohijaoaaGreatDoor

/- Own work: programs in memory; bytecode.Formed. -/
namespace Go.Proofs.YtjefbgfohijaoaaGreatDoor
open Go.RowKit
set_option linter.unusedVariables false
set_option linter.unusedSimpArgs false
theorem plug1b {w1 : World} {g1 : Nat} {o1 : Obj} (h1 : w1.heap[g1]? = some o1) : ∃ W, w1 = plug W g1 o1 /\ g1 < W.heap.size /\ Gr w1 W /\ Gr W w1 :=
 ⟨w1, (plug_self h1).symm, lt_of_block h1, Gr.refl _, Gr.refl _⟩
structure FnRef where
 f : Fn
 A : Option Addr
 B : Option Addr
 C : Option Addr
 ca : Nat
 cb : Nat
 cc : Nat
def fnCells (r : FnRef) : List Value := [.string r.f.name, .int .i64 r.f.kind, .int .i64 r.f.params, .int .i64 r.f.locals, .slice r.A r.f.code.length r.ca, .slice r.B r.f.consts.length r.cb, .slice r.C r.f.hdls.length r.cc]
theorem fnCells_len (x : FnRef) : (fnCells x).length = 7 := rfl
structure FnWf (r : FnRef) : Prop where
 nm : r.f.name.size <= 9223372036854775807
 l1 : r.f.code.length <= 9223372036854775807
 l2 : r.f.consts.length <= 9223372036854775807
 l3 : r.f.hdls.length <= 9223372036854775807
 cs : ∀ c ∈ r.f.consts, c.str.size <= 9223372036854775807
structure ProgAt (w : World) (A : Option Addr) (rs : List FnRef) : Prop where
 sl : SlAt w A 7 fnCells rs
 fns : ∀ r ∈ rs, FnAt w r.A r.B r.C r.f
 wf : ∀ r ∈ rs, FnWf r
theorem ProgAt.gr {w w' : World} {A : Option Addr} {rs : List FnRef} (h : ProgAt w A rs) (hg : Gr w w') : ProgAt w' A rs :=
 ⟨h.sl.gr hg, fun r hr => (h.fns r hr).gr hg, h.wf⟩
def progB (rs : List FnRef) : Bool := rs.all (fun r => formedB r.f rs.length) && decide ((rs.length : Int) <= 4096)
theorem formed_eq (r : FnRef) (funcs : Int) (w : World) (q : Bool) (hq : formedB r.f funcs = q) (hT : Tabs w) (hF : FnAt w r.A r.B r.C r.f) (hW : FnWf r) (hfu : 0 <= funcs) (hfu' : funcs <= 1000000) :
  Calls Tryz.prog 29 #[.agg #[.string r.f.name, .int .i64 r.f.kind, .int .i64 r.f.params, .int .i64 r.f.locals, .slice r.A r.f.code.length r.ca, .slice r.B r.f.consts.length r.cb, .slice r.C r.f.hdls.length r.cc], .int .i64 funcs] w
   fun e w' => e = .returned (.bool q) /\ Gr w w' := by
 subst hq; exact formed_any r.f r.A r.B r.C r.ca r.cb r.cc funcs w hT hF hfu hfu' hW.cs hW.nm hW.l1 hW.l2 hW.l3
def progBox (A : Option Addr) (n c : Nat) : Obj := .cells #[.slice A n c] 24 (0, 0)
set_option maxHeartbeats 2000000 in
set_option maxRecDepth 100000 in
theorem Formed_any (A : Option Addr) (c : Nat) (rs : List FnRef) (w : World) (hT : Tabs w) (hP : ProgAt w A rs) (hn : rs.length <= 1000000) :
  Calls Tryz.prog 14 #[.agg #[.slice A rs.length c]] w fun e w' => e = .returned (.bool (progB rs)) /\ Gr w w' := by
 have HT := Lib.hid hT
 have HP := Lib.hid hP
 clear hT hP
 go_enter Tryz.func14, Tryz.ntmps14
 go_wp2_with fail
 go_loopw [8] (LoopRel w w.heap.size (progBox A rs.length c) rs.length (fun k => (rs.take k).all (fun r => formedB r.f rs.length) = true)) (fun i _ => rs.length - (intOf i).toNat)
 case atStart => exact ⟨0, Nat.zero_le _, rfl, rfl, gr_alloc _ _, heap_alloc_new _ _⟩
 case round =>
  obtain ⟨k, hk, rfl, hall, hgr, hbx⟩ := hrel
  obtain ⟨W1, hw1, hs1, hW⟩ := plug1 hbx
  replace hW := hgr.trans hW
  clear hgr hbx
  unfold progBox at hw1
  subst hw1
  have Hall := Lib.hid hall
  clear hall
  by_cases hlt : k < rs.length
  ·obtain ⟨b, o, hB, hcell⟩ := HP.out.sl k rs[k] (List.getElem?_eq_getElem hlt)
   have hx : rs[k]? = some rs[k] := List.getElem?_eq_getElem hlt
   have hm := List.mem_of_getElem? hx
   have HF := Lib.hid (HP.out.fns _ hm)
   have HW := Lib.hid (HP.out.wf _ hm)
   generalize rs[k] = r at hcell hx hm HF HW
   have c0 := cell_gr hW (hcell 0 _ rfl)
   have c1 := cell_gr hW (hcell 1 _ rfl)
   have c2 := cell_gr hW (hcell 2 _ rfl)
   have c3 := cell_gr hW (hcell 3 _ rfl)
   have c4 := cell_gr hW (hcell 4 _ rfl)
   have c5 := cell_gr hW (hcell 5 _ rfl)
   have c6 := cell_gr hW (hcell 6 _ rfl)
   have hblt : b < w.heap.size := block_lt_of_cell (hcell 0 _ rfl)
   have hbne : ¬ b = w.heap.size := by omega
   have hblt' : b < W1.heap.size := by omega
   rw [<-Nat.add_assoc] at c0 c1 c2 c3 c4 c5 c6
   rw [Nat.add_zero] at c0
   have HX := Lib.hid hx
   clear hcell hx hm
   subst hB
   cases hq : formedB r.f rs.length
   ·have HQ := Lib.hid hq
    clear hq
    go_wp2_with fail
    refine (formed_eq r _ _ false HQ.out (HT.out.gr (gr_then_alloc (gr_plug hW (Nat.le_refl _) _) _)) (HF.out.gr (gr_then_alloc (gr_plug hW (Nat.le_refl _) _) _)) HW.out (by omega) (by omega)).mono ?_
    rintro e w1 ⟨rfl, hb1⟩
    have hW2 : Gr w w1 := Gr.trans (gr_then_alloc (gr_plug hW (Nat.le_refl _) _) _) hb1
    clear hb1
    go_wp2_with fail
    go_ret
    exact ⟨ret_bool (by unfold progB; rw [all_false_at HX.out HQ.out]; rfl), hW2⟩
   ·have HQ := Lib.hid hq
    clear hq
    go_wp2_with fail
    refine (formed_eq r _ _ true HQ.out (HT.out.gr (gr_then_alloc (gr_plug hW (Nat.le_refl _) _) _)) (HF.out.gr (gr_then_alloc (gr_plug hW (Nat.le_refl _) _) _)) HW.out (by omega) (by omega)).mono ?_
    rintro e w1 ⟨rfl, hb1⟩
    have hW2 : Gr w w1 := Gr.trans (gr_then_alloc (gr_plug hW (Nat.le_refl _) _) _) hb1
    have hbx2 := heap_gr hb1 (heap_gr (gr_alloc _ _) (heap_plug_same _ _ _ hs1))
    clear hb1
    go_wp2_with fail
    go_roundw
    case rel => exact ⟨k + 1, by omega, by go_num, all_take_succ Hall.out HX.out HQ.out, hW2, hbx2⟩
    case measure => simp [intOf]; omega
  ·go_wp2_with fail
   go_ret
   exact ⟨ret_bool (by unfold progB; rw [all_take_len Hall.out hlt]; rfl), gr_plug hW (Nat.le_refl _) _⟩
theorem Formed_eq (A : Option Addr) (c : Nat) (rs : List FnRef) (w : World) (q : Bool) (hq : progB rs = q) (hT : Tabs w) (hP : ProgAt w A rs) (hn : rs.length <= 1000000) :
  Calls Tryz.prog 14 #[.agg #[.slice A rs.length c]] w fun e w' => e = .returned (.bool q) /\ Gr w w' := by
 subst hq; exact Formed_any A c rs w hT hP hn
end Go.Proofs.YtjefbgfohijaoaaGreatDoor
