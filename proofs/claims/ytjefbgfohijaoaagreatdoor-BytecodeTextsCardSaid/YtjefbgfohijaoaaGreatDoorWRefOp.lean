/- Own work: knapsackref27.operand. -/
import Derived.Test.YtjefbgfohijaoaaGreatDoorWGF
import Derived.Test.YtjefbgfohijaoaaGreatDoorWRefDesc
namespace Go.Proofs.YtjefbgfohijaoaaGreatDoor
open Go.RowKit
set_option linter.unusedVariables false
set_option linter.unusedSimpArgs false
theorem nameOf_some (op : Int) (h0 : 1 <= op) (h1 : op <= 53) : (nameOf op).toList.isEmpty = false := by
 obtain ⟨n, rfl⟩ := Int.eq_ofNat_of_zero_le (show 0 <= op by omega)
 have hn : n < 54 := by omega
 have hall : ∀ m : Nat, m < 54 -> 1 <= m -> ((nameBytes.getD m []) == []) = false := by decide
 have := hall n hn (by omega)
 unfold nameOf
 rw [ByteArray.toList_eq]
 show (nameBytes.getD n []).isEmpty = false
 cases h : nameBytes.getD n [] with
 | nil => rw [h] at this; simp at this
 | cons a l => rfl
theorem rdesc_k (op k : Int) (w : World) (h0 : 1 <= op) (h1 : op <= 53) (hk : operandOf op = k) :
  Calls Tryz.prog 32 #[.int .i64 op] w fun e w' => e = .returned (.agg #[.string (nameOf op), .int .i64 k, .int .i64 (popsOf op), .int .i64 (pushesOf op), .bool (cntOf op), .int .i64 (jmpOf op), .bool (endsOf op)]) /\ Gr w w' := by
 subst hk
 exact rdesc_in op w h0 h1
theorem rdesc_o (op : Int) (w : World) (h : op < 1 \/ 53 < op) :
  Calls Tryz.prog 32 #[.int .i64 op] w fun e w' => e = .returned (.agg #[.string ByteArray.empty, .int .i64 0, .int .i64 0, .int .i64 0, .bool false, .int .i64 0, .bool false]) /\ Gr w w' :=
 rdesc_out op w h
theorem rbetween_eq (n a b : Int) (r : Bool) (h : betw n a b = r) (w : World) :
  Calls Tryz.prog 36 #[.int .i64 n, .int .i64 a, .int .i64 b] w fun e w' => e = .returned (.bool r) /\ w = w' := by
 subst h; exact rbetween_any n a b w
def ROpIs (f : Fn) (A B C : Option Addr) (ca cb cc : Nat) (funcs : Int) (x : Ins) (w : World) (r : Bool) : Prop :=
 Calls Tryz.prog 37 #[.agg #[.string f.name, .int .i64 f.kind, .int .i64 f.params, .int .i64 f.locals, .slice A f.code.length ca, .slice B f.consts.length cb, .slice C f.hdls.length cc], .agg #[.int .i64 x.op, .int .i64 x.a, .int .i64 x.b], .int .i64 funcs] w
   fun e w' => e = .returned (.bool r) /\ Gr w w'
set_option maxHeartbeats 1000000 in
set_option maxRecDepth 100000 in
theorem rop_out (f : Fn) (A B C : Option Addr) (ca cb cc : Nat) (funcs : Int) (x : Ins) (w : World) (hl : f.consts.length <= 10000) (hco : f.code.length <= 65536) (hlo : 0 <= f.locals) (hlo' : f.locals <= 10000) (hfu : 0 <= funcs) (hfu' : funcs <= 1000000) (h : x.op < 1 \/ 53 < x.op) : ROpIs f A B C ca cb cc funcs x w false := by
 have cD := fun w => rdesc_o x.op w h
 have HD := Lib.hid cD
 clear cD h
 unfold ROpIs
 go_enter Tryz.func37, Tryz.ntmps37
 go_wp2_with fail
 refine (HD.out _).mono ?_
 rintro e w1 ⟨rfl, hb1⟩
 have e1 := heap_gr hb1 (heap_alloc2_old w _ _)
 have e2 := heap_gr hb1 (heap_alloc2_new w _ _)
 have hW0 : Gr w w1 := (gr_alloc2 w _ _).trans hb1
 clear hb1 HD
 obtain ⟨W, hw1, hs1, hs2, hW⟩ := plug2 e1 e2
 replace hW := hW0.trans hW
 clear e1 e2 hW0
 subst hw1
 go_wp2_with fail
 go_ret
 exact ⟨rfl, gr_then_alloc (gr_plug (gr_plug hW (Nat.le_refl _) _) (by omega) _) _⟩
set_option maxHeartbeats 1000000 in
set_option maxRecDepth 100000 in
theorem rop_b (f : Fn) (A B C : Option Addr) (ca cb cc : Nat) (funcs : Int) (x : Ins) (w : World) (hl : f.consts.length <= 10000) (hco : f.code.length <= 65536) (hlo : 0 <= f.locals) (hlo' : f.locals <= 10000) (hfu : 0 <= funcs) (hfu' : funcs <= 1000000) (h0 : 1 <= x.op) (h1 : x.op <= 53) (k : Int) (hk : operandOf x.op = k) (hk4 : (k != 4) = true) (hb : (x.b != 0) = true) : ROpIs f A B C ca cb cc funcs x w false := by
 have cD := fun w => rdesc_k x.op k w h0 h1 hk
 have HD := Lib.hid cD
 clear cD hk
 have hne := nameOf_some x.op h0 h1
 unfold ROpIs
 go_enter Tryz.func37, Tryz.ntmps37
 go_wp2_with fail
 refine (HD.out _).mono ?_
 rintro e w1 ⟨rfl, hb1⟩
 have e1 := heap_gr hb1 (heap_alloc2_old w _ _)
 have e2 := heap_gr hb1 (heap_alloc2_new w _ _)
 have hW0 : Gr w w1 := (gr_alloc2 w _ _).trans hb1
 clear hb1 HD
 obtain ⟨W, hw1, hs1, hs2, hW⟩ := plug2 e1 e2
 replace hW := hW0.trans hW
 clear e1 e2 hW0
 subst hw1
 go_wp2_with fail
 go_ret
 exact ⟨rfl, gr_then_alloc (gr_plug (gr_plug hW (Nat.le_refl _) _) (by omega) _) _⟩
set_option maxHeartbeats 1000000 in
set_option maxRecDepth 100000 in
theorem rop_0 (f : Fn) (A B C : Option Addr) (ca cb cc : Nat) (funcs : Int) (x : Ins) (w : World) (hl : f.consts.length <= 10000) (hco : f.code.length <= 65536) (hlo : 0 <= f.locals) (hlo' : f.locals <= 10000) (hfu : 0 <= funcs) (hfu' : funcs <= 1000000) (h0 : 1 <= x.op) (h1 : x.op <= 53) (hk : operandOf x.op = 0) (hb : (x.b != 0) = false) : ROpIs f A B C ca cb cc funcs x w (x.a == 0) := by
 have cD := fun w => rdesc_k x.op 0 w h0 h1 hk
 have HD := Lib.hid cD
 clear cD hk
 have hne := nameOf_some x.op h0 h1
 unfold ROpIs
 go_enter Tryz.func37, Tryz.ntmps37
 go_wp2_with fail
 refine (HD.out _).mono ?_
 rintro e w1 ⟨rfl, hb1⟩
 have e1 := heap_gr hb1 (heap_alloc2_old w _ _)
 have e2 := heap_gr hb1 (heap_alloc2_new w _ _)
 have hW0 : Gr w w1 := (gr_alloc2 w _ _).trans hb1
 clear hb1 HD
 obtain ⟨W, hw1, hs1, hs2, hW⟩ := plug2 e1 e2
 replace hW := hW0.trans hW
 clear e1 e2 hW0
 subst hw1
 go_wp2_with (go_at_call 36; refine (rbetween_any _ _ _ _).mono ?_; rintro e w1 ⟨rfl, rfl⟩)
 go_ret
 exact ⟨rfl, gr_then_alloc (gr_plug (gr_plug hW (Nat.le_refl _) _) (by omega) _) _⟩
set_option maxHeartbeats 1000000 in
set_option maxRecDepth 100000 in
theorem rop_1 (f : Fn) (A B C : Option Addr) (ca cb cc : Nat) (funcs : Int) (x : Ins) (w : World) (hl : f.consts.length <= 10000) (hco : f.code.length <= 65536) (hlo : 0 <= f.locals) (hlo' : f.locals <= 10000) (hfu : 0 <= funcs) (hfu' : funcs <= 1000000) (h0 : 1 <= x.op) (h1 : x.op <= 53) (hk : operandOf x.op = 1) (hb : (x.b != 0) = false) : ROpIs f A B C ca cb cc funcs x w (betw x.a 0 ((f.consts.length : Int) - 1)) := by
 have cD := fun w => rdesc_k x.op 1 w h0 h1 hk
 have HD := Lib.hid cD
 clear cD hk
 have hne := nameOf_some x.op h0 h1
 unfold ROpIs
 go_enter Tryz.func37, Tryz.ntmps37
 go_wp2_with fail
 refine (HD.out _).mono ?_
 rintro e w1 ⟨rfl, hb1⟩
 have e1 := heap_gr hb1 (heap_alloc2_old w _ _)
 have e2 := heap_gr hb1 (heap_alloc2_new w _ _)
 have hW0 : Gr w w1 := (gr_alloc2 w _ _).trans hb1
 clear hb1 HD
 obtain ⟨W, hw1, hs1, hs2, hW⟩ := plug2 e1 e2
 replace hW := hW0.trans hW
 clear e1 e2 hW0
 subst hw1
 go_wp2_with (go_at_call 36; refine (rbetween_any _ _ _ _).mono ?_; rintro e w1 ⟨rfl, rfl⟩)
 go_ret
 exact ⟨rfl, gr_then_alloc (gr_plug (gr_plug hW (Nat.le_refl _) _) (by omega) _) _⟩
set_option maxHeartbeats 1000000 in
set_option maxRecDepth 100000 in
theorem rop_3 (f : Fn) (A B C : Option Addr) (ca cb cc : Nat) (funcs : Int) (x : Ins) (w : World) (hl : f.consts.length <= 10000) (hco : f.code.length <= 65536) (hlo : 0 <= f.locals) (hlo' : f.locals <= 10000) (hfu : 0 <= funcs) (hfu' : funcs <= 1000000) (h0 : 1 <= x.op) (h1 : x.op <= 53) (hk : operandOf x.op = 3) (hb : (x.b != 0) = false) : ROpIs f A B C ca cb cc funcs x w (betw x.a 0 (f.locals - 1)) := by
 have cD := fun w => rdesc_k x.op 3 w h0 h1 hk
 have HD := Lib.hid cD
 clear cD hk
 have hne := nameOf_some x.op h0 h1
 unfold ROpIs
 go_enter Tryz.func37, Tryz.ntmps37
 go_wp2_with fail
 refine (HD.out _).mono ?_
 rintro e w1 ⟨rfl, hb1⟩
 have e1 := heap_gr hb1 (heap_alloc2_old w _ _)
 have e2 := heap_gr hb1 (heap_alloc2_new w _ _)
 have hW0 : Gr w w1 := (gr_alloc2 w _ _).trans hb1
 clear hb1 HD
 obtain ⟨W, hw1, hs1, hs2, hW⟩ := plug2 e1 e2
 replace hW := hW0.trans hW
 clear e1 e2 hW0
 subst hw1
 go_wp2_with (go_at_call 36; refine (rbetween_any _ _ _ _).mono ?_; rintro e w1 ⟨rfl, rfl⟩)
 go_ret
 exact ⟨rfl, gr_then_alloc (gr_plug (gr_plug hW (Nat.le_refl _) _) (by omega) _) _⟩
set_option maxHeartbeats 1000000 in
set_option maxRecDepth 100000 in
theorem rop_5 (f : Fn) (A B C : Option Addr) (ca cb cc : Nat) (funcs : Int) (x : Ins) (w : World) (hl : f.consts.length <= 10000) (hco : f.code.length <= 65536) (hlo : 0 <= f.locals) (hlo' : f.locals <= 10000) (hfu : 0 <= funcs) (hfu' : funcs <= 1000000) (h0 : 1 <= x.op) (h1 : x.op <= 53) (hk : operandOf x.op = 5) (hb : (x.b != 0) = false) : ROpIs f A B C ca cb cc funcs x w (betw x.a 0 (funcs - 1)) := by
 have cD := fun w => rdesc_k x.op 5 w h0 h1 hk
 have HD := Lib.hid cD
 clear cD hk
 have hne := nameOf_some x.op h0 h1
 unfold ROpIs
 go_enter Tryz.func37, Tryz.ntmps37
 go_wp2_with fail
 refine (HD.out _).mono ?_
 rintro e w1 ⟨rfl, hb1⟩
 have e1 := heap_gr hb1 (heap_alloc2_old w _ _)
 have e2 := heap_gr hb1 (heap_alloc2_new w _ _)
 have hW0 : Gr w w1 := (gr_alloc2 w _ _).trans hb1
 clear hb1 HD
 obtain ⟨W, hw1, hs1, hs2, hW⟩ := plug2 e1 e2
 replace hW := hW0.trans hW
 clear e1 e2 hW0
 subst hw1
 go_wp2_with (go_at_call 36; refine (rbetween_any _ _ _ _).mono ?_; rintro e w1 ⟨rfl, rfl⟩)
 go_ret
 exact ⟨rfl, gr_then_alloc (gr_plug (gr_plug hW (Nat.le_refl _) _) (by omega) _) _⟩
set_option maxHeartbeats 1000000 in
set_option maxRecDepth 100000 in
theorem rop_6 (f : Fn) (A B C : Option Addr) (ca cb cc : Nat) (funcs : Int) (x : Ins) (w : World) (hl : f.consts.length <= 10000) (hco : f.code.length <= 65536) (hlo : 0 <= f.locals) (hlo' : f.locals <= 10000) (hfu : 0 <= funcs) (hfu' : funcs <= 1000000) (h0 : 1 <= x.op) (h1 : x.op <= 53) (hk : operandOf x.op = 6) (hb : (x.b != 0) = false) : ROpIs f A B C ca cb cc funcs x w (betw x.a 0 10000) := by
 have cD := fun w => rdesc_k x.op 6 w h0 h1 hk
 have HD := Lib.hid cD
 clear cD hk
 have hne := nameOf_some x.op h0 h1
 unfold ROpIs
 go_enter Tryz.func37, Tryz.ntmps37
 go_wp2_with fail
 refine (HD.out _).mono ?_
 rintro e w1 ⟨rfl, hb1⟩
 have e1 := heap_gr hb1 (heap_alloc2_old w _ _)
 have e2 := heap_gr hb1 (heap_alloc2_new w _ _)
 have hW0 : Gr w w1 := (gr_alloc2 w _ _).trans hb1
 clear hb1 HD
 obtain ⟨W, hw1, hs1, hs2, hW⟩ := plug2 e1 e2
 replace hW := hW0.trans hW
 clear e1 e2 hW0
 subst hw1
 go_wp2_with (go_at_call 36; refine (rbetween_any _ _ _ _).mono ?_; rintro e w1 ⟨rfl, rfl⟩)
 go_ret
 exact ⟨rfl, gr_then_alloc (gr_plug (gr_plug hW (Nat.le_refl _) _) (by omega) _) _⟩
set_option maxHeartbeats 1000000 in
set_option maxRecDepth 100000 in
theorem rop_7 (f : Fn) (A B C : Option Addr) (ca cb cc : Nat) (funcs : Int) (x : Ins) (w : World) (hl : f.consts.length <= 10000) (hco : f.code.length <= 65536) (hlo : 0 <= f.locals) (hlo' : f.locals <= 10000) (hfu : 0 <= funcs) (hfu' : funcs <= 1000000) (h0 : 1 <= x.op) (h1 : x.op <= 53) (hk : operandOf x.op = 7) (hb : (x.b != 0) = false) : ROpIs f A B C ca cb cc funcs x w (betw x.a 0 ((f.code.length : Int) - 1)) := by
 have cD := fun w => rdesc_k x.op 7 w h0 h1 hk
 have HD := Lib.hid cD
 clear cD hk
 have hne := nameOf_some x.op h0 h1
 unfold ROpIs
 go_enter Tryz.func37, Tryz.ntmps37
 go_wp2_with fail
 refine (HD.out _).mono ?_
 rintro e w1 ⟨rfl, hb1⟩
 have e1 := heap_gr hb1 (heap_alloc2_old w _ _)
 have e2 := heap_gr hb1 (heap_alloc2_new w _ _)
 have hW0 : Gr w w1 := (gr_alloc2 w _ _).trans hb1
 clear hb1 HD
 obtain ⟨W, hw1, hs1, hs2, hW⟩ := plug2 e1 e2
 replace hW := hW0.trans hW
 clear e1 e2 hW0
 subst hw1
 go_wp2_with (go_at_call 36; refine (rbetween_any _ _ _ _).mono ?_; rintro e w1 ⟨rfl, rfl⟩)
 go_ret
 exact ⟨rfl, gr_then_alloc (gr_plug (gr_plug hW (Nat.le_refl _) _) (by omega) _) _⟩
set_option maxHeartbeats 1000000 in
set_option maxRecDepth 100000 in
theorem rop_8 (f : Fn) (A B C : Option Addr) (ca cb cc : Nat) (funcs : Int) (x : Ins) (w : World) (hl : f.consts.length <= 10000) (hco : f.code.length <= 65536) (hlo : 0 <= f.locals) (hlo' : f.locals <= 10000) (hfu : 0 <= funcs) (hfu' : funcs <= 1000000) (h0 : 1 <= x.op) (h1 : x.op <= 53) (hk : operandOf x.op = 8) (hb : (x.b != 0) = false) : ROpIs f A B C ca cb cc funcs x w (betw x.a 1 4) := by
 have cD := fun w => rdesc_k x.op 8 w h0 h1 hk
 have HD := Lib.hid cD
 clear cD hk
 have hne := nameOf_some x.op h0 h1
 unfold ROpIs
 go_enter Tryz.func37, Tryz.ntmps37
 go_wp2_with fail
 refine (HD.out _).mono ?_
 rintro e w1 ⟨rfl, hb1⟩
 have e1 := heap_gr hb1 (heap_alloc2_old w _ _)
 have e2 := heap_gr hb1 (heap_alloc2_new w _ _)
 have hW0 : Gr w w1 := (gr_alloc2 w _ _).trans hb1
 clear hb1 HD
 obtain ⟨W, hw1, hs1, hs2, hW⟩ := plug2 e1 e2
 replace hW := hW0.trans hW
 clear e1 e2 hW0
 subst hw1
 go_wp2_with (go_at_call 36; refine (rbetween_any _ _ _ _).mono ?_; rintro e w1 ⟨rfl, rfl⟩)
 go_ret
 exact ⟨rfl, gr_then_alloc (gr_plug (gr_plug hW (Nat.le_refl _) _) (by omega) _) _⟩
set_option maxHeartbeats 1000000 in
set_option maxRecDepth 100000 in
theorem rop_9 (f : Fn) (A B C : Option Addr) (ca cb cc : Nat) (funcs : Int) (x : Ins) (w : World) (hl : f.consts.length <= 10000) (hco : f.code.length <= 65536) (hlo : 0 <= f.locals) (hlo' : f.locals <= 10000) (hfu : 0 <= funcs) (hfu' : funcs <= 1000000) (h0 : 1 <= x.op) (h1 : x.op <= 53) (hk : operandOf x.op = 9) (hb : (x.b != 0) = false) : ROpIs f A B C ca cb cc funcs x w (betw x.a 6 20) := by
 have cD := fun w => rdesc_k x.op 9 w h0 h1 hk
 have HD := Lib.hid cD
 clear cD hk
 have hne := nameOf_some x.op h0 h1
 unfold ROpIs
 go_enter Tryz.func37, Tryz.ntmps37
 go_wp2_with fail
 refine (HD.out _).mono ?_
 rintro e w1 ⟨rfl, hb1⟩
 have e1 := heap_gr hb1 (heap_alloc2_old w _ _)
 have e2 := heap_gr hb1 (heap_alloc2_new w _ _)
 have hW0 : Gr w w1 := (gr_alloc2 w _ _).trans hb1
 clear hb1 HD
 obtain ⟨W, hw1, hs1, hs2, hW⟩ := plug2 e1 e2
 replace hW := hW0.trans hW
 clear e1 e2 hW0
 subst hw1
 go_wp2_with (go_at_call 36; refine (rbetween_any _ _ _ _).mono ?_; rintro e w1 ⟨rfl, rfl⟩)
 go_ret
 exact ⟨rfl, gr_then_alloc (gr_plug (gr_plug hW (Nat.le_refl _) _) (by omega) _) _⟩
set_option maxHeartbeats 1000000 in
set_option maxRecDepth 100000 in
theorem rop_4t (f : Fn) (A B C : Option Addr) (ca cb cc : Nat) (funcs : Int) (x : Ins) (w : World) (hl : f.consts.length <= 10000) (hco : f.code.length <= 65536) (hlo : 0 <= f.locals) (hlo' : f.locals <= 10000) (hfu : 0 <= funcs) (hfu' : funcs <= 1000000) (h0 : 1 <= x.op) (h1 : x.op <= 53) (hk : operandOf x.op = 4) (hq : betw x.a 0 10000 = true) : ROpIs f A B C ca cb cc funcs x w (betw x.b 0 10000) := by
 have cD := fun w => rdesc_k x.op 4 w h0 h1 hk
 have HD := Lib.hid cD
 clear cD hk
 have hne := nameOf_some x.op h0 h1
 have HQ := Lib.hid hq
 clear hq
 unfold ROpIs
 go_enter Tryz.func37, Tryz.ntmps37
 go_wp2_with fail
 refine (HD.out _).mono ?_
 rintro e w1 ⟨rfl, hb1⟩
 have e1 := heap_gr hb1 (heap_alloc2_old w _ _)
 have e2 := heap_gr hb1 (heap_alloc2_new w _ _)
 have hW0 : Gr w w1 := (gr_alloc2 w _ _).trans hb1
 clear hb1 HD
 obtain ⟨W, hw1, hs1, hs2, hW⟩ := plug2 e1 e2
 replace hW := hW0.trans hW
 clear e1 e2 hW0
 subst hw1
 go_wp2_with fail
 refine (rbetween_eq _ _ _ true HQ.out _).mono ?_
 rintro e w1 ⟨rfl, rfl⟩
 go_wp2_with (go_at_call 36; refine (rbetween_any _ _ _ _).mono ?_; rintro e w1 ⟨rfl, rfl⟩)
 go_ret
 exact ⟨rfl, gr_then_alloc (gr_plug (gr_plug hW (Nat.le_refl _) _) (by omega) _) _⟩
set_option maxHeartbeats 1000000 in
set_option maxRecDepth 100000 in
theorem rop_4f (f : Fn) (A B C : Option Addr) (ca cb cc : Nat) (funcs : Int) (x : Ins) (w : World) (hl : f.consts.length <= 10000) (hco : f.code.length <= 65536) (hlo : 0 <= f.locals) (hlo' : f.locals <= 10000) (hfu : 0 <= funcs) (hfu' : funcs <= 1000000) (h0 : 1 <= x.op) (h1 : x.op <= 53) (hk : operandOf x.op = 4) (hq : betw x.a 0 10000 = false) : ROpIs f A B C ca cb cc funcs x w false := by
 have cD := fun w => rdesc_k x.op 4 w h0 h1 hk
 have HD := Lib.hid cD
 clear cD hk
 have hne := nameOf_some x.op h0 h1
 have HQ := Lib.hid hq
 clear hq
 unfold ROpIs
 go_enter Tryz.func37, Tryz.ntmps37
 go_wp2_with fail
 refine (HD.out _).mono ?_
 rintro e w1 ⟨rfl, hb1⟩
 have e1 := heap_gr hb1 (heap_alloc2_old w _ _)
 have e2 := heap_gr hb1 (heap_alloc2_new w _ _)
 have hW0 : Gr w w1 := (gr_alloc2 w _ _).trans hb1
 clear hb1 HD
 obtain ⟨W, hw1, hs1, hs2, hW⟩ := plug2 e1 e2
 replace hW := hW0.trans hW
 clear e1 e2 hW0
 subst hw1
 go_wp2_with fail
 refine (rbetween_eq _ _ _ false HQ.out _).mono ?_
 rintro e w1 ⟨rfl, rfl⟩
 go_wp2_with fail
 go_ret
 exact ⟨rfl, gr_then_alloc (gr_plug (gr_plug hW (Nat.le_refl _) _) (by omega) _) _⟩
set_option maxHeartbeats 1000000 in
set_option maxRecDepth 100000 in
theorem rop_2f (f : Fn) (A B C : Option Addr) (ca cb cc : Nat) (funcs : Int) (x : Ins) (w : World) (hl : f.consts.length <= 10000) (hco : f.code.length <= 65536) (hlo : 0 <= f.locals) (hlo' : f.locals <= 10000) (hfu : 0 <= funcs) (hfu' : funcs <= 1000000) (h0 : 1 <= x.op) (h1 : x.op <= 53) (hk : operandOf x.op = 2) (hb : (x.b != 0) = false) (hq : betw x.a 0 ((f.consts.length : Int) - 1) = false) : ROpIs f A B C ca cb cc funcs x w false := by
 have cD := fun w => rdesc_k x.op 2 w h0 h1 hk
 have HD := Lib.hid cD
 clear cD hk
 have hne := nameOf_some x.op h0 h1
 have HQ := Lib.hid hq
 clear hq
 unfold ROpIs
 go_enter Tryz.func37, Tryz.ntmps37
 go_wp2_with fail
 refine (HD.out _).mono ?_
 rintro e w1 ⟨rfl, hb1⟩
 have e1 := heap_gr hb1 (heap_alloc2_old w _ _)
 have e2 := heap_gr hb1 (heap_alloc2_new w _ _)
 have hW0 : Gr w w1 := (gr_alloc2 w _ _).trans hb1
 clear hb1 HD
 obtain ⟨W, hw1, hs1, hs2, hW⟩ := plug2 e1 e2
 replace hW := hW0.trans hW
 clear e1 e2 hW0
 subst hw1
 go_wp2_with fail
 refine (rbetween_eq _ _ _ false HQ.out _).mono ?_
 rintro e w1 ⟨rfl, rfl⟩
 go_wp2_with fail
 go_ret
 exact ⟨rfl, gr_then_alloc (gr_plug (gr_plug hW (Nat.le_refl _) _) (by omega) _) _⟩
set_option maxHeartbeats 1000000 in
set_option maxRecDepth 100000 in
theorem rop_2t (f : Fn) (A B C : Option Addr) (ca cb cc : Nat) (funcs : Int) (x : Ins) (w : World) (hl : f.consts.length <= 10000) (hco : f.code.length <= 65536) (hlo : 0 <= f.locals) (hlo' : f.locals <= 10000) (hfu : 0 <= funcs) (hfu' : funcs <= 1000000) (h0 : 1 <= x.op) (h1 : x.op <= 53) (hk : operandOf x.op = 2) (hb : (x.b != 0) = false) (hq : betw x.a 0 ((f.consts.length : Int) - 1) = true) (ha : 0 <= x.a) (ha' : x.a < f.consts.length) (kd : Int) (b o : Nat) (hB : B = some ⟨b, o, none⟩) (hcell : w.cell? ⟨b, o + x.a.toNat * 3, none⟩ = some (.int .i64 kd)) : ROpIs f A B C ca cb cc funcs x w (kd == 2) := by
 subst hB
 have hblt : b < w.heap.size := block_lt_of_cell hcell
 have cD := fun w => rdesc_k x.op 2 w h0 h1 hk
 have HD := Lib.hid cD
 clear cD hk
 have hne := nameOf_some x.op h0 h1
 have HQ := Lib.hid hq
 clear hq
 unfold ROpIs
 go_enter Tryz.func37, Tryz.ntmps37
 go_wp2_with fail
 refine (HD.out _).mono ?_
 rintro e w1 ⟨rfl, hb1⟩
 have e1 := heap_gr hb1 (heap_alloc2_old w _ _)
 have e2 := heap_gr hb1 (heap_alloc2_new w _ _)
 have hW0 : Gr w w1 := (gr_alloc2 w _ _).trans hb1
 clear hb1 HD
 obtain ⟨W, hw1, hs1, hs2, hW⟩ := plug2 e1 e2
 replace hW := hW0.trans hW
 clear e1 e2 hW0
 subst hw1
 have hcW := cell_gr hW hcell
 clear hcell
 have hn1 : ¬ b = w.heap.size := by omega
 have hn2 : ¬ b = w.heap.size + 1 := by omega
 have hn3 : b < W.heap.size := by omega
 go_wp2_with fail
 refine (rbetween_eq _ _ _ true HQ.out _).mono ?_
 rintro e w1 ⟨rfl, rfl⟩
 go_wp2_with fail
 go_ret
 exact ⟨rfl, gr_then_alloc (gr_plug (gr_plug hW (Nat.le_refl _) _) (by omega) _) _⟩
theorem rop_any (f : Fn) (A B C : Option Addr) (ca cb cc : Nat) (funcs : Int) (x : Ins) (w : World) (hl : f.consts.length <= 10000) (hco : f.code.length <= 65536) (hlo : 0 <= f.locals) (hlo' : f.locals <= 10000) (hfu : 0 <= funcs) (hfu' : funcs <= 1000000) (hB : SlAt w B 3 cstCells f.consts) : ROpIs f A B C ca cb cc funcs x w (fitsB f funcs x) := by
 by_cases hin : 1 <= x.op /\ x.op <= 53
 case neg =>
  have : fitsB f funcs x = false := by simp only [fitsB]; rw [decide_eq_false hin]; rfl
  rw [this]
  exact rop_out f A B C ca cb cc funcs x w hl hco hlo hlo' hfu hfu' (by omega)
 obtain ⟨h0, h1⟩ := hin
 have hr : decide (1 <= x.op /\ x.op <= 53) = true := by simp; omega
 by_cases hk4 : operandOf x.op = 4
 ·by_cases hq : betw x.a 0 10000 = true
  ·have : fitsB f funcs x = betw x.b 0 10000 := by simp [fitsB, hk4, argOk, hq, h0, h1]
   rw [this]
   exact rop_4t f A B C ca cb cc funcs x w hl hco hlo hlo' hfu hfu' h0 h1 hk4 hq
  ·replace hq := eq_false_of_ne_true hq
   have : fitsB f funcs x = false := by simp [fitsB, hk4, argOk, hq]
   rw [this]
   exact rop_4f f A B C ca cb cc funcs x w hl hco hlo hlo' hfu hfu' h0 h1 hk4 hq
 by_cases hb : x.b = 0
 case neg =>
  have : fitsB f funcs x = false := by simp [fitsB, hk4, hb]
  rw [this]
  exact rop_b f A B C ca cb cc funcs x w hl hco hlo hlo' hfu hfu' h0 h1 _ rfl (by simpa using hk4) (by simpa using hb)
 have hb' : (x.b != 0) = false := by simp [hb]
 have hfit : fitsB f funcs x = argOk f funcs (operandOf x.op) x.a x.b := by simp [fitsB, hb, h0, h1]
 rw [hfit]
 have hle := operandOf_le x.op
 have hks : operandOf x.op = 0 \/ operandOf x.op = 1 \/ operandOf x.op = 2 \/ operandOf x.op = 3 \/ operandOf x.op = 5 \/ operandOf x.op = 6 \/ operandOf x.op = 7 \/ operandOf x.op = 8 \/ operandOf x.op = 9 := by omega
 rcases hks with hk | hk | hk | hk | hk | hk | hk | hk | hk
 ·rw [hk]; exact rop_0 f A B C ca cb cc funcs x w hl hco hlo hlo' hfu hfu' h0 h1 hk hb'
 ·rw [hk]; exact rop_1 f A B C ca cb cc funcs x w hl hco hlo hlo' hfu hfu' h0 h1 hk hb'
 ·by_cases hq : betw x.a 0 ((f.consts.length : Int) - 1) = true
  ·have hq' := hq
   simp only [betw, Bool.and_eq_true, decide_eq_true_eq] at hq'
   have hlt : x.a.toNat < f.consts.length := by omega
   obtain ⟨b, o, e, hc⟩ := hB x.a.toNat f.consts[x.a.toNat] (List.getElem?_eq_getElem hlt)
   have hc0 := hc 0 _ rfl
   have hk2 : kindAt f.consts x.a = (f.consts[x.a.toNat]).kind := by simp [kindAt, List.getElem?_eq_getElem hlt]
   have : argOk f funcs (operandOf x.op) x.a x.b = ((f.consts[x.a.toNat]).kind == 2) := by rw [hk]; simp [argOk, hq, hk2]
   rw [this]
   exact rop_2t f A B C ca cb cc funcs x w hl hco hlo hlo' hfu hfu' h0 h1 hk hb' hq hq'.1 (by omega) _ b o e hc0
  ·replace hq := eq_false_of_ne_true hq
   have : argOk f funcs (operandOf x.op) x.a x.b = false := by rw [hk]; simp [argOk, hq]
   rw [this]
   exact rop_2f f A B C ca cb cc funcs x w hl hco hlo hlo' hfu hfu' h0 h1 hk hb' hq
 ·rw [hk]; exact rop_3 f A B C ca cb cc funcs x w hl hco hlo hlo' hfu hfu' h0 h1 hk hb'
 ·rw [hk]; exact rop_5 f A B C ca cb cc funcs x w hl hco hlo hlo' hfu hfu' h0 h1 hk hb'
 ·rw [hk]; exact rop_6 f A B C ca cb cc funcs x w hl hco hlo hlo' hfu hfu' h0 h1 hk hb'
 ·rw [hk]; exact rop_7 f A B C ca cb cc funcs x w hl hco hlo hlo' hfu hfu' h0 h1 hk hb'
 ·rw [hk]; exact rop_8 f A B C ca cb cc funcs x w hl hco hlo hlo' hfu hfu' h0 h1 hk hb'
 ·rw [hk]; exact rop_9 f A B C ca cb cc funcs x w hl hco hlo hlo' hfu hfu' h0 h1 hk hb'
end Go.Proofs.YtjefbgfohijaoaaGreatDoor
