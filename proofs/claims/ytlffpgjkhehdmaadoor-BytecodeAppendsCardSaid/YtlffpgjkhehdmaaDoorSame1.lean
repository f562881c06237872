/- Own work: bytecode.plain and knapsackref27.same. -/
import Derived.Test.YtlffpgjkhehdmaaDoorEq
namespace Go.Proofs.YtlffpgjkhehdmaaDoor
open Go.RowKit
set_option linter.unusedVariables false
set_option linter.unusedSimpArgs false

def plainC (c : Cst) : Cst := if c.kind = 1 then { c with str := ByteArray.empty } else if c.kind = 2 then { c with int := 0 } else c
def cstSame (x y : Cst) : Bool := x.kind == y.kind && ((x.kind == 2 || x.int == y.int) && (x.kind == 1 || x.str.toList == y.str.toList))
def cstEq (x y : Cst) : Bool := x.kind == y.kind && (x.int == y.int && x.str.toList == y.str.toList)

theorem plainC_kind (c : Cst) : (plainC c).kind = c.kind := by unfold plainC; split <;> (try split) <;> rfl
theorem plain_same (x y : Cst) : cstEq (plainC x) (plainC y) = cstSame x y := by
  unfold cstEq cstSame
  rw [plainC_kind, plainC_kind]
  by_cases hk : x.kind = y.kind
  case neg => rw [beq_eq_false_iff_ne.2 hk]; rfl
  unfold plainC
  rw [hk]
  by_cases h1 : y.kind = 1
  · simp [h1]
  · by_cases h2 : y.kind = 2
    · simp [h2]
    · simp only [if_neg h1, if_neg h2, beq_eq_false_iff_ne.2 h1, beq_eq_false_iff_ne.2 h2, Bool.false_or, beq_self_eq_true, Bool.true_and]

theorem neq_cst (x y : Cst) (W : World) : (binOp .neq 69 (.agg #[.int .i64 x.kind, .int .i64 x.int, .string x.str]) (.agg #[.int .i64 y.kind, .int .i64 y.int, .string y.str])).run Tryd.prog W = .ok (.bool (!cstEq x y)) W := by
  unfold cstEq
  cases h1 : x.kind == y.kind <;> cases h2 : x.int == y.int <;> cases h3 : x.str.toList == y.str.toList <;> go_simp

set_option maxHeartbeats 1000000 in
theorem plain_any (c : Cst) (w : World) :
    Calls Tryd.prog 45 #[.agg #[.int .i64 c.kind, .int .i64 c.int, .string c.str]] w fun e w' => e = .returned (.agg #[.int .i64 (plainC c).kind, .int .i64 (plainC c).int, .string (plainC c).str]) ∧ Gr w w' := by
  by_cases h1 : c.kind = 1
  · have k1 : (c.kind == 1) = true := by simp [h1]
    have hp : plainC c = { c with str := ByteArray.empty } := by simp [plainC, h1]
    rw [hp]
    clear h1 hp
    go_enter Tryd.func45, Tryd.ntmps45
    go_wp2_with fail
    refine bodyPost_ret (v := .agg #[.int .i64 c.kind, .int .i64 c.int, .string ByteArray.empty]) ?_ rfl ⟨rfl, gr_alloc2 _ _ _⟩
    simp [results, Tryd.results45, go_sem]
    rfl
  have k1 : (c.kind == 1) = false := by simp [h1]
  by_cases h2 : c.kind = 2
  · have k2 : (c.kind == 2) = true := by simp [h2]
    have hp : plainC c = { c with int := 0 } := by simp [plainC, h2]
    rw [hp]
    clear h1 h2 hp
    go_enter Tryd.func45, Tryd.ntmps45
    go_wp2_with fail
    refine bodyPost_ret (v := .agg #[.int .i64 c.kind, .int .i64 0, .string c.str]) ?_ rfl ⟨rfl, gr_alloc2 _ _ _⟩
    simp [results, Tryd.results45, go_sem]
  · have k2 : (c.kind == 2) = false := by simp [h2]
    have hp : plainC c = c := by simp [plainC, h1, h2]
    rw [hp]
    clear h1 h2 hp
    go_enter Tryd.func45, Tryd.ntmps45
    go_wp2_with fail
    refine bodyPost_ret (v := .agg #[.int .i64 c.kind, .int .i64 c.int, .string c.str]) ?_ rfl ⟨rfl, gr_alloc2 _ _ _⟩
    simp [results, Tryd.results45, go_sem]

set_option maxHeartbeats 1000000 in
theorem same_any (x y : Cst) (w : World) :
    Calls Tryd.prog 61 #[.agg #[.int .i64 x.kind, .int .i64 x.int, .string x.str], .agg #[.int .i64 y.kind, .int .i64 y.int, .string y.str]] w fun e w' => e = .returned (.bool (cstSame x y)) ∧ Gr w w' := by
  by_cases h1 : x.kind = y.kind
  case neg =>
    have k1 : (x.kind != y.kind) = true := by simp [h1]
    have hp : cstSame x y = false := by simp [cstSame, h1]
    rw [hp]
    clear h1 hp
    go_enter Tryd.func61, Tryd.ntmps61
    go_wp2_with fail
    go_ret
    exact ⟨rfl, gr_alloc2 _ _ _⟩
  have k1 : (x.kind != y.kind) = false := by simp [h1]
  have hp : cstSame x y = ((x.kind == 2 || x.int == y.int) && (x.kind == 1 || x.str.toList == y.str.toList)) := by simp [cstSame, h1]
  rw [hp]
  clear h1 hp
  by_cases h2 : x.kind = 2
  · have k2 : (x.kind != 2) = false := by simp [h2]
    have k3 : (x.kind == 1) = false := by simp [h2]
    have hp : ((x.kind == 2 || x.int == y.int) && (x.kind == 1 || x.str.toList == y.str.toList)) = (x.str.toList == y.str.toList) := by simp [h2]
    rw [hp]
    clear h2 hp
    go_enter Tryd.func61, Tryd.ntmps61
    go_wp2_with fail
    go_ret
    exact ⟨rfl, gr_alloc2 _ _ _⟩
  have k2 : (x.kind != 2) = true := by simp [h2]
  by_cases h3 : x.int = y.int
  case neg =>
    have k3 : (x.int != y.int) = true := by simp [h3]
    have hp : ((x.kind == 2 || x.int == y.int) && (x.kind == 1 || x.str.toList == y.str.toList)) = false := by simp [h2, h3]
    rw [hp]
    clear h2 h3 hp
    go_enter Tryd.func61, Tryd.ntmps61
    go_wp2_with fail
    go_ret
    exact ⟨rfl, gr_alloc2 _ _ _⟩
  have k3 : (x.int != y.int) = false := by simp [h3]
  by_cases h4 : x.kind = 1
  · have k4 : (x.kind == 1) = true := by simp [h4]
    have hp : ((x.kind == 2 || x.int == y.int) && (x.kind == 1 || x.str.toList == y.str.toList)) = true := by simp [h3, h4]
    rw [hp]
    clear h2 h3 h4 hp
    go_enter Tryd.func61, Tryd.ntmps61
    go_wp2_with fail
    go_ret
    exact ⟨rfl, gr_alloc2 _ _ _⟩
  · have k4 : (x.kind == 1) = false := by simp [h4]
    have hp : ((x.kind == 2 || x.int == y.int) && (x.kind == 1 || x.str.toList == y.str.toList)) = (x.str.toList == y.str.toList) := by simp [h3, h4]
    rw [hp]
    clear h2 h3 h4 hp
    go_enter Tryd.func61, Tryd.ntmps61
    go_wp2_with fail
    go_ret
    exact ⟨rfl, gr_alloc2 _ _ _⟩
theorem same_eq (x y : Cst) (w : World) (q : Bool) (hq : cstSame x y = q) :
    Calls Tryd.prog 61 #[.agg #[.int .i64 x.kind, .int .i64 x.int, .string x.str], .agg #[.int .i64 y.kind, .int .i64 y.int, .string y.str]] w fun e w' => e = .returned (.bool q) ∧ Gr w w' := by
  subst hq; exact same_any x y w
end Go.Proofs.YtlffpgjkhehdmaaDoor
