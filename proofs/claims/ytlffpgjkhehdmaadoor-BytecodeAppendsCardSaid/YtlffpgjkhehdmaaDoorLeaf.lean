/- DERIVED, own work: walks of the leaf functions of package bytecode and its reference. -/
import Derived.Test.YtlffpgjkhehdmaaDoorProg
import Derived.WalkKit
import Derived.WalkLawsBesides
import Derived.WalkSpells
import Derived.Outline
import Derived.Lib.Hide
namespace Go.Proofs.YtlffpgjkhehdmaaDoor
open Go.RowKit

theorem ret_int {k : IntKind} {a b : Int} (h : a = b) : Ending.returned (.int k a) = .returned (.int k b) := by rw [h]
theorem ret_bool {a b : Bool} (h : a = b) : Ending.returned (.bool a) = .returned (.bool b) := by rw [h]

/-- between -/
def betw (n a b : Int) : Bool := decide (a ≤ n) && decide (n ≤ b)

theorem between_any (n a b : Int) (w : World) :
    Calls Tryd.prog 78 #[.int .i64 n, .int .i64 a, .int .i64 b] w fun e w' => e = .returned (.bool (betw n a b)) ∧ w = w' := by
  unfold betw
  by_cases h1 : a ≤ n
  · go_enter Tryd.func78, Tryd.ntmps78
    go_wp2
    go_ret
    exact ⟨ret_bool (by simp [h1]), rfl⟩
  · go_enter Tryd.func78, Tryd.ntmps78
    go_wp2
    go_ret
    exact ⟨ret_bool (by simp; omega), rfl⟩

theorem rbetween_any (n a b : Int) (w : World) :
    Calls Tryd.prog 59 #[.int .i64 n, .int .i64 a, .int .i64 b] w fun e w' => e = .returned (.bool (betw n a b)) ∧ w = w' := by
  unfold betw
  by_cases h1 : a ≤ n
  · go_enter Tryd.func59, Tryd.ntmps59
    go_wp2
    go_ret
    exact ⟨ret_bool (by simp [h1]), rfl⟩
  · go_enter Tryd.func59, Tryd.ntmps59
    go_wp2
    go_ret
    exact ⟨ret_bool (by simp; omega), rfl⟩

/-- the kind of an operand -/
def operandOf (op : Int) : Int :=
  if op = 1 then 1
  else if op = 22 ∨ op = 23 ∨ op = 24 ∨ op = 25 ∨ op = 26 ∨ op = 27 ∨ op = 28 ∨ op = 34 then 2
  else if op = 12 ∨ op = 13 ∨ op = 14 ∨ op = 15 then 3
  else if op = 16 ∨ op = 17 ∨ op = 18 then 4
  else if op = 37 then 5
  else if op = 19 ∨ op = 46 ∨ op = 47 then 6
  else if op = 40 ∨ op = 41 ∨ op = 42 ∨ op = 43 ∨ op = 44 ∨ op = 45 ∨ op = 51 then 7
  else if op = 38 then 8
  else if op = 39 then 9
  else 0

theorem operand_any (op : Int) (w : World) :
    Calls Tryd.prog 38 #[.int .i64 op] w fun e w' => e = .returned (.int .i64 (operandOf op)) ∧ w = w' := by
  go_enter Tryd.func38, Tryd.ntmps38
  go_wp2
  all_goals (go_ret; refine ⟨ret_int ?_, rfl⟩; simp_all [operandOf])

/-- how many values an operation takes -/
def popsOf (op : Int) : Int :=
  if op = 7 ∨ op = 13 ∨ op = 14 ∨ op = 17 ∨ op = 18 ∨ op = 23 ∨ op = 24 ∨ op = 41 ∨ op = 42 ∨ op = 43 ∨ op = 44 ∨ op = 45 ∨ op = 48 ∨ op = 49 ∨ op = 8 then 1
  else if op = 9 ∨ op = 10 then 2
  else if op = 11 then 3
  else if op = 26 ∨ op = 28 ∨ op = 38 ∨ op = 47 ∨ op = 50 ∨ op = 52 ∨ op = 53 then 1
  else if op = 27 ∨ op = 29 ∨ op = 31 ∨ op = 34 ∨ op = 36 ∨ op = 39 ∨ op = 46 then 2
  else if op = 30 ∨ op = 35 then 3
  else 0
/-- how many values an operation leaves -/
def pushesOf (op : Int) : Int :=
  if op = 1 ∨ op = 2 ∨ op = 3 ∨ op = 4 ∨ op = 5 ∨ op = 6 ∨ op = 12 ∨ op = 16 ∨ op = 22 ∨ op = 25 ∨ op = 32 ∨ op = 33 ∨ op = 37 ∨ op = 51 then 1
  else if op = 8 then 2
  else if op = 9 then 4
  else if op = 10 then 2
  else if op = 11 then 3
  else if op = 26 ∨ op = 28 ∨ op = 38 ∨ op = 47 ∨ op = 50 ∨ op = 52 ∨ op = 53 then 1
  else if op = 27 ∨ op = 29 ∨ op = 31 ∨ op = 34 ∨ op = 36 ∨ op = 39 ∨ op = 46 then 1
  else if op = 30 ∨ op = 35 then 1
  else 0

theorem effect_any (op : Int) (w : World) :
    Calls Tryd.prog 39 #[.int .i64 op] w fun e w' => e = .returned (.tuple #[.int .i64 (popsOf op), .int .i64 (pushesOf op)]) ∧ w = w' := by
  go_enter Tryd.func39, Tryd.ntmps39
  go_wp2
  all_goals (go_ret2; refine ⟨?_, rfl⟩; simp_all [popsOf, pushesOf])

end Go.Proofs.YtlffpgjkhehdmaaDoor
