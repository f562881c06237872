/- Own work: bytecode.Describe. -/
import Derived.Test.YtlffpgjkhehdmaaDoorDescribe
import Derived.Test.YtlffpgjkhehdmaaDoorPlug
namespace Go.Proofs.YtlffpgjkhehdmaaDoor
open Go.RowKit

/-- the values of the region of Describe -/
def descV (op : Int) (B : Nat) (i : Nat) (v : Value) (w : World) : Prop := match i with
  | 0 => ∃ g, v = .slice (some ⟨g, 0, none⟩) 54 54 ∧ w.heap[g]? = some (.cells nameCells 9 (0, 0))
  | 1 => v = .int .i64 op
  | 2 => ∃ g, v = .pointer (some ⟨g, op.toNat, none⟩) ∧ w.heap[g]? = some (.cells nameCells 9 (0, 0))
  | 3 => v = .string (nameOf op)
  | 4 => v = .int .i64 op
  | 5 => v = .int .i64 (operandOf op)
  | 6 => v = .int .i64 op
  | 7 => v = .bool (op == 46)
  | 8 => v = .bool (op == 46)
  | 9 => (op == 46) = false → v = .int .i64 op
  | 10 => (op == 46) = false → v = .bool (op == 47)
  | 11 => v = .bool (op == 46 || op == 47)
  | 12 => v = .int .i64 op
  | 13 => v = .bool (op == 48)
  | 14 => v = .bool (op == 48)
  | 15 => (op == 48) = false → v = .int .i64 op
  | 16 => (op == 48) = false → v = .bool (op == 49)
  | 17 => v = .bool (op == 48 || op == 49)
  | 18 => v = .bool (op == 48 || op == 49)
  | 19 => (op == 48 || op == 49) = false → v = .int .i64 op
  | 20 => (op == 48 || op == 49) = false → v = .bool (op == 40)
  | 21 => v = .bool (op == 48 || op == 49 || op == 40)
  | 22 => v = .agg #[.string (nameOf op), .int .i64 (operandOf op), .int .i64 0, .int .i64 0, .bool (op == 46 || op == 47), .int .i64 0, .bool (op == 48 || op == 49 || op == 40)]
  | 23 => ∃ g, v = .pointer (some ⟨g, 0, none⟩) ∧ B ≤ g ∧ w.heap[g]? = some (.cells #[.string ByteArray.empty, .int .i64 0, .int .i64 0, .int .i64 0, .bool false, .int .i64 0, .bool false] 24 (0, 0))
  | _ => True

theorem descV_stable (op : Int) (B : Nat) (i : Nat) (v : Value) (w w' : World) (hg : Gr w w') (h : descV op B i v w) : descV op B i v w' := by
  by_cases h0 : i = 0
  · subst h0; obtain ⟨g, h1, h2⟩ := h; exact ⟨g, h1, heap_gr hg h2⟩
  by_cases h2' : i = 2
  · subst h2'; obtain ⟨g, h1, h2⟩ := h; exact ⟨g, h1, heap_gr hg h2⟩
  by_cases h23 : i = 23
  · subst h23; obtain ⟨g, h1, h2, h3⟩ := h; exact ⟨g, h1, h2, heap_gr hg h3⟩
  unfold descV at *
  split at h <;> first | exact h | (exfalso; omega)

def cntOf (op : Int) : Bool := op == 46 || op == 47
def jmpOf (op : Int) : Int := if op = 41 ∨ op = 42 ∨ op = 51 then -1 else 0
def endsOf (op : Int) : Bool := op == 48 || op == 49 || op == 40
/-- the description of an operation, as a value -/
def infoOf (op : Int) : Value := .agg #[.string (nameOf op), .int .i64 (operandOf op), .int .i64 (popsOf op), .int .i64 (pushesOf op), .bool (cntOf op), .int .i64 (jmpOf op), .bool (endsOf op)]

set_option maxHeartbeats 1000000 in
theorem desc_in (op : Int) (w : World) (h0 : 1 ≤ op) (h1 : op ≤ 53) :
    Calls Tryd.prog 18 #[.int .i64 op] w fun e w' => e = .returned (.tuple #[infoOf op, .int .i64 0]) ∧ Below w.heap.size w w' := by
  have hn := nameCells_at op (by omega) h1
  go_enter Tryd.func18, Tryd.ntmps18
  go_wp2_with fail
  refine wp_region_gr 24 6 (descV op (w.heap.size + 1)) (by kernel_rfl) (by kernel_rfl) (by kernel_rfl) (by decide) (descV_stable _ _) ?hstep ?hend
  case hstep =>
    intro i hi
    rcases i with _ | i
    · intro o ho ρ w' hC hcst hfun hglo hd hf
      simp only [List.getElem?_toArray, List.getElem?_cons_zero, Option.some.injEq] at ho
      subst ho
      rw [if_pos (by rfl)]
      clear hd hf
      go_simp
      rw [growUpon_enter]
      refine (names_any w').mono ?_
      rintro e w'' ⟨rfl, rfl⟩
      exact ⟨_, rfl, hC.trans (gr_alloc _ _), gr_alloc _ _, _, rfl, heap_alloc_new _ _⟩
    rcases i with _ | i
    · intro o ho ρ w' hC hcst hfun hglo hd hf
      simp only [List.getElem?_toArray, List.getElem?_cons_zero, List.getElem?_cons_succ, Option.some.injEq] at ho
      subst ho
      rw [if_pos (by rfl)]
      have e0 : ρ (.tmp 0) = .int .i64 op := hf 0 (by kernel_rfl)
      clear hd hf
      go_simp
      exact ⟨hC, Gr.refl _, rfl⟩
    rcases i with _ | i
    · intro o ho ρ w' hC hcst hfun hglo hd hf
      simp only [List.getElem?_toArray, List.getElem?_cons_zero, List.getElem?_cons_succ, Option.some.injEq] at ho
      subst ho
      rw [if_pos (by rfl)]
      obtain ⟨g, e12, hg⟩ : ∃ g, ρ (.tmp 12) = .slice (some ⟨g, 0, none⟩) 54 54 ∧ w'.heap[g]? = some (.cells nameCells 9 (0, 0)) := hd 0 12 (by kernel_rfl)
      have e13 : ρ (.tmp 13) = .int .i64 op := hd 1 13 (by kernel_rfl)
      clear hd hf
      go_simp
      rw [if_pos (by omega)]
      exact ⟨hC, Gr.refl _, g, rfl, hg⟩
    rcases i with _ | i
    · intro o ho ρ w' hC hcst hfun hglo hd hf
      simp only [List.getElem?_toArray, List.getElem?_cons_zero, List.getElem?_cons_succ, Option.some.injEq] at ho
      subst ho
      rw [if_pos (by rfl)]
      obtain ⟨g, e14, hg⟩ : ∃ g, ρ (.tmp 14) = .pointer (some ⟨g, op.toNat, none⟩) ∧ w'.heap[g]? = some (.cells nameCells 9 (0, 0)) := hd 2 14 (by kernel_rfl)
      have hcell : w'.cell? ⟨g, op.toNat, none⟩ = some (.string (nameOf op)) := (cell_of_row w' g op.toNat nameCells _ (0, 0) hg).trans hn
      clear hd hf
      go_simp
      exact ⟨hC, Gr.refl _, rfl⟩
    rcases i with _ | i
    · intro o ho ρ w' hC hcst hfun hglo hd hf
      simp only [List.getElem?_toArray, List.getElem?_cons_zero, List.getElem?_cons_succ, Option.some.injEq] at ho
      subst ho
      rw [if_pos (by rfl)]
      have e0 : ρ (.tmp 0) = .int .i64 op := hf 0 (by kernel_rfl)
      clear hd hf
      go_simp
      exact ⟨hC, Gr.refl _, rfl⟩
    rcases i with _ | i
    · intro o ho ρ w' hC hcst hfun hglo hd hf
      simp only [List.getElem?_toArray, List.getElem?_cons_zero, List.getElem?_cons_succ, Option.some.injEq] at ho
      subst ho
      rw [if_pos (by rfl)]
      have e16 : ρ (.tmp 16) = .int .i64 op := hd 4 16 (by kernel_rfl)
      clear hd hf
      go_simp
      rw [growUpon_enter]
      refine (operand_any op w').mono ?_
      rintro e w'' ⟨rfl, rfl⟩
      exact ⟨_, rfl, hC, Gr.refl _, rfl⟩
    rcases i with _ | i
    · intro o ho ρ w' hC hcst hfun hglo hd hf
      simp only [List.getElem?_toArray, List.getElem?_cons_zero, List.getElem?_cons_succ, Option.some.injEq] at ho
      subst ho
      rw [if_pos (by rfl)]
      have e0 : ρ (.tmp 0) = .int .i64 op := hf 0 (by kernel_rfl)
      clear hd hf
      go_simp
      exact ⟨hC, Gr.refl _, rfl⟩
    rcases i with _ | i
    · intro o ho ρ w' hC hcst hfun hglo hd hf
      simp only [List.getElem?_toArray, List.getElem?_cons_zero, List.getElem?_cons_succ, Option.some.injEq] at ho
      subst ho
      rw [if_pos (by rfl)]
      have e18 : ρ (.tmp 18) = .int .i64 op := hd 6 18 (by kernel_rfl)
      clear hd hf
      go_simp
      exact ⟨hC, Gr.refl _, rfl⟩
    rcases i with _ | i
    · intro o ho ρ w' hC hcst hfun hglo hd hf
      simp only [List.getElem?_toArray, List.getElem?_cons_zero, List.getElem?_cons_succ, Option.some.injEq] at ho
      subst ho
      rw [if_pos (by rfl)]
      have e19 : ρ (.tmp 19) = .bool (op == 46) := hd 7 19 (by kernel_rfl)
      clear hd hf
      go_simp
      exact ⟨hC, Gr.refl _, rfl⟩
    rcases i with _ | i
    · intro o ho ρ w' hC hcst hfun hglo hd hf
      simp only [List.getElem?_toArray, List.getElem?_cons_zero, List.getElem?_cons_succ, Option.some.injEq] at ho
      subst ho
      have e20 : ρ (.tmp 20) = .bool (op == 46) := hd 8 20 (by kernel_rfl)
      have e0 : ρ (.tmp 0) = .int .i64 op := hf 0 (by kernel_rfl)
      clear hd hf
      by_cases hq : (op == 46) = false
      · rw [hq] at e20
        rw [if_pos (by simp [Region.wanted, yieldedE, e20])]
        have HQ := Lib.hid hq
        clear hq
        go_simp
        exact ⟨hC, Gr.refl _, fun _ => rfl⟩
      · rw [if_neg (by simp only [Region.wanted, yieldedE, List.getElem?_toArray, List.getElem?_cons_zero, List.getElem?_cons_succ, Option.bind_some, e20]; simpa using hq)]
        exact fun h => absurd h hq
    rcases i with _ | i
    · intro o ho ρ w' hC hcst hfun hglo hd hf
      simp only [List.getElem?_toArray, List.getElem?_cons_zero, List.getElem?_cons_succ, Option.some.injEq] at ho
      subst ho
      have e20 : ρ (.tmp 20) = .bool (op == 46) := hd 8 20 (by kernel_rfl)
      have e21 : (op == 46) = false → ρ (.tmp 21) = .int .i64 op := hd 9 21 (by kernel_rfl)
      clear hd hf
      by_cases hq : (op == 46) = false
      · rw [hq] at e20
        have x := e21 hq
        clear e21
        rw [if_pos (by simp [Region.wanted, yieldedE, e20])]
        have HQ := Lib.hid hq
        clear hq
        go_simp
        exact ⟨hC, Gr.refl _, fun _ => rfl⟩
      · rw [if_neg (by simp only [Region.wanted, yieldedE, List.getElem?_toArray, List.getElem?_cons_zero, List.getElem?_cons_succ, Option.bind_some, e20]; simpa using hq)]
        exact fun h => absurd h hq
    rcases i with _ | i
    · intro o ho ρ w' hC hcst hfun hglo hd hf
      simp only [List.getElem?_toArray, List.getElem?_cons_zero, List.getElem?_cons_succ, Option.some.injEq] at ho
      subst ho
      rw [if_pos (by rfl)]
      have e20 : ρ (.tmp 20) = .bool (op == 46) := hd 8 20 (by kernel_rfl)
      have e22 : (op == 46) = false → ρ (.tmp 22) = .bool (op == 47) := hd 10 22 (by kernel_rfl)
      clear hd hf
      by_cases hq : (op == 46) = false
      · have x := e22 hq
        clear e22
        rw [hq] at e20
        have HQ := Lib.hid hq
        clear hq
        go_simp
        refine ⟨hC, Gr.refl _, ?_⟩
        unfold descV
        simp [HQ.out]
      · have hq' : (op == 46) = true := eq_true_of_ne_false hq
        clear e22 hq
        rw [hq'] at e20
        have HQ := Lib.hid hq'
        clear hq'
        go_simp
        refine ⟨hC, Gr.refl _, ?_⟩
        unfold descV
        simp [HQ.out]
    rcases i with _ | i
    · intro o ho ρ w' hC hcst hfun hglo hd hf
      simp only [List.getElem?_toArray, List.getElem?_cons_zero, List.getElem?_cons_succ, Option.some.injEq] at ho
      subst ho
      rw [if_pos (by rfl)]
      have e0 : ρ (.tmp 0) = .int .i64 op := hf 0 (by kernel_rfl)
      clear hd hf
      go_simp
      exact ⟨hC, Gr.refl _, rfl⟩
    rcases i with _ | i
    · intro o ho ρ w' hC hcst hfun hglo hd hf
      simp only [List.getElem?_toArray, List.getElem?_cons_zero, List.getElem?_cons_succ, Option.some.injEq] at ho
      subst ho
      rw [if_pos (by rfl)]
      have e24 : ρ (.tmp 24) = .int .i64 op := hd 12 24 (by kernel_rfl)
      clear hd hf
      go_simp
      exact ⟨hC, Gr.refl _, rfl⟩
    rcases i with _ | i
    · intro o ho ρ w' hC hcst hfun hglo hd hf
      simp only [List.getElem?_toArray, List.getElem?_cons_zero, List.getElem?_cons_succ, Option.some.injEq] at ho
      subst ho
      rw [if_pos (by rfl)]
      have e25 : ρ (.tmp 25) = .bool (op == 48) := hd 13 25 (by kernel_rfl)
      clear hd hf
      go_simp
      exact ⟨hC, Gr.refl _, rfl⟩
    rcases i with _ | i
    · intro o ho ρ w' hC hcst hfun hglo hd hf
      simp only [List.getElem?_toArray, List.getElem?_cons_zero, List.getElem?_cons_succ, Option.some.injEq] at ho
      subst ho
      have e26 : ρ (.tmp 26) = .bool (op == 48) := hd 14 26 (by kernel_rfl)
      have e0 : ρ (.tmp 0) = .int .i64 op := hf 0 (by kernel_rfl)
      clear hd hf
      by_cases hq : (op == 48) = false
      · rw [hq] at e26
        rw [if_pos (by simp [Region.wanted, yieldedE, e26])]
        have HQ := Lib.hid hq
        clear hq
        go_simp
        exact ⟨hC, Gr.refl _, fun _ => rfl⟩
      · rw [if_neg (by simp only [Region.wanted, yieldedE, List.getElem?_toArray, List.getElem?_cons_zero, List.getElem?_cons_succ, Option.bind_some, e26]; simpa using hq)]
        exact fun h => absurd h hq
    rcases i with _ | i
    · intro o ho ρ w' hC hcst hfun hglo hd hf
      simp only [List.getElem?_toArray, List.getElem?_cons_zero, List.getElem?_cons_succ, Option.some.injEq] at ho
      subst ho
      have e26 : ρ (.tmp 26) = .bool (op == 48) := hd 14 26 (by kernel_rfl)
      have e27 : (op == 48) = false → ρ (.tmp 27) = .int .i64 op := hd 15 27 (by kernel_rfl)
      clear hd hf
      by_cases hq : (op == 48) = false
      · rw [hq] at e26
        have x := e27 hq
        clear e27
        rw [if_pos (by simp [Region.wanted, yieldedE, e26])]
        have HQ := Lib.hid hq
        clear hq
        go_simp
        exact ⟨hC, Gr.refl _, fun _ => rfl⟩
      · rw [if_neg (by simp only [Region.wanted, yieldedE, List.getElem?_toArray, List.getElem?_cons_zero, List.getElem?_cons_succ, Option.bind_some, e26]; simpa using hq)]
        exact fun h => absurd h hq
    rcases i with _ | i
    · intro o ho ρ w' hC hcst hfun hglo hd hf
      simp only [List.getElem?_toArray, List.getElem?_cons_zero, List.getElem?_cons_succ, Option.some.injEq] at ho
      subst ho
      rw [if_pos (by rfl)]
      have e26 : ρ (.tmp 26) = .bool (op == 48) := hd 14 26 (by kernel_rfl)
      have e28 : (op == 48) = false → ρ (.tmp 28) = .bool (op == 49) := hd 16 28 (by kernel_rfl)
      clear hd hf
      by_cases hq : (op == 48) = false
      · have x := e28 hq
        clear e28
        rw [hq] at e26
        have HQ := Lib.hid hq
        clear hq
        go_simp
        refine ⟨hC, Gr.refl _, ?_⟩
        unfold descV
        simp [HQ.out]
      · have hq' : (op == 48) = true := eq_true_of_ne_false hq
        clear e28 hq
        rw [hq'] at e26
        have HQ := Lib.hid hq'
        clear hq'
        go_simp
        refine ⟨hC, Gr.refl _, ?_⟩
        unfold descV
        simp [HQ.out]
    rcases i with _ | i
    · intro o ho ρ w' hC hcst hfun hglo hd hf
      simp only [List.getElem?_toArray, List.getElem?_cons_zero, List.getElem?_cons_succ, Option.some.injEq] at ho
      subst ho
      rw [if_pos (by rfl)]
      have e29 : ρ (.tmp 29) = .bool (op == 48 || op == 49) := hd 17 29 (by kernel_rfl)
      clear hd hf
      go_simp
      exact ⟨hC, Gr.refl _, rfl⟩
    rcases i with _ | i
    · intro o ho ρ w' hC hcst hfun hglo hd hf
      simp only [List.getElem?_toArray, List.getElem?_cons_zero, List.getElem?_cons_succ, Option.some.injEq] at ho
      subst ho
      have e30 : ρ (.tmp 30) = .bool (op == 48 || op == 49) := hd 18 30 (by kernel_rfl)
      have e0 : ρ (.tmp 0) = .int .i64 op := hf 0 (by kernel_rfl)
      clear hd hf
      by_cases hq : (op == 48 || op == 49) = false
      · rw [hq] at e30
        rw [if_pos (by simp [Region.wanted, yieldedE, e30])]
        have HQ := Lib.hid hq
        clear hq
        go_simp
        exact ⟨hC, Gr.refl _, fun _ => rfl⟩
      · rw [if_neg (by simp only [Region.wanted, yieldedE, List.getElem?_toArray, List.getElem?_cons_zero, List.getElem?_cons_succ, Option.bind_some, e30]; simpa using hq)]
        exact fun h => absurd h hq
    rcases i with _ | i
    · intro o ho ρ w' hC hcst hfun hglo hd hf
      simp only [List.getElem?_toArray, List.getElem?_cons_zero, List.getElem?_cons_succ, Option.some.injEq] at ho
      subst ho
      have e30 : ρ (.tmp 30) = .bool (op == 48 || op == 49) := hd 18 30 (by kernel_rfl)
      have e31 : (op == 48 || op == 49) = false → ρ (.tmp 31) = .int .i64 op := hd 19 31 (by kernel_rfl)
      clear hd hf
      by_cases hq : (op == 48 || op == 49) = false
      · rw [hq] at e30
        have x := e31 hq
        clear e31
        rw [if_pos (by simp [Region.wanted, yieldedE, e30])]
        have HQ := Lib.hid hq
        clear hq
        go_simp
        exact ⟨hC, Gr.refl _, fun _ => rfl⟩
      · rw [if_neg (by simp only [Region.wanted, yieldedE, List.getElem?_toArray, List.getElem?_cons_zero, List.getElem?_cons_succ, Option.bind_some, e30]; simpa using hq)]
        exact fun h => absurd h hq
    rcases i with _ | i
    · intro o ho ρ w' hC hcst hfun hglo hd hf
      simp only [List.getElem?_toArray, List.getElem?_cons_zero, List.getElem?_cons_succ, Option.some.injEq] at ho
      subst ho
      rw [if_pos (by rfl)]
      have e30 : ρ (.tmp 30) = .bool (op == 48 || op == 49) := hd 18 30 (by kernel_rfl)
      have e32 : (op == 48 || op == 49) = false → ρ (.tmp 32) = .bool (op == 40) := hd 20 32 (by kernel_rfl)
      clear hd hf
      by_cases hq : (op == 48 || op == 49) = false
      · have x := e32 hq
        clear e32
        rw [hq] at e30
        have HQ := Lib.hid hq
        clear hq
        go_simp
        refine ⟨hC, Gr.refl _, ?_⟩
        unfold descV
        simp [HQ.out]
      · have hq' : (op == 48 || op == 49) = true := eq_true_of_ne_false hq
        clear e32 hq
        rw [hq'] at e30
        have HQ := Lib.hid hq'
        clear hq'
        go_simp
        refine ⟨hC, Gr.refl _, ?_⟩
        unfold descV
        simp [HQ.out]
    rcases i with _ | i
    · intro o ho ρ w' hC hcst hfun hglo hd hf
      simp only [List.getElem?_toArray, List.getElem?_cons_zero, List.getElem?_cons_succ, Option.some.injEq] at ho
      subst ho
      rw [if_pos (by rfl)]
      have e15 : ρ (.tmp 15) = .string (nameOf op) := hd 3 15 (by kernel_rfl)
      have e17 : ρ (.tmp 17) = .int .i64 (operandOf op) := hd 5 17 (by kernel_rfl)
      have e23 : ρ (.tmp 23) = .bool (op == 46 || op == 47) := hd 11 23 (by kernel_rfl)
      have e33 : ρ (.tmp 33) = .bool (op == 48 || op == 49 || op == 40) := hd 21 33 (by kernel_rfl)
      clear hd hf
      go_simp
      exact ⟨hC, Gr.refl _, rfl⟩
    rcases i with _ | i
    · intro o ho ρ w' hC hcst hfun hglo hd hf
      simp only [List.getElem?_toArray, List.getElem?_cons_zero, List.getElem?_cons_succ, Option.some.injEq] at ho
      subst ho
      rw [if_pos (by rfl)]
      clear hd hf
      go_simp
      exact ⟨hC.trans (gr_alloc _ _), gr_alloc _ _, _, rfl, by have := hC.size; simpa using this, heap_alloc_new _ _⟩
    omega
  case hend =>
    intro vs w' hC hV
    obtain ⟨g, e23, hgB, hg⟩ : descV op (w.heap.size + 1) 23 (vs 23) w' := hV 23 (by decide) rfl
    have e22 : vs 22 = _ := hV 22 (by decide) rfl
    have hbox := heap_gr hC (heap_alloc_new w _)
    clear hV
    simp only [putAll, List.getElem?_toArray, List.getElem?_cons_succ, List.getElem?_cons_zero, Option.bind_some, Act.put, List.setIfInBounds_toArray, List.set_cons_succ, List.set_cons_zero, List.drop_succ_cons, List.drop_zero, e22, e23]
    clear e22 e23
    have hne : ¬ g = w.heap.size := by omega
    have hne' : ¬ w.heap.size = g := by omega
    have hb : Below w.heap.size w w' := (Below.trans ((Below.refl _ _).alloc (Nat.le_refl _) _) (Below.mono hC (by simp)))
    obtain ⟨W, rfl, hgs, hbs, hbW⟩ : ∃ W, w' = plug (plug W g (.cells #[.string ByteArray.empty, .int .i64 0, .int .i64 0, .int .i64 0, .bool false, .int .i64 0, .bool false] 24)) w.heap.size (.cells #[.string ByteArray.empty, .int .i64 0, .int .i64 0, .int .i64 0, .bool false, .int .i64 0, .bool false] 24) ∧ g < W.heap.size ∧ w.heap.size < W.heap.size ∧ Below w.heap.size w W :=
      ⟨w', by rw [plug_self hg]; exact (plug_self hbox).symm, lt_of_block hg, lt_of_block hbox, hb⟩
    clear hC hg hbox hn hb
    go_wp2_with (go_at_call 39; refine (effect_any _ _).mono ?_; rintro e w1 ⟨rfl, rfl⟩)
    all_goals
      refine bodyPost_ret (v := .tuple #[infoOf _, .int .i64 0]) ?_ rfl ⟨rfl, below_plug (below_plug hbW (by omega) _) (Nat.le_refl _) _⟩
      simp_all [results, Tryd.results18, go_sem, infoOf, cntOf, jmpOf, endsOf]

theorem desc_out (op : Int) (w : World) (h : op < 1 ∨ 53 < op) :
    Calls Tryd.prog 18 #[.int .i64 op] w fun e w' => e = .returned (.tuple #[.agg #[.string ByteArray.empty, .int .i64 0, .int .i64 0, .int .i64 0, .bool false, .int .i64 0, .bool false], .int .i64 6]) ∧ Below w.heap.size w w' := by
  rcases h with h | h
  · go_enter Tryd.func18, Tryd.ntmps18
    go_wp2_with fail
    exact bodyPost_ret (v := .tuple #[.agg #[.string ByteArray.empty, .int .i64 0, .int .i64 0, .int .i64 0, .bool false, .int .i64 0, .bool false], .int .i64 6]) (by simp [results, Tryd.results18, go_sem]; rfl) rfl ⟨rfl, (Below.refl _ _).alloc (Nat.le_refl _) _⟩
  · have h' : ¬ op < 1 := by omega
    go_enter Tryd.func18, Tryd.ntmps18
    go_wp2_with fail
    exact bodyPost_ret (v := .tuple #[.agg #[.string ByteArray.empty, .int .i64 0, .int .i64 0, .int .i64 0, .bool false, .int .i64 0, .bool false], .int .i64 6]) (by simp [results, Tryd.results18, go_sem]; rfl) rfl ⟨rfl, (Below.refl _ _).alloc (Nat.le_refl _) _⟩

end Go.Proofs.YtlffpgjkhehdmaaDoor
