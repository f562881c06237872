/- Own work: functions of package value and its reference. -/
import Derived.Test.YtadgpchdlkiinaaDoorVG
namespace Go.Proofs.YtadgpchdlkiinaaDoor
open Go.RowKit

/-- a value of the script language -/
structure Val where
  k : Int
  n : Int
  s : ByteArray
  r : Int
abbrev pV (v : Val) : PV := .agg [pI v.k, pI v.n, pS v.s, pI v.r]
/-- a value and an error number -/
abbrev pVE (v : Val) (e : Int) : PV := .tup [pV v, pI e]
/-- the kinds, one by one -/
theorem kinds (k : Int) : k = 0 ∨ k = 1 ∨ k = 2 ∨ k = 3 ∨ k = 4 ∨ k = 5 ∨ k = 6 ∨ (decide (k = 0) = false ∧ decide (k = 1) = false ∧ decide (k = 2) = false ∧ decide (k = 3) = false ∧ decide (k = 4) = false ∧ decide (k = 5) = false ∧ decide (k = 6) = false) := by
  simp only [decide_eq_false_iff_not]; omega
def b2i (b : Bool) : Int := if b then 1 else 0
def vI (n : Int) : Val := ⟨3, n, ⟨#[]⟩, 0⟩
def vB (b : Bool) : Val := ⟨2, b2i b, ⟨#[]⟩, 0⟩
def vR (n : Int) : Val := ⟨5, 0, ⟨#[]⟩, n⟩
def vS (s : ByteArray) : Val := ⟨4, 0, s, 0⟩
def v0 : Val := ⟨0, 0, ⟨#[]⟩, 0⟩
set_option maxRecDepth 100000
theorem of_ret (n : Int) : R 17 [pI n] (pV (vI n)) := by
  refine ret_by tyT_ok good_gr mixed (fun _ => 0) Tryd.func17 rfl (by kernel_rfl) (by kernel_rfl) rfl fun P G E hc hE => ?_
  cbv
theorem ref_ret (n : Int) : R 21 [pI n] (pV (vR n)) := by
  refine ret_by tyT_ok good_gr mixed (fun _ => 0) Tryd.func21 rfl (by kernel_rfl) (by kernel_rfl) rfl fun P G E hc hE => ?_
  cbv
theorem truth_ret (b : Bool) : R 19 [pB b] (pV (vB b)) := by
  refine ret_by tyT_ok good_gr mixed (fun _ => 0) Tryd.func19 rfl (by kernel_rfl) (by kernel_rfl) rfl fun P G E hc hE => ?_
  cases b <;> cbv
theorem rtruth_ret (b : Bool) : R 52 [pB b] (pV (vB b)) := by
  refine ret_by tyT_ok good_gr mixed (fun _ => 0) Tryd.func52 rfl (by kernel_rfl) (by kernel_rfl) rfl fun P G E hc hE => ?_
  cases b <;> cbv
theorem rinteger_ret (n : Int) : R 54 [pI n] (pV (vI n)) := by
  refine ret_by tyT_ok good_gr mixed (fun _ => 0) Tryd.func54 rfl (by kernel_rfl) (by kernel_rfl) rfl fun P G E hc hE => ?_
  cbv
theorem one_ret (b : Bool) : R 20 [pB b] (pI (b2i b)) := by
  refine ret_by tyT_ok good_gr mixed (fun _ => 0) Tryd.func20 rfl (by kernel_rfl) (by kernel_rfl) rfl fun P G E hc hE => ?_
  cases b <;> cbv
def truthyB (v : Val) : Bool := if v.k = 2 ∨ v.k = 3 then !decide (v.n = 0) else if v.k = 4 then !decide (v.s = ⟨#[]⟩) else decide (v.k = 5)
theorem truthy_ret (v : Val) : R 29 [pV v] (pB (truthyB v)) := by
  obtain ⟨k, n, s, r⟩ := v
  refine ret_by tyT_ok good_gr mixed (fun _ => 0) Tryd.func29 rfl (by kernel_rfl) (by kernel_rfl) rfl fun P G E hc hE => ?_
  generalize hq : truthyB ⟨k, n, s, r⟩ = q
  rcases kinds k with rfl | rfl | rfl | rfl | rfl | rfl | rfl | ⟨e0, e1, e2, e3, e4, e5, e6⟩
  · cbv; subst hq; rfl
  · cbv; subst hq; rfl
  · cbv; subst hq; cases h : decide (n = 0) <;> simp [truthyB, h]
  · cbv; subst hq; cases h : decide (n = 0) <;> simp [truthyB, h]
  · cbv; subst hq hE; cases h : decide (s = ⟨#[]⟩) <;> simp [truthyB, h, stdE]
  · cbv; subst hq; rfl
  · cbv; subst hq; rfl
  · cbv; repeat (simp only [e2, e3, e4, e5]; cbv)
    subst hq; simp_all [truthyB]
theorem text_ret (s t : ByteArray) (h : R 45 [pS s] (pS t)) : R 18 [pS s] (pV (vS t)) := by
  refine ret_by tyT_ok good_gr mixed (fun _ => 0) Tryd.func18 rfl (by kernel_rfl) (by kernel_rfl) rfl fun P G E hc hE => ?_
  cbv
  refine ⟨_, hc _ _ _ h, ?_⟩
  cbv
theorem repair_valid (s : ByteArray) (hs : s.size ≤ 9223372036854775807) (hv : validB s = true) : R 45 [pS s] (pS s) := by
  have h := valid_ret s hs
  rw [hv] at h
  refine ret_by tyT_ok good_gr mixed (fun _ => 0) Tryd.func45 rfl (by kernel_rfl) (by kernel_rfl) rfl fun P G E hc hE => ?_
  cbv
  refine ⟨_, hc _ _ _ h, ?_⟩
  cbv
/-- the value as which a value counts, if its text counts as t -/
def normV (v : Val) (t : ByteArray) : Val := if v.k = 2 then vB (!decide (v.n = 0)) else if v.k = 3 then vI v.n else if v.k = 4 then vS t else if v.k = 5 then vR v.r else if v.k = 1 ∨ v.k = 6 then ⟨v.k, 0, ⟨#[]⟩, 0⟩ else v0
theorem normal_ret (v : Val) (t : ByteArray) (h : v.k = 4 → R 45 [pS v.s] (pS t)) : R 16 [pV v] (pV (normV v t)) := by
  obtain ⟨k, n, s, r⟩ := v
  refine ret_by tyT_ok good_gr mixed (fun _ => 0) Tryd.func16 rfl (by kernel_rfl) (by kernel_rfl) rfl fun P G E hc hE => ?_
  generalize hq : normV ⟨k, n, s, r⟩ t = q
  rcases kinds k with rfl | rfl | rfl | rfl | rfl | rfl | rfl | ⟨e0, e1, e2, e3, e4, e5, e6⟩
  · cbv; subst hq; rfl
  · cbv; subst hq; rfl
  · cbv
    refine ⟨_, hc _ _ _ (truth_ret _), ?_⟩
    cbv; subst hq; cases h : decide (n = 0) <;> simp [normV, h, vB, b2i] <;> rfl
  · cbv
    refine ⟨_, hc _ _ _ (of_ret n), ?_⟩
    cbv; subst hq; rfl
  · cbv
    refine ⟨_, hc _ _ _ (text_ret s t (h rfl)), ?_⟩
    cbv; subst hq; rfl
  · cbv
    refine ⟨_, hc _ _ _ (ref_ret r), ?_⟩
    cbv; subst hq; rfl
  · cbv; subst hq; rfl
  · cbv; repeat (simp only [e1, e2, e3, e4, e5, e6]; cbv)
    subst hq; simp_all [normV, v0]

/-- the errors -/
abbrev wr (n : Int) : Int := IntKind.i64.wrap n
def arithE (op a b : Int) : Val × Int := if op = 7 then (vI (wr (a - b)), 0) else if op = 8 then (vI (wr (a * b)), 0) else if b = 0 then (v0, 2) else if b = -1 then (if op = 9 then vI (wr (0 - a)) else vI 0, 0) else if op = 9 then (vI (wr (a.tdiv b)), 0) else (vI (a.tmod b), 0)
theorem arith_ret (op a b : Int) (h : op = 7 ∨ op = 8 ∨ op = 9 ∨ op = 10) : R 49 [pI op, pI a, pI b] (pVE (arithE op a b).1 (arithE op a b).2) := by
  refine ret_by tyT_ok good_gr mixed (fun _ => 0) Tryd.func49 rfl (by kernel_rfl) (by kernel_rfl) rfl fun P G E hc hE => ?_
  have hof : ∀ n, Ret P G 17 [pI n] (pV (vI n)) := fun n => hc _ _ _ (of_ret n)
  generalize hq : arithE op a b = q
  rcases h with rfl | rfl | rfl | rfl
  · cbv; refine ⟨_, hof _, ?_⟩; cbv; subst hq hE; rfl
  · cbv; refine ⟨_, hof _, ?_⟩; cbv; subst hq hE; rfl
  · by_cases b0 : b = 0
    · subst b0; cbv; subst hq; rfl
    · by_cases b1 : b = -1
      · subst b1; cbv; refine ⟨_, hof _, ?_⟩; cbv; subst hq hE; rfl
      · have h0 : decide (b = 0) = false := by simpa using b0
        have h1 : decide (b = -1) = false := by simpa using b1
        cbv; repeat (simp only [h0, h1]; cbv)
        refine ⟨b0, ?_⟩; cbv
        refine ⟨_, hof _, ?_⟩; cbv; subst hq hE; simp [arithE, b0, b1, vI, wr, stdE] <;> rfl
  · by_cases b0 : b = 0
    · subst b0; cbv; subst hq; rfl
    · by_cases b1 : b = -1
      · subst b1; cbv; refine ⟨_, hof _, ?_⟩; cbv; subst hq hE; rfl
      · have h0 : decide (b = 0) = false := by simpa using b0
        have h1 : decide (b = -1) = false := by simpa using b1
        cbv; repeat (simp only [h0, h1]; cbv)
        refine ⟨b0, ?_⟩; cbv
        refine ⟨_, hof _, ?_⟩; cbv; subst hq hE; simp [arithE, b0, b1, vI, stdE] <;> rfl
def absI (n : Int) : Int := if n < 0 then -n else n
theorem abs_ret (n : Int) (h0 : -9223372036854775808 ≤ n) (h1 : n ≤ 9223372036854775807) : R 28 [pI n] (.v (.int .u64 (absI n))) := by
  refine ret_by tyT_ok good_gr mixed (fun _ => 0) Tryd.func28 rfl (by kernel_rfl) (by kernel_rfl) rfl fun P G E hc hE => ?_
  generalize hq : absI n = q
  have hl : E.lti n 0 = decide (n < 0) := by rw [hE]; rfl
  cases hn : decide (n < 0)
  all_goals (rw [hn] at hl; cbv; simp only [hl]; cbv)
  all_goals (subst hq hE; congr 2; simp at hn; simp only [stdE, wrap_u64_eq, absI]; split <;> omega)
end Go.Proofs.YtadgpchdlkiinaaDoor
