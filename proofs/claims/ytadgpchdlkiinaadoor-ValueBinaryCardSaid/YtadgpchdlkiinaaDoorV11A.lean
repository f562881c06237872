/- Own work: Binary of the package and of its reference, operator by operator; ValueBinary. -/
import Derived.Test.YtadgpchdlkiinaaDoorV10
namespace Go.Proofs.YtadgpchdlkiinaaDoor
open Go.RowKit
set_option maxRecDepth 100000

theorem k33A (k k' : Int) : (k = 3 ∧ k' = 3) ∨ (k = 3 ∧ decide (k' = 3) = false) ∨ decide (k = 3) = false := by
  simp only [decide_eq_false_iff_not]; omega
theorem vb_6 (v w a b : Val) (hv : R 16 [pV v] (pV a)) (hw : R 16 [pV w] (pV b)) (u : Val) (e : Int) (h : R 48 [pV a, pV b] (pVE u e)) : R 26 [pI 6, pV v, pV w] (pVE u e) := by
  obtain ⟨k9, n9, s9, r9⟩ := u
  obtain ⟨k, n, s, r⟩ := v
  obtain ⟨k2, n2, s2, r2⟩ := w
  obtain ⟨k3', n3, s3, r3⟩ := a
  obtain ⟨k4', n4, s4, r4⟩ := b
  all_goals (
    refine ret_by tyT_ok good_gr mixed (fun n => match n with | 1 => 3 | _ => 0) Tryd.func26 rfl (by kernel_rfl) (by kernel_rfl) rfl fun P G E hc hE => ?_
    replace hv := hc _ _ _ hv
    replace hw := hc _ _ _ hw
    replace h := hc _ _ _ h
    cbv
    repeat (first | (simp only [x3]; cbv) | simp only [x3] | (simp only [y3]; cbv) | simp only [y3] | (refine ⟨_, hv, ?_⟩; cbv) | (refine ⟨_, hw, ?_⟩; cbv) | (refine ⟨_, h, ?_⟩; cbv))
  )
theorem vb_7_bad (v w a b : Val) (hv : R 16 [pV v] (pV a)) (hw : R 16 [pV w] (pV b)) (h3 : ¬ (a.k = 3 ∧ b.k = 3)) : R 26 [pI 7, pV v, pV w] (pVE v0 8) := by
  obtain ⟨k, n, s, r⟩ := v
  obtain ⟨k2, n2, s2, r2⟩ := w
  obtain ⟨k3', n3, s3, r3⟩ := a
  obtain ⟨k4', n4, s4, r4⟩ := b
  simp only at h3
  rcases k33A k3' k4' with ⟨rfl, rfl⟩ | ⟨rfl, y3⟩ | x3
  · exact absurd ⟨rfl, rfl⟩ h3
  all_goals (
    refine ret_by tyT_ok good_gr mixed (fun n => match n with | 1 => 3 | _ => 0) Tryd.func26 rfl (by kernel_rfl) (by kernel_rfl) rfl fun P G E hc hE => ?_
    replace hv := hc _ _ _ hv
    replace hw := hc _ _ _ hw
    cbv
    repeat (first | (simp only [x3]; cbv) | simp only [x3] | (simp only [y3]; cbv) | simp only [y3] | (refine ⟨_, hv, ?_⟩; cbv) | (refine ⟨_, hw, ?_⟩; cbv))
  )
theorem vb_8_bad (v w a b : Val) (hv : R 16 [pV v] (pV a)) (hw : R 16 [pV w] (pV b)) (h3 : ¬ (a.k = 3 ∧ b.k = 3)) : R 26 [pI 8, pV v, pV w] (pVE v0 8) := by
  obtain ⟨k, n, s, r⟩ := v
  obtain ⟨k2, n2, s2, r2⟩ := w
  obtain ⟨k3', n3, s3, r3⟩ := a
  obtain ⟨k4', n4, s4, r4⟩ := b
  simp only at h3
  rcases k33A k3' k4' with ⟨rfl, rfl⟩ | ⟨rfl, y3⟩ | x3
  · exact absurd ⟨rfl, rfl⟩ h3
  all_goals (
    refine ret_by tyT_ok good_gr mixed (fun n => match n with | 1 => 3 | _ => 0) Tryd.func26 rfl (by kernel_rfl) (by kernel_rfl) rfl fun P G E hc hE => ?_
    replace hv := hc _ _ _ hv
    replace hw := hc _ _ _ hw
    cbv
    repeat (first | (simp only [x3]; cbv) | simp only [x3] | (simp only [y3]; cbv) | simp only [y3] | (refine ⟨_, hv, ?_⟩; cbv) | (refine ⟨_, hw, ?_⟩; cbv))
  )
theorem vb_9_bad (v w a b : Val) (hv : R 16 [pV v] (pV a)) (hw : R 16 [pV w] (pV b)) (h3 : ¬ (a.k = 3 ∧ b.k = 3)) : R 26 [pI 9, pV v, pV w] (pVE v0 8) := by
  obtain ⟨k, n, s, r⟩ := v
  obtain ⟨k2, n2, s2, r2⟩ := w
  obtain ⟨k3', n3, s3, r3⟩ := a
  obtain ⟨k4', n4, s4, r4⟩ := b
  simp only at h3
  rcases k33A k3' k4' with ⟨rfl, rfl⟩ | ⟨rfl, y3⟩ | x3
  · exact absurd ⟨rfl, rfl⟩ h3
  all_goals (
    refine ret_by tyT_ok good_gr mixed (fun n => match n with | 1 => 3 | _ => 0) Tryd.func26 rfl (by kernel_rfl) (by kernel_rfl) rfl fun P G E hc hE => ?_
    replace hv := hc _ _ _ hv
    replace hw := hc _ _ _ hw
    cbv
    repeat (first | (simp only [x3]; cbv) | simp only [x3] | (simp only [y3]; cbv) | simp only [y3] | (refine ⟨_, hv, ?_⟩; cbv) | (refine ⟨_, hw, ?_⟩; cbv))
  )
theorem vb_10_bad (v w a b : Val) (hv : R 16 [pV v] (pV a)) (hw : R 16 [pV w] (pV b)) (h3 : ¬ (a.k = 3 ∧ b.k = 3)) : R 26 [pI 10, pV v, pV w] (pVE v0 8) := by
  obtain ⟨k, n, s, r⟩ := v
  obtain ⟨k2, n2, s2, r2⟩ := w
  obtain ⟨k3', n3, s3, r3⟩ := a
  obtain ⟨k4', n4, s4, r4⟩ := b
  simp only at h3
  rcases k33A k3' k4' with ⟨rfl, rfl⟩ | ⟨rfl, y3⟩ | x3
  · exact absurd ⟨rfl, rfl⟩ h3
  all_goals (
    refine ret_by tyT_ok good_gr mixed (fun n => match n with | 1 => 3 | _ => 0) Tryd.func26 rfl (by kernel_rfl) (by kernel_rfl) rfl fun P G E hc hE => ?_
    replace hv := hc _ _ _ hv
    replace hw := hc _ _ _ hw
    cbv
    repeat (first | (simp only [x3]; cbv) | simp only [x3] | (simp only [y3]; cbv) | simp only [y3] | (refine ⟨_, hv, ?_⟩; cbv) | (refine ⟨_, hw, ?_⟩; cbv))
  )
theorem vb_7 (v w a b : Val) (hv : R 16 [pV v] (pV a)) (hw : R 16 [pV w] (pV b)) (ha : a.k = 3) (hb : b.k = 3) : R 26 [pI 7, pV v, pV w] (pVE (arithE 7 a.n b.n).1 (arithE 7 a.n b.n).2) := by
  have ho := arith_ret 7 a.n b.n (by omega)
  obtain ⟨k, n, s, r⟩ := v
  obtain ⟨k2, n2, s2, r2⟩ := w
  obtain ⟨k3', n3, s3, r3⟩ := a
  obtain ⟨k4', n4, s4, r4⟩ := b
  simp only at ha hb ho
  subst ha hb
  generalize arithE 7 n3 n4 = q at *
  obtain ⟨⟨q1, q2, q3, q4⟩, q5⟩ := q
  refine ret_by tyT_ok good_gr mixed (fun n => match n with | 1 => 3 | _ => 0) Tryd.func26 rfl (by kernel_rfl) (by kernel_rfl) rfl fun P G E hc hE => ?_
  replace hv := hc _ _ _ hv
  replace hw := hc _ _ _ hw
  replace ho := hc _ _ _ ho
  cbv
  repeat (first | (refine ⟨_, hv, ?_⟩; cbv) | (refine ⟨_, hw, ?_⟩; cbv) | (refine ⟨_, ho, ?_⟩; cbv))
theorem vb_8 (v w a b : Val) (hv : R 16 [pV v] (pV a)) (hw : R 16 [pV w] (pV b)) (ha : a.k = 3) (hb : b.k = 3) : R 26 [pI 8, pV v, pV w] (pVE (arithE 8 a.n b.n).1 (arithE 8 a.n b.n).2) := by
  have ho := arith_ret 8 a.n b.n (by omega)
  obtain ⟨k, n, s, r⟩ := v
  obtain ⟨k2, n2, s2, r2⟩ := w
  obtain ⟨k3', n3, s3, r3⟩ := a
  obtain ⟨k4', n4, s4, r4⟩ := b
  simp only at ha hb ho
  subst ha hb
  generalize arithE 8 n3 n4 = q at *
  obtain ⟨⟨q1, q2, q3, q4⟩, q5⟩ := q
  refine ret_by tyT_ok good_gr mixed (fun n => match n with | 1 => 3 | _ => 0) Tryd.func26 rfl (by kernel_rfl) (by kernel_rfl) rfl fun P G E hc hE => ?_
  replace hv := hc _ _ _ hv
  replace hw := hc _ _ _ hw
  replace ho := hc _ _ _ ho
  cbv
  repeat (first | (refine ⟨_, hv, ?_⟩; cbv) | (refine ⟨_, hw, ?_⟩; cbv) | (refine ⟨_, ho, ?_⟩; cbv))
theorem vb_9 (v w a b : Val) (hv : R 16 [pV v] (pV a)) (hw : R 16 [pV w] (pV b)) (ha : a.k = 3) (hb : b.k = 3) : R 26 [pI 9, pV v, pV w] (pVE (arithE 9 a.n b.n).1 (arithE 9 a.n b.n).2) := by
  have ho := arith_ret 9 a.n b.n (by omega)
  obtain ⟨k, n, s, r⟩ := v
  obtain ⟨k2, n2, s2, r2⟩ := w
  obtain ⟨k3', n3, s3, r3⟩ := a
  obtain ⟨k4', n4, s4, r4⟩ := b
  simp only at ha hb ho
  subst ha hb
  generalize arithE 9 n3 n4 = q at *
  obtain ⟨⟨q1, q2, q3, q4⟩, q5⟩ := q
  refine ret_by tyT_ok good_gr mixed (fun n => match n with | 1 => 3 | _ => 0) Tryd.func26 rfl (by kernel_rfl) (by kernel_rfl) rfl fun P G E hc hE => ?_
  replace hv := hc _ _ _ hv
  replace hw := hc _ _ _ hw
  replace ho := hc _ _ _ ho
  cbv
  repeat (first | (refine ⟨_, hv, ?_⟩; cbv) | (refine ⟨_, hw, ?_⟩; cbv) | (refine ⟨_, ho, ?_⟩; cbv))
theorem vb_10 (v w a b : Val) (hv : R 16 [pV v] (pV a)) (hw : R 16 [pV w] (pV b)) (ha : a.k = 3) (hb : b.k = 3) : R 26 [pI 10, pV v, pV w] (pVE (arithE 10 a.n b.n).1 (arithE 10 a.n b.n).2) := by
  have ho := arith_ret 10 a.n b.n (by omega)
  obtain ⟨k, n, s, r⟩ := v
  obtain ⟨k2, n2, s2, r2⟩ := w
  obtain ⟨k3', n3, s3, r3⟩ := a
  obtain ⟨k4', n4, s4, r4⟩ := b
  simp only at ha hb ho
  subst ha hb
  generalize arithE 10 n3 n4 = q at *
  obtain ⟨⟨q1, q2, q3, q4⟩, q5⟩ := q
  refine ret_by tyT_ok good_gr mixed (fun n => match n with | 1 => 3 | _ => 0) Tryd.func26 rfl (by kernel_rfl) (by kernel_rfl) rfl fun P G E hc hE => ?_
  replace hv := hc _ _ _ hv
  replace hw := hc _ _ _ hw
  replace ho := hc _ _ _ ho
  cbv
  repeat (first | (refine ⟨_, hv, ?_⟩; cbv) | (refine ⟨_, hw, ?_⟩; cbv) | (refine ⟨_, ho, ?_⟩; cbv))
theorem vb_11 (v w a b : Val) (hv : R 16 [pV v] (pV a)) (hw : R 16 [pV w] (pV b)) (x : Bool) (h : R 23 [pV a, pV b] (pB x)) : R 26 [pI 11, pV v, pV w] (pVE (vB x) 0) := by
  have o1 := truth_ret true
  have o0 := truth_ret false
  obtain ⟨k, n, s, r⟩ := v
  obtain ⟨k2, n2, s2, r2⟩ := w
  obtain ⟨k3', n3, s3, r3⟩ := a
  obtain ⟨k4', n4, s4, r4⟩ := b
  cases x
  all_goals skip
  all_goals (
    refine ret_by tyT_ok good_gr mixed (fun n => match n with | 1 => 3 | _ => 0) Tryd.func26 rfl (by kernel_rfl) (by kernel_rfl) rfl fun P G E hc hE => ?_
    replace hv := hc _ _ _ hv
    replace hw := hc _ _ _ hw
    replace h := hc _ _ _ h
    replace o1 := hc _ _ _ o1
    replace o0 := hc _ _ _ o0
    cbv
    repeat (first | (simp only [x3]; cbv) | simp only [x3] | (simp only [y3]; cbv) | simp only [y3] | (refine ⟨_, hv, ?_⟩; cbv) | (refine ⟨_, hw, ?_⟩; cbv) | (refine ⟨_, h, ?_⟩; cbv) | (refine ⟨_, o1, ?_⟩; cbv) | (refine ⟨_, o0, ?_⟩; cbv))
  )
theorem vb_12 (v w a b : Val) (hv : R 16 [pV v] (pV a)) (hw : R 16 [pV w] (pV b)) (x : Bool) (h : R 23 [pV a, pV b] (pB x)) : R 26 [pI 12, pV v, pV w] (pVE (vB (!x)) 0) := by
  have o1 := truth_ret true
  have o0 := truth_ret false
  obtain ⟨k, n, s, r⟩ := v
  obtain ⟨k2, n2, s2, r2⟩ := w
  obtain ⟨k3', n3, s3, r3⟩ := a
  obtain ⟨k4', n4, s4, r4⟩ := b
  cases x
  all_goals skip
  all_goals (
    refine ret_by tyT_ok good_gr mixed (fun n => match n with | 1 => 3 | _ => 0) Tryd.func26 rfl (by kernel_rfl) (by kernel_rfl) rfl fun P G E hc hE => ?_
    replace hv := hc _ _ _ hv
    replace hw := hc _ _ _ hw
    replace h := hc _ _ _ h
    replace o1 := hc _ _ _ o1
    replace o0 := hc _ _ _ o0
    cbv
    repeat (first | (simp only [x3]; cbv) | simp only [x3] | (simp only [y3]; cbv) | simp only [y3] | (refine ⟨_, hv, ?_⟩; cbv) | (refine ⟨_, hw, ?_⟩; cbv) | (refine ⟨_, h, ?_⟩; cbv) | (refine ⟨_, o1, ?_⟩; cbv) | (refine ⟨_, o0, ?_⟩; cbv))
  )
theorem vb_13 (v w a b : Val) (hv : R 16 [pV v] (pV a)) (hw : R 16 [pV w] (pV b)) (x : Bool) (h : R 22 [pV a, pV b] (pB x)) : R 26 [pI 13, pV v, pV w] (pVE (vB x) 0) := by
  have o1 := truth_ret true
  have o0 := truth_ret false
  obtain ⟨k, n, s, r⟩ := v
  obtain ⟨k2, n2, s2, r2⟩ := w
  obtain ⟨k3', n3, s3, r3⟩ := a
  obtain ⟨k4', n4, s4, r4⟩ := b
  cases x
  all_goals skip
  all_goals (
    refine ret_by tyT_ok good_gr mixed (fun n => match n with | 1 => 3 | _ => 0) Tryd.func26 rfl (by kernel_rfl) (by kernel_rfl) rfl fun P G E hc hE => ?_
    replace hv := hc _ _ _ hv
    replace hw := hc _ _ _ hw
    replace h := hc _ _ _ h
    replace o1 := hc _ _ _ o1
    replace o0 := hc _ _ _ o0
    cbv
    repeat (first | (simp only [x3]; cbv) | simp only [x3] | (simp only [y3]; cbv) | simp only [y3] | (refine ⟨_, hv, ?_⟩; cbv) | (refine ⟨_, hw, ?_⟩; cbv) | (refine ⟨_, h, ?_⟩; cbv) | (refine ⟨_, o1, ?_⟩; cbv) | (refine ⟨_, o0, ?_⟩; cbv))
  )
theorem vb_14 (v w a b : Val) (hv : R 16 [pV v] (pV a)) (hw : R 16 [pV w] (pV b)) (x : Bool) (h : R 22 [pV a, pV b] (pB x)) : R 26 [pI 14, pV v, pV w] (pVE (vB (!x)) 0) := by
  have o1 := truth_ret true
  have o0 := truth_ret false
  obtain ⟨k, n, s, r⟩ := v
  obtain ⟨k2, n2, s2, r2⟩ := w
  obtain ⟨k3', n3, s3, r3⟩ := a
  obtain ⟨k4', n4, s4, r4⟩ := b
  cases x
  all_goals skip
  all_goals (
    refine ret_by tyT_ok good_gr mixed (fun n => match n with | 1 => 3 | _ => 0) Tryd.func26 rfl (by kernel_rfl) (by kernel_rfl) rfl fun P G E hc hE => ?_
    replace hv := hc _ _ _ hv
    replace hw := hc _ _ _ hw
    replace h := hc _ _ _ h
    replace o1 := hc _ _ _ o1
    replace o0 := hc _ _ _ o0
    cbv
    repeat (first | (simp only [x3]; cbv) | simp only [x3] | (simp only [y3]; cbv) | simp only [y3] | (refine ⟨_, hv, ?_⟩; cbv) | (refine ⟨_, hw, ?_⟩; cbv) | (refine ⟨_, h, ?_⟩; cbv) | (refine ⟨_, o1, ?_⟩; cbv) | (refine ⟨_, o0, ?_⟩; cbv))
  )
theorem vb_else (op : Int) (ho : op < 6 ∨ 18 < op) (v w a b : Val) (hv : R 16 [pV v] (pV a)) (hw : R 16 [pV w] (pV b)) : R 26 [pI op, pV v, pV w] (pVE v0 1) := by
  obtain ⟨k, n, s, r⟩ := v
  obtain ⟨k2, n2, s2, r2⟩ := w
  obtain ⟨k3', n3, s3, r3⟩ := a
  obtain ⟨k4', n4, s4, r4⟩ := b
  refine ret_by tyT_ok good_gr mixed (fun n => match n with | 1 => 3 | _ => 0) Tryd.func26 rfl (by kernel_rfl) (by kernel_rfl) rfl fun P G E hc hE => ?_
  replace hv := hc _ _ _ hv
  replace hw := hc _ _ _ hw
  have q6 : decide (op = 6) = false := decide_eq_false (by omega)
  have q7 : decide (op = 7) = false := decide_eq_false (by omega)
  have q8 : decide (op = 8) = false := decide_eq_false (by omega)
  have q9 : decide (op = 9) = false := decide_eq_false (by omega)
  have q10 : decide (op = 10) = false := decide_eq_false (by omega)
  have q11 : decide (op = 11) = false := decide_eq_false (by omega)
  have q12 : decide (op = 12) = false := decide_eq_false (by omega)
  have q13 : decide (op = 13) = false := decide_eq_false (by omega)
  have q14 : decide (op = 14) = false := decide_eq_false (by omega)
  have q15 : decide (op = 15) = false := decide_eq_false (by omega)
  have q16 : decide (op = 16) = false := decide_eq_false (by omega)
  have q17 : decide (op = 17) = false := decide_eq_false (by omega)
  have q18 : decide (op = 18) = false := decide_eq_false (by omega)
  cbv
  repeat (first | (refine ⟨_, hv, ?_⟩; cbv) | (refine ⟨_, hw, ?_⟩; cbv) | (simp only [q6]; cbv) | simp only [q6] | (simp only [q7]; cbv) | simp only [q7] | (simp only [q8]; cbv) | simp only [q8] | (simp only [q9]; cbv) | simp only [q9] | (simp only [q10]; cbv) | simp only [q10] | (simp only [q11]; cbv) | simp only [q11] | (simp only [q12]; cbv) | simp only [q12] | (simp only [q13]; cbv) | simp only [q13] | (simp only [q14]; cbv) | simp only [q14] | (simp only [q15]; cbv) | simp only [q15] | (simp only [q16]; cbv) | simp only [q16] | (simp only [q17]; cbv) | simp only [q17] | (simp only [q18]; cbv) | simp only [q18])
end Go.Proofs.YtadgpchdlkiinaaDoor
