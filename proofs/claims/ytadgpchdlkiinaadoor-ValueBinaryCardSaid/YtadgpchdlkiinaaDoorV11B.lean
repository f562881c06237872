/- Own work: Binary of the package and of its reference, operator by operator; ValueBinary. -/
import Derived.Test.YtadgpchdlkiinaaDoorV10
namespace Go.Proofs.YtadgpchdlkiinaaDoor
open Go.RowKit
set_option maxRecDepth 100000

theorem k33B (k k' : Int) : (k = 3 ∧ k' = 3) ∨ (k = 3 ∧ decide (k' = 3) = false) ∨ decide (k = 3) = false := by
  simp only [decide_eq_false_iff_not]; omega
theorem rb_6 (v w a b : Val) (hv : R 44 [pV v] (pV a)) (hw : R 44 [pV w] (pV b)) (u : Val) (e : Int) (h : R 51 [pV a, pV b] (pVE u e)) : R 27 [pI 6, pV v, pV w] (pVE u e) := by
  obtain ⟨k9, n9, s9, r9⟩ := u
  obtain ⟨k, n, s, r⟩ := v
  obtain ⟨k2, n2, s2, r2⟩ := w
  obtain ⟨k3', n3, s3, r3⟩ := a
  obtain ⟨k4', n4, s4, r4⟩ := b
  rcases k33B k3' k4' with ⟨rfl, rfl⟩ | ⟨rfl, y3⟩ | x3
  all_goals (
    refine ret_by tyT_ok good_gr mixed (fun _ => 0) Tryd.func27 rfl (by kernel_rfl) (by kernel_rfl) rfl fun P G E hc hE => ?_
    replace hv := hc _ _ _ hv
    replace hw := hc _ _ _ hw
    replace h := hc _ _ _ h
    have e6 : E.lti 6 6 = false := by rw [hE]; rfl
    have e18 : E.lti 18 6 = false := by rw [hE]; rfl
    have e15 : E.lei 15 6 = false := by rw [hE]; rfl
    cbv
    repeat (first | (simp only [x3]; cbv) | simp only [x3] | (simp only [y3]; cbv) | simp only [y3] | (refine ⟨_, hv, ?_⟩; cbv) | (refine ⟨_, hw, ?_⟩; cbv) | (simp only [e6]; cbv) | simp only [e6] | (simp only [e18]; cbv) | simp only [e18] | (simp only [e15]; cbv) | simp only [e15] | (refine ⟨_, h, ?_⟩; cbv))
  )
theorem rb_7_bad (v w a b : Val) (hv : R 44 [pV v] (pV a)) (hw : R 44 [pV w] (pV b)) (h3 : ¬ (a.k = 3 ∧ b.k = 3)) : R 27 [pI 7, pV v, pV w] (pVE v0 8) := by
  obtain ⟨k, n, s, r⟩ := v
  obtain ⟨k2, n2, s2, r2⟩ := w
  obtain ⟨k3', n3, s3, r3⟩ := a
  obtain ⟨k4', n4, s4, r4⟩ := b
  simp only at h3
  rcases k33B k3' k4' with ⟨rfl, rfl⟩ | ⟨rfl, y3⟩ | x3
  · exact absurd ⟨rfl, rfl⟩ h3
  all_goals (
    refine ret_by tyT_ok good_gr mixed (fun _ => 0) Tryd.func27 rfl (by kernel_rfl) (by kernel_rfl) rfl fun P G E hc hE => ?_
    replace hv := hc _ _ _ hv
    replace hw := hc _ _ _ hw
    have e6 : E.lti 7 6 = false := by rw [hE]; rfl
    have e18 : E.lti 18 7 = false := by rw [hE]; rfl
    have e15 : E.lei 15 7 = false := by rw [hE]; rfl
    cbv
    repeat (first | (simp only [x3]; cbv) | simp only [x3] | (simp only [y3]; cbv) | simp only [y3] | (refine ⟨_, hv, ?_⟩; cbv) | (refine ⟨_, hw, ?_⟩; cbv) | (simp only [e6]; cbv) | simp only [e6] | (simp only [e18]; cbv) | simp only [e18] | (simp only [e15]; cbv) | simp only [e15])
  )
theorem rb_8_bad (v w a b : Val) (hv : R 44 [pV v] (pV a)) (hw : R 44 [pV w] (pV b)) (h3 : ¬ (a.k = 3 ∧ b.k = 3)) : R 27 [pI 8, pV v, pV w] (pVE v0 8) := by
  obtain ⟨k, n, s, r⟩ := v
  obtain ⟨k2, n2, s2, r2⟩ := w
  obtain ⟨k3', n3, s3, r3⟩ := a
  obtain ⟨k4', n4, s4, r4⟩ := b
  simp only at h3
  rcases k33B k3' k4' with ⟨rfl, rfl⟩ | ⟨rfl, y3⟩ | x3
  · exact absurd ⟨rfl, rfl⟩ h3
  all_goals (
    refine ret_by tyT_ok good_gr mixed (fun _ => 0) Tryd.func27 rfl (by kernel_rfl) (by kernel_rfl) rfl fun P G E hc hE => ?_
    replace hv := hc _ _ _ hv
    replace hw := hc _ _ _ hw
    have e6 : E.lti 8 6 = false := by rw [hE]; rfl
    have e18 : E.lti 18 8 = false := by rw [hE]; rfl
    have e15 : E.lei 15 8 = false := by rw [hE]; rfl
    cbv
    repeat (first | (simp only [x3]; cbv) | simp only [x3] | (simp only [y3]; cbv) | simp only [y3] | (refine ⟨_, hv, ?_⟩; cbv) | (refine ⟨_, hw, ?_⟩; cbv) | (simp only [e6]; cbv) | simp only [e6] | (simp only [e18]; cbv) | simp only [e18] | (simp only [e15]; cbv) | simp only [e15])
  )
theorem rb_9_bad (v w a b : Val) (hv : R 44 [pV v] (pV a)) (hw : R 44 [pV w] (pV b)) (h3 : ¬ (a.k = 3 ∧ b.k = 3)) : R 27 [pI 9, pV v, pV w] (pVE v0 8) := by
  obtain ⟨k, n, s, r⟩ := v
  obtain ⟨k2, n2, s2, r2⟩ := w
  obtain ⟨k3', n3, s3, r3⟩ := a
  obtain ⟨k4', n4, s4, r4⟩ := b
  simp only at h3
  rcases k33B k3' k4' with ⟨rfl, rfl⟩ | ⟨rfl, y3⟩ | x3
  · exact absurd ⟨rfl, rfl⟩ h3
  all_goals (
    refine ret_by tyT_ok good_gr mixed (fun _ => 0) Tryd.func27 rfl (by kernel_rfl) (by kernel_rfl) rfl fun P G E hc hE => ?_
    replace hv := hc _ _ _ hv
    replace hw := hc _ _ _ hw
    have e6 : E.lti 9 6 = false := by rw [hE]; rfl
    have e18 : E.lti 18 9 = false := by rw [hE]; rfl
    have e15 : E.lei 15 9 = false := by rw [hE]; rfl
    cbv
    repeat (first | (simp only [x3]; cbv) | simp only [x3] | (simp only [y3]; cbv) | simp only [y3] | (refine ⟨_, hv, ?_⟩; cbv) | (refine ⟨_, hw, ?_⟩; cbv) | (simp only [e6]; cbv) | simp only [e6] | (simp only [e18]; cbv) | simp only [e18] | (simp only [e15]; cbv) | simp only [e15])
  )
theorem rb_10_bad (v w a b : Val) (hv : R 44 [pV v] (pV a)) (hw : R 44 [pV w] (pV b)) (h3 : ¬ (a.k = 3 ∧ b.k = 3)) : R 27 [pI 10, pV v, pV w] (pVE v0 8) := by
  obtain ⟨k, n, s, r⟩ := v
  obtain ⟨k2, n2, s2, r2⟩ := w
  obtain ⟨k3', n3, s3, r3⟩ := a
  obtain ⟨k4', n4, s4, r4⟩ := b
  simp only at h3
  rcases k33B k3' k4' with ⟨rfl, rfl⟩ | ⟨rfl, y3⟩ | x3
  · exact absurd ⟨rfl, rfl⟩ h3
  all_goals (
    refine ret_by tyT_ok good_gr mixed (fun _ => 0) Tryd.func27 rfl (by kernel_rfl) (by kernel_rfl) rfl fun P G E hc hE => ?_
    replace hv := hc _ _ _ hv
    replace hw := hc _ _ _ hw
    have e6 : E.lti 10 6 = false := by rw [hE]; rfl
    have e18 : E.lti 18 10 = false := by rw [hE]; rfl
    have e15 : E.lei 15 10 = false := by rw [hE]; rfl
    cbv
    repeat (first | (simp only [x3]; cbv) | simp only [x3] | (simp only [y3]; cbv) | simp only [y3] | (refine ⟨_, hv, ?_⟩; cbv) | (refine ⟨_, hw, ?_⟩; cbv) | (simp only [e6]; cbv) | simp only [e6] | (simp only [e18]; cbv) | simp only [e18] | (simp only [e15]; cbv) | simp only [e15])
  )
theorem rb_7 (v w a b : Val) (hv : R 44 [pV v] (pV a)) (hw : R 44 [pV w] (pV b)) (ha : a.k = 3) (hb : b.k = 3) : R 27 [pI 7, pV v, pV w] (pVE (vI (wr (a.n - b.n))) 0) := by
  have ho := rinteger_ret (wr (a.n - b.n))
  obtain ⟨k, n, s, r⟩ := v
  obtain ⟨k2, n2, s2, r2⟩ := w
  obtain ⟨k3', n3, s3, r3⟩ := a
  obtain ⟨k4', n4, s4, r4⟩ := b
  simp only at ha hb ho
  subst ha hb
  refine ret_by tyT_ok good_gr mixed (fun _ => 0) Tryd.func27 rfl (by kernel_rfl) (by kernel_rfl) rfl fun P G E hc hE => ?_
  replace hv := hc _ _ _ hv
  replace hw := hc _ _ _ hw
  replace ho := hc _ _ _ ho
  have e6 : E.lti 7 6 = false := by rw [hE]; rfl
  have e18 : E.lti 18 7 = false := by rw [hE]; rfl
  have e15 : E.lei 15 7 = false := by rw [hE]; rfl
  have eo : E.wsub .i64 n3 n4 = wr (n3 - n4) := by rw [hE]; rfl
  generalize wr (n3 - n4) = q at *
  cbv
  repeat (first | (refine ⟨_, hv, ?_⟩; cbv) | (refine ⟨_, hw, ?_⟩; cbv) | (simp only [e6]; cbv) | simp only [e6] | (simp only [e18]; cbv) | simp only [e18] | (simp only [e15]; cbv) | simp only [e15] | (simp only [eo]; cbv) | simp only [eo] | (refine ⟨_, ho, ?_⟩; cbv))
theorem rb_8 (v w a b : Val) (hv : R 44 [pV v] (pV a)) (hw : R 44 [pV w] (pV b)) (ha : a.k = 3) (hb : b.k = 3) : R 27 [pI 8, pV v, pV w] (pVE (vI (wr (a.n * b.n))) 0) := by
  have ho := rinteger_ret (wr (a.n * b.n))
  obtain ⟨k, n, s, r⟩ := v
  obtain ⟨k2, n2, s2, r2⟩ := w
  obtain ⟨k3', n3, s3, r3⟩ := a
  obtain ⟨k4', n4, s4, r4⟩ := b
  simp only at ha hb ho
  subst ha hb
  refine ret_by tyT_ok good_gr mixed (fun _ => 0) Tryd.func27 rfl (by kernel_rfl) (by kernel_rfl) rfl fun P G E hc hE => ?_
  replace hv := hc _ _ _ hv
  replace hw := hc _ _ _ hw
  replace ho := hc _ _ _ ho
  have e6 : E.lti 8 6 = false := by rw [hE]; rfl
  have e18 : E.lti 18 8 = false := by rw [hE]; rfl
  have e15 : E.lei 15 8 = false := by rw [hE]; rfl
  have eo : E.wmul .i64 n3 n4 = wr (n3 * n4) := by rw [hE]; rfl
  generalize wr (n3 * n4) = q at *
  cbv
  repeat (first | (refine ⟨_, hv, ?_⟩; cbv) | (refine ⟨_, hw, ?_⟩; cbv) | (simp only [e6]; cbv) | simp only [e6] | (simp only [e18]; cbv) | simp only [e18] | (simp only [e15]; cbv) | simp only [e15] | (simp only [eo]; cbv) | simp only [eo] | (refine ⟨_, ho, ?_⟩; cbv))
theorem rb_9 (v w a b : Val) (hv : R 44 [pV v] (pV a)) (hw : R 44 [pV w] (pV b)) (ha : a.k = 3) (hb : b.k = 3) : R 27 [pI 9, pV v, pV w] (pVE (arithE 9 a.n b.n).1 (arithE 9 a.n b.n).2) := by
  obtain ⟨k, n, s, r⟩ := v
  obtain ⟨k2, n2, s2, r2⟩ := w
  obtain ⟨k3', n3, s3, r3⟩ := a
  obtain ⟨k4', n4, s4, r4⟩ := b
  simp only at ha hb
  subst ha hb
  by_cases b0 : n4 = 0
  · subst b0
    simp only [arithE]
    refine ret_by tyT_ok good_gr mixed (fun _ => 0) Tryd.func27 rfl (by kernel_rfl) (by kernel_rfl) rfl fun P G E hc hE => ?_
    replace hv := hc _ _ _ hv
    replace hw := hc _ _ _ hw
    have e6 : E.lti 9 6 = false := by rw [hE]; rfl
    have e18 : E.lti 18 9 = false := by rw [hE]; rfl
    have e15 : E.lei 15 9 = false := by rw [hE]; rfl
    cbv
    repeat (first | (refine ⟨_, hv, ?_⟩; cbv) | (refine ⟨_, hw, ?_⟩; cbv) | (simp only [e6]; cbv) | simp only [e6] | (simp only [e18]; cbv) | simp only [e18] | (simp only [e15]; cbv) | simp only [e15])
  · by_cases b1 : n4 = -1
    · subst b1
      have ho := rinteger_ret (wr (0 - n3))
      have hq : arithE 9 n3 (-1) = (vI (wr (0 - n3)), 0) := rfl
      rw [hq]
      refine ret_by tyT_ok good_gr mixed (fun _ => 0) Tryd.func27 rfl (by kernel_rfl) (by kernel_rfl) rfl fun P G E hc hE => ?_
      replace hv := hc _ _ _ hv
      replace hw := hc _ _ _ hw
      replace ho := hc _ _ _ ho
      have e6 : E.lti 9 6 = false := by rw [hE]; rfl
      have e18 : E.lti 18 9 = false := by rw [hE]; rfl
      have e15 : E.lei 15 9 = false := by rw [hE]; rfl
      have eo : E.wsub .i64 0 n3 = wr (0 - n3) := by rw [hE]; rfl
      generalize wr (0 - n3) = q at *
      cbv
      repeat (first | (refine ⟨_, hv, ?_⟩; cbv) | (refine ⟨_, hw, ?_⟩; cbv) | (simp only [e6]; cbv) | simp only [e6] | (simp only [e18]; cbv) | simp only [e18] | (simp only [e15]; cbv) | simp only [e15] | (simp only [eo]; cbv) | simp only [eo] | (refine ⟨_, ho, ?_⟩; cbv))
    · have ho := rinteger_ret (wr (n3.tdiv n4))
      have hq : arithE 9 n3 n4 = (vI (wr (n3.tdiv n4)), 0) := by unfold arithE; simp [b0, b1]
      rw [hq]
      refine ret_by tyT_ok good_gr mixed (fun _ => 0) Tryd.func27 rfl (by kernel_rfl) (by kernel_rfl) rfl fun P G E hc hE => ?_
      replace hv := hc _ _ _ hv
      replace hw := hc _ _ _ hw
      replace ho := hc _ _ _ ho
      have e6 : E.lti 9 6 = false := by rw [hE]; rfl
      have e18 : E.lti 18 9 = false := by rw [hE]; rfl
      have e15 : E.lei 15 9 = false := by rw [hE]; rfl
      have z0 : decide (n4 = 0) = false := decide_eq_false b0
      have z1 : decide (n4 = -1) = false := decide_eq_false b1
      have eo : E.wquo .i64 n3 n4 = wr (n3.tdiv n4) := by rw [hE]; rfl
      generalize wr (n3.tdiv n4) = q at *
      cbv
      repeat (first | (refine ⟨_, hv, ?_⟩; cbv) | (refine ⟨_, hw, ?_⟩; cbv) | (simp only [e6]; cbv) | simp only [e6] | (simp only [e18]; cbv) | simp only [e18] | (simp only [e15]; cbv) | simp only [e15] | (simp only [z0]; cbv) | simp only [z0] | (simp only [z1]; cbv) | simp only [z1] | (refine ⟨b0, ?_⟩; cbv) | (simp only [eo]; cbv) | simp only [eo] | (refine ⟨_, ho, ?_⟩; cbv))
theorem rb_10 (v w a b : Val) (hv : R 44 [pV v] (pV a)) (hw : R 44 [pV w] (pV b)) (ha : a.k = 3) (hb : b.k = 3) : R 27 [pI 10, pV v, pV w] (pVE (arithE 10 a.n b.n).1 (arithE 10 a.n b.n).2) := by
  obtain ⟨k, n, s, r⟩ := v
  obtain ⟨k2, n2, s2, r2⟩ := w
  obtain ⟨k3', n3, s3, r3⟩ := a
  obtain ⟨k4', n4, s4, r4⟩ := b
  simp only at ha hb
  subst ha hb
  by_cases b0 : n4 = 0
  · subst b0
    simp only [arithE]
    refine ret_by tyT_ok good_gr mixed (fun _ => 0) Tryd.func27 rfl (by kernel_rfl) (by kernel_rfl) rfl fun P G E hc hE => ?_
    replace hv := hc _ _ _ hv
    replace hw := hc _ _ _ hw
    have e6 : E.lti 10 6 = false := by rw [hE]; rfl
    have e18 : E.lti 18 10 = false := by rw [hE]; rfl
    have e15 : E.lei 15 10 = false := by rw [hE]; rfl
    cbv
    repeat (first | (refine ⟨_, hv, ?_⟩; cbv) | (refine ⟨_, hw, ?_⟩; cbv) | (simp only [e6]; cbv) | simp only [e6] | (simp only [e18]; cbv) | simp only [e18] | (simp only [e15]; cbv) | simp only [e15])
  · by_cases b1 : n4 = -1
    · subst b1
      have ho := rinteger_ret 0
      have hq : arithE 10 n3 (-1) = (vI 0, 0) := rfl
      rw [hq]
      refine ret_by tyT_ok good_gr mixed (fun _ => 0) Tryd.func27 rfl (by kernel_rfl) (by kernel_rfl) rfl fun P G E hc hE => ?_
      replace hv := hc _ _ _ hv
      replace hw := hc _ _ _ hw
      replace ho := hc _ _ _ ho
      have e6 : E.lti 10 6 = false := by rw [hE]; rfl
      have e18 : E.lti 18 10 = false := by rw [hE]; rfl
      have e15 : E.lei 15 10 = false := by rw [hE]; rfl
      cbv
      repeat (first | (refine ⟨_, hv, ?_⟩; cbv) | (refine ⟨_, hw, ?_⟩; cbv) | (simp only [e6]; cbv) | simp only [e6] | (simp only [e18]; cbv) | simp only [e18] | (simp only [e15]; cbv) | simp only [e15] | (refine ⟨_, ho, ?_⟩; cbv))
    · have ho := rinteger_ret (n3.tmod n4)
      have hq : arithE 10 n3 n4 = (vI (n3.tmod n4), 0) := by unfold arithE; simp [b0, b1]
      rw [hq]
      refine ret_by tyT_ok good_gr mixed (fun _ => 0) Tryd.func27 rfl (by kernel_rfl) (by kernel_rfl) rfl fun P G E hc hE => ?_
      replace hv := hc _ _ _ hv
      replace hw := hc _ _ _ hw
      replace ho := hc _ _ _ ho
      have e6 : E.lti 10 6 = false := by rw [hE]; rfl
      have e18 : E.lti 18 10 = false := by rw [hE]; rfl
      have e15 : E.lei 15 10 = false := by rw [hE]; rfl
      have z0 : decide (n4 = 0) = false := decide_eq_false b0
      have z1 : decide (n4 = -1) = false := decide_eq_false b1
      have eo : E.rem n3 n4 = n3.tmod n4 := by rw [hE]; rfl
      generalize n3.tmod n4 = q at *
      cbv
      repeat (first | (refine ⟨_, hv, ?_⟩; cbv) | (refine ⟨_, hw, ?_⟩; cbv) | (simp only [e6]; cbv) | simp only [e6] | (simp only [e18]; cbv) | simp only [e18] | (simp only [e15]; cbv) | simp only [e15] | (simp only [z0]; cbv) | simp only [z0] | (simp only [z1]; cbv) | simp only [z1] | (refine ⟨b0, ?_⟩; cbv) | (simp only [eo]; cbv) | simp only [eo] | (refine ⟨_, ho, ?_⟩; cbv))
theorem rb_11 (v w a b : Val) (hv : R 44 [pV v] (pV a)) (hw : R 44 [pV w] (pV b)) (x : Bool) (h : R 25 [pV a, pV b] (pB x)) : R 27 [pI 11, pV v, pV w] (pVE (vB x) 0) := by
  have o1 := rtruth_ret true
  have o0 := rtruth_ret false
  obtain ⟨k, n, s, r⟩ := v
  obtain ⟨k2, n2, s2, r2⟩ := w
  obtain ⟨k3', n3, s3, r3⟩ := a
  obtain ⟨k4', n4, s4, r4⟩ := b
  cases x
  all_goals skip
  all_goals rcases k33B k3' k4' with ⟨rfl, rfl⟩ | ⟨rfl, y3⟩ | x3
  all_goals (
    refine ret_by tyT_ok good_gr mixed (fun _ => 0) Tryd.func27 rfl (by kernel_rfl) (by kernel_rfl) rfl fun P G E hc hE => ?_
    replace hv := hc _ _ _ hv
    replace hw := hc _ _ _ hw
    replace h := hc _ _ _ h
    replace o1 := hc _ _ _ o1
    replace o0 := hc _ _ _ o0
    have e6 : E.lti 11 6 = false := by rw [hE]; rfl
    have e18 : E.lti 18 11 = false := by rw [hE]; rfl
    have e15 : E.lei 15 11 = false := by rw [hE]; rfl
    cbv
    repeat (first | (simp only [x3]; cbv) | simp only [x3] | (simp only [y3]; cbv) | simp only [y3] | (refine ⟨_, hv, ?_⟩; cbv) | (refine ⟨_, hw, ?_⟩; cbv) | (simp only [e6]; cbv) | simp only [e6] | (simp only [e18]; cbv) | simp only [e18] | (simp only [e15]; cbv) | simp only [e15] | (refine ⟨_, h, ?_⟩; cbv) | (refine ⟨_, o1, ?_⟩; cbv) | (refine ⟨_, o0, ?_⟩; cbv))
  )
theorem rb_12 (v w a b : Val) (hv : R 44 [pV v] (pV a)) (hw : R 44 [pV w] (pV b)) (x : Bool) (h : R 25 [pV a, pV b] (pB x)) : R 27 [pI 12, pV v, pV w] (pVE (vB (!x)) 0) := by
  have o1 := rtruth_ret true
  have o0 := rtruth_ret false
  obtain ⟨k, n, s, r⟩ := v
  obtain ⟨k2, n2, s2, r2⟩ := w
  obtain ⟨k3', n3, s3, r3⟩ := a
  obtain ⟨k4', n4, s4, r4⟩ := b
  cases x
  all_goals skip
  all_goals rcases k33B k3' k4' with ⟨rfl, rfl⟩ | ⟨rfl, y3⟩ | x3
  all_goals (
    refine ret_by tyT_ok good_gr mixed (fun _ => 0) Tryd.func27 rfl (by kernel_rfl) (by kernel_rfl) rfl fun P G E hc hE => ?_
    replace hv := hc _ _ _ hv
    replace hw := hc _ _ _ hw
    replace h := hc _ _ _ h
    replace o1 := hc _ _ _ o1
    replace o0 := hc _ _ _ o0
    have e6 : E.lti 12 6 = false := by rw [hE]; rfl
    have e18 : E.lti 18 12 = false := by rw [hE]; rfl
    have e15 : E.lei 15 12 = false := by rw [hE]; rfl
    cbv
    repeat (first | (simp only [x3]; cbv) | simp only [x3] | (simp only [y3]; cbv) | simp only [y3] | (refine ⟨_, hv, ?_⟩; cbv) | (refine ⟨_, hw, ?_⟩; cbv) | (simp only [e6]; cbv) | simp only [e6] | (simp only [e18]; cbv) | simp only [e18] | (simp only [e15]; cbv) | simp only [e15] | (refine ⟨_, h, ?_⟩; cbv) | (refine ⟨_, o1, ?_⟩; cbv) | (refine ⟨_, o0, ?_⟩; cbv))
  )
theorem rb_13 (v w a b : Val) (hv : R 44 [pV v] (pV a)) (hw : R 44 [pV w] (pV b)) (x : Bool) (h : R 24 [pV a, pV b] (pB x)) : R 27 [pI 13, pV v, pV w] (pVE (vB x) 0) := by
  have o1 := rtruth_ret true
  have o0 := rtruth_ret false
  obtain ⟨k, n, s, r⟩ := v
  obtain ⟨k2, n2, s2, r2⟩ := w
  obtain ⟨k3', n3, s3, r3⟩ := a
  obtain ⟨k4', n4, s4, r4⟩ := b
  cases x
  all_goals skip
  all_goals rcases k33B k3' k4' with ⟨rfl, rfl⟩ | ⟨rfl, y3⟩ | x3
  all_goals (
    refine ret_by tyT_ok good_gr mixed (fun _ => 0) Tryd.func27 rfl (by kernel_rfl) (by kernel_rfl) rfl fun P G E hc hE => ?_
    replace hv := hc _ _ _ hv
    replace hw := hc _ _ _ hw
    replace h := hc _ _ _ h
    replace o1 := hc _ _ _ o1
    replace o0 := hc _ _ _ o0
    have e6 : E.lti 13 6 = false := by rw [hE]; rfl
    have e18 : E.lti 18 13 = false := by rw [hE]; rfl
    have e15 : E.lei 15 13 = false := by rw [hE]; rfl
    cbv
    repeat (first | (simp only [x3]; cbv) | simp only [x3] | (simp only [y3]; cbv) | simp only [y3] | (refine ⟨_, hv, ?_⟩; cbv) | (refine ⟨_, hw, ?_⟩; cbv) | (simp only [e6]; cbv) | simp only [e6] | (simp only [e18]; cbv) | simp only [e18] | (simp only [e15]; cbv) | simp only [e15] | (refine ⟨_, h, ?_⟩; cbv) | (refine ⟨_, o1, ?_⟩; cbv) | (refine ⟨_, o0, ?_⟩; cbv))
  )
theorem rb_14 (v w a b : Val) (hv : R 44 [pV v] (pV a)) (hw : R 44 [pV w] (pV b)) (x : Bool) (h : R 24 [pV a, pV b] (pB x)) : R 27 [pI 14, pV v, pV w] (pVE (vB (!x)) 0) := by
  have o1 := rtruth_ret true
  have o0 := rtruth_ret false
  obtain ⟨k, n, s, r⟩ := v
  obtain ⟨k2, n2, s2, r2⟩ := w
  obtain ⟨k3', n3, s3, r3⟩ := a
  obtain ⟨k4', n4, s4, r4⟩ := b
  cases x
  all_goals skip
  all_goals rcases k33B k3' k4' with ⟨rfl, rfl⟩ | ⟨rfl, y3⟩ | x3
  all_goals (
    refine ret_by tyT_ok good_gr mixed (fun _ => 0) Tryd.func27 rfl (by kernel_rfl) (by kernel_rfl) rfl fun P G E hc hE => ?_
    replace hv := hc _ _ _ hv
    replace hw := hc _ _ _ hw
    replace h := hc _ _ _ h
    replace o1 := hc _ _ _ o1
    replace o0 := hc _ _ _ o0
    have e6 : E.lti 14 6 = false := by rw [hE]; rfl
    have e18 : E.lti 18 14 = false := by rw [hE]; rfl
    have e15 : E.lei 15 14 = false := by rw [hE]; rfl
    cbv
    repeat (first | (simp only [x3]; cbv) | simp only [x3] | (simp only [y3]; cbv) | simp only [y3] | (refine ⟨_, hv, ?_⟩; cbv) | (refine ⟨_, hw, ?_⟩; cbv) | (simp only [e6]; cbv) | simp only [e6] | (simp only [e18]; cbv) | simp only [e18] | (simp only [e15]; cbv) | simp only [e15] | (refine ⟨_, h, ?_⟩; cbv) | (refine ⟨_, o1, ?_⟩; cbv) | (refine ⟨_, o0, ?_⟩; cbv))
  )
end Go.Proofs.YtadgpchdlkiinaaDoor
