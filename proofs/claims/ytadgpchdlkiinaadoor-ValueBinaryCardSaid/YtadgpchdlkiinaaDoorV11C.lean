/- Own work: Binary of the package and of its reference, operator by operator; ValueBinary. -/
import Derived.Test.YtadgpchdlkiinaaDoorV10
namespace Go.Proofs.YtadgpchdlkiinaaDoor
open Go.RowKit
set_option maxRecDepth 100000

theorem k33C (k k' : Int) : (k = 3 ∧ k' = 3) ∨ (k = 3 ∧ decide (k' = 3) = false) ∨ decide (k = 3) = false := by
  simp only [decide_eq_false_iff_not]; omega
theorem rb_15_bad (v w a b : Val) (hv : R 44 [pV v] (pV a)) (hw : R 44 [pV w] (pV b)) (h : R 53 [pV a, pV b] (.tup [pI 0, pB false])) : R 27 [pI 15, pV v, pV w] (pVE v0 8) := by
  obtain ⟨k, n, s, r⟩ := v
  obtain ⟨k2, n2, s2, r2⟩ := w
  obtain ⟨k3', n3, s3, r3⟩ := a
  obtain ⟨k4', n4, s4, r4⟩ := b
  rcases k33C k3' k4' with ⟨rfl, rfl⟩ | ⟨rfl, y3⟩ | x3
  all_goals (
    refine ret_by tyT_ok good_gr mixed (fun _ => 0) Tryd.func27 rfl (by kernel_rfl) (by kernel_rfl) rfl fun P G E hc hE => ?_
    replace hv := hc _ _ _ hv
    replace hw := hc _ _ _ hw
    replace h := hc _ _ _ h
    have e6 : E.lti 15 6 = false := by rw [hE]; rfl
    have e18 : E.lti 18 15 = false := by rw [hE]; rfl
    have e15 : E.lei 15 15 = true := by rw [hE]; rfl
    cbv
    repeat (first | (simp only [x3]; cbv) | simp only [x3] | (simp only [y3]; cbv) | simp only [y3] | (refine ⟨_, hv, ?_⟩; cbv) | (refine ⟨_, hw, ?_⟩; cbv) | (simp only [e6]; cbv) | simp only [e6] | (simp only [e18]; cbv) | simp only [e18] | (simp only [e15]; cbv) | simp only [e15] | (refine ⟨_, h, ?_⟩; cbv))
  )
theorem rb_15_m (v w a b : Val) (hv : R 44 [pV v] (pV a)) (hw : R 44 [pV w] (pV b)) (h : R 53 [pV a, pV b] (.tup [pI (-1), pB true])) : R 27 [pI 15, pV v, pV w] (pVE (vB true) 0) := by
  have ho := rtruth_ret true
  obtain ⟨k, n, s, r⟩ := v
  obtain ⟨k2, n2, s2, r2⟩ := w
  obtain ⟨k3', n3, s3, r3⟩ := a
  obtain ⟨k4', n4, s4, r4⟩ := b
  refine ret_by tyT_ok good_gr mixed (fun _ => 0) Tryd.func27 rfl (by kernel_rfl) (by kernel_rfl) rfl fun P G E hc hE => ?_
  replace hv := hc _ _ _ hv
  replace hw := hc _ _ _ hw
  replace h := hc _ _ _ h
  replace ho := hc _ _ _ ho
  have e6 : E.lti 15 6 = false := by rw [hE]; rfl
  have e18 : E.lti 18 15 = false := by rw [hE]; rfl
  have e15 : E.lei 15 15 = true := by rw [hE]; rfl
  have eo : E.lti (-1) 0 = true := by rw [hE]; rfl
  rcases k33C k3' k4' with ⟨rfl, rfl⟩ | ⟨rfl, y3⟩ | x3
  all_goals (
    cbv
    repeat (first | (simp only [x3]; cbv) | simp only [x3] | (simp only [y3]; cbv) | simp only [y3] | (refine ⟨_, hv, ?_⟩; cbv) | (refine ⟨_, hw, ?_⟩; cbv) | (simp only [e6]; cbv) | simp only [e6] | (simp only [e18]; cbv) | simp only [e18] | (simp only [e15]; cbv) | simp only [e15] | (refine ⟨_, h, ?_⟩; cbv) | (simp only [eo]; cbv) | simp only [eo] | (refine ⟨_, ho, ?_⟩; cbv))
  )
theorem rb_15_z (v w a b : Val) (hv : R 44 [pV v] (pV a)) (hw : R 44 [pV w] (pV b)) (h : R 53 [pV a, pV b] (.tup [pI (0), pB true])) : R 27 [pI 15, pV v, pV w] (pVE (vB false) 0) := by
  have ho := rtruth_ret false
  obtain ⟨k, n, s, r⟩ := v
  obtain ⟨k2, n2, s2, r2⟩ := w
  obtain ⟨k3', n3, s3, r3⟩ := a
  obtain ⟨k4', n4, s4, r4⟩ := b
  refine ret_by tyT_ok good_gr mixed (fun _ => 0) Tryd.func27 rfl (by kernel_rfl) (by kernel_rfl) rfl fun P G E hc hE => ?_
  replace hv := hc _ _ _ hv
  replace hw := hc _ _ _ hw
  replace h := hc _ _ _ h
  replace ho := hc _ _ _ ho
  have e6 : E.lti 15 6 = false := by rw [hE]; rfl
  have e18 : E.lti 18 15 = false := by rw [hE]; rfl
  have e15 : E.lei 15 15 = true := by rw [hE]; rfl
  have eo : E.lti (0) 0 = false := by rw [hE]; rfl
  rcases k33C k3' k4' with ⟨rfl, rfl⟩ | ⟨rfl, y3⟩ | x3
  all_goals (
    cbv
    repeat (first | (simp only [x3]; cbv) | simp only [x3] | (simp only [y3]; cbv) | simp only [y3] | (refine ⟨_, hv, ?_⟩; cbv) | (refine ⟨_, hw, ?_⟩; cbv) | (simp only [e6]; cbv) | simp only [e6] | (simp only [e18]; cbv) | simp only [e18] | (simp only [e15]; cbv) | simp only [e15] | (refine ⟨_, h, ?_⟩; cbv) | (simp only [eo]; cbv) | simp only [eo] | (refine ⟨_, ho, ?_⟩; cbv))
  )
theorem rb_15_p (v w a b : Val) (hv : R 44 [pV v] (pV a)) (hw : R 44 [pV w] (pV b)) (h : R 53 [pV a, pV b] (.tup [pI (1), pB true])) : R 27 [pI 15, pV v, pV w] (pVE (vB false) 0) := by
  have ho := rtruth_ret false
  obtain ⟨k, n, s, r⟩ := v
  obtain ⟨k2, n2, s2, r2⟩ := w
  obtain ⟨k3', n3, s3, r3⟩ := a
  obtain ⟨k4', n4, s4, r4⟩ := b
  refine ret_by tyT_ok good_gr mixed (fun _ => 0) Tryd.func27 rfl (by kernel_rfl) (by kernel_rfl) rfl fun P G E hc hE => ?_
  replace hv := hc _ _ _ hv
  replace hw := hc _ _ _ hw
  replace h := hc _ _ _ h
  replace ho := hc _ _ _ ho
  have e6 : E.lti 15 6 = false := by rw [hE]; rfl
  have e18 : E.lti 18 15 = false := by rw [hE]; rfl
  have e15 : E.lei 15 15 = true := by rw [hE]; rfl
  have eo : E.lti (1) 0 = false := by rw [hE]; rfl
  rcases k33C k3' k4' with ⟨rfl, rfl⟩ | ⟨rfl, y3⟩ | x3
  all_goals (
    cbv
    repeat (first | (simp only [x3]; cbv) | simp only [x3] | (simp only [y3]; cbv) | simp only [y3] | (refine ⟨_, hv, ?_⟩; cbv) | (refine ⟨_, hw, ?_⟩; cbv) | (simp only [e6]; cbv) | simp only [e6] | (simp only [e18]; cbv) | simp only [e18] | (simp only [e15]; cbv) | simp only [e15] | (refine ⟨_, h, ?_⟩; cbv) | (simp only [eo]; cbv) | simp only [eo] | (refine ⟨_, ho, ?_⟩; cbv))
  )
theorem rb_16_bad (v w a b : Val) (hv : R 44 [pV v] (pV a)) (hw : R 44 [pV w] (pV b)) (h : R 53 [pV a, pV b] (.tup [pI 0, pB false])) : R 27 [pI 16, pV v, pV w] (pVE v0 8) := by
  obtain ⟨k, n, s, r⟩ := v
  obtain ⟨k2, n2, s2, r2⟩ := w
  obtain ⟨k3', n3, s3, r3⟩ := a
  obtain ⟨k4', n4, s4, r4⟩ := b
  rcases k33C k3' k4' with ⟨rfl, rfl⟩ | ⟨rfl, y3⟩ | x3
  all_goals (
    refine ret_by tyT_ok good_gr mixed (fun _ => 0) Tryd.func27 rfl (by kernel_rfl) (by kernel_rfl) rfl fun P G E hc hE => ?_
    replace hv := hc _ _ _ hv
    replace hw := hc _ _ _ hw
    replace h := hc _ _ _ h
    have e6 : E.lti 16 6 = false := by rw [hE]; rfl
    have e18 : E.lti 18 16 = false := by rw [hE]; rfl
    have e15 : E.lei 15 16 = true := by rw [hE]; rfl
    cbv
    repeat (first | (simp only [x3]; cbv) | simp only [x3] | (simp only [y3]; cbv) | simp only [y3] | (refine ⟨_, hv, ?_⟩; cbv) | (refine ⟨_, hw, ?_⟩; cbv) | (simp only [e6]; cbv) | simp only [e6] | (simp only [e18]; cbv) | simp only [e18] | (simp only [e15]; cbv) | simp only [e15] | (refine ⟨_, h, ?_⟩; cbv))
  )
theorem rb_16_m (v w a b : Val) (hv : R 44 [pV v] (pV a)) (hw : R 44 [pV w] (pV b)) (h : R 53 [pV a, pV b] (.tup [pI (-1), pB true])) : R 27 [pI 16, pV v, pV w] (pVE (vB true) 0) := by
  have ho := rtruth_ret true
  obtain ⟨k, n, s, r⟩ := v
  obtain ⟨k2, n2, s2, r2⟩ := w
  obtain ⟨k3', n3, s3, r3⟩ := a
  obtain ⟨k4', n4, s4, r4⟩ := b
  refine ret_by tyT_ok good_gr mixed (fun _ => 0) Tryd.func27 rfl (by kernel_rfl) (by kernel_rfl) rfl fun P G E hc hE => ?_
  replace hv := hc _ _ _ hv
  replace hw := hc _ _ _ hw
  replace h := hc _ _ _ h
  replace ho := hc _ _ _ ho
  have e6 : E.lti 16 6 = false := by rw [hE]; rfl
  have e18 : E.lti 18 16 = false := by rw [hE]; rfl
  have e15 : E.lei 15 16 = true := by rw [hE]; rfl
  have eo : E.lei (-1) 0 = true := by rw [hE]; rfl
  rcases k33C k3' k4' with ⟨rfl, rfl⟩ | ⟨rfl, y3⟩ | x3
  all_goals (
    cbv
    repeat (first | (simp only [x3]; cbv) | simp only [x3] | (simp only [y3]; cbv) | simp only [y3] | (refine ⟨_, hv, ?_⟩; cbv) | (refine ⟨_, hw, ?_⟩; cbv) | (simp only [e6]; cbv) | simp only [e6] | (simp only [e18]; cbv) | simp only [e18] | (simp only [e15]; cbv) | simp only [e15] | (refine ⟨_, h, ?_⟩; cbv) | (simp only [eo]; cbv) | simp only [eo] | (refine ⟨_, ho, ?_⟩; cbv))
  )
theorem rb_16_z (v w a b : Val) (hv : R 44 [pV v] (pV a)) (hw : R 44 [pV w] (pV b)) (h : R 53 [pV a, pV b] (.tup [pI (0), pB true])) : R 27 [pI 16, pV v, pV w] (pVE (vB true) 0) := by
  have ho := rtruth_ret true
  obtain ⟨k, n, s, r⟩ := v
  obtain ⟨k2, n2, s2, r2⟩ := w
  obtain ⟨k3', n3, s3, r3⟩ := a
  obtain ⟨k4', n4, s4, r4⟩ := b
  refine ret_by tyT_ok good_gr mixed (fun _ => 0) Tryd.func27 rfl (by kernel_rfl) (by kernel_rfl) rfl fun P G E hc hE => ?_
  replace hv := hc _ _ _ hv
  replace hw := hc _ _ _ hw
  replace h := hc _ _ _ h
  replace ho := hc _ _ _ ho
  have e6 : E.lti 16 6 = false := by rw [hE]; rfl
  have e18 : E.lti 18 16 = false := by rw [hE]; rfl
  have e15 : E.lei 15 16 = true := by rw [hE]; rfl
  have eo : E.lei (0) 0 = true := by rw [hE]; rfl
  rcases k33C k3' k4' with ⟨rfl, rfl⟩ | ⟨rfl, y3⟩ | x3
  all_goals (
    cbv
    repeat (first | (simp only [x3]; cbv) | simp only [x3] | (simp only [y3]; cbv) | simp only [y3] | (refine ⟨_, hv, ?_⟩; cbv) | (refine ⟨_, hw, ?_⟩; cbv) | (simp only [e6]; cbv) | simp only [e6] | (simp only [e18]; cbv) | simp only [e18] | (simp only [e15]; cbv) | simp only [e15] | (refine ⟨_, h, ?_⟩; cbv) | (simp only [eo]; cbv) | simp only [eo] | (refine ⟨_, ho, ?_⟩; cbv))
  )
theorem rb_16_p (v w a b : Val) (hv : R 44 [pV v] (pV a)) (hw : R 44 [pV w] (pV b)) (h : R 53 [pV a, pV b] (.tup [pI (1), pB true])) : R 27 [pI 16, pV v, pV w] (pVE (vB false) 0) := by
  have ho := rtruth_ret false
  obtain ⟨k, n, s, r⟩ := v
  obtain ⟨k2, n2, s2, r2⟩ := w
  obtain ⟨k3', n3, s3, r3⟩ := a
  obtain ⟨k4', n4, s4, r4⟩ := b
  refine ret_by tyT_ok good_gr mixed (fun _ => 0) Tryd.func27 rfl (by kernel_rfl) (by kernel_rfl) rfl fun P G E hc hE => ?_
  replace hv := hc _ _ _ hv
  replace hw := hc _ _ _ hw
  replace h := hc _ _ _ h
  replace ho := hc _ _ _ ho
  have e6 : E.lti 16 6 = false := by rw [hE]; rfl
  have e18 : E.lti 18 16 = false := by rw [hE]; rfl
  have e15 : E.lei 15 16 = true := by rw [hE]; rfl
  have eo : E.lei (1) 0 = false := by rw [hE]; rfl
  rcases k33C k3' k4' with ⟨rfl, rfl⟩ | ⟨rfl, y3⟩ | x3
  all_goals (
    cbv
    repeat (first | (simp only [x3]; cbv) | simp only [x3] | (simp only [y3]; cbv) | simp only [y3] | (refine ⟨_, hv, ?_⟩; cbv) | (refine ⟨_, hw, ?_⟩; cbv) | (simp only [e6]; cbv) | simp only [e6] | (simp only [e18]; cbv) | simp only [e18] | (simp only [e15]; cbv) | simp only [e15] | (refine ⟨_, h, ?_⟩; cbv) | (simp only [eo]; cbv) | simp only [eo] | (refine ⟨_, ho, ?_⟩; cbv))
  )
theorem rb_17_bad (v w a b : Val) (hv : R 44 [pV v] (pV a)) (hw : R 44 [pV w] (pV b)) (h : R 53 [pV a, pV b] (.tup [pI 0, pB false])) : R 27 [pI 17, pV v, pV w] (pVE v0 8) := by
  obtain ⟨k, n, s, r⟩ := v
  obtain ⟨k2, n2, s2, r2⟩ := w
  obtain ⟨k3', n3, s3, r3⟩ := a
  obtain ⟨k4', n4, s4, r4⟩ := b
  rcases k33C k3' k4' with ⟨rfl, rfl⟩ | ⟨rfl, y3⟩ | x3
  all_goals (
    refine ret_by tyT_ok good_gr mixed (fun _ => 0) Tryd.func27 rfl (by kernel_rfl) (by kernel_rfl) rfl fun P G E hc hE => ?_
    replace hv := hc _ _ _ hv
    replace hw := hc _ _ _ hw
    replace h := hc _ _ _ h
    have e6 : E.lti 17 6 = false := by rw [hE]; rfl
    have e18 : E.lti 18 17 = false := by rw [hE]; rfl
    have e15 : E.lei 15 17 = true := by rw [hE]; rfl
    cbv
    repeat (first | (simp only [x3]; cbv) | simp only [x3] | (simp only [y3]; cbv) | simp only [y3] | (refine ⟨_, hv, ?_⟩; cbv) | (refine ⟨_, hw, ?_⟩; cbv) | (simp only [e6]; cbv) | simp only [e6] | (simp only [e18]; cbv) | simp only [e18] | (simp only [e15]; cbv) | simp only [e15] | (refine ⟨_, h, ?_⟩; cbv))
  )
theorem rb_17_m (v w a b : Val) (hv : R 44 [pV v] (pV a)) (hw : R 44 [pV w] (pV b)) (h : R 53 [pV a, pV b] (.tup [pI (-1), pB true])) : R 27 [pI 17, pV v, pV w] (pVE (vB false) 0) := by
  have ho := rtruth_ret false
  obtain ⟨k, n, s, r⟩ := v
  obtain ⟨k2, n2, s2, r2⟩ := w
  obtain ⟨k3', n3, s3, r3⟩ := a
  obtain ⟨k4', n4, s4, r4⟩ := b
  refine ret_by tyT_ok good_gr mixed (fun _ => 0) Tryd.func27 rfl (by kernel_rfl) (by kernel_rfl) rfl fun P G E hc hE => ?_
  replace hv := hc _ _ _ hv
  replace hw := hc _ _ _ hw
  replace h := hc _ _ _ h
  replace ho := hc _ _ _ ho
  have e6 : E.lti 17 6 = false := by rw [hE]; rfl
  have e18 : E.lti 18 17 = false := by rw [hE]; rfl
  have e15 : E.lei 15 17 = true := by rw [hE]; rfl
  have eo : E.lti 0 (-1) = false := by rw [hE]; rfl
  rcases k33C k3' k4' with ⟨rfl, rfl⟩ | ⟨rfl, y3⟩ | x3
  all_goals (
    cbv
    repeat (first | (simp only [x3]; cbv) | simp only [x3] | (simp only [y3]; cbv) | simp only [y3] | (refine ⟨_, hv, ?_⟩; cbv) | (refine ⟨_, hw, ?_⟩; cbv) | (simp only [e6]; cbv) | simp only [e6] | (simp only [e18]; cbv) | simp only [e18] | (simp only [e15]; cbv) | simp only [e15] | (refine ⟨_, h, ?_⟩; cbv) | (simp only [eo]; cbv) | simp only [eo] | (refine ⟨_, ho, ?_⟩; cbv))
  )
theorem rb_17_z (v w a b : Val) (hv : R 44 [pV v] (pV a)) (hw : R 44 [pV w] (pV b)) (h : R 53 [pV a, pV b] (.tup [pI (0), pB true])) : R 27 [pI 17, pV v, pV w] (pVE (vB false) 0) := by
  have ho := rtruth_ret false
  obtain ⟨k, n, s, r⟩ := v
  obtain ⟨k2, n2, s2, r2⟩ := w
  obtain ⟨k3', n3, s3, r3⟩ := a
  obtain ⟨k4', n4, s4, r4⟩ := b
  refine ret_by tyT_ok good_gr mixed (fun _ => 0) Tryd.func27 rfl (by kernel_rfl) (by kernel_rfl) rfl fun P G E hc hE => ?_
  replace hv := hc _ _ _ hv
  replace hw := hc _ _ _ hw
  replace h := hc _ _ _ h
  replace ho := hc _ _ _ ho
  have e6 : E.lti 17 6 = false := by rw [hE]; rfl
  have e18 : E.lti 18 17 = false := by rw [hE]; rfl
  have e15 : E.lei 15 17 = true := by rw [hE]; rfl
  have eo : E.lti 0 (0) = false := by rw [hE]; rfl
  rcases k33C k3' k4' with ⟨rfl, rfl⟩ | ⟨rfl, y3⟩ | x3
  all_goals (
    cbv
    repeat (first | (simp only [x3]; cbv) | simp only [x3] | (simp only [y3]; cbv) | simp only [y3] | (refine ⟨_, hv, ?_⟩; cbv) | (refine ⟨_, hw, ?_⟩; cbv) | (simp only [e6]; cbv) | simp only [e6] | (simp only [e18]; cbv) | simp only [e18] | (simp only [e15]; cbv) | simp only [e15] | (refine ⟨_, h, ?_⟩; cbv) | (simp only [eo]; cbv) | simp only [eo] | (refine ⟨_, ho, ?_⟩; cbv))
  )
theorem rb_17_p (v w a b : Val) (hv : R 44 [pV v] (pV a)) (hw : R 44 [pV w] (pV b)) (h : R 53 [pV a, pV b] (.tup [pI (1), pB true])) : R 27 [pI 17, pV v, pV w] (pVE (vB true) 0) := by
  have ho := rtruth_ret true
  obtain ⟨k, n, s, r⟩ := v
  obtain ⟨k2, n2, s2, r2⟩ := w
  obtain ⟨k3', n3, s3, r3⟩ := a
  obtain ⟨k4', n4, s4, r4⟩ := b
  refine ret_by tyT_ok good_gr mixed (fun _ => 0) Tryd.func27 rfl (by kernel_rfl) (by kernel_rfl) rfl fun P G E hc hE => ?_
  replace hv := hc _ _ _ hv
  replace hw := hc _ _ _ hw
  replace h := hc _ _ _ h
  replace ho := hc _ _ _ ho
  have e6 : E.lti 17 6 = false := by rw [hE]; rfl
  have e18 : E.lti 18 17 = false := by rw [hE]; rfl
  have e15 : E.lei 15 17 = true := by rw [hE]; rfl
  have eo : E.lti 0 (1) = true := by rw [hE]; rfl
  rcases k33C k3' k4' with ⟨rfl, rfl⟩ | ⟨rfl, y3⟩ | x3
  all_goals (
    cbv
    repeat (first | (simp only [x3]; cbv) | simp only [x3] | (simp only [y3]; cbv) | simp only [y3] | (refine ⟨_, hv, ?_⟩; cbv) | (refine ⟨_, hw, ?_⟩; cbv) | (simp only [e6]; cbv) | simp only [e6] | (simp only [e18]; cbv) | simp only [e18] | (simp only [e15]; cbv) | simp only [e15] | (refine ⟨_, h, ?_⟩; cbv) | (simp only [eo]; cbv) | simp only [eo] | (refine ⟨_, ho, ?_⟩; cbv))
  )
theorem rb_18_bad (v w a b : Val) (hv : R 44 [pV v] (pV a)) (hw : R 44 [pV w] (pV b)) (h : R 53 [pV a, pV b] (.tup [pI 0, pB false])) : R 27 [pI 18, pV v, pV w] (pVE v0 8) := by
  obtain ⟨k, n, s, r⟩ := v
  obtain ⟨k2, n2, s2, r2⟩ := w
  obtain ⟨k3', n3, s3, r3⟩ := a
  obtain ⟨k4', n4, s4, r4⟩ := b
  rcases k33C k3' k4' with ⟨rfl, rfl⟩ | ⟨rfl, y3⟩ | x3
  all_goals (
    refine ret_by tyT_ok good_gr mixed (fun _ => 0) Tryd.func27 rfl (by kernel_rfl) (by kernel_rfl) rfl fun P G E hc hE => ?_
    replace hv := hc _ _ _ hv
    replace hw := hc _ _ _ hw
    replace h := hc _ _ _ h
    have e6 : E.lti 18 6 = false := by rw [hE]; rfl
    have e18 : E.lti 18 18 = false := by rw [hE]; rfl
    have e15 : E.lei 15 18 = true := by rw [hE]; rfl
    cbv
    repeat (first | (simp only [x3]; cbv) | simp only [x3] | (simp only [y3]; cbv) | simp only [y3] | (refine ⟨_, hv, ?_⟩; cbv) | (refine ⟨_, hw, ?_⟩; cbv) | (simp only [e6]; cbv) | simp only [e6] | (simp only [e18]; cbv) | simp only [e18] | (simp only [e15]; cbv) | simp only [e15] | (refine ⟨_, h, ?_⟩; cbv))
  )
theorem rb_18_m (v w a b : Val) (hv : R 44 [pV v] (pV a)) (hw : R 44 [pV w] (pV b)) (h : R 53 [pV a, pV b] (.tup [pI (-1), pB true])) : R 27 [pI 18, pV v, pV w] (pVE (vB false) 0) := by
  have ho := rtruth_ret false
  obtain ⟨k, n, s, r⟩ := v
  obtain ⟨k2, n2, s2, r2⟩ := w
  obtain ⟨k3', n3, s3, r3⟩ := a
  obtain ⟨k4', n4, s4, r4⟩ := b
  refine ret_by tyT_ok good_gr mixed (fun _ => 0) Tryd.func27 rfl (by kernel_rfl) (by kernel_rfl) rfl fun P G E hc hE => ?_
  replace hv := hc _ _ _ hv
  replace hw := hc _ _ _ hw
  replace h := hc _ _ _ h
  replace ho := hc _ _ _ ho
  have e6 : E.lti 18 6 = false := by rw [hE]; rfl
  have e18 : E.lti 18 18 = false := by rw [hE]; rfl
  have e15 : E.lei 15 18 = true := by rw [hE]; rfl
  have eo : E.lei 0 (-1) = false := by rw [hE]; rfl
  rcases k33C k3' k4' with ⟨rfl, rfl⟩ | ⟨rfl, y3⟩ | x3
  all_goals (
    cbv
    repeat (first | (simp only [x3]; cbv) | simp only [x3] | (simp only [y3]; cbv) | simp only [y3] | (refine ⟨_, hv, ?_⟩; cbv) | (refine ⟨_, hw, ?_⟩; cbv) | (simp only [e6]; cbv) | simp only [e6] | (simp only [e18]; cbv) | simp only [e18] | (simp only [e15]; cbv) | simp only [e15] | (refine ⟨_, h, ?_⟩; cbv) | (simp only [eo]; cbv) | simp only [eo] | (refine ⟨_, ho, ?_⟩; cbv))
  )
theorem rb_18_z (v w a b : Val) (hv : R 44 [pV v] (pV a)) (hw : R 44 [pV w] (pV b)) (h : R 53 [pV a, pV b] (.tup [pI (0), pB true])) : R 27 [pI 18, pV v, pV w] (pVE (vB true) 0) := by
  have ho := rtruth_ret true
  obtain ⟨k, n, s, r⟩ := v
  obtain ⟨k2, n2, s2, r2⟩ := w
  obtain ⟨k3', n3, s3, r3⟩ := a
  obtain ⟨k4', n4, s4, r4⟩ := b
  refine ret_by tyT_ok good_gr mixed (fun _ => 0) Tryd.func27 rfl (by kernel_rfl) (by kernel_rfl) rfl fun P G E hc hE => ?_
  replace hv := hc _ _ _ hv
  replace hw := hc _ _ _ hw
  replace h := hc _ _ _ h
  replace ho := hc _ _ _ ho
  have e6 : E.lti 18 6 = false := by rw [hE]; rfl
  have e18 : E.lti 18 18 = false := by rw [hE]; rfl
  have e15 : E.lei 15 18 = true := by rw [hE]; rfl
  have eo : E.lei 0 (0) = true := by rw [hE]; rfl
  rcases k33C k3' k4' with ⟨rfl, rfl⟩ | ⟨rfl, y3⟩ | x3
  all_goals (
    cbv
    repeat (first | (simp only [x3]; cbv) | simp only [x3] | (simp only [y3]; cbv) | simp only [y3] | (refine ⟨_, hv, ?_⟩; cbv) | (refine ⟨_, hw, ?_⟩; cbv) | (simp only [e6]; cbv) | simp only [e6] | (simp only [e18]; cbv) | simp only [e18] | (simp only [e15]; cbv) | simp only [e15] | (refine ⟨_, h, ?_⟩; cbv) | (simp only [eo]; cbv) | simp only [eo] | (refine ⟨_, ho, ?_⟩; cbv))
  )
theorem rb_18_p (v w a b : Val) (hv : R 44 [pV v] (pV a)) (hw : R 44 [pV w] (pV b)) (h : R 53 [pV a, pV b] (.tup [pI (1), pB true])) : R 27 [pI 18, pV v, pV w] (pVE (vB true) 0) := by
  have ho := rtruth_ret true
  obtain ⟨k, n, s, r⟩ := v
  obtain ⟨k2, n2, s2, r2⟩ := w
  obtain ⟨k3', n3, s3, r3⟩ := a
  obtain ⟨k4', n4, s4, r4⟩ := b
  refine ret_by tyT_ok good_gr mixed (fun _ => 0) Tryd.func27 rfl (by kernel_rfl) (by kernel_rfl) rfl fun P G E hc hE => ?_
  replace hv := hc _ _ _ hv
  replace hw := hc _ _ _ hw
  replace h := hc _ _ _ h
  replace ho := hc _ _ _ ho
  have e6 : E.lti 18 6 = false := by rw [hE]; rfl
  have e18 : E.lti 18 18 = false := by rw [hE]; rfl
  have e15 : E.lei 15 18 = true := by rw [hE]; rfl
  have eo : E.lei 0 (1) = true := by rw [hE]; rfl
  rcases k33C k3' k4' with ⟨rfl, rfl⟩ | ⟨rfl, y3⟩ | x3
  all_goals (
    cbv
    repeat (first | (simp only [x3]; cbv) | simp only [x3] | (simp only [y3]; cbv) | simp only [y3] | (refine ⟨_, hv, ?_⟩; cbv) | (refine ⟨_, hw, ?_⟩; cbv) | (simp only [e6]; cbv) | simp only [e6] | (simp only [e18]; cbv) | simp only [e18] | (simp only [e15]; cbv) | simp only [e15] | (refine ⟨_, h, ?_⟩; cbv) | (simp only [eo]; cbv) | simp only [eo] | (refine ⟨_, ho, ?_⟩; cbv))
  )
theorem rb_else (op : Int) (ho : op < 6 ∨ 18 < op) (v w a b : Val) (hv : R 44 [pV v] (pV a)) (hw : R 44 [pV w] (pV b)) : R 27 [pI op, pV v, pV w] (pVE v0 1) := by
  obtain ⟨k, n, s, r⟩ := v
  obtain ⟨k2, n2, s2, r2⟩ := w
  obtain ⟨k3', n3, s3, r3⟩ := a
  obtain ⟨k4', n4, s4, r4⟩ := b
  refine ret_by tyT_ok good_gr mixed (fun _ => 0) Tryd.func27 rfl (by kernel_rfl) (by kernel_rfl) rfl fun P G E hc hE => ?_
  replace hv := hc _ _ _ hv
  replace hw := hc _ _ _ hw
  have e6 : E.lti op 6 = decide (op < 6) := by rw [hE]; rfl
  have e18 : E.lti 18 op = decide (18 < op) := by rw [hE]; rfl
  by_cases h6 : op < 6
  · rw [decide_eq_true h6] at e6
    rcases k33C k3' k4' with ⟨rfl, rfl⟩ | ⟨rfl, y3⟩ | x3
    all_goals (
      cbv
      repeat (first | (simp only [x3]; cbv) | simp only [x3] | (simp only [y3]; cbv) | simp only [y3] | (refine ⟨_, hv, ?_⟩; cbv) | (refine ⟨_, hw, ?_⟩; cbv) | (simp only [e6]; cbv) | simp only [e6] | (simp only [e18]; cbv) | simp only [e18])
    )
  · rw [decide_eq_false h6] at e6
    rw [decide_eq_true (show 18 < op by omega)] at e18
    rcases k33C k3' k4' with ⟨rfl, rfl⟩ | ⟨rfl, y3⟩ | x3
    all_goals (
      cbv
      repeat (first | (simp only [x3]; cbv) | simp only [x3] | (simp only [y3]; cbv) | simp only [y3] | (refine ⟨_, hv, ?_⟩; cbv) | (refine ⟨_, hw, ?_⟩; cbv) | (simp only [e6]; cbv) | simp only [e6] | (simp only [e18]; cbv) | simp only [e18])
    )
end Go.Proofs.YtadgpchdlkiinaaDoor
