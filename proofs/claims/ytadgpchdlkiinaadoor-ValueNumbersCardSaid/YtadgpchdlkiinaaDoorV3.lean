/- Own work: Normal at every value; the law's own is; ValueNormal. -/
import Derived.Test.YtadgpchdlkiinaaDoorV2
import Derived.Test.YtadgpchdlkiinaaDoorVRep
namespace Go.Proofs.YtadgpchdlkiinaaDoor
open Go.RowKit
set_option maxRecDepth 100000

/-- the value as which a value counts -/
def nrm (v : Val) : Val := normV v (repairS v.s)
theorem normal_any (v : Val) (hs : v.s.size ≤ 2000000) : R 16 [pV v] (pV (nrm v)) := normal_ret v _ fun _ => repT_ret v.s hs
theorem rnormal_any (v : Val) (hs : v.s.size ≤ 2000000) : R 44 [pV v] (pV (nrm v)) := by
  have hr := repR_ret v.s hs
  obtain ⟨k, n, s, r⟩ := v
  simp only at hr
  refine ret_by tyT_ok good_gr mixed (fun _ => 0) Tryd.func44 rfl (by kernel_rfl) (by kernel_rfl) rfl fun P G E hc hE => ?_
  have h := hc _ _ _ hr
  generalize hq : nrm ⟨k, n, s, r⟩ = q
  generalize ht : repairS s = t at *
  rcases kinds k with rfl | rfl | rfl | rfl | rfl | rfl | rfl | ⟨e0, e1, e2, e3, e4, e5, e6⟩
  · cbv; subst hq; rfl
  · cbv; subst hq; rfl
  · cases hn : decide (n = 0)
    · cbv; simp only [hn]; cbv; subst hq; simp [nrm, normV, hn, vB, b2i]
    · cbv; simp only [hn]; cbv; subst hq; simp [nrm, normV, hn, vB, b2i]
  · cbv; subst hq; rfl
  · cbv; refine ⟨_, h, ?_⟩; cbv; subst hq ht; rfl
  · cbv; subst hq; rfl
  · cbv; subst hq; rfl
  · cbv; repeat (simp only [e1, e2, e3, e4, e5, e6]; cbv)
    subst hq; simp_all [nrm, normV, v0]
def few (v : Val) : Bool := decide (v.s.size ≤ 200)
theorem few_ret (v : Val) : R 14 [pV v] (pB (few v)) := by
  obtain ⟨k, n, s, r⟩ := v
  refine ret_by tyT_ok good_gr mixed (fun _ => 0) Tryd.func14 rfl (by kernel_rfl) (by kernel_rfl) rfl fun P G E hc hE => ?_
  generalize hq : few ⟨k, n, s, r⟩ = q
  cbv
  subst hq hE
  simp [few, stdE] <;> omega
/-- two values are equal in all fields -/
def eqV (a b : Val) : Bool := decide (a.k = b.k) && decide (a.n = b.n) && decide (a.s = b.s) && decide (a.r = b.r)
theorem is_ret (v w : Val) (hs : w.s.size ≤ 2000000) : R 15 [pV v, pV w] (pB (eqV v (nrm w))) := by
  have hr := rnormal_any w hs
  generalize nrm w = u at *
  obtain ⟨k, n, s, r⟩ := v
  obtain ⟨k', n', s', r'⟩ := w
  obtain ⟨k2, n2, s2, r2⟩ := u
  refine ret_by tyT_ok good_gr mixed (fun n => match n with | 1 => 3 | _ => 0) Tryd.func15 rfl (by kernel_rfl) (by kernel_rfl) rfl fun P G E hc hE => ?_
  have h := hc _ _ _ hr
  generalize hq : eqV ⟨k, n, s, r⟩ ⟨k2, n2, s2, r2⟩ = q
  cbv
  refine ⟨_, h, ?_⟩
  cbv
  subst hq hE
  simp only [eqV, stdE]
  cases decide (k = k2) <;> cases decide (n = n2) <;> cases decide (s = s2) <;> cases decide (r = r2) <;> rfl
theorem eqV_refl (v : Val) : eqV v v = true := by simp [eqV]
theorem is_normal (v : Val) (hs : v.s.size ≤ 2000000) : R 15 [pV (nrm v), pV v] (pB true) := by
  have h := is_ret (nrm v) v hs
  rw [eqV_refl] at h
  exact h
set_option maxHeartbeats 1000000 in
theorem lnormal_ret (v : Val) (s : ByteArray) (n : Int) : R 3 [pV v, pS s, pI n] (pB true) := by
  have hf := few_ret v
  cases hfv : few v with
  | false =>
    rw [hfv] at hf
    obtain ⟨k, m, t, r⟩ := v
    refine ret_by tyT_ok good_gr mixed (fun n => match n with | 3 => 16 | _ => 0) Tryd.func3 rfl (by kernel_rfl) (by kernel_rfl) rfl fun P G E hc hE => ?_
    have hw := hc _ _ _ awake_ret
    have hF := hc _ _ _ hf
    cbv
    refine ⟨_, hw, ?_⟩
    cbv
    refine ⟨_, hF, ?_⟩
    cbv
    refine ⟨_, hw, ?_⟩
    cbv
  | true =>
    rw [hfv] at hf
    have hsz : v.s.size ≤ 200 := by simpa [few] using hfv
    by_cases hs : 200 < s.size
    · obtain ⟨k, m, t, r⟩ := v
      refine ret_by tyT_ok good_gr mixed (fun n => match n with | 3 => 16 | _ => 0) Tryd.func3 rfl (by kernel_rfl) (by kernel_rfl) rfl fun P G E hc hE => ?_
      have hw := hc _ _ _ awake_ret
      have hF := hc _ _ _ hf
      have e1 : E.lti 200 (E.size s) = true := by rw [hE]; simp [stdE]; omega
      cbv
      refine ⟨_, hw, ?_⟩
      cbv
      refine ⟨_, hF, ?_⟩
      cbv
      simp only [e1]
      cbv
      refine ⟨_, hw, ?_⟩
      cbv
    · have hn := normal_any v (by omega)
      have hi := is_normal v (by omega)
      have ho := of_ret n
      have ht := text_ret s _ (repT_ret s (by omega))
      have hi2 := is_normal ⟨4, 0, s, 0⟩ (show s.size ≤ 2000000 by omega)
      have hnv : nrm ⟨4, 0, s, 0⟩ = vS (repairS s) := rfl
      rw [hnv] at hi2
      have htr := truth_ret (decide (0 < n))
      have hone := one_ret (decide (0 < n))
      have hre := ref_ret 7
      generalize nrm v = u at *
      generalize repairS s = t2 at *
      obtain ⟨k, m, t, r⟩ := v
      obtain ⟨k2, m2, t22, r2⟩ := u
      refine ret_by tyT_ok good_gr mixed (fun n => match n with | 3 => 16 | _ => 0) Tryd.func3 rfl (by kernel_rfl) (by kernel_rfl) rfl fun P G E hc hE => ?_
      have hw := hc _ _ _ awake_ret
      have hF := hc _ _ _ hf
      replace hn := hc _ _ _ hn
      replace hi := hc _ _ _ hi
      replace ho := hc _ _ _ ho
      replace ht := hc _ _ _ ht
      replace hi2 := hc _ _ _ hi2
      replace htr := hc _ _ _ htr
      replace hone := hc _ _ _ hone
      replace hre := hc _ _ _ hre
      have e1 : E.lti 200 (E.size s) = false := by rw [hE]; simp [stdE]; omega
      have e2 : E.lti 0 n = decide (0 < n) := by rw [hE]; rfl
      have e3 : ∀ s, E.eq s s = true := by intro s; rw [hE]; simp [stdE]
      generalize decide (0 < n) = b at *
      cbv
      refine ⟨_, hw, ?_⟩
      cbv
      refine ⟨_, hF, ?_⟩
      cbv
      simp only [e1]
      cbv
      refine ⟨_, hn, ?_⟩
      cbv
      refine ⟨_, hi, ?_⟩
      cbv
      refine ⟨_, ho, ?_⟩
      cbv
      simp only [e3]
      cbv
      refine ⟨_, ht, ?_⟩
      cbv
      refine ⟨_, hi2, ?_⟩
      cbv
      simp only [e2]
      refine ⟨_, htr, ?_⟩
      cbv
      simp only [e2]
      refine ⟨_, hone, ?_⟩
      cbv
      simp only [e3]
      cbv
      refine ⟨_, hre, ?_⟩
      cbv
      simp only [e3]
end Go.Proofs.YtadgpchdlkiinaaDoor
