/- Own work: Same and Loose; ValueEquals. -/
import Derived.Test.YtadgpchdlkiinaaDoorV3
import Derived.Test.YtadgpchdlkiinaaDoorUtfP
namespace Go.Proofs.YtadgpchdlkiinaaDoor
open Go.RowKit
set_option maxRecDepth 100000

theorem eqV_symm (a b : Val) : eqV a b = eqV b a := by simp only [eqV, eq_comm]
theorem same_ret (v w : Val) (hv : v.s.size ≤ 2000000) (hw : w.s.size ≤ 2000000) : R 22 [pV v, pV w] (pB (eqV (nrm v) (nrm w))) := by
  have h1 := normal_any v hv
  have h2 := normal_any w hw
  generalize nrm v = a at *
  generalize nrm w = b at *
  obtain ⟨k, n, s, r⟩ := v
  obtain ⟨k', n', s', r'⟩ := w
  obtain ⟨k1, n1, s1, r1⟩ := a
  obtain ⟨k2, n2, s2, r2⟩ := b
  refine ret_by tyT_ok good_gr mixed (fun n => match n with | 1 => 3 | _ => 0) Tryd.func22 rfl (by kernel_rfl) (by kernel_rfl) rfl fun P G E hc hE => ?_
  replace h1 := hc _ _ _ h1
  replace h2 := hc _ _ _ h2
  generalize hq : eqV ⟨k1, n1, s1, r1⟩ ⟨k2, n2, s2, r2⟩ = q
  cbv
  refine ⟨_, h1, ?_⟩
  cbv
  refine ⟨_, h2, ?_⟩
  cbv
  subst hq hE
  simp only [eqV, stdE]
  cases decide (k1 = k2) <;> cases decide (n1 = n2) <;> cases decide (s1 = s2) <;> cases decide (r1 = r2) <;> rfl
theorem rsame_ret (v w : Val) (hv : v.s.size ≤ 2000000) (hw : w.s.size ≤ 2000000) : R 24 [pV v, pV w] (pB (eqV (nrm v) (nrm w))) := by
  have h1 := rnormal_any v hv
  have h2 := rnormal_any w hw
  generalize nrm v = a at *
  generalize nrm w = b at *
  obtain ⟨k, n, s, r⟩ := v
  obtain ⟨k', n', s', r'⟩ := w
  obtain ⟨k1, n1, s1, r1⟩ := a
  obtain ⟨k2, n2, s2, r2⟩ := b
  refine ret_by tyT_ok good_gr mixed (fun _ => 0) Tryd.func24 rfl (by kernel_rfl) (by kernel_rfl) rfl fun P G E hc hE => ?_
  replace h1 := hc _ _ _ h1
  replace h2 := hc _ _ _ h2
  have e3 : E.eq s1 s2 = decide (s1 = s2) := by rw [hE]; rfl
  generalize hq : eqV ⟨k1, n1, s1, r1⟩ ⟨k2, n2, s2, r2⟩ = q
  cbv
  refine ⟨_, h1, ?_⟩
  cbv
  refine ⟨_, h2, ?_⟩
  cbv
  subst hq
  simp only [eqV]
  cases decide (k1 = k2) <;> cbv
  cases decide (n1 = n2) <;> cbv
  simp only [e3]
  cases decide (s1 = s2) <;> cbv
def voidB (v : Val) : Bool := decide (v.k = 0) || decide (v.k = 1)
theorem void_ret (v : Val) (hv : v.s.size ≤ 2000000) : R 46 [pV v] (pB (voidB (nrm v))) := by
  have h1 := normal_any v hv
  generalize nrm v = a at *
  obtain ⟨k, n, s, r⟩ := v
  obtain ⟨k1, n1, s1, r1⟩ := a
  refine ret_by tyT_ok good_gr mixed (fun _ => 0) Tryd.func46 rfl (by kernel_rfl) (by kernel_rfl) rfl fun P G E hc hE => ?_
  replace h1 := hc _ _ _ h1
  generalize hq : voidB ⟨k1, n1, s1, r1⟩ = q
  cbv
  refine ⟨_, h1, ?_⟩
  cases hk : decide (k1 = 0)
  all_goals (cbv; simp only [hk]; cbv; subst hq; simp [voidB, hk])
theorem nothing_ret (v : Val) : R 47 [pV v] (pB (voidB v)) := by
  obtain ⟨k, n, s, r⟩ := v
  refine ret_by tyT_ok good_gr mixed (fun _ => 0) Tryd.func47 rfl (by kernel_rfl) (by kernel_rfl) rfl fun P G E hc hE => ?_
  generalize hq : voidB ⟨k, n, s, r⟩ = q
  cases hk : decide (k = 0)
  all_goals (cbv; simp only [hk]; cbv; subst hq; simp [voidB, hk])
def looseB (a b : Val) : Bool := eqV a b || voidB a && voidB b
theorem looseB_symm (a b : Val) : looseB a b = looseB b a := by simp only [looseB, eqV_symm a b, Bool.and_comm]
theorem loose_ret (v w : Val) (hv : v.s.size ≤ 2000000) (hw : w.s.size ≤ 2000000) : R 23 [pV v, pV w] (pB (looseB (nrm v) (nrm w))) := by
  have h1 := same_ret v w hv hw
  have h2 := void_ret v hv
  have h3 := void_ret w hw
  generalize hq : looseB (nrm v) (nrm w) = q
  simp only [looseB] at hq
  generalize eqV (nrm v) (nrm w) = x at *
  generalize voidB (nrm v) = y at *
  generalize voidB (nrm w) = z at *
  obtain ⟨k, n, s, r⟩ := v
  obtain ⟨k', n', s', r'⟩ := w
  refine ret_by tyT_ok good_gr mixed (fun _ => 0) Tryd.func23 rfl (by kernel_rfl) (by kernel_rfl) rfl fun P G E hc hE => ?_
  replace h1 := hc _ _ _ h1
  replace h2 := hc _ _ _ h2
  replace h3 := hc _ _ _ h3
  cbv
  refine ⟨_, h1, ?_⟩
  cases x <;> cbv
  · refine ⟨_, h2, ?_⟩
    cases y <;> cbv
    · subst hq; rfl
    · refine ⟨_, h3, ?_⟩
      cbv
      subst hq; rfl
  · subst hq; rfl
theorem rloose_ret (v w : Val) (hv : v.s.size ≤ 2000000) (hw : w.s.size ≤ 2000000) : R 25 [pV v, pV w] (pB (looseB (nrm v) (nrm w))) := by
  have h1 := rsame_ret v w hv hw
  have n1 := rnormal_any v hv
  have n2 := rnormal_any w hw
  have h2 := nothing_ret (nrm v)
  have h3 := nothing_ret (nrm w)
  generalize hq : looseB (nrm v) (nrm w) = q
  simp only [looseB] at hq
  generalize eqV (nrm v) (nrm w) = x at *
  generalize voidB (nrm v) = y at *
  generalize voidB (nrm w) = z at *
  generalize nrm v = a at *
  generalize nrm w = b at *
  obtain ⟨k, n, s, r⟩ := v
  obtain ⟨k', n', s', r'⟩ := w
  obtain ⟨k1, n1', s1, r1⟩ := a
  obtain ⟨k2, n2', s2, r2⟩ := b
  refine ret_by tyT_ok good_gr mixed (fun _ => 0) Tryd.func25 rfl (by kernel_rfl) (by kernel_rfl) rfl fun P G E hc hE => ?_
  replace h1 := hc _ _ _ h1
  replace h2 := hc _ _ _ h2
  replace h3 := hc _ _ _ h3
  replace n1 := hc _ _ _ n1
  replace n2 := hc _ _ _ n2
  cbv
  refine ⟨_, h1, ?_⟩
  cases x <;> cbv
  · refine ⟨_, n1, ?_⟩
    cbv
    refine ⟨_, h2, ?_⟩
    cases y <;> cbv
    · subst hq; rfl
    · refine ⟨_, n2, ?_⟩
      cbv
      refine ⟨_, h3, ?_⟩
      cbv
      subst hq; rfl
  · subst hq; rfl
theorem nrm_size (v : Val) : (nrm v).s.size ≤ 4 * v.s.size := by
  have h := repairS_size v.s
  have e0 : (⟨#[]⟩ : ByteArray).size = 0 := rfl
  unfold nrm normV
  split
  · simp [vB, e0]
  split
  · simp [vI, e0]
  split
  · simpa [vS] using h
  split
  · simp [vR, e0]
  split
  · simp [e0]
  · simp [v0, e0]
theorem eqV_nrm (v : Val) (h : repairS (repairS v.s) = repairS v.s) : nrm (nrm v) = nrm v := by
  obtain ⟨k, n, s, r⟩ := v
  rcases kinds k with rfl | rfl | rfl | rfl | rfl | rfl | rfl | ⟨e0, e1, e2, e3, e4, e5, e6⟩
  · rfl
  · rfl
  · simp only [nrm, normV, vB, b2i]
    cases decide (n = 0) <;> rfl
  · rfl
  · simp only [nrm, normV, vS] at h ⊢
    simp [h]
  · rfl
  · rfl
  · simp_all [nrm, normV, v0]
theorem nrm_nrm (v : Val) : nrm (nrm v) = nrm v := eqV_nrm v (repair_idem v.s)
set_option maxHeartbeats 1000000 in
theorem lequals_ret (v w : Val) : R 4 [pV v, pV w] (pB true) := by
  have hf := few_ret v
  have hg := few_ret w
  cases hfv : few v with
  | false =>
    rw [hfv] at hf
    obtain ⟨k, m, t, r⟩ := v
    obtain ⟨k', m', t', r'⟩ := w
    refine ret_by tyT_ok good_gr mixed (fun n => match n with | 3 => 5 | 4 => 30 | _ => 0) Tryd.func4 rfl (by kernel_rfl) (by kernel_rfl) rfl fun P G E hc hE => ?_
    have hw := hc _ _ _ awake_ret
    have hF := hc _ _ _ hf
    cbv
    refine ⟨_, hw, ?_⟩
    cbv
    refine ⟨_, hF, ?_⟩
    cbv
    refine ⟨_, hw, ?_⟩
    cbv
  | true =>
    rw [hfv] at hf
    have hsz : v.s.size ≤ 200 := by simpa [few] using hfv
    cases hgw : few w with
    | false =>
      rw [hgw] at hg
      obtain ⟨k, m, t, r⟩ := v
      obtain ⟨k', m', t', r'⟩ := w
      refine ret_by tyT_ok good_gr mixed (fun n => match n with | 3 => 5 | 4 => 30 | _ => 0) Tryd.func4 rfl (by kernel_rfl) (by kernel_rfl) rfl fun P G E hc hE => ?_
      have hw := hc _ _ _ awake_ret
      have hF := hc _ _ _ hf
      have hG := hc _ _ _ hg
      cbv
      refine ⟨_, hw, ?_⟩
      cbv
      refine ⟨_, hF, ?_⟩
      cbv
      refine ⟨_, hG, ?_⟩
      cbv
      refine ⟨_, hw, ?_⟩
      cbv
    | true =>
      rw [hgw] at hg
      have hsw : w.s.size ≤ 200 := by simpa [few] using hgw
      have h1 := same_ret v w (by omega) (by omega)
      have h2 := loose_ret v w (by omega) (by omega)
      have h3 := rsame_ret v w (by omega) (by omega)
      have h4 := rloose_ret v w (by omega) (by omega)
      have h5 := same_ret w v (by omega) (by omega)
      have h6 := loose_ret w v (by omega) (by omega)
      have h7 := normal_any v (by omega)
      have h8 := same_ret v (nrm v) (by omega) (Nat.le_trans (nrm_size v) (by omega))
      rw [eqV_symm] at h5
      rw [looseB_symm] at h6
      rw [nrm_nrm, eqV_refl] at h8
      generalize eqV (nrm v) (nrm w) = x at *
      generalize looseB (nrm v) (nrm w) = y at *
      generalize nrm v = u at *
      obtain ⟨k, m, t, r⟩ := v
      obtain ⟨k', m', t', r'⟩ := w
      obtain ⟨k2, m2, t2, r2⟩ := u
      refine ret_by tyT_ok good_gr mixed (fun n => match n with | 3 => 5 | 4 => 30 | _ => 0) Tryd.func4 rfl (by kernel_rfl) (by kernel_rfl) rfl fun P G E hc hE => ?_
      have hw := hc _ _ _ awake_ret
      have hF := hc _ _ _ hf
      have hG := hc _ _ _ hg
      replace h1 := hc _ _ _ h1
      replace h2 := hc _ _ _ h2
      replace h3 := hc _ _ _ h3
      replace h4 := hc _ _ _ h4
      replace h5 := hc _ _ _ h5
      replace h6 := hc _ _ _ h6
      replace h7 := hc _ _ _ h7
      replace h8 := hc _ _ _ h8
      cbv
      refine ⟨_, hw, ?_⟩
      cbv
      refine ⟨_, hF, ?_⟩
      cbv
      refine ⟨_, hG, ?_⟩
      cbv
      refine ⟨_, h1, ?_⟩
      cbv
      refine ⟨_, h2, ?_⟩
      cbv
      refine ⟨_, h3, ?_⟩
      cases x <;> cases y <;> cbv
      all_goals (refine ⟨_, h4, ?_⟩; cbv; refine ⟨_, h5, ?_⟩; cbv; refine ⟨_, h6, ?_⟩; cbv; refine ⟨_, h7, ?_⟩; cbv; refine ⟨_, h8, ?_⟩; cbv)
end Go.Proofs.YtadgpchdlkiinaaDoor
