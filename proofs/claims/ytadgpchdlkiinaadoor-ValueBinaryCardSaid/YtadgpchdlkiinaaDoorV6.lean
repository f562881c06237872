/- Own work: ValueOrders: of two integers or texts exactly one of less, equal and greater holds. -/
import Derived.Test.YtadgpchdlkiinaaDoorV5
import Derived.Sort.Walk0
namespace Go.Proofs.YtadgpchdlkiinaaDoor
open Go.RowKit
set_option maxRecDepth 100000

theorem lt_std (a b : ByteArray) : stdE.lt a b = decide (a.data.toList < b.data.toList) := by
  simp only [stdE, Go.Proofs.bytesLess_eq, Lib.toList_data]
theorem lt_irrefl_std (a : ByteArray) : stdE.lt a a = false := by
  rw [lt_std]; simp
theorem nrm_cases (v : Val) : (nrm v).k = 4 ∧ nrm v = vS (repairS v.s) ∨ (nrm v).k = 3 ∧ nrm v = vI v.n ∨ ((nrm v).k ≠ 4 ∧ (nrm v).k ≠ 3) := by
  unfold nrm normV
  split
  · right; right; simp [vB]
  split
  · right; left; exact ⟨rfl, rfl⟩
  split
  · left; exact ⟨rfl, rfl⟩
  split
  · right; right; simp [vR]
  split
  · right; right; simp; omega
  · right; right; simp [v0]
/-- exactly one of less, same and greater -/
theorem cmp_three (v w : Val) (l m : Bool) (h : cmpLS (nrm v) (nrm w) = some (l, m)) : eqV (nrm v) (nrm w) = m ∧ (l && m) = false := by
  rcases nrm_cases v with ⟨h1, e1⟩ | ⟨h1, e1⟩ | ⟨h1, h1'⟩ <;> rcases nrm_cases w with ⟨h2, e2⟩ | ⟨h2, e2⟩ | ⟨h2, h2'⟩
  · simp [cmpLS, h1, h2] at h
    obtain ⟨rfl, rfl⟩ := h
    rw [e1, e2]
    refine ⟨by simp [eqV, vS, stdE] <;> rfl, ?_⟩
    simp only [vS]
    cases hm : stdE.eq (repairS v.s) (repairS w.s) with
    | false => simp
    | true =>
      have e : repairS v.s = repairS w.s := by simpa [stdE] using hm
      rw [e, lt_irrefl_std]; rfl
  · simp [cmpLS, h1, h2] at h
  · simp [cmpLS, h1, h2] at h
  · simp [cmpLS, h1, h2] at h
  · simp [cmpLS, h1, h2] at h
    obtain ⟨rfl, rfl⟩ := h
    rw [e1, e2]
    refine ⟨by simp [eqV, vI], ?_⟩
    simp [vI, stdE]
    intro h3; have h4 : v.n ≠ w.n := by omega
    exact decide_eq_false h4
  · simp [cmpLS, h1, h2'] at h
  · simp [cmpLS, h1, h1'] at h
  · simp [cmpLS, h1, h1'] at h
  · simp [cmpLS, h1, h1'] at h
theorem truthy_b (b : Bool) : R 29 [pV (vB b)] (pB b) := by
  have h := truthy_ret (vB b)
  have e : truthyB (vB b) = b := by cases b <;> rfl
  rw [e] at h; exact h
set_option maxHeartbeats 2000000 in
theorem lorders_ret (v w : Val) : R 7 [pV v, pV w] (pB true) := by
  have hf := few_ret v
  have hg := few_ret w
  have hw := awake_ret
  cases hfv : few v with
  | false =>
    rw [hfv] at hf
    obtain ⟨k, m, t, r⟩ := v
    obtain ⟨k', m', t', r'⟩ := w
    refine ret_by tyT_ok good_gr mixed (fun n => match n with | 11 => 11 | 12 => 14 | _ => 0) Tryd.func7 rfl (by kernel_rfl) (by kernel_rfl) rfl fun P G E hc hE => ?_
    replace hw := hc _ _ _ hw
    replace hf := hc _ _ _ hf
    cbv
    refine ⟨_, hw, ?_⟩
    cbv
    refine ⟨_, hf, ?_⟩
    cbv
    refine ⟨_, hw, ?_⟩
    cbv
  | true =>
    rw [hfv] at hf
    have hsz : v.s.size ≤ 200 := by simpa [few] using hfv
    cases hgw : few w with
    | false =>
      rw [hgw] at hg
      obtain ⟨k, m, t, r⟩ := v
      obtain ⟨k', m', t', r'⟩ := w
      refine ret_by tyT_ok good_gr mixed (fun n => match n with | 11 => 11 | 12 => 14 | _ => 0) Tryd.func7 rfl (by kernel_rfl) (by kernel_rfl) rfl fun P G E hc hE => ?_
      replace hw := hc _ _ _ hw
      replace hf := hc _ _ _ hf
      replace hg := hc _ _ _ hg
      cbv
      refine ⟨_, hw, ?_⟩
      cbv
      refine ⟨_, hf, ?_⟩
      cbv
      refine ⟨_, hg, ?_⟩
      cbv
      refine ⟨_, hw, ?_⟩
      cbv
    | true =>
      rw [hgw] at hg
      have hsw : w.s.size ≤ 200 := by simpa [few] using hgw
      have h1 := bin_cmp_any 15 (by simp) v w (by omega) (by omega)
      have h2 := bin_cmp_any 16 (by simp) v w (by omega) (by omega)
      have h3 := bin_cmp_any 17 (by simp) v w (by omega) (by omega)
      have h4 := bin_cmp_any 18 (by simp) v w (by omega) (by omega)
      have h5 := same_ret v w (by omega) (by omega)
      cases hcm : cmpLS (nrm v) (nrm w) with
      | none =>
        simp only [cmpE, hcm] at h1 h2 h3 h4
        obtain ⟨k, m, t, r⟩ := v
        obtain ⟨k', m', t', r'⟩ := w
        refine ret_by tyT_ok good_gr mixed (fun n => match n with | 11 => 11 | 12 => 14 | _ => 0) Tryd.func7 rfl (by kernel_rfl) (by kernel_rfl) rfl fun P G E hc hE => ?_
        replace hw := hc _ _ _ hw
        replace hf := hc _ _ _ hf
        replace hg := hc _ _ _ hg
        replace h1 := hc _ _ _ h1
        replace h2 := hc _ _ _ h2
        replace h3 := hc _ _ _ h3
        replace h4 := hc _ _ _ h4
        cbv
        refine ⟨_, hw, ?_⟩
        cbv
        refine ⟨_, hf, ?_⟩
        cbv
        refine ⟨_, hg, ?_⟩
        cbv
        refine ⟨_, h1, ?_⟩
        cbv
        refine ⟨_, h2, ?_⟩
        cbv
        refine ⟨_, h3, ?_⟩
        cbv
        refine ⟨_, h4, ?_⟩
        cbv
      | some lm =>
        obtain ⟨l, m⟩ := lm
        obtain ⟨e1, e2⟩ := cmp_three v w l m hcm
        simp only [cmpE, hcm] at h1 h2 h3 h4
        rw [e1] at h5
        obtain ⟨k, n, t, r⟩ := v
        obtain ⟨k', n', t', r'⟩ := w
        cases l <;> cases m
        · have a1 := truthy_b (cmpB 15 false false)
          have a2 := truthy_b (cmpB 16 false false)
          have a3 := truthy_b (cmpB 17 false false)
          have a4 := truthy_b (cmpB 18 false false)
          have o0 := one_ret false
          have o1 := one_ret true
          refine ret_by tyT_ok good_gr mixed (fun n => match n with | 11 => 11 | 12 => 14 | _ => 0) Tryd.func7 rfl (by kernel_rfl) (by kernel_rfl) rfl fun P G E hc hE => ?_
          replace hw := hc _ _ _ hw
          replace hf := hc _ _ _ hf
          replace hg := hc _ _ _ hg
          replace h1 := hc _ _ _ h1
          replace h2 := hc _ _ _ h2
          replace h3 := hc _ _ _ h3
          replace h4 := hc _ _ _ h4
          replace h5 := hc _ _ _ h5
          replace a1 := hc _ _ _ a1
          replace a2 := hc _ _ _ a2
          replace a3 := hc _ _ _ a3
          replace a4 := hc _ _ _ a4
          replace o0 := hc _ _ _ o0
          replace o1 := hc _ _ _ o1
          have e1 : E.wadd .i64 (E.wadd .i64 0 0) 1 = 1 := by rw [hE]; rfl
          cbv
          refine ⟨_, hw, ?_⟩
          cbv
          refine ⟨_, hf, ?_⟩
          cbv
          refine ⟨_, hg, ?_⟩
          cbv
          refine ⟨_, h1, ?_⟩
          cbv
          refine ⟨_, h2, ?_⟩
          cbv
          refine ⟨_, h3, ?_⟩
          cbv
          refine ⟨_, h4, ?_⟩
          cbv
          refine ⟨_, a1, ?_⟩
          cbv
          refine ⟨_, o0, ?_⟩
          cbv
          refine ⟨_, h5, ?_⟩
          cbv
          refine ⟨_, o0, ?_⟩
          cbv
          refine ⟨_, a3, ?_⟩
          cbv
          refine ⟨_, o1, ?_⟩
          cbv
          simp only [e1]
          cbv
          refine ⟨_, a2, ?_⟩
          cbv
          refine ⟨_, a3, ?_⟩
          cbv
          refine ⟨_, a4, ?_⟩
          cbv
          refine ⟨_, a1, ?_⟩
          cbv
        · have a1 := truthy_b (cmpB 15 false true)
          have a2 := truthy_b (cmpB 16 false true)
          have a3 := truthy_b (cmpB 17 false true)
          have a4 := truthy_b (cmpB 18 false true)
          have o0 := one_ret false
          have o1 := one_ret true
          refine ret_by tyT_ok good_gr mixed (fun n => match n with | 11 => 11 | 12 => 14 | _ => 0) Tryd.func7 rfl (by kernel_rfl) (by kernel_rfl) rfl fun P G E hc hE => ?_
          replace hw := hc _ _ _ hw
          replace hf := hc _ _ _ hf
          replace hg := hc _ _ _ hg
          replace h1 := hc _ _ _ h1
          replace h2 := hc _ _ _ h2
          replace h3 := hc _ _ _ h3
          replace h4 := hc _ _ _ h4
          replace h5 := hc _ _ _ h5
          replace a1 := hc _ _ _ a1
          replace a2 := hc _ _ _ a2
          replace a3 := hc _ _ _ a3
          replace a4 := hc _ _ _ a4
          replace o0 := hc _ _ _ o0
          replace o1 := hc _ _ _ o1
          have e1 : E.wadd .i64 (E.wadd .i64 0 1) 0 = 1 := by rw [hE]; rfl
          cbv
          refine ⟨_, hw, ?_⟩
          cbv
          refine ⟨_, hf, ?_⟩
          cbv
          refine ⟨_, hg, ?_⟩
          cbv
          refine ⟨_, h1, ?_⟩
          cbv
          refine ⟨_, h2, ?_⟩
          cbv
          refine ⟨_, h3, ?_⟩
          cbv
          refine ⟨_, h4, ?_⟩
          cbv
          refine ⟨_, a1, ?_⟩
          cbv
          refine ⟨_, o0, ?_⟩
          cbv
          refine ⟨_, h5, ?_⟩
          cbv
          refine ⟨_, o1, ?_⟩
          cbv
          refine ⟨_, a3, ?_⟩
          cbv
          refine ⟨_, o0, ?_⟩
          cbv
          simp only [e1]
          cbv
          refine ⟨_, a2, ?_⟩
          cbv
          refine ⟨_, a3, ?_⟩
          cbv
          refine ⟨_, a4, ?_⟩
          cbv
          refine ⟨_, a1, ?_⟩
          cbv
        · have a1 := truthy_b (cmpB 15 true false)
          have a2 := truthy_b (cmpB 16 true false)
          have a3 := truthy_b (cmpB 17 true false)
          have a4 := truthy_b (cmpB 18 true false)
          have o0 := one_ret false
          have o1 := one_ret true
          refine ret_by tyT_ok good_gr mixed (fun n => match n with | 11 => 11 | 12 => 14 | _ => 0) Tryd.func7 rfl (by kernel_rfl) (by kernel_rfl) rfl fun P G E hc hE => ?_
          replace hw := hc _ _ _ hw
          replace hf := hc _ _ _ hf
          replace hg := hc _ _ _ hg
          replace h1 := hc _ _ _ h1
          replace h2 := hc _ _ _ h2
          replace h3 := hc _ _ _ h3
          replace h4 := hc _ _ _ h4
          replace h5 := hc _ _ _ h5
          replace a1 := hc _ _ _ a1
          replace a2 := hc _ _ _ a2
          replace a3 := hc _ _ _ a3
          replace a4 := hc _ _ _ a4
          replace o0 := hc _ _ _ o0
          replace o1 := hc _ _ _ o1
          have e1 : E.wadd .i64 (E.wadd .i64 1 0) 0 = 1 := by rw [hE]; rfl
          cbv
          refine ⟨_, hw, ?_⟩
          cbv
          refine ⟨_, hf, ?_⟩
          cbv
          refine ⟨_, hg, ?_⟩
          cbv
          refine ⟨_, h1, ?_⟩
          cbv
          refine ⟨_, h2, ?_⟩
          cbv
          refine ⟨_, h3, ?_⟩
          cbv
          refine ⟨_, h4, ?_⟩
          cbv
          refine ⟨_, a1, ?_⟩
          cbv
          refine ⟨_, o1, ?_⟩
          cbv
          refine ⟨_, h5, ?_⟩
          cbv
          refine ⟨_, o0, ?_⟩
          cbv
          refine ⟨_, a3, ?_⟩
          cbv
          refine ⟨_, o0, ?_⟩
          cbv
          simp only [e1]
          cbv
          refine ⟨_, a2, ?_⟩
          cbv
          refine ⟨_, a3, ?_⟩
          cbv
          refine ⟨_, a4, ?_⟩
          cbv
          refine ⟨_, a1, ?_⟩
          cbv
        · cases e2
end Go.Proofs.YtadgpchdlkiinaaDoor
