/- Own work: Unary, of the program and of the reference; ValueUnary, ValueNumbers. -/
import Derived.Test.YtadgpchdlkiinaaDoorVFrame
import Derived.Test.YtadgpchdlkiinaaDoorV13
namespace Go.Proofs.YtadgpchdlkiinaaDoor
open Go.RowKit
set_option maxRecDepth 100000

theorem wf8u {x : Int} (h : (Lit.int .i8 x).wf = true) : -128 ≤ x ∧ x ≤ 127 := by
  have e1 : IntKind.i8.min = -128 := by decide
  have e2 : IntKind.i8.max = 127 := by decide
  simp only [Lit.wf, e1, e2, Bool.and_eq_true, decide_eq_true_eq] at h
  exact h
def unaryE (op : Int) (u : Val) : Val × Int :=
  if op = 1 then (if u.k = 3 then (vI (wr (0 - u.n)), 0) else (v0, 8)) else if op = 2 then (vB (!truthyB u), 0) else if op = 3 then (if u.k = 3 ∨ u.k = 2 then (vI u.n, 0) else if u.k = 4 then (if (numE u.s).2 = 0 then (vI (numE u.s).1, 0) else (v0, 2)) else (v0, 8)) else (v0, 1)
theorem numE_two (s : ByteArray) : (numE s).2 = 0 ∨ (numE s).2 = 6 := by
  unfold numE
  split
  · split
    · exact .inl rfl
    · exact .inr rfl
  · exact .inr rfl
theorem k234 (k : Int) : k = 2 ∨ k = 3 ∨ k = 4 ∨ (decide (k = 2) = false ∧ decide (k = 3) = false ∧ decide (k = 4) = false) := by simp only [decide_eq_false_iff_not]; omega
theorem unary_ret (op : Int) (v u : Val) (hn : R 16 [pV v] (pV u)) (hs : u.s.size ≤ 1000) : R2 42 [pI op, pV v] (pVE (unaryE op u).1 (unaryE op u).2) := by
  have hn := up hn
  have ht := up (truthy_ret u)
  have hnum := number_ret u.s (by omega)
  obtain ⟨k, n, s, r⟩ := v
  obtain ⟨k', n', s', r'⟩ := u
  simp only at hs hnum
  by_cases o1 : op = 1
  · subst o1
    by_cases h3 : k' = 3
    · subst h3
      have hq : unaryE 1 ⟨3, n', s', r'⟩ = (vI (wr (0 - n')), 0) := rfl
      rw [hq]
      have ho := up (of_ret (wr (0 - n')))
      generalize hz : wr (0 - n') = z at *
      refine ret_by tyT_ok good2_gr mixed (fun _ => 0) Tryd.func42 rfl (by kernel_rfl) (by kernel_rfl) rfl fun P G E hc hE => ?_
      replace hn := hc _ _ _ hn
      replace ho := hc _ _ _ ho
      have w : E.wsub .i64 0 n' = z := by rw [hE]; exact hz
      cbv
      repeat (first | (refine ⟨_, hn, ?_⟩; cbv) | (simp only [w]; cbv) | simp only [w] | (refine ⟨_, ho, ?_⟩; cbv))
    · have hq : unaryE 1 ⟨k', n', s', r'⟩ = (v0, 8) := by simp [unaryE, h3]
      rw [hq]
      refine ret_by tyT_ok good2_gr mixed (fun _ => 0) Tryd.func42 rfl (by kernel_rfl) (by kernel_rfl) rfl fun P G E hc hE => ?_
      replace hn := hc _ _ _ hn
      have d : decide (k' = 3) = false := decide_eq_false h3
      cbv
      repeat (first | (refine ⟨_, hn, ?_⟩; cbv) | (simp only [d]; cbv) | simp only [d])
  by_cases o2 : op = 2
  · subst o2
    have hq : unaryE 2 ⟨k', n', s', r'⟩ = (vB (!truthyB ⟨k', n', s', r'⟩), 0) := rfl
    rw [hq]
    generalize truthyB ⟨k', n', s', r'⟩ = b at *
    have hb := up (truth_ret (!b))
    cases b
    · refine ret_by tyT_ok good2_gr mixed (fun _ => 0) Tryd.func42 rfl (by kernel_rfl) (by kernel_rfl) rfl fun P G E hc hE => ?_
      replace hn := hc _ _ _ hn
      replace ht := hc _ _ _ ht
      replace hb := hc _ _ _ hb
      cbv
      repeat (first | (refine ⟨_, hn, ?_⟩; cbv) | (refine ⟨_, ht, ?_⟩; cbv) | (refine ⟨_, hb, ?_⟩; cbv))
    · refine ret_by tyT_ok good2_gr mixed (fun _ => 0) Tryd.func42 rfl (by kernel_rfl) (by kernel_rfl) rfl fun P G E hc hE => ?_
      replace hn := hc _ _ _ hn
      replace ht := hc _ _ _ ht
      replace hb := hc _ _ _ hb
      cbv
      repeat (first | (refine ⟨_, hn, ?_⟩; cbv) | (refine ⟨_, ht, ?_⟩; cbv) | (refine ⟨_, hb, ?_⟩; cbv))
  by_cases o3 : op = 3
  · subst o3
    rcases k234 k' with rfl | rfl | rfl | ⟨d2, d3, d4⟩
    · have hq : unaryE 3 ⟨2, n', s', r'⟩ = (vI n', 0) := rfl
      rw [hq]
      have ho := up (of_ret n')
      refine ret_by tyT_ok good2_gr mixed (fun _ => 0) Tryd.func42 rfl (by kernel_rfl) (by kernel_rfl) rfl fun P G E hc hE => ?_
      replace hn := hc _ _ _ hn
      replace ho := hc _ _ _ ho
      cbv
      repeat (first | (refine ⟨_, hn, ?_⟩; cbv) | (refine ⟨_, ho, ?_⟩; cbv))
    · have hq : unaryE 3 ⟨3, n', s', r'⟩ = (vI n', 0) := rfl
      rw [hq]
      have ho := up (of_ret n')
      refine ret_by tyT_ok good2_gr mixed (fun _ => 0) Tryd.func42 rfl (by kernel_rfl) (by kernel_rfl) rfl fun P G E hc hE => ?_
      replace hn := hc _ _ _ hn
      replace ho := hc _ _ _ ho
      cbv
      repeat (first | (refine ⟨_, hn, ?_⟩; cbv) | (refine ⟨_, ho, ?_⟩; cbv))
    · rcases numE_two s' with h | h
      · have hq : unaryE 3 ⟨4, n', s', r'⟩ = (vI (numE s').1, 0) := by simp [unaryE, h]
        rw [hq]
        rw [h] at hnum
        have ho := up (of_ret (numE s').1)
        generalize (numE s').1 = z at *
        refine ret_by tyT_ok good2_gr mixed (fun _ => 0) Tryd.func42 rfl (by kernel_rfl) (by kernel_rfl) rfl fun P G E hc hE => ?_
        replace hn := hc _ _ _ hn
        replace ho := hc _ _ _ ho
        replace hnum := hc _ _ _ hnum
        cbv
        repeat (first | (refine ⟨_, hn, ?_⟩; cbv) | (refine ⟨_, hnum, ?_⟩; cbv) | (refine ⟨_, ho, ?_⟩; cbv))
      · have hq : unaryE 3 ⟨4, n', s', r'⟩ = (v0, 2) := by simp [unaryE, h]
        rw [hq]
        rw [h] at hnum
        generalize (numE s').1 = z at *
        refine ret_by tyT_ok good2_gr mixed (fun _ => 0) Tryd.func42 rfl (by kernel_rfl) (by kernel_rfl) rfl fun P G E hc hE => ?_
        replace hn := hc _ _ _ hn
        replace hnum := hc _ _ _ hnum
        cbv
        repeat (first | (refine ⟨_, hn, ?_⟩; cbv) | (refine ⟨_, hnum, ?_⟩; cbv))
    · have hq : unaryE 3 ⟨k', n', s', r'⟩ = (v0, 8) := by
        simp only [decide_eq_false_iff_not] at d2 d3 d4
        simp [unaryE, d2, d3, d4]
      rw [hq]
      refine ret_by tyT_ok good2_gr mixed (fun _ => 0) Tryd.func42 rfl (by kernel_rfl) (by kernel_rfl) rfl fun P G E hc hE => ?_
      replace hn := hc _ _ _ hn
      cbv
      repeat (first | (refine ⟨_, hn, ?_⟩; cbv) | (simp only [d2]; cbv) | simp only [d2] | (simp only [d3]; cbv) | simp only [d3] | (simp only [d4]; cbv) | simp only [d4])
  · have hq : unaryE op ⟨k', n', s', r'⟩ = (v0, 1) := by simp [unaryE, o1, o2, o3]
    rw [hq]
    refine ret_by tyT_ok good2_gr mixed (fun _ => 0) Tryd.func42 rfl (by kernel_rfl) (by kernel_rfl) rfl fun P G E hc hE => ?_
    replace hn := hc _ _ _ hn
    have d1 := decide_eq_false o1
    have d2 := decide_eq_false o2
    have d3 := decide_eq_false o3
    cbv
    repeat (first | (refine ⟨_, hn, ?_⟩; cbv) | (simp only [d1]; cbv) | simp only [d1] | (simp only [d2]; cbv) | simp only [d2] | (simp only [d3]; cbv) | simp only [d3])
theorem runary_ret (op : Int) (v u : Val) (hn : R 44 [pV v] (pV u)) (hs : u.s.size ≤ 1000) : R2 43 [pI op, pV v] (pVE (unaryE op u).1 (unaryE op u).2) := by
  have hn := up hn
  have ht := up (rtruthy_ret u (by omega))
  have hnum := up (rnumber_ret u.s (by omega))
  obtain ⟨k, n, s, r⟩ := v
  obtain ⟨k', n', s', r'⟩ := u
  simp only at hs hnum
  by_cases o1 : op = 1
  · subst o1
    by_cases h3 : k' = 3
    · subst h3
      have hq : unaryE 1 ⟨3, n', s', r'⟩ = (vI (wr (0 - n')), 0) := rfl
      rw [hq]
      have ho := up (rinteger_ret (wr (0 - n')))
      generalize hz : wr (0 - n') = z at *
      refine ret_by tyT_ok good2_gr mixed (fun _ => 0) Tryd.func43 rfl (by kernel_rfl) (by kernel_rfl) rfl fun P G E hc hE => ?_
      replace hn := hc _ _ _ hn
      replace ho := hc _ _ _ ho
      have w : E.wsub .i64 0 n' = z := by rw [hE]; exact hz
      cbv
      repeat (first | (refine ⟨_, hn, ?_⟩; cbv) | (simp only [w]; cbv) | simp only [w] | (refine ⟨_, ho, ?_⟩; cbv))
    · have hq : unaryE 1 ⟨k', n', s', r'⟩ = (v0, 8) := by simp [unaryE, h3]
      rw [hq]
      refine ret_by tyT_ok good2_gr mixed (fun _ => 0) Tryd.func43 rfl (by kernel_rfl) (by kernel_rfl) rfl fun P G E hc hE => ?_
      replace hn := hc _ _ _ hn
      have d : decide (k' = 3) = false := decide_eq_false h3
      cbv
      repeat (first | (refine ⟨_, hn, ?_⟩; cbv) | (simp only [d]; cbv) | simp only [d])
  by_cases o2 : op = 2
  · subst o2
    have hq : unaryE 2 ⟨k', n', s', r'⟩ = (vB (!truthyB ⟨k', n', s', r'⟩), 0) := rfl
    rw [hq]
    generalize truthyB ⟨k', n', s', r'⟩ = b at *
    have hb := up (rtruth_ret (!b))
    cases b
    · refine ret_by tyT_ok good2_gr mixed (fun _ => 0) Tryd.func43 rfl (by kernel_rfl) (by kernel_rfl) rfl fun P G E hc hE => ?_
      replace hn := hc _ _ _ hn
      replace ht := hc _ _ _ ht
      replace hb := hc _ _ _ hb
      cbv
      repeat (first | (refine ⟨_, hn, ?_⟩; cbv) | (refine ⟨_, ht, ?_⟩; cbv) | (refine ⟨_, hb, ?_⟩; cbv))
    · refine ret_by tyT_ok good2_gr mixed (fun _ => 0) Tryd.func43 rfl (by kernel_rfl) (by kernel_rfl) rfl fun P G E hc hE => ?_
      replace hn := hc _ _ _ hn
      replace ht := hc _ _ _ ht
      replace hb := hc _ _ _ hb
      cbv
      repeat (first | (refine ⟨_, hn, ?_⟩; cbv) | (refine ⟨_, ht, ?_⟩; cbv) | (refine ⟨_, hb, ?_⟩; cbv))
  by_cases o3 : op = 3
  · subst o3
    rcases k234 k' with rfl | rfl | rfl | ⟨d2, d3, d4⟩
    · have hq : unaryE 3 ⟨2, n', s', r'⟩ = (vI n', 0) := rfl
      rw [hq]
      have ho := up (rinteger_ret n')
      refine ret_by tyT_ok good2_gr mixed (fun _ => 0) Tryd.func43 rfl (by kernel_rfl) (by kernel_rfl) rfl fun P G E hc hE => ?_
      replace hn := hc _ _ _ hn
      replace ho := hc _ _ _ ho
      cbv
      repeat (first | (refine ⟨_, hn, ?_⟩; cbv) | (refine ⟨_, ho, ?_⟩; cbv))
    · have hq : unaryE 3 ⟨3, n', s', r'⟩ = (vI n', 0) := rfl
      rw [hq]
      have ho := up (rinteger_ret n')
      refine ret_by tyT_ok good2_gr mixed (fun _ => 0) Tryd.func43 rfl (by kernel_rfl) (by kernel_rfl) rfl fun P G E hc hE => ?_
      replace hn := hc _ _ _ hn
      replace ho := hc _ _ _ ho
      cbv
      repeat (first | (refine ⟨_, hn, ?_⟩; cbv) | (refine ⟨_, ho, ?_⟩; cbv))
    · rcases numE_two s' with h | h
      · have hq : unaryE 3 ⟨4, n', s', r'⟩ = (vI (numE s').1, 0) := by simp [unaryE, h]
        rw [hq]
        rw [h] at hnum
        have ho := up (rinteger_ret (numE s').1)
        generalize (numE s').1 = z at *
        refine ret_by tyT_ok good2_gr mixed (fun _ => 0) Tryd.func43 rfl (by kernel_rfl) (by kernel_rfl) rfl fun P G E hc hE => ?_
        replace hn := hc _ _ _ hn
        replace ho := hc _ _ _ ho
        replace hnum := hc _ _ _ hnum
        cbv
        repeat (first | (refine ⟨_, hn, ?_⟩; cbv) | (refine ⟨_, hnum, ?_⟩; cbv) | (refine ⟨_, ho, ?_⟩; cbv))
      · have hq : unaryE 3 ⟨4, n', s', r'⟩ = (v0, 2) := by simp [unaryE, h]
        rw [hq]
        rw [h] at hnum
        generalize (numE s').1 = z at *
        refine ret_by tyT_ok good2_gr mixed (fun _ => 0) Tryd.func43 rfl (by kernel_rfl) (by kernel_rfl) rfl fun P G E hc hE => ?_
        replace hn := hc _ _ _ hn
        replace hnum := hc _ _ _ hnum
        cbv
        repeat (first | (refine ⟨_, hn, ?_⟩; cbv) | (refine ⟨_, hnum, ?_⟩; cbv))
    · have hq : unaryE 3 ⟨k', n', s', r'⟩ = (v0, 8) := by
        simp only [decide_eq_false_iff_not] at d2 d3 d4
        simp [unaryE, d2, d3, d4]
      rw [hq]
      refine ret_by tyT_ok good2_gr mixed (fun _ => 0) Tryd.func43 rfl (by kernel_rfl) (by kernel_rfl) rfl fun P G E hc hE => ?_
      replace hn := hc _ _ _ hn
      cbv
      repeat (first | (refine ⟨_, hn, ?_⟩; cbv) | (simp only [d2]; cbv) | simp only [d2] | (simp only [d3]; cbv) | simp only [d3] | (simp only [d4]; cbv) | simp only [d4])
  · have hq : unaryE op ⟨k', n', s', r'⟩ = (v0, 1) := by simp [unaryE, o1, o2, o3]
    rw [hq]
    refine ret_by tyT_ok good2_gr mixed (fun _ => 0) Tryd.func43 rfl (by kernel_rfl) (by kernel_rfl) rfl fun P G E hc hE => ?_
    replace hn := hc _ _ _ hn
    have d1 := decide_eq_false o1
    have d2 := decide_eq_false o2
    have d3 := decide_eq_false o3
    cbv
    repeat (first | (refine ⟨_, hn, ?_⟩; cbv) | (simp only [d1]; cbv) | simp only [d1] | (simp only [d2]; cbv) | simp only [d2] | (simp only [d3]; cbv) | simp only [d3])
set_option maxHeartbeats 1000000 in
theorem lunary_ret (op : Int) (v : Val) (ho0 : -128 ≤ op) (ho1 : op ≤ 127) : R2 12 [.v (.int .i8 op), pV v] (pB true) := by
  have hf := up (few_ret v)
  have hw := up awake_ret
  cases hfv : few v with
  | false =>
    rw [hfv] at hf
    obtain ⟨k, m, t, r⟩ := v
    refine ret_by tyT_ok good2_gr mixed (fun _ => 0) Tryd.func12 rfl (by kernel_rfl) (by kernel_rfl) rfl fun P G E hc hE => ?_
    replace hw := hc _ _ _ hw
    replace hf := hc _ _ _ hf
    cbv
    repeat (first | (refine ⟨_, hw, ?_⟩; cbv) | (refine ⟨_, hf, ?_⟩; cbv))
  | true =>
    rw [hfv] at hf
    have hsz : v.s.size ≤ 200 := by simpa [few] using hfv
    have hns := nrm_size v
    have h1 := unary_ret op v (nrm v) (normal_any v (by omega)) (by omega)
    have h2 := runary_ret op v (nrm v) (rnormal_any v (by omega)) (by omega)
    generalize unaryE op (nrm v) = q at *
    obtain ⟨⟨k2, n2, s2, r2⟩, e⟩ := q
    obtain ⟨k, m, t, r⟩ := v
    refine ret_by tyT_ok good2_gr mixed (fun _ => 0) Tryd.func12 rfl (by kernel_rfl) (by kernel_rfl) rfl fun P G E hc hE => ?_
    replace hw := hc _ _ _ hw
    replace hf := hc _ _ _ hf
    replace h1 := hc _ _ _ h1
    replace h2 := hc _ _ _ h2
    have e1 : E.wrap .i64 op = op := by rw [hE]; exact wrap_i64_in (by omega) (by omega)
    have e3 : ∀ s, E.eq s s = true := by intro s; rw [hE]; simp [stdE]
    have e4 : decide (e = e) = true := decide_eq_true rfl
    cbv
    repeat (first | (refine ⟨_, hw, ?_⟩; cbv) | (refine ⟨_, hf, ?_⟩; cbv) | (simp only [e1]; cbv) | simp only [e1] | (refine ⟨_, h1, ?_⟩; cbv) | (refine ⟨_, h2, ?_⟩; cbv) | (simp only [e3]; cbv) | simp only [e3] | (simp only [e4]; cbv) | simp only [e4])
theorem itoaS_size (n : Int) (h0 : -9223372036854775808 ≤ n) (h1 : n ≤ 9223372036854775807) : (itoaS n).size ≤ 100 := by
  have := Lib.itoa_length_le n h0 h1
  unfold itoaS
  show (Lib.itoa n).toArray.size ≤ 100
  simp; omega
set_option maxHeartbeats 1000000 in
theorem lnumbers_ret (s : ByteArray) (n : Int) (h0 : -9223372036854775808 ≤ n) (h1 : n ≤ 9223372036854775807) : R2 11 [pS s, pI n] (pB true) := by
  have hw := up awake_ret
  by_cases hs : s.size ≤ 200
  · have a1 := number_ret s (by omega)
    have a2 := up (rnumber_ret s (by omega))
    have a3 := up (of_ret n)
    have a4 := up (show_ret (vI n) (nrm (vI n)) (normal_any (vI n) (by simp [vI, ByteArray.size])) h0 h1)
    have e4 : showE (nrm (vI n)) = (itoaS n, 0) := rfl
    rw [e4] at a4
    have hz := itoaS_size n h0 h1
    have a5 := number_ret (itoaS n) (by omega)
    rw [numE_itoa n h0 h1] at a5
    generalize numE s = q at *
    obtain ⟨q1, q2⟩ := q
    generalize itoaS n = t at *
    refine ret_by tyT_ok good2_gr mixed (fun _ => 0) Tryd.func11 rfl (by kernel_rfl) (by kernel_rfl) rfl fun P G E hc hE => ?_
    replace hw := hc _ _ _ hw
    replace a1 := hc _ _ _ a1
    replace a2 := hc _ _ _ a2
    replace a3 := hc _ _ _ a3
    replace a4 := hc _ _ _ a4
    replace a5 := hc _ _ _ a5
    have e0 : E.lti 200 (E.size s) = false := by rw [hE]; exact decide_eq_false (by simp only [stdE]; omega)
    have e1 : decide (q1 = q1) = true := decide_eq_true rfl
    have e2 : decide (q2 = q2) = true := decide_eq_true rfl
    have e3 : decide (n = n) = true := decide_eq_true rfl
    cbv
    repeat (first | (refine ⟨_, hw, ?_⟩; cbv) | (simp only [e0]; cbv) | simp only [e0] | (refine ⟨_, a1, ?_⟩; cbv) | (refine ⟨_, a2, ?_⟩; cbv) | (refine ⟨_, a3, ?_⟩; cbv) | (refine ⟨_, a4, ?_⟩; cbv) | (refine ⟨_, a5, ?_⟩; cbv) | (simp only [e1]; cbv) | simp only [e1] | (simp only [e2]; cbv) | simp only [e2] | (simp only [e3]; cbv) | simp only [e3])
  · refine ret_by tyT_ok good2_gr mixed (fun _ => 0) Tryd.func11 rfl (by kernel_rfl) (by kernel_rfl) rfl fun P G E hc hE => ?_
    replace hw := hc _ _ _ hw
    have e0 : E.lti 200 (E.size s) = true := by rw [hE]; exact decide_eq_true (by simp only [stdE]; omega)
    cbv
    repeat (first | (refine ⟨_, hw, ?_⟩; cbv) | (simp only [e0]; cbv) | simp only [e0])
end Go.Proofs.YtadgpchdlkiinaaDoor
