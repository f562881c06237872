/- Own work: ValueBinary: both come to the same, for any operator and any values. -/
import Derived.Test.YtadgpchdlkiinaaDoorVFrame
import Derived.Test.YtadgpchdlkiinaaDoorV11A
import Derived.Test.YtadgpchdlkiinaaDoorV11B
import Derived.Test.YtadgpchdlkiinaaDoorV11C
namespace Go.Proofs.YtadgpchdlkiinaaDoor
open Go.RowKit
set_option maxRecDepth 100000

theorem wf8 {x : Int} (h : (Lit.int .i8 x).wf = true) : -128 ≤ x ∧ x ≤ 127 := by
  have e1 : IntKind.i8.min = -128 := by decide
  have e2 : IntKind.i8.max = 127 := by decide
  simp only [Lit.wf, e1, e2, Bool.and_eq_true, decide_eq_true_eq] at h
  exact h
/-- both come to the same -/
def Both (op : Int) (v w : Val) : Prop := ∃ u e, R 26 [pI op, pV v, pV w] (pVE u e) ∧ R 27 [pI op, pV v, pV w] (pVE u e)
structure Ok (v : Val) : Prop where
  sz : v.s.size ≤ 200
  n0 : -9223372036854775808 ≤ v.n
  n1 : v.n ≤ 9223372036854775807
theorem both_cmp (op : Int) (ho : op = 15 ∨ op = 16 ∨ op = 17 ∨ op = 18) (v w : Val) (hv : Ok v) (hw : Ok w) : Both op v w := by
  have h1 := bin_cmp_any op ho v w (by have := hv.sz; omega) (by have := hw.sz; omega)
  have n1 := rnormal_any v (by have := hv.sz; omega)
  have n2 := rnormal_any w (by have := hw.sz; omega)
  rcases cmp_ord (nrm v) (nrm w) (norm_nrm v hv.sz hv.n0 hv.n1) (norm_nrm w hw.sz hw.n0 hw.n1) with ⟨e, h⟩ | ⟨l, m, c, e, h, ht⟩
  · simp only [cmpE, e] at h1
    refine ⟨_, _, h1, ?_⟩
    rcases ho with rfl | rfl | rfl | rfl
    · exact rb_15_bad v w _ _ n1 n2 h
    · exact rb_16_bad v w _ _ n1 n2 h
    · exact rb_17_bad v w _ _ n1 n2 h
    · exact rb_18_bad v w _ _ n1 n2 h
  · simp only [cmpE, e] at h1
    refine ⟨_, _, h1, ?_⟩
    rcases ho with rfl | rfl | rfl | rfl <;> rcases ht with ⟨rfl, rfl, rfl⟩ | ⟨rfl, rfl, rfl⟩ | ⟨rfl, rfl, rfl⟩
    · exact rb_15_m v w _ _ n1 n2 h
    · exact rb_15_z v w _ _ n1 n2 h
    · exact rb_15_p v w _ _ n1 n2 h
    · exact rb_16_m v w _ _ n1 n2 h
    · exact rb_16_z v w _ _ n1 n2 h
    · exact rb_16_p v w _ _ n1 n2 h
    · exact rb_17_m v w _ _ n1 n2 h
    · exact rb_17_z v w _ _ n1 n2 h
    · exact rb_17_p v w _ _ n1 n2 h
    · exact rb_18_m v w _ _ n1 n2 h
    · exact rb_18_z v w _ _ n1 n2 h
    · exact rb_18_p v w _ _ n1 n2 h
theorem both_any (op : Int) (v w : Val) (hv : Ok v) (hw : Ok w) : Both op v w := by
  have sv := hv.sz
  have sw := hw.sz
  have nv := norm_nrm v hv.sz hv.n0 hv.n1
  have nw := norm_nrm w hw.sz hw.n0 hw.n1
  have v1 := normal_any v (by omega)
  have v2 := normal_any w (by omega)
  have r1 := rnormal_any v (by omega)
  have r2 := rnormal_any w (by omega)
  by_cases hx : op < 6 ∨ 18 < op
  · exact ⟨_, _, vb_else op hx v w _ _ v1 v2, rb_else op hx v w _ _ r1 r2⟩
  · have hc : op = 6 ∨ op = 7 ∨ op = 8 ∨ op = 9 ∨ op = 10 ∨ op = 11 ∨ op = 12 ∨ op = 13 ∨ op = 14 ∨ (op = 15 ∨ op = 16 ∨ op = 17 ∨ op = 18) := by omega
    have lo := loose_ret (nrm v) (nrm w) nv.sz nw.sz
    have rlo := rloose_ret (nrm v) (nrm w) nv.sz nw.sz
    have sa := same_ret (nrm v) (nrm w) nv.sz nw.sz
    have rsa := rsame_ret (nrm v) (nrm w) nv.sz nw.sz
    by_cases h3 : (nrm v).k = 3 ∧ (nrm w).k = 3
    · rcases hc with rfl | rfl | rfl | rfl | rfl | rfl | rfl | rfl | rfl | hc
      · exact ⟨_, _, vb_6 v w _ _ v1 v2 _ _ (add_ret _ _ nv nw), rb_6 v w _ _ r1 r2 _ _ (radd_ret _ _ nv nw)⟩
      · exact ⟨_, _, vb_7 v w _ _ v1 v2 h3.1 h3.2, rb_7 v w _ _ r1 r2 h3.1 h3.2⟩
      · exact ⟨_, _, vb_8 v w _ _ v1 v2 h3.1 h3.2, rb_8 v w _ _ r1 r2 h3.1 h3.2⟩
      · exact ⟨_, _, vb_9 v w _ _ v1 v2 h3.1 h3.2, rb_9 v w _ _ r1 r2 h3.1 h3.2⟩
      · exact ⟨_, _, vb_10 v w _ _ v1 v2 h3.1 h3.2, rb_10 v w _ _ r1 r2 h3.1 h3.2⟩
      · exact ⟨_, _, vb_11 v w _ _ v1 v2 _ lo, rb_11 v w _ _ r1 r2 _ rlo⟩
      · exact ⟨_, _, vb_12 v w _ _ v1 v2 _ lo, rb_12 v w _ _ r1 r2 _ rlo⟩
      · exact ⟨_, _, vb_13 v w _ _ v1 v2 _ sa, rb_13 v w _ _ r1 r2 _ rsa⟩
      · exact ⟨_, _, vb_14 v w _ _ v1 v2 _ sa, rb_14 v w _ _ r1 r2 _ rsa⟩
      · exact both_cmp op hc v w hv hw
    · rcases hc with rfl | rfl | rfl | rfl | rfl | rfl | rfl | rfl | rfl | hc
      · exact ⟨_, _, vb_6 v w _ _ v1 v2 _ _ (add_ret _ _ nv nw), rb_6 v w _ _ r1 r2 _ _ (radd_ret _ _ nv nw)⟩
      · exact ⟨_, _, vb_7_bad v w _ _ v1 v2 h3, rb_7_bad v w _ _ r1 r2 h3⟩
      · exact ⟨_, _, vb_8_bad v w _ _ v1 v2 h3, rb_8_bad v w _ _ r1 r2 h3⟩
      · exact ⟨_, _, vb_9_bad v w _ _ v1 v2 h3, rb_9_bad v w _ _ r1 r2 h3⟩
      · exact ⟨_, _, vb_10_bad v w _ _ v1 v2 h3, rb_10_bad v w _ _ r1 r2 h3⟩
      · exact ⟨_, _, vb_11 v w _ _ v1 v2 _ lo, rb_11 v w _ _ r1 r2 _ rlo⟩
      · exact ⟨_, _, vb_12 v w _ _ v1 v2 _ lo, rb_12 v w _ _ r1 r2 _ rlo⟩
      · exact ⟨_, _, vb_13 v w _ _ v1 v2 _ sa, rb_13 v w _ _ r1 r2 _ rsa⟩
      · exact ⟨_, _, vb_14 v w _ _ v1 v2 _ sa, rb_14 v w _ _ r1 r2 _ rsa⟩
      · exact both_cmp op hc v w hv hw
set_option maxHeartbeats 1000000 in
theorem lbinary_ret (op : Int) (v w : Val) (ho0 : -128 ≤ op) (ho1 : op ≤ 127) (hv0 : -9223372036854775808 ≤ v.n) (hv1 : v.n ≤ 9223372036854775807) (hw0 : -9223372036854775808 ≤ w.n) (hw1 : w.n ≤ 9223372036854775807) : R 5 [.v (.int .i8 op), pV v, pV w] (pB true) := by
  have hf := few_ret v
  have hg := few_ret w
  have hw := awake_ret
  cases hfv : few v with
  | false =>
    rw [hfv] at hf
    obtain ⟨k, m, t, r⟩ := v
    obtain ⟨k', m', t', r'⟩ := w
    refine ret_by tyT_ok good_gr mixed (fun _ => 0) Tryd.func5 rfl (by kernel_rfl) (by kernel_rfl) rfl fun P G E hc hE => ?_
    replace hw := hc _ _ _ hw
    replace hf := hc _ _ _ hf
    cbv
    repeat (first | (refine ⟨_, hw, ?_⟩; cbv) | (refine ⟨_, hf, ?_⟩; cbv))
  | true =>
    rw [hfv] at hf
    have hsz : v.s.size ≤ 200 := by simpa [few] using hfv
    cases hgw : few w with
    | false =>
      rw [hgw] at hg
      obtain ⟨k, m, t, r⟩ := v
      obtain ⟨k', m', t', r'⟩ := w
      refine ret_by tyT_ok good_gr mixed (fun _ => 0) Tryd.func5 rfl (by kernel_rfl) (by kernel_rfl) rfl fun P G E hc hE => ?_
      replace hw := hc _ _ _ hw
      replace hf := hc _ _ _ hf
      replace hg := hc _ _ _ hg
      cbv
      repeat (first | (refine ⟨_, hf, ?_⟩; cbv) | (refine ⟨_, hg, ?_⟩; cbv) | (refine ⟨_, hw, ?_⟩; cbv))
    | true =>
      rw [hgw] at hg
      have hsw : w.s.size ≤ 200 := by simpa [few] using hgw
      obtain ⟨u, e, h1, h2⟩ := both_any op v w ⟨hsz, hv0, hv1⟩ ⟨hsw, hw0, hw1⟩
      obtain ⟨k, m, t, r⟩ := v
      obtain ⟨k', m', t', r'⟩ := w
      obtain ⟨k2, n2, s2, r2⟩ := u
      refine ret_by tyT_ok good_gr mixed (fun _ => 0) Tryd.func5 rfl (by kernel_rfl) (by kernel_rfl) rfl fun P G E hc hE => ?_
      replace hw := hc _ _ _ hw
      replace hf := hc _ _ _ hf
      replace hg := hc _ _ _ hg
      replace h1 := hc _ _ _ h1
      replace h2 := hc _ _ _ h2
      have e1 : E.wrap .i64 op = op := by rw [hE]; exact wrap_i64_in (by omega) (by omega)
      have e3 : ∀ s, E.eq s s = true := by intro s; rw [hE]; simp [stdE]
      have e4 : decide (e = e) = true := decide_eq_true rfl
      cbv
      repeat (first | (refine ⟨_, hw, ?_⟩; cbv) | (refine ⟨_, hf, ?_⟩; cbv) | (refine ⟨_, hg, ?_⟩; cbv) | (simp only [e1]; cbv) | simp only [e1] | (refine ⟨_, h1, ?_⟩; cbv) | (refine ⟨_, h2, ?_⟩; cbv) | (simp only [e3]; cbv) | simp only [e3] | (simp only [e4]; cbv) | simp only [e4])
end Go.Proofs.YtadgpchdlkiinaaDoor
