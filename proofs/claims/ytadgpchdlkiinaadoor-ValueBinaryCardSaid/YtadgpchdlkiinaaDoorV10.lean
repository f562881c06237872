/- Own work: the operators on two values, of the package and of its reference; ValueBinary. -/
import Derived.Test.YtadgpchdlkiinaaDoorV8
import Derived.Test.YtadgpchdlkiinaaDoorV6
import Derived.Test.YtadgpchdlkiinaaDoorV5
import Derived.Test.YtadgpchdlkiinaaDoorV9
namespace Go.Proofs.YtadgpchdlkiinaaDoor
open Go.RowKit
set_option maxRecDepth 100000

/-- a value that counts as itself -/
structure Norm (v : Val) : Prop where
  eq : nrm v = v
  sz : v.s.size ≤ 2000000
  n0 : -9223372036854775808 ≤ v.n
  n1 : v.n ≤ 9223372036854775807
theorem norm_nrm (v : Val) (hs : v.s.size ≤ 200) (h0 : -9223372036854775808 ≤ v.n) (h1 : v.n ≤ 9223372036854775807) : Norm (nrm v) :=
  ⟨nrm_nrm v, by have := nrm_size v; omega, (nrm_n v h0 h1).1, (nrm_n v h0 h1).2⟩
theorem norm_ret {v : Val} (h : Norm v) : R 16 [pV v] (pV v) := by
  have := normal_any v h.sz
  rw [h.eq] at this; exact this
theorem norm_show {v : Val} (h : Norm v) : R 30 [pV v] (.tup [pS (showE v).1, pI (showE v).2]) := show_ret v v (norm_ret h) h.n0 h.n1
theorem norm_rshow {v : Val} (h : Norm v) : R 31 [pV v] (.tup [pS (showE v).1, pI (showE v).2]) := by
  have := rshow_ret v h.sz h.n0 h.n1
  rw [h.eq] at this; exact this
theorem show_size {v : Val} (h : Norm v) : (showE v).1.size ≤ 2000021 := by
  have hi := Lib.itoa_length_le v.n h.n0 h.n1
  have e1 : ∀ l : List UInt8, (⟨l.toArray⟩ : ByteArray).size = l.length := fun l => rfl
  unfold showE
  split
  · exact (by decide : (4 : Nat) ≤ 2000021)
  split
  · split
    · exact (by decide : (5 : Nat) ≤ 2000021)
    · exact (by decide : (4 : Nat) ≤ 2000021)
  split
  · simp only [e1]; omega
  split
  · have := h.sz; simp only; omega
  split
  · exact (by decide : (0 : Nat) ≤ 2000021)
  · exact (by decide : (9 : Nat) ≤ 2000021)
theorem show_err {v : Val} : (showE v).2 = 0 ∨ (showE v).2 = 8 := by
  unfold showE
  split
  · exact .inl rfl
  split
  · exact .inl rfl
  split
  · exact .inl rfl
  split
  · exact .inl rfl
  split
  · exact .inr rfl
  · exact .inl rfl
/-- a text and one more, if one of the values is a text -/
def catE (a b : ByteArray × Int) : Val × Int := if a.2 = 0 then (if b.2 = 0 then (if 1048576 < (a.1.size : Int) + b.1.size then (v0, 5) else (vS (eAdd a.1 b.1), 0)) else (v0, 8)) else (v0, 8)
def sumE (v w : Val) : Val × Int := if v.k = 3 ∧ w.k = 3 then (vI (wr (v.n + w.n)), 0) else if v.k = 4 ∨ w.k = 4 then catE (showE v) (showE w) else (v0, 8)
theorem k34 (k : Int) : k = 3 ∨ k = 4 ∨ (decide (k = 3) = false ∧ decide (k = 4) = false) := by simp only [decide_eq_false_iff_not]; omega
def no34 (k : Int) : Prop := decide (k = 3) = false ∧ decide (k = 4) = false
theorem cases4 {k k' : Int} (h : k = 4 ∨ k' = 4) : (k = 4 ∧ k' = 4) ∨ (k = 4 ∧ k' = 3) ∨ (k = 3 ∧ k' = 4) ∨ (k = 4 ∧ no34 k') ∨ (no34 k ∧ k' = 4) := by
  simp only [no34, decide_eq_false_iff_not]; omega
theorem cases0 {k k' : Int} (h3 : ¬ (k = 3 ∧ k' = 3)) (h4 : ¬ (k = 4 ∨ k' = 4)) : (k = 3 ∧ no34 k') ∨ (no34 k ∧ k' = 3) ∨ (no34 k ∧ no34 k') := by
  simp only [no34, decide_eq_false_iff_not]; omega
theorem casesO {k k' : Int} (h4 : ¬ (k = 4 ∧ k' = 4)) (h3 : ¬ (k = 3 ∧ k' = 3)) : (k = 3 ∧ decide (k' = 3) = false) ∨ (k = 4 ∧ decide (k' = 4) = false) ∨ no34 k := by
  simp only [no34, decide_eq_false_iff_not]; omega
theorem p08 {p : ByteArray × Int} (h : p.2 = 0 ∨ p.2 = 8) : p = (p.1, 0) ∨ p = (p.1, 8) := by
  obtain ⟨a, b⟩ := p
  rcases h with h | h <;> simp only at h <;> subst h <;> simp
set_option maxHeartbeats 1000000 in
theorem add_cat (v w : Val) (hv : Norm v) (hw : Norm w) (h4 : v.k = 4 ∨ w.k = 4) : R 48 [pV v, pV w] (pVE (catE (showE v) (showE w)).1 (catE (showE v) (showE w)).2) := by
  have a1 := norm_show hv
  have a2 := norm_show hw
  have s1 := show_size hv
  have s2 := show_size hw
  have r1 := p08 (show_err (v := v))
  have r2 := p08 (show_err (v := w))
  generalize showE v = p at *
  generalize showE w = q at *
  generalize p.1 = p1 at *
  generalize q.1 = q1 at *
  obtain ⟨k, n, s, r⟩ := v
  obtain ⟨k', n', s', r'⟩ := w
  simp only at h4
  have h5 := cases4 h4
  clear hv hw h4
  rcases r1 with rfl | rfl
  · rcases r2 with rfl | rfl
    · simp only [catE, if_true] at *
      by_cases hb : 1048576 < (p1.size : Int) + q1.size
      · rw [if_pos hb]
        rcases h5 with ⟨rfl, rfl⟩ | ⟨rfl, rfl⟩ | ⟨rfl, rfl⟩ | ⟨rfl, y3, y4⟩ | ⟨⟨x3, x4⟩, rfl⟩
        all_goals (
          refine ret_by tyT_ok good_gr mixed (fun _ => 0) Tryd.func48 rfl (by kernel_rfl) (by kernel_rfl) rfl fun P G E hc hE => ?_
          replace a1 := hc _ _ _ a1
          replace a2 := hc _ _ _ a2
          have e1 : E.lti 1048576 (E.wadd .i64 (E.size p1) (E.size q1)) = true := by
            rw [hE]; simp only [stdE]; rw [wrap_i64_in (by omega) (by omega)]; exact decide_eq_true hb
          cbv
          repeat (first | (simp only [x3]; cbv) | simp only [x3] | (simp only [x4]; cbv) | simp only [x4] | (simp only [y3]; cbv) | simp only [y3] | (simp only [y4]; cbv) | simp only [y4] | (refine ⟨_, a1, ?_⟩; cbv) | (refine ⟨_, a2, ?_⟩; cbv) | (simp only [e1]; cbv) | simp only [e1])
        )
      · rw [if_neg hb]
        unfold vS eAdd
        rcases h5 with ⟨rfl, rfl⟩ | ⟨rfl, rfl⟩ | ⟨rfl, rfl⟩ | ⟨rfl, y3, y4⟩ | ⟨⟨x3, x4⟩, rfl⟩
        all_goals (
          generalize hpq : p1 ++ q1 = pq
          refine ret_by tyT_ok good_gr mixed (fun _ => 0) Tryd.func48 rfl (by kernel_rfl) (by kernel_rfl) rfl fun P G E hc hE => ?_
          replace a1 := hc _ _ _ a1
          replace a2 := hc _ _ _ a2
          have e1 : E.lti 1048576 (E.wadd .i64 (E.size p1) (E.size q1)) = false := by
            rw [hE]; simp only [stdE]; rw [wrap_i64_in (by omega) (by omega)]; exact decide_eq_false hb
          have e2 : E.cat p1 q1 := by rw [hE]; show _ ≤ _; omega
          have e3 : E.add p1 q1 = pq := by rw [hE]; exact hpq
          cbv
          repeat (first | (simp only [x3]; cbv) | simp only [x3] | (simp only [x4]; cbv) | simp only [x4] | (simp only [y3]; cbv) | simp only [y3] | (simp only [y4]; cbv) | simp only [y4] | (refine ⟨_, a1, ?_⟩; cbv) | (refine ⟨_, a2, ?_⟩; cbv) | (simp only [e1]; cbv) | simp only [e1] | (refine ⟨e2, ?_⟩; cbv) | (simp only [e3]; cbv) | simp only [e3])
        )
    · simp only [catE, if_true] at *
      rw [if_neg (by decide)]
      rcases h5 with ⟨rfl, rfl⟩ | ⟨rfl, rfl⟩ | ⟨rfl, rfl⟩ | ⟨rfl, y3, y4⟩ | ⟨⟨x3, x4⟩, rfl⟩
      all_goals (
        refine ret_by tyT_ok good_gr mixed (fun _ => 0) Tryd.func48 rfl (by kernel_rfl) (by kernel_rfl) rfl fun P G E hc hE => ?_
        replace a1 := hc _ _ _ a1
        replace a2 := hc _ _ _ a2
        cbv
        repeat (first | (simp only [x3]; cbv) | simp only [x3] | (simp only [x4]; cbv) | simp only [x4] | (simp only [y3]; cbv) | simp only [y3] | (simp only [y4]; cbv) | simp only [y4] | (refine ⟨_, a1, ?_⟩; cbv) | (refine ⟨_, a2, ?_⟩; cbv))
      )
  · simp only [catE] at *
    rw [if_neg (by decide)]
    rcases h5 with ⟨rfl, rfl⟩ | ⟨rfl, rfl⟩ | ⟨rfl, rfl⟩ | ⟨rfl, y3, y4⟩ | ⟨⟨x3, x4⟩, rfl⟩
    all_goals (
      refine ret_by tyT_ok good_gr mixed (fun _ => 0) Tryd.func48 rfl (by kernel_rfl) (by kernel_rfl) rfl fun P G E hc hE => ?_
      replace a1 := hc _ _ _ a1
      replace a2 := hc _ _ _ a2
      cbv
      repeat (first | (simp only [x3]; cbv) | simp only [x3] | (simp only [x4]; cbv) | simp only [x4] | (simp only [y3]; cbv) | simp only [y3] | (simp only [y4]; cbv) | simp only [y4] | (refine ⟨_, a1, ?_⟩; cbv) | (refine ⟨_, a2, ?_⟩; cbv))
    )
theorem add_ret (v w : Val) (hv : Norm v) (hw : Norm w) : R 48 [pV v, pV w] (pVE (sumE v w).1 (sumE v w).2) := by
  unfold sumE
  by_cases h3 : v.k = 3 ∧ w.k = 3
  · rw [if_pos h3]
    obtain ⟨k, n, s, r⟩ := v
    obtain ⟨k', n', s', r'⟩ := w
    obtain ⟨rfl, rfl⟩ := h3
    have ho := of_ret (wr (n + n'))
    refine ret_by tyT_ok good_gr mixed (fun _ => 0) Tryd.func48 rfl (by kernel_rfl) (by kernel_rfl) rfl fun P G E hc hE => ?_
    replace ho := hc _ _ _ ho
    have he : E.wadd .i64 n n' = wr (n + n') := by rw [hE]; rfl
    generalize wr (n + n') = q at *
    cbv
    simp only [he]
    exact ⟨_, ho, by cbv⟩
  · rw [if_neg h3]
    by_cases h4 : v.k = 4 ∨ w.k = 4
    · rw [if_pos h4]; exact add_cat v w hv hw h4
    · rw [if_neg h4]
      obtain ⟨k, n, s, r⟩ := v
      obtain ⟨k', n', s', r'⟩ := w
      simp only at h3 h4
      clear hv hw
      rcases cases0 h3 h4 with ⟨rfl, y3, y4⟩ | ⟨⟨x3, x4⟩, rfl⟩ | ⟨⟨x3, x4⟩, y3, y4⟩
      all_goals (
        refine ret_by tyT_ok good_gr mixed (fun _ => 0) Tryd.func48 rfl (by kernel_rfl) (by kernel_rfl) rfl fun P G E hc hE => ?_
        cbv
        repeat (first | (simp only [x3]; cbv) | simp only [x3] | (simp only [x4]; cbv) | simp only [x4] | (simp only [y3]; cbv) | simp only [y3] | (simp only [y4]; cbv) | simp only [y4])
      )
set_option maxHeartbeats 1000000 in
theorem radd_cat (v w : Val) (hv : Norm v) (hw : Norm w) (h4 : v.k = 4 ∨ w.k = 4) : R 51 [pV v, pV w] (pVE (catE (showE v) (showE w)).1 (catE (showE v) (showE w)).2) := by
  have a1 := norm_rshow hv
  have a2 := norm_rshow hw
  have s1 := show_size hv
  have s2 := show_size hw
  have r1 := p08 (show_err (v := v))
  have r2 := p08 (show_err (v := w))
  generalize showE v = p at *
  generalize showE w = q at *
  generalize p.1 = p1 at *
  generalize q.1 = q1 at *
  obtain ⟨k, n, s, r⟩ := v
  obtain ⟨k', n', s', r'⟩ := w
  simp only at h4
  have h5 := cases4 h4
  clear hv hw h4
  rcases r1 with rfl | rfl
  · rcases r2 with rfl | rfl
    · simp only [catE, if_true] at *
      by_cases hb : 1048576 < (p1.size : Int) + q1.size
      · rw [if_pos hb]
        rcases h5 with ⟨rfl, rfl⟩ | ⟨rfl, rfl⟩ | ⟨rfl, rfl⟩ | ⟨rfl, y3, y4⟩ | ⟨⟨x3, x4⟩, rfl⟩
        all_goals (
          refine ret_by tyT_ok good_gr mixed (fun _ => 0) Tryd.func51 rfl (by kernel_rfl) (by kernel_rfl) rfl fun P G E hc hE => ?_
          replace a1 := hc _ _ _ a1
          replace a2 := hc _ _ _ a2
          have e1 : E.lti 1048576 (E.wadd .i64 (E.size p1) (E.size q1)) = true := by
            rw [hE]; simp only [stdE]; rw [wrap_i64_in (by omega) (by omega)]; exact decide_eq_true hb
          cbv
          repeat (first | (simp only [x3]; cbv) | simp only [x3] | (simp only [x4]; cbv) | simp only [x4] | (simp only [y3]; cbv) | simp only [y3] | (simp only [y4]; cbv) | simp only [y4] | (refine ⟨_, a1, ?_⟩; cbv) | (refine ⟨_, a2, ?_⟩; cbv) | (simp only [e1]; cbv) | simp only [e1])
        )
      · rw [if_neg hb]
        unfold vS eAdd
        rcases h5 with ⟨rfl, rfl⟩ | ⟨rfl, rfl⟩ | ⟨rfl, rfl⟩ | ⟨rfl, y3, y4⟩ | ⟨⟨x3, x4⟩, rfl⟩
        all_goals (
          generalize hpq : p1 ++ q1 = pq
          refine ret_by tyT_ok good_gr mixed (fun _ => 0) Tryd.func51 rfl (by kernel_rfl) (by kernel_rfl) rfl fun P G E hc hE => ?_
          replace a1 := hc _ _ _ a1
          replace a2 := hc _ _ _ a2
          have e1 : E.lti 1048576 (E.wadd .i64 (E.size p1) (E.size q1)) = false := by
            rw [hE]; simp only [stdE]; rw [wrap_i64_in (by omega) (by omega)]; exact decide_eq_false hb
          have e2 : E.cat p1 q1 := by rw [hE]; show _ ≤ _; omega
          have e3 : E.add p1 q1 = pq := by rw [hE]; exact hpq
          cbv
          repeat (first | (simp only [x3]; cbv) | simp only [x3] | (simp only [x4]; cbv) | simp only [x4] | (simp only [y3]; cbv) | simp only [y3] | (simp only [y4]; cbv) | simp only [y4] | (refine ⟨_, a1, ?_⟩; cbv) | (refine ⟨_, a2, ?_⟩; cbv) | (simp only [e1]; cbv) | simp only [e1] | (refine ⟨e2, ?_⟩; cbv) | (simp only [e3]; cbv) | simp only [e3])
        )
    · simp only [catE, if_true] at *
      rw [if_neg (by decide)]
      rcases h5 with ⟨rfl, rfl⟩ | ⟨rfl, rfl⟩ | ⟨rfl, rfl⟩ | ⟨rfl, y3, y4⟩ | ⟨⟨x3, x4⟩, rfl⟩
      all_goals (
        refine ret_by tyT_ok good_gr mixed (fun _ => 0) Tryd.func51 rfl (by kernel_rfl) (by kernel_rfl) rfl fun P G E hc hE => ?_
        replace a1 := hc _ _ _ a1
        replace a2 := hc _ _ _ a2
        cbv
        repeat (first | (simp only [x3]; cbv) | simp only [x3] | (simp only [x4]; cbv) | simp only [x4] | (simp only [y3]; cbv) | simp only [y3] | (simp only [y4]; cbv) | simp only [y4] | (refine ⟨_, a1, ?_⟩; cbv) | (refine ⟨_, a2, ?_⟩; cbv))
      )
  · simp only [catE] at *
    rw [if_neg (by decide)]
    rcases h5 with ⟨rfl, rfl⟩ | ⟨rfl, rfl⟩ | ⟨rfl, rfl⟩ | ⟨rfl, y3, y4⟩ | ⟨⟨x3, x4⟩, rfl⟩
    all_goals (
      refine ret_by tyT_ok good_gr mixed (fun _ => 0) Tryd.func51 rfl (by kernel_rfl) (by kernel_rfl) rfl fun P G E hc hE => ?_
      replace a1 := hc _ _ _ a1
      replace a2 := hc _ _ _ a2
      cbv
      repeat (first | (simp only [x3]; cbv) | simp only [x3] | (simp only [x4]; cbv) | simp only [x4] | (simp only [y3]; cbv) | simp only [y3] | (simp only [y4]; cbv) | simp only [y4] | (refine ⟨_, a1, ?_⟩; cbv) | (refine ⟨_, a2, ?_⟩; cbv))
    )
theorem radd_ret (v w : Val) (hv : Norm v) (hw : Norm w) : R 51 [pV v, pV w] (pVE (sumE v w).1 (sumE v w).2) := by
  unfold sumE
  by_cases h3 : v.k = 3 ∧ w.k = 3
  · rw [if_pos h3]
    obtain ⟨k, n, s, r⟩ := v
    obtain ⟨k', n', s', r'⟩ := w
    obtain ⟨rfl, rfl⟩ := h3
    have ho := rinteger_ret (wr (n + n'))
    refine ret_by tyT_ok good_gr mixed (fun _ => 0) Tryd.func51 rfl (by kernel_rfl) (by kernel_rfl) rfl fun P G E hc hE => ?_
    replace ho := hc _ _ _ ho
    have he : E.wadd .i64 n n' = wr (n + n') := by rw [hE]; rfl
    generalize wr (n + n') = q at *
    cbv
    simp only [he]
    exact ⟨_, ho, by cbv⟩
  · rw [if_neg h3]
    by_cases h4 : v.k = 4 ∨ w.k = 4
    · rw [if_pos h4]; exact radd_cat v w hv hw h4
    · rw [if_neg h4]
      obtain ⟨k, n, s, r⟩ := v
      obtain ⟨k', n', s', r'⟩ := w
      simp only at h3 h4
      clear hv hw
      rcases cases0 h3 h4 with ⟨rfl, y3, y4⟩ | ⟨⟨x3, x4⟩, rfl⟩ | ⟨⟨x3, x4⟩, y3, y4⟩
      all_goals (
        refine ret_by tyT_ok good_gr mixed (fun _ => 0) Tryd.func51 rfl (by kernel_rfl) (by kernel_rfl) rfl fun P G E hc hE => ?_
        cbv
        repeat (first | (simp only [x3]; cbv) | simp only [x3] | (simp only [x4]; cbv) | simp only [x4] | (simp only [y3]; cbv) | simp only [y3] | (simp only [y4]; cbv) | simp only [y4])
      )

/-- the order of two values that count -/
def ordI (a b : Int) : Int := if a < b then -1 else if b < a then 1 else 0
theorem rorder_int (n n' r r' : Int) (s t : ByteArray) : R 53 [pV ⟨3, n, s, r⟩, pV ⟨3, n', t, r'⟩] (.tup [pI (ordI n n'), pB true]) := by
  unfold ordI
  by_cases h1 : n < n'
  · rw [if_pos h1]
    refine ret_by tyT_ok good_gr mixed (fun n => match n with | 9 => 7 | 13 => 8 | 15 => 8 | _ => 0) Tryd.func53 rfl (by kernel_rfl) (by kernel_rfl) rfl fun P G E hc hE => ?_
    have d1 : E.lti n n' = true := by rw [hE]; exact decide_eq_true h1
    cbv
    repeat (first | (simp only [d1]; cbv) | simp only [d1])
  · rw [if_neg h1]
    by_cases h2 : n' < n
    · rw [if_pos h2]
      refine ret_by tyT_ok good_gr mixed (fun n => match n with | 9 => 7 | 13 => 8 | 15 => 8 | _ => 0) Tryd.func53 rfl (by kernel_rfl) (by kernel_rfl) rfl fun P G E hc hE => ?_
      have d1 : E.lti n n' = false := by rw [hE]; exact decide_eq_false h1
      have d2 : E.lti n' n = true := by rw [hE]; exact decide_eq_true h2
      cbv
      repeat (first | (simp only [d1]; cbv) | simp only [d1] | (simp only [d2]; cbv) | simp only [d2])
    · rw [if_neg h2]
      refine ret_by tyT_ok good_gr mixed (fun n => match n with | 9 => 7 | 13 => 8 | 15 => 8 | _ => 0) Tryd.func53 rfl (by kernel_rfl) (by kernel_rfl) rfl fun P G E hc hE => ?_
      have d1 : E.lti n n' = false := by rw [hE]; exact decide_eq_false h1
      have d2 : E.lti n' n = false := by rw [hE]; exact decide_eq_false h2
      cbv
      repeat (first | (simp only [d1]; cbv) | simp only [d1] | (simp only [d2]; cbv) | simp only [d2])
theorem rorder_bad (v w : Val) (hb : ¬ (v.k = 4 ∧ w.k = 4)) (hi : ¬ (v.k = 3 ∧ w.k = 3)) : R 53 [pV v, pV w] (.tup [pI 0, pB false]) := by
  obtain ⟨k, n, s, r⟩ := v
  obtain ⟨k', n', s', r'⟩ := w
  simp only at hb hi
  rcases casesO hb hi with ⟨rfl, y3⟩ | ⟨rfl, y4⟩ | ⟨x3, x4⟩
  all_goals (
    refine ret_by tyT_ok good_gr mixed (fun n => match n with | 9 => 7 | 13 => 8 | 15 => 8 | _ => 0) Tryd.func53 rfl (by kernel_rfl) (by kernel_rfl) rfl fun P G E hc hE => ?_
    cbv
    repeat (first | (simp only [x3]; cbv) | simp only [x3] | (simp only [x4]; cbv) | simp only [x4] | (simp only [y3]; cbv) | simp only [y3] | (simp only [y4]; cbv) | simp only [y4])
  )
/-- the order of the reference and the comparison agree -/
theorem cmp_ord (v w : Val) (hv : Norm v) (hw : Norm w) : (cmpLS v w = none ∧ R 53 [pV v, pV w] (.tup [pI 0, pB false])) ∨
    ∃ l m c, cmpLS v w = some (l, m) ∧ R 53 [pV v, pV w] (.tup [pI c, pB true]) ∧ ((l = true ∧ m = false ∧ c = -1) ∨ (l = false ∧ m = true ∧ c = 0) ∨ (l = false ∧ m = false ∧ c = 1)) := by
  by_cases h4 : v.k = 4 ∧ w.k = 4
  · have e : cmpLS v w = some (stdE.lt v.s w.s, stdE.eq v.s w.s) := by unfold cmpLS; rw [if_pos h4]
    have val : ∀ u : Val, Norm u → u.k = 4 → validB u.s = true := fun u hu h => by
      have := hu.eq
      rcases nrm_cases u with ⟨_, h2⟩ | ⟨h1, _⟩ | ⟨h1, _⟩
      · rw [h2] at this
        rw [← this]
        exact repairL_isValid _
      · rw [this] at h1; omega
      · rw [this] at h1; exact absurd h h1
    have ho := ordS_valid v.s w.s (val v hv h4.1) (val w hw h4.2)
    have hs := hv.sz
    have ht := hw.sz
    refine .inr ⟨_, _, ordS v.s w.s, e, ?_, ho⟩
    obtain ⟨k, n, s, r⟩ := v
    obtain ⟨k', n', s', r'⟩ := w
    obtain ⟨rfl, rfl⟩ := h4
    exact rorder_str n n' r r' s s' (by simp only at hs; omega) (by simp only at ht; omega)
  · by_cases h3 : v.k = 3 ∧ w.k = 3
    · have e : cmpLS v w = some (stdE.lti v.n w.n, decide (v.n = w.n)) := by unfold cmpLS; rw [if_neg h4, if_pos h3]
      refine .inr ⟨_, _, ordI v.n w.n, e, ?_, ?_⟩
      · obtain ⟨k, n, s, r⟩ := v
        obtain ⟨k', n', s', r'⟩ := w
        obtain ⟨rfl, rfl⟩ := h3
        exact rorder_int n n' r r' s s'
      · unfold ordI
        by_cases h1 : v.n < w.n
        · exact .inl ⟨decide_eq_true h1, decide_eq_false (by omega), if_pos h1⟩
        · by_cases h2 : w.n < v.n
          · exact .inr (.inr ⟨decide_eq_false h1, decide_eq_false (by omega), by rw [if_neg h1, if_pos h2]⟩)
          · exact .inr (.inl ⟨decide_eq_false h1, decide_eq_true (by omega), by rw [if_neg h1, if_neg h2]⟩)
    · exact .inl ⟨by unfold cmpLS; rw [if_neg h4, if_neg h3], rorder_bad v w h4 h3⟩
end Go.Proofs.YtadgpchdlkiinaaDoor
