/- Own work: the comparisons; ValueOrders. -/
import Derived.Test.YtadgpchdlkiinaaDoorV4
namespace Go.Proofs.YtadgpchdlkiinaaDoor
open Go.RowKit
set_option maxRecDepth 100000

def cmpB (op : Int) (l s : Bool) : Bool := if op = 15 then l else if op = 16 then l || s else if op = 17 then !l && !s else !l
set_option maxHeartbeats 1000000 in
theorem compare_str (op n n' r r' : Int) (s s' : ByteArray) (ho : op = 15 ∨ op = 16 ∨ op = 17 ∨ op = 18) (l m b : Bool) (hl : stdE.lt s s' = l) (hm : stdE.eq s s' = m) (u : Val) (hb : cmpB op l m = b) (ht : R 19 [pB b] (pV u)) : R 50 [pI op, pV ⟨4, n, s, r⟩, pV ⟨4, n', s', r'⟩] (pVE u 0) := by
  obtain ⟨k2, n2, s2, r2⟩ := u
  rcases ho with rfl | rfl | rfl | rfl <;> cases l <;> cases m <;> (
    simp [cmpB] at hb
    subst hb
    refine ret_by tyT_ok good_gr mixed (fun n => match n with | 1 => 11 | 3 => 11 | _ => 0) Tryd.func50 rfl (by kernel_rfl) (by kernel_rfl) rfl fun P G E hc hE => ?_
    rw [← hE] at hl hm
    replace ht := hc _ _ _ ht
    clear hE hc
    cbv
    repeat (first | (simp only [hl, hm]; cbv) | (simp only [hl, hm]))
    exact ⟨_, ht, by cbv⟩)
set_option maxHeartbeats 1000000 in
theorem compare_int (op n n' r r' : Int) (s s' : ByteArray) (ho : op = 15 ∨ op = 16 ∨ op = 17 ∨ op = 18) (l m b : Bool) (hl : stdE.lti n n' = l) (hm : decide (n = n') = m) (u : Val) (hb : cmpB op l m = b) (ht : R 19 [pB b] (pV u)) : R 50 [pI op, pV ⟨3, n, s, r⟩, pV ⟨3, n', s', r'⟩] (pVE u 0) := by
  obtain ⟨k2, n2, s2, r2⟩ := u
  rcases ho with rfl | rfl | rfl | rfl <;> cases l <;> cases m <;> (
    simp [cmpB] at hb
    subst hb
    refine ret_by tyT_ok good_gr mixed (fun n => match n with | 1 => 11 | 3 => 11 | _ => 0) Tryd.func50 rfl (by kernel_rfl) (by kernel_rfl) rfl fun P G E hc hE => ?_
    rw [← hE] at hl
    replace ht := hc _ _ _ ht
    clear hE hc
    cbv
    repeat (first | (simp only [hl, hm]; cbv) | (simp only [hl, hm]))
    exact ⟨_, ht, by cbv⟩)
theorem compare_bad (op : Int) (v w : Val) (hb : ¬ (v.k = 4 ∧ w.k = 4)) (hi : ¬ (v.k = 3 ∧ w.k = 3)) : R 50 [pI op, pV v, pV w] (pVE v0 8) := by
  obtain ⟨k, n, s, r⟩ := v
  obtain ⟨k', n', s', r'⟩ := w
  simp only at hb hi
  by_cases h4 : k = 4
  · subst h4
    have e : decide (k' = 4) = false := by simp at hb; simpa using hb
    refine ret_by tyT_ok good_gr mixed (fun n => match n with | 1 => 11 | 3 => 11 | _ => 0) Tryd.func50 rfl (by kernel_rfl) (by kernel_rfl) rfl fun P G E hc hE => ?_
    cbv; simp only [e]; cbv
  · have e4 : decide (k = 4) = false := by simpa using h4
    by_cases h3 : k = 3
    · subst h3
      have e : decide (k' = 3) = false := by simp at hi; simpa using hi
      refine ret_by tyT_ok good_gr mixed (fun n => match n with | 1 => 11 | 3 => 11 | _ => 0) Tryd.func50 rfl (by kernel_rfl) (by kernel_rfl) rfl fun P G E hc hE => ?_
      cbv; simp only [e]; cbv
    · have e3 : decide (k = 3) = false := by simpa using h3
      refine ret_by tyT_ok good_gr mixed (fun n => match n with | 1 => 11 | 3 => 11 | _ => 0) Tryd.func50 rfl (by kernel_rfl) (by kernel_rfl) rfl fun P G E hc hE => ?_
      cbv; simp only [e4]; cbv; simp only [e3]; cbv
set_option maxHeartbeats 1000000 in
/-- value.Binary at a comparison -/
theorem binary_cmp (op : Int) (ho : op = 15 ∨ op = 16 ∨ op = 17 ∨ op = 18) (v w v' w' u : Val) (e : Int) (hv : R 16 [pV v] (pV v')) (hw : R 16 [pV w] (pV w')) (h : R 50 [pI op, pV v', pV w'] (pVE u e)) : R 26 [pI op, pV v, pV w] (pVE u e) := by
  rcases ho with rfl | rfl | rfl | rfl <;> (
    refine ret_by tyT_ok good_gr mixed (fun n => match n with | 1 => 3 | _ => 0) Tryd.func26 rfl (by kernel_rfl) (by kernel_rfl) rfl fun P G E hc hE => ?_
    have hA := hc _ _ _ hv
    have hB := hc _ _ _ hw
    have hC := hc _ _ _ h
    cbv; refine ⟨_, hA, ?_⟩; cbv; refine ⟨_, hB, ?_⟩; cbv; refine ⟨_, hC, ?_⟩; cbv)
/-- the comparison of two values that count: less, same -/
def cmpLS (a b : Val) : Option (Bool × Bool) := if a.k = 4 ∧ b.k = 4 then some (stdE.lt a.s b.s, stdE.eq a.s b.s) else if a.k = 3 ∧ b.k = 3 then some (stdE.lti a.n b.n, decide (a.n = b.n)) else none
def cmpE (op : Int) (a b : Val) : Val × Int := match cmpLS a b with
  | some (l, m) => (vB (cmpB op l m), 0)
  | none => (v0, 8)
theorem compare_ret (op : Int) (ho : op = 15 ∨ op = 16 ∨ op = 17 ∨ op = 18) (v w : Val) : R 50 [pI op, pV v, pV w] (pVE (cmpE op v w).1 (cmpE op v w).2) := by
  by_cases h4 : v.k = 4 ∧ w.k = 4
  · obtain ⟨k, n, s, r⟩ := v
    obtain ⟨k', n', s', r'⟩ := w
    obtain ⟨rfl, rfl⟩ := h4
    exact compare_str op n n' r r' s s' ho _ _ _ rfl rfl _ rfl (truth_ret _)
  · by_cases h3 : v.k = 3 ∧ w.k = 3
    · obtain ⟨k, n, s, r⟩ := v
      obtain ⟨k', n', s', r'⟩ := w
      obtain ⟨rfl, rfl⟩ := h3
      exact compare_int op n n' r r' s s' ho _ _ _ rfl rfl _ rfl (truth_ret _)
    · have e : cmpE op v w = (v0, 8) := by simp [cmpE, cmpLS, h4, h3]
      rw [e]
      exact compare_bad op v w h4 h3
theorem bin_cmp_any (op : Int) (ho : op = 15 ∨ op = 16 ∨ op = 17 ∨ op = 18) (v w : Val) (hv : v.s.size ≤ 2000000) (hw : w.s.size ≤ 2000000) : R 26 [pI op, pV v, pV w] (pVE (cmpE op (nrm v) (nrm w)).1 (cmpE op (nrm v) (nrm w)).2) :=
  binary_cmp op ho v w _ _ _ _ (normal_any v hv) (normal_any w hw) (compare_ret op ho _ _)
end Go.Proofs.YtadgpchdlkiinaaDoor
