/- Own work: value.Show, add, Binary at integers; the law's own awake; ValueDivides. -/
import Derived.Test.YtadgpchdlkiinaaDoorV1
import Derived.Test.YtadgpchdlkiinaaDoorDivP
namespace Go.Proofs.YtadgpchdlkiinaaDoor
open Go.RowKit
set_option maxRecDepth 100000

/-- the text of a value that counts, and the error -/
def showE (v : Val) : ByteArray × Int := if v.k = 1 then (⟨#[110, 117, 108, 108]⟩, 0) else if v.k = 2 then (if v.n = 0 then txtFalse else txtTrue, 0) else if v.k = 3 then (⟨(Lib.itoa v.n).toArray⟩, 0) else if v.k = 4 then (v.s, 0) else if v.k = 5 ∨ v.k = 6 then (⟨#[]⟩, 8) else (⟨#[117, 110, 100, 101, 102, 105, 110, 101, 100]⟩, 0)
theorem show_ret (v u : Val) (hn : R 16 [pV v] (pV u)) (h0 : -9223372036854775808 ≤ u.n) (h1 : u.n ≤ 9223372036854775807) : R 30 [pV v] (.tup [pS (showE u).1, pI (showE u).2]) := by
  obtain ⟨k, n, s, r⟩ := v
  obtain ⟨k', n', s', r'⟩ := u
  refine ret_by tyT_ok good_gr mixed (fun _ => 0) Tryd.func30 rfl (by kernel_rfl) (by kernel_rfl) rfl fun P G E hc hE => ?_
  have hN := hc _ _ _ hn
  have hF := hc _ _ _ (formatInt_ret n' h0 h1)
  have hBt := hc _ _ _ formatTrue_ret
  have hBf := hc _ _ _ formatFalse_ret
  generalize hq : showE ⟨k', n', s', r'⟩ = q
  generalize hi : (Lib.itoa n').toArray = it at hF
  cbv
  refine ⟨_, hN, ?_⟩
  rcases kinds k' with rfl | rfl | rfl | rfl | rfl | rfl | rfl | ⟨e0, e1, e2, e3, e4, e5, e6⟩
  · cbv; subst hq; rfl
  · cbv; subst hq; rfl
  · by_cases hz : n' = 0
    · subst hz; cbv; refine ⟨_, hBf, ?_⟩; cbv; subst hq; rfl
    · have hz' : decide (n' = 0) = false := by simpa using hz
      cbv; simp only [hz']; refine ⟨_, hBt, ?_⟩; cbv; subst hq; simp [showE, hz] <;> rfl
  · cbv; refine ⟨_, hF, ?_⟩; cbv; subst hq hi; rfl
  · cbv; subst hq; rfl
  · cbv; subst hq; rfl
  · cbv; subst hq; rfl
  · cbv; repeat (simp only [e1, e2, e3, e4, e5, e6]; cbv)
    subst hq; simp_all [showE]

def eAdd (a b : ByteArray) : ByteArray := a ++ b
/-- the sum of two values that count -/
def addE (v w : Val) (a b : ByteArray × Int) : Val × Int := if v.k = 3 ∧ w.k = 3 then (vI (wr (v.n + w.n)), 0) else if v.k ≠ 4 ∧ w.k ≠ 4 then (v0, 8) else if a.2 ≠ 0 ∨ b.2 ≠ 0 then (v0, 8) else if 1048576 < a.1.size + b.1.size then (v0, 5) else (vS (eAdd a.1 b.1), 0)
theorem add_int (a b : Int) : R 48 [pV (vI a), pV (vI b)] (pVE (vI (wr (a + b))) 0) := by
  refine ret_by tyT_ok good_gr mixed (fun _ => 0) Tryd.func48 rfl (by kernel_rfl) (by kernel_rfl) rfl fun P G E hc hE => ?_
  have ho := hc _ _ _ (of_ret (wr (a + b)))
  have he : E.wadd .i64 a b = wr (a + b) := by rw [hE]; rfl
  generalize wr (a + b) = q at *
  cbv
  simp only [he]
  exact ⟨_, ho, by cbv⟩
def txtA : ByteArray := ⟨#[97]⟩
def txt1 : ByteArray := ⟨#[49]⟩
def txtA1 : ByteArray := ⟨#[97, 49]⟩
theorem normal_a : R 16 [pV (vS txtA)] (pV (vS txtA)) := normal_ret (vS txtA) txtA fun _ => repair_valid txtA (by decide) (by kernel_rfl)
theorem normal_i (n : Int) : R 16 [pV (vI n)] (pV (vI n)) := normal_ret (vI n) ⟨#[]⟩ fun h => by simp [vI] at h
theorem show_a : R 30 [pV (vS txtA)] (.tup [pS txtA, pI 0]) := show_ret _ _ normal_a (by decide) (by decide)
theorem show_1 : R 30 [pV (vI 1)] (.tup [pS txt1, pI 0]) := by
  have h := show_ret _ _ (normal_i 1) (by decide) (by decide)
  have e : showE (vI 1) = (txt1, 0) := by kernel_rfl
  rw [e] at h; exact h
theorem add_a1 : R 48 [pV (vS txtA), pV (vI 1)] (pVE (vS txtA1) 0) := by
  refine ret_by tyT_ok good_gr mixed (fun _ => 0) Tryd.func48 rfl (by kernel_rfl) (by kernel_rfl) rfl fun P G E hc hE => ?_
  have hA := hc _ _ _ show_a
  have hB := hc _ _ _ show_1
  have e1 : E.lti 1048576 (E.wadd .i64 (E.size txtA) (E.size txt1)) = false := by rw [hE]; kernel_rfl
  have e2 : E.add txtA txt1 = txtA1 := by rw [hE]; kernel_rfl
  have e3 : E.cat txtA txt1 := by rw [hE]; show _ ≤ _; decide
  generalize txtA1 = r1 at *
  generalize txtA = r2 at *
  generalize txt1 = r3 at *
  cbv
  refine ⟨_, hA, ?_⟩
  cbv
  refine ⟨_, hB, ?_⟩
  cbv
  simp only [e1]
  cbv
  refine ⟨e3, ?_⟩
  simp only [e2]
/-- value.Binary by its operator -/
theorem binary_add (v w v' w' u : Val) (e : Int) (hv : R 16 [pV v] (pV v')) (hw : R 16 [pV w] (pV w')) (h : R 48 [pV v', pV w'] (pVE u e)) : R 26 [pI 6, pV v, pV w] (pVE u e) := by
  refine ret_by tyT_ok good_gr mixed (fun n => match n with | 1 => 3 | _ => 0) Tryd.func26 rfl (by kernel_rfl) (by kernel_rfl) rfl fun P G E hc hE => ?_
  have hA := hc _ _ _ hv
  have hB := hc _ _ _ hw
  have hC := hc _ _ _ h
  cbv
  refine ⟨_, hA, ?_⟩
  cbv
  refine ⟨_, hB, ?_⟩
  cbv
  refine ⟨_, hC, ?_⟩
  cbv
theorem binary_arith (op a b : Int) (ho : op = 9 ∨ op = 10) : R 26 [pI op, pV (vI a), pV (vI b)] (pVE (arithE op a b).1 (arithE op a b).2) := by
  have hr := arith_ret op a b (by omega)
  refine ret_by tyT_ok good_gr mixed (fun n => match n with | 1 => 3 | _ => 0) Tryd.func26 rfl (by kernel_rfl) (by kernel_rfl) rfl fun P G E hc hE => ?_
  have hA := hc _ _ _ (normal_i a)
  have hB := hc _ _ _ (normal_i b)
  have hC := hc _ _ _ hr
  generalize arithE op a b = q at *
  rcases ho with rfl | rfl
  · cbv
    refine ⟨_, hA, ?_⟩
    cbv
    refine ⟨_, hB, ?_⟩
    cbv
    refine ⟨_, hC, ?_⟩
    cbv
  · cbv
    refine ⟨_, hA, ?_⟩
    cbv
    refine ⟨_, hB, ?_⟩
    cbv
    refine ⟨_, hC, ?_⟩
    cbv
theorem text_a : R 18 [pS txtA] (pV (vS txtA)) := text_ret txtA txtA (repair_valid txtA (by decide) (by kernel_rfl))
theorem truthy_a1 : R 29 [pV (vS txtA1)] (pB true) := by
  have h := truthy_ret (vS txtA1)
  have e : truthyB (vS txtA1) = true := by decide
  rw [e] at h; exact h
theorem awake_ret : R 13 [] (pB true) := by
  refine ret_by tyT_ok good_gr mixed (fun _ => 0) Tryd.func13 rfl (by kernel_rfl) (by kernel_rfl) rfl fun P G E hc hE => ?_
  have h1 := hc _ _ _ text_a
  have h2 := hc _ _ _ (of_ret 1)
  have h3 := hc _ _ _ (binary_add _ _ _ _ _ _ normal_a (normal_i 1) add_a1)
  have h4 := hc _ _ _ truthy_a1
  have e1 : E.eq txtA1 ⟨#[97, 49]⟩ = true := by rw [hE]; kernel_rfl
  cbv
  refine ⟨_, h1, ?_⟩
  cbv
  refine ⟨_, h2, ?_⟩
  cbv
  refine ⟨_, h3, ?_⟩
  generalize txtA1 = t1 at *
  cbv
  simp only [e1]
  cbv
  refine ⟨_, h4, ?_⟩
  cbv

theorem divides_ret (a b : Int) (ha0 : -9223372036854775808 ≤ a) (ha1 : a ≤ 9223372036854775807) (hb0 : -9223372036854775808 ≤ b) (hb1 : b ≤ 9223372036854775807) : R 6 [pI a, pI b] (pB true) := by
  refine ret_by tyT_ok good_gr mixed (fun _ => 0) Tryd.func6 rfl (by kernel_rfl) (by kernel_rfl) rfl fun P G E hc hE => ?_
  have hw := hc _ _ _ awake_ret
  have h1 := hc _ _ _ (of_ret a)
  have h2 := hc _ _ _ (of_ret b)
  have h9 := hc _ _ _ (binary_arith 9 a b (by simp))
  have h10 := hc _ _ _ (binary_arith 10 a b (by simp))
  by_cases b0 : b = 0
  · subst b0
    cbv
    refine ⟨_, hw, ?_⟩
    cbv
    refine ⟨_, h1, ?_⟩
    cbv
    refine ⟨_, h2, ?_⟩
    cbv
    refine ⟨_, h9, ?_⟩
    cbv
    refine ⟨_, h1, ?_⟩
    cbv
    refine ⟨_, h2, ?_⟩
    cbv
    refine ⟨_, h10, ?_⟩
    cbv
  · have b0' : decide (b = 0) = false := by simpa using b0
    obtain ⟨q, r, e9, e10, eq, hr, hs⟩ := divides_math a b b0 ha0 ha1 hb0 hb1
    rw [e9] at h9
    rw [e10] at h10
    have h3 := hc _ _ _ (abs_ret r hr.1 hr.2.1)
    have h4 := hc _ _ _ (abs_ret b hb0 hb1)
    have e1 : E.lti (absI r) (absI b) = true := by rw [hE]; simpa [stdE] using hr.2.2
    have e2 : E.wadd .i64 (E.wmul .i64 q b) r = a := by rw [hE]; exact eq
    generalize absI r = ar at *
    generalize absI b = ab at *
    have e5 : r = 0 ∨ (decide (r = 0) = false ∧ E.lti r 0 = E.lti a 0) := by
      rcases hs with h | h
      · exact .inl h
      · by_cases hr0 : r = 0
        · exact .inl hr0
        · exact .inr ⟨by simpa using hr0, by rw [hE]; exact h⟩
    cbv
    refine ⟨_, hw, ?_⟩
    cbv
    refine ⟨_, h1, ?_⟩
    cbv
    refine ⟨_, h2, ?_⟩
    cbv
    refine ⟨_, h9, ?_⟩
    cbv
    refine ⟨_, h1, ?_⟩
    cbv
    refine ⟨_, h2, ?_⟩
    cbv
    refine ⟨_, h10, ?_⟩
    cbv
    simp only [b0']
    cbv
    refine ⟨_, h3, ?_⟩
    cbv
    refine ⟨_, h4, ?_⟩
    cbv
    simp only [e1, e2]
    rcases e5 with rfl | ⟨e5, e6⟩
    · cbv
    · cbv
      simp only [e5]
      cbv
      simp only [e6]
      cases E.lti a 0 <;> cbv
end Go.Proofs.YtadgpchdlkiinaaDoor
