/- Own work: the reference's decimal texts of all numbers; Show, Truthy and Typeof; ValueTells. -/
import Derived.Test.YtadgpchdlkiinaaDoorV7
namespace Go.Proofs.YtadgpchdlkiinaaDoor
open Go.RowKit
set_option maxRecDepth 100000

def minT : ByteArray := ⟨#[45, 57, 50, 50, 51, 51, 55, 50, 48, 51, 54, 56, 53, 52, 55, 55, 53, 56, 48, 56]⟩
def itoaS (n : Int) : ByteArray := ⟨(Lib.itoa n).toArray⟩
theorem itoaS_min : itoaS (-9223372036854775808) = minT := by
  have : Lib.itoa (-9223372036854775808) = minT.data.toList := by
    unfold Lib.itoa
    rw [if_pos (by decide)]
    have e : (-9223372036854775808 : Int).natAbs = 9223372036854775808 := rfl
    rw [e]
    have step : ∀ n : Nat, ¬ n < 10 → Lib.decDigits n = Lib.decDigits (n / 10) ++ [UInt8.ofNat (48 + n % 10)] := fun n h => by
      conv => lhs; rw [Lib.decDigits, dif_neg h]
    rw [step 9223372036854775808 (by decide), step 922337203685477580 (by decide), step 92233720368547758 (by decide), step 9223372036854775 (by decide), step 922337203685477 (by decide), step 92233720368547 (by decide), step 9223372036854 (by decide), step 922337203685 (by decide), step 92233720368 (by decide), step 9223372036 (by decide), step 922337203 (by decide), step 92233720 (by decide), step 9223372 (by decide), step 922337 (by decide), step 92233 (by decide), step 9223 (by decide), step 922 (by decide), step 92 (by decide), Lib.decDigits_one (i := 9) (by decide)]
    rfl
  unfold itoaS
  rw [this]
theorem digits_ret (n : Int) (h0 : -9223372036854775808 ≤ n) (h1 : n ≤ 9223372036854775807) : R 57 [pI n] (pS (itoaS n)) := by
  by_cases hn : 0 ≤ n
  · have h := digits_pos n hn h1
    have e : itoaS n = ⟨(Lib.decDigits n.toNat).toArray⟩ := by unfold itoaS Lib.itoa; rw [if_neg (by omega)]
    rw [e]; exact h
  · by_cases hm : n = -9223372036854775808
    · subst hm
      rw [itoaS_min]
      refine ret_by tyT_ok good_gr mixed (fun _ => 0) Tryd.func57 rfl (by kernel_rfl) (by kernel_rfl) rfl fun P G E hc hE => ?_
      cbv
    · have h := digits_pos (-n) (by omega) (by omega)
      have e : itoaS n = (⟨#[45]⟩ : ByteArray) ++ ⟨(Lib.decDigits (-n).toNat).toArray⟩ := by
        unfold itoaS Lib.itoa
        rw [if_pos (by omega), show n.natAbs = (-n).toNat by omega]
        apply ByteArray.ext
        rw [ByteArray.data_append]
        simp
      rw [e]
      have hl : (Lib.decDigits (-n).toNat).length ≤ 21 := by
        have := Lib.itoa_length_le (-n) (by omega) (by omega)
        unfold Lib.itoa at this
        rw [if_neg (by omega)] at this; exact this
      generalize Lib.decDigits (-n).toNat = L at *
      generalize hd : (⟨#[45]⟩ : ByteArray) ++ ⟨L.toArray⟩ = D
      generalize hs : (⟨L.toArray⟩ : ByteArray) = s at *
      have hsz : s.size ≤ 21 := by subst hs; exact hl
      refine ret_by tyT_ok good_gr mixed (fun _ => 0) Tryd.func57 rfl (by kernel_rfl) (by kernel_rfl) rfl fun P G E hc hE => ?_
      have e0 : decide (n = -9223372036854775808) = false := decide_eq_false hm
      have e1 : E.lti n 0 = true := by rw [hE]; exact decide_eq_true (by omega)
      have e2 : E.wsub .i64 0 n = -n := by rw [hE]; simp only [stdE]; rw [wrap_i64_in (by omega) (by omega)]; omega
      have e3 : E.cat ⟨#[45]⟩ s := by
        rw [hE]; show _ ≤ _
        have : (⟨#[45]⟩ : ByteArray).size = 1 := rfl
        omega
      have e4 : E.add ⟨#[45]⟩ s = D := by rw [hE]; exact hd
      replace h := hc _ _ _ h
      generalize -n = m at *
      cbv
      simp only [e0]
      cbv
      simp only [e1]
      cbv
      simp only [e2]
      refine ⟨_, h, ?_⟩
      cbv
      refine ⟨e3, ?_⟩
      simp only [e4]
/-- what a normal value can be -/
theorem nrm_kinds (v : Val) : ((nrm v).k = 2 → (nrm v).n = 0 ∨ (nrm v).n = 1) ∧ ((nrm v).k = 3 → (nrm v).n = v.n) ∧ (0 ≤ (nrm v).k ∧ (nrm v).k ≤ 6) := by
  unfold nrm normV
  split
  · simp only [vB]; refine ⟨fun _ => ?_, fun h => by simp at h, by simp⟩
    cases decide (v.n = 0) <;> simp [b2i]
  split
  · simp [vI]
  split
  · simp [vS]
  split
  · simp [vR]
  split
  · refine ⟨fun h => ?_, fun h => ?_, ?_⟩
    · simp only at h; omega
    · simp only at h; omega
    · simp only; omega
  · simp [v0]
theorem bool01 (b : Bool) : decide ((vB b).n = 1) = b := by cases b <;> rfl
/-- Show of the reference -/
theorem rshow_ret (v : Val) (hs : v.s.size ≤ 2000000) (h0 : -9223372036854775808 ≤ v.n) (h1 : v.n ≤ 9223372036854775807) : R 31 [pV v] (.tup [pS (showE (nrm v)).1, pI (showE (nrm v)).2]) := by
  have hn := rnormal_any v hs
  have hcase := nrm_kinds v
  generalize hu : nrm v = u at *
  obtain ⟨k, n, s, r⟩ := v
  obtain ⟨k', n', s', r'⟩ := u
  have hd : k' = 3 → R 57 [pI n'] (pS (itoaS n')) := fun h3 => by
    have := hcase.2.1 h3
    simp only at this
    rw [this]
    exact digits_ret n h0 h1
  refine ret_by tyT_ok good_gr mixed (fun _ => 0) Tryd.func31 rfl (by kernel_rfl) (by kernel_rfl) rfl fun P G E hc hE => ?_
  replace hn := hc _ _ _ hn
  generalize hq : showE ⟨k', n', s', r'⟩ = q
  rcases kinds k' with rfl | rfl | rfl | rfl | rfl | rfl | rfl | ⟨e0, e1, e2, e3, e4, e5, e6⟩
  · cbv
    refine ⟨_, hn, ?_⟩
    cbv
    subst hq; rfl
  · cbv
    refine ⟨_, hn, ?_⟩
    cbv
    subst hq; rfl
  · cases hn1 : decide (n' = 1)
    · cbv
      refine ⟨_, hn, ?_⟩
      cbv
      simp only [hn1]
      cbv
      subst hq
      have h3 := hcase.1 rfl
      simp only at h3
      rcases h3 with rfl | rfl
      · rfl
      · simp at hn1
    · cbv
      refine ⟨_, hn, ?_⟩
      cbv
      simp only [hn1]
      cbv
      subst hq
      have : n' = 1 := by simpa using hn1
      subst this; rfl
  · have hd := hc _ _ _ (hd rfl)
    generalize hi : itoaS n' = it at *
    cbv
    refine ⟨_, hn, ?_⟩
    cbv
    refine ⟨_, hd, ?_⟩
    cbv
    subst hq hi; rfl
  · cbv
    refine ⟨_, hn, ?_⟩
    cbv
    subst hq; rfl
  · cbv
    refine ⟨_, hn, ?_⟩
    cbv
    subst hq; rfl
  · cbv
    refine ⟨_, hn, ?_⟩
    cbv
    subst hq; rfl
  · exfalso
    simp only [decide_eq_false_iff_not] at e0 e1 e2 e3 e4 e5 e6
    have := hcase.2.2
    simp only at this
    omega
theorem repairS_empty (s : ByteArray) : decide (repairS s = ⟨#[]⟩) = decide (s = ⟨#[]⟩) := by
  rcases repair_cases s.data.toList.length s.data.toList (Nat.le_refl _) with ⟨_, h⟩ | ⟨_, h⟩
  · have : repairS s = s := by unfold repairS; rw [h]
    rw [this]
  · have h1 : repairS s ≠ ⟨#[]⟩ := fun e => by
      have : (repairL s.data.toList) = [] := by
        have := congrArg (fun b : ByteArray => b.data.toList) e
        simpa [repairS] using this
      rw [this] at h; simp at h
    have h2 : s ≠ ⟨#[]⟩ := fun e => by
      subst e
      exact h1 rfl
    rw [decide_eq_false h1, decide_eq_false h2]
theorem truthy_nrm (v : Val) : truthyB (nrm v) = truthyB v := by
  obtain ⟨k, n, s, r⟩ := v
  rcases kinds k with rfl | rfl | rfl | rfl | rfl | rfl | rfl | ⟨e0, e1, e2, e3, e4, e5, e6⟩
  · rfl
  · rfl
  · simp only [nrm, normV, truthyB, vB, b2i]
    cases h : decide (n = 0) <;> simp
  · rfl
  · have := repairS_empty s
    simp only [nrm, normV, truthyB, vS]
    simpa using this
  · rfl
  · rfl
  · simp_all [nrm, normV, truthyB, v0]
theorem rtruthy_ret (v : Val) (hs : v.s.size ≤ 2000000) : R 32 [pV v] (pB (truthyB v)) := by
  have hn := rnormal_any v hs
  have hcase := nrm_kinds v
  rw [← truthy_nrm v]
  generalize hu : nrm v = u at *
  obtain ⟨k, n, s, r⟩ := v
  obtain ⟨k', n', s', r'⟩ := u
  refine ret_by tyT_ok good_gr mixed (fun _ => 0) Tryd.func32 rfl (by kernel_rfl) (by kernel_rfl) rfl fun P G E hc hE => ?_
  replace hn := hc _ _ _ hn
  generalize hq : truthyB ⟨k', n', s', r'⟩ = q
  rcases kinds k' with rfl | rfl | rfl | rfl | rfl | rfl | rfl | ⟨e0, e1, e2, e3, e4, e5, e6⟩
  · cbv
    refine ⟨_, hn, ?_⟩
    cbv
    subst hq; rfl
  · cbv
    refine ⟨_, hn, ?_⟩
    cbv
    subst hq; rfl
  · cbv
    refine ⟨_, hn, ?_⟩
    cbv
    subst hq
    cases h : decide (n' = 0) <;> simp [truthyB, h]
  · cbv
    refine ⟨_, hn, ?_⟩
    cbv
    subst hq
    cases h : decide (n' = 0) <;> simp [truthyB, h]
  · cbv
    refine ⟨_, hn, ?_⟩
    cbv
    subst hq hE
    cases h : decide (s' = ⟨#[]⟩) <;> simp [truthyB, h, stdE]
  · cbv
    refine ⟨_, hn, ?_⟩
    cbv
    subst hq; rfl
  · cbv
    refine ⟨_, hn, ?_⟩
    cbv
    subst hq; rfl
  · exfalso
    simp only [decide_eq_false_iff_not] at e0 e1 e2 e3 e4 e5 e6
    have := hcase.2.2
    simp only at this
    omega
def typeofS (k : Int) (c : Bool) : ByteArray := if k = 1 then ⟨#[111, 98, 106, 101, 99, 116]⟩ else if k = 2 then ⟨#[98, 111, 111, 108, 101, 97, 110]⟩ else if k = 3 then ⟨#[110, 117, 109, 98, 101, 114]⟩ else if k = 4 then ⟨#[115, 116, 114, 105, 110, 103]⟩ else if k = 5 then (if c then ⟨#[102, 117, 110, 99, 116, 105, 111, 110]⟩ else ⟨#[111, 98, 106, 101, 99, 116]⟩) else ⟨#[117, 110, 100, 101, 102, 105, 110, 101, 100]⟩
theorem typeof_ret (v : Val) (c : Bool) : R 33 [pV v, pB c] (pS (typeofS v.k c)) := by
  obtain ⟨k, n, s, r⟩ := v
  refine ret_by tyT_ok good_gr mixed (fun _ => 0) Tryd.func33 rfl (by kernel_rfl) (by kernel_rfl) rfl fun P G E hc hE => ?_
  generalize hq : typeofS k c = q
  rcases kinds k with rfl | rfl | rfl | rfl | rfl | rfl | rfl | ⟨e0, e1, e2, e3, e4, e5, e6⟩
  · cbv; subst hq; rfl
  · cbv; subst hq; rfl
  · cbv; subst hq; rfl
  · cbv; subst hq; rfl
  · cbv; subst hq; rfl
  · cases c
    · cbv; subst hq; rfl
    · cbv; subst hq; rfl
  · cbv; subst hq; rfl
  · cbv; repeat (simp only [e1, e2, e3, e4, e5]; cbv)
    subst hq; simp_all [typeofS]
theorem typeof_nrm (v : Val) (c : Bool) : typeofS (nrm v).k c = typeofS v.k c := by
  obtain ⟨k, n, s, r⟩ := v
  rcases kinds k with rfl | rfl | rfl | rfl | rfl | rfl | rfl | ⟨e0, e1, e2, e3, e4, e5, e6⟩
  · rfl
  · rfl
  · rfl
  · rfl
  · rfl
  · rfl
  · rfl
  · simp_all [nrm, normV, typeofS, v0]
theorem rtypeof_ret (v : Val) (hs : v.s.size ≤ 2000000) (c : Bool) : R 34 [pV v, pB c] (pS (typeofS v.k c)) := by
  have hn := rnormal_any v hs
  have hcase := nrm_kinds v
  rw [← typeof_nrm v c]
  generalize hu : nrm v = u at *
  obtain ⟨k, n, s, r⟩ := v
  obtain ⟨k', n', s', r'⟩ := u
  refine ret_by tyT_ok good_gr mixed (fun _ => 0) Tryd.func34 rfl (by kernel_rfl) (by kernel_rfl) rfl fun P G E hc hE => ?_
  replace hn := hc _ _ _ hn
  generalize hq : typeofS k' c = q
  rcases kinds k' with rfl | rfl | rfl | rfl | rfl | rfl | rfl | ⟨e0, e1, e2, e3, e4, e5, e6⟩
  · cbv
    refine ⟨_, hn, ?_⟩
    cbv
    subst hq; rfl
  · cbv
    refine ⟨_, hn, ?_⟩
    cbv
    subst hq; rfl
  · cbv
    refine ⟨_, hn, ?_⟩
    cbv
    subst hq; rfl
  · cbv
    refine ⟨_, hn, ?_⟩
    cbv
    subst hq; rfl
  · cbv
    refine ⟨_, hn, ?_⟩
    cbv
    subst hq; rfl
  · cases c
    · cbv
      refine ⟨_, hn, ?_⟩
      cbv
      subst hq; rfl
    · cbv
      refine ⟨_, hn, ?_⟩
      cbv
      subst hq; rfl
  · cbv
    refine ⟨_, hn, ?_⟩
    cbv
    subst hq; rfl
  · exfalso
    simp only [decide_eq_false_iff_not] at e0 e1 e2 e3 e4 e5 e6
    have := hcase.2.2
    simp only at this
    omega
theorem nrm_n (v : Val) (h0 : -9223372036854775808 ≤ v.n) (h1 : v.n ≤ 9223372036854775807) : -9223372036854775808 ≤ (nrm v).n ∧ (nrm v).n ≤ 9223372036854775807 := by
  unfold nrm normV
  split
  · simp only [vB]; cases decide (v.n = 0) <;> simp [b2i]
  split
  · exact ⟨h0, h1⟩
  split
  · simp [vS]
  split
  · simp [vR]
  split <;> simp [v0]
set_option maxHeartbeats 1000000 in
theorem ltells_ret (v : Val) (c : Bool) (h0 : -9223372036854775808 ≤ v.n) (h1 : v.n ≤ 9223372036854775807) : R 8 [pV v, pB c] (pB true) := by
  have hf := few_ret v
  have hw := awake_ret
  cases hfv : few v with
  | false =>
    rw [hfv] at hf
    obtain ⟨k, m, t, r⟩ := v
    refine ret_by tyT_ok good_gr mixed (fun n => match n with | 5 => 22 | _ => 0) Tryd.func8 rfl (by kernel_rfl) (by kernel_rfl) rfl fun P G E hc hE => ?_
    replace hw := hc _ _ _ hw
    replace hf := hc _ _ _ hf
    cbv
    refine ⟨_, hw, ?_⟩
    cbv
    refine ⟨_, hf, ?_⟩
    cbv
    refine ⟨_, hw, ?_⟩
    cbv
  | true =>
    rw [hfv] at hf
    have hsz : v.s.size ≤ 200 := by simpa [few] using hfv
    have a1 := show_ret v (nrm v) (normal_any v (by omega)) (nrm_n v h0 h1).1 (nrm_n v h0 h1).2
    have a2 := rshow_ret v (by omega) h0 h1
    have a3 := truthy_ret v
    have a4 := rtruthy_ret v (by omega)
    have a5 := typeof_ret v c
    have a6 := rtypeof_ret v (by omega) c
    generalize showE (nrm v) = se at *
    generalize truthyB v = tb at *
    generalize typeofS v.k c = ts at *
    obtain ⟨k, m, t, r⟩ := v
    obtain ⟨s1, s2⟩ := se
    refine ret_by tyT_ok good_gr mixed (fun n => match n with | 5 => 22 | _ => 0) Tryd.func8 rfl (by kernel_rfl) (by kernel_rfl) rfl fun P G E hc hE => ?_
    replace hw := hc _ _ _ hw
    replace hf := hc _ _ _ hf
    replace a1 := hc _ _ _ a1
    replace a2 := hc _ _ _ a2
    replace a3 := hc _ _ _ a3
    replace a4 := hc _ _ _ a4
    replace a5 := hc _ _ _ a5
    replace a6 := hc _ _ _ a6
    have e3 : ∀ s, E.eq s s = true := by intro s; rw [hE]; simp [stdE]
    have e4 : decide (s2 = s2) = true := decide_eq_true rfl
    cases tb
    · cbv
      refine ⟨_, hw, ?_⟩
      cbv
      refine ⟨_, hf, ?_⟩
      cbv
      refine ⟨_, a1, ?_⟩
      cbv
      refine ⟨_, a2, ?_⟩
      cbv
      refine ⟨_, a3, ?_⟩
      cbv
      refine ⟨_, a4, ?_⟩
      cbv
      refine ⟨_, a5, ?_⟩
      cbv
      refine ⟨_, a6, ?_⟩
      cbv
      repeat (first | (simp only [e3]; cbv) | (simp only [e4]; cbv) | simp only [e3] | simp only [e4])
    · cbv
      refine ⟨_, hw, ?_⟩
      cbv
      refine ⟨_, hf, ?_⟩
      cbv
      refine ⟨_, a1, ?_⟩
      cbv
      refine ⟨_, a2, ?_⟩
      cbv
      refine ⟨_, a3, ?_⟩
      cbv
      refine ⟨_, a4, ?_⟩
      cbv
      refine ⟨_, a5, ?_⟩
      cbv
      refine ⟨_, a6, ?_⟩
      cbv
      repeat (first | (simp only [e3]; cbv) | (simp only [e4]; cbv) | simp only [e3] | simp only [e4])
end Go.Proofs.YtadgpchdlkiinaaDoor
