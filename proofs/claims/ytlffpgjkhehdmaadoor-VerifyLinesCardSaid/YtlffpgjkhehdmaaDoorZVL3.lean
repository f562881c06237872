/- Own work: knapsacklaw29.VerifyLines returns true. -/
import Derived.Test.YtlffpgjkhehdmaaDoorZVA
import Derived.Test.YtlffpgjkhehdmaaDoorZVP3
import Derived.Test.YtlffpgjkhehdmaaDoorZGB
namespace Go.Proofs.YtlffpgjkhehdmaaDoor
open Go.RowKit
set_option maxRecDepth 100000

abbrev pU (n : Int) : PV := .v (.int .u8 n)
abbrev pNil : PV := .v (.slice none 0 0)
/-- at the heads of the two loops -/
structure LnI (k b : Nat) (y : Int × List (List PV) × Nat) : Prop where
  i0 : 0 ≤ y.1
  i1 : y.1 ≤ b
  code : y.2.1 = pCode (List.replicate k ⟨2, 0, 0⟩ ++ List.replicate y.1.toNat ⟨39, 6, 0⟩)
  n : y.2.2 = k + y.1.toNat
structure LnJ (k : Nat) (y : Int × List (List PV) × Nat) : Prop where
  i0 : 0 ≤ y.1
  i1 : y.1 ≤ k
  code : y.2.1 = pCode (List.replicate y.1.toNat ⟨2, 0, 0⟩)
  n : y.2.2 = y.1.toNat
set_option maxHeartbeats 2000000 in
theorem llines_ret (n b : Int) (hn : 0 ≤ n ∧ n ≤ 255) (hb : 0 ≤ b ∧ b ≤ 255) : RT 11 [pU n, pU b] (pB true) := by
  have ha := awake29_ret
  obtain ⟨a, haa⟩ : ∃ a, n.tmod 60 = a := ⟨_, rfl⟩
  obtain ⟨r, hr⟩ : ∃ a, b.tmod 2 = a := ⟨_, rfl⟩
  have ha0 : 0 ≤ a ∧ a < 60 := by
    rw [← haa, Int.tmod_eq_emod_of_nonneg hn.1]
    omega
  have hr0 : r = 0 ∨ r = 1 := by
    rw [← hr, Int.tmod_eq_emod_of_nonneg hb.1]
    omega
  obtain ⟨k, hk⟩ : ∃ k : Nat, (k : Int) = 1 + a := ⟨(1 + a).toNat, by omega⟩
  obtain ⟨m, hm⟩ : ∃ m : Nat, (m : Int) = k - 1 + r := ⟨((k : Int) - 1 + r).toNat, by omega⟩
  obtain ⟨d, e, hde, hdv⟩ : ∃ d e : Int, pDR (shapesQ [lnFn k m] 0) = .tup [pI d, pI e] ∧ ((r = 0 ∧ d = k ∧ e = 0) ∨ (r = 1 ∧ d = 0 ∧ e = 11)) := by
    rcases hr0 with h | h
    · refine ⟨k, 0, ?_, .inl ⟨h, rfl, rfl⟩⟩
      rw [show m = k - 1 by omega]
      exact ln_deep k (by omega) (by omega)
    · refine ⟨0, 11, ?_, .inr ⟨h, rfl, rfl⟩⟩
      rw [show m = k by omega]
      exact ln_deep1 k (by omega) (by omega)
  have hs := deepest_ret [lnFn k m] (ln_sz k m (by omega)) (by simp) 0
  rw [hde] at hs
  obtain ⟨CD, hCD⟩ : ∃ x, pCode (lnCode k m) = x := ⟨_, rfl⟩
  replace hs : RT 31 [.agg [.ro 7 [[pS ⟨#[]⟩, pI 1, pI 0, pI 0, .ro 3 CD, .ro 3 [], .ro 5 []]]], pI 0] (.tup [pI d, pI e]) := by rw [← hCD]; exact hs
  obtain ⟨K, hK⟩ : ∃ x : Int, (k : Int) = x := ⟨_, rfl⟩
  obtain ⟨M, hM⟩ : ∃ x : Int, (m : Int) = x := ⟨_, rfl⟩
  rw [hK] at hk hm hdv
  rw [hM] at hm
  obtain ⟨μ, hμ⟩ : ∃ μ : Int → Nat, ∀ i, μ i = 1000 - i.toNat := ⟨_, fun _ => rfl⟩
  have hx0 : LnJ k (0, [], 0) := ⟨Int.le_refl _, Int.natCast_nonneg _, rfl, rfl⟩
  refine ret_cut tyT_ok tabs_gr (f := 11) Tryd.func11 rfl (by kernel_rfl) (of_decide_eq_true (by kernel_rfl)) ?_
  refine Seg.cutK 8 78 [1, 5, 6] 1 (fun _ : Unit => [.p (pU b), .p (pI K), .own 0 0]) (fun _ => [some (.box [.p (pS ⟨#[]⟩), .p (pI 1), .p (pI 0), .p (pI 0), .p (.ro 3 CD), .p (.ro 3 []), .p (.ro 5 [])] 50 none)]) (fun _ => True) tyT_ok mixed (fun _ => 0) (fun E => retQ E tyT Tryd.f11.results.toList (pB true)) (by kernel_rfl) ?_ ?_
  · intro P G E hc hMM hE
    replace ha := hc _ _ _ ha
    clear hs hdv hde
    have elt : ∀ a b, E.lti a b = decide (a < b) := fun a b => by rw [hE]; rfl
    have eadd : ∀ a b : Int, -1000000 ≤ a → a ≤ 1000000 → -1000000 ≤ b → b ≤ 1000000 → E.wadd .i64 a b = a + b := fun a b h0 h1 h2 h3 => by rw [hE]; exact wrap_i64_in (by omega) (by omega)
    have ersb : ∀ a b : Int, -1000000 ≤ a → a ≤ 1000000 → -1000000 ≤ b → b ≤ 1000000 → E.wsub .i64 a b = a - b := fun a b h0 h1 h2 h3 => by rw [hE]; exact wrap_i64_in (by omega) (by omega)
    have ewr : ∀ a : Int, -1000000 ≤ a → a ≤ 1000000 → E.wrap .i64 a = a := fun a h0 h1 => by rw [hE]; exact wrap_i64_in (by omega) (by omega)
    have w1 : E.rem n 60 = a := by rw [hE]; exact haa
    have w2 : E.wrap .i64 a = a := ewr a (by omega) (by omega)
    have w3 : E.wadd .i64 1 a = K := by rw [eadd 1 a (by omega) (by omega) (by omega) (by omega)]; omega
    have w4 : E.wsub .i64 K 1 = K - 1 := ersb K 1 (by omega) (by omega) (by omega) (by omega)
    have w5 : E.rem b 2 = r := by rw [hE]; exact hr
    have w6 : E.wrap .i64 r = r := ewr r (by omega) (by omega)
    have w7 : E.wadd .i64 (K - 1) r = M := by rw [eadd (K - 1) r (by omega) (by omega) (by omega) (by omega)]; omega
    obtain ⟨K1, hK1⟩ : ∃ x, K - 1 = x := ⟨_, rfl⟩
    rw [hK1] at w4 w7
    have epre : ∀ (rs : List (List PV)) c, rs.length = c → E.pre 0 c rs := fun rs c h => by rw [hE]; show 0 + c ≤ rs.length; omega
    have eroom : ∀ c : Nat, c ≤ 1000 → E.room c 1 24 := fun c h => by rw [hE]; exact ⟨by unfold maxLen; omega, by omega⟩
    have eapp : ∀ (rs : List (List PV)) c x, rs.length = c → E.app rs c x = rs ++ x := fun rs c x h => by rw [hE]; show rs.take c ++ _ = _; rw [← h, List.take_length]
    have p0 : ∀ x : List PV, E.pre 0 1 [x] := fun x => epre [x] 1 rfl
    have r0 : ∀ x : List PV, E.sub [x] 0 1 = [x] := fun x => by rw [hE]; rfl
    have a2 : ∀ c : Nat, E.addN c 1 = c + 1 := fun c => by rw [hE]; rfl
    have z0 := p0 [pI 2, pI 0, pI 0]
    have z1 := r0 [pI 2, pI 0, pI 0]
    have y0 := p0 [pI 39, pI 6, pI 0]
    have y1 := r0 [pI 39, pI 6, pI 0]
    have x0 := p0 [pI 48, pI 0, pI 0]
    have x1 := r0 [pI 48, pI 0, pI 0]
    cbv
    repeat (first | (refine ⟨_, ha, ?_⟩; cbv) | (simp only [w1]; cbv) | simp only [w1] | (simp only [w2]; cbv) | simp only [w2] | (simp only [w3]; cbv) | simp only [w3])
    refine LoopA.wk (wk_nil (k := 0) (j := 4) 3 54 rfl rfl) ?_
    refine loop_by 78 [1, 5, 6, 7] 2 (fun y : Int × List (List PV) × Nat => [.p (pU b), .p (pI K), .own 0 0, .p (pI y.1)]) (fun y => [some (.box [.p (pS ⟨#[]⟩), .p (pI 1), .p (pI 0), .p (pI 0), .osl 1 0 y.2.2, .p pNil, .p pNil] 50 none), some (.rows 3 y.2.1 54)]) (LnJ k) (fun y => μ y.1) (0, [], 0) ⟨rfl, rfl, rfl, rfl, rfl⟩ hx0 ?_
    clear hx0
    rintro ⟨i, code, c⟩ ⟨i0, i1, hcd, hcn⟩
    simp only at i0 i1 hcd hcn
    replace hK : (k : Int) = K := hK
    replace hM : (m : Int) = M := hM
    have dd := elt i K
    have hcl : code.length = c := by rw [hcd, hcn]; simp [pCode]
    by_cases hi : i < K
    · rw [decide_eq_true hi] at dd
      have ei := eadd i 1 (by omega) (by omega) (by omega) (by omega)
      have hM2 : μ (E.wadd .i64 i 1) < μ i := by rw [hμ, hμ, ei]; omega
      have q1 := epre code c hcl
      have q2 := eroom c (by omega)
      have q3 := eapp code c [[pI 2, pI 0, pI 0]] hcl
      have q4 := a2 c
      obtain ⟨code', hcode'⟩ : ∃ x, code ++ [[pI 2, pI 0, pI 0]] = x := ⟨_, rfl⟩
      obtain ⟨c', hc'⟩ : ∃ x, c + 1 = x := ⟨_, rfl⟩
      rw [hcode'] at q3
      rw [hc'] at q4
      have hI2 : LnJ k (E.wadd .i64 i 1, code', c') := by
        rw [ei]
        refine ⟨by simp only; omega, by simp only; omega, ?_, by simp only; omega⟩
        simp only
        rw [← hcode', hcd, show (i + 1).toNat = i.toNat + 1 by omega, List.replicate_succ']
        unfold pCode
        rw [List.map_append]
        rfl
      clear hcd hcode' hc' hcn hcl
      cbv
      repeat (first | (simp only [dd]; cbv) | simp only [dd] | (refine ⟨z0,q1,q2, ?_⟩; cbv) | (simp only [z1,q3,q4]; cbv) | simp only [z1,q3,q4])
      refine .mk (E.wadd .i64 i 1, code', c') ⟨rfl, rfl, rfl, rfl, rfl⟩ ?_ ?_
      · exact hI2
      · exact hM2
    · rw [decide_eq_false hi] at dd
      have hy0 : LnI k m (0, code, c) := by
        refine ⟨Int.le_refl _, Int.natCast_nonneg _, ?_, ?_⟩
        · simp only
          rw [hcd, show i.toNat = k by omega]
          simp
        · simp only
          omega
      clear hcd hcn hcl
      cbv
      repeat (first | (simp only [dd]; cbv) | simp only [dd] | (simp only [w4]; cbv) | simp only [w4] | (simp only [w5]; cbv) | simp only [w5] | (simp only [w6]; cbv) | simp only [w6] | (simp only [w7]; cbv) | simp only [w7])
      refine loop_by 78 [1, 5, 6, 8, 9] 2 (fun y : Int × List (List PV) × Nat => [.p (pU b), .p (pI K), .own 0 0, .p (pI M), .p (pI y.1)]) (fun y => [some (.box [.p (pS ⟨#[]⟩), .p (pI 1), .p (pI 0), .p (pI 0), .osl 1 0 y.2.2, .p pNil, .p pNil] 50 none), some (.rows 3 y.2.1 54)]) (LnI k m) (fun y => μ y.1) (0, code, c) ⟨rfl, rfl, rfl, rfl, rfl⟩ hy0 ?_
      clear hy0 dd hi i0 i1
      rintro ⟨j, code2, c2⟩ ⟨j0, j1, hcd, hcn⟩
      simp only at j0 j1 hcd hcn
      replace hK : (k : Int) = K := hK
      replace hM : (m : Int) = M := hM
      have dd := elt j M
      have hcl : code2.length = c2 := by rw [hcd, hcn]; simp [pCode]
      have q1 := epre code2 c2 hcl
      have q2 := eroom c2 (by omega)
      have q4 := a2 c2
      obtain ⟨c', hc'⟩ : ∃ x, c2 + 1 = x := ⟨_, rfl⟩
      rw [hc'] at q4
      by_cases hj : j < M
      · rw [decide_eq_true hj] at dd
        have ei := eadd j 1 (by omega) (by omega) (by omega) (by omega)
        have hM2 : μ (E.wadd .i64 j 1) < μ j := by rw [hμ, hμ, ei]; omega
        have q3 := eapp code2 c2 [[pI 39, pI 6, pI 0]] hcl
        obtain ⟨code', hcode'⟩ : ∃ x, code2 ++ [[pI 39, pI 6, pI 0]] = x := ⟨_, rfl⟩
        rw [hcode'] at q3
        have hI2 : LnI k m (E.wadd .i64 j 1, code', c') := by
          rw [ei]
          refine ⟨by simp only; omega, by simp only; omega, ?_, by simp only; omega⟩
          simp only
          rw [← hcode', hcd, show (j + 1).toNat = j.toNat + 1 by omega, List.replicate_succ', ← List.append_assoc]
          unfold pCode
          rw [List.map_append (l₂ := [_])]
          rfl
        clear hcd hcode' hc' hcn hcl
        cbv
        repeat (first | (simp only [dd]; cbv) | simp only [dd] | (refine ⟨y0,q1,q2, ?_⟩; cbv) | (simp only [y1,q3,q4]; cbv) | simp only [y1,q3,q4])
        refine .mk (E.wadd .i64 j 1, code', c') ⟨rfl, rfl, rfl, rfl, rfl⟩ ?_ ?_
        · exact hI2
        · exact hM2
      · rw [decide_eq_false hj] at dd
        have q3 := eapp code2 c2 [[pI 48, pI 0, pI 0]] hcl
        obtain ⟨code', hcode'⟩ : ∃ x, code2 ++ [[pI 48, pI 0, pI 0]] = x := ⟨_, rfl⟩
        rw [hcode'] at q3
        have hl' : c' ≤ code'.length := by rw [← hcode', List.length_append, hcl, ← hc']; exact Nat.le_refl _
        have he' : code'.take c' = CD := by
          rw [List.take_of_length_le (by rw [← hcode', List.length_append, hcl, ← hc']; exact Nat.le_refl _), ← hcode', hcd, ← hCD]
          unfold lnCode
          rw [show j.toNat = m by omega]
          unfold pCode
          rw [List.map_append (l₂ := [_])]
          rfl
        clear hcd hcode' hc' hcn hcl hCD
        cbv
        repeat (first | (simp only [dd]; cbv) | simp only [dd] | (refine ⟨x0,q1,q2, ?_⟩; cbv) | (simp only [x1,q3,q4]; cbv) | simp only [x1,q3,q4])
        exact .wk () _ _ ((wk_frzE (k := 0) (j := 4) rfl rfl rfl hl' he').trans ((wk_cell (k := 0) (j := 5) rfl rfl (nil_ro 3)).trans (wk_cell (k := 0) (j := 6) rfl rfl (nil_ro 5)))) ⟨rfl, rfl, rfl, rfl, rfl⟩ trivial
  · intro _ _
    refine Seg.of tyT_ok mixed (fun _ => 0) (by kernel_rfl) (fun E => retQ E tyT Tryd.f11.results.toList (pB true)) fun P G E hc hMM hE => ?_
    replace hs := hc _ _ _ hs
    have p0 : ∀ x : List PV, E.pre 0 1 [x] := fun x => by rw [hE]; show 0 + 1 ≤ 1; omega
    have r0 : ∀ x : List PV, E.sub [x] 0 1 = [x] := fun x => by rw [hE]; rfl
    have w5 : E.rem b 2 = r := by rw [hE]; exact hr
    have z0 := p0 [pS ⟨#[]⟩, pI 1, pI 0, pI 0, .ro 3 CD, .ro 3 [], .ro 5 []]
    have z1 := r0 [pS ⟨#[]⟩, pI 1, pI 0, pI 0, .ro 3 CD, .ro 3 [], .ro 5 []]
    rw [← z1] at hs
    clear hde hCD hx0
    cbv
    refine .inl ⟨z0, _, hs, ?_⟩
    cbv
    simp only [w5]
    rcases hdv with ⟨rfl, rfl, rfl⟩ | ⟨rfl, rfl, rfl⟩
    · cbv
    · cbv
theorem wfu8 {x : Int} (h : (Lit.int .u8 x).wf = true) : 0 ≤ x ∧ x ≤ 255 := by
  have e1 : IntKind.u8.min = 0 := by decide
  have e2 : IntKind.u8.max = 255 := by decide
  simp only [Lit.wf, e1, e2, Bool.and_eq_true, decide_eq_true_eq] at h
  exact h
end Go.Proofs.YtlffpgjkhehdmaaDoor
