/- Own work: knapsacklaw29.VerifyAppends returns true. -/
import Derived.Test.YtlffpgjkhehdmaaDoorZVA
import Derived.Test.YtlffpgjkhehdmaaDoorZVP8
import Derived.Test.YtlffpgjkhehdmaaDoorZGB
namespace Go.Proofs.YtlffpgjkhehdmaaDoor
open Go.RowKit
set_option maxRecDepth 100000

theorem fewP_len8 {fs : List Fn} {n : Int} (h : fewP fs n = true) : (fs.length : Int) ≤ n := by
  unfold fewP at h
  simp only [Bool.and_eq_true, decide_eq_true_eq] at h
  exact h.1
theorem shapesQ_len8 {fs : List Fn} {i : Int} {l : List Shp} (h : shapesQ fs i = .ok l) : l.length ≤ 65536 := shapesQ_len h
/-- at the heads of the two loops -/
structure Up (n : Nat) (i : Int) : Prop where
  i0 : 0 ≤ i
  i1 : i ≤ n
def ck (b : Bool) : Int := if b then 0 else 11
theorem ck_d (b : Bool) : decide (ck b = 0) = b := by cases b <;> rfl
set_option maxHeartbeats 4000000 in
theorem lvappends_go (p q : List Fn) (sp : ∀ f ∈ p, FnSz f) (sq : ∀ f ∈ q, FnSz f) (hp3 : fewP p 3 = true) (hq3 : fewP q 3 = true) (hp : progF p = true) (hq : progF q = true) : RT 14 [pProg p, pProg q] (pB true) := by
  have ha := awake29_ret
  have n1 := fewP_len8 hp3
  have n2 := fewP_len8 hq3
  have f1 := few_ret p sp 3 (by omega)
  have f2 := few_ret q sq 3 (by omega)
  rw [hp3] at f1
  rw [hq3] at f2
  have hap := append_both sp sq ((progF_iff (by omega)).1 hp) ((progF_iff (by omega)).1 hq) (by omega)
  have sr := app_sz sp sq
  have nr : (appF p q).length = p.length + q.length := app_len
  have c1 := check_ret p sp (by omega)
  have c2 := check_ret q sq (by omega)
  have c3 := check_ret (appF p q) sr (by omega)
  obtain ⟨A, hA⟩ : ∃ b, (p.all fun f => (shapesP f).isSome) = b := ⟨_, rfl⟩
  obtain ⟨B, hB⟩ : ∃ b, (q.all fun f => (shapesP f).isSome) = b := ⟨_, rfl⟩
  have e1 : checkP p = ck A := by unfold checkP ck; rw [if_pos hp, hA]
  have e2 : checkP q = ck B := by unfold checkP ck; rw [if_pos hq, hB]
  have e3 : checkP (appF p q) = ck (A && B) := by rw [app_check hp hq (by omega), hA, hB]; rfl
  rw [e1] at c1
  rw [e2] at c2
  rw [e3] at c3
  have hsh : ∀ i : Int, 0 ≤ i → i < q.length → RT 29 [pProg q, pI i] (pSR (shapesQ q i)) ∧ RT 29 [pProg (appF p q), pI ((p.length : Int) + i)] (pSR (shapesQ q i)) := fun i h0 h1 => by
    refine ⟨shapesV_ret q sq (by omega) i, ?_⟩
    have := shapesV_ret (appF p q) sr (by omega) ((p.length : Int) + i)
    rwa [app_shapes hp hq (by omega) i h0 h1] at this
  have hl1 : (pFns p).length = p.length := by simp [pFns]
  have hl2 : (pFns q).length = q.length := by simp [pFns]
  obtain ⟨m1, hm1⟩ : ∃ n, p.length = n := ⟨_, rfl⟩
  obtain ⟨m2, hm2⟩ : ∃ n, q.length = n := ⟨_, rfl⟩
  rw [hm1] at hl1 hsh n1
  rw [hm2] at hl2 hsh n2
  clear nr e1 e2 e3 sr
  unfold pProg at *
  generalize pFns p = F1 at *
  generalize pFns q = F2 at *
  generalize pFns (appF p q) = F3 at *
  have hlx : ∀ i l, shapesQ q i = .ok l → l.length ≤ 65536 := fun i l h => shapesQ_len8 h
  generalize shapesQ q = SQ at *
  have k1 := ck_d A
  have k2 := ck_d B
  have k3 := ck_d (A && B)
  generalize ck A = c1v at *
  generalize ck B = c2v at *
  generalize ck (A && B) = c3v at *
  clear sp sq hp3 hq3 hp hq hA hB hm1 hm2
  obtain ⟨μ, hμ⟩ : ∃ μ : Int → Nat, ∀ i, μ i = 100000 - i.toNat := ⟨_, fun _ => rfl⟩
  refine ret_cut tyT_ok tabs_gr (f := 14) Tryd.func14 rfl (by kernel_rfl) (of_decide_eq_true (by kernel_rfl)) ?_
  refine Seg.cutK 5 94 [2, 3, 5] 3 (fun _ : Unit => [.own 0 0, .own 1 0, .own 2 0]) (fun _ => [some (.box [.p (.ro 7 F1)] 33 none), some (.box [.p (.ro 7 F2)] 33 none), some (.box [.p (.ro 7 F3)] 33 none)]) (fun _ => True) tyT_ok mixed (fun n => match n with | 6 => 12 | 18 => 9 | _ => 0) (fun E => retQ E tyT Tryd.f14.results.toList (pB true)) (by kernel_rfl) ?_ ?_
  · cases A
    · intro P G E hc hMM hE
      replace ha := hc _ _ _ ha
      replace f1 := hc _ _ _ f1
      replace f2 := hc _ _ _ f2
      replace hap := hc _ _ _ hap
      replace c1 := hc _ _ _ c1
      replace c2 := hc _ _ _ c2
      replace c3 := hc _ _ _ c3
      replace k3 : decide (c3v = 0) = false := k3
      clear hsh hl1 hl2 hlx
      cbv
      repeat (first | (refine ⟨_, ha, ?_⟩; cbv) | (refine ⟨_, f1, ?_⟩; cbv) | (refine ⟨_, f2, ?_⟩; cbv) | (refine ⟨_, hap, ?_⟩; cbv) | (refine ⟨_, c1, ?_⟩; cbv) | (refine ⟨_, c2, ?_⟩; cbv) | (refine ⟨_, c3, ?_⟩; cbv) | (simp only [k1]; cbv) | simp only [k1] | (simp only [k2]; cbv) | simp only [k2] | (simp only [k3]; cbv) | simp only [k3])
      exact .mk () ⟨rfl, rfl, rfl, rfl, rfl⟩ trivial
    · cases B
      · intro P G E hc hMM hE
        replace ha := hc _ _ _ ha
        replace f1 := hc _ _ _ f1
        replace f2 := hc _ _ _ f2
        replace hap := hc _ _ _ hap
        replace c1 := hc _ _ _ c1
        replace c2 := hc _ _ _ c2
        replace c3 := hc _ _ _ c3
        replace k3 : decide (c3v = 0) = false := k3
        clear hsh hl1 hl2 hlx
        cbv
        repeat (first | (refine ⟨_, ha, ?_⟩; cbv) | (refine ⟨_, f1, ?_⟩; cbv) | (refine ⟨_, f2, ?_⟩; cbv) | (refine ⟨_, hap, ?_⟩; cbv) | (refine ⟨_, c1, ?_⟩; cbv) | (refine ⟨_, c2, ?_⟩; cbv) | (refine ⟨_, c3, ?_⟩; cbv) | (simp only [k1]; cbv) | simp only [k1] | (simp only [k2]; cbv) | simp only [k2] | (simp only [k3]; cbv) | simp only [k3])
        exact .mk () ⟨rfl, rfl, rfl, rfl, rfl⟩ trivial
      · intro P G E hc hMM hE
        replace ha := hc _ _ _ ha
        replace f1 := hc _ _ _ f1
        replace f2 := hc _ _ _ f2
        replace hap := hc _ _ _ hap
        replace c1 := hc _ _ _ c1
        replace c2 := hc _ _ _ c2
        replace c3 := hc _ _ _ c3
        replace k3 : decide (c3v = 0) = true := k3
        clear hsh hl1 hl2 hlx
        cbv
        repeat (first | (refine ⟨_, ha, ?_⟩; cbv) | (refine ⟨_, f1, ?_⟩; cbv) | (refine ⟨_, f2, ?_⟩; cbv) | (refine ⟨_, hap, ?_⟩; cbv) | (refine ⟨_, c1, ?_⟩; cbv) | (refine ⟨_, c2, ?_⟩; cbv) | (refine ⟨_, c3, ?_⟩; cbv) | (simp only [k1]; cbv) | simp only [k1] | (simp only [k2]; cbv) | simp only [k2] | (simp only [k3]; cbv) | simp only [k3])
        exact .mk () ⟨rfl, rfl, rfl, rfl, rfl⟩ trivial
  intro _ _
  clear ha f1 f2 hap c1 c2 c3 k1 k2 k3
  have hx0 : Up m2 0 := ⟨Int.le_refl _, Int.natCast_nonneg _⟩
  refine Seg.of tyT_ok mixed (fun n => match n with | 6 => 12 | 18 => 9 | _ => 0) (by kernel_rfl) (fun E => retQ E tyT Tryd.f14.results.toList (pB true)) fun P G E hc hMM hE => ?_
  have elt : ∀ a b, E.lti a b = decide (a < b) := fun a b => by rw [hE]; rfl
  have eofn : ∀ n, E.ofN n = (n : Int) := fun n => by rw [hE]; rfl
  have enat : ∀ i, E.nat i = i.toNat := fun i => by rw [hE]; rfl
  have eple : ∀ a b, a ≤ b → E.ple a b := fun a b h => by rw [hE]; exact h
  have eadd : ∀ a b : Int, -1000000 ≤ a → a ≤ 1000000 → -1000000 ≤ b → b ≤ 1000000 → E.wadd .i64 a b = a + b := fun a b h0 h1 h2 h3 => by rw [hE]; exact wrap_i64_in (by omega) (by omega)
  cbv at hl1 hl2
  cbv
  refine loop_by 94 [2, 3, 5, 7] 3 (fun i : Int => [.own 0 0, .own 1 0, .own 2 0, .p (pI i)]) (fun _ => [some (.box [.p (.ro 7 F1)] 33 none), some (.box [.p (.ro 7 F2)] 33 none), some (.box [.p (.ro 7 F3)] 33 none)]) (Up m2) μ 0 ⟨rfl, rfl, rfl, rfl, rfl⟩ hx0 ?_
  clear hx0
  rintro i ⟨i0, i1⟩
  replace eofn : ∀ n : Nat, E.ofN n = (n : Int) := eofn
  replace n1 : (m1 : Int) ≤ 3 := n1
  replace n2 : (m2 : Int) ≤ 3 := n2
  replace hμ : ∀ i : Int, μ i = 100000 - i.toNat := hμ
  replace hsh : ∀ i : Int, 0 ≤ i → i < (m2 : Int) → RT 29 [.agg [.ro 7 F2], pI i] (pSR (SQ i)) ∧ RT 29 [.agg [.ro 7 F3], pI ((m1 : Int) + i)] (pSR (SQ i)) := hsh
  have dd : E.lti i (E.ofN m2) = decide (i < (m2 : Int)) := by rw [eofn, elt]
  rcases Classical.em (i < (m2 : Int)) with hi | hi
  · rw [decide_eq_true hi] at dd
    obtain ⟨s1, s2⟩ := hsh i i0 hi
    have ei := eadd i 1 (by omega) (by omega) (by omega) (by omega)
    have hM2 : μ (E.wadd .i64 i 1) < μ i := by rw [hμ, hμ, ei]; omega
    have hI2 : Up m2 (E.wadd .i64 i 1) := by rw [ei]; exact ⟨by omega, by omega⟩
    have w1 : E.wadd .i64 (E.ofN m1) i = (m1 : Int) + i := by rw [eofn]; exact eadd _ _ (by omega) (by omega) (by omega) (by omega)
    generalize (m1 : Int) + i = mi at *
    cases hx : SQ i with
    | error e =>
      rw [hx] at s1 s2
      simp only [pSR] at s1 s2
      replace s1 := hc _ _ _ s1
      replace s2 := hc _ _ _ s2
      have u1 : decide (e = e) = true := decide_eq_true rfl
      have u2 : decide (E.ofN 0 = E.ofN 0) = true := decide_eq_true rfl
      have u3 : E.lti 0 (E.ofN 0) = false := by rw [hE]; rfl
      clear hx hsh hlx
      cbv
      repeat (first | (simp only [hl2]; cbv) | simp only [hl2] | (simp only [dd]; cbv) | simp only [dd] | (refine ⟨_, s1, ?_⟩; cbv) | (simp only [hl1]; cbv) | simp only [hl1] | (simp only [w1]; cbv) | simp only [w1] | (refine ⟨_, s2, ?_⟩; cbv) | (simp only [u1]; cbv) | simp only [u1] | (simp only [u2]; cbv) | simp only [u2])
      refine loop_by 94 [2, 3, 5, 7, 8, 12] 3 (fun _ : Unit => [.own 0 0, .own 1 0, .own 2 0, .p (pI i), .p (.v (.slice none 0 0)), .p (pI 0)]) (fun _ => [some (.box [.p (.ro 7 F1)] 33 none), some (.box [.p (.ro 7 F2)] 33 none), some (.box [.p (.ro 7 F3)] 33 none)]) (fun _ => True) (fun _ => 0) () ⟨rfl, rfl, rfl, rfl, rfl⟩ trivial ?_
      intro _ _
      cbv
      repeat (first | (simp only [u3]; cbv) | simp only [u3])
      refine .mk (E.wadd .i64 i 1) ⟨rfl, rfl, rfl, rfl, rfl⟩ ?_ ?_
      · exact hI2
      · exact hM2
    | ok l =>
      rw [hx] at s1 s2
      simp only [pSR] at s1 s2
      have hll := hlx i l hx
      have hlg : ∀ (k : Nat) p, l[k]? = some p → (pSh l)[k]? = some [pI p.1, pI p.2] := fun k p h => pSh_get h
      have hpl : (pSh l).length = l.length := by simp [pSh]
      obtain ⟨nl, hnl⟩ : ∃ n, l.length = n := ⟨_, rfl⟩
      rw [hnl] at hpl hll
      generalize pSh l = LS at *
      replace s1 := hc _ _ _ s1
      replace s2 := hc _ _ _ s2
      have u2 : decide (E.ofN nl = E.ofN nl) = true := decide_eq_true rfl
      have u1 : decide ((0 : Int) = 0) = true := rfl
      have hy0 : Up nl 0 := ⟨Int.le_refl _, Int.natCast_nonneg _⟩
      clear hx hsh hlx
      cbv at hpl
      cbv
      repeat (first | (simp only [hl2]; cbv) | simp only [hl2] | (simp only [dd]; cbv) | simp only [dd] | (refine ⟨_, s1, ?_⟩; cbv) | (simp only [hl1]; cbv) | simp only [hl1] | (simp only [w1]; cbv) | simp only [w1] | (refine ⟨_, s2, ?_⟩; cbv) | (simp only [hpl]; cbv) | simp only [hpl] | (simp only [u2]; cbv) | simp only [u2])
      refine loop_by 94 [2, 3, 5, 7, 8, 10, 12] 3 (fun j : Int => [.own 0 0, .own 1 0, .own 2 0, .p (pI i), .p (.ro 2 LS), .p (.ro 2 LS), .p (pI j)]) (fun _ => [some (.box [.p (.ro 7 F1)] 33 none), some (.box [.p (.ro 7 F2)] 33 none), some (.box [.p (.ro 7 F3)] 33 none)]) (Up nl) μ 0 ⟨rfl, rfl, rfl, rfl, rfl⟩ hy0 ?_
      clear hy0
      rintro j ⟨j0, j1⟩
      replace eofn : ∀ n : Nat, E.ofN n = (n : Int) := eofn
      replace hnl : l.length = nl := hnl
      replace hll : nl ≤ 65536 := hll
      have d2 : E.lti j (E.ofN nl) = decide (j < (nl : Int)) := by rw [eofn, elt]
      rcases Classical.em (j < (nl : Int)) with hj | hj
      · rw [decide_eq_true hj] at d2
        obtain ⟨x, hx⟩ : ∃ x, l[j.toNat]? = some x := ⟨_, List.getElem?_eq_getElem (by omega)⟩
        have gr := hlg _ _ hx
        rw [← enat] at gr
        obtain ⟨d, s⟩ := x
        simp only at gr
        have p3 := eple 0 j j0
        have ej := eadd j 1 (by omega) (by omega) (by omega) (by omega)
        have hM3 : μ (E.wadd .i64 j 1) < μ j := by rw [hμ, hμ, ej]; omega
        have hI3 : Up nl (E.wadd .i64 j 1) := by rw [ej]; exact ⟨by omega, by omega⟩
        have u3 : decide (d = d) = true := decide_eq_true rfl
        have u4 : decide (s = s) = true := decide_eq_true rfl
        clear hlg hx
        cbv
        repeat (first | (simp only [hpl]; cbv) | simp only [hpl] | (simp only [d2]; cbv) | simp only [d2] | (refine ⟨p3,_,gr, ?_⟩; cbv) | (simp only [u3]; cbv) | simp only [u3] | (simp only [u4]; cbv) | simp only [u4] | (simp only [u3,u4]; cbv) | simp only [u3,u4])
        refine .mk (E.wadd .i64 j 1) ⟨rfl, rfl, rfl, rfl, rfl⟩ ?_ ?_
        · exact hI3
        · exact hM3
      · rw [decide_eq_false hj] at d2
        clear hlg
        cbv
        repeat (first | (simp only [hpl]; cbv) | simp only [hpl] | (simp only [d2]; cbv) | simp only [d2])
        refine .mk (E.wadd .i64 i 1) ⟨rfl, rfl, rfl, rfl, rfl⟩ ?_ ?_
        · exact hI2
        · exact hM2
  · rw [decide_eq_false hi] at dd
    clear hsh hlx
    cbv
    repeat (first | (simp only [hl2]; cbv) | simp only [hl2] | (simp only [dd]; cbv) | simp only [dd])
end Go.Proofs.YtlffpgjkhehdmaaDoor
