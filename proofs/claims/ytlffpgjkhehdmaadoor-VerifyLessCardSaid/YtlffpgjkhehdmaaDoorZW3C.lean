/- Own work: package verify: visit, one of its four ways. -/
import Derived.Test.YtlffpgjkhehdmaaDoorZGJ
namespace Go.Proofs.YtlffpgjkhehdmaaDoor
open Go.RowKit
set_option maxRecDepth 100000

set_option maxHeartbeats 4000000 in
theorem visit_tn (f : WF) (hs : List Hd) (st : WS2) (hq : f.q6 = .ro 5 (pHds hs)) (hhs : hs.length ≤ 10000) (hh : ∀ h ∈ hs, HdOk h) (hl : f.code.length = st.sh.length) (hst : st.op.length ≤ 80000) (i op a b d s : Int) (hi : 0 ≤ i) (hi2 : i ≤ 100000) (hrow : f.code[i.toNat]? = some [pI op, pI a, pI b]) (hsh : st.sh[i.toNat]? = some (d, s))
    (h0 : 1 ≤ op) (h1 : op ≤ 53) (ha0 : 0 ≤ a) (_ha1 : a ≤ 100000) (hd0 : 0 ≤ d) (hd1 : d ≤ 10000) (hs0 : 0 ≤ s) (hs1 : s ≤ 1000) (hp0 : 0 ≤ popsOf op ∧ popsOf op ≤ 10) (hpu0 : -100 ≤ pushesOf op ∧ pushesOf op ≤ 100) (hjp0 : -100 ≤ jmpOf op ∧ jmpOf op ≤ 100) (hcn : cntOf op = false) (hjm : decide (operandOf op = 7) = true) (ht : takesP op a ≤ d) (hg : true = false ∨ op = 40 ∨ 1 ≤ d) (h40 : op ≠ 40) :
    VM 65 [.own 0 0, .p (pI i)] (walkS f st) (resR (visitP hs i op a d s st)) (resH f (visitP hs i op a d s st)) := by
  have hv : visitP hs i op a d s st = (hdlsP i (d - takesP op a) s st hs).bind (restP i op a d s) := by
    unfold visitP
    rw [if_pos]
    refine ⟨ht, ?_⟩
    rcases hg with h | h | h
    · cases h
    · exact .inr (.inl h)
    · exact .inr (.inr h)
  rw [hv]
  have dr := describe_ret op h0 h1
  have dt := demand_true
  have df := demand_false
  have hrow2 := pSh_get hsh
  have hil : i.toNat < f.code.length := (List.getElem?_eq_some_iff.1 hrow).1
  unfold pInfo at dr
  rw [hcn] at dr
  obtain ⟨tk, htk⟩ : ∃ t, takesP op a = t := ⟨_, rfl⟩
  obtain ⟨od, hod⟩ : ∃ t, operandOf op = t := ⟨_, rfl⟩
  obtain ⟨pp, hpp⟩ : ∃ t, popsOf op = t := ⟨_, rfl⟩
  have htk2 : tk = pp := by rw [← htk, ← hpp]; unfold takesP; rw [hcn]; rfl
  rw [htk] at ht ⊢
  rw [hod] at dr hjm
  rw [hpp] at dr hp0
  obtain ⟨rest, hrest⟩ : ∃ r, restP i op a d s = r := ⟨_, rfl⟩
  rw [hrest]
  obtain ⟨o, ho⟩ : ∃ o, (hdlsP i (d - tk) s st hs).bind rest = o := ⟨_, rfl⟩
  rw [ho]
  obtain ⟨rr, hrr⟩ : ∃ x, resR o = x := ⟨_, rfl⟩
  obtain ⟨HH, hHH⟩ : ∃ x, resH f o = x := ⟨_, rfl⟩
  rw [hrr, hHH]
  obtain ⟨nm, hnm⟩ : ∃ t, nameOf op = t := ⟨_, rfl⟩
  obtain ⟨pu, hpu⟩ : ∃ t, pushesOf op = t := ⟨_, rfl⟩
  obtain ⟨jp, hjp⟩ : ∃ t, jmpOf op = t := ⟨_, rfl⟩
  obtain ⟨en, hen⟩ : ∃ t, endsOf op = t := ⟨_, rfl⟩
  rw [hnm, hpu, hjp, hen] at dr
  rw [hpu] at hpu0
  rw [hjp] at hjp0
  have hrst : ∀ st1, rest st1 = (scopeP op s).bind fun sc => (if en then some st1 else reachP st1 (i + 1) (d - tk + pu, sc)).bind fun st => reachP st a (d + jp, s) := fun st1 => by
    rw [← hrest]
    unfold restP
    rw [htk, hpu, hjp, hen, hod]
    have : od = 7 := of_decide_eq_true hjm
    simp only [if_pos this]
  skip
  unfold walkS walkH
  rw [hq]
  obtain ⟨shr, hshr⟩ : ∃ x, pSh st.sh = x := ⟨_, rfl⟩
  obtain ⟨opr, hopr⟩ : ∃ x, pOp st.op = x := ⟨_, rfl⟩
  obtain ⟨n, hn⟩ : ∃ n, st.sh.length = n := ⟨_, rfl⟩
  obtain ⟨m, hm⟩ : ∃ n, st.op.length = n := ⟨_, rfl⟩
  have hHl : (pHds hs).length = hs.length := by simp [pHds]
  have hHg : ∀ (k : Nat) h, hs[k]? = some h → (pHds hs)[k]? = some (pHd h) := fun k h e => by rw [pHds, List.getElem?_map, e]; rfl
  obtain ⟨HR, hHR⟩ : ∃ x, pHds hs = x := ⟨_, rfl⟩
  obtain ⟨nH, hnH⟩ : ∃ n, hs.length = n := ⟨_, rfl⟩
  rw [hshr] at hrow2
  rw [hHR] at hHl hHg
  rw [hnH] at hHl
  rw [hshr, hopr, hn, hm, hHR]
  obtain ⟨μ, hμ⟩ : ∃ μ : Int → Nat, ∀ i, μ i = 20000 - i.toNat := ⟨_, fun _ => rfl⟩
  have hx0 : HdI f hs i (d - tk) s rest o m (0, shr, opr, m) := ⟨Int.le_refl _, Int.natCast_nonneg _, st, hshr.symm, hopr.symm, hm.symm, by rw [hn]; rw [← hn]; exact hl.symm, Nat.le_of_eq hm, ho⟩
  obtain rfl : tk = pp := htk2
  have g40 : decide (op = 40) = false := decide_eq_false h40
  have h1d : 1 ≤ d := by
    rcases hg with h | h | h
    · cases h
    · exact absurd h h40
    · exact h
  refine retm_by3 tyT_ok mixed (fun n => match n with | 0 => 19 | _ => 0) Tryd.func65 rfl (by kernel_rfl) (by kernel_rfl) rfl fun P G E hc hM hE t0 t1 t2 => ?_
  replace dt := hc _ _ _ dt
  replace df := hc _ _ _ df
  replace dr := hc _ _ _ dr
  have p1 : E.ple 0 i := by rw [hE]; exact hi
  have p2 : E.plt i (E.ofN n) := by rw [hE]; show i < (n : Int); omega
  have e1 : E.addN 0 (E.nat i) = i.toNat := by rw [hE]; exact Nat.zero_add _
  have e2 : E.nat i = i.toNat := by rw [hE]; rfl
  have r1 : f.code[E.nat i]? = some [pI op, pI a, pI b] := by rw [e2]; exact hrow
  have r2 : shr[E.addN 0 (E.nat i)]? = some [pI d, pI s] := by rw [e1]; exact hrow2
  have c1 : E.lei tk d = true := by rw [hE]; exact decide_eq_true ht
  have elt : ∀ a b, E.lti a b = decide (a < b) := fun a b => by rw [hE]; rfl
  have ele : ∀ a b, E.lei a b = decide (a ≤ b) := fun a b => by rw [hE]; rfl
  have eofn : ∀ n, E.ofN n = (n : Int) := fun n => by rw [hE]; rfl
  have enat : ∀ i, E.nat i = i.toNat := fun i => by rw [hE]; rfl
  have eple : ∀ a b, a ≤ b → E.ple a b := fun a b h => by rw [hE]; exact h
  have eadd : ∀ a b : Int, -1000000 ≤ a → a ≤ 1000000 → -1000000 ≤ b → b ≤ 1000000 → E.wadd .i64 a b = a + b := fun a b h0 h1 h2 h3 => by rw [hE]; exact wrap_i64_in (by omega) (by omega)
  have esb : ∀ a b : Int, -1000000 ≤ a → a ≤ 1000000 → -1000000 ≤ b → b ≤ 1000000 → E.wsub .i64 a b = a - b := fun a b h0 h1 h2 h3 => by rw [hE]; exact wrap_i64_in (by omega) (by omega)
  have edt := esb d tk (by omega) (by omega) (by omega) (by omega)
  obtain ⟨lim, hlim⟩ : ∃ x, d - tk = x := ⟨_, rfl⟩
  rw [hlim] at edt hx0
  clear ho
  have l1d : E.lei 1 d = true := by rw [hE]; exact decide_eq_true h1d
  cbv at hHl
  cbv
  repeat (first | (refine ⟨p1, _, r1, ?_⟩; cbv) | (refine ⟨p1, p2, ?_⟩; cbv) | (refine ⟨_, r2, ?_⟩; cbv) | (refine ⟨_, dr, ?_⟩; cbv) | (simp only [hjm]; cbv) | (simp only [c1]; cbv) | (refine ⟨_, dt, ?_⟩; cbv) | (simp only [hHl]; cbv) | (simp only [g40]; cbv) | (simp only [l1d]; cbv))
  refine loop_by 158 [0, 1, 4, 5, 6, 8, 9, 67, 68, 69] 6 (fun y : Int × List (List PV) × List (List PV) × Nat => [.own 0 0, .p (pI i), .own 3 0, .own 4 0, .own 5 0, .p (pI tk), .p (pB true), .p (.ro 5 HR), .p (pI (E.ofN nH)), .p (pI y.1)]) (fun y => [some (.box [.p f.q0, .p f.q1, .p f.q2, .p f.q3, .p (.ro 3 f.code), .p f.q5, .p (.ro 5 HR), .osl 1 0 n, .osl 2 0 y.2.2.2] 115 (some t0)), some (.rows 2 y.2.1 52), some (.rows 1 y.2.2.1 3), some (.box [.p (pI op), .p (pI a), .p (pI b)] 54 none), some (.box [.p (pI d), .p (pI s)] 52 none), some (.box [.p (.v (.string nm)), .p (pI od), .p (pI tk), .p (pI pu), .p (pB false), .p (pI jp), .p (pB en)] 24 none)]) (HdI f hs i lim s rest o m) (fun y => μ y.1) (0, shr, opr, m) ⟨rfl, rfl, rfl, rfl, rfl⟩ hx0 ?_
  clear hx0
  rintro ⟨j, sh1, op1, m1⟩ hI
  obtain ⟨j0, j1, st1, hs1', hs2, hs3, hs4, hs5, hs6⟩ := hI
  simp only at j0 j1 hs1' hs2 hs3 hs4 hs5 hs6
  replace hnH : hs.length = nH := hnH
  replace hhs : hs.length ≤ 10000 := hhs
  replace hn : st.sh.length = n := hn
  replace hm : st.op.length = m := hm
  replace hst : st.op.length ≤ 80000 := hst
  replace hl : f.code.length = st.sh.length := hl
  have dd : E.lti j (E.ofN nH) = decide (j < (nH : Int)) := by rw [eofn, elt]
  by_cases hj : j < (nH : Int)
  · rw [decide_eq_true hj] at dd
    obtain ⟨hd, hdx⟩ : ∃ h, hs[j.toNat]? = some h := ⟨_, List.getElem?_eq_getElem (by omega)⟩
    have hok := hh hd (List.mem_of_getElem? hdx)
    have gr := hHg _ _ hdx
    rw [← enat] at gr
    obtain ⟨lo, hi', tg, dp, sc⟩ := hd
    replace gr : HR[E.nat j]? = some [pI lo, pI hi', pI tg, pI dp, pI sc] := gr
    have p3 := eple 0 j j0
    have ej := eadd j 1 (by omega) (by omega) (by omega) (by omega)
    have hM2 : μ (E.wadd .i64 j 1) < μ j := by rw [hμ, hμ, ej]; omega
    obtain ⟨k1, k2⟩ := List.getElem?_eq_some_iff.1 hdx
    rw [List.drop_eq_getElem_cons k1, k2] at hs6
    have ej2 : (j + 1).toNat = j.toNat + 1 := by omega
    have hnext : ∀ st2 : WS2, hdlP i lim s st1 ⟨lo, hi', tg, dp, sc⟩ = some st2 → st2.sh.length = st1.sh.length ∧ st2.op.length ≤ st1.op.length + 1 → HdI f hs i lim s rest o m (E.wadd .i64 j 1, pSh st2.sh, pOp st2.op, st2.op.length) := fun st2 h1 h2 => by
      rw [ej]
      refine ⟨by simp only; omega, by simp only; omega, st2, rfl, rfl, rfl, by omega, by simp only; omega, ?_⟩
      simp only [ej2]
      rw [← hs6]
      simp only [hdlsP, h1, Option.bind_some]
    have q1 := ele lo i
    have q2 := elt i hi'
    have htg := hok.tg
    have hdp0 := hok.dp0
    have hdp1 := hok.dp1
    simp only at htg hdp0 hdp1
    clear hdx k2 hok
    by_cases hr1 : lo ≤ i ∧ i < hi'
    · rw [decide_eq_true hr1.1] at q1
      rw [decide_eq_true hr1.2] at q2
      have q3 := ele dp lim
      have q4 := ele sc s
      by_cases hr2 : dp ≤ lim ∧ sc ≤ s
      · rw [decide_eq_true hr2.1] at q3
        rw [decide_eq_true hr2.2] at q4
        have hP : hdlP i lim s st1 ⟨lo, hi', tg, dp, sc⟩ = reachP st1 tg (dp + 1, sc) := by
          unfold hdlP
          rw [if_pos hr1, if_pos hr2]
        have ew := eadd dp 1 (by omega) (by omega) (by omega) (by omega)
        cases hR : reachP st1 tg (dp + 1, sc) with
        | none =>
          have ho' : o = none := by rw [← hs6]; simp only [hdlsP, hP, hR, Option.bind_none]
          have rc := hM _ _ _ _ _ (reach_none hR hs4.symm (by omega) htg)
          unfold walkS walkH at rc
          rw [hq, hHR, ← hs1', ← hs2, hs4, ← hs3, hl, hn] at rc
          obtain rfl : rr = .p (.pan unsafeCh) := by rw [← hrr, ho']; rfl
          obtain rfl : HH = panH := by rw [← hHH, ho']; rfl
          clear hnext hs6 hs1' hs2 hs3 hrr hHH ho'
          generalize dp + 1 = dq at *
          cbv
          repeat (first | (simp only [dd]; cbv) | simp only [dd] | (refine ⟨p3, ?_⟩; cbv) | (refine ⟨_, gr, ?_⟩; cbv) | (simp only [q1]; cbv) | simp only [q1] | (simp only [q2]; cbv) | simp only [q2] | (simp only [edt]; cbv) | simp only [edt] | (simp only [q3]; cbv) | simp only [q3] | (simp only [q4]; cbv) | simp only [q4] | (refine ⟨_, dt, ?_⟩; cbv) | (simp only [ew]; cbv) | simp only [ew])
          refine .mk _ _ (Wk.refl _ _) [0, 1, 2] _ _ _ _ rc rfl rfl rfl ?_
          cbv
        | some st2 =>
          have hI2 := hnext st2 (hP.trans hR) (reach_len hR)
          have rc := hM _ _ _ _ _ (reach_some hR hs4.symm (by omega) htg)
          have hl2 := (reach_len hR).1
          unfold walkS walkH at rc
          rw [hq, hHR, ← hs1', ← hs2, ← hs3, hl2, hs4, hl, hn] at rc
          obtain ⟨sh2, hsh2⟩ : ∃ x, pSh st2.sh = x := ⟨_, rfl⟩
          obtain ⟨op2, hop2⟩ : ∃ x, pOp st2.op = x := ⟨_, rfl⟩
          obtain ⟨m2, hm2⟩ : ∃ x, st2.op.length = x := ⟨_, rfl⟩
          rw [hsh2, hop2, hm2] at rc
          rw [hsh2, hop2, hm2] at hI2
          clear hnext hs6 hs1' hs2 hs3
          generalize dp + 1 = dq at *
          cbv
          repeat (first | (simp only [dd]; cbv) | simp only [dd] | (refine ⟨p3, ?_⟩; cbv) | (refine ⟨_, gr, ?_⟩; cbv) | (simp only [q1]; cbv) | simp only [q1] | (simp only [q2]; cbv) | simp only [q2] | (simp only [edt]; cbv) | simp only [edt] | (simp only [q3]; cbv) | simp only [q3] | (simp only [q4]; cbv) | simp only [q4] | (refine ⟨_, dt, ?_⟩; cbv) | (simp only [ew]; cbv) | simp only [ew])
          refine .mk _ _ (Wk.refl _ _) [0, 1, 2] _ _ _ _ rc rfl rfl rfl ?_
          cbv
          refine .mk (E.wadd .i64 j 1, sh2, op2, m2) ⟨rfl, rfl, rfl, rfl, rfl⟩ ?_ ?_
          · exact hI2
          · exact hM2
      · have hP : hdlP i lim s st1 ⟨lo, hi', tg, dp, sc⟩ = none := by
          unfold hdlP
          rw [if_pos hr1, if_neg hr2]
        have ho' : o = none := by rw [← hs6]; simp only [hdlsP, hP, Option.bind_none]
        obtain rfl : rr = .p (.pan unsafeCh) := by rw [← hrr, ho']; rfl
        obtain rfl : HH = panH := by rw [← hHH, ho']; rfl
        clear hnext hs6 hs1' hs2 hs3 hrr hHH ho'
        by_cases hr3 : dp ≤ lim
        · rw [decide_eq_true hr3] at q3
          rw [decide_eq_false (fun h => hr2 ⟨hr3, h⟩)] at q4
          cbv
          repeat (first | (simp only [dd]; cbv) | simp only [dd] | (refine ⟨p3, ?_⟩; cbv) | (refine ⟨_, gr, ?_⟩; cbv) | (simp only [q1]; cbv) | simp only [q1] | (simp only [q2]; cbv) | simp only [q2] | (simp only [edt]; cbv) | simp only [edt] | (simp only [q3]; cbv) | simp only [q3] | (simp only [q4]; cbv) | simp only [q4] | (refine ⟨_, df, ?_⟩; cbv))
        · rw [decide_eq_false hr3] at q3
          cbv
          repeat (first | (simp only [dd]; cbv) | simp only [dd] | (refine ⟨p3, ?_⟩; cbv) | (refine ⟨_, gr, ?_⟩; cbv) | (simp only [q1]; cbv) | simp only [q1] | (simp only [q2]; cbv) | simp only [q2] | (simp only [edt]; cbv) | simp only [edt] | (simp only [q3]; cbv) | simp only [q3] | (refine ⟨_, df, ?_⟩; cbv))
    · have hP : hdlP i lim s st1 ⟨lo, hi', tg, dp, sc⟩ = some st1 := by
        unfold hdlP
        rw [if_neg hr1]
      have hI2 := hnext st1 hP ⟨rfl, Nat.le_succ _⟩
      rw [← hs1', ← hs2, ← hs3] at hI2
      clear hnext hs6 hs1' hs2 hs3
      by_cases hr3 : lo ≤ i
      · rw [decide_eq_true hr3] at q1
        rw [decide_eq_false (fun h => hr1 ⟨hr3, h⟩)] at q2
        cbv
        repeat (first | (simp only [dd]; cbv) | simp only [dd] | (refine ⟨p3, ?_⟩; cbv) | (refine ⟨_, gr, ?_⟩; cbv) | (simp only [q1]; cbv) | simp only [q1] | (simp only [q2]; cbv) | simp only [q2])
        refine .mk (E.wadd .i64 j 1, sh1, op1, m1) ⟨rfl, rfl, rfl, rfl, rfl⟩ ?_ ?_
        · exact hI2
        · exact hM2
      · rw [decide_eq_false hr3] at q1
        cbv
        repeat (first | (simp only [dd]; cbv) | simp only [dd] | (refine ⟨p3, ?_⟩; cbv) | (refine ⟨_, gr, ?_⟩; cbv) | (simp only [q1]; cbv) | simp only [q1])
        refine .mk (E.wadd .i64 j 1, sh1, op1, m1) ⟨rfl, rfl, rfl, rfl, rfl⟩ ?_ ?_
        · exact hI2
        · exact hM2
  · rw [decide_eq_false hj] at dd
    rw [List.drop_eq_nil_of_le (by omega)] at hs6
    simp only [hdlsP, Option.bind_some] at hs6
    rw [hrst, hlim] at hs6
    have o19 : ∀ k : Int, op ≠ k → decide (op = k) = false := fun k h => decide_eq_false h
    have ls := ele 1 s
    have ws1 := eadd s 1 (by omega) (by omega) (by omega) (by omega)
    have ws2 := esb s 1 (by omega) (by omega) (by omega) (by omega)
    have wi := eadd i 1 (by omega) (by omega) (by omega) (by omega)
    have wl := eadd lim pu (by omega) (by omega) (by omega) (by omega)
    have wj := eadd d jp (by omega) (by omega) (by omega) (by omega)
    have hi1 : 0 ≤ i + 1 := by omega
    have hob : st1.op.length ≤ 95000 := by omega
    clear hnH hhs hHg hHl hrst dr r1 r2 p2
    by_cases e19 : op = 19
    · have g19 : decide (op = 19) = true := decide_eq_true e19
      have hsc : scopeP op s = some (s + 1) := if_pos e19
      rw [hsc, Option.bind_some] at hs6
      obtain ⟨sc, hsce⟩ : ∃ x, s + 1 = x := ⟨_, rfl⟩
      rw [hsce] at hs6 ws1
      cases en
      · simp only [Bool.false_eq_true, if_false] at hs6
        cases hR : reachP st1 (i + 1) (lim + pu, sc) with
        | none =>
          rw [hR, Option.bind_none] at hs6
          have rc := hM _ _ _ _ _ (reach_none hR hs4.symm (by omega) hi1)
          unfold walkS walkH at rc
          rw [hq, hHR, ← hs1', ← hs2, hs4, ← hs3, hl, hn] at rc
          obtain rfl : rr = .p (.pan unsafeCh) := by rw [← hrr, ← hs6]; rfl
          obtain rfl : HH = panH := by rw [← hHH, ← hs6]; rfl
          clear hs6 hs1' hs2 hs3 hrr hHH
          generalize lim + pu = ld at *
          generalize i + 1 = ii at *
          cbv
          repeat (first | (simp only [dd]; cbv) | simp only [dd] | (simp only [g19]; cbv) | simp only [g19] | (simp only [ws1]; cbv) | simp only [ws1] | (simp only [edt]; cbv) | simp only [edt] | (simp only [wi]; cbv) | simp only [wi] | (simp only [wl]; cbv) | simp only [wl])
          refine .mk _ _ (Wk.refl _ _) [0, 1, 2] _ _ _ _ rc rfl rfl rfl ?_
          cbv
        | some st2 =>
          rw [hR, Option.bind_some] at hs6
          have rc := hM _ _ _ _ _ (reach_some hR hs4.symm (by omega) hi1)
          have hl2 := (reach_len hR).1
          have hl3 := (reach_len hR).2
          unfold walkS walkH at rc
          rw [hq, hHR, ← hs1', ← hs2, ← hs3, hl2, hs4, hl, hn] at rc
          obtain ⟨sh2, hsh2⟩ : ∃ x, pSh st2.sh = x := ⟨_, rfl⟩
          obtain ⟨op2, hop2⟩ : ∃ x, pOp st2.op = x := ⟨_, rfl⟩
          obtain ⟨m2, hm2⟩ : ∃ x, st2.op.length = x := ⟨_, rfl⟩
          rw [hsh2, hop2, hm2] at rc
          have hn2 : st2.sh.length = n := by omega
          clear hs1' hs2 hs3
          generalize lim + pu = ld at *
          generalize i + 1 = ii at *
          have hwalk2 : walkS f st2 = [some (.box [.p f.q0, .p f.q1, .p f.q2, .p f.q3, .p (.ro 3 f.code), .p f.q5, .p (.ro 5 HR), .osl 1 0 n, .osl 2 0 m2] 115 none), some (.rows 2 sh2 52), some (.rows 1 op2 3)] := by
            unfold walkS walkH
            rw [hq, hHR, hsh2, hop2, hm2, hn2]
          have hl4 : f.code.length = st2.sh.length := by omega
          have hob2 : st2.op.length ≤ 100000 := by omega
          cases hR3 : reachP st2 a (d + jp, s) with
          | none =>
            have ho' : o = none := by rw [← hs6, hR3]
            have rc2 := hM _ _ _ _ _ (reach_none hR3 hl4 hob2 ha0)
            rw [hwalk2] at rc2
            obtain rfl : rr = .p (.pan unsafeCh) := by rw [← hrr, ho']; rfl
            obtain rfl : HH = panH := by rw [← hHH, ho']; rfl
            clear hs6 hrr hHH ho'
            generalize d + jp = dj at *
            cbv
            repeat (first | (simp only [dd]; cbv) | simp only [dd] | (simp only [g19]; cbv) | simp only [g19] | (simp only [ws1]; cbv) | simp only [ws1] | (simp only [edt]; cbv) | simp only [edt] | (simp only [wi]; cbv) | simp only [wi] | (simp only [wl]; cbv) | simp only [wl])
            refine .mk _ _ (Wk.refl _ _) [0, 1, 2] _ _ _ _ rc rfl rfl rfl ?_
            cbv
            repeat (first | (simp only [wj]; cbv) | simp only [wj])
            refine .mk _ _ (Wk.refl _ _) [0, 1, 2] _ _ _ _ rc2 rfl rfl rfl ?_
            cbv
          | some st3 =>
            rw [hR3] at hs6
            have rc2 := hM _ _ _ _ _ (reach_some hR3 hl4 hob2 ha0)
            have hl3 := (reach_len hR3).1
            rw [hwalk2] at rc2
            unfold walkS walkH at rc2
            obtain ⟨sh3, hsh3⟩ : ∃ x, pSh st3.sh = x := ⟨_, rfl⟩
            obtain ⟨op3, hop3⟩ : ∃ x, pOp st3.op = x := ⟨_, rfl⟩
            obtain ⟨m3, hm3⟩ : ∃ x, st3.op.length = x := ⟨_, rfl⟩
            have hn3 : st3.sh.length = n := by omega
            rw [hq, hHR, hsh3, hop3, hm3, hn3] at rc2
            generalize d + jp = dj at *
            obtain rfl : rr = .p (.tup []) := by rw [← hrr, ← hs6]; rfl
            have hHH2 : HH = [some (.box [.p f.q0, .p f.q1, .p f.q2, .p f.q3, .p (.ro 3 f.code), .p f.q5, .p (.ro 5 HR), .osl 1 0 n, .osl 2 0 m3] 115 none), some (.rows 2 sh3 52), some (.rows 1 op3 3)] := by
              rw [← hHH, ← hs6]
              show walkS f st3 = _
              unfold walkS walkH
              rw [hq, hHR, hsh3, hop3, hm3, hn3]
            subst hHH2
            clear hs6 hrr hHH
            cbv
            repeat (first | (simp only [dd]; cbv) | simp only [dd] | (simp only [g19]; cbv) | simp only [g19] | (simp only [ws1]; cbv) | simp only [ws1] | (simp only [edt]; cbv) | simp only [edt] | (simp only [wi]; cbv) | simp only [wi] | (simp only [wl]; cbv) | simp only [wl])
            refine .mk _ _ (Wk.refl _ _) [0, 1, 2] _ _ _ _ rc rfl rfl rfl ?_
            cbv
            repeat (first | (simp only [wj]; cbv) | simp only [wj])
            refine .mk _ _ (Wk.refl _ _) [0, 1, 2] _ _ _ _ rc2 rfl rfl rfl ?_
            cbv
            all_goals (first | exact ⟨rfl, trivial⟩ | exact ⟨rfl, rfl⟩ | exact ⟨rfl, trivial, trivial⟩ | rfl)
      · simp only [if_true, Option.bind_some] at hs6
        cases hR3 : reachP st1 a (d + jp, s) with
        | none =>
          have ho' : o = none := by rw [← hs6, hR3]
          have rc := hM _ _ _ _ _ (reach_none hR3 hs4.symm (by omega) ha0)
          unfold walkS walkH at rc
          rw [hq, hHR, ← hs1', ← hs2, hs4, ← hs3, hl, hn] at rc
          obtain rfl : rr = .p (.pan unsafeCh) := by rw [← hrr, ho']; rfl
          obtain rfl : HH = panH := by rw [← hHH, ho']; rfl
          clear hs6 hs1' hs2 hs3 hrr hHH ho'
          generalize d + jp = dj at *
          cbv
          repeat (first | (simp only [dd]; cbv) | simp only [dd] | (simp only [g19]; cbv) | simp only [g19] | (simp only [ws1]; cbv) | simp only [ws1] | (simp only [edt]; cbv) | simp only [edt] | (simp only [wj]; cbv) | simp only [wj])
          refine .mk _ _ (Wk.refl _ _) [0, 1, 2] _ _ _ _ rc rfl rfl rfl ?_
          cbv
        | some st3 =>
          rw [hR3] at hs6
          have rc := hM _ _ _ _ _ (reach_some hR3 hs4.symm (by omega) ha0)
          have hl3 := (reach_len hR3).1
          unfold walkS walkH at rc
          rw [hq, hHR, ← hs1', ← hs2, ← hs3, hl3, hs4, hl, hn] at rc
          obtain ⟨sh3, hsh3⟩ : ∃ x, pSh st3.sh = x := ⟨_, rfl⟩
          obtain ⟨op3, hop3⟩ : ∃ x, pOp st3.op = x := ⟨_, rfl⟩
          obtain ⟨m3, hm3⟩ : ∃ x, st3.op.length = x := ⟨_, rfl⟩
          rw [hsh3, hop3, hm3] at rc
          have hn3 : st3.sh.length = n := by omega
          clear hs1' hs2 hs3
          generalize d + jp = dj at *
          obtain rfl : rr = .p (.tup []) := by rw [← hrr, ← hs6]; rfl
          have hHH2 : HH = [some (.box [.p f.q0, .p f.q1, .p f.q2, .p f.q3, .p (.ro 3 f.code), .p f.q5, .p (.ro 5 HR), .osl 1 0 n, .osl 2 0 m3] 115 none), some (.rows 2 sh3 52), some (.rows 1 op3 3)] := by
            rw [← hHH, ← hs6]
            show walkS f st3 = _
            unfold walkS walkH
            rw [hq, hHR, hsh3, hop3, hm3, hn3]
          subst hHH2
          clear hs6 hrr hHH
          cbv
          repeat (first | (simp only [dd]; cbv) | simp only [dd] | (simp only [g19]; cbv) | simp only [g19] | (simp only [ws1]; cbv) | simp only [ws1] | (simp only [edt]; cbv) | simp only [edt] | (simp only [wj]; cbv) | simp only [wj])
          refine .mk _ _ (Wk.refl _ _) [0, 1, 2] _ _ _ _ rc rfl rfl rfl ?_
          cbv
          all_goals (first | exact ⟨rfl, trivial⟩ | exact ⟨rfl, rfl⟩ | exact ⟨rfl, trivial, trivial⟩ | rfl)
    have g19 := o19 19 e19
    by_cases e20 : op = 20
    · have g20 : decide (op = 20) = true := decide_eq_true e20
      by_cases h1s : 1 ≤ s
      · rw [decide_eq_true h1s] at ls
        have hsc : scopeP op s = some (s - 1) := by unfold scopeP; rw [if_neg e19, if_pos e20, if_pos h1s]
        rw [hsc, Option.bind_some] at hs6
        obtain ⟨sc, hsce⟩ : ∃ x, s - 1 = x := ⟨_, rfl⟩
        rw [hsce] at hs6 ws2
        cases en
        · simp only [Bool.false_eq_true, if_false] at hs6
          cases hR : reachP st1 (i + 1) (lim + pu, sc) with
          | none =>
            rw [hR, Option.bind_none] at hs6
            have rc := hM _ _ _ _ _ (reach_none hR hs4.symm (by omega) hi1)
            unfold walkS walkH at rc
            rw [hq, hHR, ← hs1', ← hs2, hs4, ← hs3, hl, hn] at rc
            obtain rfl : rr = .p (.pan unsafeCh) := by rw [← hrr, ← hs6]; rfl
            obtain rfl : HH = panH := by rw [← hHH, ← hs6]; rfl
            clear hs6 hs1' hs2 hs3 hrr hHH
            generalize lim + pu = ld at *
            generalize i + 1 = ii at *
            cbv
            repeat (first | (simp only [dd]; cbv) | simp only [dd] | (simp only [g19]; cbv) | simp only [g19] | (simp only [g20]; cbv) | simp only [g20] | (simp only [ls]; cbv) | simp only [ls] | (refine ⟨_, dt, ?_⟩; cbv) | (simp only [ws2]; cbv) | simp only [ws2] | (simp only [edt]; cbv) | simp only [edt] | (simp only [wi]; cbv) | simp only [wi] | (simp only [wl]; cbv) | simp only [wl])
            refine .mk _ _ (Wk.refl _ _) [0, 1, 2] _ _ _ _ rc rfl rfl rfl ?_
            cbv
          | some st2 =>
            rw [hR, Option.bind_some] at hs6
            have rc := hM _ _ _ _ _ (reach_some hR hs4.symm (by omega) hi1)
            have hl2 := (reach_len hR).1
            have hl3 := (reach_len hR).2
            unfold walkS walkH at rc
            rw [hq, hHR, ← hs1', ← hs2, ← hs3, hl2, hs4, hl, hn] at rc
            obtain ⟨sh2, hsh2⟩ : ∃ x, pSh st2.sh = x := ⟨_, rfl⟩
            obtain ⟨op2, hop2⟩ : ∃ x, pOp st2.op = x := ⟨_, rfl⟩
            obtain ⟨m2, hm2⟩ : ∃ x, st2.op.length = x := ⟨_, rfl⟩
            rw [hsh2, hop2, hm2] at rc
            have hn2 : st2.sh.length = n := by omega
            clear hs1' hs2 hs3
            generalize lim + pu = ld at *
            generalize i + 1 = ii at *
            have hwalk2 : walkS f st2 = [some (.box [.p f.q0, .p f.q1, .p f.q2, .p f.q3, .p (.ro 3 f.code), .p f.q5, .p (.ro 5 HR), .osl 1 0 n, .osl 2 0 m2] 115 none), some (.rows 2 sh2 52), some (.rows 1 op2 3)] := by
              unfold walkS walkH
              rw [hq, hHR, hsh2, hop2, hm2, hn2]
            have hl4 : f.code.length = st2.sh.length := by omega
            have hob2 : st2.op.length ≤ 100000 := by omega
            cases hR3 : reachP st2 a (d + jp, s) with
            | none =>
              have ho' : o = none := by rw [← hs6, hR3]
              have rc2 := hM _ _ _ _ _ (reach_none hR3 hl4 hob2 ha0)
              rw [hwalk2] at rc2
              obtain rfl : rr = .p (.pan unsafeCh) := by rw [← hrr, ho']; rfl
              obtain rfl : HH = panH := by rw [← hHH, ho']; rfl
              clear hs6 hrr hHH ho'
              generalize d + jp = dj at *
              cbv
              repeat (first | (simp only [dd]; cbv) | simp only [dd] | (simp only [g19]; cbv) | simp only [g19] | (simp only [g20]; cbv) | simp only [g20] | (simp only [ls]; cbv) | simp only [ls] | (refine ⟨_, dt, ?_⟩; cbv) | (simp only [ws2]; cbv) | simp only [ws2] | (simp only [edt]; cbv) | simp only [edt] | (simp only [wi]; cbv) | simp only [wi] | (simp only [wl]; cbv) | simp only [wl])
              refine .mk _ _ (Wk.refl _ _) [0, 1, 2] _ _ _ _ rc rfl rfl rfl ?_
              cbv
              repeat (first | (simp only [wj]; cbv) | simp only [wj])
              refine .mk _ _ (Wk.refl _ _) [0, 1, 2] _ _ _ _ rc2 rfl rfl rfl ?_
              cbv
            | some st3 =>
              rw [hR3] at hs6
              have rc2 := hM _ _ _ _ _ (reach_some hR3 hl4 hob2 ha0)
              have hl3 := (reach_len hR3).1
              rw [hwalk2] at rc2
              unfold walkS walkH at rc2
              obtain ⟨sh3, hsh3⟩ : ∃ x, pSh st3.sh = x := ⟨_, rfl⟩
              obtain ⟨op3, hop3⟩ : ∃ x, pOp st3.op = x := ⟨_, rfl⟩
              obtain ⟨m3, hm3⟩ : ∃ x, st3.op.length = x := ⟨_, rfl⟩
              have hn3 : st3.sh.length = n := by omega
              rw [hq, hHR, hsh3, hop3, hm3, hn3] at rc2
              generalize d + jp = dj at *
              obtain rfl : rr = .p (.tup []) := by rw [← hrr, ← hs6]; rfl
              have hHH2 : HH = [some (.box [.p f.q0, .p f.q1, .p f.q2, .p f.q3, .p (.ro 3 f.code), .p f.q5, .p (.ro 5 HR), .osl 1 0 n, .osl 2 0 m3] 115 none), some (.rows 2 sh3 52), some (.rows 1 op3 3)] := by
                rw [← hHH, ← hs6]
                show walkS f st3 = _
                unfold walkS walkH
                rw [hq, hHR, hsh3, hop3, hm3, hn3]
              subst hHH2
              clear hs6 hrr hHH
              cbv
              repeat (first | (simp only [dd]; cbv) | simp only [dd] | (simp only [g19]; cbv) | simp only [g19] | (simp only [g20]; cbv) | simp only [g20] | (simp only [ls]; cbv) | simp only [ls] | (refine ⟨_, dt, ?_⟩; cbv) | (simp only [ws2]; cbv) | simp only [ws2] | (simp only [edt]; cbv) | simp only [edt] | (simp only [wi]; cbv) | simp only [wi] | (simp only [wl]; cbv) | simp only [wl])
              refine .mk _ _ (Wk.refl _ _) [0, 1, 2] _ _ _ _ rc rfl rfl rfl ?_
              cbv
              repeat (first | (simp only [wj]; cbv) | simp only [wj])
              refine .mk _ _ (Wk.refl _ _) [0, 1, 2] _ _ _ _ rc2 rfl rfl rfl ?_
              cbv
              all_goals (first | exact ⟨rfl, trivial⟩ | exact ⟨rfl, rfl⟩ | exact ⟨rfl, trivial, trivial⟩ | rfl)
        · simp only [if_true, Option.bind_some] at hs6
          cases hR3 : reachP st1 a (d + jp, s) with
          | none =>
            have ho' : o = none := by rw [← hs6, hR3]
            have rc := hM _ _ _ _ _ (reach_none hR3 hs4.symm (by omega) ha0)
            unfold walkS walkH at rc
            rw [hq, hHR, ← hs1', ← hs2, hs4, ← hs3, hl, hn] at rc
            obtain rfl : rr = .p (.pan unsafeCh) := by rw [← hrr, ho']; rfl
            obtain rfl : HH = panH := by rw [← hHH, ho']; rfl
            clear hs6 hs1' hs2 hs3 hrr hHH ho'
            generalize d + jp = dj at *
            cbv
            repeat (first | (simp only [dd]; cbv) | simp only [dd] | (simp only [g19]; cbv) | simp only [g19] | (simp only [g20]; cbv) | simp only [g20] | (simp only [ls]; cbv) | simp only [ls] | (refine ⟨_, dt, ?_⟩; cbv) | (simp only [ws2]; cbv) | simp only [ws2] | (simp only [edt]; cbv) | simp only [edt] | (simp only [wj]; cbv) | simp only [wj])
            refine .mk _ _ (Wk.refl _ _) [0, 1, 2] _ _ _ _ rc rfl rfl rfl ?_
            cbv
          | some st3 =>
            rw [hR3] at hs6
            have rc := hM _ _ _ _ _ (reach_some hR3 hs4.symm (by omega) ha0)
            have hl3 := (reach_len hR3).1
            unfold walkS walkH at rc
            rw [hq, hHR, ← hs1', ← hs2, ← hs3, hl3, hs4, hl, hn] at rc
            obtain ⟨sh3, hsh3⟩ : ∃ x, pSh st3.sh = x := ⟨_, rfl⟩
            obtain ⟨op3, hop3⟩ : ∃ x, pOp st3.op = x := ⟨_, rfl⟩
            obtain ⟨m3, hm3⟩ : ∃ x, st3.op.length = x := ⟨_, rfl⟩
            rw [hsh3, hop3, hm3] at rc
            have hn3 : st3.sh.length = n := by omega
            clear hs1' hs2 hs3
            generalize d + jp = dj at *
            obtain rfl : rr = .p (.tup []) := by rw [← hrr, ← hs6]; rfl
            have hHH2 : HH = [some (.box [.p f.q0, .p f.q1, .p f.q2, .p f.q3, .p (.ro 3 f.code), .p f.q5, .p (.ro 5 HR), .osl 1 0 n, .osl 2 0 m3] 115 none), some (.rows 2 sh3 52), some (.rows 1 op3 3)] := by
              rw [← hHH, ← hs6]
              show walkS f st3 = _
              unfold walkS walkH
              rw [hq, hHR, hsh3, hop3, hm3, hn3]
            subst hHH2
            clear hs6 hrr hHH
            cbv
            repeat (first | (simp only [dd]; cbv) | simp only [dd] | (simp only [g19]; cbv) | simp only [g19] | (simp only [g20]; cbv) | simp only [g20] | (simp only [ls]; cbv) | simp only [ls] | (refine ⟨_, dt, ?_⟩; cbv) | (simp only [ws2]; cbv) | simp only [ws2] | (simp only [edt]; cbv) | simp only [edt] | (simp only [wj]; cbv) | simp only [wj])
            refine .mk _ _ (Wk.refl _ _) [0, 1, 2] _ _ _ _ rc rfl rfl rfl ?_
            cbv
            all_goals (first | exact ⟨rfl, trivial⟩ | exact ⟨rfl, rfl⟩ | exact ⟨rfl, trivial, trivial⟩ | rfl)
      · rw [decide_eq_false h1s] at ls
        have hsc : scopeP op s = none := by unfold scopeP; rw [if_neg e19, if_pos e20, if_neg h1s]
        rw [hsc, Option.bind_none] at hs6
        obtain rfl : rr = .p (.pan unsafeCh) := by rw [← hrr, ← hs6]; rfl
        obtain rfl : HH = panH := by rw [← hHH, ← hs6]; rfl
        cbv
        repeat (first | (simp only [dd]; cbv) | simp only [dd] | (simp only [g19]; cbv) | simp only [g19] | (simp only [g20]; cbv) | simp only [g20] | (simp only [ls]; cbv) | simp only [ls] | (refine ⟨_, df, ?_⟩; cbv))
    have g20 := o19 20 e20
    by_cases e21 : op = 21
    · have g21 : decide (op = 21) = true := decide_eq_true e21
      by_cases h1s : 1 ≤ s
      · rw [decide_eq_true h1s] at ls
        have hsc : scopeP op s = some s := by unfold scopeP; rw [if_neg e19, if_neg e20, if_pos e21, if_pos h1s]
        rw [hsc, Option.bind_some] at hs6
        obtain ⟨sc, hsce⟩ : ∃ x, s = x := ⟨_, rfl⟩
        rw [show reachP st1 (i + 1) (lim + pu, s) = reachP st1 (i + 1) (lim + pu, sc) by rw [hsce]] at hs6
        subst hsce
        cases en
        · simp only [Bool.false_eq_true, if_false] at hs6
          cases hR : reachP st1 (i + 1) (lim + pu, s) with
          | none =>
            rw [hR, Option.bind_none] at hs6
            have rc := hM _ _ _ _ _ (reach_none hR hs4.symm (by omega) hi1)
            unfold walkS walkH at rc
            rw [hq, hHR, ← hs1', ← hs2, hs4, ← hs3, hl, hn] at rc
            obtain rfl : rr = .p (.pan unsafeCh) := by rw [← hrr, ← hs6]; rfl
            obtain rfl : HH = panH := by rw [← hHH, ← hs6]; rfl
            clear hs6 hs1' hs2 hs3 hrr hHH
            generalize lim + pu = ld at *
            generalize i + 1 = ii at *
            cbv
            repeat (first | (simp only [dd]; cbv) | simp only [dd] | (simp only [g19]; cbv) | simp only [g19] | (simp only [g20]; cbv) | simp only [g20] | (simp only [g21]; cbv) | simp only [g21] | (simp only [ls]; cbv) | simp only [ls] | (refine ⟨_, dt, ?_⟩; cbv) | (simp only [edt]; cbv) | simp only [edt] | (simp only [wi]; cbv) | simp only [wi] | (simp only [wl]; cbv) | simp only [wl])
            refine .mk _ _ (Wk.refl _ _) [0, 1, 2] _ _ _ _ rc rfl rfl rfl ?_
            cbv
          | some st2 =>
            rw [hR, Option.bind_some] at hs6
            have rc := hM _ _ _ _ _ (reach_some hR hs4.symm (by omega) hi1)
            have hl2 := (reach_len hR).1
            have hl3 := (reach_len hR).2
            unfold walkS walkH at rc
            rw [hq, hHR, ← hs1', ← hs2, ← hs3, hl2, hs4, hl, hn] at rc
            obtain ⟨sh2, hsh2⟩ : ∃ x, pSh st2.sh = x := ⟨_, rfl⟩
            obtain ⟨op2, hop2⟩ : ∃ x, pOp st2.op = x := ⟨_, rfl⟩
            obtain ⟨m2, hm2⟩ : ∃ x, st2.op.length = x := ⟨_, rfl⟩
            rw [hsh2, hop2, hm2] at rc
            have hn2 : st2.sh.length = n := by omega
            clear hs1' hs2 hs3
            generalize lim + pu = ld at *
            generalize i + 1 = ii at *
            have hwalk2 : walkS f st2 = [some (.box [.p f.q0, .p f.q1, .p f.q2, .p f.q3, .p (.ro 3 f.code), .p f.q5, .p (.ro 5 HR), .osl 1 0 n, .osl 2 0 m2] 115 none), some (.rows 2 sh2 52), some (.rows 1 op2 3)] := by
              unfold walkS walkH
              rw [hq, hHR, hsh2, hop2, hm2, hn2]
            have hl4 : f.code.length = st2.sh.length := by omega
            have hob2 : st2.op.length ≤ 100000 := by omega
            cases hR3 : reachP st2 a (d + jp, s) with
            | none =>
              have ho' : o = none := by rw [← hs6, hR3]
              have rc2 := hM _ _ _ _ _ (reach_none hR3 hl4 hob2 ha0)
              rw [hwalk2] at rc2
              obtain rfl : rr = .p (.pan unsafeCh) := by rw [← hrr, ho']; rfl
              obtain rfl : HH = panH := by rw [← hHH, ho']; rfl
              clear hs6 hrr hHH ho'
              generalize d + jp = dj at *
              cbv
              repeat (first | (simp only [dd]; cbv) | simp only [dd] | (simp only [g19]; cbv) | simp only [g19] | (simp only [g20]; cbv) | simp only [g20] | (simp only [g21]; cbv) | simp only [g21] | (simp only [ls]; cbv) | simp only [ls] | (refine ⟨_, dt, ?_⟩; cbv) | (simp only [edt]; cbv) | simp only [edt] | (simp only [wi]; cbv) | simp only [wi] | (simp only [wl]; cbv) | simp only [wl])
              refine .mk _ _ (Wk.refl _ _) [0, 1, 2] _ _ _ _ rc rfl rfl rfl ?_
              cbv
              repeat (first | (simp only [wj]; cbv) | simp only [wj])
              refine .mk _ _ (Wk.refl _ _) [0, 1, 2] _ _ _ _ rc2 rfl rfl rfl ?_
              cbv
            | some st3 =>
              rw [hR3] at hs6
              have rc2 := hM _ _ _ _ _ (reach_some hR3 hl4 hob2 ha0)
              have hl3 := (reach_len hR3).1
              rw [hwalk2] at rc2
              unfold walkS walkH at rc2
              obtain ⟨sh3, hsh3⟩ : ∃ x, pSh st3.sh = x := ⟨_, rfl⟩
              obtain ⟨op3, hop3⟩ : ∃ x, pOp st3.op = x := ⟨_, rfl⟩
              obtain ⟨m3, hm3⟩ : ∃ x, st3.op.length = x := ⟨_, rfl⟩
              have hn3 : st3.sh.length = n := by omega
              rw [hq, hHR, hsh3, hop3, hm3, hn3] at rc2
              generalize d + jp = dj at *
              obtain rfl : rr = .p (.tup []) := by rw [← hrr, ← hs6]; rfl
              have hHH2 : HH = [some (.box [.p f.q0, .p f.q1, .p f.q2, .p f.q3, .p (.ro 3 f.code), .p f.q5, .p (.ro 5 HR), .osl 1 0 n, .osl 2 0 m3] 115 none), some (.rows 2 sh3 52), some (.rows 1 op3 3)] := by
                rw [← hHH, ← hs6]
                show walkS f st3 = _
                unfold walkS walkH
                rw [hq, hHR, hsh3, hop3, hm3, hn3]
              subst hHH2
              clear hs6 hrr hHH
              cbv
              repeat (first | (simp only [dd]; cbv) | simp only [dd] | (simp only [g19]; cbv) | simp only [g19] | (simp only [g20]; cbv) | simp only [g20] | (simp only [g21]; cbv) | simp only [g21] | (simp only [ls]; cbv) | simp only [ls] | (refine ⟨_, dt, ?_⟩; cbv) | (simp only [edt]; cbv) | simp only [edt] | (simp only [wi]; cbv) | simp only [wi] | (simp only [wl]; cbv) | simp only [wl])
              refine .mk _ _ (Wk.refl _ _) [0, 1, 2] _ _ _ _ rc rfl rfl rfl ?_
              cbv
              repeat (first | (simp only [wj]; cbv) | simp only [wj])
              refine .mk _ _ (Wk.refl _ _) [0, 1, 2] _ _ _ _ rc2 rfl rfl rfl ?_
              cbv
              all_goals (first | exact ⟨rfl, trivial⟩ | exact ⟨rfl, rfl⟩ | exact ⟨rfl, trivial, trivial⟩ | rfl)
        · simp only [if_true, Option.bind_some] at hs6
          cases hR3 : reachP st1 a (d + jp, s) with
          | none =>
            have ho' : o = none := by rw [← hs6, hR3]
            have rc := hM _ _ _ _ _ (reach_none hR3 hs4.symm (by omega) ha0)
            unfold walkS walkH at rc
            rw [hq, hHR, ← hs1', ← hs2, hs4, ← hs3, hl, hn] at rc
            obtain rfl : rr = .p (.pan unsafeCh) := by rw [← hrr, ho']; rfl
            obtain rfl : HH = panH := by rw [← hHH, ho']; rfl
            clear hs6 hs1' hs2 hs3 hrr hHH ho'
            generalize d + jp = dj at *
            cbv
            repeat (first | (simp only [dd]; cbv) | simp only [dd] | (simp only [g19]; cbv) | simp only [g19] | (simp only [g20]; cbv) | simp only [g20] | (simp only [g21]; cbv) | simp only [g21] | (simp only [ls]; cbv) | simp only [ls] | (refine ⟨_, dt, ?_⟩; cbv) | (simp only [edt]; cbv) | simp only [edt] | (simp only [wj]; cbv) | simp only [wj])
            refine .mk _ _ (Wk.refl _ _) [0, 1, 2] _ _ _ _ rc rfl rfl rfl ?_
            cbv
          | some st3 =>
            rw [hR3] at hs6
            have rc := hM _ _ _ _ _ (reach_some hR3 hs4.symm (by omega) ha0)
            have hl3 := (reach_len hR3).1
            unfold walkS walkH at rc
            rw [hq, hHR, ← hs1', ← hs2, ← hs3, hl3, hs4, hl, hn] at rc
            obtain ⟨sh3, hsh3⟩ : ∃ x, pSh st3.sh = x := ⟨_, rfl⟩
            obtain ⟨op3, hop3⟩ : ∃ x, pOp st3.op = x := ⟨_, rfl⟩
            obtain ⟨m3, hm3⟩ : ∃ x, st3.op.length = x := ⟨_, rfl⟩
            rw [hsh3, hop3, hm3] at rc
            have hn3 : st3.sh.length = n := by omega
            clear hs1' hs2 hs3
            generalize d + jp = dj at *
            obtain rfl : rr = .p (.tup []) := by rw [← hrr, ← hs6]; rfl
            have hHH2 : HH = [some (.box [.p f.q0, .p f.q1, .p f.q2, .p f.q3, .p (.ro 3 f.code), .p f.q5, .p (.ro 5 HR), .osl 1 0 n, .osl 2 0 m3] 115 none), some (.rows 2 sh3 52), some (.rows 1 op3 3)] := by
              rw [← hHH, ← hs6]
              show walkS f st3 = _
              unfold walkS walkH
              rw [hq, hHR, hsh3, hop3, hm3, hn3]
            subst hHH2
            clear hs6 hrr hHH
            cbv
            repeat (first | (simp only [dd]; cbv) | simp only [dd] | (simp only [g19]; cbv) | simp only [g19] | (simp only [g20]; cbv) | simp only [g20] | (simp only [g21]; cbv) | simp only [g21] | (simp only [ls]; cbv) | simp only [ls] | (refine ⟨_, dt, ?_⟩; cbv) | (simp only [edt]; cbv) | simp only [edt] | (simp only [wj]; cbv) | simp only [wj])
            refine .mk _ _ (Wk.refl _ _) [0, 1, 2] _ _ _ _ rc rfl rfl rfl ?_
            cbv
            all_goals (first | exact ⟨rfl, trivial⟩ | exact ⟨rfl, rfl⟩ | exact ⟨rfl, trivial, trivial⟩ | rfl)
      · rw [decide_eq_false h1s] at ls
        have hsc : scopeP op s = none := by unfold scopeP; rw [if_neg e19, if_neg e20, if_pos e21, if_neg h1s]
        rw [hsc, Option.bind_none] at hs6
        obtain rfl : rr = .p (.pan unsafeCh) := by rw [← hrr, ← hs6]; rfl
        obtain rfl : HH = panH := by rw [← hHH, ← hs6]; rfl
        cbv
        repeat (first | (simp only [dd]; cbv) | simp only [dd] | (simp only [g19]; cbv) | simp only [g19] | (simp only [g20]; cbv) | simp only [g20] | (simp only [g21]; cbv) | simp only [g21] | (simp only [ls]; cbv) | simp only [ls] | (refine ⟨_, df, ?_⟩; cbv))
    · have g21 := o19 21 e21
      have hsc : scopeP op s = some s := by unfold scopeP; rw [if_neg e19, if_neg e20, if_neg e21]
      rw [hsc, Option.bind_some] at hs6
      cases en
      · simp only [Bool.false_eq_true, if_false] at hs6
        cases hR : reachP st1 (i + 1) (lim + pu, s) with
        | none =>
          rw [hR, Option.bind_none] at hs6
          have rc := hM _ _ _ _ _ (reach_none hR hs4.symm (by omega) hi1)
          unfold walkS walkH at rc
          rw [hq, hHR, ← hs1', ← hs2, hs4, ← hs3, hl, hn] at rc
          obtain rfl : rr = .p (.pan unsafeCh) := by rw [← hrr, ← hs6]; rfl
          obtain rfl : HH = panH := by rw [← hHH, ← hs6]; rfl
          clear hs6 hs1' hs2 hs3 hrr hHH
          generalize lim + pu = ld at *
          generalize i + 1 = ii at *
          cbv
          repeat (first | (simp only [dd]; cbv) | simp only [dd] | (simp only [g19]; cbv) | simp only [g19] | (simp only [g20]; cbv) | simp only [g20] | (simp only [g21]; cbv) | simp only [g21] | (simp only [edt]; cbv) | simp only [edt] | (simp only [wi]; cbv) | simp only [wi] | (simp only [wl]; cbv) | simp only [wl])
          refine .mk _ _ (Wk.refl _ _) [0, 1, 2] _ _ _ _ rc rfl rfl rfl ?_
          cbv
        | some st2 =>
          rw [hR, Option.bind_some] at hs6
          have rc := hM _ _ _ _ _ (reach_some hR hs4.symm (by omega) hi1)
          have hl2 := (reach_len hR).1
          have hl3 := (reach_len hR).2
          unfold walkS walkH at rc
          rw [hq, hHR, ← hs1', ← hs2, ← hs3, hl2, hs4, hl, hn] at rc
          obtain ⟨sh2, hsh2⟩ : ∃ x, pSh st2.sh = x := ⟨_, rfl⟩
          obtain ⟨op2, hop2⟩ : ∃ x, pOp st2.op = x := ⟨_, rfl⟩
          obtain ⟨m2, hm2⟩ : ∃ x, st2.op.length = x := ⟨_, rfl⟩
          rw [hsh2, hop2, hm2] at rc
          have hn2 : st2.sh.length = n := by omega
          clear hs1' hs2 hs3
          generalize lim + pu = ld at *
          generalize i + 1 = ii at *
          have hwalk2 : walkS f st2 = [some (.box [.p f.q0, .p f.q1, .p f.q2, .p f.q3, .p (.ro 3 f.code), .p f.q5, .p (.ro 5 HR), .osl 1 0 n, .osl 2 0 m2] 115 none), some (.rows 2 sh2 52), some (.rows 1 op2 3)] := by
            unfold walkS walkH
            rw [hq, hHR, hsh2, hop2, hm2, hn2]
          have hl4 : f.code.length = st2.sh.length := by omega
          have hob2 : st2.op.length ≤ 100000 := by omega
          cases hR3 : reachP st2 a (d + jp, s) with
          | none =>
            have ho' : o = none := by rw [← hs6, hR3]
            have rc2 := hM _ _ _ _ _ (reach_none hR3 hl4 hob2 ha0)
            rw [hwalk2] at rc2
            obtain rfl : rr = .p (.pan unsafeCh) := by rw [← hrr, ho']; rfl
            obtain rfl : HH = panH := by rw [← hHH, ho']; rfl
            clear hs6 hrr hHH ho'
            generalize d + jp = dj at *
            cbv
            repeat (first | (simp only [dd]; cbv) | simp only [dd] | (simp only [g19]; cbv) | simp only [g19] | (simp only [g20]; cbv) | simp only [g20] | (simp only [g21]; cbv) | simp only [g21] | (simp only [edt]; cbv) | simp only [edt] | (simp only [wi]; cbv) | simp only [wi] | (simp only [wl]; cbv) | simp only [wl])
            refine .mk _ _ (Wk.refl _ _) [0, 1, 2] _ _ _ _ rc rfl rfl rfl ?_
            cbv
            repeat (first | (simp only [wj]; cbv) | simp only [wj])
            refine .mk _ _ (Wk.refl _ _) [0, 1, 2] _ _ _ _ rc2 rfl rfl rfl ?_
            cbv
          | some st3 =>
            rw [hR3] at hs6
            have rc2 := hM _ _ _ _ _ (reach_some hR3 hl4 hob2 ha0)
            have hl3 := (reach_len hR3).1
            rw [hwalk2] at rc2
            unfold walkS walkH at rc2
            obtain ⟨sh3, hsh3⟩ : ∃ x, pSh st3.sh = x := ⟨_, rfl⟩
            obtain ⟨op3, hop3⟩ : ∃ x, pOp st3.op = x := ⟨_, rfl⟩
            obtain ⟨m3, hm3⟩ : ∃ x, st3.op.length = x := ⟨_, rfl⟩
            have hn3 : st3.sh.length = n := by omega
            rw [hq, hHR, hsh3, hop3, hm3, hn3] at rc2
            generalize d + jp = dj at *
            obtain rfl : rr = .p (.tup []) := by rw [← hrr, ← hs6]; rfl
            have hHH2 : HH = [some (.box [.p f.q0, .p f.q1, .p f.q2, .p f.q3, .p (.ro 3 f.code), .p f.q5, .p (.ro 5 HR), .osl 1 0 n, .osl 2 0 m3] 115 none), some (.rows 2 sh3 52), some (.rows 1 op3 3)] := by
              rw [← hHH, ← hs6]
              show walkS f st3 = _
              unfold walkS walkH
              rw [hq, hHR, hsh3, hop3, hm3, hn3]
            subst hHH2
            clear hs6 hrr hHH
            cbv
            repeat (first | (simp only [dd]; cbv) | simp only [dd] | (simp only [g19]; cbv) | simp only [g19] | (simp only [g20]; cbv) | simp only [g20] | (simp only [g21]; cbv) | simp only [g21] | (simp only [edt]; cbv) | simp only [edt] | (simp only [wi]; cbv) | simp only [wi] | (simp only [wl]; cbv) | simp only [wl])
            refine .mk _ _ (Wk.refl _ _) [0, 1, 2] _ _ _ _ rc rfl rfl rfl ?_
            cbv
            repeat (first | (simp only [wj]; cbv) | simp only [wj])
            refine .mk _ _ (Wk.refl _ _) [0, 1, 2] _ _ _ _ rc2 rfl rfl rfl ?_
            cbv
            all_goals (first | exact ⟨rfl, trivial⟩ | exact ⟨rfl, rfl⟩ | exact ⟨rfl, trivial, trivial⟩ | rfl)
      · simp only [if_true, Option.bind_some] at hs6
        cases hR3 : reachP st1 a (d + jp, s) with
        | none =>
          have ho' : o = none := by rw [← hs6, hR3]
          have rc := hM _ _ _ _ _ (reach_none hR3 hs4.symm (by omega) ha0)
          unfold walkS walkH at rc
          rw [hq, hHR, ← hs1', ← hs2, hs4, ← hs3, hl, hn] at rc
          obtain rfl : rr = .p (.pan unsafeCh) := by rw [← hrr, ho']; rfl
          obtain rfl : HH = panH := by rw [← hHH, ho']; rfl
          clear hs6 hs1' hs2 hs3 hrr hHH ho'
          generalize d + jp = dj at *
          cbv
          repeat (first | (simp only [dd]; cbv) | simp only [dd] | (simp only [g19]; cbv) | simp only [g19] | (simp only [g20]; cbv) | simp only [g20] | (simp only [g21]; cbv) | simp only [g21] | (simp only [edt]; cbv) | simp only [edt] | (simp only [wj]; cbv) | simp only [wj])
          refine .mk _ _ (Wk.refl _ _) [0, 1, 2] _ _ _ _ rc rfl rfl rfl ?_
          cbv
        | some st3 =>
          rw [hR3] at hs6
          have rc := hM _ _ _ _ _ (reach_some hR3 hs4.symm (by omega) ha0)
          have hl3 := (reach_len hR3).1
          unfold walkS walkH at rc
          rw [hq, hHR, ← hs1', ← hs2, ← hs3, hl3, hs4, hl, hn] at rc
          obtain ⟨sh3, hsh3⟩ : ∃ x, pSh st3.sh = x := ⟨_, rfl⟩
          obtain ⟨op3, hop3⟩ : ∃ x, pOp st3.op = x := ⟨_, rfl⟩
          obtain ⟨m3, hm3⟩ : ∃ x, st3.op.length = x := ⟨_, rfl⟩
          rw [hsh3, hop3, hm3] at rc
          have hn3 : st3.sh.length = n := by omega
          clear hs1' hs2 hs3
          generalize d + jp = dj at *
          obtain rfl : rr = .p (.tup []) := by rw [← hrr, ← hs6]; rfl
          have hHH2 : HH = [some (.box [.p f.q0, .p f.q1, .p f.q2, .p f.q3, .p (.ro 3 f.code), .p f.q5, .p (.ro 5 HR), .osl 1 0 n, .osl 2 0 m3] 115 none), some (.rows 2 sh3 52), some (.rows 1 op3 3)] := by
            rw [← hHH, ← hs6]
            show walkS f st3 = _
            unfold walkS walkH
            rw [hq, hHR, hsh3, hop3, hm3, hn3]
          subst hHH2
          clear hs6 hrr hHH
          cbv
          repeat (first | (simp only [dd]; cbv) | simp only [dd] | (simp only [g19]; cbv) | simp only [g19] | (simp only [g20]; cbv) | simp only [g20] | (simp only [g21]; cbv) | simp only [g21] | (simp only [edt]; cbv) | simp only [edt] | (simp only [wj]; cbv) | simp only [wj])
          refine .mk _ _ (Wk.refl _ _) [0, 1, 2] _ _ _ _ rc rfl rfl rfl ?_
          cbv
          all_goals (first | exact ⟨rfl, trivial⟩ | exact ⟨rfl, rfl⟩ | exact ⟨rfl, trivial, trivial⟩ | rfl)
end Go.Proofs.YtlffpgjkhehdmaaDoor
