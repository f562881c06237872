/- Own work: the reference's Same; LexerWords. -/
import Derived.Test.YtnhbboknffppiaaDoorZLL1
namespace Go.Proofs.YtnhbboknffppiaaDoor
open Go.RowKit
set_option maxRecDepth 100000
set_option linter.unusedSimpArgs false

structure SaI (n : Int) (i : Int) : Prop where
  i0 : 0 ≤ i
  i1 : i ≤ n
set_option maxHeartbeats 2000000 in
/-- lists of tokens that agree -/
theorem same_ret (A B : List (List PV)) (at_ : Bool) (hl : A.length = B.length) (hb : A.length ≤ 100000000) (h : ∀ i : Nat, i < A.length → ∃ k t a a', A[i]? = some [pI k, pS t, pI a] ∧ B[i]? = some [pI k, pS t, pI a'] ∧ (at_ = true → a = a')) : V0 14 [.ro 3 A, .ro 3 B, pB at_] (pB true) := by
  obtain ⟨n, hn⟩ : ∃ n : Int, ((A.length : Nat) : Int) = n := ⟨_, rfl⟩
  have hnB : ((B.length : Nat) : Int) = n := by rw [← hl]; exact hn
  have hI0 : SaI n 0 := ⟨Int.le_refl _, by omega⟩
  have hi : ∀ i : Int, 0 ≤ i → i < n → ∃ k t a a', A[i.toNat]? = some [pI k, pS t, pI a] ∧ B[i.toNat]? = some [pI k, pS t, pI a'] ∧ (at_ = true → a = a') := fun i h0 h1 => h i.toNat (by omega)
  obtain ⟨μ, hμ⟩ : ∃ μ : Int → Nat, ∀ x, μ x = 2000000000 - x.toNat := ⟨_, fun _ => rfl⟩
  have hn1 : n ≤ 100000000 := by omega
  clear h hl hb
  refine ret_by tyT_ok g0_gr mixed (fun n => match n with | 6 => 40 | _ => 0) Tryd.func14 rfl (by kernel_rfl) (by kernel_rfl) rfl fun P G E hc hE => ?_
  have l1 : E.ofN A.length = n := by rw [hE]; exact hn
  have l2 : E.ofN B.length = n := by rw [hE]; exact hnB
  have elt : ∀ a b, E.lti a b = decide (a < b) := fun a b => by rw [hE]; rfl
  have eple : ∀ a b, a ≤ b → E.ple a b := fun a b h => by rw [hE]; exact h
  have enat : ∀ i, E.nat i = i.toNat := fun i => by rw [hE]; rfl
  have eadd : ∀ a : Int, 0 ≤ a → a ≤ 1000000000 → E.wadd .i64 a 1 = a + 1 := fun a h0 h1 => by rw [hE]; exact wrap_i64_in (by omega) (by omega)
  have eeq : ∀ a, E.eq a a = true := fun a => by rw [hE]; exact decide_eq_true rfl
  clear hE hc hn hnB
  cbv at l1 l2
  cbv
  repeat (first | (simp only [l1]; cbv) | simp only [l1] | (simp only [l2]; cbv) | simp only [l2])
  refine loop_by 59 [0, 1, 2, 7] 0 (fun x : Int => [.p (.ro 3 A), .p (.ro 3 B), .p (pB at_), .p (pI x)]) (fun _ => []) (SaI n) μ 0 ⟨rfl, rfl, rfl, rfl, rfl⟩ hI0 ?_
  clear hI0
  rintro i ⟨i0, i1⟩
  rcases Classical.em (i < n) with hlt | hlt
  · have d1 : E.lti i n = true := by rw [elt]; exact decide_eq_true hlt
    obtain ⟨k, t, a, a', g1, g2, haa⟩ := hi i i0 hlt
    rw [← enat] at g1 g2
    have p1 := eple 0 i i0
    have q1 := eeq t
    obtain ⟨i2, hi2⟩ : ∃ x : Int, i + 1 = x := ⟨_, rfl⟩
    have ei := eadd i i0 (by omega)
    rw [hi2] at ei
    have hI2 : SaI n i2 := ⟨by omega, by omega⟩
    have hM2 : μ i2 < μ i := by rw [hμ, hμ]; omega
    have k1 : decide (k = k) = true := decide_eq_true rfl
    cases at_ with
    | true =>
      have h3 := haa rfl
      subst h3
      have k2 : decide (a = a) = true := decide_eq_true rfl
      clear hi elt eple enat eadd eeq haa hμ hi2 hlt i0 i1
      cbv
      repeat (first | (simp only [l1]; cbv) | simp only [l1] | (simp only [l2]; cbv) | simp only [l2] | (simp only [d1]; cbv) | simp only [d1] | (refine ⟨p1,_,g1, ?_⟩; cbv) | (refine ⟨p1,_,g2, ?_⟩; cbv) | (simp only [k1]; cbv) | simp only [k1] | (simp only [q1]; cbv) | simp only [q1] | (simp only [k2]; cbv) | simp only [k2] | (simp only [ei]; cbv) | simp only [ei])
      refine .mk i2 ⟨rfl, rfl, rfl, rfl, rfl⟩ ?_ ?_
      · exact hI2
      · exact hM2
    | false =>
      clear hi elt eple enat eadd eeq haa hμ hi2 hlt i0 i1
      cbv
      repeat (first | (simp only [l1]; cbv) | simp only [l1] | (simp only [l2]; cbv) | simp only [l2] | (simp only [d1]; cbv) | simp only [d1] | (refine ⟨p1,_,g1, ?_⟩; cbv) | (refine ⟨p1,_,g2, ?_⟩; cbv) | (simp only [k1]; cbv) | simp only [k1] | (simp only [q1]; cbv) | simp only [q1] | (simp only [ei]; cbv) | simp only [ei])
      refine .mk i2 ⟨rfl, rfl, rfl, rfl, rfl⟩ ?_ ?_
      · exact hI2
      · exact hM2
  · have d1 : E.lti i n = false := by rw [elt]; exact decide_eq_false hlt
    clear hi elt eple enat eadd eeq hμ hlt i0 i1
    cbv
    repeat (first | (simp only [l1]; cbv) | simp only [l1] | (simp only [l2]; cbv) | simp only [l2] | (simp only [d1]; cbv) | simp only [d1])
theorem same_nil (at_ : Bool) : V0 14 [.v (.slice none 0 0), .v (.slice none 0 0), pB at_] (pB true) := by
  have hI0 : SaI 0 0 := ⟨Int.le_refl _, Int.le_refl _⟩
  obtain ⟨μ, hμ⟩ : ∃ μ : Int → Nat, ∀ x, μ x = 2000000000 - x.toNat := ⟨_, fun _ => rfl⟩
  refine ret_by tyT_ok g0_gr mixed (fun n => match n with | 6 => 40 | _ => 0) Tryd.func14 rfl (by kernel_rfl) (by kernel_rfl) rfl fun P G E hc hE => ?_
  have l1 : E.ofN 0 = 0 := by rw [hE]; rfl
  have d1 : E.lti 0 0 = false := by rw [hE]; rfl
  clear hE hc
  cbv
  repeat (first | (simp only [l1]; cbv) | simp only [l1])
  refine loop_by 59 [0, 1, 2, 7] 0 (fun x : Int => [.p (.v (.slice none 0 0)), .p (.v (.slice none 0 0)), .p (pB at_), .p (pI x)]) (fun _ => []) (SaI 0) μ 0 ⟨rfl, rfl, rfl, rfl, rfl⟩ hI0 ?_
  clear hI0
  rintro i ⟨i0, i1⟩
  have hi : i = 0 := by omega
  subst hi
  clear hμ i0 i1
  cbv
  repeat (first | (simp only [l1]; cbv) | simp only [l1] | (simp only [d1]; cbv) | simp only [d1])
theorem tkRows_at {n : Int} {ts : List Tk} {i : Nat} {x : Tk} (h : ts[i]? = some x) : (tkRows n ts)[i]? = some (tkRow n x) := by unfold tkRows; rw [List.getElem?_map, h]; rfl
set_option maxHeartbeats 4000000 in
theorem lwords_ret (s : ByteArray) : RL 6 [pS s] (pB true) := by
  have ha := awake_ret
  obtain ⟨n, hn⟩ : ∃ n : Int, ((s.size : Nat) : Int) = n := ⟨_, rfl⟩
  rcases Classical.em (40 < n) with hbig | hbig
  · skip
    refine ret_by tyT_ok gl_gr mixed (fun _ => 0) Tryd.func6 rfl (by kernel_rfl) (by kernel_rfl) rfl fun P G E hc hE => ?_
    replace ha := hc _ _ _ ha
    have z1 : E.size s = n := by rw [hE]; exact hn
    have d1 : E.lti 40 n = true := by rw [hE]; exact decide_eq_true hbig
    clear hE hc hn hbig
    cbv
    repeat (first | (refine ⟨_, ha, ?_⟩; cbv) | (simp only [z1]; cbv) | simp only [z1] | (simp only [d1]; cbv) | simp only [d1])
  have hlx := lex_ret s (by omega)
  have hk1 := upL (iskw_ret s)
  have hk2 := upL (riskw_ret s)
  cases hK : isKw s.data.toList with
  | true =>
    rw [hK] at hk1 hk2
    have hb : lexB s.data.toList = ([⟨2, s.data.toList, s.data.toList.length⟩], none) := One.lex uB repairL (lex_kw uB repairL hK)
    rw [lexR_ok hb] at hlx
    obtain ⟨a, hrow⟩ : ∃ a : Int, tkRows (s.size : Nat) [⟨2, s.data.toList, s.data.toList.length⟩] = [[pI 2, pS s, pI a]] := ⟨_, rfl⟩
    rw [hrow] at hlx
    obtain ⟨R, hR⟩ : ∃ x : List (List PV), [[pI 2, pS s, pI a]] = x := ⟨_, rfl⟩
    rw [hR] at hlx
    refine ret_by tyT_ok gl_gr mixed (fun _ => 0) Tryd.func6 rfl (by kernel_rfl) (by kernel_rfl) rfl fun P G E hc hE => ?_
    replace ha := hc _ _ _ ha
    replace hlx := hc _ _ _ hlx
    replace hk1 := hc _ _ _ hk1
    replace hk2 := hc _ _ _ hk2
    have z1 : E.size s = n := by rw [hE]; exact hn
    have d1 : E.lti 40 n = false := by rw [hE]; exact decide_eq_false (by omega)
    have l1 : E.ofN R.length = 1 := by rw [hE, ← hR]; rfl
    have p0 : E.ple 0 0 := by rw [hE]; show (0 : Int) ≤ 0; omega
    have g1 : R[E.nat 0]? = some [pI 2, pS s, pI a] := by rw [hE, ← hR]; rfl
    have q1 : E.eq s s = true := by rw [hE]; exact decide_eq_true rfl
    clear hE hc hn hbig hR hb hK hrow
    cbv at l1
    cbv
    repeat (first | (refine ⟨_, ha, ?_⟩; cbv) | (simp only [z1]; cbv) | simp only [z1] | (simp only [d1]; cbv) | simp only [d1] | (refine ⟨_, hlx, ?_⟩; cbv) | (simp only [l1]; cbv) | simp only [l1] | (refine ⟨p0,_,g1, ?_⟩; cbv) | (simp only [q1]; cbv) | simp only [q1] | (refine ⟨_, hk1, ?_⟩; cbv) | (refine ⟨_, hk2, ?_⟩; cbv))
  | false =>
    rw [hK] at hk1 hk2
    obtain ⟨ts, er, hb⟩ : ∃ ts er, lexB s.data.toList = (ts, er) := ⟨_, _, rfl⟩
    cases er with
    | some p =>
      obtain ⟨m, e⟩ := p
      rw [lexR_bad hb] at hlx
      have he : e ≠ 0 := lexF_ne _ _ m e (congrArg Prod.snd hb)
      have d2 : decide (e = 0) = false := decide_eq_false he
      obtain ⟨f, hf⟩ : ∃ x : Int, ((s.size : Nat) : Int) - (m : Nat) = x := ⟨_, rfl⟩
      rw [hf] at hlx
      refine ret_by tyT_ok gl_gr mixed (fun _ => 0) Tryd.func6 rfl (by kernel_rfl) (by kernel_rfl) rfl fun P G E hc hE => ?_
      replace ha := hc _ _ _ ha
      replace hlx := hc _ _ _ hlx
      replace hk1 := hc _ _ _ hk1
      replace hk2 := hc _ _ _ hk2
      have z1 : E.size s = n := by rw [hE]; exact hn
      have d1 : E.lti 40 n = false := by rw [hE]; exact decide_eq_false (by omega)
      clear hE hc hn hbig hb hK he hf
      cbv
      repeat (first | (refine ⟨_, ha, ?_⟩; cbv) | (simp only [z1]; cbv) | simp only [z1] | (simp only [d1]; cbv) | simp only [d1] | (refine ⟨_, hlx, ?_⟩; cbv) | (simp only [d2]; cbv) | simp only [d2] | (refine ⟨_, hk1, ?_⟩; cbv) | (refine ⟨_, hk2, ?_⟩; cbv))
    | none =>
      rw [lexR_ok hb] at hlx
      by_cases h1 : ts.length = 1
      · match ts, h1, hb, hlx with
        | [x], _, hb, hlx =>
          obtain ⟨k, t, rem⟩ := x
          obtain ⟨a, hrow⟩ : ∃ a : Int, tkRows (s.size : Nat) [⟨k, t, rem⟩] = [[pI k, pS (bL t), pI a]] := ⟨_, rfl⟩
          rw [hrow] at hlx
          obtain ⟨R, hR⟩ : ∃ x : List (List PV), [[pI k, pS (bL t), pI a]] = x := ⟨_, rfl⟩
          rw [hR] at hlx
          obtain ⟨T, hT⟩ : ∃ x, bL t = x := ⟨_, rfl⟩
          rw [hT] at hR
          by_cases hts : T = s
          · have hk : k ≠ 2 := fun hk => by
              subst hk
              have htl : t = s.data.toList := by rw [← hts, ← hT, bL_list]
              rw [htl] at hb
              have := one_kw uB repairL (one_of uB repairL hb (by decide))
              rw [hK] at this
              cases this
            have d2 : decide (k = 2) = false := decide_eq_false hk
            obtain ⟨b3, d3⟩ : ∃ b, decide (k = 1) = b := ⟨_, rfl⟩
            refine ret_by tyT_ok gl_gr mixed (fun _ => 0) Tryd.func6 rfl (by kernel_rfl) (by kernel_rfl) rfl fun P G E hc hE => ?_
            replace ha := hc _ _ _ ha
            replace hlx := hc _ _ _ hlx
            replace hk1 := hc _ _ _ hk1
            replace hk2 := hc _ _ _ hk2
            have z1 : E.size s = n := by rw [hE]; exact hn
            have d1 : E.lti 40 n = false := by rw [hE]; exact decide_eq_false (by omega)
            have l1 : E.ofN R.length = 1 := by rw [hE, ← hR]; rfl
            have p0 : E.ple 0 0 := by rw [hE]; show (0 : Int) ≤ 0; omega
            have g1 : R[E.nat 0]? = some [pI k, pS T, pI a] := by rw [hE, ← hR]; rfl
            have q1 : E.eq T s = true := by rw [hE]; exact decide_eq_true hts
            clear hE hc hn hbig hR hb hK hrow hT hts hk
            cbv at l1
            cases b3
            all_goals
              cbv
              repeat (first | (refine ⟨_, ha, ?_⟩; cbv) | (simp only [z1]; cbv) | simp only [z1] | (simp only [d1]; cbv) | simp only [d1] | (refine ⟨_, hlx, ?_⟩; cbv) | (simp only [l1]; cbv) | simp only [l1] | (refine ⟨p0,_,g1, ?_⟩; cbv) | (simp only [q1]; cbv) | simp only [q1] | (simp only [d2]; cbv) | simp only [d2] | (refine ⟨_, hk1, ?_⟩; cbv) | (refine ⟨_, hk2, ?_⟩; cbv) | (simp only [d3]; cbv) | simp only [d3])
          · skip
            refine ret_by tyT_ok gl_gr mixed (fun _ => 0) Tryd.func6 rfl (by kernel_rfl) (by kernel_rfl) rfl fun P G E hc hE => ?_
            replace ha := hc _ _ _ ha
            replace hlx := hc _ _ _ hlx
            replace hk1 := hc _ _ _ hk1
            replace hk2 := hc _ _ _ hk2
            have z1 : E.size s = n := by rw [hE]; exact hn
            have d1 : E.lti 40 n = false := by rw [hE]; exact decide_eq_false (by omega)
            have l1 : E.ofN R.length = 1 := by rw [hE, ← hR]; rfl
            have p0 : E.ple 0 0 := by rw [hE]; show (0 : Int) ≤ 0; omega
            have g1 : R[E.nat 0]? = some [pI k, pS T, pI a] := by rw [hE, ← hR]; rfl
            have q1 : E.eq T s = false := by rw [hE]; exact decide_eq_false hts
            clear hE hc hn hbig hR hb hK hrow hT hts
            cbv at l1
            cbv
            repeat (first | (refine ⟨_, ha, ?_⟩; cbv) | (simp only [z1]; cbv) | simp only [z1] | (simp only [d1]; cbv) | simp only [d1] | (refine ⟨_, hlx, ?_⟩; cbv) | (simp only [l1]; cbv) | simp only [l1] | (refine ⟨p0,_,g1, ?_⟩; cbv) | (simp only [q1]; cbv) | simp only [q1] | (refine ⟨_, hk1, ?_⟩; cbv) | (refine ⟨_, hk2, ?_⟩; cbv))
      · obtain ⟨R, hR⟩ : ∃ x : List (List PV), tkRows (s.size : Nat) ts = x := ⟨_, rfl⟩
        rw [hR] at hlx
        have hRl : R.length = ts.length := by rw [← hR, tkRows_len]
        obtain ⟨m, hm⟩ : ∃ x : Int, ((R.length : Nat) : Int) = x := ⟨_, rfl⟩
        have d2 : decide (m = 1) = false := decide_eq_false (by omega)
        refine ret_by tyT_ok gl_gr mixed (fun _ => 0) Tryd.func6 rfl (by kernel_rfl) (by kernel_rfl) rfl fun P G E hc hE => ?_
        replace ha := hc _ _ _ ha
        replace hlx := hc _ _ _ hlx
        replace hk1 := hc _ _ _ hk1
        replace hk2 := hc _ _ _ hk2
        have z1 : E.size s = n := by rw [hE]; exact hn
        have d1 : E.lti 40 n = false := by rw [hE]; exact decide_eq_false (by omega)
        have l1 : E.ofN R.length = m := by rw [hE]; exact hm
        clear hE hc hn hbig hR hb hK h1 hRl hm
        cbv at l1
        cbv
        repeat (first | (refine ⟨_, ha, ?_⟩; cbv) | (simp only [z1]; cbv) | simp only [z1] | (simp only [d1]; cbv) | simp only [d1] | (refine ⟨_, hlx, ?_⟩; cbv) | (simp only [l1]; cbv) | simp only [l1] | (simp only [d2]; cbv) | simp only [d2] | (refine ⟨_, hk1, ?_⟩; cbv) | (refine ⟨_, hk2, ?_⟩; cbv))
end Go.Proofs.YtnhbboknffppiaaDoor
