/- Own work: knapsacklaw25.LexerJoins returns true. -/
import Derived.Test.YtnhbboknffppiaaDoorYLJ3
namespace Go.Proofs.YtnhbboknffppiaaDoor
open Go.RowKit
set_option maxRecDepth 100000
set_option linter.unusedSimpArgs false

theorem joins_lex {L : List TJ} (h : L.all okT = true) : ∃ ts : List Tk, lexB (joinW L) = (ts, none) ∧ ts.map (fun x => (x.k, x.t)) = L.map (fun x => (x.k, x.t.data.toList)) := by
  obtain ⟨ts, h1, h2⟩ := lex_join uB repairL (L.map fun x => ((wr x).data.toList, x.k, x.t.data.toList)) (fun y hy => by
    obtain ⟨x, hx, rfl⟩ := List.mem_map.1 hy
    exact okT_one (List.all_eq_true.1 h x hx))
  rw [List.map_map] at h1 h2
  exact ⟨ts, h1, h2⟩
theorem joins_same {L : List TJ} {ts : List Tk} (h : ts.map (fun x => (x.k, x.t)) = L.map (fun x => (x.k, x.t.data.toList))) (h60 : L.length ≤ 60) (n : Int) : V0 14 [.ro 3 (tkRows n ts), .ro 3 (tjRows L), pB false] (pB true) := by
  have hl : ts.length = L.length := by
    have := congrArg List.length h
    rw [List.length_map, List.length_map] at this
    exact this
  refine same_ret _ _ _ (by rw [tkRows_len, tjRows_len]; exact hl) (by rw [tkRows_len]; omega) fun i hi => ?_
  rw [tkRows_len] at hi
  have hx := List.getElem?_eq_getElem hi
  have hy := List.getElem?_eq_getElem (l := L) (i := i) (by omega)
  have h1 := congrArg (fun l : List (Int × Bs) => l[i]?) h
  simp only [List.getElem?_map, hx, hy, Option.map_some, Option.some.injEq, Prod.mk.injEq] at h1
  refine ⟨_, _, _, (L[i]'(by omega)).a, tkRows_at hx, ?_, fun e => by cases e⟩
  rw [h1.1, h1.2]
  exact tjRows_at hy
structure JsI (L : List TJ) (n : Int) (i : Int) : Prop where
  i0 : 0 ≤ i
  i1 : i ≤ n
  al : ∀ j : Nat, (j : Int) < i → ∀ x, L[j]? = some x → x.t.size ≤ 60
set_option maxHeartbeats 4000000 in
theorem ljoins_ret (L : List TJ) : RL 10 [.ro 3 (tjRows L)] (pB true) := by
  have ha := awake_ret
  obtain ⟨n, hn⟩ : ∃ n : Int, ((L.length : Nat) : Int) = n := ⟨_, rfl⟩
  have hAl : (((tjRows L).length : Nat) : Int) = n := by rw [tjRows_len]; exact hn
  rcases Classical.em (60 < n) with hbig | hbig
  · obtain ⟨A, hA⟩ : ∃ y, tjRows L = y := ⟨_, rfl⟩
    rw [hA] at hAl ⊢
    refine ret_by tyT_ok gl_gr mixed (fun _ => 0) Tryd.func10 rfl (by kernel_rfl) (by kernel_rfl) rfl fun P G E hc hE => ?_
    replace ha := hc _ _ _ ha
    have l0 : E.ofN A.length = n := by rw [hE]; exact hAl
    have d1 : E.lti 60 n = true := by rw [hE]; exact decide_eq_true hbig
    clear hE hc hn hbig
    cbv at l0
    cbv
    repeat (first | (refine ⟨_, ha, ?_⟩; cbv) | (simp only [l0]; cbv) | simp only [l0] | (simp only [d1]; cbv) | simp only [d1])
  have hAt : ∀ (i : Int) x, L[i.toNat]? = some x → (tjRows L)[i.toNat]? = some [pI x.k, pS x.t, pI x.a] := fun i x h => tjRows_at h
  have hget : ∀ i : Int, 0 ≤ i → i < n → ∃ x, L[i.toNat]? = some x := fun i hi0 hi1 => ⟨_, List.getElem?_eq_getElem (by omega)⟩
  have hI0 : JsI L n 0 := ⟨Int.le_refl _, by omega, fun j hj => by omega⟩
  obtain ⟨μ, hμ⟩ : ∃ μ : Int → Nat, ∀ x, μ x = 2000000000 - x.toNat := ⟨_, fun _ => rfl⟩
  rcases Classical.em (∀ x ∈ L, x.t.size ≤ 60) with hall | hall
  · have h60 : L.length ≤ 60 := by omega
    have hj1 := ljoin_ret L h60 hall
    have hj2 := upL (rjoin_ret L h60 hall)
    cases hok : L.all okT with
    | false =>
      have hv : joinR L = .tup [pS ⟨#[]⟩, pI 3] := by unfold joinR; rw [hok]; rfl
      rw [hv] at hj1 hj2
      obtain ⟨A, hA⟩ : ∃ y, tjRows L = y := ⟨_, rfl⟩
      rw [hA] at hAl hAt hj1 hj2 ⊢
      clear hv hok
      refine ret_by tyT_ok gl_gr mixed (fun _ => 0) Tryd.func10 rfl (by kernel_rfl) (by kernel_rfl) rfl fun P G E hc hE => ?_
      replace ha := hc _ _ _ ha
      replace hj1 := hc _ _ _ hj1
      replace hj2 := hc _ _ _ hj2
      have l0 : E.ofN A.length = n := by rw [hE]; exact hAl
      have elt : ∀ a b, E.lti a b = decide (a < b) := fun a b => by rw [hE]; rfl
      have eple : ∀ a b, a ≤ b → E.ple a b := fun a b h => by rw [hE]; exact h
      have egA : ∀ (i : Int) x, L[i.toNat]? = some x → A[E.nat i]? = some [pI x.k, pS x.t, pI x.a] := fun i x h => by rw [hE]; exact hAt i x h
      have eadd : ∀ a b : Int, -1000000000 ≤ a → a ≤ 1000000000 → -1000000000 ≤ b → b ≤ 1000000000 → E.wadd .i64 a b = a + b := fun a b h0 h1 h2 h3 => by rw [hE]; exact wrap_i64_in (by omega) (by omega)
      have esz : ∀ a : ByteArray, E.size a = ((a.size : Nat) : Int) := fun a => by rw [hE]; rfl
      have eeq : ∀ a, E.eq a a = true := fun a => by rw [hE]; exact decide_eq_true rfl
      have d0 : E.lti 60 n = false := by rw [elt]; exact decide_eq_false (by omega)
      clear hE hc hAt
      cbv at l0
      cbv
      repeat (first | (refine ⟨_, ha, ?_⟩; cbv) | (simp only [l0]; cbv) | simp only [l0] | (simp only [d0]; cbv) | simp only [d0])
      refine loop_by 71 [0, 3] 0 (fun y : Int => [.p (.ro 3 A), .p (pI y)]) (fun _ => []) (JsI L n) μ 0 ⟨rfl, rfl, rfl, rfl, rfl⟩ hI0 ?_
      clear hI0
      rintro i ⟨i0, i1, hal⟩
      replace hn : ((L.length : Nat) : Int) = n := hn
      rcases Classical.em (i < n) with hlt | hlt
      · skip
        have d1 : E.lti i n = true := by rw [elt]; exact decide_eq_true hlt
        obtain ⟨x, hx⟩ := hget i i0 hlt
        have g1 := egA i x hx
        have p1 := eple 0 i i0
        obtain ⟨z, hz⟩ : ∃ z : Int, ((x.t.size : Nat) : Int) = z := ⟨_, rfl⟩
        have z1 := (esz x.t).trans hz
        have hzs := hall x (List.mem_of_getElem? hx)
        have d2 : E.lti 60 z = false := by rw [elt]; exact decide_eq_false (by omega)
        obtain ⟨i2, hi2⟩ : ∃ y : Int, i + 1 = y := ⟨_, rfl⟩
        have ei := eadd i 1 (by omega) (by omega) (by omega) (by omega)
        rw [hi2] at ei
        have hI2 : JsI L n i2 := ⟨by omega, by omega, fun j hj y hy => by
          by_cases h : (j : Int) < i
          · exact hal j h y hy
          · rw [show j = i.toNat by omega, hx] at hy
            cases hy
            omega⟩
        have hM2 : μ i2 < μ i := by rw [hμ, hμ]; omega
        obtain ⟨k, t, a⟩ := x
        simp only at g1 z1
        clear hget elt eple egA eadd esz eeq hal hx hz hi2 hμ hn hlt hall hj1 hj2
        cbv
        repeat (first | (simp only [l0]; cbv) | simp only [l0] | (simp only [d1]; cbv) | simp only [d1] | (refine ⟨p1,_,g1, ?_⟩; cbv) | (simp only [z1]; cbv) | simp only [z1] | (simp only [d2]; cbv) | simp only [d2] | (simp only [ei]; cbv) | simp only [ei])
        refine .mk i2 ⟨rfl, rfl, rfl, rfl, rfl⟩ ?_ ?_
        · exact hI2
        · exact hM2
      · have d1 : E.lti i n = false := by rw [elt]; exact decide_eq_false hlt
        have f0 : decide ((0 : Int) = 0) = true := rfl
        have f3 : decide ((3 : Int) = 3) = true := rfl
        have f4 : decide ((3 : Int) = 0) = false := rfl
        have q1 := eeq ⟨#[]⟩
        clear hget elt eple egA eadd esz eeq hal hμ hn hlt hall
        cbv
        repeat (first | (simp only [l0]; cbv) | simp only [l0] | (simp only [d1]; cbv) | simp only [d1] | (refine ⟨_, hj1, ?_⟩; cbv) | (refine ⟨_, hj2, ?_⟩; cbv) | (simp only [f3]; cbv) | simp only [f3] | (simp only [q1]; cbv) | simp only [q1] | (simp only [f4]; cbv) | simp only [f4])
    | true =>
      have hv : joinR L = .tup [pS (bL (joinW L)), pI 0] := by unfold joinR; rw [hok]; rfl
      rw [hv] at hj1 hj2
      obtain ⟨ts, ht1, ht2⟩ := joins_lex hok
      have hJl : (joinW L).length ≤ 60060 := by have := joinW_len hall; omega
      have hlx := lex_ret (bL (joinW L)) (by show (joinW L).length ≤ 900000; omega)
      rw [lexR_ok (show lexB (bL (joinW L)).data.toList = (ts, none) by rw [show (bL (joinW L)).data.toList = joinW L by unfold bL; simp]; exact ht1)] at hlx
      have hsa := upL (joins_same ht2 h60 (((bL (joinW L)).size : Nat) : Int))
      obtain ⟨B, hB⟩ : ∃ y, tkRows (((bL (joinW L)).size : Nat) : Int) ts = y := ⟨_, rfl⟩
      rw [hB] at hlx hsa
      obtain ⟨J, hJ⟩ : ∃ y, bL (joinW L) = y := ⟨_, rfl⟩
      rw [hJ] at hlx hj1 hj2
      obtain ⟨A, hA⟩ : ∃ y, tjRows L = y := ⟨_, rfl⟩
      rw [hA] at hAl hAt hj1 hj2 hsa ⊢
      clear hv hok hB hJ
      refine ret_by tyT_ok gl_gr mixed (fun _ => 0) Tryd.func10 rfl (by kernel_rfl) (by kernel_rfl) rfl fun P G E hc hE => ?_
      replace ha := hc _ _ _ ha
      replace hj1 := hc _ _ _ hj1
      replace hj2 := hc _ _ _ hj2
      replace hlx := hc _ _ _ hlx
      replace hsa := hc _ _ _ hsa
      have l0 : E.ofN A.length = n := by rw [hE]; exact hAl
      have elt : ∀ a b, E.lti a b = decide (a < b) := fun a b => by rw [hE]; rfl
      have eple : ∀ a b, a ≤ b → E.ple a b := fun a b h => by rw [hE]; exact h
      have egA : ∀ (i : Int) x, L[i.toNat]? = some x → A[E.nat i]? = some [pI x.k, pS x.t, pI x.a] := fun i x h => by rw [hE]; exact hAt i x h
      have eadd : ∀ a b : Int, -1000000000 ≤ a → a ≤ 1000000000 → -1000000000 ≤ b → b ≤ 1000000000 → E.wadd .i64 a b = a + b := fun a b h0 h1 h2 h3 => by rw [hE]; exact wrap_i64_in (by omega) (by omega)
      have esz : ∀ a : ByteArray, E.size a = ((a.size : Nat) : Int) := fun a => by rw [hE]; rfl
      have eeq : ∀ a, E.eq a a = true := fun a => by rw [hE]; exact decide_eq_true rfl
      have d0 : E.lti 60 n = false := by rw [elt]; exact decide_eq_false (by omega)
      clear hE hc hAt
      cbv at l0
      cbv
      repeat (first | (refine ⟨_, ha, ?_⟩; cbv) | (simp only [l0]; cbv) | simp only [l0] | (simp only [d0]; cbv) | simp only [d0])
      refine loop_by 71 [0, 3] 0 (fun y : Int => [.p (.ro 3 A), .p (pI y)]) (fun _ => []) (JsI L n) μ 0 ⟨rfl, rfl, rfl, rfl, rfl⟩ hI0 ?_
      clear hI0
      rintro i ⟨i0, i1, hal⟩
      replace hn : ((L.length : Nat) : Int) = n := hn
      rcases Classical.em (i < n) with hlt | hlt
      · skip
        have d1 : E.lti i n = true := by rw [elt]; exact decide_eq_true hlt
        obtain ⟨x, hx⟩ := hget i i0 hlt
        have g1 := egA i x hx
        have p1 := eple 0 i i0
        obtain ⟨z, hz⟩ : ∃ z : Int, ((x.t.size : Nat) : Int) = z := ⟨_, rfl⟩
        have z1 := (esz x.t).trans hz
        have hzs := hall x (List.mem_of_getElem? hx)
        have d2 : E.lti 60 z = false := by rw [elt]; exact decide_eq_false (by omega)
        obtain ⟨i2, hi2⟩ : ∃ y : Int, i + 1 = y := ⟨_, rfl⟩
        have ei := eadd i 1 (by omega) (by omega) (by omega) (by omega)
        rw [hi2] at ei
        have hI2 : JsI L n i2 := ⟨by omega, by omega, fun j hj y hy => by
          by_cases h : (j : Int) < i
          · exact hal j h y hy
          · rw [show j = i.toNat by omega, hx] at hy
            cases hy
            omega⟩
        have hM2 : μ i2 < μ i := by rw [hμ, hμ]; omega
        obtain ⟨k, t, a⟩ := x
        simp only at g1 z1
        clear hget elt eple egA eadd esz eeq hal hx hz hi2 hμ hn hlt hall hj1 hj2 hlx hsa
        cbv
        repeat (first | (simp only [l0]; cbv) | simp only [l0] | (simp only [d1]; cbv) | simp only [d1] | (refine ⟨p1,_,g1, ?_⟩; cbv) | (simp only [z1]; cbv) | simp only [z1] | (simp only [d2]; cbv) | simp only [d2] | (simp only [ei]; cbv) | simp only [ei])
        refine .mk i2 ⟨rfl, rfl, rfl, rfl, rfl⟩ ?_ ?_
        · exact hI2
        · exact hM2
      · have d1 : E.lti i n = false := by rw [elt]; exact decide_eq_false hlt
        have f0 : decide ((0 : Int) = 0) = true := rfl
        have q1 := eeq J
        clear hget elt eple egA eadd esz eeq hal hμ hn hlt hall
        cbv
        repeat (first | (simp only [l0]; cbv) | simp only [l0] | (simp only [d1]; cbv) | simp only [d1] | (refine ⟨_, hj1, ?_⟩; cbv) | (refine ⟨_, hj2, ?_⟩; cbv) | (simp only [f0]; cbv) | simp only [f0] | (simp only [q1]; cbv) | simp only [q1] | (refine ⟨_, hlx, ?_⟩; cbv) | (refine ⟨_, hsa, ?_⟩; cbv))
  · obtain ⟨A, hA⟩ : ∃ y, tjRows L = y := ⟨_, rfl⟩
    rw [hA] at hAl hAt ⊢
    refine ret_by tyT_ok gl_gr mixed (fun _ => 0) Tryd.func10 rfl (by kernel_rfl) (by kernel_rfl) rfl fun P G E hc hE => ?_
    replace ha := hc _ _ _ ha
    have l0 : E.ofN A.length = n := by rw [hE]; exact hAl
    have elt : ∀ a b, E.lti a b = decide (a < b) := fun a b => by rw [hE]; rfl
    have eple : ∀ a b, a ≤ b → E.ple a b := fun a b h => by rw [hE]; exact h
    have egA : ∀ (i : Int) x, L[i.toNat]? = some x → A[E.nat i]? = some [pI x.k, pS x.t, pI x.a] := fun i x h => by rw [hE]; exact hAt i x h
    have eadd : ∀ a b : Int, -1000000000 ≤ a → a ≤ 1000000000 → -1000000000 ≤ b → b ≤ 1000000000 → E.wadd .i64 a b = a + b := fun a b h0 h1 h2 h3 => by rw [hE]; exact wrap_i64_in (by omega) (by omega)
    have esz : ∀ a : ByteArray, E.size a = ((a.size : Nat) : Int) := fun a => by rw [hE]; rfl
    have eeq : ∀ a, E.eq a a = true := fun a => by rw [hE]; exact decide_eq_true rfl
    have d0 : E.lti 60 n = false := by rw [elt]; exact decide_eq_false (by omega)
    clear hE hc hAt
    cbv at l0
    cbv
    repeat (first | (refine ⟨_, ha, ?_⟩; cbv) | (simp only [l0]; cbv) | simp only [l0] | (simp only [d0]; cbv) | simp only [d0])
    refine loop_by 71 [0, 3] 0 (fun y : Int => [.p (.ro 3 A), .p (pI y)]) (fun _ => []) (JsI L n) μ 0 ⟨rfl, rfl, rfl, rfl, rfl⟩ hI0 ?_
    clear hI0
    rintro i ⟨i0, i1, hal⟩
    replace hn : ((L.length : Nat) : Int) = n := hn
    rcases Classical.em (i < n) with hlt | hlt
    · skip
      have d1 : E.lti i n = true := by rw [elt]; exact decide_eq_true hlt
      obtain ⟨x, hx⟩ := hget i i0 hlt
      have g1 := egA i x hx
      have p1 := eple 0 i i0
      obtain ⟨z, hz⟩ : ∃ z : Int, ((x.t.size : Nat) : Int) = z := ⟨_, rfl⟩
      have z1 := (esz x.t).trans hz
      rcases Classical.em (60 < z) with hzb | hzb
      · have d2 : E.lti 60 z = true := by rw [elt]; exact decide_eq_true hzb
        obtain ⟨k, t, a⟩ := x
        simp only at g1 z1
        clear hget elt eple egA eadd esz eeq hal hx hz hμ hn hlt hall hzb
        cbv
        repeat (first | (simp only [l0]; cbv) | simp only [l0] | (simp only [d1]; cbv) | simp only [d1] | (refine ⟨p1,_,g1, ?_⟩; cbv) | (simp only [z1]; cbv) | simp only [z1] | (simp only [d2]; cbv) | simp only [d2])
      · have hzs : x.t.size ≤ 60 := by omega
        have d2 : E.lti 60 z = false := by rw [elt]; exact decide_eq_false (by omega)
        obtain ⟨i2, hi2⟩ : ∃ y : Int, i + 1 = y := ⟨_, rfl⟩
        have ei := eadd i 1 (by omega) (by omega) (by omega) (by omega)
        rw [hi2] at ei
        have hI2 : JsI L n i2 := ⟨by omega, by omega, fun j hj y hy => by
          by_cases h : (j : Int) < i
          · exact hal j h y hy
          · rw [show j = i.toNat by omega, hx] at hy
            cases hy
            omega⟩
        have hM2 : μ i2 < μ i := by rw [hμ, hμ]; omega
        obtain ⟨k, t, a⟩ := x
        simp only at g1 z1
        clear hget elt eple egA eadd esz eeq hal hx hz hi2 hμ hn hlt hall
        cbv
        repeat (first | (simp only [l0]; cbv) | simp only [l0] | (simp only [d1]; cbv) | simp only [d1] | (refine ⟨p1,_,g1, ?_⟩; cbv) | (simp only [z1]; cbv) | simp only [z1] | (simp only [d2]; cbv) | simp only [d2] | (simp only [ei]; cbv) | simp only [ei])
        refine .mk i2 ⟨rfl, rfl, rfl, rfl, rfl⟩ ?_ ?_
        · exact hI2
        · exact hM2
    · exfalso
      refine hall fun x hx => ?_
      obtain ⟨j, hj⟩ := List.mem_iff_getElem?.1 hx
      have hjl := (List.getElem?_eq_some_iff.1 hj).1
      exact hal j (by omega) x hj
end Go.Proofs.YtnhbboknffppiaaDoor
