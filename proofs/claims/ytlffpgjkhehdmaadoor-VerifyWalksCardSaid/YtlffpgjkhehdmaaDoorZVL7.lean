/- Own work: knapsacklaw29.VerifyWalks returns true, for every program and every way. -/
import Derived.Test.YtlffpgjkhehdmaaDoorZVL6
namespace Go.Proofs.YtlffpgjkhehdmaaDoor
open Go.RowKit
set_option maxRecDepth 100000

set_option maxHeartbeats 4000000 in
theorem lwalks_ret (fs : List Fn) (hw : ∀ f ∈ fs, FnSz f) (x : Int) (hx : 0 ≤ x ∧ x ≤ 255) (ws : List Int) (hws : ∀ b ∈ ws, 0 ≤ b ∧ b ≤ 255) : RT 7 [pProg fs, pU6 x, .ro 1 (pW ws)] (pB true) := by
  have ha := awake29_ret
  have hfew := few_ret fs hw 4 (by omega)
  have hl : (pFns fs).length = fs.length := by simp [pFns]
  have hwl : (pW ws).length = ws.length := by simp [pW]
  cases hp : fewP fs 4
  · rw [hp] at hfew
    unfold pProg at hfew ⊢
    generalize pFns fs = F at *
    generalize pW ws = WS at *
    refine ret_by tyT_ok tabs_gr mixed (fun n => match n with | 12 => 13 | 21 => 14 | _ => 0) Tryd.func7 rfl (by kernel_rfl) (by kernel_rfl) rfl fun P G E hc hE => ?_
    replace ha := hc _ _ _ ha
    replace hfew := hc _ _ _ hfew
    clear hl hwl
    cbv
    repeat (first | (refine ⟨_, ha, ?_⟩; cbv) | (refine ⟨_, hfew, ?_⟩; cbv))
  · rw [hp] at hfew
    have hn := fewP_len6 hp
    obtain ⟨n, hnn⟩ : ∃ n, fs.length = n := ⟨_, rfl⟩
    obtain ⟨nW, hnW⟩ : ∃ n, ws.length = n := ⟨_, rfl⟩
    rcases Nat.eq_zero_or_pos n with h0 | h0
    · rw [hnn] at hl
      unfold pProg at hfew ⊢
      generalize pFns fs = F at *
      generalize pW ws = WS at *
      refine ret_by tyT_ok tabs_gr mixed (fun n => match n with | 12 => 13 | 21 => 14 | _ => 0) Tryd.func7 rfl (by kernel_rfl) (by kernel_rfl) rfl fun P G E hc hE => ?_
      replace ha := hc _ _ _ ha
      replace hfew := hc _ _ _ hfew
      have e0 : decide (E.ofN n = 0) = true := by rw [hE, h0]; rfl
      clear hwl
      cbv at hl
      cbv
      repeat (first | (refine ⟨_, ha, ?_⟩; cbv) | (refine ⟨_, hfew, ?_⟩; cbv) | (simp only [hl]; cbv) | simp only [hl] | (simp only [e0]; cbv) | simp only [e0])
    · rcases Nat.lt_or_ge 200 nW with h2 | h2
      · rw [hnn] at hl
        rw [hnW] at hwl
        unfold pProg at hfew ⊢
        generalize pFns fs = F at *
        generalize pW ws = WS at *
        refine ret_by tyT_ok tabs_gr mixed (fun n => match n with | 12 => 13 | 21 => 14 | _ => 0) Tryd.func7 rfl (by kernel_rfl) (by kernel_rfl) rfl fun P G E hc hE => ?_
        replace ha := hc _ _ _ ha
        replace hfew := hc _ _ _ hfew
        have e0 : decide (E.ofN n = 0) = false := by rw [hE]; exact decide_eq_false (show ¬ (n : Int) = 0 by omega)
        have e1 : E.lti 200 (E.ofN nW) = true := by rw [hE]; exact decide_eq_true (show (200 : Int) < (nW : Int) by omega)
        cbv at hl hwl
        cbv
        repeat (first | (refine ⟨_, ha, ?_⟩; cbv) | (refine ⟨_, hfew, ?_⟩; cbv) | (simp only [hl]; cbv) | simp only [hl] | (simp only [e0]; cbv) | simp only [e0] | (simp only [hwl]; cbv) | simp only [hwl] | (simp only [e1]; cbv) | simp only [e1])
      · obtain ⟨kk, hkk⟩ : ∃ y, x.tmod n = y := ⟨_, rfl⟩
        have hk0 : 0 ≤ kk ∧ kk < n := by
          rw [← hkk, Int.tmod_eq_emod_of_nonneg hx.1]
          exact ⟨Int.emod_nonneg _ (by omega), Int.emod_lt_of_pos _ (by omega)⟩
        have hsv := shapesV_ret fs hw (by omega) kk
        rw [hnn] at hl
        rw [hnW] at hwl
        cases hq : shapesQ fs kk with
        | error e =>
          have he := shapesQ_err hq
          rw [hq] at hsv
          simp only [pSR] at hsv
          unfold pProg at hfew hsv ⊢
          generalize pFns fs = F at *
          generalize pW ws = WS at *
          refine ret_by tyT_ok tabs_gr mixed (fun n => match n with | 12 => 13 | 21 => 14 | _ => 0) Tryd.func7 rfl (by kernel_rfl) (by kernel_rfl) rfl fun P G E hc hE => ?_
          replace ha := hc _ _ _ ha
          replace hfew := hc _ _ _ hfew
          replace hsv := hc _ _ _ hsv
          have e0 : decide (E.ofN n = 0) = false := by rw [hE]; exact decide_eq_false (show ¬ (n : Int) = 0 by omega)
          have e1 : E.lti 200 (E.ofN nW) = false := by rw [hE]; exact decide_eq_false (show ¬ (200 : Int) < (nW : Int) by omega)
          have w1 : E.wrap .i64 x = x := by rw [hE]; exact wrap_i64_in (by omega) (by omega)
          have w2 : E.rem x (E.ofN n) = kk := by rw [hE]; exact hkk
          have hz : E.ofN n = 0 → False := by rw [hE]; intro h; have h : (n : Int) = 0 := h; omega
          have e2 : decide (e = 0) = false := decide_eq_false he
          have e3 : decide (E.ofN 0 = 0) = true := by rw [hE]; rfl
          clear hq hp hkk
          cbv at hl hwl
          cbv
          repeat (first | (refine ⟨_, ha, ?_⟩; cbv) | (refine ⟨_, hfew, ?_⟩; cbv) | (simp only [hl]; cbv) | simp only [hl] | (simp only [e0]; cbv) | simp only [e0] | (simp only [hwl]; cbv) | simp only [hwl] | (simp only [e1]; cbv) | simp only [e1] | (simp only [w1]; cbv) | simp only [w1] | (simp only [w2]; cbv) | simp only [w2] | (refine ⟨hz, ?_⟩; cbv) | (refine ⟨_, hsv, ?_⟩; cbv) | (simp only [e2]; cbv) | simp only [e2] | (simp only [e3]; cbv) | simp only [e3])
        | ok l =>
          obtain ⟨hF, f, hf1, hf2⟩ := shapesQ_ok hq
          have hv := progF_fnV hF f (List.mem_of_getElem? hf1)
          obtain ⟨hsf, htb⟩ := (shapesP_spec hv).1 l hf2
          have key := walks_loop (pFns fs) f hv hsf l htb ws hws nW hnW h2
          rw [hq] at hsv
          simp only [pSR] at hsv
          have gr := pFns_get hf1
          unfold pFn at gr
          unfold pProg at hfew hsv ⊢
          generalize pFns fs = F at *
          generalize pW ws = WS at *
          generalize pSh l = LS at *
          generalize pCode f.code = CD at *
          generalize pCons f.consts = CS at *
          generalize pHdls f.hdls = HR at *
          generalize f.name = fnm at *
          generalize f.kind = fkd at *
          generalize f.params = fpa at *
          generalize f.locals = flo at *
          refine ret_cut tyT_ok tabs_gr (f := 7) Tryd.func7 rfl (by kernel_rfl) (of_decide_eq_true (by kernel_rfl)) ?_
          refine Seg.cutK 7 201 [2, 8, 10, 11, 12] 3 (fun _ : Unit => [.p (.ro 1 WS), .p (.ro 2 LS), .own 1 0, .p (pI 0), .own 2 0]) (fun _ => [some (.box [.p (.ro 7 F)] 33 none), some (.box [.p (pS fnm), .p (pI fkd), .p (pI fpa), .p (pI flo), .p (.ro 3 CD), .p (.ro 3 CS), .p (.ro 5 HR)] 50 none), some (.box [.p (pI 0), .p (pI 0)] 52 none)]) (fun _ => True) tyT_ok mixed (fun n => match n with | 12 => 13 | 21 => 14 | _ => 0) (fun E => retQ E tyT Tryd.f7.results.toList (pB true)) (by kernel_rfl) ?_ (fun _ _ => key)
          intro P G E hc hMM hE
          replace ha := hc _ _ _ ha
          replace hfew := hc _ _ _ hfew
          replace hsv := hc _ _ _ hsv
          have e0 : decide (E.ofN n = 0) = false := by rw [hE]; exact decide_eq_false (show ¬ (n : Int) = 0 by omega)
          have e1 : E.lti 200 (E.ofN nW) = false := by rw [hE]; exact decide_eq_false (show ¬ (200 : Int) < (nW : Int) by omega)
          have w1 : E.wrap .i64 x = x := by rw [hE]; exact wrap_i64_in (by omega) (by omega)
          have w2 : E.rem x (E.ofN n) = kk := by rw [hE]; exact hkk
          have hz : E.ofN n = 0 → False := by rw [hE]; intro h; have h : (n : Int) = 0 := h; omega
          have p1 : E.ple 0 kk := by rw [hE]; exact hk0.1
          have enat : E.nat kk = kk.toNat := by rw [hE]; rfl
          rw [← enat] at gr
          clear hq hp hkk key hf1 hf2 hv hsf htb hF
          cbv at hl hwl
          cbv
          repeat (first | (refine ⟨_, ha, ?_⟩; cbv) | (refine ⟨_, hfew, ?_⟩; cbv) | (simp only [hl]; cbv) | simp only [hl] | (simp only [e0]; cbv) | simp only [e0] | (simp only [hwl]; cbv) | simp only [hwl] | (simp only [e1]; cbv) | simp only [e1] | (simp only [w1]; cbv) | simp only [w1] | (simp only [w2]; cbv) | simp only [w2] | (refine ⟨hz, ?_⟩; cbv) | (refine ⟨_, hsv, ?_⟩; cbv) | (refine ⟨p1,_,gr, ?_⟩; cbv))
          exact .mk () ⟨rfl, rfl, rfl, rfl, rfl⟩ trivial
end Go.Proofs.YtlffpgjkhehdmaaDoor
