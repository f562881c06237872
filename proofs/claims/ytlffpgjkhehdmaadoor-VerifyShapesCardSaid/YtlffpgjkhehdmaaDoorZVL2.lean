/- Own work: knapsacklaw29.VerifyShapes returns true. -/
import Derived.Test.YtlffpgjkhehdmaaDoorZVL1
namespace Go.Proofs.YtlffpgjkhehdmaaDoor
open Go.RowKit
set_option maxRecDepth 100000
set_option linter.unusedSimpArgs false

theorem shapesQ_ok {fs : List Fn} {i : Int} {x : Fn} (hp : progF fs = true) (h0 : 0 ≤ i) (hx : fs[i.toNat]? = some x) : shapesQ fs i = (match shapesP x with
    | some l => .ok l
    | none => .error 11) := by
  have hlt := (List.getElem?_eq_some_iff.1 hx).1
  unfold shapesQ
  rw [if_pos hp, if_pos (by omega), hx]
  rfl
set_option maxHeartbeats 2000000 in
theorem lshapes_ret (fs : List Fn) (hw : ∀ f ∈ fs, FnSz f) (i : Int) : RT 10 [pProg fs, pI i] (pB true) := by
  have ha := awake29_ret
  have hfew := few_ret fs hw 4 (by omega)
  cases hp : fewP fs 4 with
  | false =>
    rw [hp] at hfew
    unfold pProg at hfew ⊢
    generalize pFns fs = F at *
    refine ret_by tyT_ok tabs_gr mixed (fun n => match n with | 20 => 9 | _ => 0) Tryd.func10 rfl (by kernel_rfl) (by kernel_rfl) rfl fun P G E hc hE => ?_
    replace ha := hc _ _ _ ha
    replace hfew := hc _ _ _ hfew
    cbv
    repeat (first | (refine ⟨_, ha, ?_⟩; cbv) | (refine ⟨_, hfew, ?_⟩; cbv))
  | true =>
    rw [hp] at hfew
    have hn : fs.length ≤ 1000000 := by have := fewP_len hp; omega
    have hs := shapesV_ret fs hw hn i
    have hd := deepest_ret fs hw hn i
    have hf := rformed_ret fs hw hn
    cases hpf : progF fs with
    | false =>
      rw [hpf] at hf
      have hq : shapesQ fs i = .error 3 := by unfold shapesQ; rw [hpf]; rfl
      rw [hq] at hs hd
      simp only [pSR, pDR] at hs hd
      unfold pProg at *
      generalize pFns fs = F at *
      clear hq hpf hn hp hw
      refine ret_by tyT_ok tabs_gr mixed (fun n => match n with | 20 => 9 | _ => 0) Tryd.func10 rfl (by kernel_rfl) (by kernel_rfl) rfl fun P G E hc hE => ?_
      replace ha := hc _ _ _ ha
      replace hfew := hc _ _ _ hfew
      replace hs := hc _ _ _ hs
      replace hd := hc _ _ _ hd
      replace hf := hc _ _ _ hf
      have k2 : E.ofN 0 = 0 := by rw [hE]; rfl
      cbv
      repeat (first | (refine ⟨_, ha, ?_⟩; cbv) | (refine ⟨_, hfew, ?_⟩; cbv) | (refine ⟨_, hs, ?_⟩; cbv) | (refine ⟨_, hd, ?_⟩; cbv) | (refine ⟨_, hf, ?_⟩; cbv) | (simp only [k2]; cbv) | simp only [k2])
    | true =>
      rw [hpf] at hf
      by_cases hr : 0 ≤ i ∧ i < fs.length
      · obtain ⟨h0, h1⟩ := hr
        obtain ⟨x, hx⟩ : ∃ x, fs[i.toNat]? = some x := ⟨_, List.getElem?_eq_getElem (by omega)⟩
        have hq := shapesQ_ok hpf h0 hx
        have gr := pFns_get hx
        have hmem := List.mem_of_getElem? hx
        have hv := progF_fnV hpf x hmem
        have hw1 := up0 (rshapes_ret x hv (progF_fnH hpf x hmem))
        have hl : (pFns fs).length = fs.length := by simp [pFns]
        cases hsx : shapesP x with
        | none =>
          rw [hsx] at hw1 hq
          rw [hq] at hs hd
          simp only [pSR, pDR, shR] at hs hd hw1
          unfold pProg at *
          unfold pFn at gr hw1
          generalize pCode x.code = c1 at *
          generalize pCons x.consts = c2 at *
          generalize pHdls x.hdls = c3 at *
          generalize pFns fs = F at *
          obtain ⟨n, hnn⟩ : ∃ n, fs.length = n := ⟨_, rfl⟩
          rw [hnn] at hl h1
          refine ret_by tyT_ok tabs_gr mixed (fun n => match n with | 20 => 9 | _ => 0) Tryd.func10 rfl (by kernel_rfl) (by kernel_rfl) rfl fun P G E hc hE => ?_
          replace ha := hc _ _ _ ha
          replace hfew := hc _ _ _ hfew
          replace hs := hc _ _ _ hs
          replace hd := hc _ _ _ hd
          replace hf := hc _ _ _ hf
          replace hw1 := hc _ _ _ hw1
          have k2 : E.ofN 0 = 0 := by rw [hE]; rfl
          have d1 : E.lti i 0 = false := by rw [hE]; exact decide_eq_false (by omega)
          have d2 : E.lei (E.ofN n) i = false := by rw [hE]; exact decide_eq_false (show ¬ (n : Int) ≤ i by omega)
          have p3 : E.ple 0 i := by rw [hE]; exact h0
          have g2 : F[E.nat i]? = some [pS x.name, pI x.kind, pI x.params, pI x.locals, .ro 3 c1, .ro 3 c2, .ro 5 c3] := by rw [hE]; exact gr
          clear gr hq hsx hx hv hp hnn hmem hw hpf hn
          cbv at hl
          cbv
          repeat (first | (refine ⟨_, ha, ?_⟩; cbv) | (refine ⟨_, hfew, ?_⟩; cbv) | (refine ⟨_, hs, ?_⟩; cbv) | (refine ⟨_, hd, ?_⟩; cbv) | (refine ⟨_, hf, ?_⟩; cbv) | (simp only [hl]; cbv) | simp only [hl] | (simp only [d1]; cbv) | simp only [d1] | (simp only [d2]; cbv) | simp only [d2] | (refine ⟨p3,_,g2, ?_⟩; cbv) | (refine ⟨_, hw1, ?_⟩; cbv) | (simp only [k2]; cbv) | simp only [k2])
        | some l =>
          rw [hsx] at hw1 hq
          rw [hq] at hs hd
          have hll := shapesQ_len hq
          simp only [pSR, pDR, shR] at hs hd hw1
          unfold pProg at *
          unfold pFn at gr hw1
          generalize pCode x.code = c1 at *
          generalize pCons x.consts = c2 at *
          generalize pHdls x.hdls = c3 at *
          generalize pFns fs = F at *
          have hlg : ∀ (k : Nat) p, l[k]? = some p → (pSh l)[k]? = some [pI p.1, pI p.2] := fun k p h => pSh_get h
          have hpl : (pSh l).length = l.length := by simp [pSh]
          obtain ⟨nl, hnl⟩ : ∃ n, l.length = n := ⟨_, rfl⟩
          rw [hnl] at hpl hll
          generalize pSh l = LS at *
          obtain ⟨dp, hdp⟩ : ∃ d, deepP l = d := ⟨_, rfl⟩
          rw [hdp] at hd
          obtain ⟨n, hnn⟩ : ∃ n, fs.length = n := ⟨_, rfl⟩
          rw [hnn] at hl h1
          obtain ⟨μ, hμ⟩ : ∃ μ : Int × Int → Nat, ∀ y, μ y = 70000 - y.1.toNat := ⟨_, fun _ => rfl⟩
          have hx0 : DpI l (0, 0) := ⟨Int.le_refl _, Int.natCast_nonneg _, rfl⟩
          have hend : ∀ y : Int × Int, DpI l y → ¬ y.1 < (nl : Int) → y.2 = dp := fun y hy hj => by
            have h3 := hy.d
            rw [List.take_of_length_le (by rw [hnl]; omega)] at h3
            rw [h3, hdp]
          refine ret_by tyT_ok tabs_gr mixed (fun n => match n with | 20 => 9 | _ => 0) Tryd.func10 rfl (by kernel_rfl) (by kernel_rfl) rfl fun P G E hc hE => ?_
          replace ha := hc _ _ _ ha
          replace hfew := hc _ _ _ hfew
          replace hs := hc _ _ _ hs
          replace hd := hc _ _ _ hd
          replace hf := hc _ _ _ hf
          replace hw1 := hc _ _ _ hw1
          have elt : ∀ a b, E.lti a b = decide (a < b) := fun a b => by rw [hE]; rfl
          have emx : ∀ a b, E.max a b = if a < b then b else a := fun a b => by rw [hE]; rfl
          have eofn : ∀ n, E.ofN n = (n : Int) := fun n => by rw [hE]; rfl
          have enat : ∀ i, E.nat i = i.toNat := fun i => by rw [hE]; rfl
          have eple : ∀ a b, a ≤ b → E.ple a b := fun a b h => by rw [hE]; exact h
          have eadd : ∀ a b : Int, -1000000 ≤ a → a ≤ 1000000 → -1000000 ≤ b → b ≤ 1000000 → E.wadd .i64 a b = a + b := fun a b h0 h1 h2 h3 => by rw [hE]; exact wrap_i64_in (by omega) (by omega)
          have d1 : E.lti i 0 = false := by rw [hE]; exact decide_eq_false (by omega)
          have d2 : E.lei (E.ofN n) i = false := by rw [hE]; exact decide_eq_false (show ¬ (n : Int) ≤ i by omega)
          have p3 : E.ple 0 i := by rw [hE]; exact h0
          have g2 : F[E.nat i]? = some [pS x.name, pI x.kind, pI x.params, pI x.locals, .ro 3 c1, .ro 3 c2, .ro 5 c3] := by rw [hE]; exact gr
          have u2 : decide (E.ofN nl = E.ofN nl) = true := decide_eq_true rfl
          clear gr hq hsx hx hv hp hnn hmem hw hpf hn hE
          cbv at hl hpl
          cbv
          repeat (first | (refine ⟨_, ha, ?_⟩; cbv) | (refine ⟨_, hfew, ?_⟩; cbv) | (refine ⟨_, hs, ?_⟩; cbv) | (refine ⟨_, hd, ?_⟩; cbv) | (refine ⟨_, hf, ?_⟩; cbv) | (simp only [hl]; cbv) | simp only [hl] | (simp only [d1]; cbv) | simp only [d1] | (simp only [d2]; cbv) | simp only [d2] | (refine ⟨p3,_,g2, ?_⟩; cbv) | (refine ⟨_, hw1, ?_⟩; cbv) | (simp only [hpl]; cbv) | simp only [hpl] | (simp only [u2]; cbv) | simp only [u2])
          refine loop_by 126 [5, 7, 9, 11, 12] 0 (fun y : Int × Int => [.p (.ro 2 LS), .p (pI dp), .p (.ro 2 LS), .p (pI y.2), .p (pI y.1)]) (fun _ => []) (DpI l) μ (0, 0) ⟨rfl, rfl, rfl, rfl, rfl⟩ hx0 ?_
          clear hx0
          rintro ⟨j, d⟩ hI
          obtain ⟨i0, i1, hdd⟩ := id hI
          simp only at i0 i1 hdd
          replace hnl : l.length = nl := hnl
          replace hll : nl ≤ 65536 := hll
          replace eofn : ∀ n : Nat, E.ofN n = (n : Int) := eofn
          have dd : E.lti j (E.ofN nl) = decide (j < (nl : Int)) := by rw [eofn, elt]
          rcases Classical.em (j < (nl : Int)) with hj | hj
          · rw [decide_eq_true hj] at dd
            obtain ⟨p, hp⟩ : ∃ p, l[j.toNat]? = some p := ⟨_, List.getElem?_eq_getElem (by omega)⟩
            have gr := hlg _ _ hp
            rw [← enat] at gr
            have p4 := eple 0 j i0
            have ej := eadd j 1 (by omega) (by omega) (by omega) (by omega)
            have hM2 : μ (E.wadd .i64 j 1, E.max d p.1) < μ (j, d) := by rw [hμ, hμ]; simp only [ej]; omega
            have hI2 : DpI l (E.wadd .i64 j 1, E.max d p.1) := by
              refine ⟨by simp only [ej]; omega, by simp only [ej]; omega, ?_⟩
              simp only [ej, emx]
              rw [show (j + 1).toNat = j.toNat + 1 by omega, List.take_add_one, hp, hdd]
              unfold deepP
              rw [List.foldl_append]
              rfl
            obtain ⟨a, b⟩ := p
            simp only at gr hI2 hM2
            have u3 : decide (a = a) = true := decide_eq_true rfl
            have u4 : decide (b = b) = true := decide_eq_true rfl
            clear hp hlg hI hend
            cbv
            repeat (first | (simp only [hpl]; cbv) | simp only [hpl] | (simp only [dd]; cbv) | simp only [dd] | (refine ⟨p4,_,gr, ?_⟩; cbv) | (simp only [u3]; cbv) | simp only [u3] | (simp only [u4]; cbv) | simp only [u4] | (simp only [u3,u4]; cbv) | simp only [u3,u4])
            refine .mk (E.wadd .i64 j 1, E.max d a) ⟨rfl, rfl, rfl, rfl, rfl⟩ ?_ ?_
            · exact hI2
            · exact hM2
          · rw [decide_eq_false hj] at dd
            obtain rfl := hend (j, d) hI hj
            have u3 : decide (d = d) = true := decide_eq_true rfl
            clear hlg hend hI
            cbv
            repeat (first | (simp only [hpl]; cbv) | simp only [hpl] | (simp only [dd]; cbv) | simp only [dd] | (simp only [u3]; cbv) | simp only [u3])
      · have hq : shapesQ fs i = .error 2 := by unfold shapesQ; rw [if_pos hpf, if_neg hr]
        rw [hq] at hs hd
        simp only [pSR, pDR] at hs hd
        have hl : (pFns fs).length = fs.length := by simp [pFns]
        obtain ⟨n, hnn⟩ : ∃ n, fs.length = n := ⟨_, rfl⟩
        rw [hnn] at hl hr
        unfold pProg at *
        generalize pFns fs = F at *
        clear hq hpf hn hp hw hnn
        rcases Classical.em (i < 0) with h0 | h0
        · refine ret_by tyT_ok tabs_gr mixed (fun n => match n with | 20 => 9 | _ => 0) Tryd.func10 rfl (by kernel_rfl) (by kernel_rfl) rfl fun P G E hc hE => ?_
          replace ha := hc _ _ _ ha
          replace hfew := hc _ _ _ hfew
          replace hs := hc _ _ _ hs
          replace hd := hc _ _ _ hd
          replace hf := hc _ _ _ hf
          have k2 : E.ofN 0 = 0 := by rw [hE]; rfl
          have d1 : E.lti i 0 = true := by rw [hE]; exact decide_eq_true h0
          clear hr hl
          cbv
          repeat (first | (refine ⟨_, ha, ?_⟩; cbv) | (refine ⟨_, hfew, ?_⟩; cbv) | (refine ⟨_, hs, ?_⟩; cbv) | (refine ⟨_, hd, ?_⟩; cbv) | (refine ⟨_, hf, ?_⟩; cbv) | (simp only [d1]; cbv) | simp only [d1] | (simp only [k2]; cbv) | simp only [k2])
        · refine ret_by tyT_ok tabs_gr mixed (fun n => match n with | 20 => 9 | _ => 0) Tryd.func10 rfl (by kernel_rfl) (by kernel_rfl) rfl fun P G E hc hE => ?_
          replace ha := hc _ _ _ ha
          replace hfew := hc _ _ _ hfew
          replace hs := hc _ _ _ hs
          replace hd := hc _ _ _ hd
          replace hf := hc _ _ _ hf
          have k2 : E.ofN 0 = 0 := by rw [hE]; rfl
          have d1 : E.lti i 0 = false := by rw [hE]; exact decide_eq_false h0
          have d2 : E.lei (E.ofN n) i = true := by rw [hE]; exact decide_eq_true (show (n : Int) ≤ i by omega)
          clear hr
          cbv at hl
          cbv
          repeat (first | (refine ⟨_, ha, ?_⟩; cbv) | (refine ⟨_, hfew, ?_⟩; cbv) | (refine ⟨_, hs, ?_⟩; cbv) | (refine ⟨_, hd, ?_⟩; cbv) | (refine ⟨_, hf, ?_⟩; cbv) | (simp only [hl]; cbv) | simp only [hl] | (simp only [d1]; cbv) | simp only [d1] | (simp only [d2]; cbv) | simp only [d2] | (simp only [k2]; cbv) | simp only [k2])
end Go.Proofs.YtlffpgjkhehdmaaDoor
