/- Own work: knapsacklaw29.VerifyAppends returns true, for every two programs. -/
import Derived.Test.YtlffpgjkhehdmaaDoorZVL8
namespace Go.Proofs.YtlffpgjkhehdmaaDoor
open Go.RowKit
set_option maxRecDepth 100000

theorem lvappends_ret (p q : List Fn) (sp : ∀ f ∈ p, FnSz f) (sq : ∀ f ∈ q, FnSz f) : RT 14 [pProg p, pProg q] (pB true) := by
  have ha := awake29_ret
  have f1 := few_ret p sp 3 (by omega)
  have f2 := few_ret q sq 3 (by omega)
  cases hp3 : fewP p 3
  · rw [hp3] at f1
    unfold pProg at f1 f2 ⊢
    generalize pFns p = F1 at *
    generalize pFns q = F2 at *
    refine ret_by tyT_ok tabs_gr mixed (fun n => match n with | 6 => 12 | 18 => 9 | _ => 0) Tryd.func14 rfl (by kernel_rfl) (by kernel_rfl) rfl fun P G E hc hE => ?_
    replace ha := hc _ _ _ ha
    replace f1 := hc _ _ _ f1
    replace f2 := hc _ _ _ f2
    cbv
    repeat (first | (refine ⟨_, ha, ?_⟩; cbv) | (refine ⟨_, f1, ?_⟩; cbv) | (refine ⟨_, f2, ?_⟩; cbv))
  · cases hq3 : fewP q 3
    · rw [hp3] at f1
      rw [hq3] at f2
      unfold pProg at f1 f2 ⊢
      generalize pFns p = F1 at *
      generalize pFns q = F2 at *
      refine ret_by tyT_ok tabs_gr mixed (fun n => match n with | 6 => 12 | 18 => 9 | _ => 0) Tryd.func14 rfl (by kernel_rfl) (by kernel_rfl) rfl fun P G E hc hE => ?_
      replace ha := hc _ _ _ ha
      replace f1 := hc _ _ _ f1
      replace f2 := hc _ _ _ f2
      cbv
      repeat (first | (refine ⟨_, ha, ?_⟩; cbv) | (refine ⟨_, f1, ?_⟩; cbv) | (refine ⟨_, f2, ?_⟩; cbv))
    · have n1 := fewP_len8 hp3
      have n2 := fewP_len8 hq3
      have g1 := formed_ret p sp (by omega)
      have g2 := formed_ret q sq (by omega)
      cases hp : progF p
      · rw [hp] at g1
        have hap := append_bad1 p q g1
        rw [hp3] at f1
        rw [hq3] at f2
        unfold pProg at f1 f2 hap ⊢
        generalize pFns p = F1 at *
        generalize pFns q = F2 at *
        refine ret_by tyT_ok tabs_gr mixed (fun n => match n with | 6 => 12 | 18 => 9 | _ => 0) Tryd.func14 rfl (by kernel_rfl) (by kernel_rfl) rfl fun P G E hc hE => ?_
        replace ha := hc _ _ _ ha
        replace f1 := hc _ _ _ f1
        replace f2 := hc _ _ _ f2
        replace hap := hc _ _ _ hap
        cbv
        repeat (first | (refine ⟨_, ha, ?_⟩; cbv) | (refine ⟨_, f1, ?_⟩; cbv) | (refine ⟨_, f2, ?_⟩; cbv) | (refine ⟨_, hap, ?_⟩; cbv))
      · cases hq : progF q
        · rw [hp] at g1
          rw [hq] at g2
          have hap := append_bad2 p q g1 g2
          rw [hp3] at f1
          rw [hq3] at f2
          unfold pProg at f1 f2 hap ⊢
          generalize pFns p = F1 at *
          generalize pFns q = F2 at *
          refine ret_by tyT_ok tabs_gr mixed (fun n => match n with | 6 => 12 | 18 => 9 | _ => 0) Tryd.func14 rfl (by kernel_rfl) (by kernel_rfl) rfl fun P G E hc hE => ?_
          replace ha := hc _ _ _ ha
          replace f1 := hc _ _ _ f1
          replace f2 := hc _ _ _ f2
          replace hap := hc _ _ _ hap
          cbv
          repeat (first | (refine ⟨_, ha, ?_⟩; cbv) | (refine ⟨_, f1, ?_⟩; cbv) | (refine ⟨_, f2, ?_⟩; cbv) | (refine ⟨_, hap, ?_⟩; cbv))
        · exact lvappends_go p q sp sq hp3 hq3 hp hq
end Go.Proofs.YtlffpgjkhehdmaaDoor
