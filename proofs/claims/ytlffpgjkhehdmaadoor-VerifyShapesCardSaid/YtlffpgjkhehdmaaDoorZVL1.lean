/- Own work: knapsacklaw29.VerifyChecks returns true. -/
import Derived.Test.YtlffpgjkhehdmaaDoorZVS0
import Derived.Test.YtlffpgjkhehdmaaDoorZVA
namespace Go.Proofs.YtlffpgjkhehdmaaDoor
open Go.RowKit
set_option maxRecDepth 100000

theorem fewP_len {fs : List Fn} {n : Int} (h : fewP fs n = true) : (fs.length : Int) ≤ n := by
  unfold fewP at h
  simp only [Bool.and_eq_true, decide_eq_true_eq] at h
  exact h.1
theorem lchecks_ret (fs : List Fn) (hw : ∀ f ∈ fs, FnSz f) : RT 6 [pProg fs] (pB true) := by
  have ha := awake29_ret
  have hfew := few_ret fs hw 5 (by omega)
  cases hp : fewP fs 5
  · rw [hp] at hfew
    unfold pProg at hfew ⊢
    generalize pFns fs = F at *
    refine ret_by tyT_ok tabs_gr mixed (fun _ => 0) Tryd.func6 rfl (by kernel_rfl) (by kernel_rfl) rfl fun P G E hc hE => ?_
    replace ha := hc _ _ _ ha
    replace hfew := hc _ _ _ hfew
    cbv
    repeat (first | (refine ⟨_, ha, ?_⟩; cbv) | (refine ⟨_, hfew, ?_⟩; cbv))
  · rw [hp] at hfew
    have hn : fs.length ≤ 1000000 := by have := fewP_len hp; omega
    have hck := check_ret fs hw hn
    have hf := rformed_ret fs hw hn
    obtain ⟨c, hcc⟩ : ∃ c, checkP fs = c := ⟨_, rfl⟩
    rw [hcc] at hck
    unfold checkP at hcc
    cases hpf : progF fs
    · rw [hpf] at hf hcc
      obtain rfl : c = 3 := by rw [← hcc]; rfl
      unfold pProg at hfew hck hf ⊢
      generalize pFns fs = F at *
      refine ret_by tyT_ok tabs_gr mixed (fun _ => 0) Tryd.func6 rfl (by kernel_rfl) (by kernel_rfl) rfl fun P G E hc hE => ?_
      replace ha := hc _ _ _ ha
      replace hfew := hc _ _ _ hfew
      replace hck := hc _ _ _ hck
      replace hf := hc _ _ _ hf
      cbv
      repeat (first | (refine ⟨_, ha, ?_⟩; cbv) | (refine ⟨_, hfew, ?_⟩; cbv) | (refine ⟨_, hck, ?_⟩; cbv) | (refine ⟨_, hf, ?_⟩; cbv))
    · rw [hpf, if_pos rfl] at hcc
      rw [hpf] at hf
      have hs := up0 (rsafe_ret fs (progF_fnV hpf) (progF_fnH hpf) hn)
      cases hall : fs.all (fun f => (shapesP f).isSome)
      · rw [hall] at hs hcc
        obtain rfl : c = 11 := by rw [← hcc]; rfl
        unfold pProg at hfew hck hf hs ⊢
        generalize pFns fs = F at *
        refine ret_by tyT_ok tabs_gr mixed (fun _ => 0) Tryd.func6 rfl (by kernel_rfl) (by kernel_rfl) rfl fun P G E hc hE => ?_
        replace ha := hc _ _ _ ha
        replace hfew := hc _ _ _ hfew
        replace hck := hc _ _ _ hck
        replace hf := hc _ _ _ hf
        replace hs := hc _ _ _ hs
        cbv
        repeat (first | (refine ⟨_, ha, ?_⟩; cbv) | (refine ⟨_, hfew, ?_⟩; cbv) | (refine ⟨_, hck, ?_⟩; cbv) | (refine ⟨_, hf, ?_⟩; cbv) | (refine ⟨_, hs, ?_⟩; cbv))
      · rw [hall] at hs hcc
        obtain rfl : c = 0 := by rw [← hcc]; rfl
        unfold pProg at hfew hck hf hs ⊢
        generalize pFns fs = F at *
        refine ret_by tyT_ok tabs_gr mixed (fun _ => 0) Tryd.func6 rfl (by kernel_rfl) (by kernel_rfl) rfl fun P G E hc hE => ?_
        replace ha := hc _ _ _ ha
        replace hfew := hc _ _ _ hfew
        replace hck := hc _ _ _ hck
        replace hf := hc _ _ _ hf
        replace hs := hc _ _ _ hs
        cbv
        repeat (first | (refine ⟨_, ha, ?_⟩; cbv) | (refine ⟨_, hfew, ?_⟩; cbv) | (refine ⟨_, hck, ?_⟩; cbv) | (refine ⟨_, hf, ?_⟩; cbv) | (refine ⟨_, hs, ?_⟩; cbv))
end Go.Proofs.YtlffpgjkhehdmaaDoor
