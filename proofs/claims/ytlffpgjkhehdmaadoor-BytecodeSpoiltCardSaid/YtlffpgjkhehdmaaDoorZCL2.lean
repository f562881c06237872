/- Own work: knapsacklaw27.BytecodeEncodes returns true. -/
import Derived.Test.YtlffpgjkhehdmaaDoorZCN
namespace Go.Proofs.YtlffpgjkhehdmaaDoor
open Go.RowKit
set_option maxRecDepth 100000
set_option linter.unusedSimpArgs false

theorem upV {f : FuncId} {l : List PV} {r : PV} (h : CV f l r) : RT f l r := ⟨h.1, fun w B args _ => h.2 w B args trivial⟩
set_option maxHeartbeats 1000000 in
theorem lencodes_ret (fs : List Fn) (hw : ∀ f ∈ fs, FnSz f) (hi : ∀ f ∈ fs, IntsI f) : RT 15 [pProg fs] (pB true) := by
  have ha := awake_ret
  have hfew := few_ret fs hw 6 (by omega)
  cases hp : fewP fs 6 with
  | false =>
    rw [hp] at hfew
    unfold pProg at hfew ⊢
    generalize pFns fs = F at *
    refine ret_by tyT_ok tabs_gr mixed (fun _ => 0) Tryd.func15 rfl (by kernel_rfl) (by kernel_rfl) rfl fun P G E hc hE => ?_
    replace ha := hc _ _ _ ha
    replace hfew := hc _ _ _ hfew
    cbv
    repeat (first | (refine ⟨_, ha, ?_⟩; cbv) | (refine ⟨_, hfew, ?_⟩; cbv))
  | true =>
    rw [hp] at hfew
    have hlen := fewP_len hp
    have hn : fs.length ≤ 1000000 := by omega
    have hz := few_en hp (by omega)
    have hf := rformed_ret fs hw hn
    cases hpf : progF fs with
    | false =>
      rw [hpf] at hf
      unfold pProg at *
      generalize pFns fs = F at *
      clear hw hlen hn hz hpf hp hi
      refine ret_by tyT_ok tabs_gr mixed (fun _ => 0) Tryd.func15 rfl (by kernel_rfl) (by kernel_rfl) rfl fun P G E hc hE => ?_
      replace ha := hc _ _ _ ha
      replace hfew := hc _ _ _ hfew
      replace hf := hc _ _ _ hf
      cbv
      repeat (first | (refine ⟨_, ha, ?_⟩; cbv) | (refine ⟨_, hfew, ?_⟩; cbv) | (refine ⟨_, hf, ?_⟩; cbv))
    | true =>
      rw [hpf] at hf
      have hforall : ∀ f ∈ fs, formedB f fs.length = true := (progF_iff (by omega)).1 hpf
      have hR : ∀ f ∈ fs, FnR f := fun f h => fnR_of (hforall f h) (by omega) (hi f h) (hz.cs f h) (hz.nm f h)
      have he := encode_ret fs hw hz hpf
      have hd := decode_ret (ofL (progBy fs)) (by rw [ofL_size]; have := hz.tot; omega)
      rw [dec_enc hpf hR (by omega)] at hd
      have hre := upV (rencode_r fs hz.tot (by omega) hR)
      have hs := same_ret fs (fs.map fnN) hw (norm_sz hw) hn (by rw [List.length_map]; exact hn)
      rw [same_norm hpf] at hs
      unfold pProg at *
      generalize pFns fs = F at *
      generalize pFns (fs.map fnN) = F2 at *
      generalize ofL (progBy fs) = O at *
      clear hw hlen hn hz hpf hp hi hforall hR
      refine ret_by tyT_ok tabs_gr mixed (fun _ => 0) Tryd.func15 rfl (by kernel_rfl) (by kernel_rfl) rfl fun P G E hc hE => ?_
      replace ha := hc _ _ _ ha
      replace hfew := hc _ _ _ hfew
      replace hf := hc _ _ _ hf
      replace he := hc _ _ _ he
      replace hd := hc _ _ _ hd
      replace hre := hc _ _ _ hre
      replace hs := hc _ _ _ hs
      have k1 : E.eq O O = true := by rw [hE]; exact decide_eq_true rfl
      cbv
      repeat (first | (refine ⟨_, ha, ?_⟩; cbv) | (refine ⟨_, hfew, ?_⟩; cbv) | (refine ⟨_, hf, ?_⟩; cbv) | (refine ⟨_, he, ?_⟩; cbv) | (refine ⟨_, hd, ?_⟩; cbv) | (refine ⟨_, hre, ?_⟩; cbv) | (refine ⟨_, hs, ?_⟩; cbv) | (simp only [k1]; cbv) | simp only [k1])
end Go.Proofs.YtlffpgjkhehdmaaDoor
