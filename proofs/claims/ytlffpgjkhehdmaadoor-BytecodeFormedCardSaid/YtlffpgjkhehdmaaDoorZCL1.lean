/- Own work: knapsacklaw27.BytecodeFormed returns true. -/
import Derived.Test.YtlffpgjkhehdmaaDoorZCS
namespace Go.Proofs.YtlffpgjkhehdmaaDoor
open Go.RowKit
set_option maxRecDepth 100000
set_option linter.unusedSimpArgs false

theorem ret_args {P : Program} {G : World → Prop} {f : FuncId} {l l' : List PV} {r : PV} (h : Ret P G f l r) (hl : l'.length = l.length) (hr : ∀ (j : Nat) (a a' : PV), l[j]? = some a → l'[j]? = some a' → ∀ w B v, RepP w B a' v → RepP w B a v) : Ret P G f l' r :=
  ⟨h.1, fun w B args hG hlen hrep => h.2 w B args hG (by omega) fun j a v ha hv => by
    have hj := (List.getElem?_eq_some_iff.1 ha).1
    have ha' : l'[j]? = some l'[j] := List.getElem?_eq_getElem (by omega)
    exact hr j a _ ha ha' w B v (hrep j _ v ha' hv)⟩
/-- a struct of one nil slice -/
theorem rep_nil {w : World} {B : Nat → Prop} {v : Value} {s : Nat} (h : RepP w B (.agg [.v (.slice none 0 0)]) v) : RepP w B (.agg [.ro s []]) v := by
  generalize hl : [PV.v (.slice none 0 0)] = l at h
  cases h with
  | agg _ vs hlen hr =>
    subst hl
    refine .agg _ vs hlen fun j a v ha hv => ?_
    match j, ha with
    | 0, ha =>
      cases ha
      have := hr 0 _ v rfl hv
      cases this
      exact .ro0 _ _ _
    | j + 1, ha => simp at ha
theorem ret_nil2 {P : Program} {G : World → Prop} {f : FuncId} {p : PV} {r : PV} {s : Nat} (h : Ret P G f [p, .agg [.ro s []]] r) : Ret P G f [p, .agg [.v (.slice none 0 0)]] r :=
  ret_args h rfl fun j a a' h1 h2 w B v hv => by
    match j, h1, h2 with
    | 0, h1, h2 => cases h1; cases h2; exact hv
    | 1, h1, h2 => cases h1; cases h2; exact rep_nil hv
    | j + 2, h1, h2 => simp at h1
set_option maxHeartbeats 1000000 in
theorem lformed_ret (fs : List Fn) (hw : ∀ f ∈ fs, FnSz f) : RT 13 [pProg fs] (pB true) := by
  have ha := awake_ret
  have hfew := few_ret fs hw 6 (by omega)
  cases hp : fewP fs 6 with
  | false =>
    rw [hp] at hfew
    unfold pProg at hfew ⊢
    generalize pFns fs = F at *
    refine ret_by tyT_ok tabs_gr mixed (fun _ => 0) Tryd.func13 rfl (by kernel_rfl) (by kernel_rfl) rfl fun P G E hc hE => ?_
    replace ha := hc _ _ _ ha
    replace hfew := hc _ _ _ hfew
    cbv
    repeat (first | (refine ⟨_, ha, ?_⟩; cbv) | (refine ⟨_, hfew, ?_⟩; cbv))
  | true =>
    rw [hp] at hfew
    have hlen := fewP_len hp
    have hn : fs.length ≤ 1000000 := by omega
    have hz := few_en hp (by omega)
    have hf := rformed_ret fs hw hn
    have hb := formed_ret fs hw hn
    have h0 : ∀ f ∈ ([] : List Fn), FnSz f := fun f h => by simp at h
    cases hpf : progF fs with
    | false =>
      rw [hpf] at hf hb
      have he := encode_bad fs hw hn hpf
      have hap := append_bad1 fs [] hb
      have hF : pFns [] = [] := rfl
      unfold pProg at *
      rw [hF] at hap
      replace hap := ret_nil2 hap
      unfold pZero at hap
      generalize pFns fs = F at *
      clear hw hlen hn hz h0 hF hpf hp
      refine ret_by tyT_ok tabs_gr mixed (fun _ => 0) Tryd.func13 rfl (by kernel_rfl) (by kernel_rfl) rfl fun P G E hc hE => ?_
      replace ha := hc _ _ _ ha
      replace hfew := hc _ _ _ hfew
      replace hf := hc _ _ _ hf
      replace hb := hc _ _ _ hb
      replace he := hc _ _ _ he
      replace hap := hc _ _ _ hap
      have k1 : E.eq ⟨#[]⟩ ⟨#[]⟩ = true := by rw [hE]; rfl
      have k2 : E.ofN 0 = 0 := by rw [hE]; rfl
      cbv
      repeat (first | (refine ⟨_, ha, ?_⟩; cbv) | (refine ⟨_, hfew, ?_⟩; cbv) | (refine ⟨_, hf, ?_⟩; cbv) | (refine ⟨_, hb, ?_⟩; cbv) | (refine ⟨_, he, ?_⟩; cbv) | (refine ⟨_, hap, ?_⟩; cbv) | (simp only [k1]; cbv) | simp only [k1] | (simp only [k2]; cbv) | simp only [k2])
    | true =>
      rw [hpf] at hf hb
      have he := encode_ret fs hw hz hpf
      have hfo := (progF_iff (by omega)).1 hpf
      have hap := append_both hw h0 hfo (fun f h => by simp at h) (by simp; omega)
      have hbs := bsame_ret fs (appF fs []) hw (app_sz hw h0) hn (by rw [app_len]; simp; omega)
      have hq : appF fs [] = fs := by rw [app_eq hfo (by omega)]; simp
      rw [hq] at hap hbs
      rw [same_refl] at hbs
      have hF : pFns [] = [] := rfl
      unfold pProg at *
      rw [hF] at hap
      replace hap := ret_nil2 hap
      generalize pFns fs = F at *
      generalize ofL (progBy fs) = O at *
      clear hw hlen hn hz h0 hF hpf hp hq hfo
      refine ret_by tyT_ok tabs_gr mixed (fun _ => 0) Tryd.func13 rfl (by kernel_rfl) (by kernel_rfl) rfl fun P G E hc hE => ?_
      replace ha := hc _ _ _ ha
      replace hfew := hc _ _ _ hfew
      replace hf := hc _ _ _ hf
      replace hb := hc _ _ _ hb
      replace he := hc _ _ _ he
      replace hap := hc _ _ _ hap
      replace hbs := hc _ _ _ hbs
      cbv
      repeat (first | (refine ⟨_, ha, ?_⟩; cbv) | (refine ⟨_, hfew, ?_⟩; cbv) | (refine ⟨_, hf, ?_⟩; cbv) | (refine ⟨_, hb, ?_⟩; cbv) | (refine ⟨_, he, ?_⟩; cbv) | (refine ⟨_, hap, ?_⟩; cbv) | (refine ⟨_, hbs, ?_⟩; cbv))
end Go.Proofs.YtlffpgjkhehdmaaDoor
