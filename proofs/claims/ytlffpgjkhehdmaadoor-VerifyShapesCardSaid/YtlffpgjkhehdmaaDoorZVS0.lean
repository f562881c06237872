/- Own work: the reference of layer 29: Safe. -/
import Derived.Test.YtlffpgjkhehdmaaDoorZVR5
import Derived.Test.YtlffpgjkhehdmaaDoorZVC
namespace Go.Proofs.YtlffpgjkhehdmaaDoor
open Go.RowKit
set_option maxRecDepth 100000

theorem fnH_of {f : Fn} {n : Int} (h : formedB f n = true) : ∀ y ∈ f.hdls.map hdOf, 0 ≤ y.sc := by
  unfold formedB headB sizeB partsB betw at h
  simp only [Bool.and_eq_true, List.all_eq_true, decide_eq_true_eq] at h
  obtain ⟨_, _, _, _, h6⟩ := h
  intro y hy
  obtain ⟨x, hx, rfl⟩ := List.mem_map.1 hy
  have hx := h6 x hx
  unfold hdlOk betw at hx
  simp only [Bool.and_eq_true, decide_eq_true_eq] at hx
  exact hx.2.2.2.2.2.1
theorem progF_fnH {fs : List Fn} (h : progF fs = true) : ∀ f ∈ fs, ∀ y ∈ f.hdls.map hdOf, 0 ≤ y.sc := by
  unfold progF at h
  simp only [Bool.and_eq_true, List.all_eq_true, decide_eq_true_eq] at h
  exact fun f hf => fnH_of (h.1 f hf)
theorem rsafe_ret (fs : List Fn) (hv : ∀ f ∈ fs, FnV f) (hh : ∀ f ∈ fs, ∀ y ∈ f.hdls.map hdOf, 0 ≤ y.sc) (hn : fs.length ≤ 1000000) : V0 28 [pProg fs] (pB (fs.all fun f => (shapesP f).isSome)) := by
  obtain ⟨μ, hμ⟩ : ∃ μ : Int → Nat, ∀ i, μ i = 1000002 - i.toNat := ⟨_, fun _ => rfl⟩
  obtain ⟨q, hq⟩ : ∃ q, (fs.all fun f => (shapesP f).isSome) = q := ⟨_, rfl⟩
  rw [hq]
  have hg : ∀ (k : Nat) x, fs[k]? = some x → (pFns fs)[k]? = some (pFn x) := fun k x h => pFns_get h
  have hl : (pFns fs).length = fs.length := by simp [pFns]
  have hsr : ∀ f ∈ fs, V0 32 [.agg (pFn f)] (shR (shapesP f)) := fun f hf => rshapes_ret f (hv f hf) (hh f hf)
  obtain ⟨n, hnn⟩ : ∃ n, fs.length = n := ⟨_, rfl⟩
  rw [hnn] at hl
  unfold pProg
  generalize pFns fs = F at *
  refine ret_by tyT_ok g0_gr mixed (fun _ => 0) Tryd.func28 rfl (by kernel_rfl) (by kernel_rfl) rfl fun P G E hc hE => ?_
  have elt : ∀ a b, E.lti a b = decide (a < b) := fun a b => by rw [hE]; rfl
  have eofn : ∀ n, E.ofN n = (n : Int) := fun n => by rw [hE]; rfl
  have enat : ∀ i, E.nat i = i.toNat := fun i => by rw [hE]; rfl
  have eple : ∀ a b, a ≤ b → E.ple a b := fun a b h => by rw [hE]; exact h
  have eadd : ∀ a b : Int, -1000000 ≤ a → a ≤ 1000000 → -1000000 ≤ b → b ≤ 1000000 → E.wadd .i64 a b = a + b := fun a b h0 h1 h2 h3 => by rw [hE]; exact wrap_i64_in (by omega) (by omega)
  have hx0 : AllI fs (fun f => (shapesP f).isSome) 0 := ⟨Int.le_refl _, Int.natCast_nonneg _, rfl⟩
  cbv at hl
  cbv
  refine loop_by 24 [1, 3] 1 (fun i : Int => [.own 0 0, .p (pI i)]) (fun _ => [some (.box [.p (.ro 7 F)] 33 none)]) (AllI fs fun f => (shapesP f).isSome) μ 0 ⟨rfl, rfl, rfl, rfl, rfl⟩ hx0 ?_
  clear hx0
  intro i hI
  obtain ⟨i0, i1, hok⟩ := hI
  replace hnn : fs.length = n := hnn
  replace hn : fs.length ≤ 1000000 := hn
  replace eofn : ∀ n : Nat, E.ofN n = (n : Int) := eofn
  replace hμ : ∀ i : Int, μ i = 1000002 - i.toNat := hμ
  have dd : E.lti i (E.ofN n) = decide (i < (n : Int)) := by rw [eofn, elt]
  by_cases hi : i < (n : Int)
  · rw [decide_eq_true hi] at dd
    obtain ⟨x, hx⟩ : ∃ x, fs[i.toNat]? = some x := ⟨_, List.getElem?_eq_getElem (by omega)⟩
    have gr := hg _ _ hx
    rw [← enat] at gr
    have hs := hc _ _ _ (hsr x (List.mem_of_getElem? hx))
    have htk : (fs.take (i.toNat + 1)).all (fun f => (shapesP f).isSome) = (shapesP x).isSome := by
      rw [List.take_add_one, hx, List.all_append, hok]
      simp
    have p3 := eple 0 i i0
    have ei := eadd i 1 (by omega) (by omega) (by omega) (by omega)
    have hM2 : μ (E.wadd .i64 i 1) < μ i := by rw [hμ, hμ, ei]; omega
    cases hsx : shapesP x with
    | none =>
      obtain rfl : q = false := by
        rw [← hq, List.all_eq_false]
        refine ⟨x, List.mem_of_getElem? hx, ?_⟩
        rw [hsx]
        decide
      rw [hsx] at hs
      unfold pFn at gr hs
      generalize pCode x.code = c1 at *
      generalize pCons x.consts = c2 at *
      generalize pHdls x.hdls = c3 at *
      clear htk hsr hg hsx hx
      cbv
      repeat (first | (simp only [hl]; cbv) | simp only [hl] | (simp only [dd]; cbv) | simp only [dd] | (refine ⟨p3,_,gr, ?_⟩; cbv) | (refine ⟨_, hs, ?_⟩; cbv))
    | some l =>
      have hI2 : AllI fs (fun f => (shapesP f).isSome) (E.wadd .i64 i 1) := ⟨by rw [ei]; omega, by rw [ei]; omega, by rw [ei, show (i + 1).toNat = i.toNat + 1 by omega, htk, hsx]; rfl⟩
      rw [hsx] at hs
      unfold pFn at gr hs
      simp only [shR] at hs
      generalize pSh l = sl at *
      generalize pCode x.code = c1 at *
      generalize pCons x.consts = c2 at *
      generalize pHdls x.hdls = c3 at *
      clear htk hsr hg hsx hx
      cbv
      repeat (first | (simp only [hl]; cbv) | simp only [hl] | (simp only [dd]; cbv) | simp only [dd] | (refine ⟨p3,_,gr, ?_⟩; cbv) | (refine ⟨_, hs, ?_⟩; cbv))
      refine .mk (E.wadd .i64 i 1) ⟨rfl, rfl, rfl, rfl, rfl⟩ ?_ ?_
      · exact hI2
      · exact hM2
  · rw [decide_eq_false hi] at dd
    obtain rfl : q = true := by
      rw [← hq]
      rw [List.take_of_length_le (by omega)] at hok
      exact hok
    clear hsr hg
    cbv
    repeat (first | (simp only [hl]; cbv) | simp only [hl] | (simp only [dd]; cbv) | simp only [dd])
end Go.Proofs.YtlffpgjkhehdmaaDoor
