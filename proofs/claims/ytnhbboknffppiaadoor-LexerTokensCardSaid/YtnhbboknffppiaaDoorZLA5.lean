/- Own work: package knapsackref25: keywords, IsKeyword. -/
import Derived.Test.YtnhbboknffppiaaDoorZLA4
namespace Go.Proofs.YtnhbboknffppiaaDoor
open Go.RowKit
set_option maxRecDepth 100000
set_option linter.unusedSimpArgs false

def pSs (l : List ByteArray) : List (List PV) := l.map fun s => [pS s]
theorem keywords_ret : V0 27 [] (.ro 1 (pSs kwS)) := by
  refine ret_by tyT_ok g0_gr mixed (fun _ => 0) Tryd.func27 rfl (by kernel_rfl) (by kernel_rfl) rfl fun P G E hc hE => ?_
  have p1 : E.pre 0 28 (pSs kwS) := by rw [hE]; exact Nat.le_refl 28
  have t3 : E.sub (pSs kwS) 0 28 = pSs kwS := by rw [hE]; rfl
  clear hE hc
  cbv
  refine ⟨p1, ?_⟩
  exact congrArg (PV.ro 1) t3
structure KwI (s : ByteArray) (R : Bool) (i : Int) : Prop where
  i0 : 0 ≤ i
  i1 : i ≤ 28
  an : (kwS.drop i.toNat).any (fun x => decide (x = s)) = R
theorem riskw_ret (s : ByteArray) : V0 17 [pS s] (pB (isKw s.data.toList)) := by
  have hk := keywords_ret
  obtain ⟨R, hR⟩ : ∃ R, kwS.any (fun x => decide (x = s)) = R := ⟨_, rfl⟩
  have hR2 : isKw s.data.toList = R := by
    rw [isKw_S, ← hR]
    congr 1
    funext x
    exact decide_eq_decide.2 eq_comm
  rw [hR2]
  have hl : (pSs kwS).length = 28 := rfl
  have hg : ∀ (k : Nat) x, kwS[k]? = some x → (pSs kwS)[k]? = some [pS x] := fun k x h => by
    unfold pSs
    rw [List.getElem?_map, h]
    rfl
  have hx0 : KwI s R 0 := ⟨Int.le_refl _, by decide, hR⟩
  have hkl : kwS.length = 28 := rfl
  obtain ⟨μ, hμ⟩ : ∃ μ : Int → Nat, ∀ i, μ i = 200000 - i.toNat := ⟨_, fun _ => rfl⟩
  generalize pSs kwS = F at *
  refine ret_by tyT_ok g0_gr mixed (fun _ => 0) Tryd.func17 rfl (by kernel_rfl) (by kernel_rfl) rfl fun P G E hc hE => ?_
  replace hk := hc _ _ _ hk
  have elt : ∀ a b, E.lti a b = decide (a < b) := fun a b => by rw [hE]; rfl
  have enat : ∀ i, E.nat i = i.toNat := fun i => by rw [hE]; rfl
  have eple : ∀ a b, a ≤ b → E.ple a b := fun a b h => by rw [hE]; exact h
  have eeq : ∀ a b, E.eq a b = decide (a = b) := fun a b => by rw [hE]; rfl
  have eadd : ∀ a b : Int, -1000000 ≤ a → a ≤ 1000000 → -1000000 ≤ b → b ≤ 1000000 → E.wadd .i64 a b = a + b := fun a b h0 h1 h2 h3 => by rw [hE]; exact wrap_i64_in (by omega) (by omega)
  have v1 : E.ofN 28 = 28 := by rw [hE]; rfl
  clear hE hc
  cbv at hl
  cbv
  repeat (first | (refine ⟨_, hk, ?_⟩; cbv))
  refine loop_by 18 [0, 3, 4] 0 (fun i : Int => [.p (pS s), .p (.ro 1 F), .p (pI i)]) (fun _ => []) (KwI s R) μ 0 ⟨rfl, rfl, rfl, rfl, rfl⟩ hx0 ?_
  clear hx0
  intro i hI
  have i0 := hI.i0
  have i1 := hI.i1
  rcases Classical.em (i < 28) with hlt | hlt
  · have d1 : E.lti i 28 = true := by rw [elt]; exact decide_eq_true hlt
    replace hkl : kwS.length = 28 := hkl
    obtain ⟨x, hx⟩ : ∃ x, kwS[i.toNat]? = some x := ⟨_, List.getElem?_eq_getElem (by omega)⟩
    have g1 := hg _ x hx
    rw [← enat] at g1
    have p1 := eple 0 i i0
    have ei := eadd i 1 (by omega) (by omega) (by omega) (by omega)
    have hM : μ (E.wadd .i64 i 1) < μ i := by rw [hμ, hμ, ei]; omega
    have hdr : kwS.drop i.toNat = x :: kwS.drop (i + 1).toNat := by
      have hl2 := (List.getElem?_eq_some_iff.1 hx).1
      rw [List.drop_eq_getElem_cons hl2, show (i + 1).toNat = i.toNat + 1 by omega]
      congr 1
      exact (List.getElem?_eq_some_iff.1 hx).2
    have han := hI.an
    rw [hdr, List.any_cons] at han
    rcases Classical.em (x = s) with hxs | hxs
    · have w1 : E.eq x s = true := by rw [eeq]; exact decide_eq_true hxs
      rw [decide_eq_true hxs, Bool.true_or] at han
      subst han
      clear hg elt enat eple eeq eadd hdr hx hxs ei
      cbv
      repeat (first | (simp only [hl]; cbv) | simp only [hl] | (simp only [v1]; cbv) | simp only [v1] | (simp only [d1]; cbv) | simp only [d1] | (refine ⟨p1,_,g1, ?_⟩; cbv) | (simp only [w1]; cbv) | simp only [w1])
    · have w1 : E.eq x s = false := by rw [eeq]; exact decide_eq_false hxs
      rw [decide_eq_false hxs, Bool.false_or] at han
      have hI2 : KwI s R (E.wadd .i64 i 1) := by rw [ei]; exact ⟨by omega, by omega, han⟩
      clear hg elt enat eple eeq eadd hdr hx hxs ei
      cbv
      repeat (first | (simp only [hl]; cbv) | simp only [hl] | (simp only [v1]; cbv) | simp only [v1] | (simp only [d1]; cbv) | simp only [d1] | (refine ⟨p1,_,g1, ?_⟩; cbv) | (simp only [w1]; cbv) | simp only [w1])
      refine .mk (E.wadd .i64 i 1) ⟨rfl, rfl, rfl, rfl, rfl⟩ ?_ ?_
      · exact hI2
      · exact hM
  · have d1 : E.lti i 28 = false := by rw [elt]; exact decide_eq_false hlt
    have han := hI.an
    have : i = 28 := by omega
    subst this
    have h5 : R = false := by rw [← han]; rfl
    subst h5
    clear hg elt enat eple eeq eadd
    cbv
    repeat (first | (simp only [hl]; cbv) | simp only [hl] | (simp only [v1]; cbv) | simp only [v1] | (simp only [d1]; cbv) | simp only [d1])
end Go.Proofs.YtnhbboknffppiaaDoor
