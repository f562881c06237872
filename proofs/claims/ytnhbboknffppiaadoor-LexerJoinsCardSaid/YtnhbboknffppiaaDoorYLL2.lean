/- Own work: the reference's Same; LexerWords. -/
import Derived.Test.YtnhbboknffppiaaDoorYLL1
namespace Go.Proofs.YtnhbboknffppiaaDoor
open Go.RowKit
set_option maxRecDepth 100000
set_option linter.unusedSimpArgs false

structure SaI (n : Int) (i : Int) : Prop where
  i0 : 0 ≤ i
  i1 : i ≤ n
set_option maxHeartbeats 2000000 in
/-- lists of tokens that agree -/
theorem same_ret (A B : List (List PV)) (at_ : Bool) (hl : A.length = B.length) (hb : A.length ≤ 100000000) (h : ∀ i : Nat, i < A.length → ∃ k t a a', A[i]? = some [pI k, pS t, pI a] ∧ B[i]? = some [pI k, pS t, pI a'] ∧ (at_ = true → a = a')) : V0 14 [.ro 3 A, .ro 3 B, pB at_] (pB true) := by
  obtain ⟨n, hn⟩ : ∃ n : Int, ((A.length : Nat) : Int) = n := ⟨_, rfl⟩
  have hnB : ((B.length : Nat) : Int) = n := by rw [← hl]; exact hn
  have hI0 : SaI n 0 := ⟨Int.le_refl _, by omega⟩
  have hi : ∀ i : Int, 0 ≤ i → i < n → ∃ k t a a', A[i.toNat]? = some [pI k, pS t, pI a] ∧ B[i.toNat]? = some [pI k, pS t, pI a'] ∧ (at_ = true → a = a') := fun i h0 h1 => h i.toNat (by omega)
  obtain ⟨μ, hμ⟩ : ∃ μ : Int → Nat, ∀ x, μ x = 2000000000 - x.toNat := ⟨_, fun _ => rfl⟩
  have hn1 : n ≤ 100000000 := by omega
  clear h hl hb
  refine ret_by tyT_ok g0_gr mixed (fun n => match n with | 6 => 40 | _ => 0) Tryd.func14 rfl (by kernel_rfl) (by kernel_rfl) rfl fun P G E hc hE => ?_
  have l1 : E.ofN A.length = n := by rw [hE]; exact hn
  have l2 : E.ofN B.length = n := by rw [hE]; exact hnB
  have elt : ∀ a b, E.lti a b = decide (a < b) := fun a b => by rw [hE]; rfl
  have eple : ∀ a b, a ≤ b → E.ple a b := fun a b h => by rw [hE]; exact h
  have enat : ∀ i, E.nat i = i.toNat := fun i => by rw [hE]; rfl
  have eadd : ∀ a : Int, 0 ≤ a → a ≤ 1000000000 → E.wadd .i64 a 1 = a + 1 := fun a h0 h1 => by rw [hE]; exact wrap_i64_in (by omega) (by omega)
  have eeq : ∀ a, E.eq a a = true := fun a => by rw [hE]; exact decide_eq_true rfl
  clear hE hc hn hnB
  cbv at l1 l2
  cbv
  repeat (first | (simp only [l1]; cbv) | simp only [l1] | (simp only [l2]; cbv) | simp only [l2])
  refine loop_by 59 [0, 1, 2, 7] 0 (fun x : Int => [.p (.ro 3 A), .p (.ro 3 B), .p (pB at_), .p (pI x)]) (fun _ => []) (SaI n) μ 0 ⟨rfl, rfl, rfl, rfl, rfl⟩ hI0 ?_
  clear hI0
  rintro i ⟨i0, i1⟩
  rcases Classical.em (i < n) with hlt | hlt
  · have d1 : E.lti i n = true := by rw [elt]; exact decide_eq_true hlt
    obtain ⟨k, t, a, a', g1, g2, haa⟩ := hi i i0 hlt
    rw [← enat] at g1 g2
    have p1 := eple 0 i i0
    have q1 := eeq t
    obtain ⟨i2, hi2⟩ : ∃ x : Int, i + 1 = x := ⟨_, rfl⟩
    have ei := eadd i i0 (by omega)
    rw [hi2] at ei
    have hI2 : SaI n i2 := ⟨by omega, by omega⟩
    have hM2 : μ i2 < μ i := by rw [hμ, hμ]; omega
    have k1 : decide (k = k) = true := decide_eq_true rfl
    cases at_ with
    | true =>
      have h3 := haa rfl
      subst h3
      have k2 : decide (a = a) = true := decide_eq_true rfl
      clear hi elt eple enat eadd eeq haa hμ hi2 hlt i0 i1
      cbv
      repeat (first | (simp only [l1]; cbv) | simp only [l1] | (simp only [l2]; cbv) | simp only [l2] | (simp only [d1]; cbv) | simp only [d1] | (refine ⟨p1,_,g1, ?_⟩; cbv) | (refine ⟨p1,_,g2, ?_⟩; cbv) | (simp only [k1]; cbv) | simp only [k1] | (simp only [q1]; cbv) | simp only [q1] | (simp only [k2]; cbv) | simp only [k2] | (simp only [ei]; cbv) | simp only [ei])
      refine .mk i2 ⟨rfl, rfl, rfl, rfl, rfl⟩ ?_ ?_
      · exact hI2
      · exact hM2
    | false =>
      clear hi elt eple enat eadd eeq haa hμ hi2 hlt i0 i1
      cbv
      repeat (first | (simp only [l1]; cbv) | simp only [l1] | (simp only [l2]; cbv) | simp only [l2] | (simp only [d1]; cbv) | simp only [d1] | (refine ⟨p1,_,g1, ?_⟩; cbv) | (refine ⟨p1,_,g2, ?_⟩; cbv) | (simp only [k1]; cbv) | simp only [k1] | (simp only [q1]; cbv) | simp only [q1] | (simp only [ei]; cbv) | simp only [ei])
      refine .mk i2 ⟨rfl, rfl, rfl, rfl, rfl⟩ ?_ ?_
      · exact hI2
      · exact hM2
  · have d1 : E.lti i n = false := by rw [elt]; exact decide_eq_false hlt
    clear hi elt eple enat eadd eeq hμ hlt i0 i1
    cbv
    repeat (first | (simp only [l1]; cbv) | simp only [l1] | (simp only [l2]; cbv) | simp only [l2] | (simp only [d1]; cbv) | simp only [d1])
theorem tkRows_at {n : Int} {ts : List Tk} {i : Nat} {x : Tk} (h : ts[i]? = some x) : (tkRows n ts)[i]? = some (tkRow n x) := by unfold tkRows; rw [List.getElem?_map, h]; rfl
end Go.Proofs.YtnhbboknffppiaaDoor
