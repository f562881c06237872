/- Own work: law 25's awake; LexerNumbers, LexerWords. -/
import Derived.Test.YtnhbboknffppiaaDoorYLC2
import Derived.Test.YtnhbboknffppiaaDoorYLA5
namespace Go.Proofs.YtnhbboknffppiaaDoor
open Go.RowKit
set_option maxRecDepth 100000
set_option linter.unusedSimpArgs false

theorem lex_awake : RL 12 [pS ⟨#[97, 32, 61, 62, 32, 49]⟩] (.tup [.ro 3 [[pI 1, pS ⟨#[97]⟩, pI 0], [pI 5, pS ⟨#[61, 62]⟩, pI 2], [pI 3, pS ⟨#[49]⟩, pI 5]], pI 0, pI 0]) := by
  have h := lex_ret ⟨#[97, 32, 61, 62, 32, 49]⟩ (by decide)
  have e : lexB (⟨#[97, 32, 61, 62, 32, 49]⟩ : ByteArray).data.toList = ([⟨1, [97], 6⟩, ⟨5, [61, 62], 4⟩, ⟨3, [49], 1⟩], none) := by kernel_rfl
  rw [lexR_ok e] at h
  exact h
theorem awake_ret : RL 11 [] (pB true) := by
  have h := lex_awake
  obtain ⟨R, hR⟩ : ∃ x : List (List PV), [[pI 1, pS ⟨#[97]⟩, pI 0], [pI 5, pS ⟨#[61, 62]⟩, pI 2], [pI 3, pS ⟨#[49]⟩, pI 5]] = x := ⟨_, rfl⟩
  rw [hR] at h
  refine ret_by tyT_ok gl_gr mixed (fun _ => 0) Tryd.func11 rfl (by kernel_rfl) (by kernel_rfl) rfl fun P G E hc hE => ?_
  replace h := hc _ _ _ h
  have l1 : E.ofN R.length = 3 := by rw [hE, ← hR]; rfl
  have p1 : E.ple 0 1 := by rw [hE]; show (0 : Int) ≤ 1; omega
  have p2 : E.ple 0 2 := by rw [hE]; show (0 : Int) ≤ 2; omega
  have g1 : R[E.nat 1]? = some [pI 5, pS ⟨#[61, 62]⟩, pI 2] := by rw [hE, ← hR]; rfl
  have g2 : R[E.nat 2]? = some [pI 3, pS ⟨#[49]⟩, pI 5] := by rw [hE, ← hR]; rfl
  have q1 : E.eq ⟨#[61, 62]⟩ ⟨#[61, 62]⟩ = true := by rw [hE]; exact decide_eq_true (show (⟨#[61, 62]⟩ : ByteArray) = ⟨#[61, 62]⟩ from rfl)
  clear hE hc hR
  cbv at l1
  cbv
  repeat (first | (refine ⟨_, h, ?_⟩; cbv) | (simp only [l1]; cbv) | simp only [l1] | (refine ⟨p1,_,g1, ?_⟩; cbv) | (simp only [q1]; cbv) | simp only [q1] | (refine ⟨p2,_,g2, ?_⟩; cbv))
structure LnI (N : Nat) (x : Int × ByteArray) : Prop where
  st : ∃ K : Nat, x.1 = (K : Nat) ∧ K ≤ N ∧ ((K = N ∧ x.2 = ⟨#[]⟩) ∨ (0 < K ∧ x.2.data.toList ≠ [] ∧ dig N = dig K ++ x.2.data.toList) ∨ (K = 0 ∧ x.2.data.toList = dig N))
structure LzI (r : Int) (x : Int × ByteArray) : Prop where
  i0 : 0 ≤ x.1
  i1 : x.1 ≤ r + 1
  z : x.2.data.toList = List.replicate x.1.toNat 48
end Go.Proofs.YtnhbboknffppiaaDoor
