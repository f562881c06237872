/- Own work: knapsacklaw27.BytecodeAppends returns true for every three programs, and leaves them as they were; the two tables of package utf8 are as the text of the program lays them. -/
import Derived.Test.YtlffpgjkhehdmaaDoorBA4
import Derived.Test.YtlffpgjkhehdmaaDoorPO
import Derived.Test.YtlffpgjkhehdmaaDoorFrame
import Derived.Test.YtlffpgjkhehdmaaDoorOpen
import Derived.Test.YtlffpgjkhehdmaaDoorCards
import Derived.Test.YtlffpgjkhehdmaaDoorTie
import Derived.Carry
import Derived.ChangeMaps5
namespace Go.Proofs.YtlffpgjkhehdmaaDoor
open Go.ChangeShapes Go.WideShapes Go.ChangeAt Go.RowKit Go.Lib Go.Shelf Go.ChangeMaps

theorem lappends_laidOut : laidOutB Tryd.prog = true := by kernel_rfl

set_option maxRecDepth 100000 in
theorem lappends_lifted (os : Os) (started : os.Started) (H : Type) (enc : TypeId × Value → H) :
    ReturnsInHanded {} Tryd.checked os 4 .any (fun w args => (Rows.bytecodeAppendsSpec.pre enc Tryd.prog Tryd.f4 [] false w args ∧ laidMetH Tryd.prog laid2 w) ∧ sizedMet enc Tryd.prog Tryd.f4 (OpenSpec.ofChange Rows.bytecodeAppendsSpec) false w args)
      (Rows.bytecodeAppendsSpec.post enc Tryd.prog Tryd.f4 false true false false) := by
  refine returnsInHanded_of_change_and (C := Tryd.checked) (X := fun w _ => laidMetH Tryd.prog laid2 w) (fun _ _ _ hh h => h.of_heap hh) own started (by kernel_rfl) Tryd.func4
    (ChangeSpec.witness_shaped (enc := enc) (C := Tryd.checked) (os := os) (X := fun w _ => laidMetH Tryd.prog laid2 w) false (World.laidAll Tryd.prog os laid2) #[.agg #[.slice none 0 0], .agg #[.slice none 0 0], .agg #[.slice none 0 0]] 8 (World.laidAll_os _ _ _)
      (World.shaped_of_ZipB (by kernel_rfl) (by kernel_rfl)) (by kernel_rfl) (by kernel_rfl) (by kernel_rfl) (laid_met os _)) ?_
  intro W base args ds gs before hval0 hW _ _ hL _
  have hval : ∀ (j : Nat) t v, Tryd.f4.params[j]? = some t → args[j]? = some v → Value.okWide Tryd.prog W .any base t v := hval0
  have hW' := hW
  obtain ⟨p, q, hA0, hV, rfl, _, _⟩ := hW
  have hA : DataW.TrodAll enc Tryd.prog W 0 (fun _ => true) true Tryd.f4.params.toList args.toList ds p := hA0
  rw [Tryd.params4] at hA hval
  obtain ⟨v0, v1, v2, d0, d1, d2, p0, p1, p2, rfl, rfl, rfl, h0, h1, h2⟩ := trodAll_three hA
  obtain ⟨rfl, rfl⟩ := trodVars_none hV
  have k0 := h0
  obtain ⟨A0, rs0, c0, rfl, hP0, hF0, hl0, hm0⟩ := open_prog (hval 0 _ v0 rfl rfl) h0
  have k1 := h1
  obtain ⟨A1, rs1, c1, rfl, hP1, hF1, hl1, hm1⟩ := open_prog (hval 1 _ v1 rfl rfl) h1
  have k2 := h2
  obtain ⟨A2, rs2, c2, rfl, hP2, hF2, hl2, hm2⟩ := open_prog (hval 2 _ v2 rfl rfl) h2
  simp only [List.append_nil] at hW'
  have hlt : ∀ x ∈ p0 ++ (p1 ++ p2), x.block < W.heap.size := fun x hx => hW'.lt x (by simpa using hx)
  refine (ret_trueT (lappends_ret _ _ _ (fnSz_of hP0) (fnSz_of hP1) (fnSz_of hP2)) (tabs_of_laid hL) (repsC (rep_prog hP0 hl0 (fun r hr => fnCap_of (hF0 r hr))) (repsC (rep_prog hP1 hl1 (fun r hr => fnCap_of (hF1 r hr))) (repsC (rep_prog hP2 hl2 (fun r hr => fnCap_of (hF2 r hr))) reps0)))).mono fun e W' ⟨he, hb⟩ => ?_
  subst he
  exact ⟨_, rfl, _, _, _, [], _, [], hW', trodAll_mk1 (shut_bool Tryd.underlying4 _), trodAll_mk3 (Below.trod lappends_laidOut (by kernel_rfl) (of_decide_eq_true (by kernel_rfl)) k0 hb (fun x hx => hlt x (by simp [hx]))) (Below.trod lappends_laidOut (by kernel_rfl) (of_decide_eq_true (by kernel_rfl)) k1 hb (fun x hx => hlt x (by simp [hx]))) (Below.trod lappends_laidOut (by kernel_rfl) (of_decide_eq_true (by kernel_rfl)) k2 hb (fun x hx => hlt x (by simp [hx]))), rfl, hb.frame _, fun h => by cases h⟩

theorem lappends_holds : Rows.BytecodeAppendsSaid :=
  OpenClaim.holds_of_wide 4 Tryd.f4 rfl rfl rfl rfl rfl rfl rfl ⟨rfl, rfl, rfl, rfl, rfl⟩ rfl rfl rfl rfl rfl (by kernel_rfl) Tryd.func4 (by kernel_rfl)
    (of_decide_eq_true (by kernel_rfl)) (by unfold Func.isWrapper; first | (rw [if_pos (by decide +kernel)]; kernel_rfl) | (rw [if_neg (by decide +kernel)]; exact ⟨rfl, rfl⟩))
    (fun os started H enc _ => lappends_lifted os started H enc)

/-- the tied card -/
theorem lappends_card : Rows.BytecodeAppendsCardSaid :=
  Claim7.holds_tied_plain_at .later [] [.data, .pinned] true _ true
    lappends_holds (fun _ h => by cases h) (by kernel_rfl) (fun _ h => by cases h) bytecodeAppends_row_tie rfl ⟨rfl, rfl⟩ (by kernel_rfl) rfl
    (fun f fn hf hfn => by
      obtain rfl : f = 4 := Option.some.inj ((show Tryd.prog.funcNamed Rows.bytecodeAppendsRow.func = some 4 by kernel_rfl).symm.trans hf) |>.symm
      obtain rfl : fn = Tryd.f4 := (Option.some.inj (Tryd.func4.symm.trans hfn)).symm
      exact ⟨by kernel_rfl, fun j t ht => by
        rw [Tryd.params4] at ht
        have hm : t ∈ [33, 33, 33] := by simpa using Array.mem_of_getElem? ht
        have hall : ([33, 33, 33].all fun u => !Tryd.prog.wantsStandIn u) = true := by kernel_rfl
        exact (show Tryd.prog.wantsStandIn t = false by simpa using List.all_eq_true.1 hall t hm)⟩)
    (by kernel_rfl)
#print axioms lappends_card
end Go.Proofs.YtlffpgjkhehdmaaDoor
