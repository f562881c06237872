/- Own work: knapsacklaw30.ValueBinary returns true for every input, and leaves its arguments as they were; the tables of the library are as the text of the program lays them. -/
import Derived.Test.YtadgpchdlkiinaaDoorV12
import Derived.Test.YtadgpchdlkiinaaDoorVOpen
import Derived.Test.YtadgpchdlkiinaaDoorCards
import Derived.Test.YtadgpchdlkiinaaDoorTie
import Derived.Carry
import Derived.ChangeMaps5
namespace Go.Proofs.YtadgpchdlkiinaaDoor
open Go.ChangeShapes Go.WideShapes Go.ChangeAt Go.RowKit Go.Lib Go.Shelf Go.ChangeMaps

set_option maxRecDepth 100000 in
theorem valueBinary_lifted (os : Os) (started : os.Started) (H : Type) (enc : TypeId × Value → H) :
    ReturnsInHanded {} Tryd.checked os 5 .any (fun w args => (Rows.valueBinarySpec.pre enc Tryd.prog Tryd.f5 [] false w args ∧ laidMetH Tryd.prog laid5 w) ∧ sizedMet enc Tryd.prog Tryd.f5 (OpenSpec.ofChange Rows.valueBinarySpec) false w args)
      (Rows.valueBinarySpec.post enc Tryd.prog Tryd.f5 false true false false) := by
  refine returnsInHanded_of_change_and (C := Tryd.checked) (X := fun w _ => laidMetH Tryd.prog laid5 w) (fun _ _ _ hh h => h.of_heap hh) own started (by kernel_rfl) Tryd.func5
    (ChangeSpec.witness_shaped (enc := enc) (C := Tryd.checked) (os := os) (X := fun w _ => laidMetH Tryd.prog laid5 w) false (World.laidAll Tryd.prog os laid5) #[.int .i8 0, .agg #[.int .i64 0, .int .i64 0, .string ByteArray.empty, .int .i64 0], .agg #[.int .i64 0, .int .i64 0, .string ByteArray.empty, .int .i64 0]] 8 (World.laidAll_os _ _ _)
      (World.shaped_of_ZipB (by kernel_rfl) (by kernel_rfl)) (by kernel_rfl) (by kernel_rfl) (by kernel_rfl) (laid_met os _)) ?_
  intro W base args ds gs before hval0 hW _ _ hL _
  have hval : ∀ (j : Nat) t v, Tryd.f5.params[j]? = some t → args[j]? = some v → Value.okWide Tryd.prog W .any base t v := hval0
  have hW' := hW
  obtain ⟨p, q, hA0, hV, rfl, _, _⟩ := hW
  have hA : DataW.TrodAll enc Tryd.prog W 0 (fun _ => true) true Tryd.f5.params.toList args.toList ds p := hA0
  rw [Tryd.params5] at hA hval
  obtain ⟨v0, v1, v2, d0, d1, d2, p0, p1, p2, rfl, rfl, rfl, h0, h1, h2⟩ := trodAll_three hA
  obtain ⟨rfl, rfl⟩ := trodVars_none hV
  obtain ⟨x0, rfl, rfl, rfl, wx0⟩ := open_int Tryd.underlying34 (hval 0 34 v0 rfl rfl) h0
  have k1 := h1
  obtain ⟨x1, rfl, vx1⟩ := open_val (hval 1 _ v1 rfl rfl) h1
  have k2 := h2
  obtain ⟨x2, rfl, vx2⟩ := open_val (hval 2 _ v2 rfl rfl) h2
  simp only [List.append_nil] at hW'
  have hlt : ∀ x ∈ p1 ++ p2, x.block < W.heap.size := fun x hx => hW'.lt x (by simpa using hx)
  refine (ret_true' (lbinary_ret x0 x1 x2 (wf8 wx0).1 (wf8 wx0).2 vx1.n.1 vx1.n.2 vx2.n.1 vx2.n.2) (good_of_laid hL) (repsC (.v _) (repsC (rep_val x1) (repsC (rep_val x2) reps0)))).mono fun e W' ⟨he, hb⟩ => ?_
  subst he
  exact ⟨_, rfl, _, _, _, [], _, [], hW', trodAll_mk1 (shut_bool Tryd.underlying4 _), trodAll_mk3 (shut_int Tryd.underlying34 wx0) (Below.trod laid_out (by kernel_rfl) (of_decide_eq_true (by kernel_rfl)) k1 hb (fun x hx => hlt x (by simp [hx]))) (Below.trod laid_out (by kernel_rfl) (of_decide_eq_true (by kernel_rfl)) k2 hb (fun x hx => hlt x (by simp [hx]))), rfl, hb.frame _, fun h => by cases h⟩

theorem valueBinary_holds : Rows.ValueBinarySaid :=
  OpenClaim.holds_of_wide 5 Tryd.f5 rfl rfl rfl rfl rfl rfl rfl ⟨rfl, rfl, rfl, rfl, rfl⟩ rfl rfl rfl rfl rfl (by kernel_rfl) Tryd.func5 (by kernel_rfl)
    (of_decide_eq_true (by kernel_rfl)) (by unfold Func.isWrapper; first | (rw [if_pos (by decide +kernel)]; kernel_rfl) | (rw [if_neg (by decide +kernel)]; exact ⟨rfl, rfl⟩))
    (fun os started H enc _ => valueBinary_lifted os started H enc)

/-- the tied card -/
theorem valueBinary_card : Rows.ValueBinaryCardSaid :=
  Claim7.holds_tied_plain_at .later [] [.data, .data, .data, .data, .pinned] true _ true
    valueBinary_holds (fun _ h => by cases h) (by kernel_rfl) (fun _ h => by cases h) valueBinary_row_tie rfl ⟨rfl, rfl⟩ (by kernel_rfl) rfl
    (fun f fn hf hfn => by
      obtain rfl : f = 5 := Option.some.inj ((show Tryd.prog.funcNamed Rows.valueBinaryRow.func = some 5 by kernel_rfl).symm.trans hf) |>.symm
      obtain rfl : fn = Tryd.f5 := (Option.some.inj (Tryd.func5.symm.trans hfn)).symm
      exact ⟨by kernel_rfl, fun j t ht => by
        rw [Tryd.params5] at ht
        have hm : t ∈ [34, 23, 23] := by simpa using Array.mem_of_getElem? ht
        have hall : ([34, 23, 23].all fun u => !Tryd.prog.wantsStandIn u) = true := by kernel_rfl
        exact (show Tryd.prog.wantsStandIn t = false by simpa using List.all_eq_true.1 hall t hm)⟩)
    (by kernel_rfl)
#print axioms valueBinary_card
end Go.Proofs.YtadgpchdlkiinaaDoor
