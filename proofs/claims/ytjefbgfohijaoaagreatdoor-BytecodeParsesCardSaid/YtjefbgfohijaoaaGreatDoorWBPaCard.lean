/- Own work: knapsacklaw27.BytecodeParses returns true for every input, and leaves its arguments as they were; the tables of the library are as the text of the program lays them. -/
import Derived.Test.YtjefbgfohijaoaaGreatDoorWBFrame
import Derived.Test.YtjefbgfohijaoaaGreatDoorCards
import Derived.Test.YtjefbgfohijaoaaGreatDoorTie
import Derived.Carry
import Derived.ChangeMaps5
namespace Go.Proofs.YtjefbgfohijaoaaGreatDoor
open Go.ChangeShapes Go.WideShapes Go.ChangeAt Go.RowKit Go.Lib Go.Shelf Go.ChangeMaps
set_option maxRecDepth 100000 in
theorem bytecodeParses_lifted (os : Os) (started : os.Started) (H : Type) (enc : TypeId × Value -> H) :
  ReturnsInHanded {} Tryz.checked os 4 .any (fun w args => (Rows.bytecodeParsesSpec.pre enc Tryz.prog Tryz.f4 [] false w args /\ laidMetH Tryz.prog laid7 w) /\ sizedMet enc Tryz.prog Tryz.f4 (OpenSpec.ofChange Rows.bytecodeParsesSpec) false w args)
   (Rows.bytecodeParsesSpec.post enc Tryz.prog Tryz.f4 false true false false) := by
 refine handed_shaped (C := Tryz.checked) (X := fun w _ => laidMetH Tryz.prog laid7 w) (fun _ _ _ hh h => h.of_heap hh) own started (by kernel_rfl) Tryz.func4
  (ChangeSpec.witness_shaped (enc := enc) (C := Tryz.checked) (os := os) (X := fun w _ => laidMetH Tryz.prog laid7 w) false (World.laidAll Tryz.prog os laid7) #[.string ByteArray.empty] 8 (World.laidAll_os _ _ _)
   (World.shaped_of_ZipB (by kernel_rfl) (by kernel_rfl)) (by kernel_rfl) (by kernel_rfl) (by kernel_rfl) (laid_met7 os _)) ?_
 intro W base args ds gs before hval0 hW hL hS
 have hval : ∀ (j : Nat) t v, Tryz.f4.params[j]? = some t -> args[j]? = some v -> Value.okWide Tryz.prog W .any base t v := hval0
 have hW' := hW
 obtain ⟨p, q, hA0, hV, rfl, _, _⟩ := hW
 have hA : DataW.TrodAll enc Tryz.prog W 0 (fun _ => true) true Tryz.f4.params.toList args.toList ds p := hA0
 rw [Tryz.params4] at hA hval
 obtain ⟨v0, d0, rfl, rfl, h0⟩ := trodAll_one hA
 obtain ⟨rfl, rfl⟩ := trodVars_none hV
 obtain ⟨x0, rfl, rfl, rfl, lx0⟩ := open_string Tryz.underlying9 (hval 0 9 v0 rfl rfl) h0
 simp only [List.append_nil] at hW'
 refine (ret_trueZ (lparses_ret x0) (gz_of hL hS) (repsC (.v _) reps0)).mono fun e W' ⟨he, hb⟩ => ?_
 subst he
 exact ⟨_, rfl, _, _, _, [], _, [], hW', trodAll_mk1 (shut_bool Tryz.underlying4 _), trodAll_mk1 (shut_string Tryz.underlying9 lx0), rfl, hb.frame _, fun h => by cases h⟩
theorem bytecodeParses_holds : Rows.BytecodeParsesSaid :=
 OpenClaim.holds_of_wide 4 Tryz.f4 rfl rfl rfl rfl rfl rfl rfl ⟨rfl, rfl, rfl, rfl, rfl⟩ rfl rfl rfl rfl rfl (by kernel_rfl) Tryz.func4 (by kernel_rfl)
  (of_decide_eq_true (by kernel_rfl)) (by unfold Func.isWrapper; first | (rw [if_pos (by decide +kernel)]; kernel_rfl) | (rw [if_neg (by decide +kernel)]; exact ⟨rfl, rfl⟩))
  (fun os started H enc _ => bytecodeParses_lifted os started H enc)
theorem bytecodeParses_card : Rows.BytecodeParsesCardSaid :=
 Claim7.holds_tied_plain_at .later [] [.data, .data, .data, .data, .sentinel, .sentinel, .pinned] true _ true
  bytecodeParses_holds (fun _ h => by cases h) (by kernel_rfl) (fun _ h => by cases h) bytecodeParses_row_tie rfl ⟨rfl, rfl⟩ (by kernel_rfl) rfl
  (fun f fn hf hfn => by
   obtain rfl : f = 4 := Option.some.inj ((show Tryz.prog.funcNamed Rows.bytecodeParsesRow.func = some 4 by kernel_rfl).symm.trans hf) |>.symm
   obtain rfl : fn = Tryz.f4 := (Option.some.inj (Tryz.func4.symm.trans hfn)).symm
   exact ⟨by kernel_rfl, fun j t ht => by
    rw [Tryz.params4] at ht
    have hm : t ∈ [9] := by simpa using Array.mem_of_getElem? ht
    have hall : ([9].all fun u => !Tryz.prog.wantsStandIn u) = true := by kernel_rfl
    exact (show Tryz.prog.wantsStandIn t = false by simpa using List.all_eq_true.1 hall t hm)⟩)
  (by kernel_rfl)
#print axioms bytecodeParses_card
end Go.Proofs.YtjefbgfohijaoaaGreatDoor
