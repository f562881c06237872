/- Own work: knapsacklaw27.BytecodeTexts returns true for every input, and leaves its arguments as they were; the tables of the library are as the text of the program lays them. -/
import Derived.Test.YtjefbgfohijaoaaGreatDoorWBFrame
import Derived.Test.YtjefbgfohijaoaaGreatDoorWPO
import Derived.Test.YtjefbgfohijaoaaGreatDoorCards
import Derived.Test.YtjefbgfohijaoaaGreatDoorTie
import Derived.Carry
import Derived.ChangeMaps5
namespace Go.Proofs.YtjefbgfohijaoaaGreatDoor
open Go.ChangeShapes Go.WideShapes Go.ChangeAt Go.RowKit Go.Lib Go.Shelf Go.ChangeMaps
set_option maxRecDepth 100000 in
theorem bytecodeTexts_lifted (os : Os) (started : os.Started) (H : Type) (enc : TypeId × Value -> H) :
  ReturnsInHanded {} Tryz.checked os 3 .any (fun w args => (Rows.bytecodeTextsSpec.pre enc Tryz.prog Tryz.f3 [] false w args /\ laidMetH Tryz.prog laid7 w) /\ sizedMet enc Tryz.prog Tryz.f3 (OpenSpec.ofChange Rows.bytecodeTextsSpec) false w args)
   (Rows.bytecodeTextsSpec.post enc Tryz.prog Tryz.f3 false true false false) := by
 refine handed_shaped (C := Tryz.checked) (X := fun w _ => laidMetH Tryz.prog laid7 w) (fun _ _ _ hh h => h.of_heap hh) own started (by kernel_rfl) Tryz.func3
  (ChangeSpec.witness_shaped (enc := enc) (C := Tryz.checked) (os := os) (X := fun w _ => laidMetH Tryz.prog laid7 w) false (World.laidAll Tryz.prog os laid7) #[.agg #[.slice none 0 0]] 8 (World.laidAll_os _ _ _)
   (World.shaped_of_ZipB (by kernel_rfl) (by kernel_rfl)) (by kernel_rfl) (by kernel_rfl) (by kernel_rfl) (laid_met7 os _)) ?_
 intro W base args ds gs before hval0 hW hL hS
 have hval : ∀ (j : Nat) t v, Tryz.f3.params[j]? = some t -> args[j]? = some v -> Value.okWide Tryz.prog W .any base t v := hval0
 have hW' := hW
 obtain ⟨p, q, hA0, hV, rfl, _, _⟩ := hW
 have hA : DataW.TrodAll enc Tryz.prog W 0 (fun _ => true) true Tryz.f3.params.toList args.toList ds p := hA0
 rw [Tryz.params3] at hA hval
 obtain ⟨v0, d0, rfl, rfl, h0⟩ := trodAll_one hA
 obtain ⟨rfl, rfl⟩ := trodVars_none hV
 have k0 := h0
 obtain ⟨A0, rs0, c0, rfl, hP0, hF0, hl0, hm0⟩ := open_prog (hval 0 _ v0 rfl rfl) h0
 simp only [List.append_nil] at hW'
 have hlt : ∀ x ∈ p, x.block < W.heap.size := fun x hx => by simpa using hW'.lt x hx
 refine (ret_trueZ (ltexts_ret _ (fnSz_of hP0) (fun f hf c hc => by obtain ⟨r, hr, rfl⟩ := List.mem_map.1 hf; exact ⟨((hF0 r hr).consts c hc).int.1, by have := ((hF0 r hr).consts c hc).int.2; omega⟩)) (gz_of hL hS) (repsC (rep_prog hP0 hl0 (fun r hr => fnCap_of (hF0 r hr))) reps0)).mono fun e W' ⟨he, hb⟩ => ?_
 subst he
 exact ⟨_, rfl, _, _, _, [], _, [], hW', trodAll_mk1 (shut_bool Tryz.underlying4 _), trodAll_mk1 (Below.trod laid_out (by kernel_rfl) (of_decide_eq_true (by kernel_rfl)) k0 hb hlt), rfl, hb.frame _, fun h => by cases h⟩
theorem bytecodeTexts_holds : Rows.BytecodeTextsSaid :=
 OpenClaim.holds_of_wide 3 Tryz.f3 rfl rfl rfl rfl rfl rfl rfl ⟨rfl, rfl, rfl, rfl, rfl⟩ rfl rfl rfl rfl rfl (by kernel_rfl) Tryz.func3 (by kernel_rfl)
  (of_decide_eq_true (by kernel_rfl)) (by unfold Func.isWrapper; first | (rw [if_pos (by decide +kernel)]; kernel_rfl) | (rw [if_neg (by decide +kernel)]; exact ⟨rfl, rfl⟩))
  (fun os started H enc _ => bytecodeTexts_lifted os started H enc)
theorem bytecodeTexts_card : Rows.BytecodeTextsCardSaid :=
 Claim7.holds_tied_plain_at .later [] [.data, .data, .data, .data, .sentinel, .sentinel, .pinned] true _ true
  bytecodeTexts_holds (fun _ h => by cases h) (by kernel_rfl) (fun _ h => by cases h) bytecodeTexts_row_tie rfl ⟨rfl, rfl⟩ (by kernel_rfl) rfl
  (fun f fn hf hfn => by
   obtain rfl : f = 3 := Option.some.inj ((show Tryz.prog.funcNamed Rows.bytecodeTextsRow.func = some 3 by kernel_rfl).symm.trans hf) |>.symm
   obtain rfl : fn = Tryz.f3 := (Option.some.inj (Tryz.func3.symm.trans hfn)).symm
   exact ⟨by kernel_rfl, fun j t ht => by
    rw [Tryz.params3] at ht
    have hm : t ∈ [24] := by simpa using Array.mem_of_getElem? ht
    have hall : ([24].all fun u => !Tryz.prog.wantsStandIn u) = true := by kernel_rfl
    exact (show Tryz.prog.wantsStandIn t = false by simpa using List.all_eq_true.1 hall t hm)⟩)
  (by kernel_rfl)
#print axioms bytecodeTexts_card
end Go.Proofs.YtjefbgfohijaoaaGreatDoor
