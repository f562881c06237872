/- Own work: knapsacklaw26.ParserParens returns true for every input,and leaves its arguments as they were;the tables of the library are as the text of the program lays them. -/
import Derived.Test.YtcfecmeocimclaaGreatDoorYPA0
import Derived.Test.YtcfecmeocimclaaGreatDoorYPPYC
import Derived.Test.YtcfecmeocimclaaGreatDoorYPQFrame
import Derived.Test.YtcfecmeocimclaaGreatDoorCards
import Derived.Test.YtcfecmeocimclaaGreatDoorTie
import Derived.Carry
import Derived.ChangeMaps5
namespace Go.Proofs.YtcfecmeocimclaaGreatDoor
open Go.ChangeShapes Go.WideShapes Go.ChangeAt Go.RowKit Go.Lib Go.Shelf Go.ChangeMaps
set_option maxRecDepth 100000 in
theorem zig (os:Os) (started:os.Started) (H:Type) (enc:TypeId × Value->H) :
  ReturnsInHanded {} Tryz.checked os 7 .any (fun w args=>(Rows.parserParensSpec.pre enc Tryz.prog Tryz.f7 [] false w args/\laidMetH Tryz.prog zrm w)/\sizedMet enc Tryz.prog Tryz.f7 (OpenSpec.ofChange Rows.parserParensSpec) false w args)
   (Rows.parserParensSpec.post enc Tryz.prog Tryz.f7 false true false false):=by
 refine zoi (C:=Tryz.checked) (X:=fun w _=>laidMetH Tryz.prog zrm w) (fun _ _ _ hh h=>h.of_heap hh) own started (by kernel_rfl) Tryz.func7
  (ChangeSpec.witness_shaped (enc:=enc) (C:=Tryz.checked) (os:=os) (X:=fun w _=>laidMetH Tryz.prog zrm w) false (World.laidAll Tryz.prog os zrm) #[.string ByteArray.empty] 8 (World.laidAll_os _ _ _)
   (World.shaped_of_ZipB (by kernel_rfl) (by kernel_rfl)) (by kernel_rfl) (by kernel_rfl) (by kernel_rfl) (zw1 os _)) ?_
 intro W base args ds gs before hval0 hW hL hS;have hval:∀ (j:Nat) t v,Tryz.f7.params[j]?=some t->args[j]?=some v->Value.okWide Tryz.prog W .any base t v:=hval0
 have hW':=hW;obtain ⟨p,q,hA0,hV,rfl,_,_⟩:=hW;have hA:DataW.TrodAll enc Tryz.prog W 0 (fun _=>true) true Tryz.f7.params.toList args.toList ds p:=hA0
 rw [Tryz.params7] at hA hval;obtain ⟨v0,d0,rfl,rfl,h0⟩:=trodAll_one hA;obtain ⟨rfl,rfl⟩:=trodVars_none hV;obtain ⟨x0,rfl,rfl,rfl,lx0⟩:=open_string Tryz.underlying9 (hval 0 9 v0 rfl rfl) h0;simp only [List.append_nil] at hW';refine (zv3 (zk0 x0) (gl_of hL hS) (repsC (.v _) reps0)).mono fun e W' ⟨he,hb⟩=>?_
 subst he;exact ⟨_,rfl,_,_,_,[],_,[],hW',trodAll_mk1 (shut_bool Tryz.underlying4 _),trodAll_mk1 (shut_string Tryz.underlying9 lx0),rfl,hb.frame _,fun h=>by cases h⟩
theorem zi3:Rows.ParserParensSaid :=
 OpenClaim.holds_of_wide 7 Tryz.f7 rfl rfl rfl rfl rfl rfl rfl ⟨rfl,rfl,rfl,rfl,rfl⟩ rfl rfl rfl rfl rfl (by kernel_rfl) Tryz.func7 (by kernel_rfl)
  (oT (by kernel_rfl)) (by unfold Func.isWrapper;first|(rw [if_pos (by decide +kernel)];kernel_rfl)|(rw [if_neg (by decide +kernel)];exact ⟨rfl,rfl⟩))
  (fun os started H enc _=>zig os started H enc)
theorem parserParens_card:Rows.ParserParensCardSaid :=
 Claim7.holds_tied_plain_at .later [] [.data,.data,.data,.data,.sentinel,.sentinel,.pinned] true _ true
  zi3 (fun _ h=>by cases h) (by kernel_rfl) (fun _ h=>by cases h) parserParens_row_tie rfl ⟨rfl,rfl⟩ (by kernel_rfl) rfl
  (fun f fn hf hfn=>by
   obtain rfl:f=7:=Option.some.inj ((show Tryz.prog.funcNamed Rows.parserParensRow.func=some 7 by kernel_rfl).symm.trans hf) |>.symm
   obtain rfl:fn=Tryz.f7:=(Option.some.inj (Tryz.func7.symm.trans hfn)).symm;exact ⟨by kernel_rfl,fun j t ht=>by
    rw [Tryz.params7] at ht;have hm:t ∈ [9]:=by simpa using Array.mem_of_getElem? ht
    have hall:([9].all fun u=>!Tryz.prog.wantsStandIn u)=true:=by kernel_rfl
    exact (show Tryz.prog.wantsStandIn t=false by simpa using List.all_eq_true.1 hall t hm)⟩)
  (by kernel_rfl)
#print axioms parserParens_card
end Go.Proofs.YtcfecmeocimclaaGreatDoor
