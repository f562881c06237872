/- Own work: knapsacklaw26.ParserDeep returns true for every input,and leaves its arguments as they were;the tables of the library are as the text of the program lays them. -/
import Derived.Test.YtcfecmeocimclaaGreatDoorYQA0
import Derived.Test.YtcfecmeocimclaaGreatDoorYQPYI
import Derived.Test.YtcfecmeocimclaaGreatDoorYQQFrame
import Derived.Test.YtcfecmeocimclaaGreatDoorCards
import Derived.Test.YtcfecmeocimclaaGreatDoorTie
import Derived.Carry
import Derived.ChangeMaps5
namespace Go.Proofs.YtcfecmeocimclaaGreatDoor
open Go.ChangeShapes Go.WideShapes Go.ChangeAt Go.RowKit Go.Lib Go.Shelf Go.ChangeMaps
set_option maxRecDepth 100000 in
theorem zkn (os:Os) (started:os.Started) (H:Type) (enc:TypeId × Value->H) :
  ReturnsInHanded {} Tryz.checked os 3 .any (fun w args=>(Rows.parserDeepSpec.pre enc Tryz.prog Tryz.f3 [] false w args/\laidMetH Tryz.prog zmz w)/\sizedMet enc Tryz.prog Tryz.f3 (OpenSpec.ofChange Rows.parserDeepSpec) false w args)
   (Rows.parserDeepSpec.post enc Tryz.prog Tryz.f3 false true false false):=by
 refine zjz (C:=Tryz.checked) (X:=fun w _=>laidMetH Tryz.prog zmz w) (fun _ _ _ hh h=>h.of_heap hh) own started (by kernel_rfl) Tryz.func3
  (ChangeSpec.witness_shaped (enc:=enc) (C:=Tryz.checked) (os:=os) (X:=fun w _=>laidMetH Tryz.prog zmz w) false (World.laidAll Tryz.prog os zmz) #[.int .u16 0,.int .u8 0] 8 (World.laidAll_os _ _ _)
   (World.shaped_of_ZipB (by kernel_rfl) (by kernel_rfl)) (by kernel_rfl) (by kernel_rfl) (by kernel_rfl) (zrb os _)) ?_
 intro W base args ds gs before hval0 hW hL hS;have hval:∀ (j:Nat) t v,Tryz.f3.params[j]?=some t->args[j]?=some v->Value.okWide Tryz.prog W .any base t v:=hval0
 have hW':=hW;obtain ⟨p,q,hA0,hV,rfl,_,_⟩:=hW;have hA:DataW.TrodAll enc Tryz.prog W 0 (fun _=>true) true Tryz.f3.params.toList args.toList ds p:=hA0
 rw [Tryz.params3] at hA hval;obtain ⟨v0,v1,d0,d1,p0,p1,rfl,rfl,rfl,h0,h1⟩:=trodAll_two hA;obtain ⟨rfl,rfl⟩:=trodVars_none hV;obtain ⟨x0,rfl,rfl,rfl,wx0⟩:=open_int Tryz.underlying22 (hval 0 22 v0 rfl rfl) h0;obtain ⟨x1,rfl,rfl,rfl,wx1⟩:=open_int Tryz.underlying5 (hval 1 5 v1 rfl rfl) h1;simp only [List.append_nil] at hW';refine (zqu (znt wx0 wx1) (z7q hL hS) (z0l (.v _) (z0l (.v _) z6h))).mono fun e W' ⟨he,hb⟩=>?_
 subst he;exact ⟨_,rfl,_,_,_,[],_,[],hW',trodAll_mk1 (shut_bool Tryz.underlying4 _),trodAll_mk2 (shut_int Tryz.underlying22 wx0) (shut_int Tryz.underlying5 wx1),rfl,hb.frame _,fun h=>by cases h⟩
theorem zls:Rows.ParserDeepSaid :=
 OpenClaim.holds_of_wide 3 Tryz.f3 rfl rfl rfl rfl rfl rfl rfl ⟨rfl,rfl,rfl,rfl,rfl⟩ rfl rfl rfl rfl rfl (by kernel_rfl) Tryz.func3 (by kernel_rfl)
  (oT (by kernel_rfl)) (by unfold Func.isWrapper;first|(rw [if_pos (by decide +kernel)];kernel_rfl)|(rw [if_neg (by decide +kernel)];exact ⟨rfl,rfl⟩))
  (fun os started H enc _=>zkn os started H enc)
theorem parserDeep_card:Rows.ParserDeepCardSaid :=
 Claim7.holds_tied_plain_at .later [] [.data,.data,.data,.data,.sentinel,.sentinel,.pinned] true _ true
  zls (fun _ h=>by cases h) (by kernel_rfl) (fun _ h=>by cases h) parserDeep_row_tie rfl ⟨rfl,rfl⟩ (by kernel_rfl) rfl
  (fun f fn hf hfn=>by
   obtain rfl:f=3:=Option.some.inj ((show Tryz.prog.funcNamed Rows.parserDeepRow.func=some 3 by kernel_rfl).symm.trans hf) |>.symm
   obtain rfl:fn=Tryz.f3:=(Option.some.inj (Tryz.func3.symm.trans hfn)).symm;exact ⟨by kernel_rfl,fun j t ht=>by
    rw [Tryz.params3] at ht;have hm:t ∈ [22,5]:=by simpa using Array.mem_of_getElem? ht
    have hall:([22,5].all fun u=>!Tryz.prog.wantsStandIn u)=true:=by kernel_rfl
    exact (show Tryz.prog.wantsStandIn t=false by simpa using List.all_eq_true.1 hall t hm)⟩)
  (by kernel_rfl)
#print axioms parserDeep_card
end Go.Proofs.YtcfecmeocimclaaGreatDoor
