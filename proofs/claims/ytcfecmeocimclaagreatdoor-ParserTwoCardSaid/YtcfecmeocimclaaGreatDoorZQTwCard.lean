/- Own work: knapsacklaw26.ParserTwo returns true for every input,and leaves its arguments as they were;the tables of the library are as the text of the program lays them. -/
import Derived.Test.YtcfecmeocimclaaGreatDoorZA0
import Derived.Test.YtcfecmeocimclaaGreatDoorZPWX
import Derived.Test.YtcfecmeocimclaaGreatDoorZQFrame
import Derived.Test.YtcfecmeocimclaaGreatDoorCards
import Derived.Test.YtcfecmeocimclaaGreatDoorTie
import Derived.Carry
import Derived.ChangeMaps5
namespace Go.Proofs.YtcfecmeocimclaaGreatDoor
open Go.ChangeShapes Go.WideShapes Go.ChangeAt Go.RowKit Go.Lib Go.Shelf Go.ChangeMaps
set_option maxRecDepth 100000 in
theorem zkw (os:Os) (started:os.Started) (H:Type) (enc:TypeId × Value->H) :
  ReturnsInHanded {} Tryz.checked os 6 .any (fun w args=>(Rows.parserTwoSpec.pre enc Tryz.prog Tryz.f6 [] false w args/\laidMetH Tryz.prog zrj w)/\sizedMet enc Tryz.prog Tryz.f6 (OpenSpec.ofChange Rows.parserTwoSpec) false w args)
   (Rows.parserTwoSpec.post enc Tryz.prog Tryz.f6 false true false false):=by
 refine zoh (C:=Tryz.checked) (X:=fun w _=>laidMetH Tryz.prog zrj w) (fun _ _ _ hh h=>h.of_heap hh) own started (by kernel_rfl) Tryz.func6
  (ChangeSpec.witness_shaped (enc:=enc) (C:=Tryz.checked) (os:=os) (X:=fun w _=>laidMetH Tryz.prog zrj w) false (World.laidAll Tryz.prog os zrj) #[.string ByteArray.empty,.string ByteArray.empty] 8 (World.laidAll_os _ _ _)
   (World.shaped_of_ZipB (by kernel_rfl) (by kernel_rfl)) (by kernel_rfl) (by kernel_rfl) (by kernel_rfl) (zwu os _)) ?_
 intro W base args ds gs before hval0 hW hL hS;have hval:∀ (j:Nat) t v,Tryz.f6.params[j]?=some t->args[j]?=some v->Value.okWide Tryz.prog W .any base t v:=hval0
 have hW':=hW;obtain ⟨p,q,hA0,hV,rfl,_,_⟩:=hW;have hA:DataW.TrodAll enc Tryz.prog W 0 (fun _=>true) true Tryz.f6.params.toList args.toList ds p:=hA0
 rw [Tryz.params6] at hA hval;obtain ⟨v0,v1,d0,d1,p0,p1,rfl,rfl,rfl,h0,h1⟩:=trodAll_two hA;obtain ⟨rfl,rfl⟩:=trodVars_none hV;obtain ⟨x0,rfl,rfl,rfl,lx0⟩:=open_string Tryz.underlying9 (hval 0 9 v0 rfl rfl) h0;obtain ⟨x1,rfl,rfl,rfl,lx1⟩:=open_string Tryz.underlying9 (hval 1 9 v1 rfl rfl) h1;simp only [List.append_nil] at hW';refine (zvw (znx x0 x1) (gl_of hL hS) (z4i (.v _) (z4i (.v _) reps0))).mono fun e W' ⟨he,hb⟩=>?_
 subst he;exact ⟨_,rfl,_,_,_,[],_,[],hW',trodAll_mk1 (shut_bool Tryz.underlying4 _),trodAll_mk2 (shut_string Tryz.underlying9 lx0) (shut_string Tryz.underlying9 lx1),rfl,hb.frame _,fun h=>by cases h⟩
theorem zlu:Rows.ParserTwoSaid :=
 OpenClaim.holds_of_wide 6 Tryz.f6 rfl rfl rfl rfl rfl rfl rfl ⟨rfl,rfl,rfl,rfl,rfl⟩ rfl rfl rfl rfl rfl (by kernel_rfl) Tryz.func6 (by kernel_rfl)
  (oT (by kernel_rfl)) (by unfold Func.isWrapper;first|(rw [if_pos (by decide +kernel)];kernel_rfl)|(rw [if_neg (by decide +kernel)];exact ⟨rfl,rfl⟩))
  (fun os started H enc _=>zkw os started H enc)
theorem parserTwo_card:Rows.ParserTwoCardSaid :=
 Claim7.holds_tied_plain_at .later [] [.data,.data,.data,.data,.sentinel,.sentinel,.pinned] true _ true
  zlu (fun _ h=>by cases h) (by kernel_rfl) (fun _ h=>by cases h) parserTwo_row_tie rfl ⟨rfl,rfl⟩ (by kernel_rfl) rfl
  (fun f fn hf hfn=>by
   obtain rfl:f=6:=Option.some.inj ((show Tryz.prog.funcNamed Rows.parserTwoRow.func=some 6 by kernel_rfl).symm.trans hf) |>.symm
   obtain rfl:fn=Tryz.f6:=(Option.some.inj (Tryz.func6.symm.trans hfn)).symm;exact ⟨by kernel_rfl,fun j t ht=>by
    rw [Tryz.params6] at ht;have hm:t ∈ [9,9]:=by simpa using Array.mem_of_getElem? ht
    have hall:([9,9].all fun u=>!Tryz.prog.wantsStandIn u)=true:=by kernel_rfl
    exact (show Tryz.prog.wantsStandIn t=false by simpa using List.all_eq_true.1 hall t hm)⟩)
  (by kernel_rfl)
#print axioms parserTwo_card
end Go.Proofs.YtcfecmeocimclaaGreatDoor
