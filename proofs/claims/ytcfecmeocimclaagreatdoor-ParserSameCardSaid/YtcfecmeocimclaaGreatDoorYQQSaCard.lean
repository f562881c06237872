/- Own work: knapsacklaw26.ParserSame returns true for every input,and leaves its arguments as they were;the tables of the library are as the text of the program lays them. -/
import Derived.Test.YtcfecmeocimclaaGreatDoorYQA0
import Derived.Test.YtcfecmeocimclaaGreatDoorYQPYG
import Derived.Test.YtcfecmeocimclaaGreatDoorYQPYF
import Derived.Test.YtcfecmeocimclaaGreatDoorYQQFrame
import Derived.Test.YtcfecmeocimclaaGreatDoorCards
import Derived.Test.YtcfecmeocimclaaGreatDoorTie
import Derived.Carry
import Derived.ChangeMaps5
namespace Go.Proofs.YtcfecmeocimclaaGreatDoor
open Go.ChangeShapes Go.WideShapes Go.ChangeAt Go.RowKit Go.Lib Go.Shelf Go.ChangeMaps
set_option maxRecDepth 100000 in
theorem zkm (os:Os) (started:os.Started) (H:Type) (enc:TypeId × Value->H) :
  ReturnsInHanded {} Tryz.checked os 5 .any (fun w args=>(Rows.parserSameSpec.pre enc Tryz.prog Tryz.f5 [] false w args/\laidMetH Tryz.prog zmz w)/\sizedMet enc Tryz.prog Tryz.f5 (OpenSpec.ofChange Rows.parserSameSpec) false w args)
   (Rows.parserSameSpec.post enc Tryz.prog Tryz.f5 false true false false):=by
 refine zjz (C:=Tryz.checked) (X:=fun w _=>laidMetH Tryz.prog zmz w) (fun _ _ _ hh h=>h.of_heap hh) own started (by kernel_rfl) Tryz.func5
  (ChangeSpec.witness_shaped (enc:=enc) (C:=Tryz.checked) (os:=os) (X:=fun w _=>laidMetH Tryz.prog zmz w) false (World.laidAll Tryz.prog os zmz) #[.agg #[.int .i64 0,.string ByteArray.empty,.int .i64 0,.int .i64 0,.slice none 0 0],.agg #[.int .i64 0,.string ByteArray.empty,.int .i64 0,.int .i64 0,.slice none 0 0]] 8 (World.laidAll_os _ _ _)
   (World.shaped_of_ZipB (by kernel_rfl) (by kernel_rfl)) (by kernel_rfl) (by kernel_rfl) (by kernel_rfl) (zrb os _)) ?_
 intro W base args ds gs before hval0 hW hL hS;have hval:∀ (j:Nat) t v,Tryz.f5.params[j]?=some t->args[j]?=some v->Value.okWide Tryz.prog W .any base t v:=hval0
 have hW':=hW;obtain ⟨p,q,hA0,hV,rfl,_,_⟩:=hW;have hA:DataW.TrodAll enc Tryz.prog W 0 (fun _=>true) true Tryz.f5.params.toList args.toList ds p:=hA0
 rw [Tryz.params5] at hA hval;obtain ⟨v0,v1,d0,d1,p0,p1,rfl,rfl,rfl,h0,h1⟩:=trodAll_two hA;obtain ⟨rfl,rfl⟩:=trodVars_none hV;have k0:=h0;obtain ⟨x0,r0⟩:=zq5 (hval 0 _ v0 rfl rfl) h0;have k1:=h1;obtain ⟨x1,r1⟩:=zq5 (hval 1 _ v1 rfl rfl) h1;simp only [List.append_nil] at hW';have hlt:∀ x ∈ p0++p1,x.block < W.heap.size:=fun x hx=>hW'.lt x (by simpa using hx)
 refine (zqu (zns x0 x1) (z7q hL hS) (z0l r0 (z0l r1 z6h))).mono fun e W' ⟨he,hb⟩=>?_
 subst he;exact ⟨_,rfl,_,_,_,[],_,[],hW',trodAll_mk1 (shut_bool Tryz.underlying4 _),trodAll_mk2 (Below.trod zup (by kernel_rfl) (oT (by kernel_rfl)) k0 hb (fun x hx=>hlt x (by simp [hx]))) (Below.trod zup (by kernel_rfl) (oT (by kernel_rfl)) k1 hb (fun x hx=>hlt x (by simp [hx]))),rfl,hb.frame _,fun h=>by cases h⟩
theorem zlr:Rows.ParserSameSaid :=
 OpenClaim.holds_of_wide 5 Tryz.f5 rfl rfl rfl rfl rfl rfl rfl ⟨rfl,rfl,rfl,rfl,rfl⟩ rfl rfl rfl rfl rfl (by kernel_rfl) Tryz.func5 (by kernel_rfl)
  (oT (by kernel_rfl)) (by unfold Func.isWrapper;first|(rw [if_pos (by decide +kernel)];kernel_rfl)|(rw [if_neg (by decide +kernel)];exact ⟨rfl,rfl⟩))
  (fun os started H enc _=>zkm os started H enc)
theorem parserSame_card:Rows.ParserSameCardSaid :=
 Claim7.holds_tied_plain_at .later [] [.data,.data,.data,.data,.sentinel,.sentinel,.pinned] true _ true
  zlr (fun _ h=>by cases h) (by kernel_rfl) (fun _ h=>by cases h) parserSame_row_tie rfl ⟨rfl,rfl⟩ (by kernel_rfl) rfl
  (fun f fn hf hfn=>by
   obtain rfl:f=5:=Option.some.inj ((show Tryz.prog.funcNamed Rows.parserSameRow.func=some 5 by kernel_rfl).symm.trans hf) |>.symm
   obtain rfl:fn=Tryz.f5:=(Option.some.inj (Tryz.func5.symm.trans hfn)).symm;exact ⟨by kernel_rfl,fun j t ht=>by
    rw [Tryz.params5] at ht;have hm:t ∈ [27,27]:=by simpa using Array.mem_of_getElem? ht
    have hall:([27,27].all fun u=>!Tryz.prog.wantsStandIn u)=true:=by kernel_rfl
    exact (show Tryz.prog.wantsStandIn t=false by simpa using List.all_eq_true.1 hall t hm)⟩)
  (by kernel_rfl)
#print axioms parserSame_card
end Go.Proofs.YtcfecmeocimclaaGreatDoor
