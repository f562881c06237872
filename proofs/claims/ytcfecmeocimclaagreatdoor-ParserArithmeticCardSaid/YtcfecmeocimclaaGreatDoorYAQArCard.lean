/- Own work: knapsacklaw26.ParserArithmetic returns true for every input,and leaves its arguments as they were;the tables of the library are as the text of the program lays them. -/
import Derived.Test.YtcfecmeocimclaaGreatDoorYAA0
import Derived.Test.YtcfecmeocimclaaGreatDoorYAPYN
import Derived.Test.YtcfecmeocimclaaGreatDoorYAQFrame
import Derived.Test.YtcfecmeocimclaaGreatDoorCards
import Derived.Test.YtcfecmeocimclaaGreatDoorTie
import Derived.Carry
import Derived.ChangeMaps5
namespace Go.Proofs.YtcfecmeocimclaaGreatDoor
open Go.ChangeShapes Go.WideShapes Go.ChangeAt Go.RowKit Go.Lib Go.Shelf Go.ChangeMaps
set_option maxRecDepth 100000 in
theorem zgk (os:Os) (started:os.Started) (H:Type) (enc:TypeId × Value->H) :
  ReturnsInHanded {} Tryz.checked os 4 .any (fun w args=>(Rows.parserArithmeticSpec.pre enc Tryz.prog Tryz.f4 [] false w args/\laidMetH Tryz.prog zr5 w)/\sizedMet enc Tryz.prog Tryz.f4 (OpenSpec.ofChange Rows.parserArithmeticSpec) false w args)
   (Rows.parserArithmeticSpec.post enc Tryz.prog Tryz.f4 false true false false):=by
 refine zo0 (C:=Tryz.checked) (X:=fun w _=>laidMetH Tryz.prog zr5 w) (fun _ _ _ hh h=>h.of_heap hh) own started (by kernel_rfl) Tryz.func4
  (ChangeSpec.witness_shaped (enc:=enc) (C:=Tryz.checked) (os:=os) (X:=fun w _=>laidMetH Tryz.prog zr5 w) false (World.laidAll Tryz.prog os zr5) #[.agg #[.int .u8 0,.int .u8 0,.int .u8 0,.int .u8 0,.int .u8 0,.int .u8 0],.agg #[.int .u8 0,.int .u8 0,.int .u8 0,.int .u8 0,.int .u8 0],.int .u8 0] 8 (World.laidAll_os _ _ _)
   (World.shaped_of_ZipB (by kernel_rfl) (by kernel_rfl)) (by kernel_rfl) (by kernel_rfl) (by kernel_rfl) (zx1 os _)) ?_
 intro W base args ds gs before hval0 hW hL hS;have hval:∀ (j:Nat) t v,Tryz.f4.params[j]?=some t->args[j]?=some v->Value.okWide Tryz.prog W .any base t v:=hval0
 have hW':=hW;obtain ⟨p,q,hA0,hV,rfl,_,_⟩:=hW;have hA:DataW.TrodAll enc Tryz.prog W 0 (fun _=>true) true Tryz.f4.params.toList args.toList ds p:=hA0
 rw [Tryz.params4] at hA hval;obtain ⟨v0,v1,v2,d0,d1,d2,p0,p1,p2,rfl,rfl,rfl,h0,h1,h2⟩:=trodAll_three hA;obtain ⟨rfl,rfl⟩:=trodVars_none hV;have k0:=h0;obtain ⟨x0,r0⟩:=z4f (hval 0 _ v0 rfl rfl) h0;have k1:=h1;obtain ⟨x1,r1⟩:=z4g (hval 1 _ v1 rfl rfl) h1;obtain ⟨x2,rfl,rfl,rfl,wx2⟩:=open_int Tryz.underlying5 (hval 2 5 v2 rfl rfl) h2;simp only [List.append_nil] at hW';have hlt:∀ x ∈ p0++p1,x.block < W.heap.size:=fun x hx=>hW'.lt x (by simpa using hx)
 refine (zw0 (zib x0 x1 x2) (gl_of hL hS) (z39 r0 (z39 r1 (z39 (.v _) reps0)))).mono fun e W' ⟨he,hb⟩=>?_
 subst he;exact ⟨_,rfl,_,_,_,[],_,[],hW',trodAll_mk1 (shut_bool Tryz.underlying4 _),trodAll_mk3 (Below.trod ztt (by kernel_rfl) (oT (by kernel_rfl)) k0 hb (fun x hx=>hlt x (by simp [hx]))) (Below.trod ztt (by kernel_rfl) (oT (by kernel_rfl)) k1 hb (fun x hx=>hlt x (by simp [hx]))) (shut_int Tryz.underlying5 wx2),rfl,hb.frame _,fun h=>by cases h⟩
theorem zg5:Rows.ParserArithmeticSaid :=
 OpenClaim.holds_of_wide 4 Tryz.f4 rfl rfl rfl rfl rfl rfl rfl ⟨rfl,rfl,rfl,rfl,rfl⟩ rfl rfl rfl rfl rfl (by kernel_rfl) Tryz.func4 (by kernel_rfl)
  (oT (by kernel_rfl)) (by unfold Func.isWrapper;first|(rw [if_pos (by decide +kernel)];kernel_rfl)|(rw [if_neg (by decide +kernel)];exact ⟨rfl,rfl⟩))
  (fun os started H enc _=>zgk os started H enc)
theorem parserArithmetic_card:Rows.ParserArithmeticCardSaid :=
 Claim7.holds_tied_plain_at .later [] [.data,.data,.data,.data,.sentinel,.sentinel,.pinned] true _ true
  zg5 (fun _ h=>by cases h) (by kernel_rfl) (fun _ h=>by cases h) parserArithmetic_row_tie rfl ⟨rfl,rfl⟩ (by kernel_rfl) rfl
  (fun f fn hf hfn=>by
   obtain rfl:f=4:=Option.some.inj ((show Tryz.prog.funcNamed Rows.parserArithmeticRow.func=some 4 by kernel_rfl).symm.trans hf) |>.symm
   obtain rfl:fn=Tryz.f4:=(Option.some.inj (Tryz.func4.symm.trans hfn)).symm;exact ⟨by kernel_rfl,fun j t ht=>by
    rw [Tryz.params4] at ht;have hm:t ∈ [31,32,5]:=by simpa using Array.mem_of_getElem? ht
    have hall:([31,32,5].all fun u=>!Tryz.prog.wantsStandIn u)=true:=by kernel_rfl
    exact (show Tryz.prog.wantsStandIn t=false by simpa using List.all_eq_true.1 hall t hm)⟩)
  (by kernel_rfl)
#print axioms parserArithmetic_card
end Go.Proofs.YtcfecmeocimclaaGreatDoor
