/- Own work: IsKeyword of package lexer and of knapsackref25 (printed by gen_kw.py). -/
import Derived.Test.YtcfecmeocimclaaGreatDoorYAA0
import Derived.Test.YtcfecmeocimclaaGreatDoorYAGQ
namespace Go.Proofs.YtcfecmeocimclaaGreatDoor
set_option linter.unusedSimpArgs false
set_option maxRecDepth 100000
open Go.RowKit
def kwS:List ByteArray:=[⟨#[97,115,121,110,99]⟩,⟨#[97,119,97,105,116]⟩,⟨#[98,114,101,97,107]⟩,⟨#[99,111,110,115,116]⟩,⟨#[99,111,110,116,105,110,117,101]⟩,⟨#[100,101,108,101,116,101]⟩,⟨#[101,108,115,101]⟩,⟨#[102,97,108,115,101]⟩,⟨#[102,105,110,97,108,108,121]⟩,⟨#[102,111,114]⟩,⟨#[102,117,110,99,116,105,111,110]⟩,⟨#[105,102]⟩,⟨#[105,110]⟩,⟨#[105,110,115,116,97,110,99,101,111,102]⟩,⟨#[108,101,116]⟩,⟨#[110,101,119]⟩,⟨#[110,117,108,108]⟩,⟨#[111,102]⟩,⟨#[114,101,116,117,114,110]⟩,⟨#[116,104,105,115]⟩,⟨#[116,104,114,111,119]⟩,⟨#[116,114,117,101]⟩,⟨#[116,114,121]⟩,⟨#[99,97,116,99,104]⟩,⟨#[116,121,112,101,111,102]⟩,⟨#[117,110,100,101,102,105,110,101,100]⟩,⟨#[119,104,105,108,101]⟩,⟨#[121,105,101,108,100]⟩]
theorem kwS_L:kwS.map (fun s=>s.data.toList)=kwL:=rfl
theorem z77 (s:ByteArray):z3a s.data.toList=kwS.any (fun x=>decide (s=x)):=by
 unfold z3a;rw [<-kwS_L,List.any_map]
 congr 1
 funext x
 show (x.data.toList == s.data.toList)=_
 by_cases h:s=x
 ·rw [h,dT rfl];exact beq_self_eq_true _
 ·rw [dF h];exact beq_eq_false_iff_ne.2 fun e=>h (zij e.symm)
set_option maxHeartbeats 4000000 in
theorem z1f (s:ByteArray):V0 104 [pS s] (pB (z3a s.data.toList)):=by
 rw [z77]
 by_cases e0:s=⟨#[97,115,121,110,99]⟩
 ·rw [show kwS.any (fun x=>decide (s=x))=true by rw [e0];decide +kernel]
  refine zaq zaa zby mixed (fun _=>0) Tryz.func104 rfl (by kernel_rfl) (by kernel_rfl) rfl fun P G E hc hE=>?_
  have eT:=show E.eq s _=true by rw [hE];exact dT e0
  clear hE hc;cbv
  repeat (first|(simp only [eT];cbv)|simp only [eT])
 by_cases e1:s=⟨#[97,119,97,105,116]⟩
 ·rw [show kwS.any (fun x=>decide (s=x))=true by rw [e1];decide +kernel]
  refine zaq zaa zby mixed (fun _=>0) Tryz.func104 rfl (by kernel_rfl) (by kernel_rfl) rfl fun P G E hc hE=>?_
  have eF:=qNe hE s;have eT:=show E.eq s _=true by rw [hE];exact dT e1
  clear hE hc;cbv
  repeat (first|(simp only [eF _ e0,eT];cbv)|simp only [eF _ e0,eT])
 by_cases e2:s=⟨#[98,114,101,97,107]⟩
 ·rw [show kwS.any (fun x=>decide (s=x))=true by rw [e2];decide +kernel]
  refine zaq zaa zby mixed (fun _=>0) Tryz.func104 rfl (by kernel_rfl) (by kernel_rfl) rfl fun P G E hc hE=>?_
  have eF:=qNe hE s;have eT:=show E.eq s _=true by rw [hE];exact dT e2
  clear hE hc;cbv
  repeat (first|(simp only [eF _ e0,eF _ e1,eT];cbv)|simp only [eF _ e0,eF _ e1,eT])
 by_cases e3:s=⟨#[99,111,110,115,116]⟩
 ·rw [show kwS.any (fun x=>decide (s=x))=true by rw [e3];decide +kernel]
  refine zaq zaa zby mixed (fun _=>0) Tryz.func104 rfl (by kernel_rfl) (by kernel_rfl) rfl fun P G E hc hE=>?_
  have eF:=qNe hE s;have eT:=show E.eq s _=true by rw [hE];exact dT e3
  clear hE hc;cbv
  repeat (first|(simp only [eF _ e0,eF _ e1,eF _ e2,eT];cbv)|simp only [eF _ e0,eF _ e1,eF _ e2,eT])
 by_cases e4:s=⟨#[99,111,110,116,105,110,117,101]⟩
 ·rw [show kwS.any (fun x=>decide (s=x))=true by rw [e4];decide +kernel]
  refine zaq zaa zby mixed (fun _=>0) Tryz.func104 rfl (by kernel_rfl) (by kernel_rfl) rfl fun P G E hc hE=>?_
  have eF:=qNe hE s;have eT:=show E.eq s _=true by rw [hE];exact dT e4
  clear hE hc;cbv
  repeat (first|(simp only [eF _ e0,eF _ e1,eF _ e2,eF _ e3,eT];cbv)|simp only [eF _ e0,eF _ e1,eF _ e2,eF _ e3,eT])
 by_cases e5:s=⟨#[100,101,108,101,116,101]⟩
 ·rw [show kwS.any (fun x=>decide (s=x))=true by rw [e5];decide +kernel]
  refine zaq zaa zby mixed (fun _=>0) Tryz.func104 rfl (by kernel_rfl) (by kernel_rfl) rfl fun P G E hc hE=>?_
  have eF:=qNe hE s;have eT:=show E.eq s _=true by rw [hE];exact dT e5
  clear hE hc;cbv
  repeat (first|(simp only [eF _ e0,eF _ e1,eF _ e2,eF _ e3,eF _ e4,eT];cbv)|simp only [eF _ e0,eF _ e1,eF _ e2,eF _ e3,eF _ e4,eT])
 by_cases e6:s=⟨#[101,108,115,101]⟩
 ·rw [show kwS.any (fun x=>decide (s=x))=true by rw [e6];decide +kernel]
  refine zaq zaa zby mixed (fun _=>0) Tryz.func104 rfl (by kernel_rfl) (by kernel_rfl) rfl fun P G E hc hE=>?_
  have eF:=qNe hE s;have eT:=show E.eq s _=true by rw [hE];exact dT e6
  clear hE hc;cbv
  repeat (first|(simp only [eF _ e0,eF _ e1,eF _ e2,eF _ e3,eF _ e4,eF _ e5,eT];cbv)|simp only [eF _ e0,eF _ e1,eF _ e2,eF _ e3,eF _ e4,eF _ e5,eT])
 by_cases e7:s=⟨#[102,97,108,115,101]⟩
 ·rw [show kwS.any (fun x=>decide (s=x))=true by rw [e7];decide +kernel]
  refine zaq zaa zby mixed (fun _=>0) Tryz.func104 rfl (by kernel_rfl) (by kernel_rfl) rfl fun P G E hc hE=>?_
  have eF:=qNe hE s;have eT:=show E.eq s _=true by rw [hE];exact dT e7
  clear hE hc;cbv
  repeat (first|(simp only [eF _ e0,eF _ e1,eF _ e2,eF _ e3,eF _ e4,eF _ e5,eF _ e6,eT];cbv)|simp only [eF _ e0,eF _ e1,eF _ e2,eF _ e3,eF _ e4,eF _ e5,eF _ e6,eT])
 by_cases e8:s=⟨#[102,105,110,97,108,108,121]⟩
 ·rw [show kwS.any (fun x=>decide (s=x))=true by rw [e8];decide +kernel]
  refine zaq zaa zby mixed (fun _=>0) Tryz.func104 rfl (by kernel_rfl) (by kernel_rfl) rfl fun P G E hc hE=>?_
  have eF:=qNe hE s;have eT:=show E.eq s _=true by rw [hE];exact dT e8
  clear hE hc;cbv
  repeat (first|(simp only [eF _ e0,eF _ e1,eF _ e2,eF _ e3,eF _ e4,eF _ e5,eF _ e6,eF _ e7,eT];cbv)|simp only [eF _ e0,eF _ e1,eF _ e2,eF _ e3,eF _ e4,eF _ e5,eF _ e6,eF _ e7,eT])
 by_cases e9:s=⟨#[102,111,114]⟩
 ·rw [show kwS.any (fun x=>decide (s=x))=true by rw [e9];decide +kernel]
  refine zaq zaa zby mixed (fun _=>0) Tryz.func104 rfl (by kernel_rfl) (by kernel_rfl) rfl fun P G E hc hE=>?_
  have eF:=qNe hE s;have eT:=show E.eq s _=true by rw [hE];exact dT e9
  clear hE hc;cbv
  repeat (first|(simp only [eF _ e0,eF _ e1,eF _ e2,eF _ e3,eF _ e4,eF _ e5,eF _ e6,eF _ e7,eF _ e8,eT];cbv)|simp only [eF _ e0,eF _ e1,eF _ e2,eF _ e3,eF _ e4,eF _ e5,eF _ e6,eF _ e7,eF _ e8,eT])
 by_cases e10:s=⟨#[102,117,110,99,116,105,111,110]⟩
 ·rw [show kwS.any (fun x=>decide (s=x))=true by rw [e10];decide +kernel]
  refine zaq zaa zby mixed (fun _=>0) Tryz.func104 rfl (by kernel_rfl) (by kernel_rfl) rfl fun P G E hc hE=>?_
  have eF:=qNe hE s;have eT:=show E.eq s _=true by rw [hE];exact dT e10
  clear hE hc;cbv
  repeat (first|(simp only [eF _ e0,eF _ e1,eF _ e2,eF _ e3,eF _ e4,eF _ e5,eF _ e6,eF _ e7,eF _ e8,eF _ e9,eT];cbv)|simp only [eF _ e0,eF _ e1,eF _ e2,eF _ e3,eF _ e4,eF _ e5,eF _ e6,eF _ e7,eF _ e8,eF _ e9,eT])
 by_cases e11:s=⟨#[105,102]⟩
 ·rw [show kwS.any (fun x=>decide (s=x))=true by rw [e11];decide +kernel]
  refine zaq zaa zby mixed (fun _=>0) Tryz.func104 rfl (by kernel_rfl) (by kernel_rfl) rfl fun P G E hc hE=>?_
  have eF:=qNe hE s;have eT:=show E.eq s _=true by rw [hE];exact dT e11
  clear hE hc;cbv
  repeat (first|(simp only [eF _ e0,eF _ e1,eF _ e2,eF _ e3,eF _ e4,eF _ e5,eF _ e6,eF _ e7,eF _ e8,eF _ e9,eF _ e10,eT];cbv)|simp only [eF _ e0,eF _ e1,eF _ e2,eF _ e3,eF _ e4,eF _ e5,eF _ e6,eF _ e7,eF _ e8,eF _ e9,eF _ e10,eT])
 by_cases e12:s=⟨#[105,110]⟩
 ·rw [show kwS.any (fun x=>decide (s=x))=true by rw [e12];decide +kernel]
  refine zaq zaa zby mixed (fun _=>0) Tryz.func104 rfl (by kernel_rfl) (by kernel_rfl) rfl fun P G E hc hE=>?_
  have eF:=qNe hE s;have eT:=show E.eq s _=true by rw [hE];exact dT e12
  clear hE hc;cbv
  repeat (first|(simp only [eF _ e0,eF _ e1,eF _ e2,eF _ e3,eF _ e4,eF _ e5,eF _ e6,eF _ e7,eF _ e8,eF _ e9,eF _ e10,eF _ e11,eT];cbv)|simp only [eF _ e0,eF _ e1,eF _ e2,eF _ e3,eF _ e4,eF _ e5,eF _ e6,eF _ e7,eF _ e8,eF _ e9,eF _ e10,eF _ e11,eT])
 by_cases e13:s=⟨#[105,110,115,116,97,110,99,101,111,102]⟩
 ·rw [show kwS.any (fun x=>decide (s=x))=true by rw [e13];decide +kernel]
  refine zaq zaa zby mixed (fun _=>0) Tryz.func104 rfl (by kernel_rfl) (by kernel_rfl) rfl fun P G E hc hE=>?_
  have eF:=qNe hE s;have eT:=show E.eq s _=true by rw [hE];exact dT e13
  clear hE hc;cbv
  repeat (first|(simp only [eF _ e0,eF _ e1,eF _ e2,eF _ e3,eF _ e4,eF _ e5,eF _ e6,eF _ e7,eF _ e8,eF _ e9,eF _ e10,eF _ e11,eF _ e12,eT];cbv)|simp only [eF _ e0,eF _ e1,eF _ e2,eF _ e3,eF _ e4,eF _ e5,eF _ e6,eF _ e7,eF _ e8,eF _ e9,eF _ e10,eF _ e11,eF _ e12,eT])
 by_cases e14:s=⟨#[108,101,116]⟩
 ·rw [show kwS.any (fun x=>decide (s=x))=true by rw [e14];decide +kernel]
  refine zaq zaa zby mixed (fun _=>0) Tryz.func104 rfl (by kernel_rfl) (by kernel_rfl) rfl fun P G E hc hE=>?_
  have eF:=qNe hE s;have eT:=show E.eq s _=true by rw [hE];exact dT e14
  clear hE hc;cbv
  repeat (first|(simp only [eF _ e0,eF _ e1,eF _ e2,eF _ e3,eF _ e4,eF _ e5,eF _ e6,eF _ e7,eF _ e8,eF _ e9,eF _ e10,eF _ e11,eF _ e12,eF _ e13,eT];cbv)|simp only [eF _ e0,eF _ e1,eF _ e2,eF _ e3,eF _ e4,eF _ e5,eF _ e6,eF _ e7,eF _ e8,eF _ e9,eF _ e10,eF _ e11,eF _ e12,eF _ e13,eT])
 by_cases e15:s=⟨#[110,101,119]⟩
 ·rw [show kwS.any (fun x=>decide (s=x))=true by rw [e15];decide +kernel]
  refine zaq zaa zby mixed (fun _=>0) Tryz.func104 rfl (by kernel_rfl) (by kernel_rfl) rfl fun P G E hc hE=>?_
  have eF:=qNe hE s;have eT:=show E.eq s _=true by rw [hE];exact dT e15
  clear hE hc;cbv
  repeat (first|(simp only [eF _ e0,eF _ e1,eF _ e2,eF _ e3,eF _ e4,eF _ e5,eF _ e6,eF _ e7,eF _ e8,eF _ e9,eF _ e10,eF _ e11,eF _ e12,eF _ e13,eF _ e14,eT];cbv)|simp only [eF _ e0,eF _ e1,eF _ e2,eF _ e3,eF _ e4,eF _ e5,eF _ e6,eF _ e7,eF _ e8,eF _ e9,eF _ e10,eF _ e11,eF _ e12,eF _ e13,eF _ e14,eT])
 by_cases e16:s=⟨#[110,117,108,108]⟩
 ·rw [show kwS.any (fun x=>decide (s=x))=true by rw [e16];decide +kernel]
  refine zaq zaa zby mixed (fun _=>0) Tryz.func104 rfl (by kernel_rfl) (by kernel_rfl) rfl fun P G E hc hE=>?_
  have eF:=qNe hE s;have eT:=show E.eq s _=true by rw [hE];exact dT e16
  clear hE hc;cbv
  repeat (first|(simp only [eF _ e0,eF _ e1,eF _ e2,eF _ e3,eF _ e4,eF _ e5,eF _ e6,eF _ e7,eF _ e8,eF _ e9,eF _ e10,eF _ e11,eF _ e12,eF _ e13,eF _ e14,eF _ e15,eT];cbv)|simp only [eF _ e0,eF _ e1,eF _ e2,eF _ e3,eF _ e4,eF _ e5,eF _ e6,eF _ e7,eF _ e8,eF _ e9,eF _ e10,eF _ e11,eF _ e12,eF _ e13,eF _ e14,eF _ e15,eT])
 by_cases e17:s=⟨#[111,102]⟩
 ·rw [show kwS.any (fun x=>decide (s=x))=true by rw [e17];decide +kernel]
  refine zaq zaa zby mixed (fun _=>0) Tryz.func104 rfl (by kernel_rfl) (by kernel_rfl) rfl fun P G E hc hE=>?_
  have eF:=qNe hE s;have eT:=show E.eq s _=true by rw [hE];exact dT e17
  clear hE hc;cbv
  repeat (first|(simp only [eF _ e0,eF _ e1,eF _ e2,eF _ e3,eF _ e4,eF _ e5,eF _ e6,eF _ e7,eF _ e8,eF _ e9,eF _ e10,eF _ e11,eF _ e12,eF _ e13,eF _ e14,eF _ e15,eF _ e16,eT];cbv)|simp only [eF _ e0,eF _ e1,eF _ e2,eF _ e3,eF _ e4,eF _ e5,eF _ e6,eF _ e7,eF _ e8,eF _ e9,eF _ e10,eF _ e11,eF _ e12,eF _ e13,eF _ e14,eF _ e15,eF _ e16,eT])
 by_cases e18:s=⟨#[114,101,116,117,114,110]⟩
 ·rw [show kwS.any (fun x=>decide (s=x))=true by rw [e18];decide +kernel]
  refine zaq zaa zby mixed (fun _=>0) Tryz.func104 rfl (by kernel_rfl) (by kernel_rfl) rfl fun P G E hc hE=>?_
  have eF:=qNe hE s;have eT:=show E.eq s _=true by rw [hE];exact dT e18
  clear hE hc;cbv
  repeat (first|(simp only [eF _ e0,eF _ e1,eF _ e2,eF _ e3,eF _ e4,eF _ e5,eF _ e6,eF _ e7,eF _ e8,eF _ e9,eF _ e10,eF _ e11,eF _ e12,eF _ e13,eF _ e14,eF _ e15,eF _ e16,eF _ e17,eT];cbv)|simp only [eF _ e0,eF _ e1,eF _ e2,eF _ e3,eF _ e4,eF _ e5,eF _ e6,eF _ e7,eF _ e8,eF _ e9,eF _ e10,eF _ e11,eF _ e12,eF _ e13,eF _ e14,eF _ e15,eF _ e16,eF _ e17,eT])
 by_cases e19:s=⟨#[116,104,105,115]⟩
 ·rw [show kwS.any (fun x=>decide (s=x))=true by rw [e19];decide +kernel]
  refine zaq zaa zby mixed (fun _=>0) Tryz.func104 rfl (by kernel_rfl) (by kernel_rfl) rfl fun P G E hc hE=>?_
  have eF:=qNe hE s;have eT:=show E.eq s _=true by rw [hE];exact dT e19
  clear hE hc;cbv
  repeat (first|(simp only [eF _ e0,eF _ e1,eF _ e2,eF _ e3,eF _ e4,eF _ e5,eF _ e6,eF _ e7,eF _ e8,eF _ e9,eF _ e10,eF _ e11,eF _ e12,eF _ e13,eF _ e14,eF _ e15,eF _ e16,eF _ e17,eF _ e18,eT];cbv)|simp only [eF _ e0,eF _ e1,eF _ e2,eF _ e3,eF _ e4,eF _ e5,eF _ e6,eF _ e7,eF _ e8,eF _ e9,eF _ e10,eF _ e11,eF _ e12,eF _ e13,eF _ e14,eF _ e15,eF _ e16,eF _ e17,eF _ e18,eT])
 by_cases e20:s=⟨#[116,104,114,111,119]⟩
 ·rw [show kwS.any (fun x=>decide (s=x))=true by rw [e20];decide +kernel]
  refine zaq zaa zby mixed (fun _=>0) Tryz.func104 rfl (by kernel_rfl) (by kernel_rfl) rfl fun P G E hc hE=>?_
  have eF:=qNe hE s;have eT:=show E.eq s _=true by rw [hE];exact dT e20
  clear hE hc;cbv
  repeat (first|(simp only [eF _ e0,eF _ e1,eF _ e2,eF _ e3,eF _ e4,eF _ e5,eF _ e6,eF _ e7,eF _ e8,eF _ e9,eF _ e10,eF _ e11,eF _ e12,eF _ e13,eF _ e14,eF _ e15,eF _ e16,eF _ e17,eF _ e18,eF _ e19,eT];cbv)|simp only [eF _ e0,eF _ e1,eF _ e2,eF _ e3,eF _ e4,eF _ e5,eF _ e6,eF _ e7,eF _ e8,eF _ e9,eF _ e10,eF _ e11,eF _ e12,eF _ e13,eF _ e14,eF _ e15,eF _ e16,eF _ e17,eF _ e18,eF _ e19,eT])
 by_cases e21:s=⟨#[116,114,117,101]⟩
 ·rw [show kwS.any (fun x=>decide (s=x))=true by rw [e21];decide +kernel]
  refine zaq zaa zby mixed (fun _=>0) Tryz.func104 rfl (by kernel_rfl) (by kernel_rfl) rfl fun P G E hc hE=>?_
  have eF:=qNe hE s;have eT:=show E.eq s _=true by rw [hE];exact dT e21
  clear hE hc;cbv
  repeat (first|(simp only [eF _ e0,eF _ e1,eF _ e2,eF _ e3,eF _ e4,eF _ e5,eF _ e6,eF _ e7,eF _ e8,eF _ e9,eF _ e10,eF _ e11,eF _ e12,eF _ e13,eF _ e14,eF _ e15,eF _ e16,eF _ e17,eF _ e18,eF _ e19,eF _ e20,eT];cbv)|simp only [eF _ e0,eF _ e1,eF _ e2,eF _ e3,eF _ e4,eF _ e5,eF _ e6,eF _ e7,eF _ e8,eF _ e9,eF _ e10,eF _ e11,eF _ e12,eF _ e13,eF _ e14,eF _ e15,eF _ e16,eF _ e17,eF _ e18,eF _ e19,eF _ e20,eT])
 by_cases e22:s=⟨#[116,114,121]⟩
 ·rw [show kwS.any (fun x=>decide (s=x))=true by rw [e22];decide +kernel]
  refine zaq zaa zby mixed (fun _=>0) Tryz.func104 rfl (by kernel_rfl) (by kernel_rfl) rfl fun P G E hc hE=>?_
  have eF:=qNe hE s;have eT:=show E.eq s _=true by rw [hE];exact dT e22
  clear hE hc;cbv
  repeat (first|(simp only [eF _ e0,eF _ e1,eF _ e2,eF _ e3,eF _ e4,eF _ e5,eF _ e6,eF _ e7,eF _ e8,eF _ e9,eF _ e10,eF _ e11,eF _ e12,eF _ e13,eF _ e14,eF _ e15,eF _ e16,eF _ e17,eF _ e18,eF _ e19,eF _ e20,eF _ e21,eT];cbv)|simp only [eF _ e0,eF _ e1,eF _ e2,eF _ e3,eF _ e4,eF _ e5,eF _ e6,eF _ e7,eF _ e8,eF _ e9,eF _ e10,eF _ e11,eF _ e12,eF _ e13,eF _ e14,eF _ e15,eF _ e16,eF _ e17,eF _ e18,eF _ e19,eF _ e20,eF _ e21,eT])
 by_cases e23:s=⟨#[99,97,116,99,104]⟩
 ·rw [show kwS.any (fun x=>decide (s=x))=true by rw [e23];decide +kernel]
  refine zaq zaa zby mixed (fun _=>0) Tryz.func104 rfl (by kernel_rfl) (by kernel_rfl) rfl fun P G E hc hE=>?_
  have eF:=qNe hE s;have eT:=show E.eq s _=true by rw [hE];exact dT e23
  clear hE hc;cbv
  repeat (first|(simp only [eF _ e0,eF _ e1,eF _ e2,eF _ e3,eF _ e4,eF _ e5,eF _ e6,eF _ e7,eF _ e8,eF _ e9,eF _ e10,eF _ e11,eF _ e12,eF _ e13,eF _ e14,eF _ e15,eF _ e16,eF _ e17,eF _ e18,eF _ e19,eF _ e20,eF _ e21,eF _ e22,eT];cbv)|simp only [eF _ e0,eF _ e1,eF _ e2,eF _ e3,eF _ e4,eF _ e5,eF _ e6,eF _ e7,eF _ e8,eF _ e9,eF _ e10,eF _ e11,eF _ e12,eF _ e13,eF _ e14,eF _ e15,eF _ e16,eF _ e17,eF _ e18,eF _ e19,eF _ e20,eF _ e21,eF _ e22,eT])
 by_cases e24:s=⟨#[116,121,112,101,111,102]⟩
 ·rw [show kwS.any (fun x=>decide (s=x))=true by rw [e24];decide +kernel]
  refine zaq zaa zby mixed (fun _=>0) Tryz.func104 rfl (by kernel_rfl) (by kernel_rfl) rfl fun P G E hc hE=>?_
  have eF:=qNe hE s;have eT:=show E.eq s _=true by rw [hE];exact dT e24
  clear hE hc;cbv
  repeat (first|(simp only [eF _ e0,eF _ e1,eF _ e2,eF _ e3,eF _ e4,eF _ e5,eF _ e6,eF _ e7,eF _ e8,eF _ e9,eF _ e10,eF _ e11,eF _ e12,eF _ e13,eF _ e14,eF _ e15,eF _ e16,eF _ e17,eF _ e18,eF _ e19,eF _ e20,eF _ e21,eF _ e22,eF _ e23,eT];cbv)|simp only [eF _ e0,eF _ e1,eF _ e2,eF _ e3,eF _ e4,eF _ e5,eF _ e6,eF _ e7,eF _ e8,eF _ e9,eF _ e10,eF _ e11,eF _ e12,eF _ e13,eF _ e14,eF _ e15,eF _ e16,eF _ e17,eF _ e18,eF _ e19,eF _ e20,eF _ e21,eF _ e22,eF _ e23,eT])
 by_cases e25:s=⟨#[117,110,100,101,102,105,110,101,100]⟩
 ·rw [show kwS.any (fun x=>decide (s=x))=true by rw [e25];decide +kernel]
  refine zaq zaa zby mixed (fun _=>0) Tryz.func104 rfl (by kernel_rfl) (by kernel_rfl) rfl fun P G E hc hE=>?_
  have eF:=qNe hE s;have eT:=show E.eq s _=true by rw [hE];exact dT e25
  clear hE hc;cbv
  repeat (first|(simp only [eF _ e0,eF _ e1,eF _ e2,eF _ e3,eF _ e4,eF _ e5,eF _ e6,eF _ e7,eF _ e8,eF _ e9,eF _ e10,eF _ e11,eF _ e12,eF _ e13,eF _ e14,eF _ e15,eF _ e16,eF _ e17,eF _ e18,eF _ e19,eF _ e20,eF _ e21,eF _ e22,eF _ e23,eF _ e24,eT];cbv)|simp only [eF _ e0,eF _ e1,eF _ e2,eF _ e3,eF _ e4,eF _ e5,eF _ e6,eF _ e7,eF _ e8,eF _ e9,eF _ e10,eF _ e11,eF _ e12,eF _ e13,eF _ e14,eF _ e15,eF _ e16,eF _ e17,eF _ e18,eF _ e19,eF _ e20,eF _ e21,eF _ e22,eF _ e23,eF _ e24,eT])
 by_cases e26:s=⟨#[119,104,105,108,101]⟩
 ·rw [show kwS.any (fun x=>decide (s=x))=true by rw [e26];decide +kernel]
  refine zaq zaa zby mixed (fun _=>0) Tryz.func104 rfl (by kernel_rfl) (by kernel_rfl) rfl fun P G E hc hE=>?_
  have eF:=qNe hE s;have eT:=show E.eq s _=true by rw [hE];exact dT e26
  clear hE hc;cbv
  repeat (first|(simp only [eF _ e0,eF _ e1,eF _ e2,eF _ e3,eF _ e4,eF _ e5,eF _ e6,eF _ e7,eF _ e8,eF _ e9,eF _ e10,eF _ e11,eF _ e12,eF _ e13,eF _ e14,eF _ e15,eF _ e16,eF _ e17,eF _ e18,eF _ e19,eF _ e20,eF _ e21,eF _ e22,eF _ e23,eF _ e24,eF _ e25,eT];cbv)|simp only [eF _ e0,eF _ e1,eF _ e2,eF _ e3,eF _ e4,eF _ e5,eF _ e6,eF _ e7,eF _ e8,eF _ e9,eF _ e10,eF _ e11,eF _ e12,eF _ e13,eF _ e14,eF _ e15,eF _ e16,eF _ e17,eF _ e18,eF _ e19,eF _ e20,eF _ e21,eF _ e22,eF _ e23,eF _ e24,eF _ e25,eT])
 by_cases e27:s=⟨#[121,105,101,108,100]⟩
 ·rw [show kwS.any (fun x=>decide (s=x))=true by rw [e27];decide +kernel]
  refine zaq zaa zby mixed (fun _=>0) Tryz.func104 rfl (by kernel_rfl) (by kernel_rfl) rfl fun P G E hc hE=>?_
  have eF:=qNe hE s;have eT:=show E.eq s _=true by rw [hE];exact dT e27
  clear hE hc;cbv
  repeat (first|(simp only [eF _ e0,eF _ e1,eF _ e2,eF _ e3,eF _ e4,eF _ e5,eF _ e6,eF _ e7,eF _ e8,eF _ e9,eF _ e10,eF _ e11,eF _ e12,eF _ e13,eF _ e14,eF _ e15,eF _ e16,eF _ e17,eF _ e18,eF _ e19,eF _ e20,eF _ e21,eF _ e22,eF _ e23,eF _ e24,eF _ e25,eF _ e26,eT];cbv)|simp only [eF _ e0,eF _ e1,eF _ e2,eF _ e3,eF _ e4,eF _ e5,eF _ e6,eF _ e7,eF _ e8,eF _ e9,eF _ e10,eF _ e11,eF _ e12,eF _ e13,eF _ e14,eF _ e15,eF _ e16,eF _ e17,eF _ e18,eF _ e19,eF _ e20,eF _ e21,eF _ e22,eF _ e23,eF _ e24,eF _ e25,eF _ e26,eT])
 have hr:kwS.any (fun x=>decide (s=x))=false:=by
  rw [List.any_eq_false];intro x hx h;have hx':=oT h;subst hx';unfold kwS at hx;simp only [List.mem_cons,List.not_mem_nil,or_false] at hx
  rcases hx with hx|hx|hx|hx|hx|hx|hx|hx|hx|hx|hx|hx|hx|hx|hx|hx|hx|hx|hx|hx|hx|hx|hx|hx|hx|hx|hx|hx
  ·exact e0 hx
  ·exact e1 hx
  ·exact e2 hx
  ·exact e3 hx
  ·exact e4 hx
  ·exact e5 hx
  ·exact e6 hx
  ·exact e7 hx
  ·exact e8 hx
  ·exact e9 hx
  ·exact e10 hx
  ·exact e11 hx
  ·exact e12 hx
  ·exact e13 hx
  ·exact e14 hx
  ·exact e15 hx
  ·exact e16 hx
  ·exact e17 hx
  ·exact e18 hx
  ·exact e19 hx
  ·exact e20 hx
  ·exact e21 hx
  ·exact e22 hx
  ·exact e23 hx
  ·exact e24 hx
  ·exact e25 hx
  ·exact e26 hx
  ·exact e27 hx
 rw [hr];refine zaq zaa zby mixed (fun _=>0) Tryz.func104 rfl (by kernel_rfl) (by kernel_rfl) rfl fun P G E hc hE=>?_
 have eF:=qNe hE s;clear hE hc hr;cbv
 repeat (first|(simp only [eF _ e0,eF _ e1,eF _ e2,eF _ e3,eF _ e4,eF _ e5,eF _ e6,eF _ e7,eF _ e8,eF _ e9,eF _ e10,eF _ e11,eF _ e12,eF _ e13,eF _ e14,eF _ e15,eF _ e16,eF _ e17,eF _ e18,eF _ e19,eF _ e20,eF _ e21,eF _ e22,eF _ e23,eF _ e24,eF _ e25,eF _ e26,eF _ e27];cbv)|simp only [eF _ e0,eF _ e1,eF _ e2,eF _ e3,eF _ e4,eF _ e5,eF _ e6,eF _ e7,eF _ e8,eF _ e9,eF _ e10,eF _ e11,eF _ e12,eF _ e13,eF _ e14,eF _ e15,eF _ e16,eF _ e17,eF _ e18,eF _ e19,eF _ e20,eF _ e21,eF _ e22,eF _ e23,eF _ e24,eF _ e25,eF _ e26,eF _ e27])
end Go.Proofs.YtcfecmeocimclaaGreatDoor
