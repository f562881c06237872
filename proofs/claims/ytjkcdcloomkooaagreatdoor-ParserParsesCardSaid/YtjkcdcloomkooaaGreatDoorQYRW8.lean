/- Own work: walks and laws of the parser and its reference. -/
import Derived.Test.YtjkcdcloomkooaaGreatDoorQYR
set_option linter.unusedVariables false
set_option linter.unusedSimpArgs false
set_option linter.unusedSectionVars false
set_option maxHeartbeats 16000000
set_option maxRecDepth 100000
namespace Go.Proofs.YtjkcdcloomkooaaGreatDoor
open Go.RowKit
section
variable{n:Int}{toks:List Tk}{LR:List (List PV)}{l:Ts}
theorem Zq{b:Bool}(ih:∀s' l' b',dU s' l' b'<dU .loop l false->gQ n toks LR s' l' b'):gQ n toks LR .loop l false:=by
 refine uX fun _ m gL f hf a h o ho rr dH HH mE M lU l0 mX R0 gU=>?_
 cases hf
 replace ho:bC (bX m) (.need iS ZB) l false o:=ho;replace dH:uM o=rr:=dH;show VM 77 (.own 0 0::[]) [dB LR a false] rr HH;refine iD aU (f:=77) Tryz.func77 rfl kR (oT kR) fun tags cC=>?_
 match tags,cC with
 |[t0],_=>
  refine aY.cutKM 7 109 [0,2,6] 3 (fun x:BO=>[.own 0 0,.own 1 0,.own 2 0]) (fun x=>[kv LR t0 x.1 x.2.2.1,AX,LG x.2.2.2.2]) (fun x:BO=>bF n toks LR x.1 x.2.1/\bC (bX m) (zg x.2.2.2.1) x.2.1 x.2.2.1 o/\KO x.2.2.2.1 x.2.2.2.2/\rμ x.2.1 x.2.2.1<rμ l false) aU mixed (fun n=>match n with|10=>15|12=>5|14=>5|_=>0) (fun n=>match n with|12=>[3]|14=>[3]|_=>[]) (fun n i=>match n,i with|12,3=>1|12,4=>1|14,3=>1|14,4=>1|_,_=>0) (fun E=>fI E cO Tryz.f77.results.toList [t0] rr HH) kR (fun P G E hc hM hE=>?_) ?_
  case' refine_1=>
   have fO:=iQ hE;have fG:=wU hE;have fN:=EX hE;have CG:=trivial;have l0:E.ofN LR.length=M:=BI
   exact rW
  rintro⟨a1,l1,b1,x1,k1,i1,q1,nm1,K1⟩ ⟨h,ho,wE,qU⟩
  simp only at h ho wE qU;refine aY.cutKM 3 109 [0,2,6,7,8] 5 (fun x:BO=>[.own 0 0,.own 1 0,.own 2 0,.own 3 0,.own 4 0]) (fun x=>[kv LR t0 x.1 x.2.2.1,AX,BC k1 i1 q1 nm1 (.p K1),LG x.2.2.2.2,BC 37 0 0 ⟨#[]⟩ (.p (.ro 5 []))]) (fun x:BO=>bF n toks LR x.1 x.2.1/\bC (bX m) (CQ x1 x.2.2.2.1) x.2.1 x.2.2.1 o/\KO x.2.2.2.1 x.2.2.2.2/\rμ x.2.1 x.2.2.1<rμ l false) aU mixed (fun _=>0) (fun _=>[]) (fun _ _=>0) (fun E=>fI E cO Tryz.f77.results.toList [t0] rr HH) kR (fun P G E hc hM hE=>?_) ?_
  case' refine_1=>
   have fO:=iQ hE;have fG:=wU hE;have fN:=EX hE;have CG:=trivial;have l0:E.ofN LR.length=M:=BI
   exact rW
  rintro⟨a2,l2,b2,x2,k2,i2,q2,nm2,K2⟩ ⟨h,ho,xG,qU⟩
  simp only at h ho xG qU;refine aY.cutKM 2 109 [0,2,6,7,8] 5 (fun x:BO=>[.own 0 0,.own 1 0,.own 2 0,.own 3 0,.own 4 0]) (fun x=>[kv LR t0 x.1 x.2.2.1,AX,BC k1 i1 q1 nm1 (.p K1),BC k2 i2 q2 nm2 (.p K2),LG x.2.2.2.2]) (fun x:BO=>bF n toks LR x.1 x.2.1/\bC (bX m) (ID x1 x2 x.2.2.2.1) x.2.1 x.2.2.1 o/\KO x.2.2.2.1 x.2.2.2.2/\rμ x.2.1 x.2.2.1<rμ l false) aU mixed (fun _=>0) (fun _=>[]) (fun _ _=>0) (fun E=>fI E cO Tryz.f77.results.toList [t0] rr HH) kR (fun P G E hc hM hE=>?_) ?_
  case' refine_1=>
   have fO:=iQ hE;have fG:=wU hE;have fN:=EX hE;have CG:=trivial;have l0:E.ofN LR.length=M:=BI
   exact rW
  rintro⟨a3,l3,b3,x3,k3,i3,q3,nm3,K3⟩ ⟨h,ho,hv,qU⟩
  simp only at h ho hv qU;have jY:=xG;have zL:=wE;have okx:=wE.one;have ok2:=xG.one;have ok:=hv.one;refine aY.ofM aU mixed (fun n=>match n with|30=>5|_=>0) (fun n=>match n with|30=>[4]|_=>[]) (fun n i=>match n,i with|30,4=>1|_,_=>0) kR (fun E=>fI E cO Tryz.f77.results.toList [t0] rr HH) fun P G E hc hM hE=>?_
  have fO:=iQ hE;have fG:=wU hE;exact rW
theorem zuh{b:Bool}(ih:∀s' l' b',dU s' l' b'<dU .assign l b->gQ n toks LR s' l' b'):gQ n toks LR .assign l b:=by
 refine uX fun _ m gL f hf a h o ho rr dH HH mE M lU l0 mX R0 gU=>?_
 cases hf
 replace ho:bC (bX m) DJ l b o:=ho;replace dH:uM o=rr:=dH;show VM 16 (.own 0 0::[]) [dB LR a b] rr HH;refine iD aU (f:=16) Tryz.func16 rfl kR (oT kR) fun tags cC=>?_
 match tags,cC with
 |[t0],_=>
  refine aY.cutKM 6 49 [0,2,3] 3 (fun x:BO=>[.own 0 0,.own 1 0,.own 2 0]) (fun x=>[kv LR t0 x.1 x.2.2.1,AX,LG x.2.2.2.2]) (asI n toks LR o m (rμ l b) ue) aU mixed (fun n=>match n with|11=>4|_=>0) (fun n=>match n with|11=>[3]|_=>[]) (fun n i=>match n,i with|11,3=>1|_,_=>0) (fun E=>fI E cO Tryz.f16.results.toList [t0] rr HH) kR (fun P G E hc hM hE=>?_) ?_
  case' refine_1=>
   have fO:=iQ hE;have fG:=wU hE;have CG:=trivial;exact rW
  rintro⟨a1,l1,b1,x1,k1,i1,q1,nm1,K1⟩ ⟨h,ho,hv,qU⟩
  simp only at h ho hv qU;have ok:=hv.one;refine aY.ofM aU mixed (fun _=>0) (fun _=>[]) (fun n i=>match n,i with|14,0=>1|_,_=>0) kR (fun E=>fI E cO Tryz.f16.results.toList [t0] rr HH) fun P G E hc hM hE=>?_
  have fO:=iQ hE;have fG:=wU hE;exact rW
end
end Go.Proofs.YtjkcdcloomkooaaGreatDoor
