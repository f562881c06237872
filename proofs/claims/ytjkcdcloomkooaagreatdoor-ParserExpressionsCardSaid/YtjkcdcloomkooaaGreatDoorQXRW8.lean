/- Own work: walks and laws of the parser and its reference. -/
import Derived.Test.YtjkcdcloomkooaaGreatDoorQXR
set_option linter.unusedVariables false
set_option linter.unusedSimpArgs false
set_option linter.unusedSectionVars false
set_option maxHeartbeats 16000000
set_option maxRecDepth 100000
namespace Go.Proofs.YtjkcdcloomkooaaGreatDoor
open Go.RowKit
section
variable{n:Int}{toks:List Tk}{LR:List (List PV)}{l:Ts}
theorem Xc{b:Bool}(ih:∀s' l' b',cG s' l' b'<cG .loop l false->gK n toks LR s' l' b'):gK n toks LR .loop l false:=by
 intro _ m hm f hf a h o ho
 cases hf
 obtain⟨m,rfl⟩:∃k,m=k+1:=⟨m-1,by omega⟩
 have gF:cG .loop l false<=m:=aO hm;clear hm;rw[rL]at ho;obtain⟨l0,mW⟩:∃k,l=k:=⟨_,rfl⟩
 obtain⟨R0,gZ⟩:∃k,rμ l false=k:=⟨_,rfl⟩
 replace ho:aW (bN m) (.need jD Ed) l false o:=⟨ho⟩;show VM 77 (.own 0 0::[]) [cZ LR a false] (lD o) (iC toks LR o);obtain⟨rr,dZ⟩:∃rr,lD o=rr:=⟨_,rfl⟩
 obtain⟨HH,gQ⟩:∃HH,iC toks LR o=HH:=⟨_,rfl⟩
 rw[dZ,gQ];obtain⟨M,mY⟩:∃M:Int,((toks.length:Nat):Int)=M:=⟨_,rfl⟩
 refine gS aN (f:=77) Tryz.func77 rfl kR (oT kR) fun tags bS=>?_
 match tags,bS with
 |[t0],_=>
  refine aY.cutKM 7 109 [0,2,6] 3 (fun x:Int×Ts×Bool×PT×Int×Int×Int×ByteArray×PV=>[.own 0 0,.own 1 0,.own 2 0]) (fun x=>[some (.box [.p (.ro 3 LR),.p (pI x.1),.p (pB x.2.2.1)] 46 (some t0)),some (.box [.p (pI 0),.p (pS ⟨#[]⟩),.p (pI 0),.p (pI 0),.p (.v (.slice none 0 0))] 25 none),some (.box [.p (pI x.2.2.2.2.1),.p (pS x.2.2.2.2.2.2.2.1),.p (pI x.2.2.2.2.2.1),.p (pI x.2.2.2.2.2.2.1),.p x.2.2.2.2.2.2.2.2] 25 none)]) (fun x=>bE n toks LR x.1 x.2.1/\aW (bN m) (BE x.2.2.2.1) x.2.1 x.2.2.1 o/\fI x.2.2.2.1 x.2.2.2.2.1 x.2.2.2.2.2.1 x.2.2.2.2.2.2.1 x.2.2.2.2.2.2.2.1 x.2.2.2.2.2.2.2.2/\rμ x.2.1 x.2.2.1<rμ l false) aN mixed (fun n=>match n with|10=>15|12=>5|14=>5|_=>0) (fun n=>match n with|12=>[3]|14=>[3]|_=>[]) (fun n i=>match n,i with|12,3=>1|12,4=>1|14,3=>1|14,4=>1|_,_=>0) (fun E=>eU E cK Tryz.f77.results.toList [t0] rr HH) kR (fun P G E hc hM hE=>?_) ?_
  case' refine_1=>
   have fO:=gX hE;have fG:=wM hE;have fN:=DL hE;have AU:=trivial;have l0:E.ofN LR.length=M:=zp
   exact rW
  rintro⟨a1,l1,b1,x1,k1,i1,q1,nm1,K1⟩ ⟨h,ho,ld,qI⟩
  simp only at h ho ld qI;refine aY.cutKM 3 109 [0,2,6,7,8] 5 (fun x:Int×Ts×Bool×PT×Int×Int×Int×ByteArray×PV=>[.own 0 0,.own 1 0,.own 2 0,.own 3 0,.own 4 0]) (fun x=>[some (.box [.p (.ro 3 LR),.p (pI x.1),.p (pB x.2.2.1)] 46 (some t0)),some (.box [.p (pI 0),.p (pS ⟨#[]⟩),.p (pI 0),.p (pI 0),.p (.v (.slice none 0 0))] 25 none),some (.box [.p (pI k1),.p (pS nm1),.p (pI i1),.p (pI q1),.p K1] 25 none),some (.box [.p (pI x.2.2.2.2.1),.p (pS x.2.2.2.2.2.2.2.1),.p (pI x.2.2.2.2.2.1),.p (pI x.2.2.2.2.2.2.1),.p x.2.2.2.2.2.2.2.2] 25 none),some (.box [.p (pI 37),.p (pS ⟨#[]⟩),.p (pI 0),.p (pI 0),.p (.ro 5 [])] 25 none)]) (fun x=>bE n toks LR x.1 x.2.1/\aW (bN m) (GP x1 x.2.2.2.1) x.2.1 x.2.2.1 o/\fI x.2.2.2.1 x.2.2.2.2.1 x.2.2.2.2.2.1 x.2.2.2.2.2.2.1 x.2.2.2.2.2.2.2.1 x.2.2.2.2.2.2.2.2/\rμ x.2.1 x.2.2.1<rμ l false) aN mixed (fun _=>0) (fun _=>[]) (fun _ _=>0) (fun E=>eU E cK Tryz.f77.results.toList [t0] rr HH) kR (fun P G E hc hM hE=>?_) ?_
  case' refine_1=>
   have fO:=gX hE;have fG:=wM hE;have fN:=DL hE;have AU:=trivial;have l0:E.ofN LR.length=M:=zp
   exact rW
  rintro⟨a2,l2,b2,x2,k2,i2,q2,nm2,K2⟩ ⟨h,ho,ag,qI⟩
  simp only at h ho ag qI;refine aY.cutKM 2 109 [0,2,6,7,8] 5 (fun x:Int×Ts×Bool×PT×Int×Int×Int×ByteArray×PV=>[.own 0 0,.own 1 0,.own 2 0,.own 3 0,.own 4 0]) (fun x=>[some (.box [.p (.ro 3 LR),.p (pI x.1),.p (pB x.2.2.1)] 46 (some t0)),some (.box [.p (pI 0),.p (pS ⟨#[]⟩),.p (pI 0),.p (pI 0),.p (.v (.slice none 0 0))] 25 none),some (.box [.p (pI k1),.p (pS nm1),.p (pI i1),.p (pI q1),.p K1] 25 none),some (.box [.p (pI k2),.p (pS nm2),.p (pI i2),.p (pI q2),.p K2] 25 none),some (.box [.p (pI x.2.2.2.2.1),.p (pS x.2.2.2.2.2.2.2.1),.p (pI x.2.2.2.2.2.1),.p (pI x.2.2.2.2.2.2.1),.p x.2.2.2.2.2.2.2.2] 25 none)]) (fun x=>bE n toks LR x.1 x.2.1/\aW (bN m) (NC x1 x2 x.2.2.2.1) x.2.1 x.2.2.1 o/\fI x.2.2.2.1 x.2.2.2.2.1 x.2.2.2.2.2.1 x.2.2.2.2.2.2.1 x.2.2.2.2.2.2.2.1 x.2.2.2.2.2.2.2.2/\rμ x.2.1 x.2.2.1<rμ l false) aN mixed (fun _=>0) (fun _=>[]) (fun _ _=>0) (fun E=>eU E cK Tryz.f77.results.toList [t0] rr HH) kR (fun P G E hc hM hE=>?_) ?_
  case' refine_1=>
   have fO:=gX hE;have fG:=wM hE;have fN:=DL hE;have AU:=trivial;have l0:E.ofN LR.length=M:=zp
   exact rW
  rintro⟨a3,l3,b3,x3,k3,i3,q3,nm3,K3⟩ ⟨h,ho,hv,qI⟩
  simp only at h ho hv qI;have nK:=ag;have fv:=ld;have okx:=ld.one;have ok2:=ag.one;have ok:=hv.one;refine aY.ofM aN mixed (fun n=>match n with|30=>5|_=>0) (fun n=>match n with|30=>[4]|_=>[]) (fun n i=>match n,i with|30,4=>1|_,_=>0) kR (fun E=>eU E cK Tryz.f77.results.toList [t0] rr HH) fun P G E hc hM hE=>?_
  have fO:=gX hE;have fG:=wM hE;exact rW
theorem Zj{b:Bool}(ih:∀s' l' b',cG s' l' b'<cG .assign l b->gK n toks LR s' l' b'):gK n toks LR .assign l b:=by
 intro _ m hm f hf a h o ho
 cases hf
 obtain⟨m,rfl⟩:∃k,m=k+1:=⟨m-1,by omega⟩
 have gF:cG .assign l b<=m:=aO hm;clear hm;rw[rL]at ho;obtain⟨l0,mW⟩:∃k,l=k:=⟨_,rfl⟩
 obtain⟨R0,gZ⟩:∃k,rμ l b=k:=⟨_,rfl⟩
 replace ho:aW (bN m) HO l b o:=⟨ho⟩;show VM 16 (.own 0 0::[]) [cZ LR a b] (lD o) (iC toks LR o);obtain⟨rr,dZ⟩:∃rr,lD o=rr:=⟨_,rfl⟩
 obtain⟨HH,gQ⟩:∃HH,iC toks LR o=HH:=⟨_,rfl⟩
 rw[dZ,gQ];obtain⟨M,mY⟩:∃M:Int,((toks.length:Nat):Int)=M:=⟨_,rfl⟩
 refine gS aN (f:=16) Tryz.func16 rfl kR (oT kR) fun tags bS=>?_
 match tags,bS with
 |[t0],_=>
  refine aY.cutKM 6 49 [0,2,3] 3 (fun x:Int×Ts×Bool×PT×Int×Int×Int×ByteArray×PV=>[.own 0 0,.own 1 0,.own 2 0]) (fun x=>[some (.box [.p (.ro 3 LR),.p (pI x.1),.p (pB x.2.2.1)] 46 (some t0)),some (.box [.p (pI 0),.p (pS ⟨#[]⟩),.p (pI 0),.p (pI 0),.p (.v (.slice none 0 0))] 25 none),some (.box [.p (pI x.2.2.2.2.1),.p (pS x.2.2.2.2.2.2.2.1),.p (pI x.2.2.2.2.2.1),.p (pI x.2.2.2.2.2.2.1),.p x.2.2.2.2.2.2.2.2] 25 none)]) (fun x=>bE n toks LR x.1 x.2.1/\aW (bN m) (vq x.2.2.2.1) x.2.1 x.2.2.1 o/\fI x.2.2.2.1 x.2.2.2.2.1 x.2.2.2.2.2.1 x.2.2.2.2.2.2.1 x.2.2.2.2.2.2.2.1 x.2.2.2.2.2.2.2.2/\rμ x.2.1 x.2.2.1<=rμ l b) aN mixed (fun n=>match n with|11=>4|_=>0) (fun n=>match n with|11=>[3]|_=>[]) (fun n i=>match n,i with|11,3=>1|_,_=>0) (fun E=>eU E cK Tryz.f16.results.toList [t0] rr HH) kR (fun P G E hc hM hE=>?_) ?_
  case' refine_1=>
   have fO:=gX hE;have fG:=wM hE;have AU:=trivial;exact rW
  rintro⟨a1,l1,b1,x1,k1,i1,q1,nm1,K1⟩ ⟨h,ho,hv,qI⟩
  simp only at h ho hv qI;have ok:=hv.one;refine aY.ofM aN mixed (fun _=>0) (fun _=>[]) (fun n i=>match n,i with|14,0=>1|_,_=>0) kR (fun E=>eU E cK Tryz.f16.results.toList [t0] rr HH) fun P G E hc hM hE=>?_
  have fO:=gX hE;have fG:=wM hE;exact rW
end
end Go.Proofs.YtjkcdcloomkooaaGreatDoor
