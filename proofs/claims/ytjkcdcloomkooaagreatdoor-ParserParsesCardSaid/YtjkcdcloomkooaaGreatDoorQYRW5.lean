/- Own work: walks and laws of the parser and its reference. -/
import Derived.Test.YtjkcdcloomkooaaGreatDoorQYR
set_option linter.unusedVariables false
set_option linter.unusedSimpArgs false
set_option linter.unusedSectionVars false
set_option maxHeartbeats 16000000
set_option maxRecDepth 100000
namespace Go.Proofs.YtjkcdcloomkooaaGreatDoor
open Go.RowKit
section
variable{n:Int}{toks:List Tk}{LR:List (List PV)}{l:Ts}
theorem zwo{b:Bool}{k:Int}(ih:∀s' l' b',dU s' l' b'<dU (.decls k) l b->gQ n toks LR s' l' b'):gQ n toks LR (.decls k) l b:=by
 refine uX fun _ m gL f hf a h o ho rr dH HH mE M lU l0 mX R0 gU=>?_
 cases hf
 replace ho:bC (bX m) (.tail (.declsL k [])) l b o:=ho;replace dH:uM o=rr:=dH;show VM 74 (.own 0 0::[.p (pI k)]) [dB LR a b] rr HH;refine nX Tryz.func74 rfl kR (fun n=>match n with|4=>5|_=>0) (fun n=>match n with|4=>[3]|5=>[0]|_=>[]) (fun n i=>match n,i with|4,3=>1|4,4=>1|_,_=>0) kR rfl fun t0 P G E hc hM hE=>?_
 have fO:=iQ hE;have fG:=wU hE;obtain⟨L9,iy⟩:∃k,l.length=k:=⟨_,rfl⟩
 have qm:L9<=1000000:=f6
 have yh:rμ l b<=L9+1:=by rw[<-iy];exact ZS l b
 cbv;refine xE (ca ho (aJ (E2 (nR _) (oT rfl) (oT rfl)) gL)) fun m1 r=>?_
 have ho:=r.2;have oK:=r.1;clear r;have k9:=k;refine xE (⟨_,fun _=>rfl⟩:∃μ:VQ->Nat,∀x,μ x=rμ x.2.1 x.2.2.1) fun μ hμ=>?_
 refine iU.wk (DC (k:=2) (j:=4) 5 25 rfl rfl) ?_;refine gV 31 [0,4,5] 4 (fun x:VQ=>[.own 0 0,.own 1 0,.own 2 0]) (fun x=>[kv LR t0 x.1 x.2.2.1,AX,BC k 0 0 ⟨#[]⟩ (.osl 3 0 x.2.2.2.2.2.2),some (.rows 5 x.2.2.2.2.2.1 25)])
  (Ug n toks LR o R0 (NF k) (.declsL k)) μ (a,l,b,m1,[],[],0) r5 ⟨h,ho,oK,tL,by rw[gZ],rfl⟩ ?_
 clear k9;generalize k=kk at *
 rintro⟨a1,l1,b1,m1,acc,R,N⟩ ⟨h,ho,gL,qU,g4,g5⟩
 simp only at h ho gL qU g4 g5;replace ih:∀s' l' b',dU s' l' b'<dU (.declsL kk acc) l1 b1->gQ n toks LR s' l' b':=fun s' l' b' hh=>ih s' l' b' (aJ hh (pc tQ (oT rfl) (oT rfl)))
 exact Ww
theorem ztt{e:Bs}(ih:∀s' l' b',dU s' l' b'<dU (.list e) l true->gQ n toks LR s' l' b'):gQ n toks LR (.list e) l true:=by
 refine uX fun _ m gL f hf a h o ho rr dH HH mE M lU l0 mX R0 gU=>?_
 cases hf
 replace ho:bC (bX m) (.take e (.ret (.ls [])) (.tail (.listL e []))) l true o:=ho;replace dH:QH o=rr:=dH;show VM 151 (.own 0 0::[.p (pS (bL e))]) [dB LR a true] rr HH;refine nX Tryz.func151 rfl kR (fun _=>0) (fun _=>[]) (fun _ _=>0) kR rfl fun t0 P G E hc hM hE=>?_
 have fO:=iQ hE;have fG:=wU hE;have hz:=h.z;obtain⟨L9,iy⟩:∃k,l.length=k:=⟨_,rfl⟩
 have qm:L9<=1000000:=FU
 cbv;refine IR h ho (fun a h ho hs hb hk=>?_) (fun ho hk=>?_)<;>(refine .y hM hk ?_;cbv)
 case' refine_1=>exact rW
 refine xE (ca ho (aJ (Nat.zero_lt_one) gL)) fun m1 r=>?_
 have ho:=r.2;refine gV 27 [0,1,4,5] 1 (fun _:Unit=>[.own 0 0,.p (pS (bL e)),.p (.v (.slice none 0 0)),.p (.v (.slice none 0 0))]) (fun _=>[kv LR t0 a true]) (fun _=>True) (fun _=>0) () r5 trivial ?_
 intro _ _;replace ho:bC (bX m1) (zh e []) l true o:=ho;exact rW
theorem ztu{e:Bs}(ih:∀s' l' b',dU s' l' b'<dU (.list e) l false->gQ n toks LR s' l' b'):gQ n toks LR (.list e) l false:=by
 refine uX fun _ m gL f hf a h o ho rr dH HH mE M lU l0 mX R0 gU=>?_
 cases hf
 replace ho:bC (bX m) (.take e (.ret (.ls [])) (.tail (.listL e []))) l false o:=ho;replace dH:QH o=rr:=dH;show VM 151 (.own 0 0::[.p (pS (bL e))]) [dB LR a false] rr HH;refine nX Tryz.func151 rfl kR (fun _=>0) (fun _=>[]) (fun _ _=>0) kR rfl fun t0 P G E hc hM hE=>?_
 have fO:=iQ hE;have fG:=wU hE;have hz:=h.z;obtain⟨L9,iy⟩:∃k,l.length=k:=⟨_,rfl⟩
 have qm:L9<=1000000:=FU
 cbv;refine IR h ho (fun a h ho hs hb hk=>?_) (fun ho hk=>?_)<;>(refine .y hM hk ?_;cbv)
 case' refine_1=>exact rW
 refine xE (ca ho (aJ (A4 (nR _) (oT rfl)) gL)) fun m1 r=>?_
 have ho:=r.2;have oK:=r.1;clear r;refine xE (⟨_,fun _=>rfl⟩:∃μ:GA->Nat,∀x,μ x=x.2.1.length) fun μ hμ=>?_
 refine iU.wk (DL (d:=5) 5 25 rfl) ?_;refine gV 27 [0,1,4,5] 2 (fun x:GA=>[.own 0 0,.p (pS (bL e)),.p (.v (.slice none 0 0)),.osl 1 0 x.2.2.2.2.2]) (fun x=>[kv LR t0 x.1 false,some (.rows 5 x.2.2.2.2.1 25)])
  (J1 n toks LR o L9 (zh e) (.listL e)) μ (_,_,m1,[],[],0) r5 ⟨h,ho,oK,tL,by rw[gZ],rfl⟩ ?_
 rintro⟨a1,l1,m1,acc,R,N⟩ ⟨h,ho,gL,qU,g4,g5⟩
 simp only at h ho gL qU g4 g5;replace ih:∀s' l' b',dU s' l' b'<dU (.listL e acc) l1 false->gQ n toks LR s' l' b':=fun s' l' b' hh=>ih s' l' b' (aJ hh (pc (by(try simp only[tZ]);omega) (oT rfl) (oT rfl)))
 have gz:N<=2000000:=eC
 have hlen:acc.length=N:=Bv
 obtain⟨N2,fZ⟩:∃N2,N+1=N2:=⟨_,rfl⟩
 have fB5:=fO.pre N R g5;have fB6:E.sub R 0 N=R:=LU
 exact rW
theorem z0n{b:Bool}(ih:∀s' l' b',dU s' l' b'<dU .cond l false->gQ n toks LR s' l' b'):gQ n toks LR .cond l false:=by
 refine uX fun _ m gL f hf a h o ho rr dH HH mE M lU l0 mX R0 gU=>?_
 cases hf
 replace ho:bC (bX m) B9 l false o:=ho;replace dH:uM o=rr:=dH;show VM 76 (.own 0 0::[]) [dB LR a false] rr HH;have iw:=trivial;refine nX Tryz.func76 rfl kR (fun n=>match n with|6=>5|_=>0) (fun n=>match n with|6=>[3]|_=>[]) (fun n i=>match n,i with|4,0=>2|6,3=>1|6,4=>1|_,_=>0) kR rfl fun t0 P G E hc hM hE=>?_
 exact BK
theorem zyu{b:Bool}(ih:∀s' l' b',dU s' l' b'<dU .tryR l false->gQ n toks LR s' l' b'):gQ n toks LR .tryR l false:=by
 refine uX fun _ m gL f hf a h o ho rr dH HH mE M lU l0 mX R0 gU=>?_
 cases hf
 replace ho:bC (bX m) QG l false o:=ho;replace dH:uM o=rr:=dH;show VM 78 (.own 0 0::[]) [dB LR a false] rr HH;have iw:=trivial;refine nX Tryz.func78 rfl kR (fun n=>match n with|7=>5|10=>5|_=>0) (fun n=>match n with|7=>[3]|10=>[3]|8=>[0]|_=>[]) (fun n i=>match n,i with|7,3=>1|7,4=>1|10,3=>1|10,4=>1|_,_=>0) kR rfl fun t0 P G E hc hM hE=>?_
 exact BK
theorem zwk{b:Bool}(ih:∀s' l' b',dU s' l' b'<dU .field l false->gQ n toks LR s' l' b'):gQ n toks LR .field l false:=by
 refine uX fun _ m gL f hf a h o ho rr dH HH mE M lU l0 mX R0 gU=>?_
 cases hf
 replace ho:bC (bX m) NG l false o:=ho;replace dH:uM o=rr:=dH;show VM 173 (.own 0 0::[]) [dB LR a false] rr HH;refine nX Tryz.func173 rfl kR (fun n=>match n with|5=>3|6=>9|9=>11|16=>5|_=>0) (fun n=>match n with|5=>[2]|16=>[3]|_=>[]) (fun n i=>match n,i with|5,2=>1|16,3=>1|16,4=>1|_,_=>0) kR rfl fun t0 P G E hc hM hE=>?_
 exact Vc
end
end Go.Proofs.YtjkcdcloomkooaaGreatDoor
