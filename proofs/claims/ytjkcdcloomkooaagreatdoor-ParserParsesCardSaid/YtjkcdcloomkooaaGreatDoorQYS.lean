/- Own work: walks and laws of the parser and its reference. -/
import Derived.Test.YtjkcdcloomkooaaGreatDoorQYR
set_option linter.unusedVariables false
set_option linter.unusedSimpArgs false
set_option linter.unusedSectionVars false
set_option maxHeartbeats 16000000
set_option maxRecDepth 100000
namespace Go.Proofs.YtjkcdcloomkooaaGreatDoor
open Go.RowKit
section
variable{n:Int}{toks:List Tk}{LR:List (List PV)}{l:Ts}
theorem z4a{b:Bool}(ih:∀s' l' b',dU s' l' b'<dU (.lv 0) l false->gQ n toks LR s' l' b'):gQ n toks LR (.lv 0) l false:=by
 refine uX fun _ m gL f hf a h o ho rr dH HH mE M lU l0 mX R0 gU=>?_
 cases hf
 replace ho:bC (bX m) (lm 0) l false o:=ho;replace dH:uM o=rr:=dH;show VM 43 (.own 0 0::[]) [dB LR a false] rr HH;refine nX Tryz.func43 rfl kR (fun n=>match n with|5=>4|_=>0) (fun n=>match n with|5=>[3]|_=>[]) (fun n i=>match n,i with|5,3=>1|_,_=>0) kR rfl fun t0 P G E hc hM hE=>?_
 have fO:=iQ hE;have fG:=wU hE;obtain⟨L9,iy⟩:∃k,l.length=k:=⟨_,rfl⟩
 have qm:L9<=1000000:=f6
 have yh:rμ l false<=L9+1:=FV
 have fL:=LH hE;cbv
 repeat (first|(simp only[fL.a];cbv)|(simp only[fL.b];cbv)|(refine⟨fL.c,_,rfl,?_⟩;cbv)|(refine⟨fL.d,_,rfl,?_⟩;cbv)|(refine⟨fL.e,_,rfl,?_⟩;cbv)|(refine⟨fL.f,_,rfl,?_⟩;cbv))
 refine vk gL ih h ho ⟨tM,rfl,rfl,rfl,rfl⟩ (fun x l b a k i q nm KK h ho hl hv hk=>?_)
 refine .y hM hk ?_;cbv;have ok:=hv.one;cbv at ok;simp only[ok];cbv;refine xE (ca ho (aJ tM gL)) fun m1 r=>?_
 have ho:=r.2;have oK:=r.1;clear r;refine xE (⟨_,fun _=>rfl⟩:∃μ:yN->Nat,∀x,μ x=(if x.2.2.2.2.2.1=0 then 0 else rμ x.2.1 x.2.2.1+1)) fun μ hμ=>?_
 refine CU h ho (aE rfl) (aE rfl) (aE rfl) (fun N a h ho hs hb kM hN fZ hk=>?_) (fun ho hk=>?_)<;>(refine .y hM hk ?_;cbv)
 case' refine_1=>refine gV 19 [0,2,3,4] 3 (fun x:yN=>[.own 0 0,.own 1 0,.own 2 0,.p (pI x.2.2.2.2.2.1)]) (nj LR t0) (ni n toks LR o R0 0) μ (_,_,false,m1,_,N,k,i,q,nm,KK) r5 ⟨h,ho,hv,tL,.inr ⟨kM,hN,fZ,rfl,aR (dD (vv hs)) oK⟩⟩ ?_
 case' refine_2=>refine gV 19 [0,2,3,4] 3 (fun x:yN=>[.own 0 0,.own 1 0,.own 2 0,.p (pI x.2.2.2.2.2.1)]) (nj LR t0) (ni n toks LR o R0 0) μ (_,_,_,m1,_,0,k,i,q,nm,KK) r5 ⟨h,ho,hv,tL,.inl rfl⟩ ?_
 all_goals
  rintro⟨a1,l1,b1,m1,x,V,kx,ix,qx,nx,KX⟩ ⟨h,ho,hx,qU,hV⟩
  simp only at h ho hx qU hV;have okx:=hx.one
  rcases hV with hV|⟨kM,hN,fZ,hb,gL⟩
  ·exact MB
  ·subst hb;have ek:=oN hE hN kM;have HV:=kM;replace ih:∀s' l' b',dU s' l' b'<dU (.lv 0) l1 false->gQ n toks LR s' l' b':=fun s' l' b' hh=>ih s' l' b' (aJ hh (pc tQ (nR _) (nR _)))
   exact rW
theorem z39{b:Bool}(ih:∀s' l' b',dU s' l' b'<dU (.lv 1) l false->gQ n toks LR s' l' b'):gQ n toks LR (.lv 1) l false:=by
 refine uX fun _ m gL f hf a h o ho rr dH HH mE M lU l0 mX R0 gU=>?_
 cases hf
 replace ho:bC (bX m) (lm 1) l false o:=ho;replace dH:uM o=rr:=dH;show VM 71 (.own 0 0::[]) [dB LR a false] rr HH;refine nX Tryz.func71 rfl kR (fun n=>match n with|5=>4|_=>0) (fun n=>match n with|5=>[3]|_=>[]) (fun n i=>match n,i with|5,3=>1|_,_=>0) kR rfl fun t0 P G E hc hM hE=>?_
 have fO:=iQ hE;have fG:=wU hE;obtain⟨L9,iy⟩:∃k,l.length=k:=⟨_,rfl⟩
 have qm:L9<=1000000:=f6
 have yh:rμ l false<=L9+1:=FV
 have fL:=LH hE;cbv
 repeat (first|(simp only[fL.a];cbv)|(simp only[fL.b];cbv)|(refine⟨fL.c,_,rfl,?_⟩;cbv)|(refine⟨fL.d,_,rfl,?_⟩;cbv)|(refine⟨fL.e,_,rfl,?_⟩;cbv)|(refine⟨fL.f,_,rfl,?_⟩;cbv))
 refine vk gL ih h ho ⟨tM,rfl,rfl,rfl,rfl⟩ (fun x l b a k i q nm KK h ho hl hv hk=>?_)
 refine .y hM hk ?_;cbv;have ok:=hv.one;cbv at ok;simp only[ok];cbv;refine xE (ca ho (aJ tM gL)) fun m1 r=>?_
 have ho:=r.2;have oK:=r.1;clear r;refine xE (⟨_,fun _=>rfl⟩:∃μ:yN->Nat,∀x,μ x=(if x.2.2.2.2.2.1=0 then 0 else rμ x.2.1 x.2.2.1+1)) fun μ hμ=>?_
 refine CU h ho (aE rfl) (aE rfl) (aE rfl) (fun N a h ho hs hb kM hN fZ hk=>?_) (fun ho hk=>?_)<;>(refine .y hM hk ?_;cbv)
 case' refine_1=>refine gV 19 [0,2,3,4] 3 (fun x:yN=>[.own 0 0,.own 1 0,.own 2 0,.p (pI x.2.2.2.2.2.1)]) (nj LR t0) (ni n toks LR o R0 1) μ (_,_,false,m1,_,N,k,i,q,nm,KK) r5 ⟨h,ho,hv,tL,.inr ⟨kM,hN,fZ,rfl,aR (dD (vv hs)) oK⟩⟩ ?_
 case' refine_2=>refine gV 19 [0,2,3,4] 3 (fun x:yN=>[.own 0 0,.own 1 0,.own 2 0,.p (pI x.2.2.2.2.2.1)]) (nj LR t0) (ni n toks LR o R0 1) μ (_,_,_,m1,_,0,k,i,q,nm,KK) r5 ⟨h,ho,hv,tL,.inl rfl⟩ ?_
 all_goals
  rintro⟨a1,l1,b1,m1,x,V,kx,ix,qx,nx,KX⟩ ⟨h,ho,hx,qU,hV⟩
  simp only at h ho hx qU hV;have okx:=hx.one
  rcases hV with hV|⟨kM,hN,fZ,hb,gL⟩
  ·exact MB
  ·subst hb;have ek:=oN hE hN kM;have HV:=kM;replace ih:∀s' l' b',dU s' l' b'<dU (.lv 1) l1 false->gQ n toks LR s' l' b':=fun s' l' b' hh=>ih s' l' b' (aJ hh (pc tQ (nR _) (nR _)))
   exact rW
theorem z38{b:Bool}(ih:∀s' l' b',dU s' l' b'<dU (.lv 2) l false->gQ n toks LR s' l' b'):gQ n toks LR (.lv 2) l false:=by
 refine uX fun _ m gL f hf a h o ho rr dH HH mE M lU l0 mX R0 gU=>?_
 cases hf
 replace ho:bC (bX m) (lm 2) l false o:=ho;replace dH:uM o=rr:=dH;show VM 103 (.own 0 0::[.p (pI 0)]) [dB LR a false] rr HH;refine nX Tryz.func103 rfl kR (fun n=>match n with|3=>9|8=>6|_=>0) (fun n=>match n with|8=>[5]|_=>[]) (fun n i=>match n,i with|8,5=>1|_,_=>0) kR rfl fun t0 P G E hc hM hE=>?_
 have fO:=iQ hE;have fG:=wU hE;obtain⟨L9,iy⟩:∃k,l.length=k:=⟨_,rfl⟩
 have qm:L9<=1000000:=f6
 have yh:rμ l false<=L9+1:=FV
 have fL:=LH hE;cbv
 repeat (first|(simp only[fL.a];cbv)|(simp only[fL.b];cbv)|(refine⟨fL.c,_,rfl,?_⟩;cbv)|(refine⟨fL.d,_,rfl,?_⟩;cbv)|(refine⟨fL.e,_,rfl,?_⟩;cbv)|(refine⟨fL.f,_,rfl,?_⟩;cbv))
 refine vk gL ih h ho ⟨tM,rfl,rfl,rfl,rfl⟩ (fun x l b a k i q nm KK h ho hl hv hk=>?_)
 refine .y hM hk ?_;cbv;have ok:=hv.one;cbv at ok;simp only[ok];cbv;refine xE (ca ho (aJ tM gL)) fun m1 r=>?_
 have ho:=r.2;have oK:=r.1;clear r;refine xE (⟨_,fun _=>rfl⟩:∃μ:yN->Nat,∀x,μ x=(if x.2.2.2.2.2.1=0 then 0 else rμ x.2.1 x.2.2.1+1)) fun μ hμ=>?_
 refine CU h ho (aE rfl) (aE rfl) (aE rfl) (fun N a h ho hs hb kM hN fZ hk=>?_) (fun ho hk=>?_)<;>(refine .y hM hk ?_;cbv)
 case' refine_1=>refine gV 43 [0,1,4,5,6,7,8] 3 (fun x:yN=>[.own 0 0,.p (pI 0),.own 1 0,.p (pI 11),.p (pI 14),.own 2 0,.p (pI x.2.2.2.2.2.1)]) (nj LR t0) (ni n toks LR o R0 2) μ (_,_,false,m1,_,N,k,i,q,nm,KK) r5 ⟨h,ho,hv,tL,.inr ⟨kM,hN,fZ,rfl,aR (dD (vv hs)) oK⟩⟩ ?_
 case' refine_2=>refine gV 43 [0,1,4,5,6,7,8] 3 (fun x:yN=>[.own 0 0,.p (pI 0),.own 1 0,.p (pI 11),.p (pI 14),.own 2 0,.p (pI x.2.2.2.2.2.1)]) (nj LR t0) (ni n toks LR o R0 2) μ (_,_,_,m1,_,0,k,i,q,nm,KK) r5 ⟨h,ho,hv,tL,.inl rfl⟩ ?_
 all_goals
  rintro⟨a1,l1,b1,m1,x,V,kx,ix,qx,nx,KX⟩ ⟨h,ho,hx,qU,hV⟩
  simp only at h ho hx qU hV;have okx:=hx.one
  rcases hV with hV|⟨kM,hN,fZ,hb,gL⟩
  ·exact MB
  ·subst hb;have ek:=oN hE hN kM;have HV:=kM;replace ih:∀s' l' b',dU s' l' b'<dU (.lv 2) l1 false->gQ n toks LR s' l' b':=fun s' l' b' hh=>ih s' l' b' (aJ hh (pc tQ (nR _) (nR _)))
   exact rW
theorem z36{b:Bool}(ih:∀s' l' b',dU s' l' b'<dU (.lv 3) l false->gQ n toks LR s' l' b'):gQ n toks LR (.lv 3) l false:=by
 refine uX fun _ m gL f hf a h o ho rr dH HH mE M lU l0 mX R0 gU=>?_
 cases hf
 replace ho:bC (bX m) (lm 3) l false o:=ho;replace dH:uM o=rr:=dH;show VM 103 (.own 0 0::[.p (pI 1)]) [dB LR a false] rr HH;refine nX Tryz.func103 rfl kR (fun n=>match n with|3=>9|8=>6|_=>0) (fun n=>match n with|8=>[5]|_=>[]) (fun n i=>match n,i with|8,5=>1|_,_=>0) kR rfl fun t0 P G E hc hM hE=>?_
 have fO:=iQ hE;have fG:=wU hE;obtain⟨L9,iy⟩:∃k,l.length=k:=⟨_,rfl⟩
 have qm:L9<=1000000:=f6
 have yh:rμ l false<=L9+1:=FV
 have fL:=LH hE;cbv
 repeat (first|(simp only[fL.a];cbv)|(simp only[fL.b];cbv)|(refine⟨fL.c,_,rfl,?_⟩;cbv)|(refine⟨fL.d,_,rfl,?_⟩;cbv)|(refine⟨fL.e,_,rfl,?_⟩;cbv)|(refine⟨fL.f,_,rfl,?_⟩;cbv))
 refine vk gL ih h ho ⟨tM,rfl,rfl,rfl,rfl⟩ (fun x l b a k i q nm KK h ho hl hv hk=>?_)
 refine .y hM hk ?_;cbv;have ok:=hv.one;cbv at ok;simp only[ok];cbv;refine xE (ca ho (aJ tM gL)) fun m1 r=>?_
 have ho:=r.2;have oK:=r.1;clear r;refine xE (⟨_,fun _=>rfl⟩:∃μ:yN->Nat,∀x,μ x=(if x.2.2.2.2.2.1=0 then 0 else rμ x.2.1 x.2.2.1+1)) fun μ hμ=>?_
 refine CU h ho (aE rfl) (aE rfl) (aE rfl) (fun N a h ho hs hb kM hN fZ hk=>?_) (fun ho hk=>?_)<;>(refine .y hM hk ?_;cbv)
 case' refine_1=>refine gV 43 [0,1,4,5,6,7,8] 3 (fun x:yN=>[.own 0 0,.p (pI 1),.own 1 0,.p (pI 15),.p (pI 20),.own 2 0,.p (pI x.2.2.2.2.2.1)]) (nj LR t0) (ni n toks LR o R0 3) μ (_,_,false,m1,_,N,k,i,q,nm,KK) r5 ⟨h,ho,hv,tL,.inr ⟨kM,hN,fZ,rfl,aR (dD (vv hs)) oK⟩⟩ ?_
 case' refine_2=>refine gV 43 [0,1,4,5,6,7,8] 3 (fun x:yN=>[.own 0 0,.p (pI 1),.own 1 0,.p (pI 15),.p (pI 20),.own 2 0,.p (pI x.2.2.2.2.2.1)]) (nj LR t0) (ni n toks LR o R0 3) μ (_,_,_,m1,_,0,k,i,q,nm,KK) r5 ⟨h,ho,hv,tL,.inl rfl⟩ ?_
 all_goals
  rintro⟨a1,l1,b1,m1,x,V,kx,ix,qx,nx,KX⟩ ⟨h,ho,hx,qU,hV⟩
  simp only at h ho hx qU hV;have okx:=hx.one
  rcases hV with hV|⟨kM,hN,fZ,hb,gL⟩
  ·exact MB
  ·subst hb;have ek:=oN hE hN kM;have HV:=kM;replace ih:∀s' l' b',dU s' l' b'<dU (.lv 3) l1 false->gQ n toks LR s' l' b':=fun s' l' b' hh=>ih s' l' b' (aJ hh (pc tQ (nR _) (nR _)))
   exact rW
theorem z35{b:Bool}(ih:∀s' l' b',dU s' l' b'<dU (.lv 4) l false->gQ n toks LR s' l' b'):gQ n toks LR (.lv 4) l false:=by
 refine uX fun _ m gL f hf a h o ho rr dH HH mE M lU l0 mX R0 gU=>?_
 cases hf
 replace ho:bC (bX m) (lm 4) l false o:=ho;replace dH:uM o=rr:=dH;show VM 103 (.own 0 0::[.p (pI 2)]) [dB LR a false] rr HH;refine nX Tryz.func103 rfl kR (fun n=>match n with|3=>9|8=>6|_=>0) (fun n=>match n with|8=>[5]|_=>[]) (fun n i=>match n,i with|8,5=>1|_,_=>0) kR rfl fun t0 P G E hc hM hE=>?_
 have fO:=iQ hE;have fG:=wU hE;obtain⟨L9,iy⟩:∃k,l.length=k:=⟨_,rfl⟩
 have qm:L9<=1000000:=f6
 have yh:rμ l false<=L9+1:=FV
 have fL:=LH hE;cbv
 repeat (first|(simp only[fL.a];cbv)|(simp only[fL.b];cbv)|(refine⟨fL.c,_,rfl,?_⟩;cbv)|(refine⟨fL.d,_,rfl,?_⟩;cbv)|(refine⟨fL.e,_,rfl,?_⟩;cbv)|(refine⟨fL.f,_,rfl,?_⟩;cbv))
 refine vk gL ih h ho ⟨tM,rfl,rfl,rfl,rfl⟩ (fun x l b a k i q nm KK h ho hl hv hk=>?_)
 refine .y hM hk ?_;cbv;have ok:=hv.one;cbv at ok;simp only[ok];cbv;refine xE (ca ho (aJ tM gL)) fun m1 r=>?_
 have ho:=r.2;have oK:=r.1;clear r;refine xE (⟨_,fun _=>rfl⟩:∃μ:yN->Nat,∀x,μ x=(if x.2.2.2.2.2.1=0 then 0 else rμ x.2.1 x.2.2.1+1)) fun μ hμ=>?_
 refine CU h ho (aE rfl) (aE rfl) (aE rfl) (fun N a h ho hs hb kM hN fZ hk=>?_) (fun ho hk=>?_)<;>(refine .y hM hk ?_;cbv)
 case' refine_1=>refine gV 43 [0,1,4,5,6,7,8] 3 (fun x:yN=>[.own 0 0,.p (pI 2),.own 1 0,.p (pI 6),.p (pI 7),.own 2 0,.p (pI x.2.2.2.2.2.1)]) (nj LR t0) (ni n toks LR o R0 4) μ (_,_,false,m1,_,N,k,i,q,nm,KK) r5 ⟨h,ho,hv,tL,.inr ⟨kM,hN,fZ,rfl,aR (dD (vv hs)) oK⟩⟩ ?_
 case' refine_2=>refine gV 43 [0,1,4,5,6,7,8] 3 (fun x:yN=>[.own 0 0,.p (pI 2),.own 1 0,.p (pI 6),.p (pI 7),.own 2 0,.p (pI x.2.2.2.2.2.1)]) (nj LR t0) (ni n toks LR o R0 4) μ (_,_,_,m1,_,0,k,i,q,nm,KK) r5 ⟨h,ho,hv,tL,.inl rfl⟩ ?_
 all_goals
  rintro⟨a1,l1,b1,m1,x,V,kx,ix,qx,nx,KX⟩ ⟨h,ho,hx,qU,hV⟩
  simp only at h ho hx qU hV;have okx:=hx.one
  rcases hV with hV|⟨kM,hN,fZ,hb,gL⟩
  ·exact MB
  ·subst hb;have ek:=oN hE hN kM;have HV:=kM;replace ih:∀s' l' b',dU s' l' b'<dU (.lv 4) l1 false->gQ n toks LR s' l' b':=fun s' l' b' hh=>ih s' l' b' (aJ hh (pc tQ (nR _) (nR _)))
   exact rW
theorem z34{b:Bool}(ih:∀s' l' b',dU s' l' b'<dU (.lv 5) l false->gQ n toks LR s' l' b'):gQ n toks LR (.lv 5) l false:=by
 refine uX fun _ m gL f hf a h o ho rr dH HH mE M lU l0 mX R0 gU=>?_
 cases hf
 replace ho:bC (bX m) (lm 5) l false o:=ho;replace dH:uM o=rr:=dH;show VM 103 (.own 0 0::[.p (pI 3)]) [dB LR a false] rr HH;refine nX Tryz.func103 rfl kR (fun n=>match n with|3=>9|8=>6|_=>0) (fun n=>match n with|8=>[5]|_=>[]) (fun n i=>match n,i with|8,5=>1|_,_=>0) kR rfl fun t0 P G E hc hM hE=>?_
 have fO:=iQ hE;have fG:=wU hE;obtain⟨L9,iy⟩:∃k,l.length=k:=⟨_,rfl⟩
 have qm:L9<=1000000:=f6
 have yh:rμ l false<=L9+1:=FV
 have fL:=LH hE;cbv
 repeat (first|(simp only[fL.a];cbv)|(simp only[fL.b];cbv)|(refine⟨fL.c,_,rfl,?_⟩;cbv)|(refine⟨fL.d,_,rfl,?_⟩;cbv)|(refine⟨fL.e,_,rfl,?_⟩;cbv)|(refine⟨fL.f,_,rfl,?_⟩;cbv))
 refine vk gL ih h ho ⟨tM,rfl,rfl,rfl,rfl⟩ (fun x l b a k i q nm KK h ho hl hv hk=>?_)
 refine .y hM hk ?_;cbv;have ok:=hv.one;cbv at ok;simp only[ok];cbv;refine xE (ca ho (aJ tM gL)) fun m1 r=>?_
 have ho:=r.2;have oK:=r.1;clear r;refine xE (⟨_,fun _=>rfl⟩:∃μ:yN->Nat,∀x,μ x=(if x.2.2.2.2.2.1=0 then 0 else rμ x.2.1 x.2.2.1+1)) fun μ hμ=>?_
 refine CU h ho (aE rfl) (aE rfl) (aE rfl) (fun N a h ho hs hb kM hN fZ hk=>?_) (fun ho hk=>?_)<;>(refine .y hM hk ?_;cbv)
 case' refine_1=>refine gV 43 [0,1,4,5,6,7,8] 3 (fun x:yN=>[.own 0 0,.p (pI 3),.own 1 0,.p (pI 8),.p (pI 10),.own 2 0,.p (pI x.2.2.2.2.2.1)]) (nj LR t0) (ni n toks LR o R0 5) μ (_,_,false,m1,_,N,k,i,q,nm,KK) r5 ⟨h,ho,hv,tL,.inr ⟨kM,hN,fZ,rfl,aR (dD (vv hs)) oK⟩⟩ ?_
 case' refine_2=>refine gV 43 [0,1,4,5,6,7,8] 3 (fun x:yN=>[.own 0 0,.p (pI 3),.own 1 0,.p (pI 8),.p (pI 10),.own 2 0,.p (pI x.2.2.2.2.2.1)]) (nj LR t0) (ni n toks LR o R0 5) μ (_,_,_,m1,_,0,k,i,q,nm,KK) r5 ⟨h,ho,hv,tL,.inl rfl⟩ ?_
 all_goals
  rintro⟨a1,l1,b1,m1,x,V,kx,ix,qx,nx,KX⟩ ⟨h,ho,hx,qU,hV⟩
  simp only at h ho hx qU hV;have okx:=hx.one
  rcases hV with hV|⟨kM,hN,fZ,hb,gL⟩
  ·exact MB
  ·subst hb;have ek:=oN hE hN kM;have HV:=kM;replace ih:∀s' l' b',dU s' l' b'<dU (.lv 5) l1 false->gQ n toks LR s' l' b':=fun s' l' b' hh=>ih s' l' b' (aJ hh (pc tQ (nR _) (nR _)))
   exact rW
theorem zu8{b:Bool}(ih:∀s' l' b',dU s' l' b'<dU .unary l b->gQ n toks LR s' l' b'):gQ n toks LR .unary l b:=by
 refine uX fun _ m gL f hf a h o ho rr dH HH mE M lU l0 mX R0 gU=>?_
 cases hf
 replace ho:bC (bX m) NH l b o:=ho;replace dH:uM o=rr:=dH;show VM 125 (.own 0 0::[]) [dB LR a b] rr HH;refine nX Tryz.func125 rfl kR (fun _=>0) (fun _=>[]) (fun _ _=>0) kR rfl fun t0 P G E hc hM hE=>?_
 exact BK
theorem z33{b:Bool}(ih:∀s' l' b',dU s' l' b'<dU (.lv 6) l false->gQ n toks LR s' l' b'):gQ n toks LR (.lv 6) l false:=by
 refine uX fun _ m gL f hf a h o ho rr dH HH mE M lU l0 mX R0 gU=>?_
 cases hf
 replace ho:bC (bX m) (lm 6) l false o:=ho;replace dH:uM o=rr:=dH;show VM 103 (.own 0 0::[.p (pI 4)]) [dB LR a false] rr HH;refine nX Tryz.func103 rfl kR (fun n=>match n with|3=>9|8=>6|_=>0) (fun n=>match n with|8=>[5]|_=>[]) (fun n i=>match n,i with|8,5=>1|_,_=>0) kR rfl fun t0 P G E hc hM hE=>?_
 exact BK
end
section
variable{n:Int}{toks:List Tk}{LR:List (List PV)}{l:Ts}
theorem z3r{b:Bool}(ih:∀s' l' b',dU s' l' b'<dU .obj l false->gQ n toks LR s' l' b'):gQ n toks LR .obj l false:=by
 refine uX fun _ m gL f hf a h o ho rr dH HH mE M lU l0 mX R0 gU=>?_
 cases hf
 replace ho:bC (bX m) (.take sK (iX (nd 10 [])) (.tail (.objL []))) l false o:=ho;replace dH:uM o=rr:=dH;show VM 165 (.own 0 0::[]) [dB LR a false] rr HH;refine nX Tryz.func165 rfl kR (fun n=>match n with|5=>5|_=>0) (fun n=>match n with|5=>[3]|_=>[]) (fun n i=>match n,i with|5,3=>1|5,4=>1|_,_=>0) kR rfl fun t0 P G E hc hM hE=>?_
 have fO:=iQ hE;have fG:=wU hE;obtain⟨L9,iy⟩:∃k,l.length=k:=⟨_,rfl⟩
 have qm:L9<=1000000:=f6
 have yh:rμ l false<=L9+1:=FV
 cbv;refine IR h ho (fun a h ho hs hb hk=>?_) (fun ho hk=>?_)<;>(refine .y hM hk ?_;cbv)
 case' refine_1=>exact rW
 refine xE (ca ho (aJ (A4 (nR _) (oT rfl)) gL)) fun m1 r=>?_
 have ho:=r.2;have oK:=r.1;clear r;refine xE (⟨_,fun _=>rfl⟩:∃μ:GA->Nat,∀x,μ x=x.2.1.length) fun μ hμ=>?_
 refine iU.wk (DC (k:=2) (j:=4) 5 25 rfl rfl) ?_;refine gV 26 [0,2,3] 4 (fun x:GA=>[.own 0 0,.own 1 0,.own 2 0]) (fun x=>[kv LR t0 x.1 false,AX,BC 10 0 0 ⟨#[]⟩ (.osl 3 0 x.2.2.2.2.2),some (.rows 5 x.2.2.2.2.1 25)])
  (J1 n toks LR o L9 QF .objL) μ (_,_,m1,[],[],0) r5 ⟨h,ho,oK,tL,by rw[gZ],rfl⟩ ?_
 rintro⟨a1,l1,m1,acc,R,N⟩ ⟨h,ho,gL,qU,g4,g5⟩
 simp only at h ho gL qU g4 g5;replace ih:∀s' l' b',dU s' l' b'<dU (.objL acc) l1 false->gQ n toks LR s' l' b':=fun s' l' b' hh=>ih s' l' b' (aJ hh (pc (by(try simp only[tZ]);omega) (oT rfl) (oT rfl)))
 have gz:N<=2000000:=eC
 have hlen:acc.length=N:=Bv
 obtain⟨N2,fZ⟩:∃N2,N+1=N2:=⟨_,rfl⟩
 have fB5:=fO.pre N R g5;have fB6:E.sub R 0 N=R:=LU
 exact rW
theorem zy1{b:Bool}(ih:∀s' l' b',dU s' l' b'<dU .stms l b->gQ n toks LR s' l' b'):gQ n toks LR .stms l b:=by
 refine uX fun _ m gL f hf a h o ho rr dH HH mE M lU l0 mX R0 gU=>?_
 cases hf
 replace ho:bC (bX m) (.tail (.stmsL [])) l b o:=ho;replace dH:EU o=rr:=dH;show VM 18 (.own 0 0::[]) [dB LR a b] rr HH;refine nX Tryz.func18 rfl kR (fun n=>match n with|2=>15|_=>0) (fun _=>[]) (fun _ _=>0) kR rfl fun t0 P G E hc hM hE=>?_
 have fO:=iQ hE;have fG:=wU hE;obtain⟨L9,iy⟩:∃k,l.length=k:=⟨_,rfl⟩
 have qm:L9<=1000000:=f6
 have yh:rμ l b<=L9+1:=by rw[<-iy];exact ZS l b
 have l0:E.ofN LR.length=M:=BI
 cbv;cbv at l0;refine xE (ca ho (aJ (E2 (nR _) (oT rfl) (oT rfl)) gL)) fun m1 r=>?_
 have ho:=r.2;have oK:=r.1;clear r;refine xE (⟨_,fun _=>rfl⟩:∃μ:VQ->Nat,∀x,μ x=rμ x.2.1 x.2.2.1) fun μ hμ=>?_
 refine iU.wk (DL (d:=3) 5 25 rfl) ?_;refine gV 32 [0,2,3] 2 (fun x:VQ=>[.own 0 0,.p (.v (.slice none 0 0)),.osl 1 0 x.2.2.2.2.2.2]) (fun x=>[kv LR t0 x.1 x.2.2.1,some (.rows 5 x.2.2.2.2.2.1 25)])
  (Ug n toks LR o R0 IH .stmsL) μ (a,l,b,m1,[],[],0) r5 ⟨h,ho,oK,tL,by rw[gZ],rfl⟩ ?_
 rintro⟨a1,l1,b1,m1,acc,R,N⟩ ⟨h,ho,gL,qU,g4,g5⟩
 simp only at h ho gL qU g4 g5;replace ih:∀s' l' b',dU s' l' b'<dU (.stmsL acc) l1 b1->gQ n toks LR s' l' b':=fun s' l' b' hh=>ih s' l' b' (aJ hh (pc tQ (oT rfl) (oT rfl)))
 exact Ww
theorem zzk{b:Bool}(ih:∀s' l' b',dU s' l' b'<dU .prim l false->gQ n toks LR s' l' b'):gQ n toks LR .prim l false:=by
 refine uX fun _ m gL f hf a h o ho rr dH HH mE M lU l0 mX R0 gU=>?_
 cases hf
 replace ho:bC (bX m) PQ l false o:=ho;replace dH:uM o=rr:=dH;show VM 149 (.own 0 0::[]) [dB LR a false] rr HH;refine nX Tryz.func149 rfl kR (fun n=>match n with|1=>14|4=>11|_=>0) (fun _=>[]) (fun _ _=>0) kR rfl fun t0 P G E hc hM hE=>?_
 exact Vc
theorem zwt{b:Bool}(ih:∀s' l' b',dU s' l' b'<dU .block l b->gQ n toks LR s' l' b'):gQ n toks LR .block l b:=by
 refine uX fun _ m gL f hf a h o ho rr dH HH mE M lU l0 mX R0 gU=>?_
 cases hf
 replace ho:bC (bX m) (.need nN (.calls .stms fun ks=>.need sK (iX (nd 27 ks)))) l b o:=ho
 replace dH:uM o=rr:=dH;show VM 70 (.own 0 0::[]) [dB LR a b] rr HH;refine nX Tryz.func70 rfl kR (fun _=>0) (fun _=>[]) (fun _ _=>0) kR rfl fun t0 P G E hc hM hE=>?_
 exact BK
end
end Go.Proofs.YtjkcdcloomkooaaGreatDoor
