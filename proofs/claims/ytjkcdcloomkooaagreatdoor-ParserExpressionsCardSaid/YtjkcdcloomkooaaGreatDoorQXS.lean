/- Own work: walks and laws of the parser and its reference. -/
import Derived.Test.YtjkcdcloomkooaaGreatDoorQXR
set_option linter.unusedVariables false
set_option linter.unusedSimpArgs false
set_option linter.unusedSectionVars false
set_option maxHeartbeats 16000000
set_option maxRecDepth 100000
namespace Go.Proofs.YtjkcdcloomkooaaGreatDoor
open Go.RowKit
section
variable{n:Int}{toks:List Tk}{LR:List (List PV)}{l:Ts}
theorem z2x{b:Bool}(ih:∀s' l' b',cG s' l' b'<cG (.lv 0) l false->gK n toks LR s' l' b'):gK n toks LR (.lv 0) l false:=by
 intro _ m hm f hf a h o ho
 cases hf
 obtain⟨m,rfl⟩:∃k,m=k+1:=⟨m-1,by omega⟩
 have gF:cG (.lv 0) l false<=m:=aO hm;clear hm;rw[rL]at ho;obtain⟨l0,mW⟩:∃k,l=k:=⟨_,rfl⟩
 obtain⟨R0,gZ⟩:∃k,rμ l false=k:=⟨_,rfl⟩
 replace ho:aW (bN m) (mj 0) l false o:=⟨ho⟩;show VM 43 (.own 0 0::[]) [cZ LR a false] (lD o) (iC toks LR o);obtain⟨rr,dZ⟩:∃rr,lD o=rr:=⟨_,rfl⟩
 obtain⟨HH,gQ⟩:∃HH,iC toks LR o=HH:=⟨_,rfl⟩
 rw[dZ,gQ];obtain⟨M,mY⟩:∃M:Int,((toks.length:Nat):Int)=M:=⟨_,rfl⟩
 refine nQ Tryz.func43 rfl kR (fun n=>match n with|5=>4|_=>0) (fun n=>match n with|5=>[3]|_=>[]) (fun n i=>match n,i with|5,3=>1|_,_=>0) kR rfl fun t0 P G E hc hM hE=>?_
 have fO:=gX hE;have fG:=wM hE;obtain⟨L9,ie⟩:∃k,l.length=k:=⟨_,rfl⟩
 have ph:L9<=1000000:=dm
 have xc:rμ l false<=L9+1:=EG
 have fL:=JE hE;cbv
 repeat (first|(simp only[fL.a];cbv)|(simp only[fL.b];cbv)|(refine⟨fL.c,_,rfl,?_⟩;cbv)|(refine⟨fL.d,_,rfl,?_⟩;cbv)|(refine⟨fL.e,_,rfl,?_⟩;cbv)|(refine⟨fL.f,_,rfl,?_⟩;cbv))
 refine uj gF ih h ho ⟨tM,rfl,rfl,rfl,rfl⟩ (fun x l b a k i q nm KK h ho hl hv hk=>?_)
 refine .z [0] (hM _ _ _ _ _ hk) rfl rfl rfl ?_;cbv;have ok:=hv.one;cbv at ok;simp only[ok];cbv;refine xE (bo ho (aI tM gF)) fun m1 r=>?_
 have ho:=r.2;have nZ:=r.1;clear r;refine xE (⟨_,fun _=>rfl⟩:∃μ:Int×Ts×Bool×Nat×PT×Int×Int×Int×Int×ByteArray×PV->Nat,∀x,μ x=(if x.2.2.2.2.2.1=0 then 0 else rμ x.2.1 x.2.2.1+1)) fun μ hμ=>?_
 refine BI h ho (aD rfl) (aD rfl) (aD rfl) (fun N a h ho hs hb jU hN fT hk=>?_) (fun ho hk=>?_)<;>(refine .z [0] (hM _ _ _ _ _ hk) rfl rfl rfl ?_;cbv)
 case' refine_1=>refine gU 19 [0,2,3,4] 3 (fun x:Int×Ts×Bool×Nat×PT×Int×Int×Int×Int×ByteArray×PV=>[.own 0 0,.own 1 0,.own 2 0,.p (pI x.2.2.2.2.2.1)]) (fun x=>[some (.box [.p (.ro 3 LR),.p (pI x.1),.p (pB x.2.2.1)] 46 (some t0)),some (.box [.p (pI 0),.p (pS ⟨#[]⟩),.p (pI 0),.p (pI 0),.p (.v (.slice none 0 0))] 25 none),some (.box [.p (pI x.2.2.2.2.2.2.1),.p (pS x.2.2.2.2.2.2.2.2.2.1),.p (pI x.2.2.2.2.2.2.2.1),.p (pI x.2.2.2.2.2.2.2.2.1),.p x.2.2.2.2.2.2.2.2.2.2] 25 none)]) (fun x=>bE n toks LR x.1 x.2.1/\aW (bN x.2.2.2.1) (cx 0 x.2.2.2.2.1 x.2.2.2.2.2.1) x.2.1 x.2.2.1 o/\fI x.2.2.2.2.1 x.2.2.2.2.2.2.1 x.2.2.2.2.2.2.2.1 x.2.2.2.2.2.2.2.2.1 x.2.2.2.2.2.2.2.2.2.1 x.2.2.2.2.2.2.2.2.2.2/\rμ x.2.1 x.2.2.1<=R0/\(x.2.2.2.2.2.1=0\/x.2.2.2.2.2.1≠0/\0<=x.2.2.2.2.2.1/\x.2.2.2.2.2.1<=30/\x.2.2.1=false/\cG (.lv 0) x.2.1 false<=x.2.2.2.1)) μ (_,_,false,m1,_,N,k,i,q,nm,KK) r5 ⟨h,ho,hv,tL,.inr ⟨jU,hN,fT,rfl,aS (dA (ux hs)) nZ⟩⟩ ?_
 case' refine_2=>refine gU 19 [0,2,3,4] 3 (fun x:Int×Ts×Bool×Nat×PT×Int×Int×Int×Int×ByteArray×PV=>[.own 0 0,.own 1 0,.own 2 0,.p (pI x.2.2.2.2.2.1)]) (fun x=>[some (.box [.p (.ro 3 LR),.p (pI x.1),.p (pB x.2.2.1)] 46 (some t0)),some (.box [.p (pI 0),.p (pS ⟨#[]⟩),.p (pI 0),.p (pI 0),.p (.v (.slice none 0 0))] 25 none),some (.box [.p (pI x.2.2.2.2.2.2.1),.p (pS x.2.2.2.2.2.2.2.2.2.1),.p (pI x.2.2.2.2.2.2.2.1),.p (pI x.2.2.2.2.2.2.2.2.1),.p x.2.2.2.2.2.2.2.2.2.2] 25 none)]) (fun x=>bE n toks LR x.1 x.2.1/\aW (bN x.2.2.2.1) (cx 0 x.2.2.2.2.1 x.2.2.2.2.2.1) x.2.1 x.2.2.1 o/\fI x.2.2.2.2.1 x.2.2.2.2.2.2.1 x.2.2.2.2.2.2.2.1 x.2.2.2.2.2.2.2.2.1 x.2.2.2.2.2.2.2.2.2.1 x.2.2.2.2.2.2.2.2.2.2/\rμ x.2.1 x.2.2.1<=R0/\(x.2.2.2.2.2.1=0\/x.2.2.2.2.2.1≠0/\0<=x.2.2.2.2.2.1/\x.2.2.2.2.2.1<=30/\x.2.2.1=false/\cG (.lv 0) x.2.1 false<=x.2.2.2.1)) μ (_,_,_,m1,_,0,k,i,q,nm,KK) r5 ⟨h,ho,hv,tL,.inl rfl⟩ ?_
 all_goals
  rintro⟨a1,l1,b1,m1,x,V,kx,ix,qx,nx,KX⟩ ⟨h,ho,hx,qI,hV⟩
  simp only at h ho hx qI hV;have okx:=hx.one
  rcases hV with hV|⟨jU,hN,fT,hb,gF⟩
  ·exact JW
  ·subst hb;have ek:=oN hE hN jU;have GC:=jU;replace ih:∀s' l' b',cG s' l' b'<cG (.lv 0) l1 false->gK n toks LR s' l' b':=fun s' l' b' hh=>ih s' l' b' (aI hh (nw tQ (nR _) (nR _)))
   exact rW
theorem z2w{b:Bool}(ih:∀s' l' b',cG s' l' b'<cG (.lv 1) l false->gK n toks LR s' l' b'):gK n toks LR (.lv 1) l false:=by
 intro _ m hm f hf a h o ho
 cases hf
 obtain⟨m,rfl⟩:∃k,m=k+1:=⟨m-1,by omega⟩
 have gF:cG (.lv 1) l false<=m:=aO hm;clear hm;rw[rL]at ho;obtain⟨l0,mW⟩:∃k,l=k:=⟨_,rfl⟩
 obtain⟨R0,gZ⟩:∃k,rμ l false=k:=⟨_,rfl⟩
 replace ho:aW (bN m) (mj 1) l false o:=⟨ho⟩;show VM 71 (.own 0 0::[]) [cZ LR a false] (lD o) (iC toks LR o);obtain⟨rr,dZ⟩:∃rr,lD o=rr:=⟨_,rfl⟩
 obtain⟨HH,gQ⟩:∃HH,iC toks LR o=HH:=⟨_,rfl⟩
 rw[dZ,gQ];obtain⟨M,mY⟩:∃M:Int,((toks.length:Nat):Int)=M:=⟨_,rfl⟩
 refine nQ Tryz.func71 rfl kR (fun n=>match n with|5=>4|_=>0) (fun n=>match n with|5=>[3]|_=>[]) (fun n i=>match n,i with|5,3=>1|_,_=>0) kR rfl fun t0 P G E hc hM hE=>?_
 have fO:=gX hE;have fG:=wM hE;obtain⟨L9,ie⟩:∃k,l.length=k:=⟨_,rfl⟩
 have ph:L9<=1000000:=dm
 have xc:rμ l false<=L9+1:=EG
 have fL:=JE hE;cbv
 repeat (first|(simp only[fL.a];cbv)|(simp only[fL.b];cbv)|(refine⟨fL.c,_,rfl,?_⟩;cbv)|(refine⟨fL.d,_,rfl,?_⟩;cbv)|(refine⟨fL.e,_,rfl,?_⟩;cbv)|(refine⟨fL.f,_,rfl,?_⟩;cbv))
 refine uj gF ih h ho ⟨tM,rfl,rfl,rfl,rfl⟩ (fun x l b a k i q nm KK h ho hl hv hk=>?_)
 refine .z [0] (hM _ _ _ _ _ hk) rfl rfl rfl ?_;cbv;have ok:=hv.one;cbv at ok;simp only[ok];cbv;refine xE (bo ho (aI tM gF)) fun m1 r=>?_
 have ho:=r.2;have nZ:=r.1;clear r;refine xE (⟨_,fun _=>rfl⟩:∃μ:Int×Ts×Bool×Nat×PT×Int×Int×Int×Int×ByteArray×PV->Nat,∀x,μ x=(if x.2.2.2.2.2.1=0 then 0 else rμ x.2.1 x.2.2.1+1)) fun μ hμ=>?_
 refine BI h ho (aD rfl) (aD rfl) (aD rfl) (fun N a h ho hs hb jU hN fT hk=>?_) (fun ho hk=>?_)<;>(refine .z [0] (hM _ _ _ _ _ hk) rfl rfl rfl ?_;cbv)
 case' refine_1=>refine gU 19 [0,2,3,4] 3 (fun x:Int×Ts×Bool×Nat×PT×Int×Int×Int×Int×ByteArray×PV=>[.own 0 0,.own 1 0,.own 2 0,.p (pI x.2.2.2.2.2.1)]) (fun x=>[some (.box [.p (.ro 3 LR),.p (pI x.1),.p (pB x.2.2.1)] 46 (some t0)),some (.box [.p (pI 0),.p (pS ⟨#[]⟩),.p (pI 0),.p (pI 0),.p (.v (.slice none 0 0))] 25 none),some (.box [.p (pI x.2.2.2.2.2.2.1),.p (pS x.2.2.2.2.2.2.2.2.2.1),.p (pI x.2.2.2.2.2.2.2.1),.p (pI x.2.2.2.2.2.2.2.2.1),.p x.2.2.2.2.2.2.2.2.2.2] 25 none)]) (fun x=>bE n toks LR x.1 x.2.1/\aW (bN x.2.2.2.1) (cx 1 x.2.2.2.2.1 x.2.2.2.2.2.1) x.2.1 x.2.2.1 o/\fI x.2.2.2.2.1 x.2.2.2.2.2.2.1 x.2.2.2.2.2.2.2.1 x.2.2.2.2.2.2.2.2.1 x.2.2.2.2.2.2.2.2.2.1 x.2.2.2.2.2.2.2.2.2.2/\rμ x.2.1 x.2.2.1<=R0/\(x.2.2.2.2.2.1=0\/x.2.2.2.2.2.1≠0/\0<=x.2.2.2.2.2.1/\x.2.2.2.2.2.1<=30/\x.2.2.1=false/\cG (.lv 1) x.2.1 false<=x.2.2.2.1)) μ (_,_,false,m1,_,N,k,i,q,nm,KK) r5 ⟨h,ho,hv,tL,.inr ⟨jU,hN,fT,rfl,aS (dA (ux hs)) nZ⟩⟩ ?_
 case' refine_2=>refine gU 19 [0,2,3,4] 3 (fun x:Int×Ts×Bool×Nat×PT×Int×Int×Int×Int×ByteArray×PV=>[.own 0 0,.own 1 0,.own 2 0,.p (pI x.2.2.2.2.2.1)]) (fun x=>[some (.box [.p (.ro 3 LR),.p (pI x.1),.p (pB x.2.2.1)] 46 (some t0)),some (.box [.p (pI 0),.p (pS ⟨#[]⟩),.p (pI 0),.p (pI 0),.p (.v (.slice none 0 0))] 25 none),some (.box [.p (pI x.2.2.2.2.2.2.1),.p (pS x.2.2.2.2.2.2.2.2.2.1),.p (pI x.2.2.2.2.2.2.2.1),.p (pI x.2.2.2.2.2.2.2.2.1),.p x.2.2.2.2.2.2.2.2.2.2] 25 none)]) (fun x=>bE n toks LR x.1 x.2.1/\aW (bN x.2.2.2.1) (cx 1 x.2.2.2.2.1 x.2.2.2.2.2.1) x.2.1 x.2.2.1 o/\fI x.2.2.2.2.1 x.2.2.2.2.2.2.1 x.2.2.2.2.2.2.2.1 x.2.2.2.2.2.2.2.2.1 x.2.2.2.2.2.2.2.2.2.1 x.2.2.2.2.2.2.2.2.2.2/\rμ x.2.1 x.2.2.1<=R0/\(x.2.2.2.2.2.1=0\/x.2.2.2.2.2.1≠0/\0<=x.2.2.2.2.2.1/\x.2.2.2.2.2.1<=30/\x.2.2.1=false/\cG (.lv 1) x.2.1 false<=x.2.2.2.1)) μ (_,_,_,m1,_,0,k,i,q,nm,KK) r5 ⟨h,ho,hv,tL,.inl rfl⟩ ?_
 all_goals
  rintro⟨a1,l1,b1,m1,x,V,kx,ix,qx,nx,KX⟩ ⟨h,ho,hx,qI,hV⟩
  simp only at h ho hx qI hV;have okx:=hx.one
  rcases hV with hV|⟨jU,hN,fT,hb,gF⟩
  ·exact JW
  ·subst hb;have ek:=oN hE hN jU;have GC:=jU;replace ih:∀s' l' b',cG s' l' b'<cG (.lv 1) l1 false->gK n toks LR s' l' b':=fun s' l' b' hh=>ih s' l' b' (aI hh (nw tQ (nR _) (nR _)))
   exact rW
theorem z2v{b:Bool}(ih:∀s' l' b',cG s' l' b'<cG (.lv 2) l false->gK n toks LR s' l' b'):gK n toks LR (.lv 2) l false:=by
 intro _ m hm f hf a h o ho
 cases hf
 obtain⟨m,rfl⟩:∃k,m=k+1:=⟨m-1,by omega⟩
 have gF:cG (.lv 2) l false<=m:=aO hm;clear hm;rw[rL]at ho;obtain⟨l0,mW⟩:∃k,l=k:=⟨_,rfl⟩
 obtain⟨R0,gZ⟩:∃k,rμ l false=k:=⟨_,rfl⟩
 replace ho:aW (bN m) (mj 2) l false o:=⟨ho⟩;show VM 103 (.own 0 0::[.p (pI 0)]) [cZ LR a false] (lD o) (iC toks LR o);obtain⟨rr,dZ⟩:∃rr,lD o=rr:=⟨_,rfl⟩
 obtain⟨HH,gQ⟩:∃HH,iC toks LR o=HH:=⟨_,rfl⟩
 rw[dZ,gQ];obtain⟨M,mY⟩:∃M:Int,((toks.length:Nat):Int)=M:=⟨_,rfl⟩
 refine nQ Tryz.func103 rfl kR (fun n=>match n with|3=>9|8=>6|_=>0) (fun n=>match n with|8=>[5]|_=>[]) (fun n i=>match n,i with|8,5=>1|_,_=>0) kR rfl fun t0 P G E hc hM hE=>?_
 have fO:=gX hE;have fG:=wM hE;obtain⟨L9,ie⟩:∃k,l.length=k:=⟨_,rfl⟩
 have ph:L9<=1000000:=dm
 have xc:rμ l false<=L9+1:=EG
 have fL:=JE hE;cbv
 repeat (first|(simp only[fL.a];cbv)|(simp only[fL.b];cbv)|(refine⟨fL.c,_,rfl,?_⟩;cbv)|(refine⟨fL.d,_,rfl,?_⟩;cbv)|(refine⟨fL.e,_,rfl,?_⟩;cbv)|(refine⟨fL.f,_,rfl,?_⟩;cbv))
 refine uj gF ih h ho ⟨tM,rfl,rfl,rfl,rfl⟩ (fun x l b a k i q nm KK h ho hl hv hk=>?_)
 refine .z [0] (hM _ _ _ _ _ hk) rfl rfl rfl ?_;cbv;have ok:=hv.one;cbv at ok;simp only[ok];cbv;refine xE (bo ho (aI tM gF)) fun m1 r=>?_
 have ho:=r.2;have nZ:=r.1;clear r;refine xE (⟨_,fun _=>rfl⟩:∃μ:Int×Ts×Bool×Nat×PT×Int×Int×Int×Int×ByteArray×PV->Nat,∀x,μ x=(if x.2.2.2.2.2.1=0 then 0 else rμ x.2.1 x.2.2.1+1)) fun μ hμ=>?_
 refine BI h ho (aD rfl) (aD rfl) (aD rfl) (fun N a h ho hs hb jU hN fT hk=>?_) (fun ho hk=>?_)<;>(refine .z [0] (hM _ _ _ _ _ hk) rfl rfl rfl ?_;cbv)
 case' refine_1=>refine gU 43 [0,1,4,5,6,7,8] 3 (fun x:Int×Ts×Bool×Nat×PT×Int×Int×Int×Int×ByteArray×PV=>[.own 0 0,.p (pI 0),.own 1 0,.p (pI 11),.p (pI 14),.own 2 0,.p (pI x.2.2.2.2.2.1)]) (fun x=>[some (.box [.p (.ro 3 LR),.p (pI x.1),.p (pB x.2.2.1)] 46 (some t0)),some (.box [.p (pI 0),.p (pS ⟨#[]⟩),.p (pI 0),.p (pI 0),.p (.v (.slice none 0 0))] 25 none),some (.box [.p (pI x.2.2.2.2.2.2.1),.p (pS x.2.2.2.2.2.2.2.2.2.1),.p (pI x.2.2.2.2.2.2.2.1),.p (pI x.2.2.2.2.2.2.2.2.1),.p x.2.2.2.2.2.2.2.2.2.2] 25 none)]) (fun x=>bE n toks LR x.1 x.2.1/\aW (bN x.2.2.2.1) (cx 2 x.2.2.2.2.1 x.2.2.2.2.2.1) x.2.1 x.2.2.1 o/\fI x.2.2.2.2.1 x.2.2.2.2.2.2.1 x.2.2.2.2.2.2.2.1 x.2.2.2.2.2.2.2.2.1 x.2.2.2.2.2.2.2.2.2.1 x.2.2.2.2.2.2.2.2.2.2/\rμ x.2.1 x.2.2.1<=R0/\(x.2.2.2.2.2.1=0\/x.2.2.2.2.2.1≠0/\0<=x.2.2.2.2.2.1/\x.2.2.2.2.2.1<=30/\x.2.2.1=false/\cG (.lv 2) x.2.1 false<=x.2.2.2.1)) μ (_,_,false,m1,_,N,k,i,q,nm,KK) r5 ⟨h,ho,hv,tL,.inr ⟨jU,hN,fT,rfl,aS (dA (ux hs)) nZ⟩⟩ ?_
 case' refine_2=>refine gU 43 [0,1,4,5,6,7,8] 3 (fun x:Int×Ts×Bool×Nat×PT×Int×Int×Int×Int×ByteArray×PV=>[.own 0 0,.p (pI 0),.own 1 0,.p (pI 11),.p (pI 14),.own 2 0,.p (pI x.2.2.2.2.2.1)]) (fun x=>[some (.box [.p (.ro 3 LR),.p (pI x.1),.p (pB x.2.2.1)] 46 (some t0)),some (.box [.p (pI 0),.p (pS ⟨#[]⟩),.p (pI 0),.p (pI 0),.p (.v (.slice none 0 0))] 25 none),some (.box [.p (pI x.2.2.2.2.2.2.1),.p (pS x.2.2.2.2.2.2.2.2.2.1),.p (pI x.2.2.2.2.2.2.2.1),.p (pI x.2.2.2.2.2.2.2.2.1),.p x.2.2.2.2.2.2.2.2.2.2] 25 none)]) (fun x=>bE n toks LR x.1 x.2.1/\aW (bN x.2.2.2.1) (cx 2 x.2.2.2.2.1 x.2.2.2.2.2.1) x.2.1 x.2.2.1 o/\fI x.2.2.2.2.1 x.2.2.2.2.2.2.1 x.2.2.2.2.2.2.2.1 x.2.2.2.2.2.2.2.2.1 x.2.2.2.2.2.2.2.2.2.1 x.2.2.2.2.2.2.2.2.2.2/\rμ x.2.1 x.2.2.1<=R0/\(x.2.2.2.2.2.1=0\/x.2.2.2.2.2.1≠0/\0<=x.2.2.2.2.2.1/\x.2.2.2.2.2.1<=30/\x.2.2.1=false/\cG (.lv 2) x.2.1 false<=x.2.2.2.1)) μ (_,_,_,m1,_,0,k,i,q,nm,KK) r5 ⟨h,ho,hv,tL,.inl rfl⟩ ?_
 all_goals
  rintro⟨a1,l1,b1,m1,x,V,kx,ix,qx,nx,KX⟩ ⟨h,ho,hx,qI,hV⟩
  simp only at h ho hx qI hV;have okx:=hx.one
  rcases hV with hV|⟨jU,hN,fT,hb,gF⟩
  ·exact JW
  ·subst hb;have ek:=oN hE hN jU;have GC:=jU;replace ih:∀s' l' b',cG s' l' b'<cG (.lv 2) l1 false->gK n toks LR s' l' b':=fun s' l' b' hh=>ih s' l' b' (aI hh (nw tQ (nR _) (nR _)))
   exact rW
theorem z2u{b:Bool}(ih:∀s' l' b',cG s' l' b'<cG (.lv 3) l false->gK n toks LR s' l' b'):gK n toks LR (.lv 3) l false:=by
 intro _ m hm f hf a h o ho
 cases hf
 obtain⟨m,rfl⟩:∃k,m=k+1:=⟨m-1,by omega⟩
 have gF:cG (.lv 3) l false<=m:=aO hm;clear hm;rw[rL]at ho;obtain⟨l0,mW⟩:∃k,l=k:=⟨_,rfl⟩
 obtain⟨R0,gZ⟩:∃k,rμ l false=k:=⟨_,rfl⟩
 replace ho:aW (bN m) (mj 3) l false o:=⟨ho⟩;show VM 103 (.own 0 0::[.p (pI 1)]) [cZ LR a false] (lD o) (iC toks LR o);obtain⟨rr,dZ⟩:∃rr,lD o=rr:=⟨_,rfl⟩
 obtain⟨HH,gQ⟩:∃HH,iC toks LR o=HH:=⟨_,rfl⟩
 rw[dZ,gQ];obtain⟨M,mY⟩:∃M:Int,((toks.length:Nat):Int)=M:=⟨_,rfl⟩
 refine nQ Tryz.func103 rfl kR (fun n=>match n with|3=>9|8=>6|_=>0) (fun n=>match n with|8=>[5]|_=>[]) (fun n i=>match n,i with|8,5=>1|_,_=>0) kR rfl fun t0 P G E hc hM hE=>?_
 have fO:=gX hE;have fG:=wM hE;obtain⟨L9,ie⟩:∃k,l.length=k:=⟨_,rfl⟩
 have ph:L9<=1000000:=dm
 have xc:rμ l false<=L9+1:=EG
 have fL:=JE hE;cbv
 repeat (first|(simp only[fL.a];cbv)|(simp only[fL.b];cbv)|(refine⟨fL.c,_,rfl,?_⟩;cbv)|(refine⟨fL.d,_,rfl,?_⟩;cbv)|(refine⟨fL.e,_,rfl,?_⟩;cbv)|(refine⟨fL.f,_,rfl,?_⟩;cbv))
 refine uj gF ih h ho ⟨tM,rfl,rfl,rfl,rfl⟩ (fun x l b a k i q nm KK h ho hl hv hk=>?_)
 refine .z [0] (hM _ _ _ _ _ hk) rfl rfl rfl ?_;cbv;have ok:=hv.one;cbv at ok;simp only[ok];cbv;refine xE (bo ho (aI tM gF)) fun m1 r=>?_
 have ho:=r.2;have nZ:=r.1;clear r;refine xE (⟨_,fun _=>rfl⟩:∃μ:Int×Ts×Bool×Nat×PT×Int×Int×Int×Int×ByteArray×PV->Nat,∀x,μ x=(if x.2.2.2.2.2.1=0 then 0 else rμ x.2.1 x.2.2.1+1)) fun μ hμ=>?_
 refine BI h ho (aD rfl) (aD rfl) (aD rfl) (fun N a h ho hs hb jU hN fT hk=>?_) (fun ho hk=>?_)<;>(refine .z [0] (hM _ _ _ _ _ hk) rfl rfl rfl ?_;cbv)
 case' refine_1=>refine gU 43 [0,1,4,5,6,7,8] 3 (fun x:Int×Ts×Bool×Nat×PT×Int×Int×Int×Int×ByteArray×PV=>[.own 0 0,.p (pI 1),.own 1 0,.p (pI 15),.p (pI 20),.own 2 0,.p (pI x.2.2.2.2.2.1)]) (fun x=>[some (.box [.p (.ro 3 LR),.p (pI x.1),.p (pB x.2.2.1)] 46 (some t0)),some (.box [.p (pI 0),.p (pS ⟨#[]⟩),.p (pI 0),.p (pI 0),.p (.v (.slice none 0 0))] 25 none),some (.box [.p (pI x.2.2.2.2.2.2.1),.p (pS x.2.2.2.2.2.2.2.2.2.1),.p (pI x.2.2.2.2.2.2.2.1),.p (pI x.2.2.2.2.2.2.2.2.1),.p x.2.2.2.2.2.2.2.2.2.2] 25 none)]) (fun x=>bE n toks LR x.1 x.2.1/\aW (bN x.2.2.2.1) (cx 3 x.2.2.2.2.1 x.2.2.2.2.2.1) x.2.1 x.2.2.1 o/\fI x.2.2.2.2.1 x.2.2.2.2.2.2.1 x.2.2.2.2.2.2.2.1 x.2.2.2.2.2.2.2.2.1 x.2.2.2.2.2.2.2.2.2.1 x.2.2.2.2.2.2.2.2.2.2/\rμ x.2.1 x.2.2.1<=R0/\(x.2.2.2.2.2.1=0\/x.2.2.2.2.2.1≠0/\0<=x.2.2.2.2.2.1/\x.2.2.2.2.2.1<=30/\x.2.2.1=false/\cG (.lv 3) x.2.1 false<=x.2.2.2.1)) μ (_,_,false,m1,_,N,k,i,q,nm,KK) r5 ⟨h,ho,hv,tL,.inr ⟨jU,hN,fT,rfl,aS (dA (ux hs)) nZ⟩⟩ ?_
 case' refine_2=>refine gU 43 [0,1,4,5,6,7,8] 3 (fun x:Int×Ts×Bool×Nat×PT×Int×Int×Int×Int×ByteArray×PV=>[.own 0 0,.p (pI 1),.own 1 0,.p (pI 15),.p (pI 20),.own 2 0,.p (pI x.2.2.2.2.2.1)]) (fun x=>[some (.box [.p (.ro 3 LR),.p (pI x.1),.p (pB x.2.2.1)] 46 (some t0)),some (.box [.p (pI 0),.p (pS ⟨#[]⟩),.p (pI 0),.p (pI 0),.p (.v (.slice none 0 0))] 25 none),some (.box [.p (pI x.2.2.2.2.2.2.1),.p (pS x.2.2.2.2.2.2.2.2.2.1),.p (pI x.2.2.2.2.2.2.2.1),.p (pI x.2.2.2.2.2.2.2.2.1),.p x.2.2.2.2.2.2.2.2.2.2] 25 none)]) (fun x=>bE n toks LR x.1 x.2.1/\aW (bN x.2.2.2.1) (cx 3 x.2.2.2.2.1 x.2.2.2.2.2.1) x.2.1 x.2.2.1 o/\fI x.2.2.2.2.1 x.2.2.2.2.2.2.1 x.2.2.2.2.2.2.2.1 x.2.2.2.2.2.2.2.2.1 x.2.2.2.2.2.2.2.2.2.1 x.2.2.2.2.2.2.2.2.2.2/\rμ x.2.1 x.2.2.1<=R0/\(x.2.2.2.2.2.1=0\/x.2.2.2.2.2.1≠0/\0<=x.2.2.2.2.2.1/\x.2.2.2.2.2.1<=30/\x.2.2.1=false/\cG (.lv 3) x.2.1 false<=x.2.2.2.1)) μ (_,_,_,m1,_,0,k,i,q,nm,KK) r5 ⟨h,ho,hv,tL,.inl rfl⟩ ?_
 all_goals
  rintro⟨a1,l1,b1,m1,x,V,kx,ix,qx,nx,KX⟩ ⟨h,ho,hx,qI,hV⟩
  simp only at h ho hx qI hV;have okx:=hx.one
  rcases hV with hV|⟨jU,hN,fT,hb,gF⟩
  ·exact JW
  ·subst hb;have ek:=oN hE hN jU;have GC:=jU;replace ih:∀s' l' b',cG s' l' b'<cG (.lv 3) l1 false->gK n toks LR s' l' b':=fun s' l' b' hh=>ih s' l' b' (aI hh (nw tQ (nR _) (nR _)))
   exact rW
theorem z2t{b:Bool}(ih:∀s' l' b',cG s' l' b'<cG (.lv 4) l false->gK n toks LR s' l' b'):gK n toks LR (.lv 4) l false:=by
 intro _ m hm f hf a h o ho
 cases hf
 obtain⟨m,rfl⟩:∃k,m=k+1:=⟨m-1,by omega⟩
 have gF:cG (.lv 4) l false<=m:=aO hm;clear hm;rw[rL]at ho;obtain⟨l0,mW⟩:∃k,l=k:=⟨_,rfl⟩
 obtain⟨R0,gZ⟩:∃k,rμ l false=k:=⟨_,rfl⟩
 replace ho:aW (bN m) (mj 4) l false o:=⟨ho⟩;show VM 103 (.own 0 0::[.p (pI 2)]) [cZ LR a false] (lD o) (iC toks LR o);obtain⟨rr,dZ⟩:∃rr,lD o=rr:=⟨_,rfl⟩
 obtain⟨HH,gQ⟩:∃HH,iC toks LR o=HH:=⟨_,rfl⟩
 rw[dZ,gQ];obtain⟨M,mY⟩:∃M:Int,((toks.length:Nat):Int)=M:=⟨_,rfl⟩
 refine nQ Tryz.func103 rfl kR (fun n=>match n with|3=>9|8=>6|_=>0) (fun n=>match n with|8=>[5]|_=>[]) (fun n i=>match n,i with|8,5=>1|_,_=>0) kR rfl fun t0 P G E hc hM hE=>?_
 have fO:=gX hE;have fG:=wM hE;obtain⟨L9,ie⟩:∃k,l.length=k:=⟨_,rfl⟩
 have ph:L9<=1000000:=dm
 have xc:rμ l false<=L9+1:=EG
 have fL:=JE hE;cbv
 repeat (first|(simp only[fL.a];cbv)|(simp only[fL.b];cbv)|(refine⟨fL.c,_,rfl,?_⟩;cbv)|(refine⟨fL.d,_,rfl,?_⟩;cbv)|(refine⟨fL.e,_,rfl,?_⟩;cbv)|(refine⟨fL.f,_,rfl,?_⟩;cbv))
 refine uj gF ih h ho ⟨tM,rfl,rfl,rfl,rfl⟩ (fun x l b a k i q nm KK h ho hl hv hk=>?_)
 refine .z [0] (hM _ _ _ _ _ hk) rfl rfl rfl ?_;cbv;have ok:=hv.one;cbv at ok;simp only[ok];cbv;refine xE (bo ho (aI tM gF)) fun m1 r=>?_
 have ho:=r.2;have nZ:=r.1;clear r;refine xE (⟨_,fun _=>rfl⟩:∃μ:Int×Ts×Bool×Nat×PT×Int×Int×Int×Int×ByteArray×PV->Nat,∀x,μ x=(if x.2.2.2.2.2.1=0 then 0 else rμ x.2.1 x.2.2.1+1)) fun μ hμ=>?_
 refine BI h ho (aD rfl) (aD rfl) (aD rfl) (fun N a h ho hs hb jU hN fT hk=>?_) (fun ho hk=>?_)<;>(refine .z [0] (hM _ _ _ _ _ hk) rfl rfl rfl ?_;cbv)
 case' refine_1=>refine gU 43 [0,1,4,5,6,7,8] 3 (fun x:Int×Ts×Bool×Nat×PT×Int×Int×Int×Int×ByteArray×PV=>[.own 0 0,.p (pI 2),.own 1 0,.p (pI 6),.p (pI 7),.own 2 0,.p (pI x.2.2.2.2.2.1)]) (fun x=>[some (.box [.p (.ro 3 LR),.p (pI x.1),.p (pB x.2.2.1)] 46 (some t0)),some (.box [.p (pI 0),.p (pS ⟨#[]⟩),.p (pI 0),.p (pI 0),.p (.v (.slice none 0 0))] 25 none),some (.box [.p (pI x.2.2.2.2.2.2.1),.p (pS x.2.2.2.2.2.2.2.2.2.1),.p (pI x.2.2.2.2.2.2.2.1),.p (pI x.2.2.2.2.2.2.2.2.1),.p x.2.2.2.2.2.2.2.2.2.2] 25 none)]) (fun x=>bE n toks LR x.1 x.2.1/\aW (bN x.2.2.2.1) (cx 4 x.2.2.2.2.1 x.2.2.2.2.2.1) x.2.1 x.2.2.1 o/\fI x.2.2.2.2.1 x.2.2.2.2.2.2.1 x.2.2.2.2.2.2.2.1 x.2.2.2.2.2.2.2.2.1 x.2.2.2.2.2.2.2.2.2.1 x.2.2.2.2.2.2.2.2.2.2/\rμ x.2.1 x.2.2.1<=R0/\(x.2.2.2.2.2.1=0\/x.2.2.2.2.2.1≠0/\0<=x.2.2.2.2.2.1/\x.2.2.2.2.2.1<=30/\x.2.2.1=false/\cG (.lv 4) x.2.1 false<=x.2.2.2.1)) μ (_,_,false,m1,_,N,k,i,q,nm,KK) r5 ⟨h,ho,hv,tL,.inr ⟨jU,hN,fT,rfl,aS (dA (ux hs)) nZ⟩⟩ ?_
 case' refine_2=>refine gU 43 [0,1,4,5,6,7,8] 3 (fun x:Int×Ts×Bool×Nat×PT×Int×Int×Int×Int×ByteArray×PV=>[.own 0 0,.p (pI 2),.own 1 0,.p (pI 6),.p (pI 7),.own 2 0,.p (pI x.2.2.2.2.2.1)]) (fun x=>[some (.box [.p (.ro 3 LR),.p (pI x.1),.p (pB x.2.2.1)] 46 (some t0)),some (.box [.p (pI 0),.p (pS ⟨#[]⟩),.p (pI 0),.p (pI 0),.p (.v (.slice none 0 0))] 25 none),some (.box [.p (pI x.2.2.2.2.2.2.1),.p (pS x.2.2.2.2.2.2.2.2.2.1),.p (pI x.2.2.2.2.2.2.2.1),.p (pI x.2.2.2.2.2.2.2.2.1),.p x.2.2.2.2.2.2.2.2.2.2] 25 none)]) (fun x=>bE n toks LR x.1 x.2.1/\aW (bN x.2.2.2.1) (cx 4 x.2.2.2.2.1 x.2.2.2.2.2.1) x.2.1 x.2.2.1 o/\fI x.2.2.2.2.1 x.2.2.2.2.2.2.1 x.2.2.2.2.2.2.2.1 x.2.2.2.2.2.2.2.2.1 x.2.2.2.2.2.2.2.2.2.1 x.2.2.2.2.2.2.2.2.2.2/\rμ x.2.1 x.2.2.1<=R0/\(x.2.2.2.2.2.1=0\/x.2.2.2.2.2.1≠0/\0<=x.2.2.2.2.2.1/\x.2.2.2.2.2.1<=30/\x.2.2.1=false/\cG (.lv 4) x.2.1 false<=x.2.2.2.1)) μ (_,_,_,m1,_,0,k,i,q,nm,KK) r5 ⟨h,ho,hv,tL,.inl rfl⟩ ?_
 all_goals
  rintro⟨a1,l1,b1,m1,x,V,kx,ix,qx,nx,KX⟩ ⟨h,ho,hx,qI,hV⟩
  simp only at h ho hx qI hV;have okx:=hx.one
  rcases hV with hV|⟨jU,hN,fT,hb,gF⟩
  ·exact JW
  ·subst hb;have ek:=oN hE hN jU;have GC:=jU;replace ih:∀s' l' b',cG s' l' b'<cG (.lv 4) l1 false->gK n toks LR s' l' b':=fun s' l' b' hh=>ih s' l' b' (aI hh (nw tQ (nR _) (nR _)))
   exact rW
theorem z2s{b:Bool}(ih:∀s' l' b',cG s' l' b'<cG (.lv 5) l false->gK n toks LR s' l' b'):gK n toks LR (.lv 5) l false:=by
 intro _ m hm f hf a h o ho
 cases hf
 obtain⟨m,rfl⟩:∃k,m=k+1:=⟨m-1,by omega⟩
 have gF:cG (.lv 5) l false<=m:=aO hm;clear hm;rw[rL]at ho;obtain⟨l0,mW⟩:∃k,l=k:=⟨_,rfl⟩
 obtain⟨R0,gZ⟩:∃k,rμ l false=k:=⟨_,rfl⟩
 replace ho:aW (bN m) (mj 5) l false o:=⟨ho⟩;show VM 103 (.own 0 0::[.p (pI 3)]) [cZ LR a false] (lD o) (iC toks LR o);obtain⟨rr,dZ⟩:∃rr,lD o=rr:=⟨_,rfl⟩
 obtain⟨HH,gQ⟩:∃HH,iC toks LR o=HH:=⟨_,rfl⟩
 rw[dZ,gQ];obtain⟨M,mY⟩:∃M:Int,((toks.length:Nat):Int)=M:=⟨_,rfl⟩
 refine nQ Tryz.func103 rfl kR (fun n=>match n with|3=>9|8=>6|_=>0) (fun n=>match n with|8=>[5]|_=>[]) (fun n i=>match n,i with|8,5=>1|_,_=>0) kR rfl fun t0 P G E hc hM hE=>?_
 have fO:=gX hE;have fG:=wM hE;obtain⟨L9,ie⟩:∃k,l.length=k:=⟨_,rfl⟩
 have ph:L9<=1000000:=dm
 have xc:rμ l false<=L9+1:=EG
 have fL:=JE hE;cbv
 repeat (first|(simp only[fL.a];cbv)|(simp only[fL.b];cbv)|(refine⟨fL.c,_,rfl,?_⟩;cbv)|(refine⟨fL.d,_,rfl,?_⟩;cbv)|(refine⟨fL.e,_,rfl,?_⟩;cbv)|(refine⟨fL.f,_,rfl,?_⟩;cbv))
 refine uj gF ih h ho ⟨tM,rfl,rfl,rfl,rfl⟩ (fun x l b a k i q nm KK h ho hl hv hk=>?_)
 refine .z [0] (hM _ _ _ _ _ hk) rfl rfl rfl ?_;cbv;have ok:=hv.one;cbv at ok;simp only[ok];cbv;refine xE (bo ho (aI tM gF)) fun m1 r=>?_
 have ho:=r.2;have nZ:=r.1;clear r;refine xE (⟨_,fun _=>rfl⟩:∃μ:Int×Ts×Bool×Nat×PT×Int×Int×Int×Int×ByteArray×PV->Nat,∀x,μ x=(if x.2.2.2.2.2.1=0 then 0 else rμ x.2.1 x.2.2.1+1)) fun μ hμ=>?_
 refine BI h ho (aD rfl) (aD rfl) (aD rfl) (fun N a h ho hs hb jU hN fT hk=>?_) (fun ho hk=>?_)<;>(refine .z [0] (hM _ _ _ _ _ hk) rfl rfl rfl ?_;cbv)
 case' refine_1=>refine gU 43 [0,1,4,5,6,7,8] 3 (fun x:Int×Ts×Bool×Nat×PT×Int×Int×Int×Int×ByteArray×PV=>[.own 0 0,.p (pI 3),.own 1 0,.p (pI 8),.p (pI 10),.own 2 0,.p (pI x.2.2.2.2.2.1)]) (fun x=>[some (.box [.p (.ro 3 LR),.p (pI x.1),.p (pB x.2.2.1)] 46 (some t0)),some (.box [.p (pI 0),.p (pS ⟨#[]⟩),.p (pI 0),.p (pI 0),.p (.v (.slice none 0 0))] 25 none),some (.box [.p (pI x.2.2.2.2.2.2.1),.p (pS x.2.2.2.2.2.2.2.2.2.1),.p (pI x.2.2.2.2.2.2.2.1),.p (pI x.2.2.2.2.2.2.2.2.1),.p x.2.2.2.2.2.2.2.2.2.2] 25 none)]) (fun x=>bE n toks LR x.1 x.2.1/\aW (bN x.2.2.2.1) (cx 5 x.2.2.2.2.1 x.2.2.2.2.2.1) x.2.1 x.2.2.1 o/\fI x.2.2.2.2.1 x.2.2.2.2.2.2.1 x.2.2.2.2.2.2.2.1 x.2.2.2.2.2.2.2.2.1 x.2.2.2.2.2.2.2.2.2.1 x.2.2.2.2.2.2.2.2.2.2/\rμ x.2.1 x.2.2.1<=R0/\(x.2.2.2.2.2.1=0\/x.2.2.2.2.2.1≠0/\0<=x.2.2.2.2.2.1/\x.2.2.2.2.2.1<=30/\x.2.2.1=false/\cG (.lv 5) x.2.1 false<=x.2.2.2.1)) μ (_,_,false,m1,_,N,k,i,q,nm,KK) r5 ⟨h,ho,hv,tL,.inr ⟨jU,hN,fT,rfl,aS (dA (ux hs)) nZ⟩⟩ ?_
 case' refine_2=>refine gU 43 [0,1,4,5,6,7,8] 3 (fun x:Int×Ts×Bool×Nat×PT×Int×Int×Int×Int×ByteArray×PV=>[.own 0 0,.p (pI 3),.own 1 0,.p (pI 8),.p (pI 10),.own 2 0,.p (pI x.2.2.2.2.2.1)]) (fun x=>[some (.box [.p (.ro 3 LR),.p (pI x.1),.p (pB x.2.2.1)] 46 (some t0)),some (.box [.p (pI 0),.p (pS ⟨#[]⟩),.p (pI 0),.p (pI 0),.p (.v (.slice none 0 0))] 25 none),some (.box [.p (pI x.2.2.2.2.2.2.1),.p (pS x.2.2.2.2.2.2.2.2.2.1),.p (pI x.2.2.2.2.2.2.2.1),.p (pI x.2.2.2.2.2.2.2.2.1),.p x.2.2.2.2.2.2.2.2.2.2] 25 none)]) (fun x=>bE n toks LR x.1 x.2.1/\aW (bN x.2.2.2.1) (cx 5 x.2.2.2.2.1 x.2.2.2.2.2.1) x.2.1 x.2.2.1 o/\fI x.2.2.2.2.1 x.2.2.2.2.2.2.1 x.2.2.2.2.2.2.2.1 x.2.2.2.2.2.2.2.2.1 x.2.2.2.2.2.2.2.2.2.1 x.2.2.2.2.2.2.2.2.2.2/\rμ x.2.1 x.2.2.1<=R0/\(x.2.2.2.2.2.1=0\/x.2.2.2.2.2.1≠0/\0<=x.2.2.2.2.2.1/\x.2.2.2.2.2.1<=30/\x.2.2.1=false/\cG (.lv 5) x.2.1 false<=x.2.2.2.1)) μ (_,_,_,m1,_,0,k,i,q,nm,KK) r5 ⟨h,ho,hv,tL,.inl rfl⟩ ?_
 all_goals
  rintro⟨a1,l1,b1,m1,x,V,kx,ix,qx,nx,KX⟩ ⟨h,ho,hx,qI,hV⟩
  simp only at h ho hx qI hV;have okx:=hx.one
  rcases hV with hV|⟨jU,hN,fT,hb,gF⟩
  ·exact JW
  ·subst hb;have ek:=oN hE hN jU;have GC:=jU;replace ih:∀s' l' b',cG s' l' b'<cG (.lv 5) l1 false->gK n toks LR s' l' b':=fun s' l' b' hh=>ih s' l' b' (aI hh (nw tQ (nR _) (nR _)))
   exact rW
theorem Z7{b:Bool}(ih:∀s' l' b',cG s' l' b'<cG .unary l b->gK n toks LR s' l' b'):gK n toks LR .unary l b:=by
 intro _ m hm f hf a h o ho
 cases hf
 obtain⟨m,rfl⟩:∃k,m=k+1:=⟨m-1,by omega⟩
 have gF:cG .unary l b<=m:=aO hm;clear hm;rw[rL]at ho;obtain⟨l0,mW⟩:∃k,l=k:=⟨_,rfl⟩
 obtain⟨R0,gZ⟩:∃k,rμ l b=k:=⟨_,rfl⟩
 replace ho:aW (bN m) VO l b o:=⟨ho⟩;show VM 125 (.own 0 0::[]) [cZ LR a b] (lD o) (iC toks LR o);obtain⟨rr,dZ⟩:∃rr,lD o=rr:=⟨_,rfl⟩
 obtain⟨HH,gQ⟩:∃HH,iC toks LR o=HH:=⟨_,rfl⟩
 rw[dZ,gQ];obtain⟨M,mY⟩:∃M:Int,((toks.length:Nat):Int)=M:=⟨_,rfl⟩
 refine nQ Tryz.func125 rfl kR (fun _=>0) (fun _=>[]) (fun _ _=>0) kR rfl fun t0 P G E hc hM hE=>?_
 exact zu
theorem z2r{b:Bool}(ih:∀s' l' b',cG s' l' b'<cG (.lv 6) l false->gK n toks LR s' l' b'):gK n toks LR (.lv 6) l false:=by
 intro _ m hm f hf a h o ho
 cases hf
 obtain⟨m,rfl⟩:∃k,m=k+1:=⟨m-1,by omega⟩
 have gF:cG (.lv 6) l false<=m:=aO hm;clear hm;rw[rL]at ho;obtain⟨l0,mW⟩:∃k,l=k:=⟨_,rfl⟩
 obtain⟨R0,gZ⟩:∃k,rμ l false=k:=⟨_,rfl⟩
 replace ho:aW (bN m) (mj 6) l false o:=⟨ho⟩;show VM 103 (.own 0 0::[.p (pI 4)]) [cZ LR a false] (lD o) (iC toks LR o);obtain⟨rr,dZ⟩:∃rr,lD o=rr:=⟨_,rfl⟩
 obtain⟨HH,gQ⟩:∃HH,iC toks LR o=HH:=⟨_,rfl⟩
 rw[dZ,gQ];obtain⟨M,mY⟩:∃M:Int,((toks.length:Nat):Int)=M:=⟨_,rfl⟩
 refine nQ Tryz.func103 rfl kR (fun n=>match n with|3=>9|8=>6|_=>0) (fun n=>match n with|8=>[5]|_=>[]) (fun n i=>match n,i with|8,5=>1|_,_=>0) kR rfl fun t0 P G E hc hM hE=>?_
 exact zu
end
section
variable{n:Int}{toks:List Tk}{LR:List (List PV)}{l:Ts}
theorem z2g{b:Bool}(ih:∀s' l' b',cG s' l' b'<cG .obj l false->gK n toks LR s' l' b'):gK n toks LR .obj l false:=by
 intro _ m hm f hf a h o ho
 cases hf
 obtain⟨m,rfl⟩:∃k,m=k+1:=⟨m-1,by omega⟩
 have gF:cG .obj l false<=m:=aO hm;clear hm;rw[rL]at ho;obtain⟨l0,mW⟩:∃k,l=k:=⟨_,rfl⟩
 obtain⟨R0,gZ⟩:∃k,rμ l false=k:=⟨_,rfl⟩
 replace ho:aW (bN m) (.take uC (iR (nd 10 [])) (.tail (.objL []))) l false o:=⟨ho⟩;show VM 165 (.own 0 0::[]) [cZ LR a false] (lD o) (iC toks LR o);obtain⟨rr,dZ⟩:∃rr,lD o=rr:=⟨_,rfl⟩
 obtain⟨HH,gQ⟩:∃HH,iC toks LR o=HH:=⟨_,rfl⟩
 rw[dZ,gQ];obtain⟨M,mY⟩:∃M:Int,((toks.length:Nat):Int)=M:=⟨_,rfl⟩
 refine nQ Tryz.func165 rfl kR (fun n=>match n with|5=>5|_=>0) (fun n=>match n with|5=>[3]|_=>[]) (fun n i=>match n,i with|5,3=>1|5,4=>1|_,_=>0) kR rfl fun t0 P G E hc hM hE=>?_
 have fO:=gX hE;have fG:=wM hE;obtain⟨L9,ie⟩:∃k,l.length=k:=⟨_,rfl⟩
 have ph:L9<=1000000:=dm
 have xc:rμ l false<=L9+1:=EG
 cbv;refine GY h ho (fun a h ho hs hb hk=>?_) (fun ho hk=>?_)<;>(refine .z [0] (hM _ _ _ _ _ hk) rfl rfl rfl ?_;cbv)
 case' refine_1=>exact rW
 refine xE (bo ho (aI (WR (nR _) (oT rfl)) gF)) fun m1 r=>?_
 have ho:=r.2;have nZ:=r.1;clear r;refine xE (⟨_,fun _=>rfl⟩:∃μ:Int×Ts×Nat×List PT×List (List PV)×Nat->Nat,∀x,μ x=x.2.1.length) fun μ hμ=>?_
 refine iO.wk (BS (k:=2) (j:=4) 5 25 rfl rfl) ?_;refine gU 26 [0,2,3] 4 (fun x:Int×Ts×Nat×List PT×List (List PV)×Nat=>[.own 0 0,.own 1 0,.own 2 0]) (fun x=>[some (.box [.p (.ro 3 LR),.p (pI x.1),.p (pB false)] 46 (some t0)),some (.box [.p (pI 0),.p (pS ⟨#[]⟩),.p (pI 0),.p (pI 0),.p (.v (.slice none 0 0))] 25 none),some (.box [.p (pI 10),.p (pS ⟨#[]⟩),.p (pI 0),.p (pI 0),.osl 3 0 x.2.2.2.2.2] 25 none),some (.rows 5 x.2.2.2.2.1 25)])
  (fun x=>bE n toks LR x.1 x.2.1/\aW (bN x.2.2.1) (vp x.2.2.2.1) x.2.1 false o/\cG (.objL x.2.2.2.1) x.2.1 false<=x.2.2.1/\x.2.2.2.2.2+x.2.1.length<=L9/\gR x.2.2.2.1=x.2.2.2.2.1/\x.2.2.2.2.1.length=x.2.2.2.2.2) μ (_,_,m1,[],[],0) r5 ⟨h,ho,nZ,tL,by rw[gR],rfl⟩ ?_
 rintro⟨a1,l1,m1,acc,R,N⟩ ⟨h,ho,gF,qI,g4,g5⟩
 simp only at h ho gF qI g4 g5;replace ih:∀s' l' b',cG s' l' b'<cG (.objL acc) l1 false->gK n toks LR s' l' b':=fun s' l' b' hh=>ih s' l' b' (aI hh (nw (by(try simp only[tI]);omega) (oT rfl) (oT rfl)))
 have gz:N<=2000000:=dU
 have hlen:acc.length=N:=ZQ
 obtain⟨N2,fT⟩:∃N2,N+1=N2:=⟨_,rfl⟩
 have fB5:=fO.pre N R g5;have fB6:E.sub R 0 N=R:=JO
 exact rW
theorem Y7{b:Bool}(ih:∀s' l' b',cG s' l' b'<cG .stms l b->gK n toks LR s' l' b'):gK n toks LR .stms l b:=by
 intro _ m hm f hf a h o ho
 cases hf
 obtain⟨m,rfl⟩:∃k,m=k+1:=⟨m-1,by omega⟩
 have gF:cG .stms l b<=m:=aO hm;clear hm;rw[rL]at ho;obtain⟨l0,mW⟩:∃k,l=k:=⟨_,rfl⟩
 obtain⟨R0,gZ⟩:∃k,rμ l b=k:=⟨_,rfl⟩
 replace ho:aW (bN m) (.tail (.stmsL [])) l b o:=⟨ho⟩;show VM 18 (.own 0 0::[]) [cZ LR a b] (vn o) (iC toks LR o);obtain⟨rr,dZ⟩:∃rr,vn o=rr:=⟨_,rfl⟩
 obtain⟨HH,gQ⟩:∃HH,iC toks LR o=HH:=⟨_,rfl⟩
 rw[dZ,gQ];obtain⟨M,mY⟩:∃M:Int,((toks.length:Nat):Int)=M:=⟨_,rfl⟩
 refine nQ Tryz.func18 rfl kR (fun n=>match n with|2=>15|_=>0) (fun _=>[]) (fun _ _=>0) kR rfl fun t0 P G E hc hM hE=>?_
 have fO:=gX hE;have fG:=wM hE;obtain⟨L9,ie⟩:∃k,l.length=k:=⟨_,rfl⟩
 have ph:L9<=1000000:=dm
 have xc:rμ l b<=L9+1:=by rw[<-ie];exact WH l b
 have l0:E.ofN LR.length=M:=zp
 cbv;cbv at l0;refine xE (bo ho (aI (Bo (nR _) (oT rfl) (oT rfl)) gF)) fun m1 r=>?_
 have ho:=r.2;have nZ:=r.1;clear r;refine xE (⟨_,fun _=>rfl⟩:∃μ:Int×Ts×Bool×Nat×List PT×List (List PV)×Nat->Nat,∀x,μ x=rμ x.2.1 x.2.2.1) fun μ hμ=>?_
 refine iO.wk (BZ (d:=3) 5 25 rfl) ?_;refine gU 32 [0,2,3] 2 (fun x:Int×Ts×Bool×Nat×List PT×List (List PV)×Nat=>[.own 0 0,.p (.v (.slice none 0 0)),.osl 1 0 x.2.2.2.2.2.2]) (fun x=>[some (.box [.p (.ro 3 LR),.p (pI x.1),.p (pB x.2.2.1)] 46 (some t0)),some (.rows 5 x.2.2.2.2.2.1 25)])
  (fun x=>bE n toks LR x.1 x.2.1/\aW (bN x.2.2.2.1) (YQ x.2.2.2.2.1) x.2.1 x.2.2.1 o/\cG (.stmsL x.2.2.2.2.1) x.2.1 x.2.2.1<=x.2.2.2.1/\x.2.2.2.2.2.2+rμ x.2.1 x.2.2.1<=R0/\gR x.2.2.2.2.1=x.2.2.2.2.2.1/\x.2.2.2.2.2.1.length=x.2.2.2.2.2.2) μ (a,l,b,m1,[],[],0) r5 ⟨h,ho,nZ,tL,by rw[gR],rfl⟩ ?_
 rintro⟨a1,l1,b1,m1,acc,R,N⟩ ⟨h,ho,gF,qI,g4,g5⟩
 simp only at h ho gF qI g4 g5;replace ih:∀s' l' b',cG s' l' b'<cG (.stmsL acc) l1 b1->gK n toks LR s' l' b':=fun s' l' b' hh=>ih s' l' b' (aI hh (nw tQ (oT rfl) (oT rfl)))
 exact Tr
theorem Xo{b:Bool}(ih:∀s' l' b',cG s' l' b'<cG .prim l false->gK n toks LR s' l' b'):gK n toks LR .prim l false:=by
 intro _ m hm f hf a h o ho
 cases hf
 obtain⟨m,rfl⟩:∃k,m=k+1:=⟨m-1,by omega⟩
 have gF:cG .prim l false<=m:=aO hm;clear hm;rw[rL]at ho;obtain⟨l0,mW⟩:∃k,l=k:=⟨_,rfl⟩
 obtain⟨R0,gZ⟩:∃k,rμ l false=k:=⟨_,rfl⟩
 replace ho:aW (bN m) YK l false o:=⟨ho⟩;show VM 149 (.own 0 0::[]) [cZ LR a false] (lD o) (iC toks LR o);obtain⟨rr,dZ⟩:∃rr,lD o=rr:=⟨_,rfl⟩
 obtain⟨HH,gQ⟩:∃HH,iC toks LR o=HH:=⟨_,rfl⟩
 rw[dZ,gQ];obtain⟨M,mY⟩:∃M:Int,((toks.length:Nat):Int)=M:=⟨_,rfl⟩
 refine nQ Tryz.func149 rfl kR (fun n=>match n with|1=>14|4=>11|_=>0) (fun _=>[]) (fun _ _=>0) kR rfl fun t0 P G E hc hM hE=>?_
 exact Rz
theorem Yf{b:Bool}(ih:∀s' l' b',cG s' l' b'<cG .block l b->gK n toks LR s' l' b'):gK n toks LR .block l b:=by
 intro _ m hm f hf a h o ho
 cases hf
 obtain⟨m,rfl⟩:∃k,m=k+1:=⟨m-1,by omega⟩
 have gF:cG .block l b<=m:=aO hm;clear hm;rw[rL]at ho;obtain⟨l0,mW⟩:∃k,l=k:=⟨_,rfl⟩
 obtain⟨R0,gZ⟩:∃k,rμ l b=k:=⟨_,rfl⟩
 replace ho:aW (bN m) (.need nS (.calls .stms fun ks=>.need uC (iR (nd 27 ks)))) l b o:=⟨ho⟩
 show VM 70 (.own 0 0::[]) [cZ LR a b] (lD o) (iC toks LR o);obtain⟨rr,dZ⟩:∃rr,lD o=rr:=⟨_,rfl⟩
 obtain⟨HH,gQ⟩:∃HH,iC toks LR o=HH:=⟨_,rfl⟩
 rw[dZ,gQ];obtain⟨M,mY⟩:∃M:Int,((toks.length:Nat):Int)=M:=⟨_,rfl⟩
 refine nQ Tryz.func70 rfl kR (fun _=>0) (fun _=>[]) (fun _ _=>0) kR rfl fun t0 P G E hc hM hE=>?_
 exact zu
end
end Go.Proofs.YtjkcdcloomkooaaGreatDoor
