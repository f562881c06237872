/- Own work: walks and laws of the parser and its reference. -/
import Derived.Test.YtjkcdcloomkooaaGreatDoorQXR
set_option linter.unusedVariables false
set_option linter.unusedSimpArgs false
set_option linter.unusedSectionVars false
set_option maxHeartbeats 16000000
set_option maxRecDepth 100000
namespace Go.Proofs.YtjkcdcloomkooaaGreatDoor
open Go.RowKit
section
variable{n:Int}{toks:List Tk}{LR:List (List PV)}{l:Ts}
theorem Yi{b:Bool}{k:Int}(ih:∀s' l' b',cG s' l' b'<cG (.decls k) l b->gK n toks LR s' l' b'):gK n toks LR (.decls k) l b:=by
 intro _ m hm f hf a h o ho
 cases hf
 obtain⟨m,rfl⟩:∃k,m=k+1:=⟨m-1,by omega⟩
 have gF:cG (.decls k) l b<=m:=aO hm;clear hm;rw[rL]at ho;obtain⟨l0,mW⟩:∃k,l=k:=⟨_,rfl⟩
 obtain⟨R0,gZ⟩:∃k,rμ l b=k:=⟨_,rfl⟩
 replace ho:aW (bN m) (.tail (.declsL k [])) l b o:=⟨ho⟩;show VM 74 (.own 0 0::[.p (pI k)]) [cZ LR a b] (lD o) (iC toks LR o);obtain⟨rr,dZ⟩:∃rr,lD o=rr:=⟨_,rfl⟩
 obtain⟨HH,gQ⟩:∃HH,iC toks LR o=HH:=⟨_,rfl⟩
 rw[dZ,gQ];obtain⟨M,mY⟩:∃M:Int,((toks.length:Nat):Int)=M:=⟨_,rfl⟩
 refine nQ Tryz.func74 rfl kR (fun n=>match n with|4=>5|_=>0) (fun n=>match n with|4=>[3]|5=>[0]|_=>[]) (fun n i=>match n,i with|4,3=>1|4,4=>1|_,_=>0) kR rfl fun t0 P G E hc hM hE=>?_
 have fO:=gX hE;have fG:=wM hE;obtain⟨L9,ie⟩:∃k,l.length=k:=⟨_,rfl⟩
 have ph:L9<=1000000:=dm
 have xc:rμ l b<=L9+1:=by rw[<-ie];exact WH l b
 cbv;refine xE (bo ho (aI (Bo (nR _) (oT rfl) (oT rfl)) gF)) fun m1 r=>?_
 have ho:=r.2;have nZ:=r.1;clear r;have k9:=k;refine xE (⟨_,fun _=>rfl⟩:∃μ:Int×Ts×Bool×Nat×List PT×List (List PV)×Nat->Nat,∀x,μ x=rμ x.2.1 x.2.2.1) fun μ hμ=>?_
 refine iO.wk (BS (k:=2) (j:=4) 5 25 rfl rfl) ?_;refine gU 31 [0,4,5] 4 (fun x:Int×Ts×Bool×Nat×List PT×List (List PV)×Nat=>[.own 0 0,.own 1 0,.own 2 0]) (fun x=>[some (.box [.p (.ro 3 LR),.p (pI x.1),.p (pB x.2.2.1)] 46 (some t0)),some (.box [.p (pI 0),.p (pS ⟨#[]⟩),.p (pI 0),.p (pI 0),.p (.v (.slice none 0 0))] 25 none),some (.box [.p (pI k),.p (pS ⟨#[]⟩),.p (pI 0),.p (pI 0),.osl 3 0 x.2.2.2.2.2.2] 25 none),some (.rows 5 x.2.2.2.2.2.1 25)])
  (fun x=>bE n toks LR x.1 x.2.1/\aW (bN x.2.2.2.1) (VL k x.2.2.2.2.1) x.2.1 x.2.2.1 o/\cG (.declsL k x.2.2.2.2.1) x.2.1 x.2.2.1<=x.2.2.2.1/\x.2.2.2.2.2.2+rμ x.2.1 x.2.2.1<=R0/\gR x.2.2.2.2.1=x.2.2.2.2.2.1/\x.2.2.2.2.2.1.length=x.2.2.2.2.2.2) μ (a,l,b,m1,[],[],0) r5 ⟨h,ho,nZ,tL,by rw[gR],rfl⟩ ?_
 clear k9;generalize k=kk at *
 rintro⟨a1,l1,b1,m1,acc,R,N⟩ ⟨h,ho,gF,qI,g4,g5⟩
 simp only at h ho gF qI g4 g5;replace ih:∀s' l' b',cG s' l' b'<cG (.declsL kk acc) l1 b1->gK n toks LR s' l' b':=fun s' l' b' hh=>ih s' l' b' (aI hh (nw tQ (oT rfl) (oT rfl)))
 exact Tr
theorem Zt{e:Bs}(ih:∀s' l' b',cG s' l' b'<cG (.list e) l true->gK n toks LR s' l' b'):gK n toks LR (.list e) l true:=by
 intro _ m hm f hf a h o ho
 cases hf
 obtain⟨m,rfl⟩:∃k,m=k+1:=⟨m-1,by omega⟩
 have gF:cG (.list e) l true<=m:=aO hm;clear hm;rw[rL]at ho;obtain⟨l0,mW⟩:∃k,l=k:=⟨_,rfl⟩
 obtain⟨R0,gZ⟩:∃k,rμ l true=k:=⟨_,rfl⟩
 replace ho:aW (bN m) (.take e (.ret (.ls [])) (.tail (.listL e []))) l true o:=⟨ho⟩;show VM 151 (.own 0 0::[.p (pS (bL e))]) [cZ LR a true] (DC o) (iC toks LR o);obtain⟨rr,dZ⟩:∃rr,DC o=rr:=⟨_,rfl⟩
 obtain⟨HH,gQ⟩:∃HH,iC toks LR o=HH:=⟨_,rfl⟩
 rw[dZ,gQ];obtain⟨M,mY⟩:∃M:Int,((toks.length:Nat):Int)=M:=⟨_,rfl⟩
 refine nQ Tryz.func151 rfl kR (fun _=>0) (fun _=>[]) (fun _ _=>0) kR rfl fun t0 P G E hc hM hE=>?_
 have fO:=gX hE;have fG:=wM hE;have hz:=h.z;obtain⟨L9,ie⟩:∃k,l.length=k:=⟨_,rfl⟩
 have ph:L9<=1000000:=EF
 cbv;refine GY h ho (fun a h ho hs hb hk=>?_) (fun ho hk=>?_)<;>(refine .z [0] (hM _ _ _ _ _ hk) rfl rfl rfl ?_;cbv)
 case' refine_1=>exact rW
 refine xE (bo ho (aI (Nat.zero_lt_one) gF)) fun m1 r=>?_
 have ho:=r.2;refine gU 27 [0,1,4,5] 1 (fun _:Unit=>[.own 0 0,.p (pS (bL e)),.p (.v (.slice none 0 0)),.p (.v (.slice none 0 0))]) (fun _=>[some (.box [.p (.ro 3 LR),.p (pI a),.p (pB true)] 46 (some t0))]) (fun _=>True) (fun _=>0) () r5 trivial ?_
 intro _ _;replace ho:aW (bN m1) (BF e []) l true o:=ho;exact rW
theorem Zs{e:Bs}(ih:∀s' l' b',cG s' l' b'<cG (.list e) l false->gK n toks LR s' l' b'):gK n toks LR (.list e) l false:=by
 intro _ m hm f hf a h o ho
 cases hf
 obtain⟨m,rfl⟩:∃k,m=k+1:=⟨m-1,by omega⟩
 have gF:cG (.list e) l false<=m:=aO hm;clear hm;rw[rL]at ho;obtain⟨l0,mW⟩:∃k,l=k:=⟨_,rfl⟩
 obtain⟨R0,gZ⟩:∃k,rμ l false=k:=⟨_,rfl⟩
 replace ho:aW (bN m) (.take e (.ret (.ls [])) (.tail (.listL e []))) l false o:=⟨ho⟩;show VM 151 (.own 0 0::[.p (pS (bL e))]) [cZ LR a false] (DC o) (iC toks LR o);obtain⟨rr,dZ⟩:∃rr,DC o=rr:=⟨_,rfl⟩
 obtain⟨HH,gQ⟩:∃HH,iC toks LR o=HH:=⟨_,rfl⟩
 rw[dZ,gQ];obtain⟨M,mY⟩:∃M:Int,((toks.length:Nat):Int)=M:=⟨_,rfl⟩
 refine nQ Tryz.func151 rfl kR (fun _=>0) (fun _=>[]) (fun _ _=>0) kR rfl fun t0 P G E hc hM hE=>?_
 have fO:=gX hE;have fG:=wM hE;have hz:=h.z;obtain⟨L9,ie⟩:∃k,l.length=k:=⟨_,rfl⟩
 have ph:L9<=1000000:=EF
 cbv;refine GY h ho (fun a h ho hs hb hk=>?_) (fun ho hk=>?_)<;>(refine .z [0] (hM _ _ _ _ _ hk) rfl rfl rfl ?_;cbv)
 case' refine_1=>exact rW
 refine xE (bo ho (aI (WR (nR _) (oT rfl)) gF)) fun m1 r=>?_
 have ho:=r.2;have nZ:=r.1;clear r;refine xE (⟨_,fun _=>rfl⟩:∃μ:Int×Ts×Nat×List PT×List (List PV)×Nat->Nat,∀x,μ x=x.2.1.length) fun μ hμ=>?_
 refine iO.wk (BZ (d:=5) 5 25 rfl) ?_;refine gU 27 [0,1,4,5] 2 (fun x:Int×Ts×Nat×List PT×List (List PV)×Nat=>[.own 0 0,.p (pS (bL e)),.p (.v (.slice none 0 0)),.osl 1 0 x.2.2.2.2.2]) (fun x=>[some (.box [.p (.ro 3 LR),.p (pI x.1),.p (pB false)] 46 (some t0)),some (.rows 5 x.2.2.2.2.1 25)])
  (fun x=>bE n toks LR x.1 x.2.1/\aW (bN x.2.2.1) (BF e x.2.2.2.1) x.2.1 false o/\cG (.listL e x.2.2.2.1) x.2.1 false<=x.2.2.1/\x.2.2.2.2.2+x.2.1.length<=L9/\gR x.2.2.2.1=x.2.2.2.2.1/\x.2.2.2.2.1.length=x.2.2.2.2.2) μ (_,_,m1,[],[],0) r5 ⟨h,ho,nZ,tL,by rw[gR],rfl⟩ ?_
 rintro⟨a1,l1,m1,acc,R,N⟩ ⟨h,ho,gF,qI,g4,g5⟩
 simp only at h ho gF qI g4 g5;replace ih:∀s' l' b',cG s' l' b'<cG (.listL e acc) l1 false->gK n toks LR s' l' b':=fun s' l' b' hh=>ih s' l' b' (aI hh (nw (by(try simp only[tI]);omega) (oT rfl) (oT rfl)))
 have gz:N<=2000000:=dU
 have hlen:acc.length=N:=ZQ
 obtain⟨N2,fT⟩:∃N2,N+1=N2:=⟨_,rfl⟩
 have fB5:=fO.pre N R g5;have fB6:E.sub R 0 N=R:=JO
 exact rW
theorem Wu{b:Bool}(ih:∀s' l' b',cG s' l' b'<cG .cond l false->gK n toks LR s' l' b'):gK n toks LR .cond l false:=by
 intro _ m hm f hf a h o ho
 cases hf
 obtain⟨m,rfl⟩:∃k,m=k+1:=⟨m-1,by omega⟩
 have gF:cG .cond l false<=m:=aO hm;clear hm;rw[rL]at ho;obtain⟨l0,mW⟩:∃k,l=k:=⟨_,rfl⟩
 obtain⟨R0,gZ⟩:∃k,rμ l false=k:=⟨_,rfl⟩
 replace ho:aW (bN m) Et l false o:=⟨ho⟩;show VM 76 (.own 0 0::[]) [cZ LR a false] (lD o) (iC toks LR o);obtain⟨rr,dZ⟩:∃rr,lD o=rr:=⟨_,rfl⟩
 obtain⟨HH,gQ⟩:∃HH,iC toks LR o=HH:=⟨_,rfl⟩
 rw[dZ,gQ];obtain⟨M,mY⟩:∃M:Int,((toks.length:Nat):Int)=M:=⟨_,rfl⟩
 have ic:=trivial;refine nQ Tryz.func76 rfl kR (fun n=>match n with|6=>5|_=>0) (fun n=>match n with|6=>[3]|_=>[]) (fun n i=>match n,i with|4,0=>2|6,3=>1|6,4=>1|_,_=>0) kR rfl fun t0 P G E hc hM hE=>?_
 exact zu
theorem Y1{b:Bool}(ih:∀s' l' b',cG s' l' b'<cG .tryR l false->gK n toks LR s' l' b'):gK n toks LR .tryR l false:=by
 intro _ m hm f hf a h o ho
 cases hf
 obtain⟨m,rfl⟩:∃k,m=k+1:=⟨m-1,by omega⟩
 have gF:cG .tryR l false<=m:=aO hm;clear hm;rw[rL]at ho;obtain⟨l0,mW⟩:∃k,l=k:=⟨_,rfl⟩
 obtain⟨R0,gZ⟩:∃k,rμ l false=k:=⟨_,rfl⟩
 replace ho:aW (bN m) vo l false o:=⟨ho⟩;show VM 78 (.own 0 0::[]) [cZ LR a false] (lD o) (iC toks LR o);obtain⟨rr,dZ⟩:∃rr,lD o=rr:=⟨_,rfl⟩
 obtain⟨HH,gQ⟩:∃HH,iC toks LR o=HH:=⟨_,rfl⟩
 rw[dZ,gQ];obtain⟨M,mY⟩:∃M:Int,((toks.length:Nat):Int)=M:=⟨_,rfl⟩
 have ic:=trivial;refine nQ Tryz.func78 rfl kR (fun n=>match n with|7=>5|10=>5|_=>0) (fun n=>match n with|7=>[3]|10=>[3]|8=>[0]|_=>[]) (fun n i=>match n,i with|7,3=>1|7,4=>1|10,3=>1|10,4=>1|_,_=>0) kR rfl fun t0 P G E hc hM hE=>?_
 exact zu
theorem Yl{b:Bool}(ih:∀s' l' b',cG s' l' b'<cG .field l false->gK n toks LR s' l' b'):gK n toks LR .field l false:=by
 intro _ m hm f hf a h o ho
 cases hf
 obtain⟨m,rfl⟩:∃k,m=k+1:=⟨m-1,by omega⟩
 have gF:cG .field l false<=m:=aO hm;clear hm;rw[rL]at ho;obtain⟨l0,mW⟩:∃k,l=k:=⟨_,rfl⟩
 obtain⟨R0,gZ⟩:∃k,rμ l false=k:=⟨_,rfl⟩
 replace ho:aW (bN m) VN l false o:=⟨ho⟩;show VM 173 (.own 0 0::[]) [cZ LR a false] (lD o) (iC toks LR o);obtain⟨rr,dZ⟩:∃rr,lD o=rr:=⟨_,rfl⟩
 obtain⟨HH,gQ⟩:∃HH,iC toks LR o=HH:=⟨_,rfl⟩
 rw[dZ,gQ];obtain⟨M,mY⟩:∃M:Int,((toks.length:Nat):Int)=M:=⟨_,rfl⟩
 refine nQ Tryz.func173 rfl kR (fun n=>match n with|5=>3|6=>9|9=>11|16=>5|_=>0) (fun n=>match n with|5=>[2]|16=>[3]|_=>[]) (fun n i=>match n,i with|5,2=>1|16,3=>1|16,4=>1|_,_=>0) kR rfl fun t0 P G E hc hM hE=>?_
 exact Rz
end
end Go.Proofs.YtjkcdcloomkooaaGreatDoor
