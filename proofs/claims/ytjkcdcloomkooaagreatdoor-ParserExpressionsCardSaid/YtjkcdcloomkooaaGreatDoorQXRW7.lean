/- Own work: walks and laws of the parser and its reference. -/
import Derived.Test.YtjkcdcloomkooaaGreatDoorQXR
set_option linter.unusedVariables false
set_option linter.unusedSimpArgs false
set_option linter.unusedSectionVars false
set_option maxHeartbeats 16000000
set_option maxRecDepth 100000
namespace Go.Proofs.YtjkcdcloomkooaaGreatDoor
open Go.RowKit
section
variable{n:Int}{toks:List Tk}{LR:List (List PV)}{l:Ts}
theorem z58{b:Bool}{m:Nat}(hm:cG .names l b<m){a:Int}(h:bE n toks LR a l){o:RV×Ts×Bool}(ho:bN m .names l b=o):VM 68 [.own 0 0] [cZ LR a b] (JC o) (JD toks LR o):=by
 obtain⟨m,rfl⟩:∃k,m=k+1:=⟨m-1,by omega⟩
 have gF:cG .names l b<=m:=aO hm;clear hm;rw[rL]at ho;obtain⟨l0,mW⟩:∃k,l=k:=⟨_,rfl⟩
 obtain⟨R0,gZ⟩:∃k,rμ l b=k:=⟨_,rfl⟩
 replace ho:aW (bN m) (.need jD (.take eG (.ret (.ls [])) (.tail (.namesL [])))) l b o:=⟨ho⟩;show VM 68 (.own 0 0::[]) [cZ LR a b] (JC o) (JD toks LR o);obtain⟨rr,dZ⟩:∃rr,JC o=rr:=⟨_,rfl⟩
 obtain⟨HH,gQ⟩:∃HH,JD toks LR o=HH:=⟨_,rfl⟩
 rw[dZ,gQ];obtain⟨M,mY⟩:∃M:Int,((toks.length:Nat):Int)=M:=⟨_,rfl⟩
 refine nQ Tryz.func68 rfl kR (fun _=>0) (fun _=>[]) (fun _ _=>0) kR rfl fun t0 P G E hc hM hE=>?_
 have fO:=gX hE;have fG:=wM hE;obtain⟨L9,ie⟩:∃k,l.length=k:=⟨_,rfl⟩
 have ph:L9<=1000000:=dm
 have xc:rμ l b<=L9+1:=by rw[<-ie];exact WH l b
 cbv;refine Qd h ho (fun l b a h ho hs hl hk=>?_)
 refine .z [0] (hM _ _ _ _ _ hk) rfl rfl rfl ?_;cbv;refine GY h ho (fun a h ho hs hb hk=>?_) (fun ho hk=>?_)<;>(refine .z [0] (hM _ _ _ _ _ hk) rfl rfl rfl ?_;cbv)
 case' refine_1=>exact rW
 refine xE (bo ho (aI (Bo oM (oT rfl) (oT rfl)) gF)) fun m1 r=>?_
 have ho:=r.2;have nZ:=r.1;clear r;refine oE (tE b) (fun hb=>?_) (fun hb=>?_)<;>subst hb
 case' refine_1=>
  refine gU 26 [0,2,3] 1 (fun _:Unit=>[.own 0 0,.p (.v (.slice none 0 0)),.p (.v (.slice none 0 0))]) (fun _=>[some (.box [.p (.ro 3 LR),.p (pI a),.p (pB true)] 46 (some t0))]) (fun _=>True) (fun _=>0) () r5 trivial ?_
  intro _ _;replace ho:aW (bN m1) (BT []) l true o:=ho;exact rW
 refine xE (⟨_,fun _=>rfl⟩:∃μ:Int×Ts×Nat×List PT×List (List PV)×Nat->Nat,∀x,μ x=x.2.1.length) fun μ hμ=>?_
 refine iO.wk (BZ (d:=3) 5 25 rfl) ?_;refine gU 26 [0,2,3] 2 (fun x:Int×Ts×Nat×List PT×List (List PV)×Nat=>[.own 0 0,.p (.v (.slice none 0 0)),.osl 1 0 x.2.2.2.2.2]) (fun x=>[some (.box [.p (.ro 3 LR),.p (pI x.1),.p (pB false)] 46 (some t0)),some (.rows 5 x.2.2.2.2.1 25)])
  (fun x=>bE n toks LR x.1 x.2.1/\aW (bN x.2.2.1) (BT x.2.2.2.1) x.2.1 false o/\cG (.namesL x.2.2.2.1) x.2.1 false<=x.2.2.1/\x.2.2.2.2.2+x.2.1.length<=L9/\gR x.2.2.2.1=x.2.2.2.2.1/\x.2.2.2.2.1.length=x.2.2.2.2.2) μ (_,_,m1,[],[],0) r5 ⟨h,ho,nZ,tL,by rw[gR],rfl⟩ ?_
 rintro⟨a1,l1,m1,acc,R,N⟩ ⟨h,ho,gF,qI,g4,g5⟩
 simp only at h ho gF qI g4 g5;have gz:N<=2000000:=dU
 have hlen:acc.length=N:=ZQ
 obtain⟨N2,fT⟩:∃N2,N+1=N2:=⟨_,rfl⟩
 have fB5:=fO.pre N R g5;have fB6:E.sub R 0 N=R:=JO
 exact rW
theorem xem{M m:Nat}{b:Bool}{a:Int}{o:RV×Ts×Bool}{G:Prop}(hM:M<=m)(hm:cG .names l b<M)(h:bE n toks LR a l){k:List PT->RP}(ho:aW (bN m) (RP.calls .names k) l b o)
  (A:∀l1 b1 a1,bE n toks LR a1 l1->aW (bN m) (k []) l1 b1 o->rμ l1 b1<=rμ l b->VM 68 [.own 0 0] [cZ LR a b] (.p (.v (.slice none 0 0))) [cZ LR a1 b1]->G)
  (B:∀acc R N N2 l1 b1 a1,bE n toks LR a1 l1->aW (bN m) (k acc) l1 b1 o->rμ l1 b1<=rμ l b->gR acc=R->R.length=N->N<=2000000->N+1=N2->VM 68 [.own 0 0] [cZ LR a b] (.osl 1 0 N) [cZ LR a1 b1,some (.rows 5 R 25)]->G):G:=by
 have hg:=z58 (aI hm hM) h rfl;have he:=nC m .names l b;have hl:=z2k m l b;have hz:l.length<=1000000:=dm
 have vZ:aW (bN m) (k (bN m .names l b).1.s) (bN m .names l b).2.1 (bN m .names l b).2.2 o:=⟨ho.h⟩;obtain⟨v,hv⟩:∃v,bN m .names l b=v:=⟨_,rfl⟩
 rw[hv]at hg he hl vZ;obtain⟨v,l1,b1⟩:=v;obtain⟨ks,vG⟩:∃ks,v.s=ks:=⟨_,rfl⟩
 simp only[vG]at hl vZ;unfold JC JD at hg;simp only[vG]at hg
 cases ks with
 |nil=>exact A _ _ _ (h.suf he.s) vZ he.μ hg
 |cons x ks=>exact B (x::ks) _ _ _ _ _ _ (h.suf he.s) vZ he.μ rfl (by rw[CQ];rfl) (by simp only[qD]at *;omega) rfl hg
theorem Zz{b:Bool}(ih:∀s' l' b',cG s' l' b'<cG (.func true) l false->gK n toks LR s' l' b'):gK n toks LR (.func true) l false:=by
 intro _ m hm f hf a h o ho
 cases hf
 obtain⟨m,rfl⟩:∃k,m=k+1:=⟨m-1,by omega⟩
 have gF:cG (.func true) l false<=m:=aO hm;clear hm;rw[rL]at ho;obtain⟨l0,mW⟩:∃k,l=k:=⟨_,rfl⟩
 obtain⟨R0,gZ⟩:∃k,rμ l false=k:=⟨_,rfl⟩
 replace ho:aW (bN m) (NE true) l false o:=⟨ho⟩;show VM 75 (.own 0 0::[.p (pB true)]) [cZ LR a false] (lD o) (iC toks LR o);exact U4
theorem Zy{b:Bool}(ih:∀s' l' b',cG s' l' b'<cG (.func false) l false->gK n toks LR s' l' b'):gK n toks LR (.func false) l false:=by
 intro _ m hm f hf a h o ho
 cases hf
 obtain⟨m,rfl⟩:∃k,m=k+1:=⟨m-1,by omega⟩
 have gF:cG (.func false) l false<=m:=aO hm;clear hm;rw[rL]at ho;obtain⟨l0,mW⟩:∃k,l=k:=⟨_,rfl⟩
 obtain⟨R0,gZ⟩:∃k,rμ l false=k:=⟨_,rfl⟩
 replace ho:aW (bN m) (NE false) l false o:=⟨ho⟩;show VM 75 (.own 0 0::[.p (pB false)]) [cZ LR a false] (lD o) (iC toks LR o);exact U4
theorem Yd{b:Bool}(ih:∀s' l' b',cG s' l' b'<cG .arrow l false->gK n toks LR s' l' b'):gK n toks LR .arrow l false:=by
 intro _ m hm f hf a h o ho
 cases hf
 obtain⟨m,rfl⟩:∃k,m=k+1:=⟨m-1,by omega⟩
 have gF:cG .arrow l false<=m:=aO hm;clear hm;rw[rL]at ho;obtain⟨l0,mW⟩:∃k,l=k:=⟨_,rfl⟩
 obtain⟨R0,gZ⟩:∃k,rμ l false=k:=⟨_,rfl⟩
 replace ho:aW (bN m) (.take iW (GO 5) (GO 2)) l false o:=⟨ho⟩;show VM 41 (.own 0 0::[]) [cZ LR a false] (lD o) (iC toks LR o);obtain⟨rr,dZ⟩:∃rr,lD o=rr:=⟨_,rfl⟩
 obtain⟨HH,gQ⟩:∃HH,iC toks LR o=HH:=⟨_,rfl⟩
 rw[dZ,gQ];obtain⟨M,mY⟩:∃M:Int,((toks.length:Nat):Int)=M:=⟨_,rfl⟩
 refine nQ Tryz.func41 rfl kR (fun n=>match n with|6=>6|9=>5|10=>9|_=>0) (fun n=>match n with|6=>[3]|9=>[3]|10=>[3]|_=>[]) (fun n i=>match n,i with|6,3=>1|6,4=>1|6,5=>1|9,3=>1|9,4=>1|10,3=>1|10,4=>1|10,5=>1|10,6=>1|10,7=>1|10,8=>1|_,_=>0) kR rfl fun t0 P G E hc hM hE=>?_
 exact zu
end
end Go.Proofs.YtjkcdcloomkooaaGreatDoor
