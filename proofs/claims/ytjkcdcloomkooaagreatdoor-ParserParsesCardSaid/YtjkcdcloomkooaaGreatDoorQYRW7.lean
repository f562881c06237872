/- Own work: walks and laws of the parser and its reference. -/
import Derived.Test.YtjkcdcloomkooaaGreatDoorQYR
set_option linter.unusedVariables false
set_option linter.unusedSimpArgs false
set_option linter.unusedSectionVars false
set_option maxHeartbeats 16000000
set_option maxRecDepth 100000
namespace Go.Proofs.YtjkcdcloomkooaaGreatDoor
open Go.RowKit
section
variable{n:Int}{toks:List Tk}{LR:List (List PV)}{l:Ts}
theorem z7q{b:Bool}{m:Nat}(hm:dU .names l b<m){a:Int}(h:bF n toks LR a l){o:RV×Ts×Bool}(ho:bX m .names l b=o):VM 68 [.own 0 0] [dB LR a b] (SL o) (SM toks LR o):=by
 obtain⟨m,rfl⟩:∃k,m=k+1:=⟨m-1,by omega⟩
 have gL:dU .names l b<=m:=kj hm;clear hm;rw[IW]at ho;obtain⟨l0,mX⟩:∃k,l=k:=⟨_,rfl⟩
 obtain⟨R0,gU⟩:∃k,rμ l b=k:=⟨_,rfl⟩
 replace ho:bC (bX m) (.need iS (.take eQ (.ret (.ls [])) (.tail (.namesL [])))) l b o:=⟨ho⟩;obtain⟨rr,dH⟩:∃rr,SL o=rr:=⟨_,rfl⟩
 obtain⟨HH,mE⟩:∃HH,SM toks LR o=HH:=⟨_,rfl⟩
 rw[dH,mE];obtain⟨M,lU⟩:∃M:Int,((toks.length:Nat):Int)=M:=⟨_,rfl⟩
 refine nX Tryz.func68 rfl kR (fun _=>0) (fun _=>[]) (fun _ _=>0) kR rfl fun t0 P G E hc hM hE=>?_
 have fO:=iQ hE;have fG:=wU hE;obtain⟨L9,iy⟩:∃k,l.length=k:=⟨_,rfl⟩
 have qm:L9<=1000000:=f6
 have yh:rμ l b<=L9+1:=by rw[<-iy];exact ZS l b
 cbv;refine So h ho (fun l b a h ho hs hl hk=>?_)
 refine .y hM hk ?_;cbv;refine IR h ho (fun a h ho hs hb hk=>?_) (fun ho hk=>?_)<;>(refine .y hM hk ?_;cbv)
 case' refine_1=>exact rW
 refine xE (ca ho (aJ (E2 oM (oT rfl) (oT rfl)) gL)) fun m1 r=>?_
 have ho:=r.2;have oK:=r.1;clear r;refine oE (tW b) (fun hb=>?_) (fun hb=>?_)<;>subst hb
 case' refine_1=>
  refine gV 26 [0,2,3] 1 (fun _:Unit=>[.own 0 0,.p (.v (.slice none 0 0)),.p (.v (.slice none 0 0))]) (fun _=>[kv LR t0 a true]) (fun _=>True) (fun _=>0) () r5 trivial ?_
  intro _ _;replace ho:bC (bX m1) (zr []) l true o:=ho;exact rW
 refine xE (⟨_,fun _=>rfl⟩:∃μ:GA->Nat,∀x,μ x=x.2.1.length) fun μ hμ=>?_
 refine iU.wk (DL (d:=3) 5 25 rfl) ?_;refine gV 26 [0,2,3] 2 (fun x:GA=>[.own 0 0,.p (.v (.slice none 0 0)),.osl 1 0 x.2.2.2.2.2]) (fun x=>[kv LR t0 x.1 false,some (.rows 5 x.2.2.2.2.1 25)])
  (J1 n toks LR o L9 (zr) (.namesL)) μ (_,_,m1,[],[],0) r5 ⟨h,ho,oK,tL,by rw[gZ],rfl⟩ ?_
 rintro⟨a1,l1,m1,acc,R,N⟩ ⟨h,ho,gL,qU,g4,g5⟩
 simp only at h ho gL qU g4 g5;have gz:N<=2000000:=eC
 have hlen:acc.length=N:=Bv
 obtain⟨N2,fZ⟩:∃N2,N+1=N2:=⟨_,rfl⟩
 have fB5:=fO.pre N R g5;have fB6:E.sub R 0 N=R:=LU
 exact rW
theorem xhc{M m:Nat}{b:Bool}{a:Int}{o:RV×Ts×Bool}{G:Prop}(hM:M<=m)(hm:dU .names l b<M)(h:bF n toks LR a l){k:List PT->RP}(ho:bC (bX m) (RP.calls .names k) l b o)
  (A:∀l1 b1 a1,bF n toks LR a1 l1->bC (bX m) (k []) l1 b1 o->rμ l1 b1<=rμ l b->VM 68 [.own 0 0] [dB LR a b] (.p (.v (.slice none 0 0))) [dB LR a1 b1]->G)
  (B:∀acc R N N2 l1 b1 a1,bF n toks LR a1 l1->bC (bX m) (k acc) l1 b1 o->rμ l1 b1<=rμ l b->gZ acc=R->R.length=N->N<=2000000->N+1=N2->VM 68 [.own 0 0] [dB LR a b] (.osl 1 0 N) [dB LR a1 b1,some (.rows 5 R 25)]->G):G:=by
 have hg:=z7q (aJ hm hM) h rfl;have he:=nA m .names l b;have hl:=z3v m l b;have hz:l.length<=1000000:=f6
 have tG:bC (bX m) (k (bX m .names l b).1.s) (bX m .names l b).2.1 (bX m .names l b).2.2 o:=⟨ho.h⟩;obtain⟨v,hv⟩:∃v,bX m .names l b=v:=⟨_,rfl⟩
 rw[hv]at hg he hl tG;obtain⟨v,l1,b1⟩:=v;obtain⟨ks,uI⟩:∃ks,v.s=ks:=⟨_,rfl⟩
 simp only[uI]at hl tG;unfold SL SM at hg;simp only[uI]at hg
 cases ks with
 |nil=>exact A _ _ _ (h.suf he.s) tG he.μ hg
 |cons x ks=>exact B (x::ks) _ _ _ _ _ _ (h.suf he.s) tG he.μ rfl (by rw[EB];rfl) (by simp only[qQ]at *;omega) rfl hg
theorem zt3{b:Bool}(ih:∀s' l' b',dU s' l' b'<dU (.func true) l false->gQ n toks LR s' l' b'):gQ n toks LR (.func true) l false:=by
 refine uX fun _ m gL f hf a h o ho rr dH HH mE M lU l0 mX R0 gU=>?_
 cases hf
 replace ho:bC (bX m) (IG true) l false o:=ho;replace dH:uM o=rr:=dH;show VM 75 (.own 0 0::[.p (pB true)]) [dB LR a false] rr HH;exact V8
theorem zt4{b:Bool}(ih:∀s' l' b',dU s' l' b'<dU (.func false) l false->gQ n toks LR s' l' b'):gQ n toks LR (.func false) l false:=by
 refine uX fun _ m gL f hf a h o ho rr dH HH mE M lU l0 mX R0 gU=>?_
 cases hf
 replace ho:bC (bX m) (IG false) l false o:=ho;replace dH:uM o=rr:=dH;show VM 75 (.own 0 0::[.p (pB false)]) [dB LR a false] rr HH;exact V8
theorem zww{b:Bool}(ih:∀s' l' b',dU s' l' b'<dU .arrow l false->gQ n toks LR s' l' b'):gQ n toks LR .arrow l false:=by
 refine uX fun _ m gL f hf a h o ho rr dH HH mE M lU l0 mX R0 gU=>?_
 cases hf
 replace ho:bC (bX m) (.take jI (CP 5) (CP 2)) l false o:=ho;replace dH:uM o=rr:=dH;show VM 41 (.own 0 0::[]) [dB LR a false] rr HH;refine nX Tryz.func41 rfl kR (fun n=>match n with|6=>6|9=>5|10=>9|_=>0) (fun n=>match n with|6=>[3]|9=>[3]|10=>[3]|_=>[]) (fun n i=>match n,i with|6,3=>1|6,4=>1|6,5=>1|9,3=>1|9,4=>1|10,3=>1|10,4=>1|10,5=>1|10,6=>1|10,7=>1|10,8=>1|_,_=>0) kR rfl fun t0 P G E hc hM hE=>?_
 exact BK
end
end Go.Proofs.YtjkcdcloomkooaaGreatDoor
