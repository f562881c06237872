/- Own work: walks and laws of the parser and its reference. -/
import Derived.Test.YtjkcdcloomkooaaGreatDoorQXU
import Derived.Test.YtjkcdcloomkooaaGreatDoorQXRWA
import Derived.Test.YtjkcdcloomkooaaGreatDoorQXN
import Derived.Test.YtjkcdcloomkooaaGreatDoorRows
import Derived.PinnedBridge
import Derived.Lib.LaidU8T
import Derived.Lib.LaidTab
import Derived.ProofKit
import Derived.Lay
import Derived.LaidMore
import Derived.LaidOnce
import Derived.SevenTiedAt
import Derived.Carry
import Derived.Handed
import Derived.Test.YtjkcdcloomkooaaGreatDoorCards
import Derived.Test.YtjkcdcloomkooaaGreatDoorTie
import Derived.ChangeMaps5
set_option linter.unusedVariables false
set_option linter.unusedSimpArgs false
set_option linter.unusedSectionVars false
set_option maxHeartbeats 4000000
set_option maxRecDepth 100000
namespace Go.Proofs.YtjkcdcloomkooaaGreatDoor
open Go.RowKit
def sv(x:PT)(at_ e:Int):PV:=.tup [.agg (pA x),pI at_,pI e]
abbrev MS:PV:=.agg [pI 0,pS ⟨#[]⟩,pI 0,pI 0,.v (.slice none 0 0)]
theorem WU(at_ e:Int):sv tK at_ e=.tup [MS,pI at_,pI e]:=by unfold sv tK;rw[pA,rV,aE aT];rfl
section
variable{s:ByteArray}{q:Bool}
theorem xe6{at_ e:Int}(hL:V0 14 [pS s] (.tup [.v (.slice none 0 0),pI at_,pI e]))(he:e≠0):V0 7 [pS s,pB q] (sv tK at_ e):=by
 rw[WU];have d0:decide (e=0)=false:=dF he;refine dE aN dO mixed (fun _=>0) Tryz.func7 rfl kR kR rfl fun P G E hc hE=>?_
 replace hL:=hc _ _ _ hL;clear hc hE;cbv
 repeat (first|(refine⟨_,hL,?_⟩;cbv)|(simp only[d0];try cbv))
theorem xaq{LR:List (List PV)}{op:Int}(hL:V0 14 [pS s] (.tup [.ro 3 LR,pI 0,pI 0]))(hO:V0 15 [.ro 3 LR] (pI op))(ho:128<op):V0 7 [pS s,pB q] (sv tK 0 5):=by
 rw[WU];refine dE aN dO mixed (fun _=>0) Tryz.func7 rfl kR kR rfl fun P G E hc hE=>?_
 replace hL:=hc _ _ _ hL;replace hO:=hc _ _ _ hO;have d0:E.lti 128 op=true:=by rw[hE];exact aA ho
 clear hc hE;cbv
 repeat (first|(refine⟨_,hL,?_⟩;cbv)|(refine⟨_,hO,?_⟩;cbv)|(simp only[d0];try cbv))
structure PsF(E:SO)(LR:List (List PV))(a1 M dp op:Int)(b1 bm br bd:Bool):Prop where
 l0:E.ofN LR.length=M
 o:E.lti 128 op=false
 m:E.lti a1 M=bm
 d:E.lti 512 dp=bd
theorem OM{LR:List (List PV)}{op a1 M dp k i o:Int}{nm:ByteArray}{KK:PV}{b1 bm br bd:Bool}{rt:PV}(hL:V0 14 [pS s] (.tup [.ro 3 LR,pI 0,pI 0]))(hO:V0 15 [.ro 3 LR] (pI op))(ok:yM (.p KK)=true)
  (hA:VM 16 [.own 0 0] [cZ LR 0 false] (.p (.agg [pI k,pS nm,pI i,pI o,KK])) [cZ LR a1 b1])
  (hR:b1=false->bm=false->V0 19 [.agg [pI 42,pS ⟨#[]⟩,pI 0,pI 0,.ro 5 [[pI 26,pS ⟨#[]⟩,pI 0,pI 0,.ro 5 [[pI k,pS nm,pI i,pI o,KK]]]]]] (pB br)) (hD:b1=false->bm=false->br=true->V0 20 [.agg [pI k,pS nm,pI i,pI o,KK]] (pI dp))
  (hF:∀E:SO,E=bK->PsF E LR a1 M dp op b1 bm br bd)
  (h4:(b1=true\/bm=true\/br=false)->.tup [MS,pI 0,pI 4]=rt) (h5:b1=false->bm=false->br=true->bd=true->.tup [MS,pI 0,pI 5]=rt) (h0:b1=false->bm=false->br=true->bd=false->.tup [.agg [pI k,pS nm,pI i,pI o,KK],pI 0,pI 0]=rt):V0 7 [pS s,pB true] rt:=by
 cases b1 with
 |true=>
  have e0:=h4 (.inl rfl);subst e0;refine ir aN dO mixed (fun _=>0) Tryz.func7 rfl kR kR rfl fun P G E hc hM hE=>?_
  obtain⟨l0,ho,hm,hd⟩:=hF E hE;replace hL:=hc _ _ _ hL;replace hO:=hc _ _ _ hO;replace hA:=hM _ _ _ _ _ hA;have fO:=gX hE;clear hc hE hF h4 h5 h0;cbv;cbv at l0;cbv at ok
  repeat (first|(refine⟨_,hL,?_⟩;cbv)|(refine⟨_,hO,?_⟩;cbv)|(simp only[ho];cbv)|(refine .z [1] hA rfl rfl rfl ?_;cbv)|(simp only[ok];cbv)|(refine .inr (.z [4] (hM _ _ _ _ _ (xY 26 rfl (aD rfl))) rfl rfl rfl ?_);cbv)|(refine .inr (.z [5] (hM _ _ _ _ _ (xY 42 rfl (aD rfl))) rfl rfl rfl ?_);cbv)|(simp only[l0];cbv)|(simp only[hm];cbv)|(refine⟨_,hR,?_⟩;cbv)|(refine⟨_,hD,?_⟩;cbv)|(simp only[hd];cbv))
  all_goals trivial
 |false=>
  cases bm with
  |true=>
   have e0:=h4 (.inr (.inl rfl));subst e0;refine ir aN dO mixed (fun _=>0) Tryz.func7 rfl kR kR rfl fun P G E hc hM hE=>?_
   obtain⟨l0,ho,hm,hd⟩:=hF E hE;replace hL:=hc _ _ _ hL;replace hO:=hc _ _ _ hO;replace hA:=hM _ _ _ _ _ hA;have fO:=gX hE;clear hc hE hF h4 h5 h0;cbv;cbv at l0;cbv at ok
   repeat (first|(refine⟨_,hL,?_⟩;cbv)|(refine⟨_,hO,?_⟩;cbv)|(simp only[ho];cbv)|(refine .z [1] hA rfl rfl rfl ?_;cbv)|(simp only[ok];cbv)|(refine .inr (.z [4] (hM _ _ _ _ _ (xY 26 rfl (aD rfl))) rfl rfl rfl ?_);cbv)|(refine .inr (.z [5] (hM _ _ _ _ _ (xY 42 rfl (aD rfl))) rfl rfl rfl ?_);cbv)|(simp only[l0];cbv)|(simp only[hm];cbv)|(refine⟨_,hR,?_⟩;cbv)|(refine⟨_,hD,?_⟩;cbv)|(simp only[hd];cbv))
   all_goals trivial
  |false=>
   cases br with
   |false=>
    have e0:=h4 (.inr (.inr rfl));subst e0;refine ir aN dO mixed (fun _=>0) Tryz.func7 rfl kR kR rfl fun P G E hc hM hE=>?_
    obtain⟨l0,ho,hm,hd⟩:=hF E hE;replace hL:=hc _ _ _ hL;replace hO:=hc _ _ _ hO;replace hA:=hM _ _ _ _ _ hA;replace hR:=hc _ _ _ (hR rfl rfl);have fO:=gX hE;clear hc hE hF h4 h5 h0;cbv;cbv at l0;cbv at ok
    repeat (first|(refine⟨_,hL,?_⟩;cbv)|(refine⟨_,hO,?_⟩;cbv)|(simp only[ho];cbv)|(refine .z [1] hA rfl rfl rfl ?_;cbv)|(simp only[ok];cbv)|(refine .inr (.z [4] (hM _ _ _ _ _ (xY 26 rfl (aD rfl))) rfl rfl rfl ?_);cbv)|(refine .inr (.z [5] (hM _ _ _ _ _ (xY 42 rfl (aD rfl))) rfl rfl rfl ?_);cbv)|(simp only[l0];cbv)|(simp only[hm];cbv)|(refine⟨_,hR,?_⟩;cbv)|(refine⟨_,hD,?_⟩;cbv)|(simp only[hd];cbv))
    all_goals trivial
   |true=>
    cases bd with
    |true=>
     have e0:=h5 rfl rfl rfl rfl;subst e0;refine ir aN dO mixed (fun _=>0) Tryz.func7 rfl kR kR rfl fun P G E hc hM hE=>?_
     obtain⟨l0,ho,hm,hd⟩:=hF E hE;replace hL:=hc _ _ _ hL;replace hO:=hc _ _ _ hO;replace hA:=hM _ _ _ _ _ hA;replace hR:=hc _ _ _ (hR rfl rfl);replace hD:=hc _ _ _ (hD rfl rfl rfl);have fO:=gX hE;clear hc hE hF h4 h5 h0;cbv;cbv at l0;cbv at ok
     repeat (first|(refine⟨_,hL,?_⟩;cbv)|(refine⟨_,hO,?_⟩;cbv)|(simp only[ho];cbv)|(refine .z [1] hA rfl rfl rfl ?_;cbv)|(simp only[ok];cbv)|(refine .inr (.z [4] (hM _ _ _ _ _ (xY 26 rfl (aD rfl))) rfl rfl rfl ?_);cbv)|(refine .inr (.z [5] (hM _ _ _ _ _ (xY 42 rfl (aD rfl))) rfl rfl rfl ?_);cbv)|(simp only[l0];cbv)|(simp only[hm];cbv)|(refine⟨_,hR,?_⟩;cbv)|(refine⟨_,hD,?_⟩;cbv)|(simp only[hd];cbv))
     all_goals trivial
    |false=>
     have e0:=h0 rfl rfl rfl rfl;subst e0;refine ir aN dO mixed (fun _=>0) Tryz.func7 rfl kR kR rfl fun P G E hc hM hE=>?_
     obtain⟨l0,ho,hm,hd⟩:=hF E hE;replace hL:=hc _ _ _ hL;replace hO:=hc _ _ _ hO;replace hA:=hM _ _ _ _ _ hA;replace hR:=hc _ _ _ (hR rfl rfl);replace hD:=hc _ _ _ (hD rfl rfl rfl);have fO:=gX hE;clear hc hE hF h4 h5 h0;cbv;cbv at l0;cbv at ok
     repeat (first|(refine⟨_,hL,?_⟩;cbv)|(refine⟨_,hO,?_⟩;cbv)|(simp only[ho];cbv)|(refine .z [1] hA rfl rfl rfl ?_;cbv)|(simp only[ok];cbv)|(refine .inr (.z [4] (hM _ _ _ _ _ (xY 26 rfl (aD rfl))) rfl rfl rfl ?_);cbv)|(refine .inr (.z [5] (hM _ _ _ _ _ (xY 42 rfl (aD rfl))) rfl rfl rfl ?_);cbv)|(simp only[l0];cbv)|(simp only[hm];cbv)|(refine⟨_,hR,?_⟩;cbv)|(refine⟨_,hD,?_⟩;cbv)|(simp only[hd];cbv))
     all_goals trivial
end
theorem z56{s:ByteArray}(hs:s.size<=60000)(q:Bool):(∃at_ e,(∀cl,im cl s=tH tK at_ e)/\V0 7 [pS s,pB q] (sv tK at_ e))\/∃ts op,mO s.data.toList=(ts,none)/\uO 0 ts=false/\V0 14 [pS s] (.tup [.ro 3 (lF (s.size:Nat) ts),pI 0,pI 0])/\V0 15 [.ro 3 (lF (s.size:Nat) ts)] (pI op)/\op<=128:=by
 have hL:=z59 s oM
 cases h:mO s.data.toList with
 |mk ts e=>
  cases e with
  |some p=>
   obtain⟨m,e⟩:=p;rw[WQ h]at hL;have he:=LI _ _ m e (by rw[show qW uB gD (s.data.toList.length+1) s.data.toList=_ from h])
   exact .inl ⟨_,_,fun cl=>by unfold im;rw[h],xe6 hL he⟩
  |none=>
   rw[HM h]at hL;have hc:=C6 h;have hz:s.data.toList.length<=60000:=by show s.size<=60000;omega
   have hO:=z6y (s.size:Nat) ts oM
   have hq:=XS ts 0 0 aT
   cases zF:uO 0 ts with
   |true=>
    rw[zF]at hq;have VE:=oT hq;exact .inl ⟨0,5,fun cl=>by unfold im;rw[h];simp only[zF,fE],xaq hL hO oM⟩
   |false=>
    rw[zF]at hq;have VE:=fV hq;exact .inr ⟨ts,_,rfl,zF,hL,hO,by omega⟩
theorem xet{x:PT}:bJ jC (nd 42 [nd 26 [x]])=bJ jC x:=JP
theorem OB{x:PT}(h:vB x):vB (nd 42 [nd 26 [x]]):=by
 simp only[nd,vB,ab,and_true];exact⟨fun e=>absurd e aT,(by decide:1<=2000000),fun e=>absurd e aT,(by decide:1<=2000000),h⟩
theorem xe7{x:PT}{k i o:Int}{nm:ByteArray}{K:PV}(hv:fI x k i o nm K):pA (nd 42 [nd 26 [x]])=[pI 42,pS ⟨#[]⟩,pI 0,pI 0,.ro 5 [[pI 26,pS ⟨#[]⟩,pI 0,pI 0,.ro 5 [[pI k,pS nm,pI i,pI o,K]]]]]:=by
 simp only[nd,pA,rV,gR,hv.row];rfl
theorem z1d{s:ByteArray}(hs:s.size<=60000):∃x at_ e,jO x/\im j5 s=tH x at_ e/\V0 7 [pS s,pB true] (sv x at_ e):=by
 have Ag:jO tK:=by unfold tK;rw[jO,tF];exact⟨aP _,trivial⟩
 rcases z56 hs true with⟨a,e,h1,h2⟩|⟨ts,op,h,zF,hL,hO,VE⟩
 ·exact⟨_,_,_,Ag,h1 _,h2⟩
 have w:=xd8 h;have mQ:=Kj (n:=(s.size:Nat)) h (by show s.size<=60000;omega)
 obtain⟨LR,tB⟩:∃LR,lF (s.size:Nat) ts=LR:=⟨_,rfl⟩
 rw[tB]at hL hO mQ;obtain⟨l,hl⟩:∃l,ts.map er=l:=⟨_,rfl⟩
 rw[hl]at w mQ;have key:∀m,cG .assign l false<m->∀v l' b,bN m .assign l false=(v,l',b)->VM 16 [.own 0 0] [cZ LR 0 false] (.p (.agg (pA v.n))) [cZ LR (((l.length:Nat):Int)-((l'.length:Nat):Int)) b]:=fun m hm v l' b hr=>Lm m .assign l false hm rfl m hm _ rfl 0 mQ _ hr
 have hle:=mQ.z;have W2:LR.length=l.length:=by
  rw[<-tB,<- hl,vh,tc]
 have vH:qF l.length (3*l.length) .assign:=⟨by omega,nR _⟩
 have fin:∀{rt:PV}{m:Nat}{v:RV}{l':Ts}{b:Bool},cG .assign l false<m->bN m .assign l false=(v,l',b)->((b=true\/l'≠[]\/bJ jC v.n=false)->.tup [MS,pI 0,pI 4]=rt)->(b=false->l'=[]->bJ jC v.n=true->512<jN v.n->.tup [MS,pI 0,pI 5]=rt)->(b=false->l'=[]->bJ jC v.n=true->jN v.n<=512->sv v.n 0 0=rt)->V0 7 [pS s,pB true] rt:=fun{rt m v l' b} hm hr h4 h5 h0=>by
  have hA:=key m hm v l' b hr;have SR:=(nC m .assign l false).s;rw[hr]at SR;have uW:=SR.length_le;obtain⟨k,i,o,nm,KK,hv⟩:=NG v.n;rw[hv.row]at hA;have hI:b=false->vB v.n/\jN v.n<=4000000:=fun hb=>by
   subst hb
   have:=Bm m .assign l v l' _ hr w vH
   cases v with
   |ls q=>cases this.1
   |nd x=>
    obtain⟨_,h1,h2⟩:=this;exact⟨h1,by show jN x<=4000000;omega⟩
  have hlen:decide ((((l.length:Nat):Int)-((l'.length:Nat):Int))<((l.length:Nat):Int))=false ↔ l'=[]:=by
   rw[lL]
   constructor
   ·intro h;exact uM.1 oM
   ·intro h;subst h;simp
  refine OM (M:=((l.length:Nat):Int)) (dp:=((jN v.n:Nat):Int)) (br:=bJ jC v.n) hL hO hv.one hA (fun hb _=>?_) (fun hb _ _=>?_) (fun E hE=>⟨by subst hE;exact aG Int.ofNat W2,by subst hE;exact dF oM,by subst hE;rfl,by subst hE;rfl⟩) (fun hh=>h4 ?_) (fun hb hm mV hd=>h5 hb (hlen.1 hm) mV (by have:=oT hd;omega)) (fun hb hm mV hd=>?_)
  ·have:=xan _ (OB (hI hb).1)
   rw[xe7 hv,xet]at this;exact this
  ·have:=xhh _ (hI hb).1 (hI hb).2
   rwa[hv.row]at this
  ·rcases hh with hh|hh|hh
   ·exact .inl hh
   ·refine .inr (.inl fun e=>?_)
    rw[hlen.2 e]at hh
    cases hh
   ·exact .inr (.inr hh)
  ·have:=h0 hb (hlen.1 hm) mV (by have:=fV hd;omega)
   unfold sv at this;rw[hv.row]at this;exact this
 have hP:im j5 s=(match j5 l with
  |none=>tH tK 0 4
  |some (x,m)=>if m≠0 then tH tK 0 4 else if 512<jN x then tH tK 0 5 else tH x 0 0):=by
  unfold im;rw[h];simp only[zF,hl];rfl
 have bad:∀{m:Nat},cG .assign l false<m->(∀v,bN m .assign l false=(v,[],false)->bJ jC v.n=false)->V0 7 [pS s,pB true] (sv tK 0 4):=fun{m} hm hn=>by
  obtain⟨⟨v,l',b⟩,hr⟩:∃o,bN m .assign l false=o:=⟨_,rfl⟩
  rw[WU];refine fin hm hr (fun _=>rfl) (fun hb nM mV _=>?_) (fun hb nM mV _=>?_)
  all_goals
   subst hb nM;rw[hn v hr]at mV
   cases mV
 cases he:ev (.assign jC l)with
 |none=>
  exact Sz
 |some o=>
  cases o with
  |none=>
   exact Sz
  |some z=>
   obtain⟨v,l'⟩:=z;have pH:=yl (.assign jC l);rw[he]at pH;obtain⟨o,ho,hp⟩:=pH
   cases ho
   have h1:=(hp _ _ rfl).1
   cases v with
   |nb x b=>cases h1
   |ls x=>cases h1
   |nd x=>
    obtain⟨pK,m0,xh⟩:=xc6 w he;have ly:j5 l=some (x,l'.length):=by unfold j5;rw[he]
    have hr:=xh (max m0 (cG .assign l false+1)) oM
    have jf:cG .assign l false<max m0 (cG .assign l false+1):=dU
    by_cases nM:l'=[]
    ·subst nM;have hwx:jO x:=by
      have:=Bm _ .assign l _ [] _ hr w vH
      exact this.2.1.wid
     by_cases hd:512<jN x
     ·refine⟨tK,0,5,Ag,by rw[hP,ly];simp[hd],?_⟩
      rw[WU];refine fin jf hr (fun hh=>?_) (fun _ _ _ _=>rfl) (fun _ _ _ h2=>absurd hd (by show ¬512<jN x;exact Nat.not_lt.2 h2))
      exact Tb
     ·refine⟨x,0,0,hwx,by rw[hP,ly];simp[hd],?_⟩
      refine fin jf hr (fun hh=>?_) (fun _ _ _ h2=>absurd h2 hd) (fun _ _ _ _=>rfl)
      exact Tb
    ·have jU:l'.length≠0:=fun e=>nM (uM.1 e)
     refine⟨tK,0,4,Ag,by rw[hP,ly];simp[jU],bad jf fun v mV=>?_⟩
     rw[hr]at mV
     cases mV
     exact absurd rfl nM
theorem zir(s:ByteArray):RL 4 [pS s] (pB true):=by
 obtain⟨n,hn⟩:∃n:Int,((s.size:Nat):Int)=n:=⟨_,rfl⟩
 rcases(show 800<n\/¬800<n by omega)with h|h
 ·refine ir aN kH mixed (fun _=>0) Tryz.func4 rfl kR kR rfl fun P G E hc hM hE=>?_
  have h1:=hc _ _ _ L7;have z1:E.size s=n:=iS
  have d1:E.lti 800 n=true:=by rw[hE];exact aA h
  clear hE hc hM hn h;cbv
  repeat (first|(refine⟨_,h1,?_⟩;cbv)|(simp only[z1];try cbv)|(simp only[d1];try cbv))
 ·have hp:=z8s s oM
  obtain⟨x,a,e,hw,hP,hR⟩:=z1d (s:=s) oM
  have EY:=sD (xam x x hw hw);rw[Md]at EY;replace hR:=sD hR;rw[hP]at hp;unfold tH at hp;unfold sv at hR;obtain⟨k,i,q,nm,K,hv⟩:=BP x;obtain⟨k2,i2,q2,nm2,K2,nK⟩:=NG x;rw[hv.row]at hp EY;rw[nK.row]at hR EY;have ok:=hv.one;have ok2:=nK.one;refine ir aN kH mixed (fun _=>0) Tryz.func4 rfl kR kR rfl fun P G E hc hM hE=>?_
  have h1:=hc _ _ _ L7;have z1:E.size s=n:=iS
  have d1:E.lti 800 n=false:=by rw[hE];exact dF h
  replace hp:=hc _ _ _ hp;replace hR:=hc _ _ _ hR;replace EY:=hc _ _ _ EY;have da:decide (a=a)=true:=aA rfl;have de:decide (e=e)=true:=aA rfl;clear hE hc hM hn h hP hw hv nK;cbv;cbv at ok;cbv at ok2
  repeat (first|(refine⟨_,h1,?_⟩;cbv)|(simp only[z1];try cbv)|(simp only[d1];try cbv)|(refine⟨_,hp,?_⟩;cbv)|(simp only[ok];try cbv)|(refine⟨_,hR,?_⟩;cbv)|(simp only[ok2];try cbv)|(simp only[de];try cbv)|(simp only[da];try cbv)|(refine⟨_,EY,?_⟩;cbv))
open Go.ChangeShapes
open Go.WideShapes
open Go.ChangeAt
open Go.Lib
open Go.Shelf
theorem own:ownKnob Tryz.prog.godebug=none:=cI
theorem xU:U8Extra Tryz.prog Tryz.laysValid_ren:=⟨kR,kR,kR,kR,kR,kR,kR⟩
theorem z43:(Rows.laid_unicode_utf8_acceptRanges:DataW Unit)=acceptData:=cI
def BD:List (String×DataW Unit):=Rows.parserExpressionsRow.laid
theorem Nk{W:World}{name nm:String}{d:DataW Unit}{g:Nat}{t:TypeId}{ms:Array (String×TypeId)}(hg:Tryz.prog.globalNamed name=some g)(hty:(Tryz.prog.globals[g]?).map (·.type)=some t)(hu:Tryz.prog.underlying t=some (.interface ms))
  (h:VarReads Tryz.prog W name (.iface nm d)):E6 W name:=by
 obtain⟨g',t',cs,fuel,p,xp,Ij,wu,hd⟩:=h;obtain rfl:=bA (hg.symm.trans xp);obtain rfl:=bA (hty.symm.trans Ij)
 cases fuel with
 |zero=>simp[DataW.trod]at hd
 |succ n=>
  rw[DataW.trod_step]at hd;have dB:cs=cs.toList.toArray:=jT
  match hl:cs.toList,hd with
  |[],hd=>simp[DataW.trodStep,hu]at hd
  |[v],hd=>
   cases v<;>simp[DataW.trodStep,hu]at hd
   rename_i tp v;rw[dB,hl]at wu;exact⟨tp,v,wu⟩
  |_::_::_,hd=>simp[DataW.trodStep,hu]at hd
theorem zrj{H:Type}{enc:TypeId×Value->H}{a:Assume}{C:Checked}{os:Os}{f:FuncId}{fn:Func}{s:ChangeSpec}{conds:List PathCond}{apart fresh jo again:Bool}{X:World->Array Value->Prop}
  (hX:∀(w w':World)(args:Array Value),w.heap=w'.heap->X w args->X w' args) (own:ownKnob C.prog.godebug=none) (started:os.Started) (noInit:C.prog.inits.idxOf? f=none) (u0:C.prog.funcs[f]?=some fn)
  (wit:∃(w:World)(tape:Tape)(i:Input),w.os=os/\(w.forCall tape i).Shaped C.prog/\i.vars=[]/\Input.okWide C.prog (w.forCall tape i) .any w.heap.size f i ∧
   ((s.pre enc C.prog fn conds apart (w.forCall tape i).memory i.args/\X (w.forCall tape i).memory i.args)/\sizedMet enc C.prog fn (OpenSpec.ofChange s) apart (w.forCall tape i).memory i.args)/\a.holds C.prog (lone (Frame.enter C.prog f i.args .normal) [] (w.forCall tape i)))
  (walk:∀(W:World)(base:Nat)(args:Array Value)(ds gs:List (DataW H))(before:List MemPlace),(∀(j:Nat) t v,fn.params[j]?=some t->args[j]?=some v->Value.okWide C.prog W .any base t v) →
   DataW.Whole enc C.prog fn.params.toList s.vars apart W args.toList ds gs before->X W args->W.ShapedOpen C.prog →
   Calls C.prog f args W fun e W'=>∃v,e=.returned v/\s.post enc C.prog fn apart fresh jo again W args v W'):
  ReturnsInHanded a C os f .any (fun w args=>(s.pre enc C.prog fn conds apart w args/\X w args)/\sizedMet enc C.prog fn (OpenSpec.ofChange s) apart w args) (s.post enc C.prog fn apart fresh jo again):=by
 refine returnsInHanded_of_calls own started noInit wit fun w tape i _ pH _ cU qH _=>?_
 obtain⟨_,_,_,fn',Ja,_,_,_,_,uU⟩:=cU
 cases bA (Ja.symm.trans u0)
 obtain⟨⟨⟨ds,gs,before,hw,_⟩,hx⟩,_⟩:=qH;refine(walk _ w.heap.size i.args ds gs before uU (DataW.Whole.of_heap (w':=w.forCall tape i) (by rfl) hw) (hX _ _ _ (by rfl) hx) pH).mono ?_
 rintro e W' ⟨v,rfl,hp⟩
 exact ChangeSpec.post_blind hp
theorem PX{W:World}(hL:laidMetH Tryz.prog BD W)(hS:W.ShapedOpen Tryz.prog):GL W:=by
 rw[MakeChecks.laidMetH_plain _ _ _ kR]at hL
 refine⟨?_,?_,?_,Tryz.laysM143.s1_3 W hS⟩
 ·exact utf8Tabs_of_readsT (U8Types.of196 Tryz.laysValid) xU (Pinned.utf8First_eq ▸ Lib.laidMet.reads hL (.tail _ (.tail _ (.tail _ (.tail _ (.tail _ (.tail _ (.head _)))))))) (z43 ▸ Lib.laidMet.reads hL (.tail _ (.tail _ (.tail _ (.head _)))))
 ·exact Nk (g:=3) (t:=111) kR kR Tryz.underlying111 (Lib.laidMet.reads hL (.tail _ (.tail _ (.tail _ (.tail _ (.tail _ (.head _)))))))
 ·exact Nk (g:=4) (t:=111) kR kR Tryz.underlying111 (Lib.laidMet.reads hL (.tail _ (.tail _ (.tail _ (.tail _ (.head _))))))
theorem z3c(os:Os)(args:Array Value):laidMetH Tryz.prog BD ((World.laidAll Tryz.prog os BD).forCall (fun _ _=>0) ⟨#[],args,[]⟩).memory:=by
 rw[MakeChecks.laidMetH_plain _ _ _ kR];exact laidMet_laidAll _ kR kR
def wi(w:World)(B:Nat->Prop)(ps:List PV)(vs:List Value):Prop:=ps.length=vs.length/\∀(j:Nat)(a:PV)(v:Value),ps[j]?=some a->vs[j]?=some v->cE w B a v
theorem OS{w:World}{B:Nat->Prop}:wi w B [] []:=⟨rfl,fun j a v h=>by simp at h⟩
theorem OR{w:World}{B:Nat->Prop}{p:PV}{v:Value}{ps:List PV}{vs:List Value}(h:cE w B p v)(hr:wi w B ps vs):wi w B (p::ps) (v::vs):=by
 refine⟨by simp[hr.1],fun j a x ha hx=>?_⟩
 cases j with
 |zero=>simp at ha hx;subst ha hx;exact h
 |succ j=>exact hr.2 j a x JJ (by simpa using hx)
theorem z1k{f:FuncId}{ps:List PV}{vs:List Value}(h:RL f ps (pB true)){W:World}(hG:GL W)(hr:wi W (fun _=>True) ps vs):Calls Tryz.prog f vs.toArray W fun e W'=>e=.returned (.bool true)/\Gr W W':=
 (h.2 W (fun _=>True) vs hG hr.1 hr.2).mono fun e w' ⟨h2,v,h1,h3⟩=>⟨by cases h3;exact h1,h2⟩
open Go.ChangeMaps
theorem zg5(os:Os)(started:os.Started)(H:Type)(enc:TypeId×Value->H):
  ReturnsInHanded {} Tryz.checked os 4 .any (fun w args=>(Rows.parserExpressionsSpec.pre enc Tryz.prog Tryz.f4 [] false w args/\laidMetH Tryz.prog BD w)/\sizedMet enc Tryz.prog Tryz.f4 (OpenSpec.ofChange Rows.parserExpressionsSpec) false w args)
   (Rows.parserExpressionsSpec.post enc Tryz.prog Tryz.f4 false true false false):=by
 refine zrj (C:=Tryz.checked) (X:=fun w _=>laidMetH Tryz.prog BD w) (fun _ _ _ hh h=>h.of_heap hh) own started kR Tryz.func4
  (ChangeSpec.witness_shaped (enc:=enc) (C:=Tryz.checked) (os:=os) (X:=fun w _=>laidMetH Tryz.prog BD w) false (World.laidAll Tryz.prog os BD) #[.string ByteArray.empty] 8 (World.laidAll_os _ _ _)
   (World.shaped_of_ZipB kR kR) kR kR kR (z3c os _)) ?_
 intro W base args ds gs before SK hW hL hS;have uU:∀(j:Nat) t v,Tryz.f4.params[j]?=some t->args[j]?=some v->Value.okWide Tryz.prog W .any base t v:=SK
 have Vx:=hW;obtain⟨p,q,hA0,hV,rfl,_,_⟩:=hW;have hA:DataW.TrodAll enc Tryz.prog W 0 (fun _=>true) true Tryz.f4.params.toList args.toList ds p:=hA0
 rw[Tryz.params4]at hA uU;obtain⟨v0,d0,rfl,rfl,h0⟩:=trodAll_one hA;obtain⟨rfl,rfl⟩:=trodVars_none hV;obtain⟨x0,rfl,rfl,rfl,lx0⟩:=open_string Tryz.underlying9 (uU 0 9 v0 rfl rfl) h0;simp only[cA]at Vx;refine(z1k (zir x0) (PX hL hS) (OR (.v _) OS)).mono fun e W' ⟨he,hb⟩=>?_
 subst he;exact⟨_,rfl,_,_,_,[],_,[],Vx,trodAll_mk1 (shut_bool Tryz.underlying4 _),trodAll_mk1 (shut_string Tryz.underlying9 lx0),rfl,hb.frame _,nofun⟩
theorem zhm:Rows.ParserExpressionsSaid:=
 OpenClaim.holds_of_wide 4 Tryz.f4 rfl rfl rfl rfl rfl rfl rfl r5 rfl rfl rfl rfl rfl kR Tryz.func4 kR
  (oT kR) (by unfold Func.isWrapper;first|(rw[aF (by decide +kernel)];kernel_rfl)|(rw[aE (by decide +kernel)];exact⟨rfl,rfl⟩))
  (fun os started H enc _=>zg5 os started H enc)
theorem parserExpressions_card:Rows.ParserExpressionsCardSaid:=
 Claim7.holds_tied_plain_at .later [] [.data,.data,.data,.data,.sentinel,.sentinel,.pinned] true _ true
  zhm (fun _ h=>by cases h) kR (fun _ h=>by cases h) parserExpressions_row_tie rfl ⟨rfl,rfl⟩ kR rfl
  (fun f fn hf u0=>by
   obtain rfl:f=4:=bA ((show Tryz.prog.funcNamed Rows.parserExpressionsRow.func=some 4 by kernel_rfl).symm.trans hf) |>.symm
   obtain rfl:fn=Tryz.f4:=(bA (Tryz.func4.symm.trans u0)).symm;exact⟨kR,fun j t ht=>by
    rw[Tryz.params4]at ht;have hm:t∈[9]:=by simpa using Array.mem_of_getElem? ht
    have dX:([9].all fun u=>!Tryz.prog.wantsStandIn u)=true:=cI
    exact(show Tryz.prog.wantsStandIn t=false by simpa using aR.1 dX t hm)⟩)
  kR
#print axioms parserExpressions_card
end Go.Proofs.YtjkcdcloomkooaaGreatDoor
