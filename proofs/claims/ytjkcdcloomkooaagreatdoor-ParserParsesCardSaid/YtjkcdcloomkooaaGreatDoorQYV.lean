/- Own work: walks and laws of the parser and its reference. -/
import Derived.Test.YtjkcdcloomkooaaGreatDoorQYRWA
import Derived.Test.YtjkcdcloomkooaaGreatDoorQYN
import Derived.Test.YtjkcdcloomkooaaGreatDoorQYRVc
import Derived.Test.YtjkcdcloomkooaaGreatDoorRows
import Derived.PinnedBridge
import Derived.Lib.LaidU8T
import Derived.Lib.LaidTab
import Derived.ProofKit
import Derived.Lay
import Derived.LaidMore
import Derived.LaidOnce
import Derived.SevenTiedAt
import Derived.Carry
import Derived.Handed
import Derived.Test.YtjkcdcloomkooaaGreatDoorCards
import Derived.Test.YtjkcdcloomkooaaGreatDoorTie
import Derived.ChangeMaps5
set_option linter.unusedVariables false
set_option linter.unusedSimpArgs false
set_option linter.unusedSectionVars false
set_option maxHeartbeats 4000000
set_option maxRecDepth 100000
namespace Go.Proofs.YtjkcdcloomkooaaGreatDoor
open Go.RowKit
def vc(x:PT)(at_ e:Int):PV:=.tup [.agg (pY x),pI at_,pI e]
abbrev KL:PV:=.agg [pI 0,pS ⟨#[]⟩,pI 0,pI 0,.v (.slice none 0 0)]
theorem Ao(at_ e:Int):vc uY at_ e=.tup [KL,pI at_,pI e]:=by unfold vc uY;rw[pY,rV,aD aN];rfl
section
variable{s:ByteArray}{q:Bool}
theorem xhy{at_ e:Int}(hL:V0 14 [pS s] (.tup [.v (.slice none 0 0),pI at_,pI e]))(he:e≠0):V0 7 [pS s,pB q] (vc uY at_ e):=by
 rw[Ao];have d0:decide (e=0)=false:=dF he;refine eZ Tryz.func7 fun P G E hc hE=>?_
 replace hL:=hc _ _ _ hL;clear hc hE;cbv
 repeat (first|(refine⟨_,hL,?_⟩;cbv)|(simp only[d0];try cbv))
theorem xco{LR:List (List PV)}{op:Int}(hL:V0 14 [pS s] (.tup [.ro 3 LR,pI 0,pI 0]))(hO:V0 15 [.ro 3 LR] (pI op))(ho:128<op):V0 7 [pS s,pB q] (vc uY 0 5):=by
 rw[Ao];refine eZ Tryz.func7 fun P G E hc hE=>?_
 replace hL:=hc _ _ _ hL;replace hO:=hc _ _ _ hO;have d0:E.lti 128 op=true:=by rw[hE];exact aA ho
 clear hc hE;cbv
 repeat (first|(refine⟨_,hL,?_⟩;cbv)|(refine⟨_,hO,?_⟩;cbv)|(simp only[d0];try cbv))
structure PsF(E:SO)(LR:List (List PV))(a1 M dp op:Int)(b1 bm br bd:Bool):Prop where
 l0:E.ofN LR.length=M
 o:E.lti 128 op=false
 m:E.lti a1 M=bm
 d:E.lti 512 dp=bd
end
theorem zxo{s:ByteArray}(hs:s.size<=60000)(q:Bool):(∃at_ e,e≠0/\(∀cl,lg cl s=uA uY at_ e)/\V0 7 [pS s,pB q] (vc uY at_ e))\/∃ts op,lF s.data.toList=(ts,none)/\uV 0 ts=false/\V0 14 [pS s] (.tup [.ro 3 (kY (s.size:Nat) ts),pI 0,pI 0])/\V0 15 [.ro 3 (kY (s.size:Nat) ts)] (pI op)/\op<=128:=by
 have hL:=z7r s oM
 cases h:lF s.data.toList with
 |mk ts e=>
  cases e with
  |some p=>
   obtain⟨m,e⟩:=p;rw[A3 h]at hL;have he:=NX _ _ m e (by rw[show oQ uB fR (s.data.toList.length+1) s.data.toList=_ from h])
   exact .inl ⟨_,_,he,fun cl=>by unfold lg;rw[h],xhy hL he⟩
  |none=>
   rw[DI h]at hL;have hc:=El h;have hz:s.data.toList.length<=60000:=by show s.size<=60000;omega
   have hO:=z8h (s.size:Nat) ts oM
   have hq:=Am ts 0 0 aN
   cases zZ:uV 0 ts with
   |true=>
    rw[zZ]at hq;have YS:=oT hq;exact .inl ⟨0,5,by decide,fun cl=>by unfold lg;rw[h];simp only[zZ,eE],xco hL hO oM⟩
   |false=>
    rw[zZ]at hq;have YS:=gB hq;exact .inr ⟨ts,_,rfl,zZ,hL,hO,by omega⟩
section
variable{s:ByteArray}
theorem RJ{LR R:List (List PV)}{op a1 M dp:Int}{b1 bm br bd:Bool}{rt:PV}(hL:V0 14 [pS s] (.tup [.ro 3 LR,pI 0,pI 0]))(hO:V0 15 [.ro 3 LR] (pI op))
  (hA:VM 18 [.own 0 0] [dB LR 0 false] (.p (.ro 5 R)) [dB LR a1 b1])
  (hR:b1=false->bm=false->V0 19 [.agg [pI 42,pS ⟨#[]⟩,pI 0,pI 0,.ro 5 R]] (pB br)) (hD:b1=false->bm=false->br=true->V0 20 [.agg [pI 42,pS ⟨#[]⟩,pI 0,pI 0,.ro 5 R]] (pI dp))
  (hF:∀E:SO,E=bG->PsF E LR a1 M dp op b1 bm br bd)
  (h4:(b1=true\/bm=true\/br=false)->.tup [KL,pI 0,pI 4]=rt) (h5:b1=false->bm=false->br=true->bd=true->.tup [KL,pI 0,pI 5]=rt) (h0:b1=false->bm=false->br=true->bd=false->.tup [.agg [pI 42,pS ⟨#[]⟩,pI 0,pI 0,.ro 5 R],pI 0,pI 0]=rt):V0 7 [pS s,pB false] rt:=by
 have key:(b1=true\/(b1=false/\bm=true)\/(b1=false/\bm=false/\br=false)\/(b1=false/\bm=false/\br=true/\bd=true)\/(b1=false/\bm=false/\br=true/\bd=false)):=by
  cases b1<;>cases bm<;>cases br<;>cases bd<;>simp
 rcases key with rfl|⟨rfl,rfl⟩|⟨rfl,rfl,rfl⟩|⟨rfl,rfl,rfl,rfl⟩|⟨rfl,rfl,rfl,rfl⟩
 ·have e0:=h4 (.inl rfl);clear hR hD;subst e0;refine xR aU oF mixed (fun _=>0) Tryz.func7 rfl kR kR rfl fun P G E hc hM hE=>?_
  have vQ:=hF E hE;replace hL:=hc _ _ _ hL;replace hO:=hc _ _ _ hO;replace hA:=hM _ _ _ _ _ hA
  first|replace hR:=hc _ _ _ hR|skip
  first|replace hD:=hc _ _ _ hD|skip
  have l0:=vQ.l0;clear hc hE hF h4 h5 h0;cbv;cbv at l0
  repeat (first|(refine⟨_,hL,?_⟩;cbv)|(refine⟨_,hO,?_⟩;cbv)|(simp only[vQ.o];cbv)|(refine .z [1] hA rfl rfl rfl ?_;cbv)|(simp only[l0];cbv)|(simp only[vQ.m];cbv)|(refine⟨_,hR,?_⟩;cbv)|(refine⟨_,hD,?_⟩;cbv)|(simp only[vQ.d];cbv))
  all_goals trivial
 ·have e0:=h4 (.inr (.inl rfl));clear hR hD;subst e0;refine xR aU oF mixed (fun _=>0) Tryz.func7 rfl kR kR rfl fun P G E hc hM hE=>?_
  have vQ:=hF E hE;replace hL:=hc _ _ _ hL;replace hO:=hc _ _ _ hO;replace hA:=hM _ _ _ _ _ hA
  first|replace hR:=hc _ _ _ hR|skip
  first|replace hD:=hc _ _ _ hD|skip
  have l0:=vQ.l0;clear hc hE hF h4 h5 h0;cbv;cbv at l0
  repeat (first|(refine⟨_,hL,?_⟩;cbv)|(refine⟨_,hO,?_⟩;cbv)|(simp only[vQ.o];cbv)|(refine .z [1] hA rfl rfl rfl ?_;cbv)|(simp only[l0];cbv)|(simp only[vQ.m];cbv)|(refine⟨_,hR,?_⟩;cbv)|(refine⟨_,hD,?_⟩;cbv)|(simp only[vQ.d];cbv))
  all_goals trivial
 ·have e0:=h4 (.inr (.inr rfl));replace hR:=hR rfl rfl;clear hD;subst e0;refine xR aU oF mixed (fun _=>0) Tryz.func7 rfl kR kR rfl fun P G E hc hM hE=>?_
  have vQ:=hF E hE;replace hL:=hc _ _ _ hL;replace hO:=hc _ _ _ hO;replace hA:=hM _ _ _ _ _ hA
  first|replace hR:=hc _ _ _ hR|skip
  first|replace hD:=hc _ _ _ hD|skip
  have l0:=vQ.l0;clear hc hE hF h4 h5 h0;cbv;cbv at l0
  repeat (first|(refine⟨_,hL,?_⟩;cbv)|(refine⟨_,hO,?_⟩;cbv)|(simp only[vQ.o];cbv)|(refine .z [1] hA rfl rfl rfl ?_;cbv)|(simp only[l0];cbv)|(simp only[vQ.m];cbv)|(refine⟨_,hR,?_⟩;cbv)|(refine⟨_,hD,?_⟩;cbv)|(simp only[vQ.d];cbv))
  all_goals trivial
 ·have e0:=h5 rfl rfl rfl rfl;replace hR:=hR rfl rfl;replace hD:=hD rfl rfl rfl;subst e0;refine xR aU oF mixed (fun _=>0) Tryz.func7 rfl kR kR rfl fun P G E hc hM hE=>?_
  have vQ:=hF E hE;replace hL:=hc _ _ _ hL;replace hO:=hc _ _ _ hO;replace hA:=hM _ _ _ _ _ hA
  first|replace hR:=hc _ _ _ hR|skip
  first|replace hD:=hc _ _ _ hD|skip
  have l0:=vQ.l0;clear hc hE hF h4 h5 h0;cbv;cbv at l0
  repeat (first|(refine⟨_,hL,?_⟩;cbv)|(refine⟨_,hO,?_⟩;cbv)|(simp only[vQ.o];cbv)|(refine .z [1] hA rfl rfl rfl ?_;cbv)|(simp only[l0];cbv)|(simp only[vQ.m];cbv)|(refine⟨_,hR,?_⟩;cbv)|(refine⟨_,hD,?_⟩;cbv)|(simp only[vQ.d];cbv))
  all_goals trivial
 ·have e0:=h0 rfl rfl rfl rfl;replace hR:=hR rfl rfl;replace hD:=hD rfl rfl rfl;subst e0;refine xR aU oF mixed (fun _=>0) Tryz.func7 rfl kR kR rfl fun P G E hc hM hE=>?_
  have vQ:=hF E hE;replace hL:=hc _ _ _ hL;replace hO:=hc _ _ _ hO;replace hA:=hM _ _ _ _ _ hA
  first|replace hR:=hc _ _ _ hR|skip
  first|replace hD:=hc _ _ _ hD|skip
  have l0:=vQ.l0;clear hc hE hF h4 h5 h0;cbv;cbv at l0
  repeat (first|(refine⟨_,hL,?_⟩;cbv)|(refine⟨_,hO,?_⟩;cbv)|(simp only[vQ.o];cbv)|(refine .z [1] hA rfl rfl rfl ?_;cbv)|(simp only[l0];cbv)|(simp only[vQ.m];cbv)|(refine⟨_,hR,?_⟩;cbv)|(refine⟨_,hD,?_⟩;cbv)|(simp only[vQ.d];cbv))
  all_goals trivial
end
theorem Gz(ks:List PT):pY (nd 42 ks)=[pI 42,pS ⟨#[]⟩,pI 0,pI 0,.ro 5 (gZ ks)]:=by
 cases ks with
 |nil=>simp only[nd,pY,rV,gZ];rfl
 |cons x ks=>simp only[nd,pY,rV,gZ];rfl
theorem xhj(ks:List PT):bE lW (nd 42 ks)=dW lW ks:=by simp[nd,bE,jM]
theorem z2o{s:ByteArray}(hs:s.size<=60000):∃x at_ e,vK x/\lg ll s=uA x at_ e/\V0 7 [pS s,pB false] (vc x at_ e)/\(e=0->RL 9 [.agg (gO x)] (pB true)):=by
 have Ld:vK uY:=by unfold uY;rw[vK,th];exact⟨aP _,trivial⟩
 rcases zxo hs false with⟨a,e,he,h1,h2⟩|⟨ts,op,h,zZ,hL,hO,YS⟩
 ·exact⟨_,_,_,Ld,h1 _,h2,fun h=>absurd h he⟩
 have w:=Rq h;have wi:=xgp (by show s.size<=60000;omega) h
 have mY:=P3 (n:=(s.size:Nat)) h (by show s.size<=60000;omega)
 obtain⟨LR,tN⟩:∃LR,kY (s.size:Nat) ts=LR:=⟨_,rfl⟩
 rw[tN]at hL hO mY;obtain⟨l,hl⟩:∃l,ts.map er=l:=⟨_,rfl⟩
 rw[hl]at w wi mY;have key:∀m,dU .stms l false<m->∀v l' b,bX m .stms l false=(v,l',b)->VM 18 [.own 0 0] [dB LR 0 false] (.p (.ro 5 (gZ v.s))) [dB LR (((l.length:Nat):Int)-((l'.length:Nat):Int)) b]:=fun m hm v l' b hr=>Pw m .stms l false hm rfl m hm _ rfl 0 mY _ hr
 have hle:=mY.z;have Zg:LR.length=l.length:=by
  rw[<-tN,<- hl,wu,nk]
 have wK:qR l.length (3*l.length) .stms:=⟨by omega,nR _⟩
 have hI:∀{m:Nat}{v:RV}{l':Ts},bX m .stms l false=(v,l',false)->oV (nd 42 v.s)/\gP (nd 42 v.s)<=4000000:=fun{m v l'} hr=>by
  have:=F8 m .stms l v l' _ hr w wK
  cases v with
  |nd q=>cases this.1
  |ls q=>
   obtain⟨_,h0,h1,h2⟩:=this;unfold nd;rw[oV,gP];exact⟨⟨fun e=>absurd e aN,by show q.length<=2000000;omega,h1⟩,by show rJ q+1<=4000000;omega⟩
 have fin:∀{rt:PV}{m:Nat}{v:RV}{l':Ts}{b:Bool},dU .stms l false<m->bX m .stms l false=(v,l',b)->((b=true\/l'≠[]\/dW lW v.s=false)->.tup [KL,pI 0,pI 4]=rt)->(b=false->l'=[]->dW lW v.s=true->512<gP (nd 42 v.s)->.tup [KL,pI 0,pI 5]=rt)->(b=false->l'=[]->dW lW v.s=true->gP (nd 42 v.s)<=512->vc (nd 42 v.s) 0 0=rt)->V0 7 [pS s,pB false] rt:=fun{rt m v l' b} hm hr h4 h5 h0=>by
  have hA:=key m hm v l' b hr;have WJ:=(nA m .stms l false).s;rw[hr]at WJ;have vE:=WJ.length_le;have hlen:decide ((((l.length:Nat):Int)-((l'.length:Nat):Int))<((l.length:Nat):Int))=false ↔ l'=[]:=by
   rw[gX]
   constructor
   ·intro h;exact YT.1 oM
   ·intro h;subst h;simp
  refine RJ (M:=((l.length:Nat):Int)) (dp:=((gP (nd 42 v.s):Nat):Int)) (br:=dW lW v.s) hL hO hA (fun hb _=>?_) (fun hb _ _=>?_) (fun E hE=>⟨by subst hE;exact aG Int.ofNat Zg,by subst hE;exact dF oM,by subst hE;rfl,by subst hE;rfl⟩) (fun hh=>h4 ?_) (fun hb hm oI hd=>h5 hb (hlen.1 hm) oI (by have:=oT hd;omega)) (fun hb hm oI hd=>?_)
  ·subst hb
   have:=z2f _ (hI hr).1
   rw[Gz,xhj]at this;exact this
  ·subst hb
   have:=xbx _ (hI hr).1 (hI hr).2
   rwa[Gz]at this
  ·rcases hh with hh|hh|hh
   ·exact .inl hh
   ·refine .inr (.inl fun e=>?_)
    rw[hlen.2 e]at hh
    cases hh
   ·exact .inr (.inr hh)
  ·have:=h0 hb (hlen.1 hm) oI (by have:=gB hd;omega)
   unfold vc at this;rw[Gz]at this;exact this
 have hP:lg ll s=(match ll l with
  |none=>uA uY 0 4
  |some (x,m)=>if m≠0 then uA uY 0 4 else if 512<gP x then uA uY 0 5 else uA x 0 0):=by
  unfold lg;rw[h];simp only[zZ,hl];rfl
 cases vN:vd l with
 |none=>
  refine⟨uY,0,4,Ld,by rw[hP];unfold ll;rw[vN];rfl,?_,nofun⟩
  obtain⟨⟨v,l',b⟩,hr⟩:∃o,bX (dU .stms l false+1) .stms l false=o:=⟨_,rfl⟩
  rw[Ao];refine fin (xf _) hr (fun _=>rfl) (fun hb pM oI _=>?_) (fun hb pM oI _=>?_)
  all_goals
   subst hb pM;rw[z7i w hr oI]at vN
   cases vN
 |some ks=>
  obtain⟨pG,m0,yl⟩:=Rn w vN;have hr:=yl (max m0 (dU .stms l false+1)) oM
  have md:dU .stms l false<max m0 (dU .stms l false+1):=eC
  have hS:=hI hr;have Yf:ll l=some (nd 42 ks,0):=by unfold ll;rw[vN];rfl
  have no:∀{rt:PV},(false=true\/([]:Ts)≠[]\/dW lW (RV.ls ks).s=false)->.tup [KL,pI 0,pI 4]=rt:=fun{rt} hh=>by
   rcases hh with hh|hh|hh
   ·cases hh
   ·exact absurd rfl hh
   ·rw[show dW lW (RV.ls ks).s=true from pG]at hh;cases hh
  by_cases hd:512<gP (nd 42 ks)
  ·refine⟨uY,0,5,Ld,by rw[hP,Yf];simp[hd],?_,nofun⟩
   rw[Ao];exact fin md hr no (fun _ _ _ _=>rfl) (fun _ _ _ h2=>absurd hd (by show ¬512<gP (nd 42 ks);exact Nat.not_lt.2 h2))
  ·refine⟨nd 42 ks,0,0,hS.1.wid,by rw[hP,Yf];simp[hd],?_,fun _=>?_⟩
   ·exact fin md hr no (fun _ _ _ h2=>absurd h2 hd) (fun _ _ _ _=>rfl)
   ·exact xb9 (T9 _ .stms l (.ls ks) [] hr w wi trivial) hS.1 (by show gP (nd 42 ks)<=512;omega) pG
theorem zns(s:ByteArray):RL 3 [pS s] (pB true):=by
 obtain⟨n,hn⟩:∃n:Int,((s.size:Nat):Int)=n:=⟨_,rfl⟩
 rcases(show 1500<n\/¬1500<n by omega)with h|h
 ·refine xR aU mA mixed (fun _=>0) Tryz.func3 rfl kR kR rfl fun P G E hc hM hE=>?_
  have h1:=hc _ _ _ O8;have z1:E.size s=n:=iY
  have d1:E.lti 1500 n=true:=by rw[hE];exact aA h
  clear hE hc hM hn h;cbv
  repeat (first|(refine⟨_,h1,?_⟩;cbv)|(simp only[z1];try cbv)|(simp only[d1];try cbv))
 ·have hp:=O3 s oM
  obtain⟨x,a,e,hw,hP,hR,hV⟩:=z2o (s:=s) oM
  have GO:=nK (xck x x hw hw);rw[Pf]at GO;replace hR:=nK hR;rw[hP]at hp;unfold uA at hp;unfold vc at hR;obtain⟨k,i,q,nm,K,hv⟩:=zp x;obtain⟨k2,i2,q2,nm2,K2,jY⟩:=Bb x;rw[hv.row]at hp GO hV;rw[jY.row]at hR GO;have ok:=hv.one;have ok2:=jY.one;have he:(decide (e=0)=false)\/(decide (e=0)=true/\RL 9 [.agg [pI k,pS nm,pI i,pI q,K]] (pB true)):=by
   by_cases h0:e=0
   ·exact .inr ⟨aA h0,hV h0⟩
   ·exact .inl (dF h0)
  clear hV
  rcases he with d0|⟨d0,hV⟩
  all_goals
   refine xR aU mA mixed (fun _=>0) Tryz.func3 rfl kR kR rfl fun P G E hc hM hE=>?_
   have h1:=hc _ _ _ O8;have z1:E.size s=n:=iY
   have d1:E.lti 1500 n=false:=by rw[hE];exact dF h
   replace hp:=hc _ _ _ hp;replace hR:=hc _ _ _ hR;replace GO:=hc _ _ _ GO
   first|replace hV:=hc _ _ _ hV|skip
   have da:decide (a=a)=true:=aA rfl;have de:decide (e=e)=true:=aA rfl;clear hE hc hM hn h hP hw hv jY;cbv;cbv at ok;cbv at ok2
   repeat (first|(refine⟨_,h1,?_⟩;cbv)|(simp only[z1];try cbv)|(simp only[d1];try cbv)|(refine⟨_,hp,?_⟩;cbv)|(simp only[ok];try cbv)|(refine⟨_,hR,?_⟩;cbv)|(simp only[ok2];try cbv)|(simp only[de];try cbv)|(simp only[da];try cbv)|(refine⟨_,GO,?_⟩;cbv)|(simp only[d0];try cbv)|(refine⟨_,hV,?_⟩;cbv))
open Go.ChangeShapes
open Go.WideShapes
open Go.ChangeAt
open Go.Lib
open Go.Shelf
theorem own:ownKnob Tryz.prog.godebug=none:=cM
theorem xU:U8Extra Tryz.prog Tryz.laysValid_ren:=⟨kR,kR,kR,kR,kR,kR,kR⟩
theorem z6s:(Rows.laid_unicode_utf8_acceptRanges:DataW Unit)=acceptData:=cM
def CX:List (String×DataW Unit):=Rows.parserParsesRow.laid
theorem Qi{W:World}{name nm:String}{d:DataW Unit}{g:Nat}{t:TypeId}{ms:Array (String×TypeId)}(hg:Tryz.prog.globalNamed name=some g)(hty:(Tryz.prog.globals[g]?).map (·.type)=some t)(hu:Tryz.prog.underlying t=some (.interface ms))
  (h:VarReads Tryz.prog W name (.iface nm d)):Gp W name:=by
 obtain⟨g',t',cs,fuel,p,yr,Lj,y6,hd⟩:=h;obtain rfl:=bA (hg.symm.trans yr);obtain rfl:=bA (hty.symm.trans Lj)
 cases fuel with
 |zero=>simp[DataW.trod]at hd
 |succ n=>
  rw[DataW.trod_step]at hd;have dC:cs=cs.toList.toArray:=dL
  match hl:cs.toList,hd with
  |[],hd=>simp[DataW.trodStep,hu]at hd
  |[v],hd=>
   cases v<;>simp[DataW.trodStep,hu]at hd
   rename_i tp v;rw[dC,hl]at y6;exact⟨tp,v,y6⟩
  |_::_::_,hd=>simp[DataW.trodStep,hu]at hd
theorem zsb{H:Type}{enc:TypeId×Value->H}{a:Assume}{C:Checked}{os:Os}{f:FuncId}{fn:Func}{s:ChangeSpec}{conds:List PathCond}{apart fresh kf again:Bool}{X:World->Array Value->Prop}
  (hX:∀(w w':World)(args:Array Value),w.heap=w'.heap->X w args->X w' args) (own:ownKnob C.prog.godebug=none) (started:os.Started) (noInit:C.prog.inits.idxOf? f=none) (uu:C.prog.funcs[f]?=some fn)
  (wit:∃(w:World)(tape:Tape)(i:Input),w.os=os/\(w.forCall tape i).Shaped C.prog/\i.vars=[]/\Input.okWide C.prog (w.forCall tape i) .any w.heap.size f i ∧
   ((s.pre enc C.prog fn conds apart (w.forCall tape i).memory i.args/\X (w.forCall tape i).memory i.args)/\sizedMet enc C.prog fn (OpenSpec.ofChange s) apart (w.forCall tape i).memory i.args)/\a.holds C.prog (lone (Frame.enter C.prog f i.args .normal) [] (w.forCall tape i)))
  (walk:∀(W:World)(base:Nat)(args:Array Value)(ds gs:List (DataW H))(before:List MemPlace),(∀(j:Nat) t v,fn.params[j]?=some t->args[j]?=some v->Value.okWide C.prog W .any base t v) →
   DataW.Whole enc C.prog fn.params.toList s.vars apart W args.toList ds gs before->X W args->W.ShapedOpen C.prog →
   Calls C.prog f args W fun e W'=>∃v,e=.returned v/\s.post enc C.prog fn apart fresh kf again W args v W'):
  ReturnsInHanded a C os f .any (fun w args=>(s.pre enc C.prog fn conds apart w args/\X w args)/\sizedMet enc C.prog fn (OpenSpec.ofChange s) apart w args) (s.post enc C.prog fn apart fresh kf again):=by
 refine returnsInHanded_of_calls own started noInit wit fun w tape i _ rP _ cV qT _=>?_
 obtain⟨_,_,_,fn',Ma,_,_,_,_,vC⟩:=cV
 cases bA (Ma.symm.trans uu)
 obtain⟨⟨⟨ds,gs,before,hw,_⟩,hx⟩,_⟩:=qT;refine(walk _ w.heap.size i.args ds gs before vC (DataW.Whole.of_heap (w':=w.forCall tape i) (by rfl) hw) (hX _ _ _ (by rfl) hx) rP).mono ?_
 rintro e W' ⟨v,rfl,hp⟩
 exact ChangeSpec.post_blind hp
theorem TG{W:World}(hL:laidMetH Tryz.prog CX W)(hS:W.ShapedOpen Tryz.prog):GL W:=by
 rw[MakeChecks.laidMetH_plain _ _ _ kR]at hL
 refine⟨?_,?_,?_,Tryz.laysM143.s1_3 W hS⟩
 ·exact utf8Tabs_of_readsT (U8Types.of196 Tryz.laysValid) xU (Pinned.utf8First_eq ▸ Lib.laidMet.reads hL (.tail _ (.tail _ (.tail _ (.tail _ (.tail _ (.tail _ (.head _)))))))) (z6s ▸ Lib.laidMet.reads hL (.tail _ (.tail _ (.tail _ (.head _)))))
 ·exact Qi (g:=3) (t:=111) kR kR Tryz.underlying111 (Lib.laidMet.reads hL (.tail _ (.tail _ (.tail _ (.tail _ (.tail _ (.head _)))))))
 ·exact Qi (g:=4) (t:=111) kR kR Tryz.underlying111 (Lib.laidMet.reads hL (.tail _ (.tail _ (.tail _ (.tail _ (.head _))))))
theorem z4n(os:Os)(args:Array Value):laidMetH Tryz.prog CX ((World.laidAll Tryz.prog os CX).forCall (fun _ _=>0) ⟨#[],args,[]⟩).memory:=by
 rw[MakeChecks.laidMetH_plain _ _ _ kR];exact laidMet_laidAll _ kR kR
def xu(w:World)(B:Nat->Prop)(ps:List PV)(vs:List Value):Prop:=ps.length=vs.length/\∀(j:Nat)(a:PV)(v:Value),ps[j]?=some a->vs[j]?=some v->cI w B a v
theorem RT{w:World}{B:Nat->Prop}:xu w B [] []:=⟨rfl,fun j a v h=>by simp at h⟩
theorem RQ{w:World}{B:Nat->Prop}{p:PV}{v:Value}{ps:List PV}{vs:List Value}(h:cI w B p v)(hr:xu w B ps vs):xu w B (p::ps) (v::vs):=by
 refine⟨by simp[hr.1],fun j a x ha hx=>?_⟩
 cases j with
 |zero=>simp at ha hx;subst ha hx;exact h
 |succ j=>exact hr.2 j a x LN (by simpa using hx)
theorem z2w{f:FuncId}{ps:List PV}{vs:List Value}(h:RL f ps (pB true)){W:World}(hG:GL W)(hr:xu W (fun _=>True) ps vs):Calls Tryz.prog f vs.toArray W fun e W'=>e=.returned (.bool true)/\Gr W W':=
 (h.2 W (fun _=>True) vs hG hr.1 hr.2).mono fun e w' ⟨h2,v,h1,h3⟩=>⟨by cases h3;exact h1,h2⟩
open Go.ChangeMaps
theorem zkn(os:Os)(started:os.Started)(H:Type)(enc:TypeId×Value->H):
  ReturnsInHanded {} Tryz.checked os 3 .any (fun w args=>(Rows.parserParsesSpec.pre enc Tryz.prog Tryz.f3 [] false w args/\laidMetH Tryz.prog CX w)/\sizedMet enc Tryz.prog Tryz.f3 (OpenSpec.ofChange Rows.parserParsesSpec) false w args)
   (Rows.parserParsesSpec.post enc Tryz.prog Tryz.f3 false true false false):=by
 refine zsb (C:=Tryz.checked) (X:=fun w _=>laidMetH Tryz.prog CX w) (fun _ _ _ hh h=>h.of_heap hh) own started kR Tryz.func3
  (ChangeSpec.witness_shaped (enc:=enc) (C:=Tryz.checked) (os:=os) (X:=fun w _=>laidMetH Tryz.prog CX w) false (World.laidAll Tryz.prog os CX) #[.string ByteArray.empty] 8 (World.laidAll_os _ _ _)
   (World.shaped_of_ZipB kR kR) kR kR kR (z4n os _)) ?_
 intro W base args ds gs before WB hW hL hS;have vC:∀(j:Nat) t v,Tryz.f3.params[j]?=some t->args[j]?=some v->Value.okWide Tryz.prog W .any base t v:=WB
 have Zb:=hW;obtain⟨p,q,hA0,hV,rfl,_,_⟩:=hW;have hA:DataW.TrodAll enc Tryz.prog W 0 (fun _=>true) true Tryz.f3.params.toList args.toList ds p:=hA0
 rw[Tryz.params3]at hA vC;obtain⟨v0,d0,rfl,rfl,h0⟩:=trodAll_one hA;obtain⟨rfl,rfl⟩:=trodVars_none hV;obtain⟨x0,rfl,rfl,rfl,lx0⟩:=open_string Tryz.underlying9 (vC 0 9 v0 rfl rfl) h0;simp only[cB]at Zb;refine(z2w (zns x0) (TG hL hS) (RQ (.v _) RT)).mono fun e W' ⟨he,hb⟩=>?_
 subst he;exact⟨_,rfl,_,_,_,[],_,[],Zb,trodAll_mk1 (shut_bool Tryz.underlying4 _),trodAll_mk1 (shut_string Tryz.underlying9 lx0),rfl,hb.frame _,nofun⟩
theorem zln:Rows.ParserParsesSaid:=
 OpenClaim.holds_of_wide 3 Tryz.f3 rfl rfl rfl rfl rfl rfl rfl r5 rfl rfl rfl rfl rfl kR Tryz.func3 kR
  (oT kR) (by unfold Func.isWrapper;first|(rw[aF (by decide +kernel)];kernel_rfl)|(rw[aD (by decide +kernel)];exact⟨rfl,rfl⟩))
  (fun os started H enc _=>zkn os started H enc)
theorem parserParses_card:Rows.ParserParsesCardSaid:=
 Claim7.holds_tied_plain_at .later [] [.data,.data,.data,.data,.sentinel,.sentinel,.pinned] true _ true
  zln (fun _ h=>by cases h) kR (fun _ h=>by cases h) parserParses_row_tie rfl ⟨rfl,rfl⟩ kR rfl
  (fun f fn hf uu=>by
   obtain rfl:f=3:=bA ((show Tryz.prog.funcNamed Rows.parserParsesRow.func=some 3 by kernel_rfl).symm.trans hf) |>.symm
   obtain rfl:fn=Tryz.f3:=(bA (Tryz.func3.symm.trans uu)).symm;exact⟨kR,fun j t ht=>by
    rw[Tryz.params3]at ht;have hm:t∈[9]:=by simpa using Array.mem_of_getElem? ht
    have eH:([9].all fun u=>!Tryz.prog.wantsStandIn u)=true:=cM
    exact(show Tryz.prog.wantsStandIn t=false by simpa using aO.1 eH t hm)⟩)
  kR
#print axioms parserParses_card
end Go.Proofs.YtjkcdcloomkooaaGreatDoor
