/- Own work: walks and laws of the parser and its reference. -/
import Derived.Test.YtjkcdcloomkooaaGreatDoorQYM
set_option linter.unusedVariables false
set_option linter.unusedSimpArgs false
set_option linter.unusedSectionVars false
set_option maxHeartbeats 8000000
set_option maxRecDepth 100000
namespace Go.Proofs.YtjkcdcloomkooaaGreatDoor
open Go.RowKit
def qf(n:Nat)(l:Bs):Nat:=l.foldl (fun n c=>10*n+(c.toNat-48)) n
theorem JL(n:Nat)(c:UInt8)(l:Bs):qf n (c::l)=qf (10*n+(c.toNat-48)) l:=by
 unfold qf;rw[va]
theorem JA(l:Bs):lE l=qf 0 l:=by
 unfold lE qf;exact rfl
theorem JB{c:UInt8}(h:eO c=true):48<=c.toNat/\c.toNat<=57:=by
 exact Wj
theorem DW:∀(l:Bs)(n:Nat),(∀c∈l,eO c=true)->n*10 ^ l.length<=qf n l/\qf n l<(n+1)*10 ^ l.length
 |[],n,_=>by
  show n*1<=n/\n<(n+1)*1;omega
 |c::l,n,h=>by
  have hc:=JB (h c (cK ..));obtain⟨h1,h2⟩:=DW l (10*n+(c.toNat-48)) fun x hx=>h x (aV _ hx)
  rw[JL,qQ,Nat.pow_succ]
  constructor
  ·refine aR ?_ h1;rw[show n*(10 ^ l.length*10)=(10*n)*10 ^ l.length by rw[mG (10 ^ l.length) 10,<- Nat.mul_assoc,mG n 10]]
   exact Ca
  ·refine aJ h2 ?_;rw[show(n+1)*(10 ^ l.length*10)=(10*(n+1))*10 ^ l.length by rw[mG (10 ^ l.length) 10,<- Nat.mul_assoc,mG (n+1) 10]]
   exact Ca
theorem Ek:∀(a b:Bs)(n:Nat),a.length=b.length->(∀c∈a,eO c=true)->(∀c∈b,eO c=true)->Op.bytesLess a b=decide (qf n a<qf n b)
 |[],[],n,_,_,_=>by
  show false=decide (n<n);exact(dF (Nat.lt_irrefl _)).symm
 |x::a,y::b,n,hl,ha,hb=>by
  have hx:=JB (ha x (cK ..));have hy:=JB (hb y (cK ..));have uH:a.length=b.length:=xp
  have rU:∀c∈a,eO c=true:=fun c hc=>ha c (aV _ hc)
  have gE:∀c∈b,eO c=true:=fun c hc=>hb c (aV _ hc)
  rw[JL,JL];show(decide (x<y)||(x==y&&Op.bytesLess a b))=_;have b1:=DW a (10*n+(x.toNat-48)) rU;have b2:=DW b (10*n+(y.toNat-48)) gE;rw[<-uH]at b2
  rcases ki x.toNat y.toNat with h|h|h
  ·have h1:x<y:=xK.2 h;rw[aA h1,dP];refine(aA (aJ b1.2 (aR ?_ b2.1))).symm;exact Ca
  ·have h1:x=y:=cY.1 h;subst h1;have h2:¬x<x:=fun h=>by
    have:=xK.1 h
    omega
   rw[dF h2,bI,beq_self_eq_true,bO];exact Ek a b _ uH rU gE
  ·have h1:¬x<y:=fun h'=>by
    have:=xK.1 h'
    omega
   have h2:(x==y)=false:=pT.2 fun e=>by subst e;omega
   rw[dF h1,h2,bI,cH];refine(dF (Nat.not_lt.2 (aR (dD b2.2) (aR ?_ b1.1)))).symm;exact Ca
theorem Qu:∀(a b:Bs)(n:Nat),a.length=b.length->(∀c∈a,eO c=true)->(∀c∈b,eO c=true)->qf n a=qf n b->a=b
 |[],[],_,_,_,_,_=>rfl
 |x::a,y::b,n,hl,ha,hb,h=>by
  have hx:=JB (ha x (cK ..));have hy:=JB (hb y (cK ..));have uH:a.length=b.length:=xp
  have rU:∀c∈a,eO c=true:=fun c hc=>ha c (aV _ hc)
  have gE:∀c∈b,eO c=true:=fun c hc=>hb c (aV _ hc)
  rw[JL,JL]at h;have b1:=DW a (10*n+(x.toNat-48)) rU;have b2:=DW b (10*n+(y.toNat-48)) gE;rw[<-uH]at b2
  rcases ki x.toNat y.toNat with h1|h1|h1
  ·exfalso
   have:=aJ b1.2 (aR (dJ _ (show 10*n+(x.toNat-48)+1<=10*n+(y.toNat-48) by omega)) b2.1)
   omega
  ·have h2:x=y:=cY.1 h1;subst h2;rw[Qu a b _ uH rU gE h]
  ·exfalso
   have:=aJ b2.2 (aR (dJ _ (show 10*n+(y.toNat-48)+1<=10*n+(x.toNat-48) by omega)) b1.1)
   omega
theorem Zr:ah.data.toList=[57,50,50,51,51,55,50,48,51,54,56,53,52,55,55,53,56,48,55]:=rfl
theorem Ex:lE ah.data.toList=9223372036854775807:=cM
theorem O9(s:ByteArray):s.toList=s.data.toList:=ByteArray.toList_eq s
theorem z5e(s:ByteArray)(hd:∀c∈s.data.toList,eO c=true)(hz:¬(s.data.toList.head?=some 48/\1<s.data.toList.length)):QD s=decide (9223372036854775807<lE s.data.toList):=by
 have qv:s.data.toList.length=s.size:=rfl;unfold QD;rw[O9,O9]
 by_cases h1:19<s.size
 ·rw[aA h1,dP];refine(aA ?_).symm
  cases hl:s.data.toList with
  |nil=>rw[hl]at qv;simp at qv;omega
  |cons c r=>
   rw[hl]at hd hz qv;have hc:=JB (hd c (cK ..));have dZ:c≠48:=fun e=>hz ⟨by rw[e];rfl,by rw[qv];omega⟩
   have wR:c.toNat≠48:=fun e=>dZ (cY.1 (by show c.toNat=48;exact e))
   rw[JA,JL];have hb:=(DW r (10*0+(c.toNat-48)) fun x hx=>hd x (aV _ hx)).1
   have hr:19<=r.length:=by simp only[qQ]at qv;omega
   have hp:10 ^ 19<=10 ^ r.length:=Nat.pow_le_pow_right oM hr
   have h3:1*10 ^ r.length<=(10*0+(c.toNat-48))*10 ^ r.length:=dJ _ oM
   have h4:(10:Nat) ^ 19=10000000000000000000:=aN
   omega
 ·rw[dF h1,bI]
  by_cases h2:s.size=19
  ·rw[aA h2,bO];have Lv:∀c∈ah.data.toList,eO c=true:=by rw[Zr];decide
   have hlen:s.data.toList.length=ah.data.toList.length:=by rw[qv,h2];rfl
   have tH:=Ek s.data.toList ah.data.toList 0 hlen hd Lv;have jy:=Ek ah.data.toList s.data.toList 0 hlen.symm Lv hd;rw[<-JA,<- JA,Ex]at tH jy;rw[tH]
   by_cases h3:s=ah
   ·rw[aA h3,mK];refine(dF ?_).symm;rw[h3,Ex];exact Nat.lt_irrefl _
   ·rw[dF h3,kK]
    by_cases h4:lE s.data.toList<9223372036854775807
    ·rw[aA h4,dF oM]
     rfl
    ·rw[dF h4];refine(aA ?_).symm
     by_cases h5:9223372036854775807<lE s.data.toList
     ·exact h5
     ·exfalso
      have h6:lE s.data.toList=9223372036854775807:=eC
      refine h3 (yZ ?_);exact Qu s.data.toList ah.data.toList 0 hlen hd Lv (by rw[<-JA,<- JA,Ex,h6])
  ·rw[dF h2,cH];refine(dF ?_).symm;have hb:=(DW s.data.toList 0 hd).2;rw[<-JA,qv]at hb;have hp:10 ^ s.size<=10 ^ 18:=Nat.pow_le_pow_right oM oM
   have h4:(10:Nat) ^ 18=1000000000000000000:=aN
   omega
def zf:List Bs:=yV++(dm++pw)
theorem ZZ(l:Bs)(k:Nat):∀L:List Bs,(∀o∈L,o.length=k)->L.find? (fun o=>decide (l.take o.length=o))=if L.any (· == l.take k)then some (l.take k)else none
 |[],_=>rfl
 |o::L,h=>by
  have ho:=h o (cK ..);have ih:=ZZ l k L fun x hx=>h x (aV _ hx)
  rw[vb,NC,ho]
  by_cases he:l.take k=o
  ·have:(o==l.take k)=true:=by rw[he];exact beq_self_eq_true _
   rw[aA he,this,dP,aF rfl,he]
  ·have:(o==l.take k)=false:=pT.2 (iW he)
   rw[dF he,this,bI,ih]
theorem z8j(l:Bs):qC l=zf.find? (fun o=>decide (l.take o.length=o)):=by
 have h3:=ZZ l 3 yV aN
 have h2:=ZZ l 2 dm aN
 have h1:=ZZ l 1 pw aN
 unfold zf;rw[List.find?_append,List.find?_append,h3,h2,h1];unfold qC
 split
 ·rfl
 ·split
  ·rfl
  ·split<;>rfl
def lu:List ByteArray:=[⟨#[61,61,61]⟩,⟨#[33,61,61]⟩,⟨#[43,61]⟩,⟨#[45,61]⟩,⟨#[42,61]⟩,⟨#[61,61]⟩,⟨#[33,61]⟩,⟨#[60,61]⟩,⟨#[62,61]⟩,⟨#[38,38]⟩,⟨#[124,124]⟩,⟨#[63,63]⟩,⟨#[61,62]⟩,⟨#[43,43]⟩,⟨#[45,45]⟩,
 ⟨#[123]⟩,⟨#[125]⟩,⟨#[40]⟩,⟨#[41]⟩,⟨#[91]⟩,⟨#[93]⟩,⟨#[59]⟩,⟨#[44]⟩,⟨#[46]⟩,⟨#[63]⟩,⟨#[58]⟩,⟨#[61]⟩,⟨#[43]⟩,⟨#[45]⟩,⟨#[42]⟩,⟨#[47]⟩,⟨#[37]⟩,⟨#[33]⟩,⟨#[60]⟩,⟨#[62]⟩]
theorem xdw:lu.map (·.data.toList)=zf:=rfl
theorem zrt:V0 102 [] (.ro 1 (dw lu)):=by
 refine eZ Tryz.func102 fun P G E hc hE=>?_
 have p1:E.pre 0 35 (dw lu):=by rw[hE];exact nR 35
 have t3:E.sub (dw lu) 0 35=dw lu:=fH
 exact Ce
def mu(s:ByteArray)(a:Int):PV:=match jH uB fR (bB s a)with
 | .bad e=>.tup [.agg [pI 0,pS ⟨#[]⟩,pI 0],pI 0,pI e]
 | .ok k t r=>.tup [lr k t a,pI ((s.size:Nat)-(r.length:Nat)-a),pI 0]
theorem JY{s:ByteArray}{a e:Int}(h:jH uB fR (bB s a)=.bad e):mu s a=.tup [.agg [pI 0,pS ⟨#[]⟩,pI 0],pI 0,pI e]:=by unfold mu;rw[h]
theorem OD{s:ByteArray}{a k:Int}{t r:Bs}(h:jH uB fR (bB s a)=.ok k t r):mu s a=.tup [lr k t a,pI ((s.size:Nat)-(r.length:Nat)-a),pI 0]:=by unfold mu;rw[h]
theorem NI(c:UInt8)(z:Int)(b:Bool)(hz:((c.toNat:Nat):Int)=z)(hb:eO c=b):V0 98 [.v (.int .u8 z)] (pB b):=by
 subst hz hb;exact Fd c
theorem NK(c:UInt8)(z:Int)(b:Bool)(hz:((c.toNat:Nat):Int)=z)(hb:oA c=b):V0 97 [.v (.int .u8 z)] (pB b):=by
 subst hz hb;exact zvm c
structure Y2(s:ByteArray)(n a:Int)(q:UInt8)(W D:Bs)(T:ByteArray)(e1 m:Int):Prop where
 wd:bB s a=W++D
 w:(bB s a).takeWhile mP=W
 d:(bB s a).dropWhile mP=D
 t:T.data.toList=W
 x:s.extract a.toNat e1.toNat=T
 l:((T.size:Nat):Int)=m
 e:a+m=e1
 ae:a<=e1
 en:e1<=n
 dn:n-(D.length:Nat)=e1
abbrev xcn(s:ByteArray)(a:Int):List AV:=[pS s,pI a].map .p++List.replicate 128 (.p (.v undef))
theorem JZ(s:ByteArray)(n a:Int)(q:UInt8)(zq:Int)(W D:Bs)(T:ByteArray)(e1 m:Int)(h0:0<=a)(hn:((s.size:Nat):Int)=n)(h1:a<n)(hq:s.data.toList[a.toNat]?=some q)(eJ:((q.toNat:Nat):Int)=zq)(hs:s.size<=900000)
  (hR:Y2 s n a q W D T e1 m) {Q:Exit->List AV->AH->Prop} (h2:aY Tryz.prog G0 (Tryz.f66).ntmps (l8 5 ((Tryz.f66).body.getD .skip)) Q (rB [0,1,4,7,9] [.p (pS s),.p (pI a),.own 0 0,.p (.v (.int .u8 zq)),.p (pS T)] 130 0) [some mB]):
  aY Tryz.prog G0 (Tryz.f66).ntmps ((Tryz.f66).body.getD .skip) Q (xcn s a) []:=by
 obtain⟨CE,hW,hD,jZ,iv,za,HP,YF,wN,vH⟩:=hR;have fQ:=fun(c:UInt8)(z:Int)(b:Bool)(hz:((c.toNat:Nat):Int)=z)(hb:eO c=b)=>NI c z b hz hb
 have iC:=fun(c:UInt8)(z:Int)(b:Bool)(hz:((c.toNat:Nat):Int)=z)(hb:oA c=b)=>NK c z b hz hb
 have cZ:∀j,BM s n a j->(∀c,(bB s j).head?=some c->mP c=false)->j=e1:=fun j hj h=>by
  obtain⟨j0,j1,u,gG,gM,lB⟩:=hj;have h5:=ld (p:=mP) u (bB s j) lB h;rw[<-gG,hD]at h5;have h6:=rL s j;rw[<-h5.2]at h6;omega
 have aT:∀i:Int,0<=i->i<n->∃c,s.data.toList[i.toNat]?=some c:=fun i iH iL=>⟨_,aB (by show i.toNat<s.size;omega)⟩
 obtain⟨μ,hμ⟩:∃μ:Int->Nat,∀x,μ x=2000000000-x.toNat:=⟨_,fun _=>rfl⟩
 have jR:BM s n a a:=⟨bT _,by omega,[],rfl,by show(0:Int)=a-a;omega,fun c hc=>(by cases hc)⟩
 refine aY.cutK0 5 130 [0,1,4,7,9] 1 (fun _:Unit=>[.p (pS s),.p (pI a),.own 0 0,.p (.v (.int .u8 zq)),.p (pS T)]) (fun _=>[some mB]) (fun _=>True) aU mixed (fun _=>0) kR ?_ (fun _ _=>h2)
 clear h2;intro P G E hc hM hE;replace fQ:=fun(c:UInt8)(z:Int)(b:Bool)(hz:((c.toNat:Nat):Int)=z)(hb:eO c=b)=>hc _ _ _ (fQ c z b hz hb)
 replace iC:=fun(c:UInt8)(z:Int)(b:Bool)(hz:((c.toNat:Nat):Int)=z)(hb:oA c=b)=>hc _ _ _ (iC c z b hz hb)
 have z1:E.size s=n:=iY
 have elt:=yF hE;have eple:=uL hE;have eget:∀(i:Int)(c:UInt8)(z:Int),s.data.toList[i.toNat]?=some c->((c.toNat:Nat):Int)=z->E.get s (E.nat i)=some z:=fun i c z h hz=>by
  exact MA
 have eadd:=ub hE;have x1:E.ext s (E.nat a) (E.nat e1)=T:=by rw[hE];exact iv
 have g0:=eget a q zq hq eJ;have p0:=eple 0 a h0;have q1:=eple a e1 YF;have q2:=eple e1 n wN;clear hE hc hM CE hW hD jZ iv za HP;cbv
 repeat (first|(refine⟨p0,_,g0,?_⟩;cbv))
 refine gV 130 [0,1,4,7,8] 1 (fun x:Int=>[.p (pS s),.p (pI a),.own 0 0,.p (.v (.int .u8 zq)),.p (pI x)]) (fun _=>[some mB]) (BM s n a) μ a r5 jR ?_
 clear jR;intro j hj;replace hn:((s.size:Nat):Int)=n:=hn;have mh:=cZ j hj;obtain⟨j0,j1,u,gG,gM,lB⟩:=hj;replace gM:((u.length:Nat):Int)=j-a:=gM
 rcases dV (j<n)with cQ|cQ
 ·have d1:E.lti j n=true:=C1
  obtain⟨c,eP⟩:=aT j oM cQ
  obtain⟨z,hz⟩:∃z:Int,((c.toNat:Nat):Int)=z:=⟨_,rfl⟩
  have g1:=eget j c z eP hz;have p1:=eple 0 j oM
  have dZ:=uW oM eP
  cases gj:mP c with
  |true=>
   obtain⟨j2,oL⟩:∃x:Int,j+1=x:=⟨_,rfl⟩
   have ej:=eadd j 1 oM oM oM oM
   rw[oL]at ej;have lV:BM s n a j2:=by
    refine⟨by omega,by omega,u++[c],?_,?_,?_⟩
    ·rw[gG,dZ,<- oL];simp
    ·show(((u++[c]).length:Nat):Int)=j2-a;rw[sD,J6];omega
    ·intro x hx
     rcases kX.1 hx with hx|hx
     ·exact lB x hx
     ·rw[eV.1 hx];exact gj
   have gA:μ j2<μ j:=qg
   cases bh:oA c with
   |true=>
    have hk:=iC c z true hz bh;clear aT fQ iC elt eple eget eadd hn hq eJ gG gM lB hs eP hz dZ oL cZ mh gj bh hμ vH;cbv
    repeat (first|(simp only[z1];try cbv)|(simp only[d1];try cbv)|(refine⟨p1,_,g1,?_⟩;cbv)|(refine⟨_,hk,?_⟩;cbv)|(simp only[ej];try cbv))
    refine .mk j2 r5 ?_ ?_
    ·exact lV
    ·exact gA
   |false=>
    have hk:=iC c z false hz bh;have tK:eO c=true:=by unfold mP at gj;rw[bh,bI]at gj;exact gj
    have yR:=fQ c z true hz tK;clear aT fQ iC elt eple eget eadd hn hq eJ gG gM lB hs eP hz dZ oL cZ mh gj bh hμ vH tK;cbv
    repeat (first|(simp only[z1];try cbv)|(simp only[d1];try cbv)|(refine⟨p1,_,g1,?_⟩;cbv)|(refine⟨_,hk,?_⟩;cbv)|(refine⟨_,yR,?_⟩;cbv)|(simp only[ej];try cbv))
    refine .mk j2 r5 ?_ ?_
    ·exact lV
    ·exact gA
  |false=>
   have HE:=mh (fun x hx=>by rw[dZ]at hx;cases hx;exact gj)
   have wF:=gj;unfold mP at wF;simp only[cG]at wF;have hk:=iC c z false hz wF.1;have yR:=fQ c z false hz wF.2;subst HE;clear aT fQ iC elt eple eget eadd hn hq eJ gG gM lB hs eP hz dZ cZ mh gj wF hμ vH;cbv
   repeat (first|(simp only[z1];try cbv)|(simp only[d1];try cbv)|(refine⟨p1,_,g1,?_⟩;cbv)|(refine⟨_,hk,?_⟩;cbv)|(refine⟨_,yR,?_⟩;cbv)|(refine⟨p0,q1,q2,?_⟩;cbv)|(simp only[x1];try cbv))
   exact .mk () r5 trivial
 ·have d1:E.lti j n=false:=by rw[elt];exact dF cQ
  have mT:bB s j=[]:=ja oM
  have HE:=mh (fun x hx=>by rw[mT]at hx;cases hx)
  subst HE;clear aT fQ iC elt eple eget eadd hn hq eJ gG gM lB hs cZ mh hμ vH mT;cbv
  repeat (first|(simp only[z1];try cbv)|(simp only[d1];try cbv)|(refine⟨p0,q1,q2,?_⟩;cbv)|(simp only[x1];try cbv))
  exact .mk () r5 trivial
theorem B8(s:ByteArray)(a:Int)(h0:0<=a)(h1:a<(s.size:Nat))(q:UInt8):∃W D T e1 m,Y2 s (s.size:Nat) a q W D T e1 m:=by
 have fE:=rL s a;obtain⟨W,hW⟩:∃x,(bB s a).takeWhile mP=x:=⟨_,rfl⟩
 obtain⟨D,hD⟩:∃x,(bB s a).dropWhile mP=x:=⟨_,rfl⟩
 have CE:bB s a=W++D:=Uo
 have hlen:(bB s a).length=W.length+D.length:=by rw[CE,sD]
 have iv:s.extract a.toNat ((s.size:Nat)-(D.length:Nat):Int).toNat=bL W:=by
  refine yZ ?_;rw[show(bL W).data.toList=W by unfold bL;simp,AL,CE,show((s.size:Nat)-(D.length:Nat):Int).toNat-a.toNat=W.length by omega,rI]
 exact⟨W,D,bL W,(s.size:Nat)-(D.length:Nat),(W.length:Nat),CE,hW,hD,by unfold bL;simp,iv,rfl,by omega,by omega,by omega,rfl⟩
theorem z2k(s:ByteArray)(a:Int)(q:UInt8)(h0:0<=a)(hq:s.data.toList[a.toNat]?=some q)(hl:oA q=true)(hs:s.size<=900000):V0 66 [pS s,pI a] (mu s a):=by
 obtain⟨n,hn⟩:∃n:Int,((s.size:Nat):Int)=n:=⟨_,rfl⟩
 have h1:a<n:=by
  exact VL
 obtain⟨zq,eJ⟩:∃z:Int,((q.toNat:Nat):Int)=z:=⟨_,rfl⟩
 have nW:bB s a=q::bB s (a+1):=uW h0 hq;have fE:=rL s a;obtain⟨W,D,T,e1,m,hR⟩:=B8 s a h0 oM q
 rw[hn]at hR;have kH:=NK q zq true eJ hl;have sP:mu s a=.tup [.agg [pI (if mq W then 2 else 1),pS T,pI a],pI m,pI 0]:=by
  have hT:T=bL W:=yZ (by rw[hR.t];unfold bL;simp)
  have hm:n-(D.length:Nat)-a=m:=by have:=hR.e;have:=hR.dn;omega
  rw[hT,<- hm,<- hn];refine OD ?_;have hw:=hR.w;have hd:=hR.d;rw[nW]at hw hd ⊢;rw[jH,aF hl,hw,hd]
 rw[sP];have vO:=z2u T;rw[hR.t]at vO;obtain⟨kb,HD⟩:∃x,mq W=x:=⟨_,rfl⟩
 rw[HD]at vO ⊢;refine ap aU oF (f:=66) (c:=((Tryz.f66).body.getD .skip)) Tryz.func66 rfl kR (oT kR) ?_
 refine JZ s n a q zq W D T e1 m h0 hn h1 hq eJ hs hR ?_;refine aY.cutK 1 130 [] 0 (fun _:Unit=>[]) (fun _=>[]) (fun _=>False) aU mixed (fun _=>0) (fun E=>jG E cO (Tryz.f66).results.toList (.tup [.agg [pI (if kb=true then 2 else 1),pS T,pI a],pI m,pI 0])) kR ?_ (fun _ h=>h.elim)
 intro P G E hc hM hE;replace kH:=hc _ _ _ kH;replace vO:=hc _ _ _ vO;have z2:E.size T=m:=by rw[hE];exact hR.l
 clear hE hc hM hR nW sP fE hn hq eJ h1 HD
 cases kb
 all_goals
  cbv
  repeat (first|(refine⟨_,kH,?_⟩;cbv)|(refine⟨_,vO,?_⟩;cbv)|(simp only[z2];try cbv))
structure VO(m:Int)(W:Bs)(i:Int):Prop where
 i0:0<=i
 i1:i<=m
 d:∀k:Nat,(k:Int)<i->∀c,W[k]?=some c->eO c=true
theorem ztp{l W D:Bs}(hW:l.takeWhile mP=W)(hD:l.dropWhile mP=D):(W.all eO=false->qZ l=.bad 4)/\(W.all eO=true->l.takeWhile eO=W/\l.dropWhile eO=D/\D.head?.any oA=false):=by
 have hl:l=W++D:=by rw[<-hW,<- hD];exact(n6 (p:=mP) l).2.2.symm
 have Za:=(n6 (p:=mP) l).1;have Mw:=(n6 (p:=mP) l).2.1;rw[hW]at Za;rw[hD]at Mw
 constructor
 ·intro h;obtain⟨h1,h2,h3⟩:=n6 (p:=eO) W;have dN:W.dropWhile eO≠[]:=fun e=>by
   rw[e,cB]at h3;rw[h3]at h1;rw[aO.2 h1]at h
   cases h
  obtain⟨x,y,gh⟩:∃x y,W.dropWhile eO=x::y:=by
   cases hd:W.dropWhile eO with
   |nil=>exact absurd hd dN
   |cons x y=>exact⟨x,y,rfl⟩
  have hx:=h2 x (by rw[gh];rfl)
  have hxW:x∈W:=by rw[<-h3,gh];simp
  have hlx:oA x=true:=by
   have:=Za x hxW
   unfold mP at this;rw[hx,kK]at this;exact this
  have h5:=ld (p:=eO) (W.takeWhile eO) (x::(y++D)) h1 (fun c hc=>by cases hc;exact hx)
  have h6:W.takeWhile eO++x::(y++D)=l:=by
   have h7:W.takeWhile eO++x::(y++D)=(W.takeWhile eO++W.dropWhile eO)++D:=by rw[gh];simp
   rw[h7,h3,<- hl]
  rw[h6]at h5;unfold qZ;rw[h5.1,h5.2]
  split
  ·rfl
  ·rw[aF (show(x::(y++D)).head?.any oA=true from hlx)]
 ·intro h;have hda:∀c,D.head?=some c->eO c=false:=fun c hc=>by
   have:=Mw c hc
   unfold mP at this;simp only[cG]at this;exact this.2
  have h5:=ld (p:=eO) W D (aO.1 h) hda;rw[<-hl]at h5;refine⟨h5.1,h5.2,?_⟩
  cases hd:D.head? with
  |none=>rfl
  |some c=>
   have:=Mw c hd
   unfold mP at this;simp only[cG]at this;exact this.1
theorem z7o(s:ByteArray)(a:Int)(q:UInt8)(h0:0<=a)(hq:s.data.toList[a.toNat]?=some q)(hl:oA q=false)(hd:eO q=true)(hs:s.size<=900000):V0 66 [pS s,pI a] (mu s a):=by
 obtain⟨n,hn⟩:∃n:Int,((s.size:Nat):Int)=n:=⟨_,rfl⟩
 have h1:a<n:=by
  exact VL
 obtain⟨zq,eJ⟩:∃z:Int,((q.toNat:Nat):Int)=z:=⟨_,rfl⟩
 have nW:bB s a=q::bB s (a+1):=uW h0 hq;have fE:=rL s a;obtain⟨W,D,T,e1,m,hR⟩:=B8 s a h0 oM q
 rw[hn]at hR;have kH:=NK q zq false eJ hl;have nL:=NI q zq true eJ hd;have dQ:jH uB fR (bB s a)=qZ (bB s a):=by
  rw[nW,jH,aD LS,aF hd]
 obtain⟨GX,GW⟩:=ztp hR.w hR.d;have jZ:=hR.t;have za:=hR.l;have HP:=hR.e;have wN:=hR.en;have vH:=hR.dn;have YH:W.length=T.size:=by rw[<-jZ];rfl
 have z8:((W.length:Nat):Int)=m:=eC
 have jQ:W.head?=some q:=by
  have h5:=hR.w;rw[nW,List.takeWhile_cons,show mP q=true by unfold mP;rw[hd,mK]]at h5
  rw[<-h5];rfl
 have fQ:=fun(c:UInt8)(z:Int)(b:Bool)(hz:((c.toNat:Nat):Int)=z)(hb:eO c=b)=>NI c z b hz hb
 obtain⟨μ,hμ⟩:∃μ:Int->Nat,∀x,μ x=2000000000-x.toNat:=⟨_,fun _=>rfl⟩
 have jR:VO m W 0:=⟨bT _,by omega,fun k hk=>by omega⟩
 have vG:=z5d T;obtain⟨gb,rS⟩:∃x,QD T=x:=⟨_,rfl⟩
 rw[rS]at vG;obtain⟨bz,o6⟩:∃b,decide (zq=48)=b:=⟨_,rfl⟩
 have oK:m<=900000:=eC
 have hw:=hR.w;have uJ:=hR.d
 cases eH:W.all eO with
 |false=>
  have qW:=GX eH;rw[JY (dQ.trans qW)];clear GX GW dQ qW hw uJ;refine ap aU oF (f:=66) (c:=((Tryz.f66).body.getD .skip)) Tryz.func66 rfl kR (oT kR) ?_
  refine JZ s n a q zq W D T e1 m h0 hn h1 hq eJ hs hR ?_;refine aY.cutK 2 130 [] 0 (fun _:Unit=>[]) (fun _=>[]) (fun _=>False) aU mixed (fun _=>0) (fun E=>jG E cO (Tryz.f66).results.toList (.tup [.agg [pI 0,pS ⟨#[]⟩,pI 0],pI 0,pI 4])) kR ?_ (fun _ h=>h.elim)
  intro P G E hc hM hE;replace kH:=hc _ _ _ kH;replace nL:=hc _ _ _ nL;replace vG:=hc _ _ _ vG;replace fQ:=fun(c:UInt8)(z:Int)(b:Bool)(hz:((c.toNat:Nat):Int)=z)(hb:eO c=b)=>hc _ _ _ (fQ c z b hz hb)
  have z2:E.size T=m:=by rw[hE];exact za
  have elt:=yF hE;have eple:=uL hE;have eget:∀(i:Int)(c:UInt8)(z:Int),W[i.toNat]?=some c->((c.toNat:Nat):Int)=z->E.get T (E.nat i)=some z:=fun i c z h hz=>by
   exact Uv
  have eadd:=ub hE;have f48:decide (zq=48)=bz:=o6;have d2:E.lti 1 m=decide (1<m):=elt _ _;clear hE hc hM hR nW fE hn hq eJ h1 jZ;cbv
  repeat (first|(refine⟨_,kH,?_⟩;cbv)|(refine⟨_,nL,?_⟩;cbv))
  refine gV 130 [0,1,4,7,9,10] 1 (fun x:Int=>[.p (pS s),.p (pI a),.own 0 0,.p (.v (.int .u8 zq)),.p (pS T),.p (pI x)]) (fun _=>[some mB]) (VO m W) μ 0 r5 jR ?_
  clear jR
  rintro i ⟨i0,i1,hd⟩
  replace z8:((W.length:Nat):Int)=m:=z8
  rcases dV (i<m)with cQ|cQ
  ·have d1:E.lti i m=true:=C1
   obtain⟨c,eP⟩:∃c,W[i.toNat]?=some c:=⟨_,aB oM⟩
   obtain⟨z,hz⟩:∃z:Int,((c.toNat:Nat):Int)=z:=⟨_,rfl⟩
   have g1:=eget i c z eP hz;have p1:=eple 0 i i0
   cases tK:eO c with
   |true=>
    have hk:=fQ c z true hz tK;obtain⟨i2,nF⟩:∃x:Int,i+1=x:=⟨_,rfl⟩
    have ej:=eadd i 1 oM oM oM oM
    rw[nF]at ej;have lV:VO m W i2:=⟨by omega,by omega,fun k hk x hx=>by
     by_cases h:(k:Int)<i
     ·exact hd k h x hx
     ·rw[show k=i.toNat by omega,eP]at hx
      cases hx
      exact tK⟩
    have gA:μ i2<μ i:=qg
    clear fQ elt eple eget eadd hs eP hz nF tK hμ vH hd YH z8 jQ eH rS o6 za HP wN oK;exact Wp
   |false=>
    have hk:=fQ c z false hz tK;clear fQ elt eple eget eadd hs eP hz tK hμ vH hd YH z8 jQ eH rS o6 za HP wN oK;cbv
    repeat (first|(simp only[z2];try cbv)|(simp only[d1];try cbv)|(refine⟨p1,_,g1,?_⟩;cbv)|(refine⟨_,hk,?_⟩;cbv))
  ·exfalso
   have:W.all eO=true:=aO.2 fun c hc=>by
    obtain⟨k,hk⟩:=nH.1 hc;have lI:=(aC.1 hk).1;exact hd k oM c hk
   rw[eH]at this
   cases this
 |true=>
  obtain⟨h5,h6,h7⟩:=GW eH;have CF:∀c∈T.data.toList,eO c=true:=by rw[jZ];exact aO.1 eH
  have ur:¬(W.head?=some 48/\1<W.length)->gb=decide (9223372036854775807<lE W):=fun h=>by
   rw[<-rS,z5e T CF (by rw[jZ];exact h),jZ]
  obtain⟨RV,eI⟩:∃x,mu s a=x:=⟨_,rfl⟩
  have uE:(bz=true/\1<m)->RV=.tup [.agg [pI 0,pS ⟨#[]⟩,pI 0],pI 0,pI 4]:=fun⟨hb,kS⟩=>by
   rw[<-eI];refine JY (dQ.trans ?_);have GS:q=48:=by
    rw[hb]at o6
    have:=oT o6
    exact cY.1 (by show q.toNat=48;omega)
   unfold qZ;rw[h5,h6,aF ⟨by rw[jQ,GS],by omega⟩]
  have WZ:¬(bz=true/\1<m)->¬(W.head?=some 48/\1<W.length):=fun h ⟨ha,hb⟩=>h ⟨by
   rw[jQ]at ha;have GS:=bA ha;rw[<-o6];exact aA (by rw[<-eJ,GS];rfl),by omega⟩
  have jY:¬(bz=true/\1<m)->gb=true->RV=.tup [.agg [pI 0,pS ⟨#[]⟩,pI 0],pI 0,pI 5]:=fun h hg=>by
   rw[<-eI];refine JY (dQ.trans ?_);have hx:=ur (WZ h);rw[hg]at hx;unfold qZ;rw[h5,h6,aD (WZ h),aD (by rw[h7];decide),aF (oT hx.symm)]
  have zL:¬(bz=true/\1<m)->gb=false->RV=.tup [.agg [pI 3,pS T,pI a],pI m,pI 0]:=fun h hg=>by
   have hT:T=bL W:=yZ (by rw[jZ];unfold bL;simp)
   have hm:n-(D.length:Nat)-a=m:=eC
   rw[<-eI,hT,<- hm,<- hn];refine OD (dQ.trans ?_);have hx:=ur (WZ h);rw[hg]at hx;unfold qZ;rw[h5,h6,aD (WZ h),aD (by rw[h7];decide),aD (gB hx.symm)]
  rw[eI];clear GX GW dQ hw uJ h5 h6 h7 CF ur WZ eI;refine ap aU oF (f:=66) (c:=((Tryz.f66).body.getD .skip)) Tryz.func66 rfl kR (oT kR) ?_
  refine JZ s n a q zq W D T e1 m h0 hn h1 hq eJ hs hR ?_;refine aY.cutK 2 130 [] 0 (fun _:Unit=>[]) (fun _=>[]) (fun _=>False) aU mixed (fun _=>0) (fun E=>jG E cO (Tryz.f66).results.toList RV) kR ?_ (fun _ h=>h.elim)
  intro P G E hc hM hE;replace kH:=hc _ _ _ kH;replace nL:=hc _ _ _ nL;replace vG:=hc _ _ _ vG;replace fQ:=fun(c:UInt8)(z:Int)(b:Bool)(hz:((c.toNat:Nat):Int)=z)(hb:eO c=b)=>hc _ _ _ (fQ c z b hz hb)
  have z2:E.size T=m:=by rw[hE];exact za
  have elt:=yF hE;have eple:=uL hE;have eget:∀(i:Int)(c:UInt8)(z:Int),W[i.toNat]?=some c->((c.toNat:Nat):Int)=z->E.get T (E.nat i)=some z:=fun i c z h hz=>by
   exact Uv
  have eadd:=ub hE;have f48:decide (zq=48)=bz:=o6;have d2:E.lti 1 m=decide (1<m):=elt _ _;clear hE hc hM hR nW fE hn hq eJ h1 jZ;cbv
  repeat (first|(refine⟨_,kH,?_⟩;cbv)|(refine⟨_,nL,?_⟩;cbv))
  refine gV 130 [0,1,4,7,9,10] 1 (fun x:Int=>[.p (pS s),.p (pI a),.own 0 0,.p (.v (.int .u8 zq)),.p (pS T),.p (pI x)]) (fun _=>[some mB]) (VO m W) μ 0 r5 jR ?_
  clear jR
  rintro i ⟨i0,i1,hd⟩
  replace z8:((W.length:Nat):Int)=m:=z8
  rcases dV (i<m)with cQ|cQ
  ·have d1:E.lti i m=true:=C1
   obtain⟨c,eP⟩:∃c,W[i.toNat]?=some c:=⟨_,aB oM⟩
   obtain⟨z,hz⟩:∃z:Int,((c.toNat:Nat):Int)=z:=⟨_,rfl⟩
   have g1:=eget i c z eP hz;have p1:=eple 0 i i0;have tK:eO c=true:=aO.1 eH c (aH eP);have hk:=fQ c z true hz tK;obtain⟨i2,nF⟩:∃x:Int,i+1=x:=⟨_,rfl⟩
   have ej:=eadd i 1 oM oM oM oM
   rw[nF]at ej;have lV:VO m W i2:=⟨by omega,by omega,fun k hk x hx=>aO.1 eH x (aH hx)⟩
   have gA:μ i2<μ i:=qg
   clear fQ elt eple eget eadd hs eP hz nF tK hμ vH hd YH z8 jQ eH rS o6 za HP wN oK uE jY zL;exact Wp
  ·have d1:E.lti i m=false:=by rw[elt];exact dF cQ
   rcases dV (bz=true/\1<m)with ym|ym
   ·have hv:=uE ym;subst hv;rw[aA ym.2]at d2;rw[ym.1]at f48;clear fQ elt eple eget eadd hs hμ vH hd YH z8 jQ eH rS o6 za HP wN oK uE jY zL ym;cbv
    repeat (first|(simp only[z2];try cbv)|(simp only[d1];try cbv)|(simp only[f48];try cbv)|(simp only[d2];try cbv))
   ·have MT:(bz=false)\/(bz=true/\E.lti 1 m=false):=by
     cases hb:bz with
     |false=>exact .inl rfl
     |true=>exact .inr ⟨rfl,by rw[d2];exact dF fun h=>ym ⟨hb,h⟩⟩
    cases hg:gb with
    |true=>
     have hv:=jY ym hg;exact Xx
    |false=>
     have hv:=zL ym hg;exact Xx
theorem z7m(s:ByteArray)(a:Int)(q:UInt8)(h0:0<=a)(hq:s.data.toList[a.toNat]?=some q)(tF:q=34\/q=39)(hs:s.size<=900000):V0 66 [pS s,pI a] (mu s a):=by
 obtain⟨n,hn⟩:∃n:Int,((s.size:Nat):Int)=n:=⟨_,rfl⟩
 have h1:a<n:=by
  exact VL
 obtain⟨zq,eJ⟩:∃z:Int,((q.toNat:Nat):Int)=z:=⟨_,rfl⟩
 have nW:bB s a=q::bB s (a+1):=uW h0 hq;have fE:=rL s a;obtain⟨W,D,T,e1,m,hR⟩:=B8 s a h0 oM q
 rw[hn]at hR;obtain⟨hl,hd⟩:=Sj tF;have kH:=NK q zq false eJ hl;have nL:=NI q zq false eJ hd;have uP:=zs6 s a q h0 hq oM
 have gm:=rL s (a+1);have dQ:jH uB fR (bB s a)=match lit uB q (bB s (a+1))with
  |none=>.bad 4
  |some z=>.ok 4 (fR z.1) z.2:=by
  rw[nW,jH,aD LS,aD UO,aF tF]
  cases lit uB q (bB s (a+1))<;>rfl
 unfold QA at uP;have hf:(decide (zq=34)=true/\True)\/(decide (zq=34)=false/\decide (zq=39)=true):=by
  rcases tF with rfl|rfl
  ·exact .inl ⟨aA (by rw[<-eJ];rfl),trivial⟩
  ·exact .inr ⟨dF (by rw[<-eJ];decide),aA (by rw[<-eJ];rfl)⟩
 cases wJ:lit uB q (bB s (a+1))with
 |none=>
  rw[wJ]at dQ uP;simp only at uP dQ;rw[JY dQ];have f3:decide ((0:Int)=0)=true:=rfl;clear dQ wJ tF hl hd;refine ap aU oF (f:=66) (c:=((Tryz.f66).body.getD .skip)) Tryz.func66 rfl kR (oT kR) ?_
  refine JZ s n a q zq W D T e1 m h0 hn h1 hq eJ hs hR ?_;refine aY.cutK 3 130 [] 0 (fun _:Unit=>[]) (fun _=>[]) (fun _=>False) aU mixed (fun _=>0) (fun E=>jG E cO (Tryz.f66).results.toList (.tup [.agg [pI 0,pS ⟨#[]⟩,pI 0],pI 0,pI 4])) kR ?_ (fun _ h=>h.elim)
  exact Xy
 |some p=>
  obtain⟨t,r⟩:=p;rw[wJ]at dQ uP;simp only at uP dQ;rw[OD dQ];unfold lr;obtain⟨u,gG,gM,_⟩:=E6 uB q _ _ _ wJ;have hlen:(bB s (a+1)).length=u.length+r.length:=by rw[gM,sD]
  obtain⟨e2,tJ⟩:∃x:Int,n-(r.length:Nat)-a=x:=⟨_,rfl⟩
  rw[hn,tJ]at uP ⊢;have f3:decide (e2=0)=false:=dF oM
  have ke:(bL t).data.toList=t:=LO
  have tD:cb (bL t)=bL (fR t):=by
   unfold cb;rw[ke];rfl
  rw[tD]at uP;obtain⟨X,hX⟩:∃x,bL (fR t)=x:=⟨_,rfl⟩
  rw[hX]at uP;rw[hX];clear dQ wJ tF hl hd gG gM hlen tJ ke tD hX;refine ap aU oF (f:=66) (c:=((Tryz.f66).body.getD .skip)) Tryz.func66 rfl kR (oT kR) ?_
  refine JZ s n a q zq W D T e1 m h0 hn h1 hq eJ hs hR ?_;refine aY.cutK 3 130 [] 0 (fun _:Unit=>[]) (fun _=>[]) (fun _=>False) aU mixed (fun _=>0) (fun E=>jG E cO (Tryz.f66).results.toList (.tup [.agg [pI 4,pS X,pI a],pI e2,pI 0])) kR ?_ (fun _ h=>h.elim)
  exact Xy
structure Kx(L:Bs)(i:Int):Prop where
 i0:0<=i
 i1:i<=35
 f:qC L=(zf.drop i.toNat).find? (fun o=>decide (L.take o.length=o))
theorem z3n:∀t∈lu,t.size<=3:=aN
theorem xcm(s:ByteArray)(a:Int)(q:UInt8)(h0:0<=a)(hq:s.data.toList[a.toNat]?=some q)(hl:oA q=false)(hd:eO q=false)(tF:¬(q=34\/q=39))(hs:s.size<=900000):V0 66 [pS s,pI a] (mu s a):=by
 obtain⟨n,hn⟩:∃n:Int,((s.size:Nat):Int)=n:=⟨_,rfl⟩
 have h1:a<n:=by
  exact VL
 obtain⟨zq,eJ⟩:∃z:Int,((q.toNat:Nat):Int)=z:=⟨_,rfl⟩
 have nW:bB s a=q::bB s (a+1):=uW h0 hq;have fE:=rL s a;obtain⟨W,D,T,e1,m0,hR⟩:=B8 s a h0 oM q
 rw[hn]at hR;have kH:=NK q zq false eJ hl;have nL:=NI q zq false eJ hd;have nD:=zrt;have dg:=fun(t:ByteArray)(b:Bool)(ht:t.size<=3)(hb:uU s a t.data.toList=b)=>show V0 96 [pS s,pI a,pS t] (pB b)from hb ▸ Ph s t a h0 oM oM oM
 have f1:decide (zq=34)=false:=dF fun e=>tF (.inl (cY.1 (by show q.toNat=34;omega)))
 have f2:decide (zq=39)=false:=dF fun e=>tF (.inr (cY.1 (by show q.toNat=39;omega)))
 obtain⟨L,hL⟩:∃x,bB s a=x:=⟨_,rfl⟩
 have dQ:jH uB fR L=match qC L with
  |none=>.bad 4
  |some w=>.ok 5 w (L.drop w.length):=by
  rw[<-hL,nW,jH,aD LS,aD UO,aD tF]
  cases qC (q::bB s (a+1))<;>rfl
 obtain⟨RV,eI⟩:∃x,mu s a=x:=⟨_,rfl⟩
 have sG:qC L=none->RV=.tup [.agg [pI 0,pS ⟨#[]⟩,pI 0],pI 0,pI 4]:=fun h=>by
  rw[<-eI];exact JY (by rw[hL,dQ,h])
 have uE:∀(t:ByteArray)(m:Int),qC L=some t.data.toList->((t.size:Nat):Int)=m->RV=.tup [.agg [pI 5,pS t,pI a],pI m,pI 0]:=fun t m h hm=>by
  have hT:bL t.data.toList=t:=yZ LO
  obtain⟨_,_,h3⟩:=Ac h;have h4:t.data.toList.length=t.size:=rfl;have h5:(L.drop t.data.toList.length).length=L.length-t.data.toList.length:=zC;rw[hL]at fE;rw[<-eI,OD (show jH uB fR (bB s a)=.ok 5 t.data.toList (L.drop t.data.toList.length) by rw[hL,dQ,h])]
  unfold lr;rw[hT,show((s.size:Nat):Int)-((L.drop t.data.toList.length).length:Nat)-a=m by omega]
 have vE:(dw lu).length=35:=rfl;have hg:∀(k:Nat) x,lu[k]?=some x->(dw lu)[k]?=some [pS x]:=fun k x h=>by
  unfold dw;rw[aI,h];rfl
 have CA:∀(k:Nat) x,lu[k]?=some x->zf.drop k=x.data.toList::zf.drop (k+1):=fun k x h=>by
  have h2:zf[k]?=some x.data.toList:=by rw[<-xdw,aI,h];rfl
  have h3:=(aC.1 h2).1;rw[cU h3]
  congr 1
  exact(aC.1 h2).2
 have lI:lu.length=35:=rfl;have jA:zf.length=35:=rfl;have jR:Kx L 0:=⟨bT _,by decide,z8j L⟩
 obtain⟨μ,hμ⟩:∃μ:Int->Nat,∀i,μ i=200000-i.toNat:=⟨_,fun _=>rfl⟩
 have CC:∀t:ByteArray,uU s a t.data.toList=decide (L.take t.data.toList.length=t.data.toList):=fun t=>by unfold uU;rw[hL]
 rw[eI];clear eI dQ nW fE;obtain⟨LR,tN⟩:∃x,dw lu=x:=⟨_,rfl⟩
 rw[tN]at nD vE hg;clear tN;refine ap aU oF (f:=66) (c:=((Tryz.f66).body.getD .skip)) Tryz.func66 rfl kR (oT kR) ?_
 refine JZ s n a q zq W D T e1 m0 h0 hn h1 hq eJ hs hR ?_;clear hR;refine aY.cutK0 4 130 [0,1,4,13] 1 (fun _:Unit=>[.p (pS s),.p (pI a),.own 0 0,.p (.ro 1 LR)]) (fun _=>[some mB]) (fun _=>True) aU mixed (fun _=>0) kR ?_ ?_
 ·intro P G E hc hM hE;replace kH:=hc _ _ _ kH;replace nL:=hc _ _ _ nL;replace nD:=hc _ _ _ nD;clear hE hc hM dg hg CA sG uE jR CC hμ hn h1 hq eJ hs;cbv
  repeat (first|(refine⟨_,kH,?_⟩;cbv)|(refine⟨_,nL,?_⟩;cbv)|(simp only[f1];try cbv)|(simp only[f2];try cbv)|(refine⟨_,nD,?_⟩;cbv))
  exact FT
 intro _ _;clear kH nL nD f1 f2;refine aY.cut 130 [0,1,4] 1 (fun _:Unit=>[.p (pS s),.p (pI a),.own 0 0]) (fun _=>[some mB]) (fun _=>qC L=none) ?_ ?_
 ·refine aY.cut 130 [0,1,4,13,14] 1 (fun _:Unit=>[.p (pS s),.p (pI a),.own 0 0,.p (.ro 1 LR),.p (pI 0)]) (fun _=>[some mB]) (fun _=>True) ?_ ?_
  ·refine aY.of0 aU mixed (fun _=>0) kR fun P G E hc hM hE=>?_
   clear hE hc hM dg hg CA sG uE jR CC hμ hn h1 hq eJ hs;cbv;exact FT
  intro _ _;refine aY.block ?_;refine aY.loop 130 [0,1,4,13,14] 1 (fun i:Int=>[.p (pS s),.p (pI a),.own 0 0,.p (.ro 1 LR),.p (pI i)]) (fun _=>[some mB]) (Kx L) μ 0 r5 jR ?_
  clear jR
  rintro i ⟨i0,i1,hf⟩
  rcases dV (i<35)with cQ|cQ
  ·obtain⟨t,ht⟩:∃t,lu[i.toNat]?=some t:=⟨_,aB oM⟩
   have ya:=z3n t (aH ht);have jy:=hg _ _ ht;have mi:=CA _ _ ht;have ke:=CC t;refine aY.cut 130 [0,1,4,13,14] 1 (fun _:Unit=>[.p (pS s),.p (pI a),.own 0 0,.p (.ro 1 LR),.p (pI i)]) (fun _=>[some mB]) (fun _=>True) ?_ ?_
   ·refine aY.of0 aU mixed (fun _=>0) kR fun P G E hc hM hE=>?_
    have v1:E.ofN 35=35:=fH
    have d1:E.lti i 35=true:=Jm
    clear hE hc hM dg hg CA sG uE CC hμ hn h1 hq eJ hs ya jy mi ke hf ht;cbv at vE;cbv
    repeat (first|(simp only[vE];try cbv)|(simp only[v1];try cbv)|(simp only[d1];try cbv))
    exact FT
   intro _ _
   cases hb:uU s a t.data.toList with
   |true=>
    have dI:=dg t true ya hb;obtain⟨m,hm⟩:∃m:Int,((t.size:Nat):Int)=m:=⟨_,rfl⟩
    have hv:=uE t m (by
     rw[hf,mi,vb,<- ke,hb]) hm
    subst hv;clear sG uE hf mi ke hb CC CA dg hg hμ;refine aY.never ?_;refine aY.block ?_;refine aY.cut 130 [0,1,4,13,14,117] 1 (fun _:Unit=>[.p (pS s),.p (pI a),.own 0 0,.p (.ro 1 LR),.p (pI i),.p (pB true)]) (fun _=>[some mB]) (fun _=>True) ?_ ?_
    ·refine aY.of0 aU mixed (fun _=>0) kR fun P G E hc hM hE=>?_
     replace dI:=hc _ _ _ dI;have v1:E.ofN 35=35:=fH
     have p1:E.ple 0 i:=by rw[hE];exact i0
     have g1:LR[E.nat i]?=some [pS t]:=by rw[hE];exact jy
     clear hE hc hM hn h1 hq eJ hs ya jy ht;exact Wc
    intro _ _;refine aY.condT rfl ?_;refine aY.cut 130 [4,5,6] 1 (fun _:Unit=>[.own 0 0,.p (pI m),.p (pI 0)]) (fun _=>[some (qG 5 t a)]) (fun _=>True) ?_ ?_
    ·refine aY.regM0 aU mixed 12 [11] (fun i=>match i with|11=>1|_=>0) kR fun P G E hc hM hE=>?_
     have v1:E.ofN 35=35:=fH
     have p1:E.ple 0 i:=by rw[hE];exact i0
     have g1:LR[E.nat i]?=some [pS t]:=by rw[hE];exact jy
     have z1:E.size t=m:=by rw[hE];exact hm
     clear hE hc hM hn h1 hq eJ hs ya jy ht dI;cbv at vE;cbv
     repeat (first|(simp only[vE];try cbv)|(simp only[v1];try cbv)|(refine⟨p1,_,g1,?_⟩;cbv)|(simp only[z1];try cbv))
     refine⟨(.mk wC),p1,_,g1,?_⟩
     cbv
     repeat (first|(refine⟨p1,_,g1,?_⟩;cbv)|(simp only[z1];try cbv))
     refine⟨(.mk wC),?_⟩
     exact .mk () r5 trivial
    intro _ _;refine aY.of0 aU mixed (fun _=>0) kR fun P G E hc hM hE=>?_
    clear hE hc hM hn h1 hq eJ hs ya jy ht dI;cbv;all_goals trivial
   |false=>
    have dI:=dg t false ya hb;obtain⟨i2,nF⟩:∃x:Int,i+1=x:=⟨_,rfl⟩
    have lV:Kx L i2:=by
     refine⟨by omega,by omega,?_⟩
     rw[hf,mi,vb,<- ke,hb,show i2.toNat=i.toNat+1 by omega]
    have gA:μ i2<μ i:=qg
    clear sG uE hf mi ke hb CC CA dg hg hμ;refine aY.cut 130 [0,1,4,13,14] 1 (fun _:Unit=>[.p (pS s),.p (pI a),.own 0 0,.p (.ro 1 LR),.p (pI i)]) (fun _=>[some mB]) (fun _=>True) ?_ ?_
    ·refine aY.block ?_;refine aY.cut 130 [0,1,4,13,14,117] 1 (fun _:Unit=>[.p (pS s),.p (pI a),.own 0 0,.p (.ro 1 LR),.p (pI i),.p (pB false)]) (fun _=>[some mB]) (fun _=>True) ?_ ?_
     ·refine aY.of0 aU mixed (fun _=>0) kR fun P G E hc hM hE=>?_
      replace dI:=hc _ _ _ dI;have v1:E.ofN 35=35:=fH
      have p1:E.ple 0 i:=by rw[hE];exact i0
      have g1:LR[E.nat i]?=some [pS t]:=by rw[hE];exact jy
      clear hE hc hM hn h1 hq eJ hs ya jy ht nF lV gA;exact Wc
     intro _ _;refine aY.condF rfl ?_;refine aY.of0 aU mixed (fun _=>0) kR fun P G E hc hM hE=>?_
     clear hE hc hM hn h1 hq eJ hs ya jy ht nF lV gA dI;cbv;exact .mk () r5 trivial
    intro _ _;refine aY.of0 aU mixed (fun _=>0) kR fun P G E hc hM hE=>?_
    have ej:E.wadd .i64 i 1=i2:=FR
    clear hE hc hM hn h1 hq eJ hs ya jy ht nF dI;cbv
    repeat (first|(simp only[ej];try cbv))
    refine .mk i2 r5 ?_ ?_
    ·exact lV
    ·exact gA
  ·have Zl:i=35:=eC
   have mS:qC L=none:=by
    rw[hf,Zl];rfl
   refine aY.never ?_;refine aY.of0 aU mixed (fun _=>0) kR fun P G E hc hM hE=>?_
   have v1:E.ofN 35=35:=fH
   have d1:E.lti i 35=false:=by rw[hE];exact dF cQ
   clear hE hc hM dg hg CA sG uE CC hμ hn h1 hq eJ hs hf Zl;cbv at vE;cbv
   repeat (first|(simp only[vE];try cbv)|(simp only[v1];try cbv)|(simp only[d1];try cbv))
   exact .mk () r5 mS
 intro _ mS;have hv:=sG mS;subst hv;refine aY.of0 aU mixed (fun _=>0) kR fun P G E hc hM hE=>?_
 clear hE hc hM dg hg CA sG uE jR CC hμ hn h1 hq eJ hs mS;cbv;all_goals trivial
theorem z7n(s:ByteArray)(a:Int)(h0:0<=a)(h1:a<(s.size:Nat))(hs:s.size<=900000):V0 66 [pS s,pI a] (mu s a):=by
 obtain⟨q,hq⟩:∃q,s.data.toList[a.toNat]?=some q:=⟨_,aB (by show a.toNat<s.size;omega)⟩
 cases hl:oA q with
 |true=>exact z2k s a q h0 hq hl hs
 |false=>
  cases hd:eO q with
  |true=>exact z7o s a q h0 hq hl hd hs
  |false=>
   rcases dV (q=34\/q=39)with tF|tF
   ·exact z7m s a q h0 hq tF hs
   ·exact xcm s a q h0 hq hl hd tF hs
def xj(s:ByteArray):PV:=match lF s.data.toList with
 |(ts,none)=>.tup [.ro 3 (kY (s.size:Nat) ts),pI 0,pI 0]
 |(ts,some p)=>.tup [.ro 3 (kY (s.size:Nat) ts),pI ((s.size:Nat)-(p.1:Nat)),pI p.2]
def FG(n:Int)(TS:List Tk)(ER:Option (Nat×Int)):PV:=match ER with
 |none=>.tup [.ro 3 (kY n TS),pI 0,pI 0]
 |some p=>.tup [.ro 3 (kY n TS),pI (n-(p.1:Nat)),pI p.2]
theorem z0z(s:ByteArray)(hs:s.size<=900000):V0 39 [pS s] (xj s):=by
 obtain⟨TS,ER,hL⟩:∃a b,lF s.data.toList=(a,b):=⟨_,_,rfl⟩
 have sP:xj s=FG (s.size:Nat) TS ER:=by
  unfold xj FG;rw[hL]
  cases ER<;>rfl
 obtain⟨n,hn⟩:∃n:Int,((s.size:Nat):Int)=n:=⟨_,rfl⟩
 rw[sP,hn];have jR:MD s n TS ER (0,0,[]):=⟨bT _,by show 0<=n;omega,[],rfl,rfl,by show(0:Int)<=0;omega,by show TS=[]++(lF s.data.toList).1;rw[hL];rfl,by show ER=(lF s.data.toList).2;rw[hL]⟩
 obtain⟨RV,eI⟩:∃x,FG n TS ER=x:=⟨_,rfl⟩
 rw[eI];obtain⟨μ,hμ⟩:∃μ:Int->Nat,∀x,μ x=2000000000-x.toNat:=⟨_,fun _=>rfl⟩
 have lQ:=fun(i:Int)(r:Bs)(b:Bool)(e:Int)(h0:0<=i)(h1:i<=n)(hR:lA (bB s i)=(r,b))(he:n-(r.length:Nat)=e)=>show V0 65 [pS s,pI i] (.tup [pI e,pB b])from he ▸ hn ▸ z2n s i r b h0 oM oM hR
 have rQ:=fun(i:Int)(h0:0<=i)(h1:i<n)=>z7n s i h0 oM hs
 refine eZ Tryz.func39 fun P G E hc hE=>?_
 replace lQ:=fun(i:Int)(r:Bs)(b:Bool)(e:Int)(h0:0<=i)(h1:i<=n)(hR:lA (bB s i)=(r,b))(he:n-(r.length:Nat)=e)=>hc _ _ _ (lQ i r b e h0 h1 hR he)
 replace rQ:=fun(i:Int)(h0:0<=i)(h1:i<n)=>hc _ _ _ (rQ i h0 h1)
 have z1:E.size s=n:=iY
 have d0:E.lti 1048576 n=false:=sE
 have eadd:=ub hE;have eroom:∀m:Nat,m<=2000000->E.room m 1 32:=fun m h=>by rw[hE];exact⟨by unfold maxLen;omega,by omega⟩
 have eaddN:∀m:Nat,E.addN m 1=m+1:=fun m=>by rw[hE];rfl
 have eapp:∀(rs:List (List PV))(m:Nat) x,m=rs.length->E.app rs m [x]=rs++[x]:=fun rs m x h=>by rw[hE];show rs.take m++[x]=_;rw[h,lz]
 have epre:∀(m:Nat)(rs:List (List PV)),m<=rs.length->E.pre 0 m rs:=fun m rs h=>by rw[hE];show 0+m<=rs.length;omega
 have esub:∀(m:Nat)(rs:List (List PV)),m=rs.length->E.sub rs 0 m=rs:=fun m rs h=>by rw[hE];show(rs.drop 0).take m=rs;rw[BD,h,lz]
 have es1:∀x:List PV,E.sub [x] 0 1=[x]:=fun x=>by rw[hE];rfl
 clear hE hc;cbv
 repeat (first|(simp only[z1];try cbv)|(simp only[d0];try cbv))
 refine iU.wk (DL (d:=5) 3 59 rfl) ?_;refine gV 49 [0,5,6] 1 (fun x:Int×Nat×List (List PV)=>[.p (pS s),.osl 0 0 x.2.1,.p (pI x.1)]) (fun x=>[some (.rows 3 x.2.2 59)]) (MD s n TS ER) (fun x=>μ x.1) (0,0,[]) r5 jR ?_
 clear jR d0
 rintro⟨i,m,rs⟩ ⟨i0,i1,done,dY,hm,jJ,oP,qL⟩
 simp only at i0 i1 dY hm jJ oP qL;replace hn:((s.size:Nat):Int)=n:=hn;replace hm:done.length=m:=hm;replace jJ:((done.length:Nat):Int)<=i:=jJ;have fE:=rL s i;obtain⟨r,b,tE⟩:∃r b,lA (bB s i)=(r,b):=⟨_,_,rfl⟩
 have hle:=DG (bB s i);rw[tE]at hle;simp only at hle;obtain⟨v,hv⟩:=P2 (bB s i);rw[tE]at hv;simp only at hv;obtain⟨f,hf⟩:∃x:Int,n-(r.length:Nat)=x:=⟨_,rfl⟩
 have xI:=lQ i r b f i0 i1 tE hf;have yn:(bB s i).length=v.length+r.length:=by rw[hv,sD]
 have nu:r=bB s f:=by
  exact V2
 have mY:=Ez _ r b tE;have qJ:m=rs.length:=by rw[dY,wu,hm]
 have p0:=epre m rs oM
 have t0:=esub m rs qJ
 cases b with
 |false=>
  have hx:=Qh uB fR tE;change lF (bB s i)=_ at hx;rw[hx]at oP qL;simp only[cB]at oP qL;have jY:RV=.tup [.ro 3 rs,pI f,pI 4]:=by
   rw[<-eI,qL,oP,dY,<- hf];rfl
  subst jY;clear eI rQ lQ dY hm jJ oP qL fE tE hle hv hf yn nu mY hx hμ hn hs hL sP eadd eroom eaddN eapp epre esub es1 qJ;cbv
  repeat (first|(refine⟨_,xI,?_⟩;cbv)|(refine⟨p0,?_⟩;cbv)|(simp only[t0];try cbv))
  all_goals trivial
 |true=>
  rcases mY.2 rfl with ye|⟨c,r',yg,hw,hk⟩
  ·have hx:=Gb uB fR (l:=bB s i) (by rw[tE,ye])
   change lF (bB s i)=_ at hx;rw[hx]at oP qL;simp only[cB]at oP qL;have jY:RV=.tup [.ro 3 rs,pI 0,pI 0]:=by rw[<-eI,qL,oP,dY];rfl
   have uu:f=n:=by rw[<-hf,ye];show n-0=n;omega
   have d1:decide (n=n)=true:=aA rfl;subst jY uu;clear eI rQ lQ dY hm jJ oP qL fE tE hle hv hf yn nu mY hx hμ hn hs hL ye sP eadd eroom eaddN eapp epre esub es1 qJ;cbv
   repeat (first|(refine⟨_,xI,?_⟩;cbv)|(simp only[z1];try cbv)|(simp only[d1];try cbv)|(refine⟨p0,?_⟩;cbv)|(simp only[t0];try cbv))
   all_goals trivial
  ·have pG:0<r.length:=by rw[yg];simp
   have d1:decide (f=n)=false:=dF oM
   have oJ:=rQ f oM oM
   cases dQ:jH uB fR r with
   |bad e=>
    have hx:=Qq uB fR tE (by rw[yg];exact bK _ _) dQ
    change lF (bB s i)=_ at hx;rw[hx]at oP qL;simp only[cB]at oP qL;rw[JY Bw]at oJ
    have XZ:decide (e=0)=false:=dF (Fe dQ);have jY:RV=.tup [.ro 3 rs,pI f,pI e]:=by
     rw[<-eI,qL,oP,dY,<- hf];rfl
    subst jY;clear eI rQ lQ dY hm jJ oP qL fE tE hle hv hf yn nu mY hx hμ hn hs hL yg hw hk pG dQ sP eadd eroom eaddN eapp epre esub es1 qJ;cbv
    repeat (first|(refine⟨_,xI,?_⟩;cbv)|(simp only[z1];try cbv)|(simp only[d1];try cbv)|(refine⟨_,oJ,?_⟩;cbv)|(simp only[XZ];try cbv)|(refine⟨p0,?_⟩;cbv)|(simp only[t0];try cbv))
    all_goals trivial
   |ok k t r2=>
    have hx:=PF uB fR tE dQ;change lF (bB s i)=(_::(lF r2).1,(lF r2).2)at hx;rw[hx]at oP qL;simp only at oP qL;rw[OD Bw,hn]at oJ
    unfold lr at oJ;have cQ:=DF uB fR dQ;obtain⟨w,nn,m9,_⟩:=OO uB fR dQ;obtain⟨e1,rG⟩:∃x:Int,n-(r2.length:Nat)=x:=⟨_,rfl⟩
    rw[rG]at oJ;obtain⟨e2,tJ⟩:∃x:Int,e1-f=x:=⟨_,rfl⟩
    rw[tJ]at oJ;have yf:bB s f=w++r2:=by rw[<-nu,m9]
    have gm:=aG List.length m9;rw[sD]at gm;have oI:r2=bB s e1:=by
     exact Vs
    obtain⟨T,hT⟩:∃x,bL t=x:=⟨_,rfl⟩
    rw[hT]at oJ;obtain⟨RS2,eA⟩:∃x,rs++[[pI k,pS T,pI f]]=x:=⟨_,rfl⟩
    have a1:=eapp rs m [pI k,pS T,pI f] qJ;rw[eA]at a1;have a2:=eaddN m;obtain⟨m1,oK⟩:∃x,m+1=x:=⟨_,rfl⟩
    rw[oK]at a2;have a3:=es1 [pI k,pS T,pI f];have p4:=eroom m oM
    have p5:=epre 1 [[pI k,pS T,pI f]] (nR 1);have e5:=eadd f e2 oM oM oM oM
    rw[show f+e2=e1 by omega]at e5
    have lV:MD s n TS ER (e1,m1,RS2):=by
     exact Xf
    have gA:μ e1<μ i:=qg
    have f0:decide ((0:Int)=0)=true:=rfl;clear eI rQ lQ dY hm jJ oP qL fE tE hle hv hf yn nu mY hx hμ hn hs hL yg hw hk pG dQ cQ nn m9 rG tJ yf gm oI hT qJ eA oK sP eadd eroom eaddN eapp epre esub es1 t0;cbv
    repeat (first|(refine⟨_,xI,?_⟩;cbv)|(simp only[z1];try cbv)|(simp only[d1];try cbv)|(refine⟨_,oJ,?_⟩;cbv)|(simp only[f0];try cbv)|(refine⟨p5,p0,p4,?_⟩;cbv)|(simp only[a3,a1,a2];try cbv)|(simp only[e5];try cbv))
    refine .mk (e1,m1,RS2) r5 ?_ ?_
    ·exact lV
    ·exact gA
theorem z7r(s:ByteArray)(hs:s.size<=900000):V0 14 [pS s] (KS s):=by
 have hb:=z0z s hs;unfold xj at hb;obtain⟨TS,ER,hL⟩:∃a b,lF s.data.toList=(a,b):=⟨_,_,rfl⟩
 rw[hL]at hb
 cases ER with
 |none=>
  rw[DI hL];simp only at hb;generalize kY (s.size:Nat) TS=RS at *;have f0:decide ((0:Int)=0)=true:=rfl;refine eZ Tryz.func14 fun P G E hc hE=>?_
  replace hb:=hc _ _ _ hb;clear hE hc hL;cbv
  repeat (first|(refine⟨_,hb,?_⟩;cbv)|(simp only[f0];try cbv))
 |some p=>
  obtain⟨m,e⟩:=p;rw[A3 hL];have he:e≠0:=NX _ _ m e (aG Prod.snd hL);have d1:decide (e=0)=false:=dF he;simp only at hb;generalize kY (s.size:Nat) TS=RS at *;obtain⟨f,hf⟩:∃x:Int,((s.size:Nat):Int)-(m:Nat)=x:=⟨_,rfl⟩
  rw[hf]at hb ⊢;refine eZ Tryz.func14 fun P G E hc hE=>?_
  replace hb:=hc _ _ _ hb;clear hE hc hL he hf;cbv
  repeat (first|(refine⟨_,hb,?_⟩;cbv)|(simp only[d1];try cbv))
end Go.Proofs.YtjkcdcloomkooaaGreatDoor
