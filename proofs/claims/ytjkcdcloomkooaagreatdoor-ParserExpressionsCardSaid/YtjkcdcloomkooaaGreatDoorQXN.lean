/- Own work: walks and laws of the parser and its reference. -/
import Derived.Test.YtjkcdcloomkooaaGreatDoorQXM
set_option linter.unusedVariables false
set_option linter.unusedSimpArgs false
set_option linter.unusedSectionVars false
set_option maxHeartbeats 8000000
set_option maxRecDepth 100000
namespace Go.Proofs.YtjkcdcloomkooaaGreatDoor
open Go.RowKit
def pa(n:Nat)(l:Bs):Nat:=l.foldl (fun n c=>10*n+(c.toNat-48)) n
theorem HQ(n:Nat)(c:UInt8)(l:Bs):pa n (c::l)=pa (10*n+(c.toNat-48)) l:=by
 unfold pa;rw[ua]
theorem HA(l:Bs):lC l=pa 0 l:=by
 unfold lC pa;exact rfl
theorem HB{c:UInt8}(h:eH c=true):48<=c.toNat/\c.toNat<=57:=by
 exact Tc
theorem CG:∀(l:Bs)(n:Nat),(∀c∈l,eH c=true)->n*10 ^ l.length<=pa n l/\pa n l<(n+1)*10 ^ l.length
 |[],n,_=>by
  show n*1<=n/\n<(n+1)*1;omega
 |c::l,n,h=>by
  have hc:=HB (h c (cR ..));obtain⟨h1,h2⟩:=CG l (10*n+(c.toNat-48)) fun x hx=>h x (bC _ hx)
  rw[HQ,qD,Nat.pow_succ]
  constructor
  ·refine aS ?_ h1;rw[show n*(10 ^ l.length*10)=(10*n)*10 ^ l.length by rw[mB (10 ^ l.length) 10,<- Nat.mul_assoc,mB n 10]]
   exact ZX
  ·refine aI h2 ?_;rw[show(n+1)*(10 ^ l.length*10)=(10*(n+1))*10 ^ l.length by rw[mB (10 ^ l.length) 10,<- Nat.mul_assoc,mB (n+1) 10]]
   exact ZX
theorem C5:∀(a b:Bs)(n:Nat),a.length=b.length->(∀c∈a,eH c=true)->(∀c∈b,eH c=true)->Op.bytesLess a b=decide (pa n a<pa n b)
 |[],[],n,_,_,_=>by
  show false=decide (n<n);exact(dF (Nat.lt_irrefl _)).symm
 |x::a,y::b,n,hl,ha,hb=>by
  have hx:=HB (ha x (cR ..));have hy:=HB (hb y (cR ..));have tW:a.length=b.length:=we
  have rG:∀c∈a,eH c=true:=fun c hc=>ha c (bC _ hc)
  have gE:∀c∈b,eH c=true:=fun c hc=>hb c (bC _ hc)
  rw[HQ,HQ];show(decide (x<y)||(x==y&&Op.bytesLess a b))=_;have b1:=CG a (10*n+(x.toNat-48)) rG;have b2:=CG b (10*n+(y.toNat-48)) gE;rw[<-tW]at b2
  rcases js x.toNat y.toNat with h|h|h
  ·have h1:x<y:=wX.2 h;rw[aA h1,dK];refine(aA (aI b1.2 (aS ?_ b2.1))).symm;exact ZX
  ·have h1:x=y:=cT.1 h;subst h1;have h2:¬x<x:=fun h=>by
    have:=wX.1 h
    omega
   rw[dF h2,bI,beq_self_eq_true,bP];exact C5 a b _ tW rG gE
  ·have h1:¬x<y:=fun h'=>by
    have:=wX.1 h'
    omega
   have h2:(x==y)=false:=oY.2 fun e=>by subst e;omega
   rw[dF h1,h2,bI,cD];refine(dF (Nat.not_lt.2 (aS (dA b2.2) (aS ?_ b1.1)))).symm;exact ZX
theorem Ow:∀(a b:Bs)(n:Nat),a.length=b.length->(∀c∈a,eH c=true)->(∀c∈b,eH c=true)->pa n a=pa n b->a=b
 |[],[],_,_,_,_,_=>rfl
 |x::a,y::b,n,hl,ha,hb,h=>by
  have hx:=HB (ha x (cR ..));have hy:=HB (hb y (cR ..));have tW:a.length=b.length:=we
  have rG:∀c∈a,eH c=true:=fun c hc=>ha c (bC _ hc)
  have gE:∀c∈b,eH c=true:=fun c hc=>hb c (bC _ hc)
  rw[HQ,HQ]at h;have b1:=CG a (10*n+(x.toNat-48)) rG;have b2:=CG b (10*n+(y.toNat-48)) gE;rw[<-tW]at b2
  rcases js x.toNat y.toNat with h1|h1|h1
  ·exfalso
   have:=aI b1.2 (aS (dH _ (show 10*n+(x.toNat-48)+1<=10*n+(y.toNat-48) by omega)) b2.1)
   omega
  ·have h2:x=y:=cT.1 h1;subst h2;rw[Ow a b _ tW rG gE h]
  ·exfalso
   have:=aI b2.2 (aS (dH _ (show 10*n+(y.toNat-48)+1<=10*n+(x.toNat-48) by omega)) b1.1)
   omega
theorem Xd:zV.data.toList=[57,50,50,51,51,55,50,48,51,54,56,53,52,55,55,53,56,48,55]:=rfl
theorem Cp:lC zV.data.toList=9223372036854775807:=cI
theorem L8(s:ByteArray):s.toList=s.data.toList:=ByteArray.toList_eq s
theorem z3w(s:ByteArray)(hd:∀c∈s.data.toList,eH c=true)(hz:¬(s.data.toList.head?=some 48/\1<s.data.toList.length)):NR s=decide (9223372036854775807<lC s.data.toList):=by
 have pt:s.data.toList.length=s.size:=rfl;unfold NR;rw[L8,L8]
 by_cases h1:19<s.size
 ·rw[aA h1,dK];refine(aA ?_).symm
  cases hl:s.data.toList with
  |nil=>rw[hl]at pt;simp at pt;omega
  |cons c r=>
   rw[hl]at hd hz pt;have hc:=HB (hd c (cR ..));have dR:c≠48:=fun e=>hz ⟨by rw[e];rfl,by rw[pt];omega⟩
   have gy:c.toNat≠48:=fun e=>dR (cT.1 (by show c.toNat=48;exact e))
   rw[HA,HQ];have hb:=(CG r (10*0+(c.toNat-48)) fun x hx=>hd x (bC _ hx)).1
   have hr:19<=r.length:=by simp only[qD]at pt;omega
   have hp:10 ^ 19<=10 ^ r.length:=Nat.pow_le_pow_right oM hr
   have h3:1*10 ^ r.length<=(10*0+(c.toNat-48))*10 ^ r.length:=dH _ oM
   have h4:(10:Nat) ^ 19=10000000000000000000:=aT
   omega
 ·rw[dF h1,bI]
  by_cases h2:s.size=19
  ·rw[aA h2,bP];have Iw:∀c∈zV.data.toList,eH c=true:=by rw[Xd];decide
   have hlen:s.data.toList.length=zV.data.toList.length:=by rw[pt,h2];rfl
   have sW:=C5 s.data.toList zV.data.toList 0 hlen hd Iw;have ji:=C5 zV.data.toList s.data.toList 0 hlen.symm Iw hd;rw[<-HA,<- HA,Cp]at sW ji;rw[sW]
   by_cases h3:s=zV
   ·rw[aA h3,pT];refine(dF ?_).symm;rw[h3,Cp];exact Nat.lt_irrefl _
   ·rw[dF h3,kG]
    by_cases h4:lC s.data.toList<9223372036854775807
    ·rw[aA h4,dF oM]
     rfl
    ·rw[dF h4];refine(aA ?_).symm
     by_cases h5:9223372036854775807<lC s.data.toList
     ·exact h5
     ·exfalso
      have h6:lC s.data.toList=9223372036854775807:=dU
      refine h3 (yN ?_);exact Ow s.data.toList zV.data.toList 0 hlen hd Iw (by rw[<-HA,<- HA,Cp,h6])
  ·rw[dF h2,cD];refine(dF ?_).symm;have hb:=(CG s.data.toList 0 hd).2;rw[<-HA,pt]at hb;have hp:10 ^ s.size<=10 ^ 18:=Nat.pow_le_pow_right oM oM
   have h4:(10:Nat) ^ 18=1000000000000000000:=aT
   omega
def ya:List Bs:=zO++(ff++sr)
theorem WM(l:Bs)(k:Nat):∀L:List Bs,(∀o∈L,o.length=k)->L.find? (fun o=>decide (l.take o.length=o))=if L.any (· == l.take k)then some (l.take k)else none
 |[],_=>rfl
 |o::L,h=>by
  have ho:=h o (cR ..);have ih:=WM l k L fun x hx=>h x (bC _ hx)
  rw[ub,KS,ho]
  by_cases he:l.take k=o
  ·have:(o==l.take k)=true:=by rw[he];exact beq_self_eq_true _
   rw[aA he,this,dK,aF rfl,he]
  ·have:(o==l.take k)=false:=oY.2 (iQ he)
   rw[dF he,this,bI,ih]
theorem z60(l:Bs):rA l=ya.find? (fun o=>decide (l.take o.length=o)):=by
 have h3:=WM l 3 zO aT
 have h2:=WM l 2 ff aT
 have h1:=WM l 1 sr aT
 unfold ya;rw[List.find?_append,List.find?_append,h3,h2,h1];unfold rA
 split
 ·rfl
 ·split
  ·rfl
  ·split<;>rfl
def ku:List ByteArray:=[⟨#[61,61,61]⟩,⟨#[33,61,61]⟩,⟨#[43,61]⟩,⟨#[45,61]⟩,⟨#[42,61]⟩,⟨#[61,61]⟩,⟨#[33,61]⟩,⟨#[60,61]⟩,⟨#[62,61]⟩,⟨#[38,38]⟩,⟨#[124,124]⟩,⟨#[63,63]⟩,⟨#[61,62]⟩,⟨#[43,43]⟩,⟨#[45,45]⟩,
 ⟨#[123]⟩,⟨#[125]⟩,⟨#[40]⟩,⟨#[41]⟩,⟨#[91]⟩,⟨#[93]⟩,⟨#[59]⟩,⟨#[44]⟩,⟨#[46]⟩,⟨#[63]⟩,⟨#[58]⟩,⟨#[61]⟩,⟨#[43]⟩,⟨#[45]⟩,⟨#[42]⟩,⟨#[47]⟩,⟨#[37]⟩,⟨#[33]⟩,⟨#[60]⟩,⟨#[62]⟩]
theorem xby:ku.map (·.data.toList)=ya:=rfl
theorem zq1:V0 102 [] (.ro 1 (dh ku)):=by
 refine dE aN dO mixed (fun _=>0) Tryz.func102 rfl kR kR rfl fun P G E hc hE=>?_
 have p1:E.pre 0 35 (dh ku):=by rw[hE];exact nR 35
 have t3:E.sub (dh ku) 0 35=dh ku:=fS
 exact A5
def m7(s:ByteArray)(a:Int):PV:=match jQ uB gD (bD s a)with
 | .bad e=>.tup [.agg [pI 0,pS ⟨#[]⟩,pI 0],pI 0,pI e]
 | .ok k t r=>.tup [kt k t a,pI ((s.size:Nat)-(r.length:Nat)-a),pI 0]
theorem IC{s:ByteArray}{a e:Int}(h:jQ uB gD (bD s a)=.bad e):m7 s a=.tup [.agg [pI 0,pS ⟨#[]⟩,pI 0],pI 0,pI e]:=by unfold m7;rw[h]
theorem LS{s:ByteArray}{a k:Int}{t r:Bs}(h:jQ uB gD (bD s a)=.ok k t r):m7 s a=.tup [kt k t a,pI ((s.size:Nat)-(r.length:Nat)-a),pI 0]:=by unfold m7;rw[h]
theorem KU(c:UInt8)(z:Int)(b:Bool)(hz:((c.toNat:Nat):Int)=z)(hb:eH c=b):V0 98 [.v (.int .u8 z)] (pB b):=by
 subst hz hb;exact D7 c
theorem KV(c:UInt8)(z:Int)(b:Bool)(hz:((c.toNat:Nat):Int)=z)(hb:oP c=b):V0 97 [.v (.int .u8 z)] (pB b):=by
 subst hz hb;exact Z0 c
structure Uq(s:ByteArray)(n a:Int)(q:UInt8)(W D:Bs)(T:ByteArray)(e1 m:Int):Prop where
 wd:bD s a=W++D
 w:(bD s a).takeWhile nE=W
 d:(bD s a).dropWhile nE=D
 t:T.data.toList=W
 x:s.extract a.toNat e1.toNat=T
 l:((T.size:Nat):Int)=m
 e:a+m=e1
 ae:a<=e1
 en:e1<=n
 dn:n-(D.length:Nat)=e1
abbrev xap(s:ByteArray)(a:Int):List AV:=[pS s,pI a].map .p++List.replicate 128 (.p (.v undef))
theorem ID(s:ByteArray)(n a:Int)(q:UInt8)(zq:Int)(W D:Bs)(T:ByteArray)(e1 m:Int)(h0:0<=a)(hn:((s.size:Nat):Int)=n)(h1:a<n)(hq:s.data.toList[a.toNat]?=some q)(eC:((q.toNat:Nat):Int)=zq)(hs:s.size<=900000)
  (hR:Uq s n a q W D T e1 m) {Q:Exit->List AV->AH->Prop} (h2:aY Tryz.prog G0 (Tryz.f66).ntmps (kf 5 ((Tryz.f66).body.getD .skip)) Q (qN [0,1,4,7,9] [.p (pS s),.p (pI a),.own 0 0,.p (.v (.int .u8 zq)),.p (pS T)] 130 0) [some lY]):
  aY Tryz.prog G0 (Tryz.f66).ntmps ((Tryz.f66).body.getD .skip) Q (xap s a) []:=by
 obtain⟨AQ,hW,hD,jV,ib,xz,FW,UQ,wF,uY⟩:=hR;have eY:=fun(c:UInt8)(z:Int)(b:Bool)(hz:((c.toNat:Nat):Int)=z)(hb:eH c=b)=>KU c z b hz hb
 have gW:=fun(c:UInt8)(z:Int)(b:Bool)(hz:((c.toNat:Nat):Int)=z)(hb:oP c=b)=>KV c z b hz hb
 have cV:∀j,zx s n a j->(∀c,(bD s j).head?=some c->nE c=false)->j=e1:=fun j hj h=>by
  obtain⟨j0,j1,u,fZ,gG,lA⟩:=hj;have h5:=kn (p:=nE) u (bD s j) lA h;rw[<-fZ,hD]at h5;have h6:=qZ s j;rw[<-h5.2]at h6;omega
 have aU:∀i:Int,0<=i->i<n->∃c,s.data.toList[i.toNat]?=some c:=fun i iF iI=>⟨_,aB (by show i.toNat<s.size;omega)⟩
 obtain⟨μ,hμ⟩:∃μ:Int->Nat,∀x,μ x=2000000000-x.toNat:=⟨_,fun _=>rfl⟩
 have jK:zx s n a a:=⟨bU _,by omega,[],rfl,by show(0:Int)=a-a;omega,fun c hc=>(by cases hc)⟩
 refine aY.cutK0 5 130 [0,1,4,7,9] 1 (fun _:Unit=>[.p (pS s),.p (pI a),.own 0 0,.p (.v (.int .u8 zq)),.p (pS T)]) (fun _=>[some lY]) (fun _=>True) aN mixed (fun _=>0) kR ?_ (fun _ _=>h2)
 clear h2;intro P G E hc hM hE;replace eY:=fun(c:UInt8)(z:Int)(b:Bool)(hz:((c.toNat:Nat):Int)=z)(hb:eH c=b)=>hc _ _ _ (eY c z b hz hb)
 replace gW:=fun(c:UInt8)(z:Int)(b:Bool)(hz:((c.toNat:Nat):Int)=z)(hb:oP c=b)=>hc _ _ _ (gW c z b hz hb)
 have z1:E.size s=n:=iS
 have elt:=xV hE;have eple:=uA hE;have eget:∀(i:Int)(c:UInt8)(z:Int),s.data.toList[i.toNat]?=some c->((c.toNat:Nat):Int)=z->E.get s (E.nat i)=some z:=fun i c z h hz=>by
  exact JV
 have eadd:=su hE;have x1:E.ext s (E.nat a) (E.nat e1)=T:=by rw[hE];exact ib
 have g0:=eget a q zq hq eC;have p0:=eple 0 a h0;have q1:=eple a e1 UQ;have q2:=eple e1 n wF;clear hE hc hM AQ hW hD jV ib xz FW;cbv
 repeat (first|(refine⟨p0,_,g0,?_⟩;cbv))
 refine gU 130 [0,1,4,7,8] 1 (fun x:Int=>[.p (pS s),.p (pI a),.own 0 0,.p (.v (.int .u8 zq)),.p (pI x)]) (fun _=>[some lY]) (zx s n a) μ a r5 jK ?_
 clear jK;intro j hj;replace hn:((s.size:Nat):Int)=n:=hn;have lu:=cV j hj;obtain⟨j0,j1,u,fZ,gG,lA⟩:=hj;replace gG:((u.length:Nat):Int)=j-a:=gG
 rcases dP (j<n)with cJ|cJ
 ·have d1:E.lti j n=true:=ZP
  obtain⟨c,eE⟩:=aU j oM cJ
  obtain⟨z,hz⟩:∃z:Int,((c.toNat:Nat):Int)=z:=⟨_,rfl⟩
  have g1:=eget j c z eE hz;have p1:=eple 0 j oM
  have dR:=uP oM eE
  cases fu:nE c with
  |true=>
   obtain⟨j2,oA⟩:∃x:Int,j+1=x:=⟨_,rfl⟩
   have ej:=eadd j 1 oM oM oM oM
   rw[oA]at ej;have lU:zx s n a j2:=by
    refine⟨by omega,by omega,u++[c],?_,?_,?_⟩
    ·rw[fZ,dR,<- oA];simp
    ·show(((u++[c]).length:Nat):Int)=j2-a;rw[sE,G7];omega
    ·intro x hx
     rcases kV.1 hx with hx|hx
     ·exact lA x hx
     ·rw[hY.1 hx];exact fu
   have fU:μ j2<μ j:=pb
   cases ar:oP c with
   |true=>
    have hk:=gW c z true hz ar;clear aU eY gW elt eple eget eadd hn hq eC fZ gG lA hs eE hz dR oA cV lu fu ar hμ uY;cbv
    repeat (first|(simp only[z1];try cbv)|(simp only[d1];try cbv)|(refine⟨p1,_,g1,?_⟩;cbv)|(refine⟨_,hk,?_⟩;cbv)|(simp only[ej];try cbv))
    refine .mk j2 r5 ?_ ?_
    ·exact lU
    ·exact fU
   |false=>
    have hk:=gW c z false hz ar;have sZ:eH c=true:=by unfold nE at fu;rw[ar,bI]at fu;exact fu
    have yG:=eY c z true hz sZ;clear aU eY gW elt eple eget eadd hn hq eC fZ gG lA hs eE hz dR oA cV lu fu ar hμ uY sZ;cbv
    repeat (first|(simp only[z1];try cbv)|(simp only[d1];try cbv)|(refine⟨p1,_,g1,?_⟩;cbv)|(refine⟨_,hk,?_⟩;cbv)|(refine⟨_,yG,?_⟩;cbv)|(simp only[ej];try cbv))
    refine .mk j2 r5 ?_ ?_
    ·exact lU
    ·exact fU
  |false=>
   have FN:=lu (fun x hx=>by rw[dR]at hx;cases hx;exact fu)
   have vV:=fu;unfold nE at vV;simp only[dJ]at vV;have hk:=gW c z false hz vV.1;have yG:=eY c z false hz vV.2;subst FN;clear aU eY gW elt eple eget eadd hn hq eC fZ gG lA hs eE hz dR cV lu fu vV hμ uY;cbv
   repeat (first|(simp only[z1];try cbv)|(simp only[d1];try cbv)|(refine⟨p1,_,g1,?_⟩;cbv)|(refine⟨_,hk,?_⟩;cbv)|(refine⟨_,yG,?_⟩;cbv)|(refine⟨p0,q1,q2,?_⟩;cbv)|(simp only[x1];try cbv))
   exact .mk () r5 trivial
 ·have d1:E.lti j n=false:=by rw[elt];exact dF cJ
  have mN:bD s j=[]:=iu oM
  have FN:=lu (fun x hx=>by rw[mN]at hx;cases hx)
  subst FN;clear aU eY gW elt eple eget eadd hn hq eC fZ gG lA hs cV lu hμ uY mN;cbv
  repeat (first|(simp only[z1];try cbv)|(simp only[d1];try cbv)|(refine⟨p0,q1,q2,?_⟩;cbv)|(simp only[x1];try cbv))
  exact .mk () r5 trivial
theorem YN(s:ByteArray)(a:Int)(h0:0<=a)(h1:a<(s.size:Nat))(q:UInt8):∃W D T e1 m,Uq s (s.size:Nat) a q W D T e1 m:=by
 have eS:=qZ s a;obtain⟨W,hW⟩:∃x,(bD s a).takeWhile nE=x:=⟨_,rfl⟩
 obtain⟨D,hD⟩:∃x,(bD s a).dropWhile nE=x:=⟨_,rfl⟩
 have AQ:bD s a=W++D:=R8
 have hlen:(bD s a).length=W.length+D.length:=by rw[AQ,sE]
 have ib:s.extract a.toNat ((s.size:Nat)-(D.length:Nat):Int).toNat=bL W:=by
  refine yN ?_;rw[show(bL W).data.toList=W by unfold bL;simp,yw,AQ,show((s.size:Nat)-(D.length:Nat):Int).toNat-a.toNat=W.length by omega,qV]
 exact⟨W,D,bL W,(s.size:Nat)-(D.length:Nat),(W.length:Nat),AQ,hW,hD,by unfold bL;simp,ib,rfl,by omega,by omega,by omega,rfl⟩
theorem z09(s:ByteArray)(a:Int)(q:UInt8)(h0:0<=a)(hq:s.data.toList[a.toNat]?=some q)(hl:oP q=true)(hs:s.size<=900000):V0 66 [pS s,pI a] (m7 s a):=by
 obtain⟨n,hn⟩:∃n:Int,((s.size:Nat):Int)=n:=⟨_,rfl⟩
 have h1:a<n:=by
  exact RW
 obtain⟨zq,eC⟩:∃z:Int,((q.toNat:Nat):Int)=z:=⟨_,rfl⟩
 have nP:bD s a=q::bD s (a+1):=uP h0 hq;have eS:=qZ s a;obtain⟨W,D,T,e1,m,hR⟩:=YN s a h0 oM q
 rw[hn]at hR;have jY:=KV q zq true eC hl;have sH:m7 s a=.tup [.agg [pI (if mh W then 2 else 1),pS T,pI a],pI m,pI 0]:=by
  have hT:T=bL W:=yN (by rw[hR.t];unfold bL;simp)
  have hm:n-(D.length:Nat)-a=m:=by have:=hR.e;have:=hR.dn;omega
  rw[hT,<- hm,<- hn];refine LS ?_;have hw:=hR.w;have hd:=hR.d;rw[nP]at hw hd ⊢;rw[jQ,aF hl,hw,hd]
 rw[sH];have vE:=z1i T;rw[hR.t]at vE;obtain⟨kb,FM⟩:∃x,mh W=x:=⟨_,rfl⟩
 rw[FM]at vE ⊢;refine zZ aN dO (f:=66) (c:=((Tryz.f66).body.getD .skip)) Tryz.func66 rfl kR (oT kR) ?_
 refine ID s n a q zq W D T e1 m h0 hn h1 hq eC hs hR ?_;refine aY.cutK 1 130 [] 0 (fun _:Unit=>[]) (fun _=>[]) (fun _=>False) aN mixed (fun _=>0) (fun E=>jF E cK (Tryz.f66).results.toList (.tup [.agg [pI (if kb=true then 2 else 1),pS T,pI a],pI m,pI 0])) kR ?_ (fun _ h=>h.elim)
 intro P G E hc hM hE;replace jY:=hc _ _ _ jY;replace vE:=hc _ _ _ vE;have z2:E.size T=m:=by rw[hE];exact hR.l
 clear hE hc hM hR nP sH eS hn hq eC h1 FM
 cases kb
 all_goals
  cbv
  repeat (first|(refine⟨_,jY,?_⟩;cbv)|(refine⟨_,vE,?_⟩;cbv)|(simp only[z2];try cbv))
structure SA(m:Int)(W:Bs)(i:Int):Prop where
 i0:0<=i
 i1:i<=m
 d:∀k:Nat,(k:Int)<i->∀c,W[k]?=some c->eH c=true
theorem Zv{l W D:Bs}(hW:l.takeWhile nE=W)(hD:l.dropWhile nE=D):(W.all eH=false->rJ l=.bad 4)/\(W.all eH=true->l.takeWhile eH=W/\l.dropWhile eH=D/\D.head?.any oP=false):=by
 have hl:l=W++D:=by rw[<-hW,<- hD];exact(mc (p:=nE) l).2.2.symm
 have Vw:=(mc (p:=nE) l).1;have Jt:=(mc (p:=nE) l).2.1;rw[hW]at Vw;rw[hD]at Jt
 constructor
 ·intro h;obtain⟨h1,h2,h3⟩:=mc (p:=eH) W;have eA:W.dropWhile eH≠[]:=fun e=>by
   rw[e,cA]at h3;rw[h3]at h1;rw[aR.2 h1]at h
   cases h
  obtain⟨x,y,fq⟩:∃x y,W.dropWhile eH=x::y:=by
   cases hd:W.dropWhile eH with
   |nil=>exact absurd hd eA
   |cons x y=>exact⟨x,y,rfl⟩
  have hx:=h2 x (by rw[fq];rfl)
  have hxW:x∈W:=by rw[<-h3,fq];simp
  have hlx:oP x=true:=by
   have:=Vw x hxW
   unfold nE at this;rw[hx,kG]at this;exact this
  have h5:=kn (p:=eH) (W.takeWhile eH) (x::(y++D)) h1 (fun c hc=>by cases hc;exact hx)
  have h6:W.takeWhile eH++x::(y++D)=l:=by
   have h7:W.takeWhile eH++x::(y++D)=(W.takeWhile eH++W.dropWhile eH)++D:=by rw[fq];simp
   rw[h7,h3,<- hl]
  rw[h6]at h5;unfold rJ;rw[h5.1,h5.2]
  split
  ·rfl
  ·rw[aF (show(x::(y++D)).head?.any oP=true from hlx)]
 ·intro h;have hda:∀c,D.head?=some c->eH c=false:=fun c hc=>by
   have:=Jt c hc
   unfold nE at this;simp only[dJ]at this;exact this.2
  have h5:=kn (p:=eH) W D (aR.1 h) hda;rw[<-hl]at h5;refine⟨h5.1,h5.2,?_⟩
  cases hd:D.head? with
  |none=>rfl
  |some c=>
   have:=Jt c hd
   unfold nE at this;simp only[dJ]at this;exact this.1
theorem z55(s:ByteArray)(a:Int)(q:UInt8)(h0:0<=a)(hq:s.data.toList[a.toNat]?=some q)(hl:oP q=false)(hd:eH q=true)(hs:s.size<=900000):V0 66 [pS s,pI a] (m7 s a):=by
 obtain⟨n,hn⟩:∃n:Int,((s.size:Nat):Int)=n:=⟨_,rfl⟩
 have h1:a<n:=by
  exact RW
 obtain⟨zq,eC⟩:∃z:Int,((q.toNat:Nat):Int)=z:=⟨_,rfl⟩
 have nP:bD s a=q::bD s (a+1):=uP h0 hq;have eS:=qZ s a;obtain⟨W,D,T,e1,m,hR⟩:=YN s a h0 oM q
 rw[hn]at hR;have jY:=KV q zq false eC hl;have nF:=KU q zq true eC hd;have dL:jQ uB gD (bD s a)=rJ (bD s a):=by
  rw[nP,jQ,aE JI,aF hd]
 obtain⟨FG,FF⟩:=Zv hR.w hR.d;have jV:=hR.t;have xz:=hR.l;have FW:=hR.e;have wF:=hR.en;have uY:=hR.dn;have US:W.length=T.size:=by rw[<-jV];rfl
 have xy:((W.length:Nat):Int)=m:=dU
 have jI:W.head?=some q:=by
  have h5:=hR.w;rw[nP,List.takeWhile_cons,show nE q=true by unfold nE;rw[hd,pT]]at h5
  rw[<-h5];rfl
 have eY:=fun(c:UInt8)(z:Int)(b:Bool)(hz:((c.toNat:Nat):Int)=z)(hb:eH c=b)=>KU c z b hz hb
 obtain⟨μ,hμ⟩:∃μ:Int->Nat,∀x,μ x=2000000000-x.toNat:=⟨_,fun _=>rfl⟩
 have jK:SA m W 0:=⟨bU _,by omega,fun k hk=>by omega⟩
 have uX:=z3v T;obtain⟨gb,rF⟩:∃x,NR T=x:=⟨_,rfl⟩
 rw[rF]at uX;obtain⟨bz,n8⟩:∃b,decide (zq=48)=b:=⟨_,rfl⟩
 have nZ:m<=900000:=dU
 have hw:=hR.w;have tX:=hR.d
 cases dX:W.all eH with
 |false=>
  have qK:=FG dX;rw[IC (dL.trans qK)];clear FG FF dL qK hw tX;refine zZ aN dO (f:=66) (c:=((Tryz.f66).body.getD .skip)) Tryz.func66 rfl kR (oT kR) ?_
  refine ID s n a q zq W D T e1 m h0 hn h1 hq eC hs hR ?_;refine aY.cutK 2 130 [] 0 (fun _:Unit=>[]) (fun _=>[]) (fun _=>False) aN mixed (fun _=>0) (fun E=>jF E cK (Tryz.f66).results.toList (.tup [.agg [pI 0,pS ⟨#[]⟩,pI 0],pI 0,pI 4])) kR ?_ (fun _ h=>h.elim)
  intro P G E hc hM hE;replace jY:=hc _ _ _ jY;replace nF:=hc _ _ _ nF;replace uX:=hc _ _ _ uX;replace eY:=fun(c:UInt8)(z:Int)(b:Bool)(hz:((c.toNat:Nat):Int)=z)(hb:eH c=b)=>hc _ _ _ (eY c z b hz hb)
  have z2:E.size T=m:=by rw[hE];exact xz
  have elt:=xV hE;have eple:=uA hE;have eget:∀(i:Int)(c:UInt8)(z:Int),W[i.toNat]?=some c->((c.toNat:Nat):Int)=z->E.get T (E.nat i)=some z:=fun i c z h hz=>by
   exact Rk
  have eadd:=su hE;have f48:decide (zq=48)=bz:=n8;have d2:E.lti 1 m=decide (1<m):=elt _ _;clear hE hc hM hR nP eS hn hq eC h1 jV;cbv
  repeat (first|(refine⟨_,jY,?_⟩;cbv)|(refine⟨_,nF,?_⟩;cbv))
  refine gU 130 [0,1,4,7,9,10] 1 (fun x:Int=>[.p (pS s),.p (pI a),.own 0 0,.p (.v (.int .u8 zq)),.p (pS T),.p (pI x)]) (fun _=>[some lY]) (SA m W) μ 0 r5 jK ?_
  clear jK
  rintro i ⟨i0,i1,hd⟩
  replace xy:((W.length:Nat):Int)=m:=xy
  rcases dP (i<m)with cJ|cJ
  ·have d1:E.lti i m=true:=ZP
   obtain⟨c,eE⟩:∃c,W[i.toNat]?=some c:=⟨_,aB oM⟩
   obtain⟨z,hz⟩:∃z:Int,((c.toNat:Nat):Int)=z:=⟨_,rfl⟩
   have g1:=eget i c z eE hz;have p1:=eple 0 i i0
   cases sZ:eH c with
   |true=>
    have hk:=eY c z true hz sZ;obtain⟨i2,mX⟩:∃x:Int,i+1=x:=⟨_,rfl⟩
    have ej:=eadd i 1 oM oM oM oM
    rw[mX]at ej;have lU:SA m W i2:=⟨by omega,by omega,fun k hk x hx=>by
     by_cases h:(k:Int)<i
     ·exact hd k h x hx
     ·rw[show k=i.toNat by omega,eE]at hx
      cases hx
      exact sZ⟩
    have fU:μ i2<μ i:=pb
    clear eY elt eple eget eadd hs eE hz mX sZ hμ uY hd US xy jI dX rF n8 xz FW wF nZ;exact Ti
   |false=>
    have hk:=eY c z false hz sZ;clear eY elt eple eget eadd hs eE hz sZ hμ uY hd US xy jI dX rF n8 xz FW wF nZ;cbv
    repeat (first|(simp only[z2];try cbv)|(simp only[d1];try cbv)|(refine⟨p1,_,g1,?_⟩;cbv)|(refine⟨_,hk,?_⟩;cbv))
  ·exfalso
   have:W.all eH=true:=aR.2 fun c hc=>by
    obtain⟨k,hk⟩:=nA.1 hc;have lI:=(aC.1 hk).1;exact hd k oM c hk
   rw[dX]at this
   cases this
 |true=>
  obtain⟨h5,h6,h7⟩:=FF dX;have AR:∀c∈T.data.toList,eH c=true:=by rw[jV];exact aR.1 dX
  have tw:¬(W.head?=some 48/\1<W.length)->gb=decide (9223372036854775807<lC W):=fun h=>by
   rw[<-rF,z3w T AR (by rw[jV];exact h),jV]
  obtain⟨RV,dY⟩:∃x,m7 s a=x:=⟨_,rfl⟩
  have vW:(bz=true/\1<m)->RV=.tup [.agg [pI 0,pS ⟨#[]⟩,pI 0],pI 0,pI 4]:=fun⟨hb,kM⟩=>by
   rw[<-dY];refine IC (dL.trans ?_);have FC:q=48:=by
    rw[hb]at n8
    have:=oT n8
    exact cT.1 (by show q.toNat=48;omega)
   unfold rJ;rw[h5,h6,aF ⟨by rw[jI,FC],by omega⟩]
  have TG:¬(bz=true/\1<m)->¬(W.head?=some 48/\1<W.length):=fun h ⟨ha,hb⟩=>h ⟨by
   rw[jI]at ha;have FC:=bA ha;rw[<-n8];exact aA (by rw[<-eC,FC];rfl),by omega⟩
  have nK:¬(bz=true/\1<m)->gb=true->RV=.tup [.agg [pI 0,pS ⟨#[]⟩,pI 0],pI 0,pI 5]:=fun h hg=>by
   rw[<-dY];refine IC (dL.trans ?_);have hx:=tw (TG h);rw[hg]at hx;unfold rJ;rw[h5,h6,aE (TG h),aE (by rw[h7];decide),aF (oT hx.symm)]
  have fv:¬(bz=true/\1<m)->gb=false->RV=.tup [.agg [pI 3,pS T,pI a],pI m,pI 0]:=fun h hg=>by
   have hT:T=bL W:=yN (by rw[jV];unfold bL;simp)
   have hm:n-(D.length:Nat)-a=m:=dU
   rw[<-dY,hT,<- hm,<- hn];refine LS (dL.trans ?_);have hx:=tw (TG h);rw[hg]at hx;unfold rJ;rw[h5,h6,aE (TG h),aE (by rw[h7];decide),aE (fV hx.symm)]
  rw[dY];clear FG FF dL hw tX h5 h6 h7 AR tw TG dY;refine zZ aN dO (f:=66) (c:=((Tryz.f66).body.getD .skip)) Tryz.func66 rfl kR (oT kR) ?_
  refine ID s n a q zq W D T e1 m h0 hn h1 hq eC hs hR ?_;refine aY.cutK 2 130 [] 0 (fun _:Unit=>[]) (fun _=>[]) (fun _=>False) aN mixed (fun _=>0) (fun E=>jF E cK (Tryz.f66).results.toList RV) kR ?_ (fun _ h=>h.elim)
  intro P G E hc hM hE;replace jY:=hc _ _ _ jY;replace nF:=hc _ _ _ nF;replace uX:=hc _ _ _ uX;replace eY:=fun(c:UInt8)(z:Int)(b:Bool)(hz:((c.toNat:Nat):Int)=z)(hb:eH c=b)=>hc _ _ _ (eY c z b hz hb)
  have z2:E.size T=m:=by rw[hE];exact xz
  have elt:=xV hE;have eple:=uA hE;have eget:∀(i:Int)(c:UInt8)(z:Int),W[i.toNat]?=some c->((c.toNat:Nat):Int)=z->E.get T (E.nat i)=some z:=fun i c z h hz=>by
   exact Rk
  have eadd:=su hE;have f48:decide (zq=48)=bz:=n8;have d2:E.lti 1 m=decide (1<m):=elt _ _;clear hE hc hM hR nP eS hn hq eC h1 jV;cbv
  repeat (first|(refine⟨_,jY,?_⟩;cbv)|(refine⟨_,nF,?_⟩;cbv))
  refine gU 130 [0,1,4,7,9,10] 1 (fun x:Int=>[.p (pS s),.p (pI a),.own 0 0,.p (.v (.int .u8 zq)),.p (pS T),.p (pI x)]) (fun _=>[some lY]) (SA m W) μ 0 r5 jK ?_
  clear jK
  rintro i ⟨i0,i1,hd⟩
  replace xy:((W.length:Nat):Int)=m:=xy
  rcases dP (i<m)with cJ|cJ
  ·have d1:E.lti i m=true:=ZP
   obtain⟨c,eE⟩:∃c,W[i.toNat]?=some c:=⟨_,aB oM⟩
   obtain⟨z,hz⟩:∃z:Int,((c.toNat:Nat):Int)=z:=⟨_,rfl⟩
   have g1:=eget i c z eE hz;have p1:=eple 0 i i0;have sZ:eH c=true:=aR.1 dX c (aJ eE);have hk:=eY c z true hz sZ;obtain⟨i2,mX⟩:∃x:Int,i+1=x:=⟨_,rfl⟩
   have ej:=eadd i 1 oM oM oM oM
   rw[mX]at ej;have lU:SA m W i2:=⟨by omega,by omega,fun k hk x hx=>aR.1 dX x (aJ hx)⟩
   have fU:μ i2<μ i:=pb
   clear eY elt eple eget eadd hs eE hz mX sZ hμ uY hd US xy jI dX rF n8 xz FW wF nZ vW nK fv;exact Ti
  ·have d1:E.lti i m=false:=by rw[elt];exact dF cJ
   rcases dP (bz=true/\1<m)with xi|xi
   ·have hv:=vW xi;subst hv;rw[aA xi.2]at d2;rw[xi.1]at f48;clear eY elt eple eget eadd hs hμ uY hd US xy jI dX rF n8 xz FW wF nZ vW nK fv xi;cbv
    repeat (first|(simp only[z2];try cbv)|(simp only[d1];try cbv)|(simp only[f48];try cbv)|(simp only[d2];try cbv))
   ·have KJ:(bz=false)\/(bz=true/\E.lti 1 m=false):=by
     cases hb:bz with
     |false=>exact .inl rfl
     |true=>exact .inr ⟨rfl,by rw[d2];exact dF fun h=>xi ⟨hb,h⟩⟩
    cases hg:gb with
    |true=>
     have hv:=nK xi hg;exact Un
    |false=>
     have hv:=fv xi hg;exact Un
theorem z52(s:ByteArray)(a:Int)(q:UInt8)(h0:0<=a)(hq:s.data.toList[a.toNat]?=some q)(sV:q=34\/q=39)(hs:s.size<=900000):V0 66 [pS s,pI a] (m7 s a):=by
 obtain⟨n,hn⟩:∃n:Int,((s.size:Nat):Int)=n:=⟨_,rfl⟩
 have h1:a<n:=by
  exact RW
 obtain⟨zq,eC⟩:∃z:Int,((q.toNat:Nat):Int)=z:=⟨_,rfl⟩
 have nP:bD s a=q::bD s (a+1):=uP h0 hq;have eS:=qZ s a;obtain⟨W,D,T,e1,m,hR⟩:=YN s a h0 oM q
 rw[hn]at hR;obtain⟨hl,hd⟩:=Q9 sV;have jY:=KV q zq false eC hl;have nF:=KU q zq false eC hd;have uI:=Zx s a q h0 hq oM
 have fx:=qZ s (a+1);have dL:jQ uB gD (bD s a)=match lit uB q (bD s (a+1))with
  |none=>.bad 4
  |some z=>.ok 4 (gD z.1) z.2:=by
  rw[nP,jQ,aE JI,aE QZ,aF sV]
  cases lit uB q (bD s (a+1))<;>rfl
 unfold NQ at uI;have hf:(decide (zq=34)=true/\True)\/(decide (zq=34)=false/\decide (zq=39)=true):=by
  rcases sV with rfl|rfl
  ·exact .inl ⟨aA (by rw[<-eC];rfl),trivial⟩
  ·exact .inr ⟨dF (by rw[<-eC];decide),aA (by rw[<-eC];rfl)⟩
 cases wA:lit uB q (bD s (a+1))with
 |none=>
  rw[wA]at dL uI;simp only at uI dL;rw[IC dL];have f3:decide ((0:Int)=0)=true:=rfl;clear dL wA sV hl hd;refine zZ aN dO (f:=66) (c:=((Tryz.f66).body.getD .skip)) Tryz.func66 rfl kR (oT kR) ?_
  refine ID s n a q zq W D T e1 m h0 hn h1 hq eC hs hR ?_;refine aY.cutK 3 130 [] 0 (fun _:Unit=>[]) (fun _=>[]) (fun _=>False) aN mixed (fun _=>0) (fun E=>jF E cK (Tryz.f66).results.toList (.tup [.agg [pI 0,pS ⟨#[]⟩,pI 0],pI 0,pI 4])) kR ?_ (fun _ h=>h.elim)
  exact U3
 |some p=>
  obtain⟨t,r⟩:=p;rw[wA]at dL uI;simp only at uI dL;rw[LS dL];unfold kt;obtain⟨u,fZ,gG,_⟩:=Bu uB q _ _ _ wA;have hlen:(bD s (a+1)).length=u.length+r.length:=by rw[gG,sE]
  obtain⟨e2,sY⟩:∃x:Int,n-(r.length:Nat)-a=x:=⟨_,rfl⟩
  rw[hn,sY]at uI ⊢;have f3:decide (e2=0)=false:=dF oM
  have jn:(bL t).data.toList=t:=JK
  have sT:bq (bL t)=bL (gD t):=by
   unfold bq;rw[jn];rfl
  rw[sT]at uI;obtain⟨X,hX⟩:∃x,bL (gD t)=x:=⟨_,rfl⟩
  rw[hX]at uI;rw[hX];clear dL wA sV hl hd fZ gG hlen sY jn sT hX;refine zZ aN dO (f:=66) (c:=((Tryz.f66).body.getD .skip)) Tryz.func66 rfl kR (oT kR) ?_
  refine ID s n a q zq W D T e1 m h0 hn h1 hq eC hs hR ?_;refine aY.cutK 3 130 [] 0 (fun _:Unit=>[]) (fun _=>[]) (fun _=>False) aN mixed (fun _=>0) (fun E=>jF E cK (Tryz.f66).results.toList (.tup [.agg [pI 4,pS X,pI a],pI e2,pI 0])) kR ?_ (fun _ h=>h.elim)
  exact U3
structure Hz(L:Bs)(i:Int):Prop where
 i0:0<=i
 i1:i<=35
 f:rA L=(ya.drop i.toNat).find? (fun o=>decide (L.take o.length=o))
theorem z2d:∀t∈ku,t.size<=3:=aT
theorem xao(s:ByteArray)(a:Int)(q:UInt8)(h0:0<=a)(hq:s.data.toList[a.toNat]?=some q)(hl:oP q=false)(hd:eH q=false)(sV:¬(q=34\/q=39))(hs:s.size<=900000):V0 66 [pS s,pI a] (m7 s a):=by
 obtain⟨n,hn⟩:∃n:Int,((s.size:Nat):Int)=n:=⟨_,rfl⟩
 have h1:a<n:=by
  exact RW
 obtain⟨zq,eC⟩:∃z:Int,((q.toNat:Nat):Int)=z:=⟨_,rfl⟩
 have nP:bD s a=q::bD s (a+1):=uP h0 hq;have eS:=qZ s a;obtain⟨W,D,T,e1,m0,hR⟩:=YN s a h0 oM q
 rw[hn]at hR;have jY:=KV q zq false eC hl;have nF:=KU q zq false eC hd;have nT:=zq1;have cq:=fun(t:ByteArray)(b:Bool)(ht:t.size<=3)(hb:uN s a t.data.toList=b)=>show V0 96 [pS s,pI a,pS t] (pB b)from hb ▸ M1 s t a h0 oM oM oM
 have f1:decide (zq=34)=false:=dF fun e=>sV (.inl (cT.1 (by show q.toNat=34;omega)))
 have f2:decide (zq=39)=false:=dF fun e=>sV (.inr (cT.1 (by show q.toNat=39;omega)))
 obtain⟨L,hL⟩:∃x,bD s a=x:=⟨_,rfl⟩
 have dL:jQ uB gD L=match rA L with
  |none=>.bad 4
  |some w=>.ok 5 w (L.drop w.length):=by
  rw[<-hL,nP,jQ,aE JI,aE QZ,aE sV]
  cases rA (q::bD s (a+1))<;>rfl
 obtain⟨RV,dY⟩:∃x,m7 s a=x:=⟨_,rfl⟩
 have rQ:rA L=none->RV=.tup [.agg [pI 0,pS ⟨#[]⟩,pI 0],pI 0,pI 4]:=fun h=>by
  rw[<-dY];exact IC (by rw[hL,dL,h])
 have vW:∀(t:ByteArray)(m:Int),rA L=some t.data.toList->((t.size:Nat):Int)=m->RV=.tup [.agg [pI 5,pS t,pI a],pI m,pI 0]:=fun t m h hm=>by
  have hT:bL t.data.toList=t:=yN JK
  obtain⟨_,_,h3⟩:=XC h;have h4:t.data.toList.length=t.size:=rfl;have h5:(L.drop t.data.toList.length).length=L.length-t.data.toList.length:=yR;rw[hL]at eS;rw[<-dY,LS (show jQ uB gD (bD s a)=.ok 5 t.data.toList (L.drop t.data.toList.length) by rw[hL,dL,h])]
  unfold kt;rw[hT,show((s.size:Nat):Int)-((L.drop t.data.toList.length).length:Nat)-a=m by omega]
 have uW:(dh ku).length=35:=rfl;have hg:∀(k:Nat) x,ku[k]?=some x->(dh ku)[k]?=some [pS x]:=fun k x h=>by
  unfold dh;rw[aH,h];rfl
 have AM:∀(k:Nat) x,ku[k]?=some x->ya.drop k=x.data.toList::ya.drop (k+1):=fun k x h=>by
  have h2:ya[k]?=some x.data.toList:=by rw[<-xby,aH,h];rfl
  have h3:=(aC.1 h2).1;rw[cQ h3]
  congr 1
  exact(aC.1 h2).2
 have lI:ku.length=35:=rfl;have iU:ya.length=35:=rfl;have jK:Hz L 0:=⟨bU _,by decide,z60 L⟩
 obtain⟨μ,hμ⟩:∃μ:Int->Nat,∀i,μ i=200000-i.toNat:=⟨_,fun _=>rfl⟩
 have AO:∀t:ByteArray,uN s a t.data.toList=decide (L.take t.data.toList.length=t.data.toList):=fun t=>by unfold uN;rw[hL]
 rw[dY];clear dY dL nP eS;obtain⟨LR,tB⟩:∃x,dh ku=x:=⟨_,rfl⟩
 rw[tB]at nT uW hg;clear tB;refine zZ aN dO (f:=66) (c:=((Tryz.f66).body.getD .skip)) Tryz.func66 rfl kR (oT kR) ?_
 refine ID s n a q zq W D T e1 m0 h0 hn h1 hq eC hs hR ?_;clear hR;refine aY.cutK0 4 130 [0,1,4,13] 1 (fun _:Unit=>[.p (pS s),.p (pI a),.own 0 0,.p (.ro 1 LR)]) (fun _=>[some lY]) (fun _=>True) aN mixed (fun _=>0) kR ?_ ?_
 ·intro P G E hc hM hE;replace jY:=hc _ _ _ jY;replace nF:=hc _ _ _ nF;replace nT:=hc _ _ _ nT;clear hE hc hM cq hg AM rQ vW jK AO hμ hn h1 hq eC hs;cbv
  repeat (first|(refine⟨_,jY,?_⟩;cbv)|(refine⟨_,nF,?_⟩;cbv)|(simp only[f1];try cbv)|(simp only[f2];try cbv)|(refine⟨_,nT,?_⟩;cbv))
  exact EI
 intro _ _;clear jY nF nT f1 f2;refine aY.cut 130 [0,1,4] 1 (fun _:Unit=>[.p (pS s),.p (pI a),.own 0 0]) (fun _=>[some lY]) (fun _=>rA L=none) ?_ ?_
 ·refine aY.cut 130 [0,1,4,13,14] 1 (fun _:Unit=>[.p (pS s),.p (pI a),.own 0 0,.p (.ro 1 LR),.p (pI 0)]) (fun _=>[some lY]) (fun _=>True) ?_ ?_
  ·refine aY.of0 aN mixed (fun _=>0) kR fun P G E hc hM hE=>?_
   clear hE hc hM cq hg AM rQ vW jK AO hμ hn h1 hq eC hs;cbv;exact EI
  intro _ _;refine aY.block ?_;refine aY.loop 130 [0,1,4,13,14] 1 (fun i:Int=>[.p (pS s),.p (pI a),.own 0 0,.p (.ro 1 LR),.p (pI i)]) (fun _=>[some lY]) (Hz L) μ 0 r5 jK ?_
  clear jK
  rintro i ⟨i0,i1,hf⟩
  rcases dP (i<35)with cJ|cJ
  ·obtain⟨t,ht⟩:∃t,ku[i.toNat]?=some t:=⟨_,aB oM⟩
   have wy:=z2d t (aJ ht);have ji:=hg _ _ ht;have lz:=AM _ _ ht;have jn:=AO t;refine aY.cut 130 [0,1,4,13,14] 1 (fun _:Unit=>[.p (pS s),.p (pI a),.own 0 0,.p (.ro 1 LR),.p (pI i)]) (fun _=>[some lY]) (fun _=>True) ?_ ?_
   ·refine aY.of0 aN mixed (fun _=>0) kR fun P G E hc hM hE=>?_
    have v1:E.ofN 35=35:=fS
    have d1:E.lti i 35=true:=Gl
    clear hE hc hM cq hg AM rQ vW AO hμ hn h1 hq eC hs wy ji lz jn hf ht;cbv at uW;cbv
    repeat (first|(simp only[uW];try cbv)|(simp only[v1];try cbv)|(simp only[d1];try cbv))
    exact EI
   intro _ _
   cases hb:uN s a t.data.toList with
   |true=>
    have dG:=cq t true wy hb;obtain⟨m,hm⟩:∃m:Int,((t.size:Nat):Int)=m:=⟨_,rfl⟩
    have hv:=vW t m (by
     rw[hf,lz,ub,<- jn,hb]) hm
    subst hv;clear rQ vW hf lz jn hb AO AM cq hg hμ;refine aY.never ?_;refine aY.block ?_;refine aY.cut 130 [0,1,4,13,14,117] 1 (fun _:Unit=>[.p (pS s),.p (pI a),.own 0 0,.p (.ro 1 LR),.p (pI i),.p (pB true)]) (fun _=>[some lY]) (fun _=>True) ?_ ?_
    ·refine aY.of0 aN mixed (fun _=>0) kR fun P G E hc hM hE=>?_
     replace dG:=hc _ _ _ dG;have v1:E.ofN 35=35:=fS
     have p1:E.ple 0 i:=by rw[hE];exact i0
     have g1:LR[E.nat i]?=some [pS t]:=by rw[hE];exact ji
     clear hE hc hM hn h1 hq eC hs wy ji ht;exact T4
    intro _ _;refine aY.condT rfl ?_;refine aY.cut 130 [4,5,6] 1 (fun _:Unit=>[.own 0 0,.p (pI m),.p (pI 0)]) (fun _=>[some (pG 5 t a)]) (fun _=>True) ?_ ?_
    ·refine aY.regM0 aN mixed 12 [11] (fun i=>match i with|11=>1|_=>0) kR fun P G E hc hM hE=>?_
     have v1:E.ofN 35=35:=fS
     have p1:E.ple 0 i:=by rw[hE];exact i0
     have g1:LR[E.nat i]?=some [pS t]:=by rw[hE];exact ji
     have z1:E.size t=m:=by rw[hE];exact hm
     clear hE hc hM hn h1 hq eC hs wy ji ht dG;cbv at uW;cbv
     repeat (first|(simp only[uW];try cbv)|(simp only[v1];try cbv)|(refine⟨p1,_,g1,?_⟩;cbv)|(simp only[z1];try cbv))
     refine⟨(.mk vR),p1,_,g1,?_⟩
     cbv
     repeat (first|(refine⟨p1,_,g1,?_⟩;cbv)|(simp only[z1];try cbv))
     refine⟨(.mk vR),?_⟩
     exact .mk () r5 trivial
    intro _ _;refine aY.of0 aN mixed (fun _=>0) kR fun P G E hc hM hE=>?_
    clear hE hc hM hn h1 hq eC hs wy ji ht dG;cbv;all_goals trivial
   |false=>
    have dG:=cq t false wy hb;obtain⟨i2,mX⟩:∃x:Int,i+1=x:=⟨_,rfl⟩
    have lU:Hz L i2:=by
     refine⟨by omega,by omega,?_⟩
     rw[hf,lz,ub,<- jn,hb,show i2.toNat=i.toNat+1 by omega]
    have fU:μ i2<μ i:=pb
    clear rQ vW hf lz jn hb AO AM cq hg hμ;refine aY.cut 130 [0,1,4,13,14] 1 (fun _:Unit=>[.p (pS s),.p (pI a),.own 0 0,.p (.ro 1 LR),.p (pI i)]) (fun _=>[some lY]) (fun _=>True) ?_ ?_
    ·refine aY.block ?_;refine aY.cut 130 [0,1,4,13,14,117] 1 (fun _:Unit=>[.p (pS s),.p (pI a),.own 0 0,.p (.ro 1 LR),.p (pI i),.p (pB false)]) (fun _=>[some lY]) (fun _=>True) ?_ ?_
     ·refine aY.of0 aN mixed (fun _=>0) kR fun P G E hc hM hE=>?_
      replace dG:=hc _ _ _ dG;have v1:E.ofN 35=35:=fS
      have p1:E.ple 0 i:=by rw[hE];exact i0
      have g1:LR[E.nat i]?=some [pS t]:=by rw[hE];exact ji
      clear hE hc hM hn h1 hq eC hs wy ji ht mX lU fU;exact T4
     intro _ _;refine aY.condF rfl ?_;refine aY.of0 aN mixed (fun _=>0) kR fun P G E hc hM hE=>?_
     clear hE hc hM hn h1 hq eC hs wy ji ht mX lU fU dG;cbv;exact .mk () r5 trivial
    intro _ _;refine aY.of0 aN mixed (fun _=>0) kR fun P G E hc hM hE=>?_
    have ej:E.wadd .i64 i 1=i2:=EH
    clear hE hc hM hn h1 hq eC hs wy ji ht mX dG;cbv
    repeat (first|(simp only[ej];try cbv))
    refine .mk i2 r5 ?_ ?_
    ·exact lU
    ·exact fU
  ·have W7:i=35:=dU
   have mM:rA L=none:=by
    rw[hf,W7];rfl
   refine aY.never ?_;refine aY.of0 aN mixed (fun _=>0) kR fun P G E hc hM hE=>?_
   have v1:E.ofN 35=35:=fS
   have d1:E.lti i 35=false:=by rw[hE];exact dF cJ
   clear hE hc hM cq hg AM rQ vW AO hμ hn h1 hq eC hs hf W7;cbv at uW;cbv
   repeat (first|(simp only[uW];try cbv)|(simp only[v1];try cbv)|(simp only[d1];try cbv))
   exact .mk () r5 mM
 intro _ mM;have hv:=rQ mM;subst hv;refine aY.of0 aN mixed (fun _=>0) kR fun P G E hc hM hE=>?_
 clear hE hc hM cq hg AM rQ vW jK AO hμ hn h1 hq eC hs mM;cbv;all_goals trivial
theorem z54(s:ByteArray)(a:Int)(h0:0<=a)(h1:a<(s.size:Nat))(hs:s.size<=900000):V0 66 [pS s,pI a] (m7 s a):=by
 obtain⟨q,hq⟩:∃q,s.data.toList[a.toNat]?=some q:=⟨_,aB (by show a.toNat<s.size;omega)⟩
 cases hl:oP q with
 |true=>exact z09 s a q h0 hq hl hs
 |false=>
  cases hd:eH q with
  |true=>exact z55 s a q h0 hq hl hd hs
  |false=>
   rcases dP (q=34\/q=39)with sV|sV
   ·exact z52 s a q h0 hq sV hs
   ·exact xao s a q h0 hq hl hd sV hs
def w7(s:ByteArray):PV:=match mO s.data.toList with
 |(ts,none)=>.tup [.ro 3 (lF (s.size:Nat) ts),pI 0,pI 0]
 |(ts,some p)=>.tup [.ro 3 (lF (s.size:Nat) ts),pI ((s.size:Nat)-(p.1:Nat)),pI p.2]
def DV(n:Int)(TS:List Tk)(ER:Option (Nat×Int)):PV:=match ER with
 |none=>.tup [.ro 3 (lF n TS),pI 0,pI 0]
 |some p=>.tup [.ro 3 (lF n TS),pI (n-(p.1:Nat)),pI p.2]
theorem Wi(s:ByteArray)(hs:s.size<=900000):V0 39 [pS s] (w7 s):=by
 obtain⟨TS,ER,hL⟩:∃a b,mO s.data.toList=(a,b):=⟨_,_,rfl⟩
 have sH:w7 s=DV (s.size:Nat) TS ER:=by
  unfold w7 DV;rw[hL]
  cases ER<;>rfl
 obtain⟨n,hn⟩:∃n:Int,((s.size:Nat):Int)=n:=⟨_,rfl⟩
 rw[sH,hn];have jK:JY s n TS ER (0,0,[]):=⟨bU _,by show 0<=n;omega,[],rfl,rfl,by show(0:Int)<=0;omega,by show TS=[]++(mO s.data.toList).1;rw[hL];rfl,by show ER=(mO s.data.toList).2;rw[hL]⟩
 obtain⟨RV,dY⟩:∃x,DV n TS ER=x:=⟨_,rfl⟩
 rw[dY];obtain⟨μ,hμ⟩:∃μ:Int->Nat,∀x,μ x=2000000000-x.toNat:=⟨_,fun _=>rfl⟩
 have lQ:=fun(i:Int)(r:Bs)(b:Bool)(e:Int)(h0:0<=i)(h1:i<=n)(hR:kY (bD s i)=(r,b))(he:n-(r.length:Nat)=e)=>show V0 65 [pS s,pI i] (.tup [pI e,pB b])from he ▸ hn ▸ z1c s i r b h0 oM oM hR
 have rD:=fun(i:Int)(h0:0<=i)(h1:i<n)=>z54 s i h0 oM hs
 refine dE aN dO mixed (fun _=>0) Tryz.func39 rfl kR kR rfl fun P G E hc hE=>?_
 replace lQ:=fun(i:Int)(r:Bs)(b:Bool)(e:Int)(h0:0<=i)(h1:i<=n)(hR:kY (bD s i)=(r,b))(he:n-(r.length:Nat)=e)=>hc _ _ _ (lQ i r b e h0 h1 hR he)
 replace rD:=fun(i:Int)(h0:0<=i)(h1:i<n)=>hc _ _ _ (rD i h0 h1)
 have z1:E.size s=n:=iS
 have d0:E.lti 1048576 n=false:=sS
 have eadd:=su hE;have eroom:∀m:Nat,m<=2000000->E.room m 1 32:=fun m h=>by rw[hE];exact⟨by unfold maxLen;omega,by omega⟩
 have eaddN:∀m:Nat,E.addN m 1=m+1:=fun m=>by rw[hE];rfl
 have eapp:∀(rs:List (List PV))(m:Nat) x,m=rs.length->E.app rs m [x]=rs++[x]:=fun rs m x h=>by rw[hE];show rs.take m++[x]=_;rw[h,l7]
 have epre:∀(m:Nat)(rs:List (List PV)),m<=rs.length->E.pre 0 m rs:=fun m rs h=>by rw[hE];show 0+m<=rs.length;omega
 have esub:∀(m:Nat)(rs:List (List PV)),m=rs.length->E.sub rs 0 m=rs:=fun m rs h=>by rw[hE];show(rs.drop 0).take m=rs;rw[DM,h,l7]
 have es1:∀x:List PV,E.sub [x] 0 1=[x]:=fun x=>by rw[hE];rfl
 clear hE hc;cbv
 repeat (first|(simp only[z1];try cbv)|(simp only[d0];try cbv))
 refine iO.wk (BZ (d:=5) 3 59 rfl) ?_;refine gU 49 [0,5,6] 1 (fun x:Int×Nat×List (List PV)=>[.p (pS s),.osl 0 0 x.2.1,.p (pI x.1)]) (fun x=>[some (.rows 3 x.2.2 59)]) (JY s n TS ER) (fun x=>μ x.1) (0,0,[]) r5 jK ?_
 clear jK d0
 rintro⟨i,m,rs⟩ ⟨i0,i1,done,dQ,hm,jJ,oC,pP⟩
 simp only at i0 i1 dQ hm jJ oC pP;replace hn:((s.size:Nat):Int)=n:=hn;replace hm:done.length=m:=hm;replace jJ:((done.length:Nat):Int)<=i:=jJ;have eS:=qZ s i;obtain⟨r,b,sU⟩:∃r b,kY (bD s i)=(r,b):=⟨_,_,rfl⟩
 have hle:=HG (bD s i);rw[sU]at hle;simp only at hle;obtain⟨v,hv⟩:=Lz (bD s i);rw[sU]at hv;simp only at hv;obtain⟨f,hf⟩:∃x:Int,n-(r.length:Nat)=x:=⟨_,rfl⟩
 have wV:=lQ i r b f i0 i1 sU hf;have xj:(bD s i).length=v.length+r.length:=by rw[hv,sE]
 have mz:r=bD s f:=by
  exact Rr
 have mQ:=Ct _ r b sU;have pO:m=rs.length:=by rw[dQ,vh,hm]
 have p0:=epre m rs oM
 have t0:=esub m rs pO
 cases b with
 |false=>
  have hx:=Nj uB gD sU;change mO (bD s i)=_ at hx;rw[hx]at oC pP;simp only[cA]at oC pP;have nK:RV=.tup [.ro 3 rs,pI f,pI 4]:=by
   rw[<-dY,pP,oC,dQ,<- hf];rfl
  subst nK;clear dY rD lQ dQ hm jJ oC pP eS sU hle hv hf xj mz mQ hx hμ hn hs hL sH eadd eroom eaddN eapp epre esub es1 pO;cbv
  repeat (first|(refine⟨_,wV,?_⟩;cbv)|(refine⟨p0,?_⟩;cbv)|(simp only[t0];try cbv))
  all_goals trivial
 |true=>
  rcases mQ.2 rfl with x7|⟨c,r',x9,hw,hk⟩
  ·have hx:=Dx uB gD (l:=bD s i) (by rw[sU,x7])
   change mO (bD s i)=_ at hx;rw[hx]at oC pP;simp only[cA]at oC pP;have nK:RV=.tup [.ro 3 rs,pI 0,pI 0]:=by rw[<-dY,pP,oC,dQ];rfl
   have u0:f=n:=by rw[<-hf,x7];show n-0=n;omega
   have d1:decide (n=n)=true:=aA rfl;subst nK u0;clear dY rD lQ dQ hm jJ oC pP eS sU hle hv hf xj mz mQ hx hμ hn hs hL x7 sH eadd eroom eaddN eapp epre esub es1 pO;cbv
   repeat (first|(refine⟨_,wV,?_⟩;cbv)|(simp only[z1];try cbv)|(simp only[d1];try cbv)|(refine⟨p0,?_⟩;cbv)|(simp only[t0];try cbv))
   all_goals trivial
  ·have pK:0<r.length:=by rw[x9];simp
   have d1:decide (f=n)=false:=dF oM
   have nY:=rD f oM oM
   cases dL:jQ uB gD r with
   |bad e=>
    have hx:=Nb uB gD sU (by rw[x9];exact bZ _ _) dL
    change mO (bD s i)=_ at hx;rw[hx]at oC pP;simp only[cA]at oC pP;rw[IC ZR]at nY
    have UK:decide (e=0)=false:=dF (D8 dL);have nK:RV=.tup [.ro 3 rs,pI f,pI e]:=by
     rw[<-dY,pP,oC,dQ,<- hf];rfl
    subst nK;clear dY rD lQ dQ hm jJ oC pP eS sU hle hv hf xj mz mQ hx hμ hn hs hL x9 hw hk pK dL sH eadd eroom eaddN eapp epre esub es1 pO;cbv
    repeat (first|(refine⟨_,wV,?_⟩;cbv)|(simp only[z1];try cbv)|(simp only[d1];try cbv)|(refine⟨_,nY,?_⟩;cbv)|(simp only[UK];try cbv)|(refine⟨p0,?_⟩;cbv)|(simp only[t0];try cbv))
    all_goals trivial
   |ok k t r2=>
    have hx:=YC uB gD sU dL;change mO (bD s i)=(_::(mO r2).1,(mO r2).2)at hx;rw[hx]at oC pP;simp only at oC pP;rw[LS ZR,hn]at nY
    unfold kt at nY;have cJ:=HF uB gD dL;obtain⟨w,mu,lf,_⟩:=XV uB gD dL;obtain⟨e1,qT⟩:∃x:Int,n-(r2.length:Nat)=x:=⟨_,rfl⟩
    rw[qT]at nY;obtain⟨e2,sY⟩:∃x:Int,e1-f=x:=⟨_,rfl⟩
    rw[sY]at nY;have x8:bD s f=w++r2:=by rw[<-mz,lf]
    have fx:=aG List.length lf;rw[sE]at fx;have mV:r2=bD s e1:=by
     exact Sf
    obtain⟨T,hT⟩:∃x,bL t=x:=⟨_,rfl⟩
    rw[hT]at nY;obtain⟨RS2,dS⟩:∃x,rs++[[pI k,pS T,pI f]]=x:=⟨_,rfl⟩
    have a1:=eapp rs m [pI k,pS T,pI f] pO;rw[dS]at a1;have a2:=eaddN m;obtain⟨m1,nZ⟩:∃x,m+1=x:=⟨_,rfl⟩
    rw[nZ]at a2;have a3:=es1 [pI k,pS T,pI f];have p4:=eroom m oM
    have p5:=epre 1 [[pI k,pS T,pI f]] (nR 1);have e5:=eadd f e2 oM oM oM oM
    rw[show f+e2=e1 by omega]at e5
    have lU:JY s n TS ER (e1,m1,RS2):=by
     exact U7
    have fU:μ e1<μ i:=pb
    have f0:decide ((0:Int)=0)=true:=rfl;clear dY rD lQ dQ hm jJ oC pP eS sU hle hv hf xj mz mQ hx hμ hn hs hL x9 hw hk pK dL cJ mu lf qT sY x8 fx mV hT pO dS nZ sH eadd eroom eaddN eapp epre esub es1 t0;cbv
    repeat (first|(refine⟨_,wV,?_⟩;cbv)|(simp only[z1];try cbv)|(simp only[d1];try cbv)|(refine⟨_,nY,?_⟩;cbv)|(simp only[f0];try cbv)|(refine⟨p5,p0,p4,?_⟩;cbv)|(simp only[a3,a1,a2];try cbv)|(simp only[e5];try cbv))
    refine .mk (e1,m1,RS2) r5 ?_ ?_
    ·exact lU
    ·exact fU
theorem z59(s:ByteArray)(hs:s.size<=900000):V0 14 [pS s] (IQ s):=by
 have hb:=Wi s hs;unfold w7 at hb;obtain⟨TS,ER,hL⟩:∃a b,mO s.data.toList=(a,b):=⟨_,_,rfl⟩
 rw[hL]at hb
 cases ER with
 |none=>
  rw[HM hL];simp only at hb;generalize lF (s.size:Nat) TS=RS at *;have f0:decide ((0:Int)=0)=true:=rfl;refine dE aN dO mixed (fun _=>0) Tryz.func14 rfl kR kR rfl fun P G E hc hE=>?_
  replace hb:=hc _ _ _ hb;clear hE hc hL;cbv
  repeat (first|(refine⟨_,hb,?_⟩;cbv)|(simp only[f0];try cbv))
 |some p=>
  obtain⟨m,e⟩:=p;rw[WQ hL];have he:e≠0:=LI _ _ m e (aG Prod.snd hL);have d1:decide (e=0)=false:=dF he;simp only at hb;generalize lF (s.size:Nat) TS=RS at *;obtain⟨f,hf⟩:∃x:Int,((s.size:Nat):Int)-(m:Nat)=x:=⟨_,rfl⟩
  rw[hf]at hb ⊢;refine dE aN dO mixed (fun _=>0) Tryz.func14 rfl kR kR rfl fun P G E hc hE=>?_
  replace hb:=hc _ _ _ hb;clear hE hc hL he hf;cbv
  repeat (first|(refine⟨_,hb,?_⟩;cbv)|(simp only[d1];try cbv))
end Go.Proofs.YtjkcdcloomkooaaGreatDoor
