/- Own work: walks and laws of the parser and its reference. -/
import Derived.Test.YtjkcdcloomkooaaGreatDoorQXT
import Derived.Laws.Cover4
namespace Go.Proofs.YtjkcdcloomkooaaGreatDoor
set_option linter.unusedVariables false
set_option linter.unusedSimpArgs false
set_option linter.unusedSectionVars false
set_option maxHeartbeats 8000000
set_option maxRecDepth 100000
open Go.RowKit
abbrev G0(_:World):Prop:=True
theorem dO:∀w w',Gr w w'->G0 w->G0 w':=fun _ _ _ _=>trivial
abbrev V0(f:FuncId)(l:List PV)(r:PV):Prop:=fX Tryz.prog G0 f l r
abbrev VM(f:FuncId)(l:List AV)(H:AH)(r:AV)(K:AH):Prop:=jP Tryz.prog G0 f l H r K
abbrev pI(n:Int):PV:=.v (.int .i64 n)
abbrev pU(c:UInt8):PV:=.v (.int .u8 (c.toNat:Nat))
abbrev pB(b:Bool):PV:=.v (.bool b)
abbrev pS(s:ByteArray):PV:=.v (.string s)
def YR(b1 b2 b3 b4 b5 b6:Bool):Bool:=(b1&&b2)||((b3&&b4)||(b5||b6))
theorem z29(z:Int)(b1 b2 b3 b4 b5 b6:Bool)(h1:decide (97<=z)=b1)(h2:decide (z<=122)=b2)(h3:decide (65<=z)=b3)(h4:decide (z<=90)=b4)(h5:decide (z=95)=b5)(h6:decide (z=36)=b6):V0 116 [.v (.int .u8 z)] (pB (YR b1 b2 b3 b4 b5 b6)):=by
 cases b1<;>cases b2<;>cases b3<;>cases b4<;>cases b5<;>cases b6
 all_goals
  refine dE aN dO mixed (fun _=>0) Tryz.func116 rfl kR kR rfl fun P G E hc hE=>?_
  exact U6
theorem Xz(c:UInt8):V0 116 [pU c] (pB (oP c)):=by
 have h:=z29 (c.toNat:Nat) _ _ _ _ _ _ rfl rfl rfl rfl rfl rfl;exact Ub
theorem Xs(z:Int)(b1 b2 b3 b4 b5 b6:Bool)(h1:decide (97<=z)=b1)(h2:decide (z<=122)=b2)(h3:decide (65<=z)=b3)(h4:decide (z<=90)=b4)(h5:decide (z=95)=b5)(h6:decide (z=36)=b6):V0 97 [.v (.int .u8 z)] (pB (YR b1 b2 b3 b4 b5 b6)):=by
 cases b1<;>cases b2<;>cases b3<;>cases b4<;>cases b5<;>cases b6
 all_goals
  refine dE aN dO mixed (fun _=>0) Tryz.func97 rfl kR kR rfl fun P G E hc hE=>?_
  exact U6
theorem Z0(c:UInt8):V0 97 [pU c] (pB (oP c)):=by
 have h:=Xs (c.toNat:Nat) _ _ _ _ _ _ rfl rfl rfl rfl rfl rfl;exact Ub
theorem z8l(z:Int)(b1 b2:Bool)(h1:decide (48<=z)=b1)(h2:decide (z<=57)=b2):V0 117 [.v (.int .u8 z)] (pB (b1&&b2)):=by
 cases b1<;>cases b2
 all_goals
  refine dE aN dO mixed (fun _=>0) Tryz.func117 rfl kR kR rfl fun P G E hc hE=>?_
  exact Tl
theorem Cg(c:UInt8):V0 117 [pU c] (pB (eH c)):=by
 have h:=z8l (c.toNat:Nat) _ _ rfl rfl;exact Ul
theorem z1n(z:Int)(b1 b2:Bool)(h1:decide (48<=z)=b1)(h2:decide (z<=57)=b2):V0 98 [.v (.int .u8 z)] (pB (b1&&b2)):=by
 cases b1<;>cases b2
 all_goals
  refine dE aN dO mixed (fun _=>0) Tryz.func98 rfl kR kR rfl fun P G E hc hE=>?_
  exact Tl
theorem D7(c:UInt8):V0 98 [pU c] (pB (eH c)):=by
 have h:=z1n (c.toNat:Nat) _ _ rfl rfl;exact Ul
def bD(s:ByteArray)(i:Int):Bs:=s.data.toList.drop i.toNat
theorem qZ(s:ByteArray)(i:Int):(bD s i).length=s.size-i.toNat:=by
 unfold bD;simp_all
def uN(s:ByteArray)(i:Int)(t:Bs):Bool:=decide ((bD s i).take t.length=t)
theorem yN{a b:ByteArray}(h:a.data.toList=b.data.toList):a=b:=by
 show(⟨a.data.toList.toArray⟩:ByteArray)=⟨b.data.toList.toArray⟩;rw[h]
theorem m9(s:ByteArray)(l h:Nat):(s.extract l h).data.toList=(s.data.toList.drop l).take (h-l):=by
 simp_all
theorem M1(s t:ByteArray)(i:Int)(h0:0<=i)(h1:i<=(s.size:Nat))(hs:s.size<=1000000000)(ht:t.size<=1000000):V0 96 [pS s,pI i,pS t] (pB (uN s i t.data.toList)):=by
 obtain⟨n,hn⟩:∃n:Int,((s.size:Nat):Int)=n:=⟨_,rfl⟩
 obtain⟨m,hm⟩:∃m:Int,((t.size:Nat):Int)=m:=⟨_,rfl⟩
 obtain⟨d,hd⟩:∃d:Int,n-i=d:=⟨_,rfl⟩
 obtain⟨e,he⟩:∃e:Int,i+m=e:=⟨_,rfl⟩
 have bS:t.data.toList.length=t.size:=rfl
 by_cases oJ:m<=d
 ·have hb:decide (s.extract i.toNat e.toNat=t)=uN s i t.data.toList:=by
   unfold uN bD;have e1:e.toNat-i.toNat=t.data.toList.length:=dU
   refine fM.2 ⟨fun h=>?_,fun h=>?_⟩
   ·rw[<-e1,<- m9,h]
   ·refine yN ?_;rw[m9,e1,h]
  generalize hr:uN s i t.data.toList=r at hb;refine dE aN dO mixed (fun _=>0) Tryz.func96 rfl kR kR rfl fun P G E hc hE=>?_
  have z1:E.size s=n:=iS
  have z2:E.size t=m:=by rw[hE];exact hm
  have z3:E.wsub .i64 n i=d:=by rw[hE,<- hd];exact jX oM oM
  have z4:E.lei m d=true:=by rw[hE];exact aA oJ
  have z5:E.wadd .i64 i m=e:=by rw[hE,<- he];exact jX oM oM
  have p1:E.ple 0 i:=wT
  have p2:E.ple i e:=by rw[hE];show i<=e;omega
  have p3:E.ple e n:=by rw[hE];show e<=n;omega
  have z6:E.eq (E.ext s (E.nat i) (E.nat e)) t=r:=by rw[hE];exact hb
  clear hE hn hm oJ hb hd he bS;exact nI
 ·have hr:uN s i t.data.toList=false:=by
   refine dF fun h=>?_
   have:=aG List.length h
   rw[uL,qZ]at this;omega
  rw[hr];refine dE aN dO mixed (fun _=>0) Tryz.func96 rfl kR kR rfl fun P G E hc hE=>?_
  have z1:E.size s=n:=iS
  have z2:E.size t=m:=by rw[hE];exact hm
  have z3:E.wsub .i64 n i=d:=by rw[hE,<- hd];exact jX oM oM
  have z4:E.lei m d=false:=by rw[hE];exact dF oJ
  clear hE hn hm oJ hr hd he bS;exact nI
theorem uP{s:ByteArray}{i:Int}{c:UInt8}(h0:0<=i)(h:s.data.toList[i.toNat]?=some c):bD s i=c::bD s (i+1):=by
 unfold bD;have hl:=(aC.1 h).1;rw[cQ hl,show(i+1).toNat=i.toNat+1 by omega]
 grind
theorem iu{s:ByteArray}{i:Int}(h:(s.size:Nat)<=i):bD s i=[]:=by
 have:=qZ s i
 exact aQ oM
structure Sk(s:ByteArray)(n:Int)(R:Bs×Bool)(i:Int):Prop where
 i0:0<=i
 i1:i<=n
 sk:kY (bD s i)=R
structure A8(s:ByteArray)(n:Int)(D:Bs)(i:Int):Prop where
 i0:0<=i
 i1:i<=n
 dl:oD (bD s i)=D
structure Ht(s:ByteArray)(n:Int)(D:Option Bs)(i:Int):Prop where
 i0:0<=i
 i1:i<=n
 dl:xD (bD s i)=D
theorem xdf{s:ByteArray}{i:Int}:(uN s i [47,47]=true ↔ qE (bD s i)=1)/\(uN s i [47,42]=true ↔ qE (bD s i)=2):=by
 unfold uN qE
 grind
theorem Pw{l:Bs}(h:qE l=1):∃r,l=47::47::r:=by
 unfold qE at h
 split at h
 ·rename_i h2
  match l,h2 with
  |a::b::r,h2=>grind
 grind
theorem Px{l:Bs}(h:qE l=2):∃r,l=47::42::r:=by
 unfold qE at h
 split at h
 ·cases h
 ·split at h
  ·rename_i h2
   match l,h2 with
   |a::b::r,h2=>grind
  ·cases h
theorem xde{s:ByteArray}{j:Int}{c:UInt8}(h:bD s j=c::bD s (j+1)):uN s j [42,47]=decide (c=42/\(bD s (j+1)).head?=some 47):=by
 unfold uN;rw[h]
 cases bD s (j+1)with
 |nil=>simp
 |cons d r=>simp
theorem z1c(s:ByteArray)(at0:Int)(r:Bs)(b:Bool)(h0:0<=at0)(h1:at0<=(s.size:Nat))(hs:s.size<=1000000000)(hR:kY (bD s at0)=(r,b)):V0 65 [pS s,pI at0] (.tup [pI ((s.size:Nat)-(r.length:Nat)),pB b]):=by
 obtain⟨n,hn⟩:∃n:Int,((s.size:Nat):Int)=n:=⟨_,rfl⟩
 obtain⟨e,he⟩:∃e:Int,n-(r.length:Nat)=e:=⟨_,rfl⟩
 rw[hn]at h1;rw[hn,he];obtain⟨μ,hμ⟩:∃μ:Int->Nat,∀i,μ i=2000000000-i.toNat:=⟨_,fun _=>rfl⟩
 have sM:=fun(i:Int)(iF:0<=i)(iI:i<=n)(t:ByteArray)(ht:t.size<=1000000)=>M1 s t i iF oM hs ht
 have aU:∀i:Int,0<=i->i<n->∃c,s.data.toList[i.toNat]?=some c:=fun i iF iI=>⟨_,aB bw⟩
 have jK:Sk s n (r,b) at0:=⟨h0,h1,hR⟩;have cV:∀i,Sk s n (r,b) i->kY (bD s i)=(bD s i,true)->e=i/\b=true:=fun i hi h=>by
  exact Ry
 refine dE aN dO mixed (fun _=>0) Tryz.func65 rfl kR kR rfl fun P G E hc hE=>?_
 replace sM:=fun(i:Int)(iF:0<=i)(iI:i<=n)(t:ByteArray)(ht:t.size<=1000000)=>hc _ _ _ (sM i iF iI t ht)
 have z1:E.size s=n:=iS
 have elt:=xV hE;have ege:∀a b,E.lei a b=decide (a<=b):=fun a b=>by rw[hE];rfl
 have eple:=uA hE;have eget:∀(i:Int)(c:UInt8)(z:Int),s.data.toList[i.toNat]?=some c->((c.toNat:Nat):Int)=z->E.get s (E.nat i)=some z:=fun i c z h hz=>by
  exact JV
 have eadd:∀a b:Int,-1000000000<=a->a<=1000000000->-1000000<=b->b<=1000000->E.wadd .i64 a b=a+b:=fun a b h0 h1 h2 h3=>by rw[hE];exact jX oM oM
 clear hE hc hR h0 h1;cbv;refine gU 75 [0,1] 0 (fun i:Int=>[.p (pS s),.p (pI i)]) (fun _=>[]) (Sk s n (r,b)) μ at0 r5 jK ?_
 clear jK;intro i hI;replace hn:((s.size:Nat):Int)=n:=hn;have iF:=hI.i0;have iI:=hI.i1
 rcases dP (i<n)with cJ|cJ
 ·have d1:E.lti i n=true:=aZ
  obtain⟨c,eE⟩:=aU i iF cJ;obtain⟨z,hz⟩:∃z:Int,((c.toNat:Nat):Int)=z:=⟨_,rfl⟩
  have g1:=eget i c z eE hz;have p1:=eple 0 i iF;have ei:=eadd i 1 oM oM oM oM
  have dR:=uP iF eE;have hM:μ (E.wadd .i64 i 1)<μ i:=aZ
  have xK:∀k:Nat,k<256->(z=(k:Nat) ↔ c=UInt8.ofNat k):=fun k hk=>by
   rw[<-hz]
   constructor
   ·intro h;have h':c.toNat=k:=dU
    rw[<-h',sP]
   ·intro h;rw[h,UInt8.toNat_ofNat'];omega
  cases hw:xI c with
  |true=>
   have lU:Sk s n (r,b) (E.wadd .i64 i 1):=by
    exact Rx
   have Is:c=9\/c≠9/\(c=10\/c≠10/\(c=13\/c≠13/\c=32)):=by
    unfold xI at hw
    grind
   rcases Is with e9|⟨e9,e10|⟨e10,e13|⟨e13,e32⟩⟩⟩
   ·have w9:decide (z=9)=true:=aA ((xK 9 aT).2 e9)
    clear sM aU cV elt ege eple eget eadd xK hn he dR eE hz ei hw e9;exact RK
   ·have w9:decide (z=9)=false:=dF fun h=>e9 ((xK 9 aT).1 h)
    have w10:decide (z=10)=true:=aA ((xK 10 aT).2 e10)
    clear sM aU cV elt ege eple eget eadd xK hn he dR eE hz ei hw e9 e10;exact RK
   ·have w9:decide (z=9)=false:=dF fun h=>e9 ((xK 9 aT).1 h)
    have w10:decide (z=10)=false:=dF fun h=>e10 ((xK 10 aT).1 h)
    have w13:decide (z=13)=true:=aA ((xK 13 aT).2 e13)
    clear sM aU cV elt ege eple eget eadd xK hn he dR eE hz ei hw e9 e10 e13;exact RK
   ·have w9:decide (z=9)=false:=dF fun h=>e9 ((xK 9 aT).1 h)
    have w10:decide (z=10)=false:=dF fun h=>e10 ((xK 10 aT).1 h)
    have w13:decide (z=13)=false:=dF fun h=>e13 ((xK 13 aT).1 h)
    have w32:decide (z=32)=true:=aA ((xK 32 aT).2 e32)
    clear sM aU cV elt ege eple eget eadd xK hn he dR eE hz ei hw e9 e10 e13 e32;exact RK
  |false=>
   have eA:c≠9/\c≠10/\c≠13/\c≠32:=by
    unfold xI at hw
    grind
   have w9:decide (z=9)=false:=dF fun h=>eA.1 ((xK 9 aT).1 h)
   have w10:decide (z=10)=false:=dF fun h=>eA.2.1 ((xK 10 aT).1 h)
   have w13:decide (z=13)=false:=dF fun h=>eA.2.2.1 ((xK 13 aT).1 h)
   have w32:decide (z=32)=false:=dF fun h=>eA.2.2.2 ((xK 32 aT).1 h)
   have dG:=sM i iF iI ⟨#[47,47]⟩ aT
   have gE:=sM i iF iI ⟨#[47,42]⟩ aT
   obtain⟨k1,k2⟩:=xdf (s:=s) (i:=i)
   rcases Lb (bD s i)with hk|hk|hk
   ·have f1:uN s i [47,47]=false:=jx.2 fun h=>by grind
    have f2:uN s i [47,42]=false:=jx.2 fun h=>by grind
    change fX P G _ _ (pB (uN s i [47,47]))at dG;change fX P G _ _ (pB (uN s i [47,42]))at gE;rw[f1]at dG;rw[f2]at gE;obtain⟨rfl,rfl⟩:=cV i hI (by rw[dR]at hk ⊢;exact IE hw hk)
    clear sM aU cV elt ege eple eget eadd xK hn he dR eE hz ei hw eA k1 k2 f1 f2 hk;exact nI
   ·have f1:uN s i [47,47]=true:=k1.2 hk;change fX P G _ _ (pB (uN s i [47,47]))at dG;rw[f1]at dG;obtain⟨r2,mV⟩:=Pw hk;obtain⟨D,hD⟩:∃D,oD (bD s i)=D:=⟨_,rfl⟩
    have AX:oD r2=D:=by
     rw[<-hD,mV,oD,aE aT,oD,aE aT]
    have W0:kY D=(r,b):=by
     have h5:=hI.sk;rw[mV,LV aT rfl]at h5
     grind
    have TU:D.length+2<=(bD s i).length:=by
     have h5:=HZ r2
     grind
    have hlen:=qZ s i;have UZ:A8 s n D i:=⟨iF,iI,hD⟩;have nL:∀j,A8 s n D j->bD s j=D->Sk s n (r,b) j/\μ j<μ i:=fun j hj h=>by
     have h5:=qZ s j;have h6:=hj.i0;have h7:=hj.i1;rw[h]at h5;refine⟨⟨h6,h7,by rw[h];exact W0⟩,?_⟩
     grind
    clear xK hI dR k1 k2 gE hk mV hD AX W0 TU hlen cV sM eE hz eA hw f1 ei hM;cbv;refine bt ?_;refine gU 75 [0,1] 0 (fun j:Int=>[.p (pS s),.p (pI j)]) (fun _=>[]) (A8 s n D) μ i r5 UZ ?_
    clear UZ g1 w9 w10 w13 w32 dG p1 d1;intro j hJ;replace hn:((s.size:Nat):Int)=n:=hn;have xo:=hJ.i0;have Vj:=hJ.i1
    rcases dP (j<n)with TQ|TQ
    ·have d1:E.lti j n=true:=aZ
     obtain⟨x,hx⟩:=aU j xo TQ;obtain⟨y,hy⟩:∃y:Int,((x.toNat:Nat):Int)=y:=⟨_,rfl⟩
     have g1:=eget j x y hx hy;have p1:=eple 0 j xo;have wU:=uP xo hx;have jJ:=hJ.dl;rw[wU,oD]at jJ
     rcases dP (x=10)with ft|ft
     ·rw[aF ft,<- wU]at jJ;have w10:decide (y=10)=true:=aA (by rw[<-hy,ft];rfl)
      obtain⟨q1,q2⟩:=nL j hJ jJ;clear nL aU elt ege eple eget eadd hn he wU hx hy jJ ft;cbv;refine bt ?_;refine .mk j r5 ?_ ?_
      ·exact q1
      ·exact q2
     ·rw[aE ft]at jJ;have w10:decide (y=10)=false:=dF fun h=>ft (cT.1 aZ)
      have ej:=eadd j 1 oM oM oM oM
      have q1:A8 s n D (E.wadd .i64 j 1):=by rw[ej];exact⟨by omega,by omega,jJ⟩
      have q2:μ (E.wadd .i64 j 1)<μ j:=aZ
      clear nL aU elt ege eple eget eadd hn he wU hx hy jJ ft ej;exact Ro
    ·have d1:E.lti j n=false:=aZ
     have jJ:=hJ.dl;have wU:bD s j=[]:=iu oM
     rw[wU]at jJ;obtain⟨q1,q2⟩:=nL j hJ (by rw[wU];exact jJ)
     clear nL aU elt ege eple eget eadd hn he wU jJ;cbv;refine bt ?_;refine .mk j r5 ?_ ?_
     ·exact q1
     ·exact q2
   ·have f1:uN s i [47,47]=false:=jx.2 fun h=>by grind
    have f2:uN s i [47,42]=true:=k2.2 hk;change fX P G _ _ (pB (uN s i [47,47]))at dG;change fX P G _ _ (pB (uN s i [47,42]))at gE;rw[f1]at dG;rw[f2]at gE;obtain⟨r2,mV⟩:=Px hk;have hlen:=qZ s i;rw[mV]at hlen;simp only[qD]at hlen;have gd:bD s (i+2)=r2:=by
     have h5:bD s (i+2)=(bD s i).drop 2:=by
      unfold bD;rw[yS]
      grind
     grind
    obtain⟨D,hD⟩:∃D,xD r2=D:=⟨_,rfl⟩
    have lQ:=hI.sk;have ei2:=eadd i 2 oM oM oM oM
    have UZ:Ht s n D (E.wadd .i64 i 2):=by rw[ei2];exact⟨by omega,by omega,by rw[gd];exact hD⟩
    have nL:∀j,0<=j->j<=n->D=some (bD s j)->Sk s n (r,b) j/\μ j<μ i:=fun j h6 h7 h=>by
     have h5:=qZ s j;rw[h]at hD;have h8:=HY hD;refine⟨⟨h6,h7,?_⟩,?_⟩
     ·rw[mV,LU (c:=47) (r:=42::r2) aT rfl hD]at lQ
      exact lQ
     grind
    have cY:D=none->e=i/\b=false:=fun h=>by
     rw[mV,LY aT rfl (by rw[<-h];exact hD)]at lQ
     grind
    clear xK hI dR k1 k2 hk mV hlen cV eE hz eA hw f1 f2 ei hM gd hD lQ ei2 he;cbv;refine bt ?_;refine gU 75 [0,1,7] 0 (fun j:Int=>[.p (pS s),.p (pI i),.p (pI j)]) (fun _=>[]) (Ht s n D) μ (E.wadd .i64 i 2) r5 UZ ?_
    clear UZ g1 w9 w10 w13 w32 dG gE p1 d1;intro j hJ;replace hn:((s.size:Nat):Int)=n:=hn;have xo:=hJ.i0;have Vj:=hJ.i1
    rcases dP (j<n)with TQ|TQ
    ·have d1:E.lti j n=true:=aZ
     obtain⟨x,hx⟩:=aU j xo TQ;have wU:=uP xo hx;have jJ:=hJ.dl;have eg:=sM j xo Vj ⟨#[42,47]⟩ aT
     change fX P G _ _ (pB (uN s j [42,47]))at eg;rw[xde wU]at eg;rw[wU,xD]at jJ
     rcases dP (x=42/\(bD s (j+1)).head?=some 47)with ES|ES
     ·rw[aA ES]at eg;rw[aF ES]at jJ;have d2:E.lei n j=false:=aZ
      have dt:(bD s (j+1)).tail=bD s (j+2):=by
       unfold bD;rw[List.tail_drop]
       grind
      have tW:j+2<=n:=by
       have h5:=qZ s (j+1);have h6:(bD s (j+1))≠[]:=fun h=>by grind
       have h7:=aV.2 h6;omega
      have ej:=eadd j 2 oM oM oM oM
      obtain⟨q1,q2⟩:=nL (E.wadd .i64 j 2) oM oM aZ
      clear nL cY aU sM elt ege eple eget eadd hn wU hx jJ ES dt tW ej;cbv;refine bt ?_;refine .mk (E.wadd .i64 j 2) r5 ?_ ?_
      ·exact q1
      ·exact q2
     ·rw[dF ES]at eg;rw[aE ES]at jJ;have ej:=eadd j 1 oM oM oM oM
      have q1:Ht s n D (E.wadd .i64 j 1):=by rw[ej];exact⟨by omega,by omega,jJ⟩
      have q2:μ (E.wadd .i64 j 1)<μ j:=aZ
      clear nL cY aU sM elt ege eple eget eadd hn wU hx jJ ES ej;exact Ro
    ·have d1:E.lti j n=false:=aZ
     have d2:E.lei n j=true:=aZ
     have jJ:=hJ.dl;have wU:bD s j=[]:=iu oM
     rw[wU]at jJ;obtain⟨rfl,rfl⟩:=cY jJ.symm;clear nL cY aU sM elt ege eple eget eadd hn wU jJ;exact nI
 ·have d1:E.lti i n=false:=aZ
  obtain⟨rfl,rfl⟩:=cV i hI (by rw[iu oM];rfl)
  exact nI
def lH:List ByteArray:=[⟨#[97,115,121,110,99]⟩,⟨#[97,119,97,105,116]⟩,⟨#[98,114,101,97,107]⟩,⟨#[99,111,110,115,116]⟩,⟨#[99,111,110,116,105,110,117,101]⟩,⟨#[100,101,108,101,116,101]⟩,⟨#[101,108,115,101]⟩,⟨#[102,97,108,115,101]⟩,⟨#[102,105,110,97,108,108,121]⟩,⟨#[102,111,114]⟩,⟨#[102,117,110,99,116,105,111,110]⟩,⟨#[105,102]⟩,⟨#[105,110]⟩,⟨#[105,110,115,116,97,110,99,101,111,102]⟩,⟨#[108,101,116]⟩,⟨#[110,101,119]⟩,⟨#[110,117,108,108]⟩,⟨#[111,102]⟩,⟨#[114,101,116,117,114,110]⟩,⟨#[116,104,105,115]⟩,⟨#[116,104,114,111,119]⟩,⟨#[116,114,117,101]⟩,⟨#[116,114,121]⟩,⟨#[99,97,116,99,104]⟩,⟨#[116,121,112,101,111,102]⟩,⟨#[117,110,100,101,102,105,110,101,100]⟩,⟨#[119,104,105,108,101]⟩,⟨#[121,105,101,108,100]⟩]
theorem PQ:lH.map (fun s=>s.data.toList)=YZ:=rfl
theorem Nu(s:ByteArray):mh s.data.toList=lH.any (fun x=>decide (s=x)):=by
 unfold mh;rw[<-PQ,List.any_map]
 congr 1
 funext x
 by_cases h:s=x
 ·grind
 ·rw[dF h];exact oY.2 fun e=>h (yN e.symm)
theorem z7u(s:ByteArray):V0 118 [pS s] (pB (mh s.data.toList)):=by
 rw[Nu]
 by_cases e0:s=⟨#[97,115,121,110,99]⟩
 ·rw[show lH.any (fun x=>decide (s=x))=true by rw[e0];decide +kernel]
  refine dE aN dO mixed (fun _=>0) Tryz.func118 rfl kR kR rfl fun P G E hc hE=>?_
  have eT:=show E.eq s _=true by rw[hE];exact aA e0
  exact ZZ
 by_cases e1:s=⟨#[97,119,97,105,116]⟩
 ·rw[show lH.any (fun x=>decide (s=x))=true by rw[e1];decide +kernel]
  refine dE aN dO mixed (fun _=>0) Tryz.func118 rfl kR kR rfl fun P G E hc hE=>?_
  have eF:=sQ hE s;have eT:=show E.eq s _=true by rw[hE];exact aA e1
  exact ZZ
 by_cases e2:s=⟨#[98,114,101,97,107]⟩
 ·rw[show lH.any (fun x=>decide (s=x))=true by rw[e2];decide +kernel]
  refine dE aN dO mixed (fun _=>0) Tryz.func118 rfl kR kR rfl fun P G E hc hE=>?_
  have eF:=sQ hE s;have eT:=show E.eq s _=true by rw[hE];exact aA e2
  exact ZZ
 by_cases e3:s=⟨#[99,111,110,115,116]⟩
 ·rw[show lH.any (fun x=>decide (s=x))=true by rw[e3];decide +kernel]
  refine dE aN dO mixed (fun _=>0) Tryz.func118 rfl kR kR rfl fun P G E hc hE=>?_
  have eF:=sQ hE s;have eT:=show E.eq s _=true by rw[hE];exact aA e3
  exact ZZ
 by_cases e4:s=⟨#[99,111,110,116,105,110,117,101]⟩
 ·rw[show lH.any (fun x=>decide (s=x))=true by rw[e4];decide +kernel]
  refine dE aN dO mixed (fun _=>0) Tryz.func118 rfl kR kR rfl fun P G E hc hE=>?_
  have eF:=sQ hE s;have eT:=show E.eq s _=true by rw[hE];exact aA e4
  clear hE hc;cbv
  repeat (first|(simp only[eF _ e0,eF _ e1,eF _ e2,eF _ e3,eT];try cbv))
 by_cases e5:s=⟨#[100,101,108,101,116,101]⟩
 ·rw[show lH.any (fun x=>decide (s=x))=true by rw[e5];decide +kernel]
  refine dE aN dO mixed (fun _=>0) Tryz.func118 rfl kR kR rfl fun P G E hc hE=>?_
  have eF:=sQ hE s;have eT:=show E.eq s _=true by rw[hE];exact aA e5
  clear hE hc;cbv
  repeat (first|(simp only[eF _ e0,eF _ e1,eF _ e2,eF _ e3,eF _ e4,eT];try cbv))
 by_cases e6:s=⟨#[101,108,115,101]⟩
 ·rw[show lH.any (fun x=>decide (s=x))=true by rw[e6];decide +kernel]
  refine dE aN dO mixed (fun _=>0) Tryz.func118 rfl kR kR rfl fun P G E hc hE=>?_
  have eF:=sQ hE s;have eT:=show E.eq s _=true by rw[hE];exact aA e6
  clear hE hc;cbv
  repeat (first|(simp only[eF _ e0,eF _ e1,eF _ e2,eF _ e3,eF _ e4,eF _ e5,eT];try cbv))
 by_cases e7:s=⟨#[102,97,108,115,101]⟩
 ·rw[show lH.any (fun x=>decide (s=x))=true by rw[e7];decide +kernel]
  refine dE aN dO mixed (fun _=>0) Tryz.func118 rfl kR kR rfl fun P G E hc hE=>?_
  have eF:=sQ hE s;have eT:=show E.eq s _=true by rw[hE];exact aA e7
  clear hE hc;cbv
  repeat (first|(simp only[eF _ e0,eF _ e1,eF _ e2,eF _ e3,eF _ e4,eF _ e5,eF _ e6,eT];try cbv))
 by_cases e8:s=⟨#[102,105,110,97,108,108,121]⟩
 ·rw[show lH.any (fun x=>decide (s=x))=true by rw[e8];decide +kernel]
  refine dE aN dO mixed (fun _=>0) Tryz.func118 rfl kR kR rfl fun P G E hc hE=>?_
  have eF:=sQ hE s;have eT:=show E.eq s _=true by rw[hE];exact aA e8
  clear hE hc;cbv
  repeat (first|(simp only[eF _ e0,eF _ e1,eF _ e2,eF _ e3,eF _ e4,eF _ e5,eF _ e6,eF _ e7,eT];try cbv))
 by_cases e9:s=⟨#[102,111,114]⟩
 ·rw[show lH.any (fun x=>decide (s=x))=true by rw[e9];decide +kernel]
  refine dE aN dO mixed (fun _=>0) Tryz.func118 rfl kR kR rfl fun P G E hc hE=>?_
  have eF:=sQ hE s;have eT:=show E.eq s _=true by rw[hE];exact aA e9
  clear hE hc;cbv
  repeat (first|(simp only[eF _ e0,eF _ e1,eF _ e2,eF _ e3,eF _ e4,eF _ e5,eF _ e6,eF _ e7,eF _ e8,eT];try cbv))
 by_cases e10:s=⟨#[102,117,110,99,116,105,111,110]⟩
 ·rw[show lH.any (fun x=>decide (s=x))=true by rw[e10];decide +kernel]
  refine dE aN dO mixed (fun _=>0) Tryz.func118 rfl kR kR rfl fun P G E hc hE=>?_
  have eF:=sQ hE s;have eT:=show E.eq s _=true by rw[hE];exact aA e10
  clear hE hc;cbv
  repeat (first|(simp only[eF _ e0,eF _ e1,eF _ e2,eF _ e3,eF _ e4,eF _ e5,eF _ e6,eF _ e7,eF _ e8,eF _ e9,eT];try cbv))
 by_cases e11:s=⟨#[105,102]⟩
 ·rw[show lH.any (fun x=>decide (s=x))=true by rw[e11];decide +kernel]
  refine dE aN dO mixed (fun _=>0) Tryz.func118 rfl kR kR rfl fun P G E hc hE=>?_
  have eF:=sQ hE s;have eT:=show E.eq s _=true by rw[hE];exact aA e11
  clear hE hc;cbv
  repeat (first|(simp only[eF _ e0,eF _ e1,eF _ e2,eF _ e3,eF _ e4,eF _ e5,eF _ e6,eF _ e7,eF _ e8,eF _ e9,eF _ e10,eT];try cbv))
 by_cases e12:s=⟨#[105,110]⟩
 ·rw[show lH.any (fun x=>decide (s=x))=true by rw[e12];decide +kernel]
  refine dE aN dO mixed (fun _=>0) Tryz.func118 rfl kR kR rfl fun P G E hc hE=>?_
  have eF:=sQ hE s;have eT:=show E.eq s _=true by rw[hE];exact aA e12
  clear hE hc;cbv
  repeat (first|(simp only[eF _ e0,eF _ e1,eF _ e2,eF _ e3,eF _ e4,eF _ e5,eF _ e6,eF _ e7,eF _ e8,eF _ e9,eF _ e10,eF _ e11,eT];try cbv))
 by_cases e13:s=⟨#[105,110,115,116,97,110,99,101,111,102]⟩
 ·rw[show lH.any (fun x=>decide (s=x))=true by rw[e13];decide +kernel]
  refine dE aN dO mixed (fun _=>0) Tryz.func118 rfl kR kR rfl fun P G E hc hE=>?_
  have eF:=sQ hE s;have eT:=show E.eq s _=true by rw[hE];exact aA e13
  clear hE hc;cbv
  repeat (first|(simp only[eF _ e0,eF _ e1,eF _ e2,eF _ e3,eF _ e4,eF _ e5,eF _ e6,eF _ e7,eF _ e8,eF _ e9,eF _ e10,eF _ e11,eF _ e12,eT];try cbv))
 by_cases e14:s=⟨#[108,101,116]⟩
 ·rw[show lH.any (fun x=>decide (s=x))=true by rw[e14];decide +kernel]
  refine dE aN dO mixed (fun _=>0) Tryz.func118 rfl kR kR rfl fun P G E hc hE=>?_
  have eF:=sQ hE s;have eT:=show E.eq s _=true by rw[hE];exact aA e14
  clear hE hc;cbv
  repeat (first|(simp only[eF _ e0,eF _ e1,eF _ e2,eF _ e3,eF _ e4,eF _ e5,eF _ e6,eF _ e7,eF _ e8,eF _ e9,eF _ e10,eF _ e11,eF _ e12,eF _ e13,eT];try cbv))
 by_cases e15:s=⟨#[110,101,119]⟩
 ·rw[show lH.any (fun x=>decide (s=x))=true by rw[e15];decide +kernel]
  refine dE aN dO mixed (fun _=>0) Tryz.func118 rfl kR kR rfl fun P G E hc hE=>?_
  have eF:=sQ hE s;have eT:=show E.eq s _=true by rw[hE];exact aA e15
  clear hE hc;cbv
  repeat (first|(simp only[eF _ e0,eF _ e1,eF _ e2,eF _ e3,eF _ e4,eF _ e5,eF _ e6,eF _ e7,eF _ e8,eF _ e9,eF _ e10,eF _ e11,eF _ e12,eF _ e13,eF _ e14,eT];try cbv))
 by_cases e16:s=⟨#[110,117,108,108]⟩
 ·rw[show lH.any (fun x=>decide (s=x))=true by rw[e16];decide +kernel]
  refine dE aN dO mixed (fun _=>0) Tryz.func118 rfl kR kR rfl fun P G E hc hE=>?_
  have eF:=sQ hE s;have eT:=show E.eq s _=true by rw[hE];exact aA e16
  clear hE hc;cbv
  repeat (first|(simp only[eF _ e0,eF _ e1,eF _ e2,eF _ e3,eF _ e4,eF _ e5,eF _ e6,eF _ e7,eF _ e8,eF _ e9,eF _ e10,eF _ e11,eF _ e12,eF _ e13,eF _ e14,eF _ e15,eT];try cbv))
 by_cases e17:s=⟨#[111,102]⟩
 ·rw[show lH.any (fun x=>decide (s=x))=true by rw[e17];decide +kernel]
  refine dE aN dO mixed (fun _=>0) Tryz.func118 rfl kR kR rfl fun P G E hc hE=>?_
  have eF:=sQ hE s;have eT:=show E.eq s _=true by rw[hE];exact aA e17
  clear hE hc;cbv
  repeat (first|(simp only[eF _ e0,eF _ e1,eF _ e2,eF _ e3,eF _ e4,eF _ e5,eF _ e6,eF _ e7,eF _ e8,eF _ e9,eF _ e10,eF _ e11,eF _ e12,eF _ e13,eF _ e14,eF _ e15,eF _ e16,eT];try cbv))
 by_cases e18:s=⟨#[114,101,116,117,114,110]⟩
 ·rw[show lH.any (fun x=>decide (s=x))=true by rw[e18];decide +kernel]
  refine dE aN dO mixed (fun _=>0) Tryz.func118 rfl kR kR rfl fun P G E hc hE=>?_
  have eF:=sQ hE s;have eT:=show E.eq s _=true by rw[hE];exact aA e18
  clear hE hc;cbv
  repeat (first|(simp only[eF _ e0,eF _ e1,eF _ e2,eF _ e3,eF _ e4,eF _ e5,eF _ e6,eF _ e7,eF _ e8,eF _ e9,eF _ e10,eF _ e11,eF _ e12,eF _ e13,eF _ e14,eF _ e15,eF _ e16,eF _ e17,eT];try cbv))
 by_cases e19:s=⟨#[116,104,105,115]⟩
 ·rw[show lH.any (fun x=>decide (s=x))=true by rw[e19];decide +kernel]
  refine dE aN dO mixed (fun _=>0) Tryz.func118 rfl kR kR rfl fun P G E hc hE=>?_
  have eF:=sQ hE s;have eT:=show E.eq s _=true by rw[hE];exact aA e19
  clear hE hc;cbv
  repeat (first|(simp only[eF _ e0,eF _ e1,eF _ e2,eF _ e3,eF _ e4,eF _ e5,eF _ e6,eF _ e7,eF _ e8,eF _ e9,eF _ e10,eF _ e11,eF _ e12,eF _ e13,eF _ e14,eF _ e15,eF _ e16,eF _ e17,eF _ e18,eT];try cbv))
 by_cases e20:s=⟨#[116,104,114,111,119]⟩
 ·rw[show lH.any (fun x=>decide (s=x))=true by rw[e20];decide +kernel]
  refine dE aN dO mixed (fun _=>0) Tryz.func118 rfl kR kR rfl fun P G E hc hE=>?_
  have eF:=sQ hE s;have eT:=show E.eq s _=true by rw[hE];exact aA e20
  clear hE hc;cbv
  repeat (first|(simp only[eF _ e0,eF _ e1,eF _ e2,eF _ e3,eF _ e4,eF _ e5,eF _ e6,eF _ e7,eF _ e8,eF _ e9,eF _ e10,eF _ e11,eF _ e12,eF _ e13,eF _ e14,eF _ e15,eF _ e16,eF _ e17,eF _ e18,eF _ e19,eT];try cbv))
 by_cases e21:s=⟨#[116,114,117,101]⟩
 ·rw[show lH.any (fun x=>decide (s=x))=true by rw[e21];decide +kernel]
  refine dE aN dO mixed (fun _=>0) Tryz.func118 rfl kR kR rfl fun P G E hc hE=>?_
  have eF:=sQ hE s;have eT:=show E.eq s _=true by rw[hE];exact aA e21
  clear hE hc;cbv
  repeat (first|(simp only[eF _ e0,eF _ e1,eF _ e2,eF _ e3,eF _ e4,eF _ e5,eF _ e6,eF _ e7,eF _ e8,eF _ e9,eF _ e10,eF _ e11,eF _ e12,eF _ e13,eF _ e14,eF _ e15,eF _ e16,eF _ e17,eF _ e18,eF _ e19,eF _ e20,eT];try cbv))
 by_cases e22:s=⟨#[116,114,121]⟩
 ·rw[show lH.any (fun x=>decide (s=x))=true by rw[e22];decide +kernel]
  refine dE aN dO mixed (fun _=>0) Tryz.func118 rfl kR kR rfl fun P G E hc hE=>?_
  have eF:=sQ hE s;have eT:=show E.eq s _=true by rw[hE];exact aA e22
  clear hE hc;cbv
  repeat (first|(simp only[eF _ e0,eF _ e1,eF _ e2,eF _ e3,eF _ e4,eF _ e5,eF _ e6,eF _ e7,eF _ e8,eF _ e9,eF _ e10,eF _ e11,eF _ e12,eF _ e13,eF _ e14,eF _ e15,eF _ e16,eF _ e17,eF _ e18,eF _ e19,eF _ e20,eF _ e21,eT];try cbv))
 by_cases e23:s=⟨#[99,97,116,99,104]⟩
 ·rw[show lH.any (fun x=>decide (s=x))=true by rw[e23];decide +kernel]
  refine dE aN dO mixed (fun _=>0) Tryz.func118 rfl kR kR rfl fun P G E hc hE=>?_
  have eF:=sQ hE s;have eT:=show E.eq s _=true by rw[hE];exact aA e23
  clear hE hc;cbv
  repeat (first|(simp only[eF _ e0,eF _ e1,eF _ e2,eF _ e3,eF _ e4,eF _ e5,eF _ e6,eF _ e7,eF _ e8,eF _ e9,eF _ e10,eF _ e11,eF _ e12,eF _ e13,eF _ e14,eF _ e15,eF _ e16,eF _ e17,eF _ e18,eF _ e19,eF _ e20,eF _ e21,eF _ e22,eT];try cbv))
 by_cases e24:s=⟨#[116,121,112,101,111,102]⟩
 ·rw[show lH.any (fun x=>decide (s=x))=true by rw[e24];decide +kernel]
  refine dE aN dO mixed (fun _=>0) Tryz.func118 rfl kR kR rfl fun P G E hc hE=>?_
  have eF:=sQ hE s;have eT:=show E.eq s _=true by rw[hE];exact aA e24
  clear hE hc;cbv
  repeat (first|(simp only[eF _ e0,eF _ e1,eF _ e2,eF _ e3,eF _ e4,eF _ e5,eF _ e6,eF _ e7,eF _ e8,eF _ e9,eF _ e10,eF _ e11,eF _ e12,eF _ e13,eF _ e14,eF _ e15,eF _ e16,eF _ e17,eF _ e18,eF _ e19,eF _ e20,eF _ e21,eF _ e22,eF _ e23,eT];try cbv))
 by_cases e25:s=⟨#[117,110,100,101,102,105,110,101,100]⟩
 ·rw[show lH.any (fun x=>decide (s=x))=true by rw[e25];decide +kernel]
  refine dE aN dO mixed (fun _=>0) Tryz.func118 rfl kR kR rfl fun P G E hc hE=>?_
  have eF:=sQ hE s;have eT:=show E.eq s _=true by rw[hE];exact aA e25
  clear hE hc;cbv
  repeat (first|(simp only[eF _ e0,eF _ e1,eF _ e2,eF _ e3,eF _ e4,eF _ e5,eF _ e6,eF _ e7,eF _ e8,eF _ e9,eF _ e10,eF _ e11,eF _ e12,eF _ e13,eF _ e14,eF _ e15,eF _ e16,eF _ e17,eF _ e18,eF _ e19,eF _ e20,eF _ e21,eF _ e22,eF _ e23,eF _ e24,eT];try cbv))
 by_cases e26:s=⟨#[119,104,105,108,101]⟩
 ·rw[show lH.any (fun x=>decide (s=x))=true by rw[e26];decide +kernel]
  refine dE aN dO mixed (fun _=>0) Tryz.func118 rfl kR kR rfl fun P G E hc hE=>?_
  have eF:=sQ hE s;have eT:=show E.eq s _=true by rw[hE];exact aA e26
  clear hE hc;cbv
  repeat (first|(simp only[eF _ e0,eF _ e1,eF _ e2,eF _ e3,eF _ e4,eF _ e5,eF _ e6,eF _ e7,eF _ e8,eF _ e9,eF _ e10,eF _ e11,eF _ e12,eF _ e13,eF _ e14,eF _ e15,eF _ e16,eF _ e17,eF _ e18,eF _ e19,eF _ e20,eF _ e21,eF _ e22,eF _ e23,eF _ e24,eF _ e25,eT];try cbv))
 by_cases e27:s=⟨#[121,105,101,108,100]⟩
 ·rw[show lH.any (fun x=>decide (s=x))=true by rw[e27];decide +kernel]
  refine dE aN dO mixed (fun _=>0) Tryz.func118 rfl kR kR rfl fun P G E hc hE=>?_
  have eF:=sQ hE s;have eT:=show E.eq s _=true by rw[hE];exact aA e27
  clear hE hc;cbv
  repeat (first|(simp only[eF _ e0,eF _ e1,eF _ e2,eF _ e3,eF _ e4,eF _ e5,eF _ e6,eF _ e7,eF _ e8,eF _ e9,eF _ e10,eF _ e11,eF _ e12,eF _ e13,eF _ e14,eF _ e15,eF _ e16,eF _ e17,eF _ e18,eF _ e19,eF _ e20,eF _ e21,eF _ e22,eF _ e23,eF _ e24,eF _ e25,eF _ e26,eT];try cbv))
 have hr:lH.any (fun x=>decide (s=x))=false:=by
  rw[jv];intro x hx h;have j8:=oT h;subst j8;unfold lH at hx;simp_all
 rw[hr];refine dE aN dO mixed (fun _=>0) Tryz.func118 rfl kR kR rfl fun P G E hc hE=>?_
 have eF:=sQ hE s;clear hE hc hr;cbv
 repeat (first|(simp only[eF _ e0,eF _ e1,eF _ e2,eF _ e3,eF _ e4,eF _ e5,eF _ e6,eF _ e7,eF _ e8,eF _ e9,eF _ e10,eF _ e11,eF _ e12,eF _ e13,eF _ e14,eF _ e15,eF _ e16,eF _ e17,eF _ e18,eF _ e19,eF _ e20,eF _ e21,eF _ e22,eF _ e23,eF _ e24,eF _ e25,eF _ e26,eF _ e27];try cbv))
def CZ(c:UInt8):Int:=match rU c with
 |some n=>(n:Nat)
 |none=>-1
def DP(z:Int):Int:=if 48<=z/\z<=57 then z-48 else if 97<=z/\z<=102 then z-97+10 else if 65<=z/\z<=70 then z-65+10 else -1
theorem xg6(c:UInt8):DP (c.toNat:Nat)=CZ c:=by
 have key:=aR.1 (show((List.range 256).all fun n=>decide (DP (n:Nat)=CZ (UInt8.ofNat n)))=true by decide +kernel) c.toNat (cC.2 c.toNat_lt)
 simp_all
theorem QH(c:UInt8):eH c=decide ((48:Int)<=(c.toNat:Nat)/\((c.toNat:Nat):Int)<=57):=by
 have key:=aR.1 (show((List.range 256).all fun n=>eH (UInt8.ofNat n)==decide ((48:Int)<=(n:Nat)/\((n:Nat):Int)<=57))=true by decide +kernel) c.toNat (cC.2 c.toNat_lt)
 simp_all
theorem Zo{a b:Int}(h0:0<=b)(h1:b<=a)(h2:a<=255):bK.wsub .u8 a b=a-b:=by
 have h:∃k:Nat,k<256/\a-b=(k:Nat):=⟨(a-b).toNat,by omega,by omega⟩
 obtain⟨k,hk,e⟩:=h;show IntKind.wrap .u8 (a-b)=a-b;rw[e];have key:=aR.1 (show((List.range 256).all fun n=>decide (IntKind.wrap .u8 ((n:Nat):Int)=(n:Nat)))=true by decide +kernel) k (cC.2 hk)
 grind
theorem Bj(c:UInt8):V0 136 [pU c] (pI (CZ c)):=by
 have hd:=D7 c;rw[QH]at hd;rw[<-xg6];have uS:(0:Int)<=(c.toNat:Nat):=Int.natCast_nonneg _;have uR:((c.toNat:Nat):Int)<=255:=by have:=c.toNat_lt;omega
 unfold pU at *;generalize ((c.toNat:Nat):Int)=z at *;unfold DP
 by_cases h1:48<=z/\z<=57
 ·rw[aF h1];rw[aA h1]at hd;obtain⟨v,hv⟩:∃v,z-48=v:=⟨_,rfl⟩
  rw[hv];refine dE aN dO mixed (fun _=>0) Tryz.func136 rfl kR kR rfl fun P G E hc hE=>?_
  replace hd:=hc _ _ _ hd;have w1:E.wsub .u8 z 48=v:=Gm
  have w2:E.wrap .i64 v=v:=ZL
  clear hE hc uS uR h1 hv;exact nI
 ·rw[aE h1];rw[dF h1]at hd
  by_cases h2:97<=z/\z<=102
  ·rw[aF h2];obtain⟨v,hv⟩:∃v,z-97=v:=⟨_,rfl⟩
   obtain⟨u,hu⟩:∃u,v+10=u:=⟨_,rfl⟩
   rw[hv,hu];refine dE aN dO mixed (fun _=>0) Tryz.func136 rfl kR kR rfl fun P G E hc hE=>?_
   replace hd:=hc _ _ _ hd;have k1:E.lei 97 z=decide (97<=z):=fS
   have k2:E.lei z 102=decide (z<=102):=fS
   have k3:E.lei 65 z=decide (65<=z):=fS
   have k4:E.lei z 70=decide (z<=70):=fS
   have w1:E.wsub .u8 z 97=v:=Gm
   have w2:E.wrap .i64 v=v:=ZL
   have w3:E.wadd .i64 v 10=u:=by rw[hE,<- hu];exact jX oM oM
   rw[aA h2.1]at k1;rw[aA h2.2]at k2;clear hE hc uS uR h1 h2 hv hu k3 k4;exact nI
  ·rw[aE h2];obtain⟨q1,py⟩:∃q,decide (97<=z)=q:=⟨_,rfl⟩
   obtain⟨q2,vD⟩:∃q,decide (z<=102)=q:=⟨_,rfl⟩
   by_cases h3:65<=z/\z<=70
   ·rw[aF h3];obtain⟨v,hv⟩:∃v,z-65=v:=⟨_,rfl⟩
    obtain⟨u,hu⟩:∃u,v+10=u:=⟨_,rfl⟩
    rw[hv,hu];have h5:decide (97<=z)=false:=dF oM
    refine dE aN dO mixed (fun _=>0) Tryz.func136 rfl kR kR rfl fun P G E hc hE=>?_
    replace hd:=hc _ _ _ hd;have k1:E.lei 97 z=decide (97<=z):=fS
    have k2:E.lei z 102=decide (z<=102):=fS
    have k3:E.lei 65 z=decide (65<=z):=fS
    have k4:E.lei z 70=decide (z<=70):=fS
    have w1:E.wsub .u8 z 65=v:=Gm
    have w2:E.wrap .i64 v=v:=ZL
    have w3:E.wadd .i64 v 10=u:=by rw[hE,<- hu];exact jX oM oM
    rw[h5]at k1;rw[aA h3.1]at k3;rw[aA h3.2]at k4;clear hE hc uS uR h1 h2 h3 hv hu h5 py vD k2;exact nI
   ·rw[aE h3];obtain⟨q3,V7⟩:∃q,decide (65<=z)=q:=⟨_,rfl⟩
    obtain⟨q4,V6⟩:∃q,decide (z<=70)=q:=⟨_,rfl⟩
    have h4:(q1&&q2)=false:=by
     grind
    have h5:(q3&&q4)=false:=by
     grind
    cases q1<;>cases q2<;>cases q3<;>cases q4<;>first|(cases h4;done)|(cases h5;done)|skip
    all_goals
     refine dE aN dO mixed (fun _=>0) Tryz.func136 rfl kR kR rfl fun P G E hc hE=>?_
     replace hd:=hc _ _ _ hd;have k1:E.lei 97 z=decide (97<=z):=fS
     have k2:E.lei z 102=decide (z<=102):=fS
     have k3:E.lei 65 z=decide (65<=z):=fS
     have k4:E.lei z 70=decide (z<=70):=fS
     rw[py]at k1;rw[vD]at k2;rw[V7]at k3;rw[V6]at k4;clear hE hc uS uR h1 h2 h3 h4 h5 py vD V7 V6;cbv
     repeat (first|(simp only[k1];cbv)|(simp only[k2];cbv)|(simp only[k3];cbv)|(simp only[k4];cbv)|(refine⟨_,hd,?_⟩;cbv))
def uB(n:Nat):Bs:=(Utf8.encode (n:Int)).data.toList
def bL(l:Bs):ByteArray:=⟨l.toArray⟩
theorem Ps(s:ByteArray):bL s.data.toList=s:=rfl
theorem Pt(n:Nat):bL (uB n)=Utf8.encode (n:Int):=Ps _
theorem HL(c:UInt8):(rU c).getD 0<=15:=by
 have key:=aR.1 (show((List.range 256).all fun n=>decide ((rU (UInt8.ofNat n)).getD 0<=15))=true by decide +kernel) c.toNat (cC.2 c.toNat_lt)
 simp_all
theorem WY(u:Bs)(x:UInt8):oZ (u++[x])=16*oZ u+(rU x).getD 0:=by
 unfold oZ
 grind
theorem Bi:∀(k:Nat)(u:Bs),u.length<=k->oZ u<16 ^ k:=by
 intro k
 induction k with
 |zero=>
  intro u h
  have:u=[]:=aQ oM
  subst this;decide
 |succ k ih=>
  intro u h
  rcases List.eq_nil_or_concat u with rfl|⟨v,x,rfl⟩
  ·grind
  ·have h2:v.length<=k:=by
    grind
   have h3:=ih v h2;have h4:=HL x;rw[List.concat_eq_append,WY,Nat.pow_succ];omega
theorem Cl{c:UInt8}(h:iN c=true):CZ c=((rU c).getD 0:Nat):=by
 unfold iN at h;unfold CZ
 grind
theorem Ck{c:UInt8}(h:iN c=false):CZ c=-1:=by
 unfold iN at h;unfold CZ
 grind
def mn(s:ByteArray)(a:Int):PV:=match wS uB (bD s (a+1))with
 |none=>.tup [pS ⟨#[]⟩,pI 0]
 |some p=>.tup [pS (bL p.1),pI ((s.size:Nat)-(p.2.length:Nat)-a)]
structure Hw(s:ByteArray)(n a:Int)(x:Int×Int):Prop where
 j0:a+2<=x.1
 j1:x.1<=n
 j2:x.1<=a+9
 u:∃u:Bs,bD s (a+2)=u++bD s x.1/\(∀c∈u,iN c=true)/\(u.length:Int)=x.1-a-2/\x.2=(oZ u:Nat)
def Qo(u:Bs):Bs->Option (Bs×Bs)
 |[]=>none
 |d::r'=>if d=125/\1<=u.length/\u.length<=6/\ni (oZ u)=true then some (uB (oZ u),r')else none
theorem OW{s:ByteArray}{a:Int}{r u:Bs}{c:UInt8}{l:Bs}(h:bD s (a+1)=123::r)(hr:r=u++l)(hu:∀c∈u,iN c=true)(hl:l=[]\/∃l',l=c::l'/\iN c=false):wS uB (bD s (a+1))=Qo u l:=by
 have h4:=kn (p:=iN) u l hu (fun x hx=>by
  grind)
 rw[h,wS,aF rfl,hr,h4.1,h4.2]
 cases l<;>rfl
theorem xbk{s:ByteArray}{a:Int}{r u l:Bs}{c:UInt8}(h:bD s (a+1)=123::r)(hr:r=u++c::l)(hu:∀c∈u,iN c=true)(hl:7<=u.length):wS uB (bD s (a+1))=none:=by
 have hlen:7<=(r.takeWhile iN).length:=by
  obtain⟨h1,h2,h3⟩:=mc (p:=iN) (c::l);have h4:=kn (p:=iN) (u++(c::l).takeWhile iN) ((c::l).dropWhile iN) (fun x hx=>by
   grind) h2
  grind
 rw[h,wS,aF rfl]
 grind
theorem Dd{n:Int}(h0:0<=n)(h1:n<2147483648):IntKind.i32.wrap n=n:=by
 simp[IntKind.wrap,IntKind.bits,IntKind.signed]
 split<;>omega
theorem z14(s:ByteArray)(a:Int)(h0:0<=a)(h1:a<(s.size:Nat))(hs:s.size<=100000000):V0 137 [pS s,pI a] (mn s a):=by
 obtain⟨n,hn⟩:∃n:Int,((s.size:Nat):Int)=n:=⟨_,rfl⟩
 rw[hn]at h1;have aU:∀i:Int,0<=i->i<n->∃c,s.data.toList[i.toNat]?=some c:=fun i iF iI=>⟨_,aB bw⟩
 obtain⟨a1,kS⟩:∃x:Int,a+1=x:=⟨_,rfl⟩
 rcases dP (n<=a1)with hA|hA
 ·have hr:mn s a=.tup [pS ⟨#[]⟩,pI 0]:=by
   unfold mn;rw[iu oM]
   rfl
  rw[hr];refine dE aN dO mixed (fun _=>0) Tryz.func137 rfl kR kR rfl fun P G E hc hE=>?_
  have z1:E.size s=n:=iS
  have elt:=xV hE;have ege:∀a b,E.lei a b=decide (a<=b):=fun a b=>by rw[hE];rfl
  have eple:=uA hE;have eget:∀(i:Int)(c:UInt8)(z:Int),s.data.toList[i.toNat]?=some c->((c.toNat:Nat):Int)=z->E.get s (E.nat i)=some z:=fun i c z h hz=>by
   exact A1
  have eadd:∀a b:Int,-1000000000<=a->a<=1000000000->-1000000<=b->b<=1000000->E.wadd .i64 a b=a+b:=fun a b h0 h1 h2 h3=>by rw[hE];exact jX oM oM
  have d1:E.lei n a1=true:=aZ
  have ei:=eadd a 1 oM oM oM oM
  rw[kS]at ei;clear hE hc elt ege eple eget eadd hn aU hA hr kS;exact nI
 ·obtain⟨c,eE⟩:=aU a1 oM oM
  obtain⟨z,hz⟩:∃z:Int,((c.toNat:Nat):Int)=z:=⟨_,rfl⟩
  have dR:=uP oM eE
  rcases dP (c=123)with hB|hB
  ·subst hB;have w1:decide (z=123)=true:=aA (by rw[<-hz];rfl)
   have gy:bD s (a+1)=123::bD s (a+2):=by
    grind
   obtain⟨a2,rG⟩:∃x:Int,a+2=x:=⟨_,rfl⟩
   obtain⟨a9,GB⟩:∃x:Int,a+9=x:=⟨_,rfl⟩
   have wU:Hw s n a (a2,0):=⟨by omega,by omega,by omega,[],by grind,fun c hc=>(by cases hc),by grind,rfl⟩
   obtain⟨μ,hμ⟩:∃μ:Int×Int->Nat,∀x,μ x=2000000000-x.1.toNat:=⟨_,fun _=>rfl⟩
   have zA:=fun c:UInt8=>Bj c
   obtain⟨RV,dY⟩:∃x,mn s a=x:=⟨_,rfl⟩
   rw[dY];have cY:wS uB (bD s (a+1))=none->RV=.tup [pS ⟨#[]⟩,pI 0]:=fun h=>by
    rw[<-dY];unfold mn;rw[h]
   have gA:∀t r',wS uB (bD s (a+1))=some (t,r')->RV=.tup [pS (bL t),pI (n-(r'.length:Nat)-a)]:=fun t r' h=>by
    rw[<-dY];unfold mn;rw[h,<- hn]
   refine dE aN dO mixed (fun _=>0) Tryz.func137 rfl kR kR rfl fun P G E hc hE=>?_
   replace zA:=fun c:UInt8=>hc _ _ _ (zA c)
   have z1:E.size s=n:=iS
   have elt:=xV hE;have ege:∀a b,E.lei a b=decide (a<=b):=fun a b=>by rw[hE];rfl
   have eple:=uA hE;have eget:∀(i:Int)(c:UInt8)(z:Int),s.data.toList[i.toNat]?=some c->((c.toNat:Nat):Int)=z->E.get s (E.nat i)=some z:=fun i c z h hz=>by
    exact A1
   have eadd:∀a b:Int,-1000000000<=a->a<=1000000000->-1000000<=b->b<=1000000->E.wadd .i64 a b=a+b:=fun a b h0 h1 h2 h3=>by rw[hE];exact jX oM oM
   have d1:E.lei n a1=false:=aZ
   have ei:=eadd a 1 oM oM oM oM
   rw[kS]at ei;have ei2:=eadd a 2 oM oM oM oM
   rw[rG]at ei2;have ei9:=eadd a 9 oM oM oM oM
   rw[GB]at ei9;have g1:=eget a1 123 z eE hz;have p1:=eple 0 a1 oM
   have emul:∀x:Int,0<=x->x<=1000000000->E.wmul .i64 x 16=x*16:=fun x h0 h1=>by rw[hE];exact jX oM oM
   have esub:∀x y:Int,-1000000000<=x->x<=1000000000->-1000000000<=y->y<=1000000000->E.wsub .i64 x y=x-y:=fun x y h0 h1 h2 h3=>by rw[hE];exact jX oM oM
   have ewrp:∀x:Int,0<=x->x<=1114111->E.wrap .i32 x=x:=fun x h0 h1=>by rw[hE];exact Dd oM oM
   have eenc0:∀x:Int,E.enc x=Utf8.encode x:=fun x=>by rw[hE];rfl
   have eenc:∀x:Nat,E.enc (x:Int)=bL (uB x):=fun x=>(eenc0 _).trans (Pt x).symm
   clear hE hc eE dR dY;cbv;refine bt ?_;refine gU 90 [0,1,6,7] 0 (fun x:Int×Int=>[.p (pS s),.p (pI a),.p (pI x.2),.p (pI x.1)]) (fun _=>[]) (Hw s n a) μ (a2,0) r5 wU ?_
   clear wU w1 g1 p1 d1 ei ei2
   rintro⟨j,acc⟩ hI
   obtain⟨j0,j1,j2,u,fZ,gG,lA,cd⟩:=hI;simp only at j0 j1 j2 fZ lA cd;replace hn:((s.size:Nat):Int)=n:=hn;have V2:n<=100000000:=dU
   have KD:((u.length:Nat):Int)=j-a-2:=lA;have EU:acc=((oZ u:Nat):Int):=cd;have uV:u.length<=7:=dU
   have oB:oZ u<268435456:=Bi 7 u uV;rw[kS]at gy;rw[<-kS]at gy;have es1:=esub j a oM oM oM oM
   obtain⟨c1,gw⟩:∃x:Int,j-a=x:=⟨_,rfl⟩
   rw[gw]at es1;have es2:=esub c1 2 oM oM oM oM
   obtain⟨c2,gv⟩:∃x:Int,c1-2=x:=⟨_,rfl⟩
   rw[gv]at es2
   rcases dP (j<n)with cJ|cJ
   ·have d1:E.lti j n=true:=aZ
    have d2:E.lei n j=false:=aZ
    obtain⟨x,hx⟩:=aU j oM cJ
    obtain⟨y,hy⟩:∃y:Int,((x.toNat:Nat):Int)=y:=⟨_,rfl⟩
    have g1:=eget j x y hx hy;have p1:=eple 0 j oM
    have yV:=uP oM hx
    have hh:=zA x
    cases th:iN x with
    |true=>
     rw[Cl th]at hh;have SL:=HL x;obtain⟨v,hv⟩:∃v:Int,(((rU x).getD 0:Nat):Int)=v:=⟨_,rfl⟩
     rw[hv]at hh;have e1:E.lei 0 v=true:=aZ
     replace hh:fX P G _ [.v (.int .u8 ((x.toNat:Nat):Int))] _:=hh;rw[hy]at hh
     rcases dP (j<a9)with h9|h9
     ·have d9:E.lti j a9=true:=aZ
      have em:=emul acc oM oM
      obtain⟨q,hq⟩:∃q:Int,acc*16=q:=⟨_,rfl⟩
      rw[hq]at em;have UR:oZ u<16777216:=Bi 6 u oM
      have ea:=eadd q v oM oM oM oM
      obtain⟨w,hw⟩:∃w:Int,q+v=w:=⟨_,rfl⟩
      rw[hw]at ea;have ej:=eadd j 1 oM oM oM oM
      have lU:Hw s n a (E.wadd .i64 j 1,w):=by
       rw[ej];refine⟨by omega,by omega,by omega,u++[x],?_,fun c hc=>?_,?_,?_⟩
       ·rw[fZ,yV];simp
       ·grind
       ·grind
       ·rw[WY];omega
      have hM:μ (E.wadd .i64 j 1,w)<μ (j,acc):=aZ
      clear cY gA aU zA elt ege eple eget eadd emul esub ewrp eenc eenc0 fZ gG lA cd KD EU oB UR uV hx hy yV hv SL hq hw ej hn th h9 gy kS rG GB es1 es2 gw gv;cbv;refine bt ?_;refine .mk (E.wadd .i64 j 1,w) r5 ?_ ?_
      ·exact lU
      ·exact hM
     ·have d9:E.lti j a9=false:=aZ
      have w5:decide (y=125)=false:=dF fun h=>by
       have h6:x=125:=cT.1 aZ
       rw[h6]at th
       revert th
       decide
      have dY:=cY (xbk gy (by rw[fZ,yV]) gG oM)
      subst dY;clear cY gA aU zA elt ege eple eget eadd emul esub ewrp eenc eenc0 fZ gG lA cd KD EU oB uV hx hy yV hv SL hn th h9 gy kS rG GB gw gv;exact nI
    |false=>
     rw[Ck th]at hh;replace hh:fX P G _ [.v (.int .u8 ((x.toNat:Nat):Int))] _:=hh;rw[hy]at hh;have e1:E.lei 0 (-1)=false:=by rw[ege];rfl
     have qR:=OW (c:=x) gy fZ gG (.inr ⟨_,yV,th⟩);rw[yV]at qR;rw[Qo]at qR
     rcases dP (x=125)with h5|h5
     ·have w5:decide (y=125)=true:=aA (by rw[<-hy,h5];rfl)
      rcases dP (c2<1)with q1|q1
      ·have f1:E.lti c2 1=true:=aZ
       rw[aE (fun h=>by omega)]at qR
       exact Hi
      ·have f1:E.lti c2 1=false:=aZ
       rcases dP (6<c2)with q2|q2
       ·have f2:E.lti 6 c2=true:=aZ
        rw[aE (fun h=>by omega)]at qR
        exact Hi
       ·have f2:E.lti 6 c2=false:=aZ
        rcases dP (1114111<acc)with q3|q3
        ·have f3:E.lti 1114111 acc=true:=aZ
         exact Ty
        ·have f3:E.lti 1114111 acc=false:=aZ
         rcases dP (55296<=acc)with q4|q4
         ·have f4:E.lei 55296 acc=true:=aZ
          rcases dP (acc<=57343)with q5|q5
          ·have f5:E.lei acc 57343=true:=aZ
           exact Ty
          ·have f5:E.lei acc 57343=false:=aZ
           exact Ue
         ·have f4:E.lei 55296 acc=false:=aZ
          exact Ue
     ·have w5:decide (y=125)=false:=dF fun h=>h5 (cT.1 aZ)
      rw[aE (fun h=>h5 h.1)]at qR
      exact Hi
   ·have d1:E.lti j n=false:=aZ
    have d2:E.lei n j=true:=aZ
    have mN:bD s j=[]:=iu oM
    have qR:=OW (c:=0) gy fZ gG (.inl mN);rw[mN]at qR;have dY:=cY qR;subst dY;clear cY gA aU zA elt ege eple eget eadd emul esub ewrp eenc eenc0 fZ gG lA cd KD EU oB uV hn gy kS rG GB gw gv qR mN;exact nI
  ·have hr:mn s a=.tup [pS ⟨#[]⟩,pI 0]:=by
    unfold mn;rw[kS,dR,wS,aE hB]
   rw[hr];refine dE aN dO mixed (fun _=>0) Tryz.func137 rfl kR kR rfl fun P G E hc hE=>?_
   have z1:E.size s=n:=iS
   have elt:=xV hE;have ege:∀a b,E.lei a b=decide (a<=b):=fun a b=>by rw[hE];rfl
   have eple:=uA hE;have eget:∀(i:Int)(c:UInt8)(z:Int),s.data.toList[i.toNat]?=some c->((c.toNat:Nat):Int)=z->E.get s (E.nat i)=some z:=fun i c z h hz=>by
    exact A1
   have eadd:∀a b:Int,-1000000000<=a->a<=1000000000->-1000000<=b->b<=1000000->E.wadd .i64 a b=a+b:=fun a b h0 h1 h2 h3=>by rw[hE];exact jX oM oM
   have d1:E.lei n a1=false:=aZ
   have ei:=eadd a 1 oM oM oM oM
   rw[kS]at ei;have g1:=eget a1 c z eE hz;have p1:=eple 0 a1 oM
   have w1:decide (z=123)=false:=dF fun h=>hB (cT.1 aZ)
   clear hE hc elt ege eple eget eadd hn aU hA hr kS eE hz dR hB;exact nI
def CX(s:ByteArray)(a:Int):PV:=match jR uB (bD s a)with
 |none=>.tup [pS ⟨#[]⟩,pI 0]
 |some p=>.tup [pS (bL p.1),pI ((s.size:Nat)-(p.2.length:Nat)-a)]
theorem CF{s:ByteArray}{a:Int}(h:jR uB (bD s a)=none):CX s a=.tup [pS ⟨#[]⟩,pI 0]:=by unfold CX;rw[h]
theorem o8{s:ByteArray}{a:Int}{t r:Bs}(h:jR uB (bD s a)=some (t,r)):CX s a=.tup [pS (bL t),pI ((s.size:Nat)-(r.length:Nat)-a)]:=by unfold CX;rw[h]
theorem gP{c:UInt8}{z:Int}(hz:((c.toNat:Nat):Int)=z)(k:UInt8)(h:c≠k):decide (z=((k.toNat:Nat):Int))=false:=dF fun e=>h (cT.1 oM)
theorem Wy(s:ByteArray)(a:Int)(h0:0<=a)(h1:a<=(s.size:Nat))(hs:s.size<=100000000):V0 124 [pS s,pI a] (CX s a):=by
 obtain⟨n,hn⟩:∃n:Int,((s.size:Nat):Int)=n:=⟨_,rfl⟩
 rw[hn]at h1;have aU:∀i:Int,0<=i->i<n->∃c,s.data.toList[i.toNat]?=some c:=fun i iF iI=>⟨_,aB bw⟩
 rcases dP (n<=a)with hA|hA
 ·rw[CF (by rw[iu oM];rfl)]
  refine dE aN dO mixed (fun n=>match n with|22=>11|_=>0) Tryz.func124 rfl kR kR rfl fun P G E hc hE=>?_
  have z1:E.size s=n:=iS
  have d1:E.lei n a=true:=by rw[hE];exact aA hA
  clear hE hc hn aU hA;exact nI
 obtain⟨c,eE⟩:=aU a h0 oM
 obtain⟨z,hz⟩:∃z:Int,((c.toNat:Nat):Int)=z:=⟨_,rfl⟩
 have dR:=uP h0 eE;have eS:=qZ s (a+1)
 by_cases e110:c=110
 ·have he:jR uB (bD s a)=some ([10],bD s (a+1)):=by rw[dR,e110];rfl
  rw[o8 he,hn,show n-((bD s (a+1)).length:Nat)-a=1 by omega]
  have f110:decide (z=110)=true:=aA (by rw[<-hz,e110];rfl)
  refine dE aN dO mixed (fun n=>match n with|22=>11|_=>0) Tryz.func124 rfl kR kR rfl fun P G E hc hE=>?_
  have z1:E.size s=n:=iS
  have d1:E.lei n a=false:=fl
  have p1:E.ple 0 a:=wT
  have g1:E.get s (E.nat a)=some z:=by
   exact fm
  clear hE hc hn aU hA eE hz dR eS he e110;exact nI
 by_cases e116:c=116
 ·have he:jR uB (bD s a)=some ([9],bD s (a+1)):=by rw[dR,e116];rfl
  rw[o8 he,hn,show n-((bD s (a+1)).length:Nat)-a=1 by omega]
  have f110:decide (z=110)=false:=gP hz 110 e110;have f116:decide (z=116)=true:=aA (by rw[<-hz,e116];rfl)
  refine dE aN dO mixed (fun n=>match n with|22=>11|_=>0) Tryz.func124 rfl kR kR rfl fun P G E hc hE=>?_
  have z1:E.size s=n:=iS
  have d1:E.lei n a=false:=fl
  have p1:E.ple 0 a:=wT
  have g1:E.get s (E.nat a)=some z:=by
   exact fm
  clear hE hc hn aU hA eE hz dR eS he e110 e116;exact nI
 by_cases e114:c=114
 ·have he:jR uB (bD s a)=some ([13],bD s (a+1)):=by rw[dR,e114];rfl
  rw[o8 he,hn,show n-((bD s (a+1)).length:Nat)-a=1 by omega]
  have f110:decide (z=110)=false:=gP hz 110 e110;have f116:decide (z=116)=false:=gP hz 116 e116;have f114:decide (z=114)=true:=aA (by rw[<-hz,e114];rfl)
  refine dE aN dO mixed (fun n=>match n with|22=>11|_=>0) Tryz.func124 rfl kR kR rfl fun P G E hc hE=>?_
  have z1:E.size s=n:=iS
  have d1:E.lei n a=false:=fl
  have p1:E.ple 0 a:=wT
  have g1:E.get s (E.nat a)=some z:=by
   exact fm
  clear hE hc hn aU hA eE hz dR eS he e110 e116 e114;exact nI
 by_cases e98:c=98
 ·have he:jR uB (bD s a)=some ([8],bD s (a+1)):=by rw[dR,e98];rfl
  rw[o8 he,hn,show n-((bD s (a+1)).length:Nat)-a=1 by omega]
  have f110:decide (z=110)=false:=gP hz 110 e110;have f116:decide (z=116)=false:=gP hz 116 e116;have f114:decide (z=114)=false:=gP hz 114 e114;have f98:decide (z=98)=true:=aA (by rw[<-hz,e98];rfl)
  refine dE aN dO mixed (fun n=>match n with|22=>11|_=>0) Tryz.func124 rfl kR kR rfl fun P G E hc hE=>?_
  have z1:E.size s=n:=iS
  have d1:E.lei n a=false:=fl
  have p1:E.ple 0 a:=wT
  have g1:E.get s (E.nat a)=some z:=by
   exact fm
  clear hE hc hn aU hA eE hz dR eS he e110 e116 e114 e98;exact nI
 by_cases e92:c=92
 ·have he:jR uB (bD s a)=some ([92],bD s (a+1)):=by rw[dR,e92];rfl
  rw[o8 he,hn,show n-((bD s (a+1)).length:Nat)-a=1 by omega]
  obtain⟨a1,kS⟩:∃x:Int,a+1=x:=⟨_,rfl⟩
  obtain⟨O,hO⟩:∃x,bL [92]=x:=⟨_,rfl⟩
  have hex_:s.extract a.toNat a1.toNat=O:=by
   rw[<-hO];refine yN ?_;have h6:s.data.toList.drop a.toNat=c::bD s (a+1):=dR;rw[m9,h6,e92,show a1.toNat-a.toNat=1 by omega]
   rfl
  rw[hO];have f110:decide (z=110)=false:=gP hz 110 e110;have f116:decide (z=116)=false:=gP hz 116 e116;have f114:decide (z=114)=false:=gP hz 114 e114;have f98:decide (z=98)=false:=gP hz 98 e98;have f92:decide (z=92)=true:=aA (by rw[<-hz,e92];rfl)
  refine dE aN dO mixed (fun n=>match n with|22=>11|_=>0) Tryz.func124 rfl kR kR rfl fun P G E hc hE=>?_
  have z1:E.size s=n:=iS
  have d1:E.lei n a=false:=fl
  have p1:E.ple 0 a:=wT
  have g1:E.get s (E.nat a)=some z:=by
   exact fm
  have w1:E.wadd .i64 a 1=a1:=wc
  have p2:E.ple a a1:=by rw[hE];show a<=a1;omega
  have p3:E.ple a1 n:=by rw[hE];show a1<=n;omega
  have w2:E.ext s (E.nat a) (E.nat a1)=O:=by rw[hE];exact hex_
  clear hE hc hn aU hA eE hz dR eS he kS hO hex_ e110 e116 e114 e98 e92;exact nI
 by_cases e34:c=34
 ·have he:jR uB (bD s a)=some ([34],bD s (a+1)):=by rw[dR,e34];rfl
  rw[o8 he,hn,show n-((bD s (a+1)).length:Nat)-a=1 by omega]
  obtain⟨a1,kS⟩:∃x:Int,a+1=x:=⟨_,rfl⟩
  obtain⟨O,hO⟩:∃x,bL [34]=x:=⟨_,rfl⟩
  have hex_:s.extract a.toNat a1.toNat=O:=by
   rw[<-hO];refine yN ?_;have h6:s.data.toList.drop a.toNat=c::bD s (a+1):=dR;rw[m9,h6,e34,show a1.toNat-a.toNat=1 by omega]
   rfl
  rw[hO];have f110:decide (z=110)=false:=gP hz 110 e110;have f116:decide (z=116)=false:=gP hz 116 e116;have f114:decide (z=114)=false:=gP hz 114 e114;have f98:decide (z=98)=false:=gP hz 98 e98;have f92:decide (z=92)=false:=gP hz 92 e92;have f34:decide (z=34)=true:=aA (by rw[<-hz,e34];rfl)
  refine dE aN dO mixed (fun n=>match n with|22=>11|_=>0) Tryz.func124 rfl kR kR rfl fun P G E hc hE=>?_
  have z1:E.size s=n:=iS
  have d1:E.lei n a=false:=fl
  have p1:E.ple 0 a:=wT
  have g1:E.get s (E.nat a)=some z:=by
   exact fm
  have w1:E.wadd .i64 a 1=a1:=wc
  have p2:E.ple a a1:=by rw[hE];show a<=a1;omega
  have p3:E.ple a1 n:=by rw[hE];show a1<=n;omega
  have w2:E.ext s (E.nat a) (E.nat a1)=O:=by rw[hE];exact hex_
  clear hE hc hn aU hA eE hz dR eS he kS hO hex_ e110 e116 e114 e98 e92 e34;exact nI
 by_cases e39:c=39
 ·have he:jR uB (bD s a)=some ([39],bD s (a+1)):=by rw[dR,e39];rfl
  rw[o8 he,hn,show n-((bD s (a+1)).length:Nat)-a=1 by omega]
  obtain⟨a1,kS⟩:∃x:Int,a+1=x:=⟨_,rfl⟩
  obtain⟨O,hO⟩:∃x,bL [39]=x:=⟨_,rfl⟩
  have hex_:s.extract a.toNat a1.toNat=O:=by
   rw[<-hO];refine yN ?_;have h6:s.data.toList.drop a.toNat=c::bD s (a+1):=dR;rw[m9,h6,e39,show a1.toNat-a.toNat=1 by omega]
   rfl
  rw[hO];have f110:decide (z=110)=false:=gP hz 110 e110;have f116:decide (z=116)=false:=gP hz 116 e116;have f114:decide (z=114)=false:=gP hz 114 e114;have f98:decide (z=98)=false:=gP hz 98 e98;have f92:decide (z=92)=false:=gP hz 92 e92;have f34:decide (z=34)=false:=gP hz 34 e34;have f39:decide (z=39)=true:=aA (by rw[<-hz,e39];rfl)
  refine dE aN dO mixed (fun n=>match n with|22=>11|_=>0) Tryz.func124 rfl kR kR rfl fun P G E hc hE=>?_
  have z1:E.size s=n:=iS
  have d1:E.lei n a=false:=fl
  have p1:E.ple 0 a:=wT
  have g1:E.get s (E.nat a)=some z:=by
   exact fm
  have w1:E.wadd .i64 a 1=a1:=wc
  have p2:E.ple a a1:=by rw[hE];show a<=a1;omega
  have p3:E.ple a1 n:=by rw[hE];show a1<=n;omega
  have w2:E.ext s (E.nat a) (E.nat a1)=O:=by rw[hE];exact hex_
  clear hE hc hn aU hA eE hz dR eS he kS hO hex_ e110 e116 e114 e98 e92 e34 e39;exact nI
 have ht:zj c=none:=by
  unfold zj
  grind
 obtain⟨a1,kS⟩:∃x:Int,a+1=x:=⟨_,rfl⟩
 obtain⟨a2,rG⟩:∃x:Int,a+2=x:=⟨_,rfl⟩
 by_cases e48:c=48
 ·have he:jR uB (bD s a)=if(bD s (a+1)).head?.any eH then none else some ([0],bD s (a+1)):=ZK
  have f110:decide (z=110)=false:=gP hz 110 e110;have f116:decide (z=116)=false:=gP hz 116 e116;have f114:decide (z=114)=false:=gP hz 114 e114;have f98:decide (z=98)=false:=gP hz 98 e98;have f92:decide (z=92)=false:=gP hz 92 e92;have f34:decide (z=34)=false:=gP hz 34 e34;have f39:decide (z=39)=false:=gP hz 39 e39;have f48:decide (z=48)=true:=aA (by rw[<-hz,e48];rfl)
  rcases dP (a1<n)with hB|hB
  ·obtain⟨d,wG⟩:=aU a1 oM hB
   obtain⟨y,hy⟩:∃y:Int,((d.toNat:Nat):Int)=y:=⟨_,rfl⟩
   have jm:=uP oM wG
   rw[<-kS]at jm;rw[jm]at he;have oI:=D7 d
   cases hq:eH d with
   |true=>
    rw[hq]at oI;have sY:jR uB (bD s a)=none:=aZ
    rw[CF sY];exact Uf
   |false=>
    rw[hq]at oI;have sY:jR uB (bD s a)=some ([0],bD s (a+1)):=aZ
    rw[o8 sY,hn,show n-((bD s (a+1)).length:Nat)-a=1 by omega]
    exact Uf
  ·have mN:bD s (a+1)=[]:=iu oM
   rw[mN]at he;have sY:jR uB (bD s a)=some ([0],[]):=he;rw[o8 sY,hn,show n-((([]:Bs).length:Nat):Int)-a=1 by grind]
   refine dE aN dO mixed (fun n=>match n with|22=>11|_=>0) Tryz.func124 rfl kR kR rfl fun P G E hc hE=>?_
   have z1:E.size s=n:=iS
   have d1:E.lei n a=false:=fl
   have p1:E.ple 0 a:=wT
   have g1:E.get s (E.nat a)=some z:=by
    exact fm
   have w1:E.wadd .i64 a 1=a1:=wc
   have d2:E.lti a1 n=false:=by rw[hE];exact dF hB
   clear hE hc hn aU hA eE hz dR eS he sY ht kS rG hB mN e110 e116 e114 e98 e92 e34 e39 e48;exact nI
 by_cases e120:c=120
 ·have he:jR uB (bD s a)=l8 uB (bD s (a+1)):=ZK
  have f110:decide (z=110)=false:=gP hz 110 e110;have f116:decide (z=116)=false:=gP hz 116 e116;have f114:decide (z=114)=false:=gP hz 114 e114;have f98:decide (z=98)=false:=gP hz 98 e98;have f92:decide (z=92)=false:=gP hz 92 e92;have f34:decide (z=34)=false:=gP hz 34 e34;have f39:decide (z=39)=false:=gP hz 39 e39;have f48:decide (z=48)=false:=gP hz 48 e48;have f120:decide (z=120)=true:=aA (by rw[<-hz,e120];rfl)
  rcases dP (a2<n)with hB|hB
  ·obtain⟨x1,ld⟩:=aU a1 oM oM
   obtain⟨x2,ag⟩:=aU a2 oM hB
   obtain⟨y1,vC⟩:∃y:Int,((x1.toNat:Nat):Int)=y:=⟨_,rfl⟩
   obtain⟨y2,uH⟩:∃y:Int,((x2.toNat:Nat):Int)=y:=⟨_,rfl⟩
   have FB:=uP oM ld
   have mV:=uP oM ag
   rw[show a1+1=a2 by omega,mV,<- kS]at FB
   rw[FB]at he;have n6:=Bj x1;have lr:=Bj x2;change V0 _ [.v (.int .u8 ((x1.toNat:Nat):Int))] _ at n6;change V0 _ [.v (.int .u8 ((x2.toNat:Nat):Int))] _ at lr;rw[vC]at n6;rw[uH]at lr
   cases py:iN x1 with
   |false=>
    rw[Ck py]at n6;have sY:jR uB (bD s a)=none:=by
     rw[he,l8]
     have:rU x1=none:=by unfold iN at py;simp_all
     rw[this]
    rw[CF sY];refine dE aN dO mixed (fun n=>match n with|22=>11|_=>0) Tryz.func124 rfl kR kR rfl fun P G E hc hE=>?_
    have z1:E.size s=n:=iS
    have d1:E.lei n a=false:=fl
    have p1:E.ple 0 a:=wT
    have g1:E.get s (E.nat a)=some z:=by
     exact fm
    replace n6:=hc _ _ _ n6;replace lr:=hc _ _ _ lr;have w1:E.wadd .i64 a 1=a1:=wc
    have w2:E.wadd .i64 a 2=a2:=ZN
    have d2:E.lti a2 n=true:=ZO
    have p2:E.ple 0 a1:=ZM
    have p3:E.ple 0 a2:=by rw[hE];show 0<=a2;omega
    have g2:E.get s (E.nat a1)=some y1:=by
     exact Gz
    have g3:E.get s (E.nat a2)=some y2:=by
     exact Gy
    have k1:E.lei 0 (-1)=false:=fS
    clear py sY lr hE hc hn aU hA eE hz dR eS he ht kS rG hB ld ag vC uH FB mV e110 e116 e114 e98 e92 e34 e39 e48 e120;exact nI
   |true=>
    rw[Cl py]at n6;have vW:=HL x1;obtain⟨v1,po⟩:∃v,(rU x1).getD 0=v:=⟨_,rfl⟩
    obtain⟨u1,fZ⟩:∃u:Int,((v1:Nat):Int)=u:=⟨_,rfl⟩
    rw[po]at vW;rw[po,fZ]at n6;have wV:rU x1=some v1:=by unfold iN at py;rw[<-po];cases h:rU x1 with|none=>grind|some v=>rfl
    cases vD:iN x2 with
    |false=>
     rw[Ck vD]at lr;have sY:jR uB (bD s a)=none:=by
      rw[he,l8]
      have:rU x2=none:=by unfold iN at vD;simp_all
      rw[this,wV]
     rw[CF sY];refine dE aN dO mixed (fun n=>match n with|22=>11|_=>0) Tryz.func124 rfl kR kR rfl fun P G E hc hE=>?_
     have z1:E.size s=n:=iS
     have d1:E.lei n a=false:=fl
     have p1:E.ple 0 a:=wT
     have g1:E.get s (E.nat a)=some z:=by
      exact fm
     replace n6:=hc _ _ _ n6;replace lr:=hc _ _ _ lr;have w1:E.wadd .i64 a 1=a1:=wc
     have w2:E.wadd .i64 a 2=a2:=ZN
     have d2:E.lti a2 n=true:=ZO
     have p2:E.ple 0 a1:=ZM
     have p3:E.ple 0 a2:=by rw[hE];show 0<=a2;omega
     have g2:E.get s (E.nat a1)=some y1:=by
      exact Gz
     have g3:E.get s (E.nat a2)=some y2:=by
      exact Gy
     have k1:E.lei 0 u1=true:=sF
     have k2:E.lei 0 (-1)=false:=fS
     clear py vD sY vW po fZ wV hE hc hn aU hA eE hz dR eS he ht kS rG hB ld ag vC uH FB mV e110 e116 e114 e98 e92 e34 e39 e48 e120;exact nI
    |true=>
     rw[Cl vD]at lr;have nK:=HL x2;obtain⟨v2,wv⟩:∃v,(rU x2).getD 0=v:=⟨_,rfl⟩
     obtain⟨u2,gG⟩:∃u:Int,((v2:Nat):Int)=u:=⟨_,rfl⟩
     rw[wv]at nK;rw[wv,gG]at lr;have An:rU x2=some v2:=by unfold iN at vD;rw[<-wv];cases h:rU x2 with|none=>grind|some v=>rfl
     have sY:jR uB (bD s a)=some (uB (16*v1+v2),bD s (a2+1)):=by rw[he,l8,wV,An]
     have J1:=qZ s (a2+1);obtain⟨O,hO⟩:∃x,bL (uB (16*v1+v2))=x:=⟨_,rfl⟩
     rw[o8 sY,hn,hO,show n-((bD s (a2+1)).length:Nat)-a=3 by omega]
     refine dE aN dO mixed (fun n=>match n with|22=>11|_=>0) Tryz.func124 rfl kR kR rfl fun P G E hc hE=>?_
     have z1:E.size s=n:=iS
     have d1:E.lei n a=false:=fl
     have p1:E.ple 0 a:=wT
     have g1:E.get s (E.nat a)=some z:=by
      exact fm
     replace n6:=hc _ _ _ n6;replace lr:=hc _ _ _ lr;have w1:E.wadd .i64 a 1=a1:=wc
     have w2:E.wadd .i64 a 2=a2:=ZN
     have d2:E.lti a2 n=true:=ZO
     have p2:E.ple 0 a1:=ZM
     have p3:E.ple 0 a2:=by rw[hE];show 0<=a2;omega
     have g2:E.get s (E.nat a1)=some y1:=by
      exact Gz
     have g3:E.get s (E.nat a2)=some y2:=by
      exact Gy
     have k1:E.lei 0 u1=true:=sF
     have k2:E.lei 0 u2=true:=sF
     obtain⟨m,hm⟩:∃m:Int,16*u1=m:=⟨_,rfl⟩
     obtain⟨t,Am⟩:∃t:Int,m+u2=t:=⟨_,rfl⟩
     have w3:E.wmul .i64 16 u1=m:=by rw[hE,<- hm];exact jX oM oM
     have w4:E.wadd .i64 m u2=t:=by rw[hE,<- Am];exact jX oM oM
     have w5:E.wrap .i32 t=t:=by rw[hE];exact Dd oM oM
     have eenc0:∀x:Int,E.enc x=Utf8.encode x:=fun x=>by rw[hE];rfl
     have w6:E.enc t=O:=by rw[<-hO,Pt,eenc0,show((16*v1+v2:Nat):Int)=t by omega]
     clear py vD sY vW po fZ wV nK wv gG An J1 hO hm Am eenc0 hE hc hn aU hA eE hz dR eS he ht kS rG hB ld ag vC uH FB mV e110 e116 e114 e98 e92 e34 e39 e48 e120;exact nI
  ·have hle:=qZ s (a+1);have sY:jR uB (bD s a)=none:=by
    rw[he]
    match hr:bD s (a+1),(show(bD s (a+1)).length<=1 by omega)with
    |[],_=>rfl
    |[_],_=>rfl
    |_::_::_,h=>grind
   rw[CF sY];refine dE aN dO mixed (fun n=>match n with|22=>11|_=>0) Tryz.func124 rfl kR kR rfl fun P G E hc hE=>?_
   have z1:E.size s=n:=iS
   have d1:E.lei n a=false:=fl
   have p1:E.ple 0 a:=wT
   have g1:E.get s (E.nat a)=some z:=by
    exact fm
   have w1:E.wadd .i64 a 1=a1:=wc
   have w2:E.wadd .i64 a 2=a2:=ZN
   have d2:E.lti a2 n=false:=by rw[hE];exact dF hB
   clear hE hc hn aU hA eE hz dR eS he sY ht kS rG hB hle e110 e116 e114 e98 e92 e34 e39 e48 e120;exact nI
 by_cases e117:c=117
 ·have he:jR uB (bD s a)=wS uB (bD s (a+1)):=ZK
  have hr:CX s a=mn s a:=by
   unfold CX mn
   grind
  have qR:=z14 s a h0 oM hs
  rw[hr];have UE:∃x y,mn s a=.tup [x,y]:=by
   unfold mn
   grind
  obtain⟨RX,RY,hR⟩:=UE;rw[hR]at qR ⊢;have f110:decide (z=110)=false:=gP hz 110 e110;have f116:decide (z=116)=false:=gP hz 116 e116;have f114:decide (z=114)=false:=gP hz 114 e114;have f98:decide (z=98)=false:=gP hz 98 e98;have f92:decide (z=92)=false:=gP hz 92 e92;have f34:decide (z=34)=false:=gP hz 34 e34;have f39:decide (z=39)=false:=gP hz 39 e39;have f48:decide (z=48)=false:=gP hz 48 e48;have f120:decide (z=120)=false:=gP hz 120 e120;have f117:decide (z=117)=true:=aA (by rw[<-hz,e117];rfl)
  refine dE aN dO mixed (fun n=>match n with|22=>11|_=>0) Tryz.func124 rfl kR kR rfl fun P G E hc hE=>?_
  have z1:E.size s=n:=iS
  have d1:E.lei n a=false:=fl
  have p1:E.ple 0 a:=wT
  have g1:E.get s (E.nat a)=some z:=by
   exact fm
  replace qR:=hc _ _ _ qR;clear hE hc hn aU hA eE hz dR eS he ht hr hR e110 e116 e114 e98 e92 e34 e39 e48 e120 e117;exact nI
 have he:jR uB (bD s a)=none:=ZK
 rw[CF he];have f110:decide (z=110)=false:=gP hz 110 e110;have f116:decide (z=116)=false:=gP hz 116 e116;have f114:decide (z=114)=false:=gP hz 114 e114;have f98:decide (z=98)=false:=gP hz 98 e98;have f92:decide (z=92)=false:=gP hz 92 e92;have f34:decide (z=34)=false:=gP hz 34 e34;have f39:decide (z=39)=false:=gP hz 39 e39;have f48:decide (z=48)=false:=gP hz 48 e48;have f120:decide (z=120)=false:=gP hz 120 e120;have f117:decide (z=117)=false:=gP hz 117 e117;refine dE aN dO mixed (fun n=>match n with|22=>11|_=>0) Tryz.func124 rfl kR kR rfl fun P G E hc hE=>?_
 have z1:E.size s=n:=iS
 have d1:E.lei n a=false:=fl
 have p1:E.ple 0 a:=wT
 have g1:E.get s (E.nat a)=some z:=by
  exact fm
 clear hE hc hn aU hA eE hz dR eS he ht e110 e116 e114 e98 e92 e34 e39 e48 e120 e117;cbv;exact bt trivial
def zV:ByteArray:=⟨#[57,50,50,51,51,55,50,48,51,54,56,53,52,55,55,53,56,48,55]⟩
def NR(s:ByteArray):Bool:=decide (19<s.size)||(decide (s.size=19)&&!(Op.bytesLess s.toList zV.toList||decide (s=zV)))
theorem z3v(s:ByteArray):V0 100 [pS s] (pB (NR s)):=by
 obtain⟨n,hn⟩:∃n:Int,((s.size:Nat):Int)=n:=⟨_,rfl⟩
 have h1:decide (19<s.size)=decide (19<n):=fM.2 oM
 have h2:decide (s.size=19)=decide (n=19):=fM.2 oM
 unfold NR;rw[h1,h2];obtain⟨b1,e1⟩:∃b,decide (19<n)=b:=⟨_,rfl⟩
 obtain⟨b2,e2⟩:∃b,decide (n=19)=b:=⟨_,rfl⟩
 obtain⟨b3,e3⟩:∃b,Op.bytesLess s.toList zV.toList=b:=⟨_,rfl⟩
 obtain⟨b4,e4⟩:∃b,decide (s=zV)=b:=⟨_,rfl⟩
 rw[e1,e2,e3,e4]
 cases b1<;>cases b2<;>cases b3<;>cases b4
 all_goals
  refine dE aN dO mixed (fun _=>0) Tryz.func100 rfl kR kR rfl fun P G E hc hE=>?_
  have z1:E.size s=n:=iS
  have z2:E.size zV=19:=fS
  have k1:E.lti 19 n=decide (19<n):=fS
  rw[e1]at k1;have k3:E.lt s zV=Op.bytesLess s.toList zV.toList:=fS
  rw[e3]at k3;have k4:E.eq s zV=decide (s=zV):=fS
  rw[e4]at k4;clear hE hc hn h1 h2 e1 e3 e4;unfold zV at z2 k3 k4;cbv at z2 k3 k4;exact nI
theorem Eb{l t r:Bs}(h:jR uB l=some (t,r)):t.length<=4:=by
 have hu:∀n:Nat,(uB n).length<=4:=fun n=>MI (n:Int)
 cases l with
 |nil=>cases h
 |cons c l=>
  rw[jR]at h
  cases ht:zj c with
  |some d=>
   grind
  |none=>
   rw[ht]at h;simp only at h
   split at h
   ·grind
   ·split at h
    ·match l,h with
     |x::y::l,h=>
      rw[l8]at h
      grind
    ·split at h
     ·match l,h with
      |x::l,h=>
       rw[wS]at h
       grind
     ·cases h
structure Hu(s:ByteArray)(x:ByteArray×Nat):Prop where
 acc:x.1.data.toList++gD (s.data.toList.drop x.2)=gD s.data.toList
 sz:x.1.size<=4*x.2
theorem QF(r:Int):(Utf8.encode r).size<=4:=by
 have h:=MI r;have e:(encL r).length=(Utf8.encode r).size:=rfl;omega
theorem N8(s acc:ByteArray)(pos:Nat)(hp:¬pos<s.size)(h:acc.data.toList++gD (s.data.toList.drop pos)=gD s.data.toList):acc=bq s:=by
 have hd:s.data.toList.drop pos=[]:=vM bw
 rw[hd,show gD []=[]from rfl,cA]at h;refine yN ?_;rw[h];rfl
theorem Z2(s:ByteArray)(hs:s.size<=8000000):V0 123 [pS s] (pS (bq s)):=by
 obtain⟨R,hR⟩:∃x,bq s=x:=⟨_,rfl⟩
 rw[hR];obtain⟨n,hn⟩:∃n:Int,((s.size:Nat):Int)=n:=⟨_,rfl⟩
 obtain⟨μ,hμ⟩:∃μ:ByteArray×Nat->Nat,∀x,μ x=s.size-x.2:=⟨_,fun _=>rfl⟩
 have jK:Hu s (⟨#[]⟩,0):=⟨rfl,nR _⟩;refine dE aN dO mixed (fun _=>0) Tryz.func123 rfl kR kR rfl fun P G E hc hE=>?_
 have z1:E.size s=n:=iS
 have elt:∀p:Nat,E.lti (E.ofN p) n=decide (p<s.size):=fun p=>by
  rw[hE,<- hn];show decide (((p:Nat):Int)<((s.size:Nat):Int))=_
  grind
 have eadd:∀p,E.addN p (E.decW s p)=p+(Utf8.decode s p).2:=fun p=>by rw[hE];rfl
 have ecat:∀a b:ByteArray,a.size<=100000000->b.size<=100000000->E.cat a b:=fun a b h1 h2=>by rw[hE];show((a.size:Nat):Int)+((b.size:Nat):Int)<=_;omega
 have eenc0:∀x:Int,E.enc x=Utf8.encode x:=fun x=>by rw[hE];rfl
 have edec:∀p:Nat,E.decR s p=(((Utf8.decode s p).1:Nat):Int):=fun p=>by rw[hE];rfl
 have eenc:∀p,E.enc (E.decR s p)=Utf8.encode ((Utf8.decode s p).1:Int):=fun p=>by rw[eenc0,edec]
 have eadd0:∀a b,E.add a b=a++b:=fun a b=>by rw[hE];rfl
 have eapp:∀a p,E.add a (E.enc (E.decR s p))=a++Utf8.encode ((Utf8.decode s p).1:Int):=fun a p=>by rw[eenc,eadd0]
 clear hE hc;cbv;refine gU 16 [0,3,7] 1 (fun x:ByteArray×Nat=>[.p (pS s),.p (pS x.1),.own 0 0]) (fun x=>[some (.iter s x.2)]) (Hu s) μ (⟨#[]⟩,0) r5 jK ?_
 clear jK
 rintro⟨acc,pos⟩ ⟨h1,h2⟩
 simp only at h1 h2;have d1:=elt pos
 rcases dP (pos<s.size)with hp|hp
 ·rw[aA hp]at d1;obtain⟨r,wd,hd⟩:∃r wd,Utf8.decode s pos=(r,wd):=⟨_,_,rfl⟩
  have hw:1<=wd:=by
   exact Td
  have mK:=z6c s pos r wd acc (gD s.data.toList) hp hd h1;have B1:=QF (r:Int);have hx:E.addN pos (E.decW s pos)=pos+wd:=by rw[eadd,hd]
  have hy:E.add acc (E.enc (E.decR s pos))=acc++Utf8.encode (r:Int):=by rw[eapp,hd]
  have hz:E.enc (E.decR s pos)=Utf8.encode (r:Int):=by rw[eenc,hd]
  have gy:E.cat acc (E.enc (E.decR s pos)):=ecat _ _ oM (by rw[hz];omega)
  have lU:Hu s (E.add acc (E.enc (E.decR s pos)),E.addN pos (E.decW s pos)):=by
   rw[hx,hy];refine⟨mK,?_⟩
   grind
  have hM:μ (E.add acc (E.enc (E.decR s pos)),E.addN pos (E.decW s pos))<μ (acc,pos):=by
   grind
  clear mK B1 hx hy hz elt eadd ecat eenc eapp eenc0 edec eadd0;cbv;refine bt ?_;refine .mk (E.add acc (E.enc (E.decR s pos)),E.addN pos (E.decW s pos)) r5 ?_ ?_
  ·exact lU
  ·exact hM
 ·rw[dF hp]at d1
  have:=N8 s acc pos hp h1
  rw[hR]at this;subst this;clear elt eadd ecat eenc eapp hR eenc0 edec eadd0;exact nI
def NQ(s:ByteArray)(a:Int)(q:UInt8):PV:=match lit uB q (bD s (a+1))with
 |none=>.tup [pS ⟨#[]⟩,pI 0]
 |some p=>.tup [pS (bq (bL p.1)),pI ((s.size:Nat)-(p.2.length:Nat)-a)]
structure wj(s:ByteArray)(n a:Int)(q:UInt8)(R:Option (Bs×Bs))(x:Int×ByteArray):Prop where
 j0:a+1<=x.1
 j1:x.1<=n
 sz:((x.2.size:Nat):Int)<=4*(x.1-a)
 eq:R=(lit uB q (bD s x.1)).map fun z=>(x.2.data.toList++z.1,z.2)
theorem Zx(s:ByteArray)(a:Int)(q:UInt8)(h0:0<=a)(hq:s.data.toList[a.toNat]?=some q)(hs:s.size<=1500000):V0 101 [pS s,pI a] (NQ s a q):=by
 obtain⟨n,hn⟩:∃n:Int,((s.size:Nat):Int)=n:=⟨_,rfl⟩
 have h1:a<n:=by
  exact JU
 have aU:∀i:Int,0<=i->i<n->∃c,s.data.toList[i.toNat]?=some c:=fun i iF iI=>⟨_,aB bw⟩
 obtain⟨a1,kS⟩:∃x:Int,a+1=x:=⟨_,rfl⟩
 obtain⟨RV,dY⟩:∃x,NQ s a q=x:=⟨_,rfl⟩
 rw[dY];obtain⟨RL,zL⟩:∃x,lit uB q (bD s (a+1))=x:=⟨_,rfl⟩
 have cY:RL=none->RV=.tup [pS ⟨#[]⟩,pI 0]:=fun h=>by
  rw[<-dY];unfold NQ;rw[zL,h]
 have gA:∀t r',RL=some (t,r')->RV=.tup [pS (bq (bL t)),pI (n-(r'.length:Nat)-a)]:=fun t r' h=>by
  rw[<-dY];unfold NQ;rw[zL,h,<- hn]
 obtain⟨μ,hμ⟩:∃μ:Int×ByteArray->Nat,∀x,μ x=2000000000-x.1.toNat:=⟨_,fun _=>rfl⟩
 have jK:wj s n a q RL (a1,⟨#[]⟩):=⟨by omega,by omega,by show(0:Int)<=4*(a1-a);omega,by
  simp_all⟩
 obtain⟨zq,eC⟩:∃z:Int,((q.toNat:Nat):Int)=z:=⟨_,rfl⟩
 have xN:=fun(i:Int)(h0:0<=i)(h1:i<=n)=>Wy s i h0 oM oM
 have gI:=fun(t:ByteArray)(h:t.size<=8000000)=>Z2 t h
 refine dE aN dO mixed (fun _=>0) Tryz.func101 rfl kR kR rfl fun P G E hc hE=>?_
 replace xN:=fun(i:Int)(h0:0<=i)(h1:i<=n)=>hc _ _ _ (xN i h0 h1)
 replace gI:=fun(t:ByteArray)(h:t.size<=8000000)=>hc _ _ _ (gI t h)
 have z1:E.size s=n:=iS
 have elt:=xV hE;have eple:=uA hE;have eget:∀(i:Int)(c:UInt8)(z:Int),s.data.toList[i.toNat]?=some c->((c.toNat:Nat):Int)=z->E.get s (E.nat i)=some z:=fun i c z h hz=>by
  exact JV
 have eadd:=su hE;have esub:∀a b:Int,-1000000000<=a->a<=1000000000->-1000000000<=b->b<=1000000000->E.wsub .i64 a b=a-b:=fun a b h0 h1 h2 h3=>by rw[hE];exact jX oM oM
 have ecat:∀a b:ByteArray,a.size<=100000000->b.size<=100000000->E.cat a b:=fun a b h1 h2=>by rw[hE];show((a.size:Nat):Int)+((b.size:Nat):Int)<=_;omega
 have ejoin:∀a b,E.add a b=a++b:=fun a b=>by rw[hE];rfl
 have eext:∀i j:Int,E.ext s (E.nat i) (E.nat j)=s.extract i.toNat j.toNat:=fun i j=>by rw[hE];rfl
 have ei:=eadd a 1 oM oM oM oM
 rw[kS]at ei;have g0:=eget a q zq hq eC;have p0:=eple 0 a h0;clear hE hc;cbv;refine bt ?_;refine gU 66 [0,1,6,7,8] 0 (fun x:Int×ByteArray=>[.p (pS s),.p (pI a),.p (.v (.int .u8 zq)),.p (pS x.2),.p (pI x.1)]) (fun _=>[]) (wj s n a q RL) μ (a1,⟨#[]⟩) r5 jK ?_
 clear jK
 rintro⟨j,out⟩ ⟨j0,j1,dM,iT⟩
 simp only at j0 j1 dM iT;replace hn:((s.size:Nat):Int)=n:=hn;replace dM:((out.size:Nat):Int)<=4*(j-a):=dM;replace eC:((q.toNat:Nat):Int)=zq:=eC;have V2:n<=1500000:=dU
 rcases dP (j<n)with cJ|cJ
 ·have d1:E.lti j n=true:=aZ
  obtain⟨c,eE⟩:=aU j oM cJ
  obtain⟨z,hz⟩:∃z:Int,((c.toNat:Nat):Int)=z:=⟨_,rfl⟩
  have g1:=eget j c z eE hz;have p1:=eple 0 j oM
  have dR:=uP oM eE
  obtain⟨j2,oA⟩:∃x:Int,j+1=x:=⟨_,rfl⟩
  have ej:=eadd j 1 oM oM oM oM
  rw[oA]at ej;rw[dR,oA]at iT;have eS:=qZ s j2
  rcases dP (c=q)with oW|oW
  ·
   rw[oW,XH]at iT;have hv:=gA _ _ iT;rw[cA,Ps]at hv;have es:=esub j2 a oM oM oM oM
   obtain⟨g,hg⟩:∃x:Int,j2-a=x:=⟨_,rfl⟩
   rw[hg]at es;have oV:n-((bD s j2).length:Nat)-a=g:=dU
   rw[oV]at hv;have hr:=gI out oM
   obtain⟨O,hO⟩:∃x,bq out=x:=⟨_,rfl⟩
   rw[hO]at hr hv;have w1:decide (z=zq)=true:=aA aZ
   subst hv;clear cY gA aU xN gI elt eple eget eadd esub ecat ejoin eext iT eS dR eE hz oW hO hg oV dY zL g0 eC hq hn dM;cbv;exact bt trivial
  ·have w1:decide (z=zq)=false:=dF (by
    intro h;exact oW (cT.1 oM))
   have rR:∀k:UInt8,c≠k->decide (z=((k.toNat:Nat):Int))=false:=fun k h=>gP hz k h
   rcases dP (c=10\/c=13)with hb|hb
   ·rw[D1 _ _ oW hb]at iT;have hv:=cY iT;subst hv
    rcases dP (c=10)with f7|f7
    ·have w2:decide (z=10)=true:=aA (by rw[<-hz,f7];rfl)
     clear cY gA aU xN gI elt eple eget eadd esub ecat ejoin eext iT eS dR eE hz oW dY zL g0 eC hq hn dM rR hb f7;exact nI
    ·have VD:c=13:=hb.resolve_left f7;have w2:decide (z=10)=false:=rR 10 f7;have w3:decide (z=13)=true:=aA (by rw[<-hz,VD];rfl)
     clear cY gA aU xN gI elt eple eget eadd esub ecat ejoin eext iT eS dR eE hz oW dY zL g0 eC hq hn dM rR hb f7 VD;exact nI
   ·have w2:decide (z=10)=false:=rR 10 (fun e=>hb (.inl e))
    have w3:decide (z=13)=false:=rR 13 (fun e=>hb (.inr e))
    rcases dP (c=92)with zM|zM
    ·have w4:decide (z=92)=true:=aA (by rw[<-hz,zM];rfl)
     have he:=xN j2 oM oM
     cases zC:jR uB (bD s j2)with
     |none=>
      rw[D4 _ oW hb zM zC]at iT;have hv:=cY iT;subst hv;rw[CF zC]at he;clear cY gA aU xN gI elt eple eget eadd esub ecat ejoin eext iT eS dR eE hz oW dY zL g0 eC hq hn dM rR hb zM zC;exact nI
     |some p=>
      obtain⟨t,r⟩:=p;rw[o8 zC,hn]at he;have gm:=HK uB zC;simp only at gm;obtain⟨u,fZ,gG,lA⟩:=WL uB zC;have h4:=Eb zC;rw[XQ _ oW hb zM zC]at iT;simp only at iT;obtain⟨m,hm⟩:∃x:Int,n-(r.length:Nat)-j2=x:=⟨_,rfl⟩
      rw[hm]at he;have xh:0<m:=dU
      have w5:decide (m=0)=false:=dF oM
      have dZ:r=bD s (j+(m+1)):=by
       have e1:bD s j2=s.data.toList.drop j2.toNat:=rfl;have e2:s.data.toList.drop (j+(m+1)).toNat=(s.data.toList.drop j2.toNat).drop m.toNat:=by
        rw[yS]
        grind
       show r=s.data.toList.drop (j+(m+1)).toNat;rw[e2,<- e1,gG];have e3:u.length=m.toNat:=by
        grind
       grind
      rw[dZ]at iT;have em:=eadd m 1 oM oM oM oM
      obtain⟨m2,kM⟩:∃x:Int,m+1=x:=⟨_,rfl⟩
      rw[kM]at em iT dZ;have ejm:=eadd j m2 oM oM oM oM
      obtain⟨j3,TY⟩:∃x:Int,j+m2=x:=⟨_,rfl⟩
      rw[TY]at ejm iT dZ;obtain⟨T,hT⟩:∃x,bL t=x:=⟨_,rfl⟩
      have jV:T.data.toList=t:=by rw[<-hT];unfold bL;simp
      have b7:T.size<=4:=by
       have:T.data.toList.length=T.size:=rfl
       grind
      rw[hT]at he;have p2:=ecat out T oM oM
      have ejo:=ejoin out T;obtain⟨O,hO⟩:∃x,out++T=x:=⟨_,rfl⟩
      rw[hO]at ejo;have UW:O.data.toList=out.data.toList++t:=R7
      have Jp:O.size=out.size+T.size:=aZ
      have pu:r.length<=s.size:=dU
      have lU:wj s n a q RL (j3,O):=by
       refine⟨by omega,by omega,by grind,?_⟩
       rw[iT,UW,yI]
       congr 1
       grind
      have hM:μ (j3,O)<μ (j,out):=by
       grind
      clear cY gA aU xN gI elt eple eget eadd esub ecat ejoin eext iT eS dR eE hz oW dY zL g0 eC hq hn dM rR hb zM zC gm fZ gG lA h4 hm xh dZ kM TY hT jV b7 hO UW Jp pu;cbv;refine bt ?_;refine .mk (j3,O) r5 ?_ ?_
      ·exact lU
      ·exact hM
    ·have w4:decide (z=92)=false:=rR 92 zM;rw[XG _ _ oW hb zM]at iT;obtain⟨T,hT⟩:∃x,s.extract j.toNat j2.toNat=x:=⟨_,rfl⟩
     have jV:T.data.toList=[c]:=by
      rw[<-hT,m9];have e1:s.data.toList.drop j.toNat=bD s j:=rfl;rw[e1,dR,show j2.toNat-j.toNat=1 by omega]
      rfl
     have b7:T.size=1:=by
      have:T.data.toList.length=T.size:=rfl
      grind
     have ex:=eext j j2;rw[hT]at ex;have p2:=ecat out T oM oM
     have ejo:=ejoin out T;obtain⟨O,hO⟩:∃x,out++T=x:=⟨_,rfl⟩
     rw[hO]at ejo;have UW:O.data.toList=out.data.toList++[c]:=R7
     have Jp:O.size=out.size+T.size:=aZ
     have p3:=eple j j2 oM
     have p4:=eple j2 n oM
     have lU:wj s n a q RL (j2,O):=by
      refine⟨by omega,by omega,by grind,?_⟩
      rw[iT,UW,yI]
      congr 1
      funext z
      simp
     have hM:μ (j2,O)<μ (j,out):=by
      grind
     clear cY gA aU xN gI elt eple eget eadd esub ecat ejoin eext iT eS dR eE hz oW dY zL g0 eC hq hn dM rR hb zM hT jV b7 hO UW Jp;cbv;refine bt ?_;refine .mk (j2,O) r5 ?_ ?_
     ·exact lU
     ·exact hM
 ·have d1:E.lti j n=false:=aZ
  rw[iu oM,L2]at iT
  have hv:=cY iT;subst hv;clear cY gA aU xN gI elt eple eget eadd esub ecat ejoin eext iT dY zL g0 eC hq hn dM;exact nI
def dh(l:List ByteArray):List (List PV):=l.map fun s=>[pS s]
theorem zs3:V0 122 [] (.ro 1 (dh lH)):=by
 refine dE aN dO mixed (fun _=>0) Tryz.func122 rfl kR kR rfl fun P G E hc hE=>?_
 have p1:E.pre 0 28 (dh lH):=by rw[hE];exact nR 28
 have t3:E.sub (dh lH) 0 28=dh lH:=fS
 exact A5
structure I4(s:ByteArray)(R:Bool)(i:Int):Prop where
 i0:0<=i
 i1:i<=28
 an:(lH.drop i.toNat).any (fun x=>decide (x=s))=R
theorem z1i(s:ByteArray):V0 99 [pS s] (pB (mh s.data.toList)):=by
 have hk:=zs3;obtain⟨R,hR⟩:∃R,lH.any (fun x=>decide (x=s))=R:=⟨_,rfl⟩
 have cS:mh s.data.toList=R:=by
  rw[Nu,<- hR]
  grind
 rw[cS];have hl:(dh lH).length=28:=rfl;have hg:∀(k:Nat) x,lH[k]?=some x->(dh lH)[k]?=some [pS x]:=fun k x h=>by
  unfold dh
  grind
 have wU:I4 s R 0:=⟨bU _,by decide,hR⟩
 have lI:lH.length=28:=rfl;obtain⟨μ,hμ⟩:∃μ:Int->Nat,∀i,μ i=200000-i.toNat:=⟨_,fun _=>rfl⟩
 generalize dh lH=F at *;refine dE aN dO mixed (fun _=>0) Tryz.func99 rfl kR kR rfl fun P G E hc hE=>?_
 replace hk:=hc _ _ _ hk;have elt:=xV hE;have enat:∀i,E.nat i=i.toNat:=fun i=>by rw[hE];rfl
 have eple:=uA hE;have eeq:∀a b,E.eq a b=decide (a=b):=fun a b=>by rw[hE];rfl
 have eadd:∀a b:Int,-1000000<=a->a<=1000000->-1000000<=b->b<=1000000->E.wadd .i64 a b=a+b:=fun a b h0 h1 h2 h3=>by rw[hE];exact jX oM oM
 have v1:E.ofN 28=28:=fS
 clear hE hc;cbv at hl;cbv;refine bt ?_;refine gU 18 [0,3,4] 0 (fun i:Int=>[.p (pS s),.p (.ro 1 F),.p (pI i)]) (fun _=>[]) (I4 s R) μ 0 r5 wU ?_
 clear wU;intro i hI;have i0:=hI.i0;have i1:=hI.i1
 rcases dP (i<28)with cJ|cJ
 ·have d1:E.lti i 28=true:=aZ
  replace lI:lH.length=28:=lI;obtain⟨x,hx⟩:∃x,lH[i.toNat]?=some x:=⟨_,aB oM⟩
  have g1:=hg _ x hx;rw[<-enat]at g1;have p1:=eple 0 i i0;have ei:=eadd i 1 oM oM oM oM
  have hM:μ (E.wadd .i64 i 1)<μ i:=aZ
  have lz:lH.drop i.toNat=x::lH.drop (i+1).toNat:=by
   have tW:=(aC.1 hx).1;rw[cQ tW,show(i+1).toNat=i.toNat+1 by omega]
   grind
  have FZ:=hI.an;rw[lz,KS]at FZ
  rcases dP (x=s)with yU|yU
  ·have w1:E.eq x s=true:=aZ
   rw[aA yU,dK]at FZ;subst FZ;clear hg elt enat eple eeq eadd lz hx yU ei;exact nI
  ·have w1:E.eq x s=false:=aZ
   rw[dF yU,bI]at FZ;have lU:I4 s R (E.wadd .i64 i 1):=by rw[ei];exact⟨by omega,by omega,FZ⟩
   clear hg elt enat eple eeq eadd lz hx yU ei;exact RK
 ·have d1:E.lti i 28=false:=aZ
  have FZ:=hI.an
  have:i=28:=dU
  subst this;have h5:R=false:=by rw[<-FZ];rfl
  subst h5;clear hg elt enat eple eeq eadd;exact nI
end Go.Proofs.YtjkcdcloomkooaaGreatDoor
