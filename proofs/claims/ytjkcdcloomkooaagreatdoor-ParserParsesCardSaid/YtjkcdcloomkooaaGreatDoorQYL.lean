/- Own work: walks and laws of the parser and its reference. -/
import Derived.Test.YtjkcdcloomkooaaGreatDoorQYT
import Derived.Laws.Cover4
set_option linter.unusedVariables false
set_option linter.unusedSimpArgs false
set_option linter.unusedSectionVars false
set_option maxHeartbeats 8000000
set_option maxRecDepth 100000
namespace Go.Proofs.YtjkcdcloomkooaaGreatDoor
open Go.RowKit
abbrev G0(_:World):Prop:=True
theorem oF:∀w w',Gr w w'->G0 w->G0 w':=fun _ _ _ _=>trivial
theorem eZ{f:FuncId}{fn:Func}{c:Code}(hf:Tryz.prog.funcs[f]?=some fn){l:List PV}{r:PV}
  (h:∀(P':Program)(G':World->Prop)(E:SO),(∀f l r,fS Tryz.prog G0 f l r->fS P' G' f l r)->E=bG->tC P' G' E cO (fun _=>0) c (jG E cO fn.results.toList r) (l.map .p++List.replicate (fn.ntmps-l.length) (.p (.v undef))) [])
  (hb : fn.body = some c := by exact rfl) (hn : (fn.name == "runtime.NumGoroutine") = false := by kernel_rfl) (cV : vZ fn.ntmps (fun _ => 0) c = true := by kernel_rfl) (hl : decide (l.length ≤ fn.ntmps) = true := by exact rfl) : fS Tryz.prog G0 f l r := xA aU oF mixed (fun _ => 0) hf hb hn cV hl h
abbrev V0(f:FuncId)(l:List PV)(r:PV):Prop:=fS Tryz.prog G0 f l r
abbrev VM(f:FuncId)(l:List AV)(H:AH)(r:AV)(K:AH):Prop:=jL Tryz.prog G0 f l H r K
abbrev pI(n:Int):PV:=.v (.int .i64 n)
abbrev pU(c:UInt8):PV:=.v (.int .u8 (c.toNat:Nat))
abbrev pB(b:Bool):PV:=.v (.bool b)
abbrev pS(s:ByteArray):PV:=.v (.string s)
def Bd(b1 b2 b3 b4 b5 b6:Bool):Bool:=(b1&&b2)||((b3&&b4)||(b5||b6))
theorem z4k(z:Int)(b1 b2 b3 b4 b5 b6:Bool)(h1:decide (97<=z)=b1)(h2:decide (z<=122)=b2)(h3:decide (65<=z)=b3)(h4:decide (z<=90)=b4)(h5:decide (z=95)=b5)(h6:decide (z=36)=b6):V0 116 [.v (.int .u8 z)] (pB (Bd b1 b2 b3 b4 b5 b6)):=by
 cases b1<;>cases b2<;>cases b3<;>cases b4<;>cases b5<;>cases b6
 all_goals
  refine eZ Tryz.func116 fun P G E hc hE=>?_
  exact Xe
theorem zz5(c:UInt8):V0 116 [pU c] (pB (oA c)):=by
 have h:=z4k (c.toNat:Nat) _ _ _ _ _ _ rfl rfl rfl rfl rfl rfl;exact Xj
theorem zy9(z:Int)(b1 b2 b3 b4 b5 b6:Bool)(h1:decide (97<=z)=b1)(h2:decide (z<=122)=b2)(h3:decide (65<=z)=b3)(h4:decide (z<=90)=b4)(h5:decide (z=95)=b5)(h6:decide (z=36)=b6):V0 97 [.v (.int .u8 z)] (pB (Bd b1 b2 b3 b4 b5 b6)):=by
 cases b1<;>cases b2<;>cases b3<;>cases b4<;>cases b5<;>cases b6
 all_goals
  refine eZ Tryz.func97 fun P G E hc hE=>?_
  exact Xe
theorem zvm(c:UInt8):V0 97 [pU c] (pB (oA c)):=by
 have h:=zy9 (c.toNat:Nat) _ _ _ _ _ _ rfl rfl rfl rfl rfl rfl;exact Xj
theorem xad(z:Int)(b1 b2:Bool)(h1:decide (48<=z)=b1)(h2:decide (z<=57)=b2):V0 117 [.v (.int .u8 z)] (pB (b1&&b2)):=by
 cases b1<;>cases b2
 all_goals
  refine eZ Tryz.func117 fun P G E hc hE=>?_
  exact Wr
theorem Es(c:UInt8):V0 117 [pU c] (pB (eO c)):=by
 have h:=xad (c.toNat:Nat) _ _ rfl rfl;exact Xv
theorem z2z(z:Int)(b1 b2:Bool)(h1:decide (48<=z)=b1)(h2:decide (z<=57)=b2):V0 98 [.v (.int .u8 z)] (pB (b1&&b2)):=by
 cases b1<;>cases b2
 all_goals
  refine eZ Tryz.func98 fun P G E hc hE=>?_
  exact Wr
theorem Fd(c:UInt8):V0 98 [pU c] (pB (eO c)):=by
 have h:=z2z (c.toNat:Nat) _ _ rfl rfl;exact Xv
def bB(s:ByteArray)(i:Int):Bs:=s.data.toList.drop i.toNat
theorem rL(s:ByteArray)(i:Int):(bB s i).length=s.size-i.toNat:=by
 unfold bB;simp_all
def uU(s:ByteArray)(i:Int)(t:Bs):Bool:=decide ((bB s i).take t.length=t)
theorem yZ{a b:ByteArray}(h:a.data.toList=b.data.toList):a=b:=by
 show(⟨a.data.toList.toArray⟩:ByteArray)=⟨b.data.toList.toArray⟩;rw[h]
theorem my(s:ByteArray)(l h:Nat):(s.extract l h).data.toList=(s.data.toList.drop l).take (h-l):=by
 simp_all
theorem Ph(s t:ByteArray)(i:Int)(h0:0<=i)(h1:i<=(s.size:Nat))(hs:s.size<=1000000000)(ht:t.size<=1000000):V0 96 [pS s,pI i,pS t] (pB (uU s i t.data.toList)):=by
 obtain⟨n,hn⟩:∃n:Int,((s.size:Nat):Int)=n:=⟨_,rfl⟩
 obtain⟨m,hm⟩:∃m:Int,((t.size:Nat):Int)=m:=⟨_,rfl⟩
 obtain⟨d,hd⟩:∃d:Int,n-i=d:=⟨_,rfl⟩
 obtain⟨e,he⟩:∃e:Int,i+m=e:=⟨_,rfl⟩
 have cC:t.data.toList.length=t.size:=rfl
 by_cases oZ:m<=d
 ·have hb:decide (s.extract i.toNat e.toNat=t)=uU s i t.data.toList:=by
   unfold uU bB;have e1:e.toNat-i.toNat=t.data.toList.length:=eC
   refine fX.2 ⟨fun h=>?_,fun h=>?_⟩
   ·rw[<-e1,<- my,h]
   ·refine yZ ?_;rw[my,e1,h]
  generalize hr:uU s i t.data.toList=r at hb;refine eZ Tryz.func96 fun P G E hc hE=>?_
  have z1:E.size s=n:=iY
  have z2:E.size t=m:=by rw[hE];exact hm
  have z3:E.wsub .i64 n i=d:=by rw[hE,<- hd];exact jX oM oM
  have z4:E.lei m d=true:=by rw[hE];exact aA oZ
  have z5:E.wadd .i64 i m=e:=by rw[hE,<- he];exact jX oM oM
  have p1:E.ple 0 i:=xF
  have p2:E.ple i e:=by rw[hE];show i<=e;omega
  have p3:E.ple e n:=by rw[hE];show e<=n;omega
  have z6:E.eq (E.ext s (E.nat i) (E.nat e)) t=r:=by rw[hE];exact hb
  clear hE hn hm oZ hb hd he cC;exact nP
 ·have hr:uU s i t.data.toList=false:=by
   refine dF fun h=>?_
   have:=aG List.length h
   rw[uS,rL]at this;omega
  rw[hr];refine eZ Tryz.func96 fun P G E hc hE=>?_
  have z1:E.size s=n:=iY
  have z2:E.size t=m:=by rw[hE];exact hm
  have z3:E.wsub .i64 n i=d:=by rw[hE,<- hd];exact jX oM oM
  have z4:E.lei m d=false:=by rw[hE];exact dF oZ
  clear hE hn hm oZ hr hd he cC;exact nP
theorem uW{s:ByteArray}{i:Int}{c:UInt8}(h0:0<=i)(h:s.data.toList[i.toNat]?=some c):bB s i=c::bB s (i+1):=by
 unfold bB;have hl:=(aC.1 h).1;rw[cU hl,show(i+1).toNat=i.toNat+1 by omega]
 grind
theorem ja{s:ByteArray}{i:Int}(h:(s.size:Nat)<=i):bB s i=[]:=by
 have:=rL s i
 exact aQ oM
structure Sk(s:ByteArray)(n:Int)(R:Bs×Bool)(i:Int):Prop where
 i0:0<=i
 i1:i<=n
 sk:lA (bB s i)=R
structure Cm(s:ByteArray)(n:Int)(D:Bs)(i:Int):Prop where
 i0:0<=i
 i1:i<=n
 dl:oS (bB s i)=D
structure Kr(s:ByteArray)(n:Int)(D:Option Bs)(i:Int):Prop where
 i0:0<=i
 i1:i<=n
 dl:xP (bB s i)=D
theorem xfs{s:ByteArray}{i:Int}:(uU s i [47,47]=true ↔ pF (bB s i)=1)/\(uU s i [47,42]=true ↔ pF (bB s i)=2):=by
 unfold uU pF
 grind
theorem S4{l:Bs}(h:pF l=1):∃r,l=47::47::r:=by
 unfold pF at h
 split at h
 ·rename_i h2
  match l,h2 with
  |a::b::r,h2=>grind
 grind
theorem S5{l:Bs}(h:pF l=2):∃r,l=47::42::r:=by
 unfold pF at h
 split at h
 ·cases h
 ·split at h
  ·rename_i h2
   match l,h2 with
   |a::b::r,h2=>grind
  ·cases h
theorem xfr{s:ByteArray}{j:Int}{c:UInt8}(h:bB s j=c::bB s (j+1)):uU s j [42,47]=decide (c=42/\(bB s (j+1)).head?=some 47):=by
 unfold uU;rw[h]
 cases bB s (j+1)with
 |nil=>simp
 |cons d r=>simp
theorem z2n(s:ByteArray)(at0:Int)(r:Bs)(b:Bool)(h0:0<=at0)(h1:at0<=(s.size:Nat))(hs:s.size<=1000000000)(hR:lA (bB s at0)=(r,b)):V0 65 [pS s,pI at0] (.tup [pI ((s.size:Nat)-(r.length:Nat)),pB b]):=by
 obtain⟨n,hn⟩:∃n:Int,((s.size:Nat):Int)=n:=⟨_,rfl⟩
 obtain⟨e,he⟩:∃e:Int,n-(r.length:Nat)=e:=⟨_,rfl⟩
 rw[hn]at h1;rw[hn,he];obtain⟨μ,hμ⟩:∃μ:Int->Nat,∀i,μ i=2000000000-i.toNat:=⟨_,fun _=>rfl⟩
 have sU:=fun(i:Int)(iH:0<=i)(iL:i<=n)(t:ByteArray)(ht:t.size<=1000000)=>Ph s t i iH oM hs ht
 have aT:∀i:Int,0<=i->i<n->∃c,s.data.toList[i.toNat]?=some c:=fun i iH iL=>⟨_,aB cj⟩
 have jR:Sk s n (r,b) at0:=⟨h0,h1,hR⟩;have cZ:∀i,Sk s n (r,b) i->lA (bB s i)=(bB s i,true)->e=i/\b=true:=fun i hi h=>by
  exact V9
 refine eZ Tryz.func65 fun P G E hc hE=>?_
 replace sU:=fun(i:Int)(iH:0<=i)(iL:i<=n)(t:ByteArray)(ht:t.size<=1000000)=>hc _ _ _ (sU i iH iL t ht)
 have z1:E.size s=n:=iY
 have elt:=yF hE;have ege:∀a b,E.lei a b=decide (a<=b):=fun a b=>by rw[hE];rfl
 have eple:=uL hE;have eget:∀(i:Int)(c:UInt8)(z:Int),s.data.toList[i.toNat]?=some c->((c.toNat:Nat):Int)=z->E.get s (E.nat i)=some z:=fun i c z h hz=>by
  exact MA
 have eadd:∀a b:Int,-1000000000<=a->a<=1000000000->-1000000<=b->b<=1000000->E.wadd .i64 a b=a+b:=fun a b h0 h1 h2 h3=>by rw[hE];exact jX oM oM
 clear hE hc hR h0 h1;cbv;refine gV 75 [0,1] 0 (fun i:Int=>[.p (pS s),.p (pI i)]) (fun _=>[]) (Sk s n (r,b)) μ at0 r5 jR ?_
 clear jR;intro i hI;replace hn:((s.size:Nat):Int)=n:=hn;have iH:=hI.i0;have iL:=hI.i1
 rcases dV (i<n)with cQ|cQ
 ·have d1:E.lti i n=true:=aX
  obtain⟨c,eP⟩:=aT i iH cQ;obtain⟨z,hz⟩:∃z:Int,((c.toNat:Nat):Int)=z:=⟨_,rfl⟩
  have g1:=eget i c z eP hz;have p1:=eple 0 i iH;have ei:=eadd i 1 oM oM oM oM
  have dZ:=uW iH eP;have hM:μ (E.wadd .i64 i 1)<μ i:=aX
  have xV:∀k:Nat,k<256->(z=(k:Nat) ↔ c=UInt8.ofNat k):=fun k hk=>by
   rw[<-hz]
   constructor
   ·intro h;have h':c.toNat=k:=eC
    rw[<-h',mF]
   ·intro h;rw[h,UInt8.toNat_ofNat'];omega
  cases hw:wA c with
  |true=>
   have lV:Sk s n (r,b) (E.wadd .i64 i 1):=by
    exact Vx
   have Lr:c=9\/c≠9/\(c=10\/c≠10/\(c=13\/c≠13/\c=32)):=by
    unfold wA at hw
    grind
   rcases Lr with e9|⟨e9,e10|⟨e10,e13|⟨e13,e32⟩⟩⟩
   ·have w9:decide (z=9)=true:=aA ((xV 9 aN).2 e9)
    clear sU aT cZ elt ege eple eget eadd xV hn he dZ eP hz ei hw e9;exact VE
   ·have w9:decide (z=9)=false:=dF fun h=>e9 ((xV 9 aN).1 h)
    have w10:decide (z=10)=true:=aA ((xV 10 aN).2 e10)
    clear sU aT cZ elt ege eple eget eadd xV hn he dZ eP hz ei hw e9 e10;exact VE
   ·have w9:decide (z=9)=false:=dF fun h=>e9 ((xV 9 aN).1 h)
    have w10:decide (z=10)=false:=dF fun h=>e10 ((xV 10 aN).1 h)
    have w13:decide (z=13)=true:=aA ((xV 13 aN).2 e13)
    clear sU aT cZ elt ege eple eget eadd xV hn he dZ eP hz ei hw e9 e10 e13;exact VE
   ·have w9:decide (z=9)=false:=dF fun h=>e9 ((xV 9 aN).1 h)
    have w10:decide (z=10)=false:=dF fun h=>e10 ((xV 10 aN).1 h)
    have w13:decide (z=13)=false:=dF fun h=>e13 ((xV 13 aN).1 h)
    have w32:decide (z=32)=true:=aA ((xV 32 aN).2 e32)
    clear sU aT cZ elt ege eple eget eadd xV hn he dZ eP hz ei hw e9 e10 e13 e32;exact VE
  |false=>
   have dN:c≠9/\c≠10/\c≠13/\c≠32:=by
    unfold wA at hw
    grind
   have w9:decide (z=9)=false:=dF fun h=>dN.1 ((xV 9 aN).1 h)
   have w10:decide (z=10)=false:=dF fun h=>dN.2.1 ((xV 10 aN).1 h)
   have w13:decide (z=13)=false:=dF fun h=>dN.2.2.1 ((xV 13 aN).1 h)
   have w32:decide (z=32)=false:=dF fun h=>dN.2.2.2 ((xV 32 aN).1 h)
   have dI:=sU i iH iL ⟨#[47,47]⟩ aN
   have gE:=sU i iH iL ⟨#[47,42]⟩ aN
   obtain⟨k1,k2⟩:=xfs (s:=s) (i:=i)
   rcases Ob (bB s i)with hk|hk|hk
   ·have f1:uU s i [47,47]=false:=kr.2 fun h=>by grind
    have f2:uU s i [47,42]=false:=kr.2 fun h=>by grind
    change fS P G _ _ (pB (uU s i [47,47]))at dI;change fS P G _ _ (pB (uU s i [47,42]))at gE;rw[f1]at dI;rw[f2]at gE;obtain⟨rfl,rfl⟩:=cZ i hI (by rw[dZ]at hk ⊢;exact DS hw hk)
    clear sU aT cZ elt ege eple eget eadd xV hn he dZ eP hz ei hw dN k1 k2 f1 f2 hk;exact nP
   ·have f1:uU s i [47,47]=true:=k1.2 hk;change fS P G _ _ (pB (uU s i [47,47]))at dI;rw[f1]at dI;obtain⟨r2,oI⟩:=S4 hk;obtain⟨D,hD⟩:∃D,oS (bB s i)=D:=⟨_,rfl⟩
    have CI:oS r2=D:=by
     rw[<-hD,oI,oS,aD aN,oS,aD aN]
    have Ze:lA D=(r,b):=by
     have h5:=hI.sk;rw[oI,OG aN rfl]at h5
     grind
    have XJ:D.length+2<=(bB s i).length:=by
     have h5:=JU r2
     grind
    have hlen:=rL s i;have YN:Cm s n D i:=⟨iH,iL,hD⟩;have nT:∀j,Cm s n D j->bB s j=D->Sk s n (r,b) j/\μ j<μ i:=fun j hj h=>by
     have h5:=rL s j;have h6:=hj.i0;have h7:=hj.i1;rw[h]at h5;refine⟨⟨h6,h7,by rw[h];exact Ze⟩,?_⟩
     grind
    clear xV hI dZ k1 k2 gE hk oI hD CI Ze XJ hlen cZ sU eP hz dN hw f1 ei hM;cbv;refine cd ?_;refine gV 75 [0,1] 0 (fun j:Int=>[.p (pS s),.p (pI j)]) (fun _=>[]) (Cm s n D) μ i r5 YN ?_
    clear YN g1 w9 w10 w13 w32 dI p1 d1;intro j hJ;replace hn:((s.size:Nat):Int)=n:=hn;have yq:=hJ.i0;have Yv:=hJ.i1
    rcases dV (j<n)with XI|XI
    ·have d1:E.lti j n=true:=aX
     obtain⟨x,hx⟩:=aT j yq XI;obtain⟨y,hy⟩:∃y:Int,((x.toNat:Nat):Int)=y:=⟨_,rfl⟩
     have g1:=eget j x y hx hy;have p1:=eple 0 j yq;have xH:=uW yq hx;have jJ:=hJ.dl;rw[xH,oS]at jJ
     rcases dV (x=10)with gi|gi
     ·rw[aF gi,<- xH]at jJ;have w10:decide (y=10)=true:=aA (by rw[<-hy,gi];rfl)
      obtain⟨q1,q2⟩:=nT j hJ jJ;clear nT aT elt ege eple eget eadd hn he xH hx hy jJ gi;cbv;refine cd ?_;refine .mk j r5 ?_ ?_
      ·exact q1
      ·exact q2
     ·rw[aD gi]at jJ;have w10:decide (y=10)=false:=dF fun h=>gi (cY.1 aX)
      have ej:=eadd j 1 oM oM oM oM
      have q1:Cm s n D (E.wadd .i64 j 1):=by rw[ej];exact⟨by omega,by omega,jJ⟩
      have q2:μ (E.wadd .i64 j 1)<μ j:=aX
      clear nT aT elt ege eple eget eadd hn he xH hx hy jJ gi ej;exact V1
    ·have d1:E.lti j n=false:=aX
     have jJ:=hJ.dl;have xH:bB s j=[]:=ja oM
     rw[xH]at jJ;obtain⟨q1,q2⟩:=nT j hJ (by rw[xH];exact jJ)
     clear nT aT elt ege eple eget eadd hn he xH jJ;cbv;refine cd ?_;refine .mk j r5 ?_ ?_
     ·exact q1
     ·exact q2
   ·have f1:uU s i [47,47]=false:=kr.2 fun h=>by grind
    have f2:uU s i [47,42]=true:=k2.2 hk;change fS P G _ _ (pB (uU s i [47,47]))at dI;change fS P G _ _ (pB (uU s i [47,42]))at gE;rw[f1]at dI;rw[f2]at gE;obtain⟨r2,oI⟩:=S5 hk;have hlen:=rL s i;rw[oI]at hlen;simp only[qQ]at hlen;have gu:bB s (i+2)=r2:=by
     have h5:bB s (i+2)=(bB s i).drop 2:=by
      unfold bB;rw[zD]
      grind
     grind
    obtain⟨D,hD⟩:∃D,xP r2=D:=⟨_,rfl⟩
    have lQ:=hI.sk;have ei2:=eadd i 2 oM oM oM oM
    have YN:Kr s n D (E.wadd .i64 i 2):=by rw[ei2];exact⟨by omega,by omega,by rw[gu];exact hD⟩
    have nT:∀j,0<=j->j<=n->D=some (bB s j)->Sk s n (r,b) j/\μ j<μ i:=fun j h6 h7 h=>by
     have h5:=rL s j;rw[h]at hD;have h8:=JT hD;refine⟨⟨h6,h7,?_⟩,?_⟩
     ·rw[oI,OE (c:=47) (r:=42::r2) aN rfl hD]at lQ
      exact lQ
     grind
    have dA:D=none->e=i/\b=false:=fun h=>by
     rw[oI,ON aN rfl (by rw[<-h];exact hD)]at lQ
     grind
    clear xV hI dZ k1 k2 hk oI hlen cZ eP hz dN hw f1 f2 ei hM gu hD lQ ei2 he;cbv;refine cd ?_;refine gV 75 [0,1,7] 0 (fun j:Int=>[.p (pS s),.p (pI i),.p (pI j)]) (fun _=>[]) (Kr s n D) μ (E.wadd .i64 i 2) r5 YN ?_
    clear YN g1 w9 w10 w13 w32 dI gE p1 d1;intro j hJ;replace hn:((s.size:Nat):Int)=n:=hn;have yq:=hJ.i0;have Yv:=hJ.i1
    rcases dV (j<n)with XI|XI
    ·have d1:E.lti j n=true:=aX
     obtain⟨x,hx⟩:=aT j yq XI;have xH:=uW yq hx;have jJ:=hJ.dl;have fe:=sU j yq Yv ⟨#[42,47]⟩ aN
     change fS P G _ _ (pB (uU s j [42,47]))at fe;rw[xfr xH]at fe;rw[xH,xP]at jJ
     rcases dV (x=42/\(bB s (j+1)).head?=some 47)with GH|GH
     ·rw[aA GH]at fe;rw[aF GH]at jJ;have d2:E.lei n j=false:=aX
      have f7:(bB s (j+1)).tail=bB s (j+2):=by
       unfold bB;rw[List.tail_drop]
       grind
      have uH:j+2<=n:=by
       have h5:=rL s (j+1);have h6:(bB s (j+1))≠[]:=fun h=>by grind
       have h7:=aS.2 h6;omega
      have ej:=eadd j 2 oM oM oM oM
      obtain⟨q1,q2⟩:=nT (E.wadd .i64 j 2) oM oM aX
      clear nT dA aT sU elt ege eple eget eadd hn xH hx jJ GH f7 uH ej;cbv;refine cd ?_;refine .mk (E.wadd .i64 j 2) r5 ?_ ?_
      ·exact q1
      ·exact q2
     ·rw[dF GH]at fe;rw[aD GH]at jJ;have ej:=eadd j 1 oM oM oM oM
      have q1:Kr s n D (E.wadd .i64 j 1):=by rw[ej];exact⟨by omega,by omega,jJ⟩
      have q2:μ (E.wadd .i64 j 1)<μ j:=aX
      clear nT dA aT sU elt ege eple eget eadd hn xH hx jJ GH ej;exact V1
    ·have d1:E.lti j n=false:=aX
     have d2:E.lei n j=true:=aX
     have jJ:=hJ.dl;have xH:bB s j=[]:=ja oM
     rw[xH]at jJ;obtain⟨rfl,rfl⟩:=dA jJ.symm;clear nT dA aT sU elt ege eple eget eadd hn xH jJ;exact nP
 ·have d1:E.lti i n=false:=aX
  obtain⟨rfl,rfl⟩:=cZ i hI (by rw[ja oM];rfl)
  exact nP
def lH:List ByteArray:=[⟨#[97,115,121,110,99]⟩,⟨#[97,119,97,105,116]⟩,⟨#[98,114,101,97,107]⟩,⟨#[99,111,110,115,116]⟩,⟨#[99,111,110,116,105,110,117,101]⟩,⟨#[100,101,108,101,116,101]⟩,⟨#[101,108,115,101]⟩,⟨#[102,97,108,115,101]⟩,⟨#[102,105,110,97,108,108,121]⟩,⟨#[102,111,114]⟩,⟨#[102,117,110,99,116,105,111,110]⟩,⟨#[105,102]⟩,⟨#[105,110]⟩,⟨#[105,110,115,116,97,110,99,101,111,102]⟩,⟨#[108,101,116]⟩,⟨#[110,101,119]⟩,⟨#[110,117,108,108]⟩,⟨#[111,102]⟩,⟨#[114,101,116,117,114,110]⟩,⟨#[116,104,105,115]⟩,⟨#[116,104,114,111,119]⟩,⟨#[116,114,117,101]⟩,⟨#[116,114,121]⟩,⟨#[99,97,116,99,104]⟩,⟨#[116,121,112,101,111,102]⟩,⟨#[117,110,100,101,102,105,110,101,100]⟩,⟨#[119,104,105,108,101]⟩,⟨#[121,105,101,108,100]⟩]
theorem SY:lH.map (fun s=>s.data.toList)=Bi:=rfl
theorem T6(s:ByteArray):mq s.data.toList=lH.any (fun x=>decide (s=x)):=by
 unfold mq;rw[<-SY,List.any_map]
 congr 1
 funext x
 by_cases h:s=x
 ·grind
 ·rw[dF h];exact pT.2 fun e=>h (yZ e.symm)
theorem z9o(s:ByteArray):V0 118 [pS s] (pB (mq s.data.toList)):=by
 rw[T6]
 by_cases e0:s=⟨#[97,115,121,110,99]⟩
 ·rw[show lH.any (fun x=>decide (s=x))=true by rw[e0];decide +kernel]
  refine eZ Tryz.func118 fun P G E hc hE=>?_
  have eT:=show E.eq s _=true by rw[hE];exact aA e0
  exact Cc
 by_cases e1:s=⟨#[97,119,97,105,116]⟩
 ·rw[show lH.any (fun x=>decide (s=x))=true by rw[e1];decide +kernel]
  refine eZ Tryz.func118 fun P G E hc hE=>?_
  have eF:=sZ hE s;have eT:=show E.eq s _=true by rw[hE];exact aA e1
  exact Cc
 by_cases e2:s=⟨#[98,114,101,97,107]⟩
 ·rw[show lH.any (fun x=>decide (s=x))=true by rw[e2];decide +kernel]
  refine eZ Tryz.func118 fun P G E hc hE=>?_
  have eF:=sZ hE s;have eT:=show E.eq s _=true by rw[hE];exact aA e2
  exact Cc
 by_cases e3:s=⟨#[99,111,110,115,116]⟩
 ·rw[show lH.any (fun x=>decide (s=x))=true by rw[e3];decide +kernel]
  refine eZ Tryz.func118 fun P G E hc hE=>?_
  have eF:=sZ hE s;have eT:=show E.eq s _=true by rw[hE];exact aA e3
  exact Cc
 by_cases e4:s=⟨#[99,111,110,116,105,110,117,101]⟩
 ·rw[show lH.any (fun x=>decide (s=x))=true by rw[e4];decide +kernel]
  refine eZ Tryz.func118 fun P G E hc hE=>?_
  have eF:=sZ hE s;have eT:=show E.eq s _=true by rw[hE];exact aA e4
  clear hE hc;cbv
  repeat (first|(simp only[eF _ e0,eF _ e1,eF _ e2,eF _ e3,eT];try cbv))
 by_cases e5:s=⟨#[100,101,108,101,116,101]⟩
 ·rw[show lH.any (fun x=>decide (s=x))=true by rw[e5];decide +kernel]
  refine eZ Tryz.func118 fun P G E hc hE=>?_
  have eF:=sZ hE s;have eT:=show E.eq s _=true by rw[hE];exact aA e5
  clear hE hc;cbv
  repeat (first|(simp only[eF _ e0,eF _ e1,eF _ e2,eF _ e3,eF _ e4,eT];try cbv))
 by_cases e6:s=⟨#[101,108,115,101]⟩
 ·rw[show lH.any (fun x=>decide (s=x))=true by rw[e6];decide +kernel]
  refine eZ Tryz.func118 fun P G E hc hE=>?_
  have eF:=sZ hE s;have eT:=show E.eq s _=true by rw[hE];exact aA e6
  clear hE hc;cbv
  repeat (first|(simp only[eF _ e0,eF _ e1,eF _ e2,eF _ e3,eF _ e4,eF _ e5,eT];try cbv))
 by_cases e7:s=⟨#[102,97,108,115,101]⟩
 ·rw[show lH.any (fun x=>decide (s=x))=true by rw[e7];decide +kernel]
  refine eZ Tryz.func118 fun P G E hc hE=>?_
  have eF:=sZ hE s;have eT:=show E.eq s _=true by rw[hE];exact aA e7
  clear hE hc;cbv
  repeat (first|(simp only[eF _ e0,eF _ e1,eF _ e2,eF _ e3,eF _ e4,eF _ e5,eF _ e6,eT];try cbv))
 by_cases e8:s=⟨#[102,105,110,97,108,108,121]⟩
 ·rw[show lH.any (fun x=>decide (s=x))=true by rw[e8];decide +kernel]
  refine eZ Tryz.func118 fun P G E hc hE=>?_
  have eF:=sZ hE s;have eT:=show E.eq s _=true by rw[hE];exact aA e8
  clear hE hc;cbv
  repeat (first|(simp only[eF _ e0,eF _ e1,eF _ e2,eF _ e3,eF _ e4,eF _ e5,eF _ e6,eF _ e7,eT];try cbv))
 by_cases e9:s=⟨#[102,111,114]⟩
 ·rw[show lH.any (fun x=>decide (s=x))=true by rw[e9];decide +kernel]
  refine eZ Tryz.func118 fun P G E hc hE=>?_
  have eF:=sZ hE s;have eT:=show E.eq s _=true by rw[hE];exact aA e9
  clear hE hc;cbv
  repeat (first|(simp only[eF _ e0,eF _ e1,eF _ e2,eF _ e3,eF _ e4,eF _ e5,eF _ e6,eF _ e7,eF _ e8,eT];try cbv))
 by_cases e10:s=⟨#[102,117,110,99,116,105,111,110]⟩
 ·rw[show lH.any (fun x=>decide (s=x))=true by rw[e10];decide +kernel]
  refine eZ Tryz.func118 fun P G E hc hE=>?_
  have eF:=sZ hE s;have eT:=show E.eq s _=true by rw[hE];exact aA e10
  clear hE hc;cbv
  repeat (first|(simp only[eF _ e0,eF _ e1,eF _ e2,eF _ e3,eF _ e4,eF _ e5,eF _ e6,eF _ e7,eF _ e8,eF _ e9,eT];try cbv))
 by_cases e11:s=⟨#[105,102]⟩
 ·rw[show lH.any (fun x=>decide (s=x))=true by rw[e11];decide +kernel]
  refine eZ Tryz.func118 fun P G E hc hE=>?_
  have eF:=sZ hE s;have eT:=show E.eq s _=true by rw[hE];exact aA e11
  clear hE hc;cbv
  repeat (first|(simp only[eF _ e0,eF _ e1,eF _ e2,eF _ e3,eF _ e4,eF _ e5,eF _ e6,eF _ e7,eF _ e8,eF _ e9,eF _ e10,eT];try cbv))
 by_cases e12:s=⟨#[105,110]⟩
 ·rw[show lH.any (fun x=>decide (s=x))=true by rw[e12];decide +kernel]
  refine eZ Tryz.func118 fun P G E hc hE=>?_
  have eF:=sZ hE s;have eT:=show E.eq s _=true by rw[hE];exact aA e12
  clear hE hc;cbv
  repeat (first|(simp only[eF _ e0,eF _ e1,eF _ e2,eF _ e3,eF _ e4,eF _ e5,eF _ e6,eF _ e7,eF _ e8,eF _ e9,eF _ e10,eF _ e11,eT];try cbv))
 by_cases e13:s=⟨#[105,110,115,116,97,110,99,101,111,102]⟩
 ·rw[show lH.any (fun x=>decide (s=x))=true by rw[e13];decide +kernel]
  refine eZ Tryz.func118 fun P G E hc hE=>?_
  have eF:=sZ hE s;have eT:=show E.eq s _=true by rw[hE];exact aA e13
  clear hE hc;cbv
  repeat (first|(simp only[eF _ e0,eF _ e1,eF _ e2,eF _ e3,eF _ e4,eF _ e5,eF _ e6,eF _ e7,eF _ e8,eF _ e9,eF _ e10,eF _ e11,eF _ e12,eT];try cbv))
 by_cases e14:s=⟨#[108,101,116]⟩
 ·rw[show lH.any (fun x=>decide (s=x))=true by rw[e14];decide +kernel]
  refine eZ Tryz.func118 fun P G E hc hE=>?_
  have eF:=sZ hE s;have eT:=show E.eq s _=true by rw[hE];exact aA e14
  clear hE hc;cbv
  repeat (first|(simp only[eF _ e0,eF _ e1,eF _ e2,eF _ e3,eF _ e4,eF _ e5,eF _ e6,eF _ e7,eF _ e8,eF _ e9,eF _ e10,eF _ e11,eF _ e12,eF _ e13,eT];try cbv))
 by_cases e15:s=⟨#[110,101,119]⟩
 ·rw[show lH.any (fun x=>decide (s=x))=true by rw[e15];decide +kernel]
  refine eZ Tryz.func118 fun P G E hc hE=>?_
  have eF:=sZ hE s;have eT:=show E.eq s _=true by rw[hE];exact aA e15
  clear hE hc;cbv
  repeat (first|(simp only[eF _ e0,eF _ e1,eF _ e2,eF _ e3,eF _ e4,eF _ e5,eF _ e6,eF _ e7,eF _ e8,eF _ e9,eF _ e10,eF _ e11,eF _ e12,eF _ e13,eF _ e14,eT];try cbv))
 by_cases e16:s=⟨#[110,117,108,108]⟩
 ·rw[show lH.any (fun x=>decide (s=x))=true by rw[e16];decide +kernel]
  refine eZ Tryz.func118 fun P G E hc hE=>?_
  have eF:=sZ hE s;have eT:=show E.eq s _=true by rw[hE];exact aA e16
  clear hE hc;cbv
  repeat (first|(simp only[eF _ e0,eF _ e1,eF _ e2,eF _ e3,eF _ e4,eF _ e5,eF _ e6,eF _ e7,eF _ e8,eF _ e9,eF _ e10,eF _ e11,eF _ e12,eF _ e13,eF _ e14,eF _ e15,eT];try cbv))
 by_cases e17:s=⟨#[111,102]⟩
 ·rw[show lH.any (fun x=>decide (s=x))=true by rw[e17];decide +kernel]
  refine eZ Tryz.func118 fun P G E hc hE=>?_
  have eF:=sZ hE s;have eT:=show E.eq s _=true by rw[hE];exact aA e17
  clear hE hc;cbv
  repeat (first|(simp only[eF _ e0,eF _ e1,eF _ e2,eF _ e3,eF _ e4,eF _ e5,eF _ e6,eF _ e7,eF _ e8,eF _ e9,eF _ e10,eF _ e11,eF _ e12,eF _ e13,eF _ e14,eF _ e15,eF _ e16,eT];try cbv))
 by_cases e18:s=⟨#[114,101,116,117,114,110]⟩
 ·rw[show lH.any (fun x=>decide (s=x))=true by rw[e18];decide +kernel]
  refine eZ Tryz.func118 fun P G E hc hE=>?_
  have eF:=sZ hE s;have eT:=show E.eq s _=true by rw[hE];exact aA e18
  clear hE hc;cbv
  repeat (first|(simp only[eF _ e0,eF _ e1,eF _ e2,eF _ e3,eF _ e4,eF _ e5,eF _ e6,eF _ e7,eF _ e8,eF _ e9,eF _ e10,eF _ e11,eF _ e12,eF _ e13,eF _ e14,eF _ e15,eF _ e16,eF _ e17,eT];try cbv))
 by_cases e19:s=⟨#[116,104,105,115]⟩
 ·rw[show lH.any (fun x=>decide (s=x))=true by rw[e19];decide +kernel]
  refine eZ Tryz.func118 fun P G E hc hE=>?_
  have eF:=sZ hE s;have eT:=show E.eq s _=true by rw[hE];exact aA e19
  clear hE hc;cbv
  repeat (first|(simp only[eF _ e0,eF _ e1,eF _ e2,eF _ e3,eF _ e4,eF _ e5,eF _ e6,eF _ e7,eF _ e8,eF _ e9,eF _ e10,eF _ e11,eF _ e12,eF _ e13,eF _ e14,eF _ e15,eF _ e16,eF _ e17,eF _ e18,eT];try cbv))
 by_cases e20:s=⟨#[116,104,114,111,119]⟩
 ·rw[show lH.any (fun x=>decide (s=x))=true by rw[e20];decide +kernel]
  refine eZ Tryz.func118 fun P G E hc hE=>?_
  have eF:=sZ hE s;have eT:=show E.eq s _=true by rw[hE];exact aA e20
  clear hE hc;cbv
  repeat (first|(simp only[eF _ e0,eF _ e1,eF _ e2,eF _ e3,eF _ e4,eF _ e5,eF _ e6,eF _ e7,eF _ e8,eF _ e9,eF _ e10,eF _ e11,eF _ e12,eF _ e13,eF _ e14,eF _ e15,eF _ e16,eF _ e17,eF _ e18,eF _ e19,eT];try cbv))
 by_cases e21:s=⟨#[116,114,117,101]⟩
 ·rw[show lH.any (fun x=>decide (s=x))=true by rw[e21];decide +kernel]
  refine eZ Tryz.func118 fun P G E hc hE=>?_
  have eF:=sZ hE s;have eT:=show E.eq s _=true by rw[hE];exact aA e21
  clear hE hc;cbv
  repeat (first|(simp only[eF _ e0,eF _ e1,eF _ e2,eF _ e3,eF _ e4,eF _ e5,eF _ e6,eF _ e7,eF _ e8,eF _ e9,eF _ e10,eF _ e11,eF _ e12,eF _ e13,eF _ e14,eF _ e15,eF _ e16,eF _ e17,eF _ e18,eF _ e19,eF _ e20,eT];try cbv))
 by_cases e22:s=⟨#[116,114,121]⟩
 ·rw[show lH.any (fun x=>decide (s=x))=true by rw[e22];decide +kernel]
  refine eZ Tryz.func118 fun P G E hc hE=>?_
  have eF:=sZ hE s;have eT:=show E.eq s _=true by rw[hE];exact aA e22
  clear hE hc;cbv
  repeat (first|(simp only[eF _ e0,eF _ e1,eF _ e2,eF _ e3,eF _ e4,eF _ e5,eF _ e6,eF _ e7,eF _ e8,eF _ e9,eF _ e10,eF _ e11,eF _ e12,eF _ e13,eF _ e14,eF _ e15,eF _ e16,eF _ e17,eF _ e18,eF _ e19,eF _ e20,eF _ e21,eT];try cbv))
 by_cases e23:s=⟨#[99,97,116,99,104]⟩
 ·rw[show lH.any (fun x=>decide (s=x))=true by rw[e23];decide +kernel]
  refine eZ Tryz.func118 fun P G E hc hE=>?_
  have eF:=sZ hE s;have eT:=show E.eq s _=true by rw[hE];exact aA e23
  clear hE hc;cbv
  repeat (first|(simp only[eF _ e0,eF _ e1,eF _ e2,eF _ e3,eF _ e4,eF _ e5,eF _ e6,eF _ e7,eF _ e8,eF _ e9,eF _ e10,eF _ e11,eF _ e12,eF _ e13,eF _ e14,eF _ e15,eF _ e16,eF _ e17,eF _ e18,eF _ e19,eF _ e20,eF _ e21,eF _ e22,eT];try cbv))
 by_cases e24:s=⟨#[116,121,112,101,111,102]⟩
 ·rw[show lH.any (fun x=>decide (s=x))=true by rw[e24];decide +kernel]
  refine eZ Tryz.func118 fun P G E hc hE=>?_
  have eF:=sZ hE s;have eT:=show E.eq s _=true by rw[hE];exact aA e24
  clear hE hc;cbv
  repeat (first|(simp only[eF _ e0,eF _ e1,eF _ e2,eF _ e3,eF _ e4,eF _ e5,eF _ e6,eF _ e7,eF _ e8,eF _ e9,eF _ e10,eF _ e11,eF _ e12,eF _ e13,eF _ e14,eF _ e15,eF _ e16,eF _ e17,eF _ e18,eF _ e19,eF _ e20,eF _ e21,eF _ e22,eF _ e23,eT];try cbv))
 by_cases e25:s=⟨#[117,110,100,101,102,105,110,101,100]⟩
 ·rw[show lH.any (fun x=>decide (s=x))=true by rw[e25];decide +kernel]
  refine eZ Tryz.func118 fun P G E hc hE=>?_
  have eF:=sZ hE s;have eT:=show E.eq s _=true by rw[hE];exact aA e25
  clear hE hc;cbv
  repeat (first|(simp only[eF _ e0,eF _ e1,eF _ e2,eF _ e3,eF _ e4,eF _ e5,eF _ e6,eF _ e7,eF _ e8,eF _ e9,eF _ e10,eF _ e11,eF _ e12,eF _ e13,eF _ e14,eF _ e15,eF _ e16,eF _ e17,eF _ e18,eF _ e19,eF _ e20,eF _ e21,eF _ e22,eF _ e23,eF _ e24,eT];try cbv))
 by_cases e26:s=⟨#[119,104,105,108,101]⟩
 ·rw[show lH.any (fun x=>decide (s=x))=true by rw[e26];decide +kernel]
  refine eZ Tryz.func118 fun P G E hc hE=>?_
  have eF:=sZ hE s;have eT:=show E.eq s _=true by rw[hE];exact aA e26
  clear hE hc;cbv
  repeat (first|(simp only[eF _ e0,eF _ e1,eF _ e2,eF _ e3,eF _ e4,eF _ e5,eF _ e6,eF _ e7,eF _ e8,eF _ e9,eF _ e10,eF _ e11,eF _ e12,eF _ e13,eF _ e14,eF _ e15,eF _ e16,eF _ e17,eF _ e18,eF _ e19,eF _ e20,eF _ e21,eF _ e22,eF _ e23,eF _ e24,eF _ e25,eT];try cbv))
 by_cases e27:s=⟨#[121,105,101,108,100]⟩
 ·rw[show lH.any (fun x=>decide (s=x))=true by rw[e27];decide +kernel]
  refine eZ Tryz.func118 fun P G E hc hE=>?_
  have eF:=sZ hE s;have eT:=show E.eq s _=true by rw[hE];exact aA e27
  clear hE hc;cbv
  repeat (first|(simp only[eF _ e0,eF _ e1,eF _ e2,eF _ e3,eF _ e4,eF _ e5,eF _ e6,eF _ e7,eF _ e8,eF _ e9,eF _ e10,eF _ e11,eF _ e12,eF _ e13,eF _ e14,eF _ e15,eF _ e16,eF _ e17,eF _ e18,eF _ e19,eF _ e20,eF _ e21,eF _ e22,eF _ e23,eF _ e24,eF _ e25,eF _ e26,eT];try cbv))
 have hr:lH.any (fun x=>decide (s=x))=false:=by
  rw[ko];intro x hx h;have jo:=oT h;subst jo;unfold lH at hx;simp_all
 rw[hr];refine eZ Tryz.func118 fun P G E hc hE=>?_
 have eF:=sZ hE s;clear hE hc hr;cbv
 repeat (first|(simp only[eF _ e0,eF _ e1,eF _ e2,eF _ e3,eF _ e4,eF _ e5,eF _ e6,eF _ e7,eF _ e8,eF _ e9,eF _ e10,eF _ e11,eF _ e12,eF _ e13,eF _ e14,eF _ e15,eF _ e16,eF _ e17,eF _ e18,eF _ e19,eF _ e20,eF _ e21,eF _ e22,eF _ e23,eF _ e24,eF _ e25,eF _ e26,eF _ e27];try cbv))
def EL(c:UInt8):Int:=match sL c with
 |some n=>(n:Nat)
 |none=>-1
def FA(z:Int):Int:=if 48<=z/\z<=57 then z-48 else if 97<=z/\z<=102 then z-97+10 else if 65<=z/\z<=70 then z-65+10 else -1
theorem xj4(c:UInt8):FA (c.toNat:Nat)=EL c:=by
 have key:=aO.1 (show((List.range 256).all fun n=>decide (FA (n:Nat)=EL (UInt8.ofNat n)))=true by decide +kernel) c.toNat (bV.2 c.toNat_lt)
 simp_all
theorem TY(c:UInt8):eO c=decide ((48:Int)<=(c.toNat:Nat)/\((c.toNat:Nat):Int)<=57):=by
 have key:=aO.1 (show((List.range 256).all fun n=>eO (UInt8.ofNat n)==decide ((48:Int)<=(n:Nat)/\((n:Nat):Int)<=57))=true by decide +kernel) c.toNat (bV.2 c.toNat_lt)
 simp_all
theorem zu2{a b:Int}(h0:0<=b)(h1:b<=a)(h2:a<=255):bG.wsub .u8 a b=a-b:=by
 have h:∃k:Nat,k<256/\a-b=(k:Nat):=⟨(a-b).toNat,by omega,by omega⟩
 obtain⟨k,hk,e⟩:=h;show IntKind.wrap .u8 (a-b)=a-b;rw[e];have key:=aO.1 (show((List.range 256).all fun n=>decide (IntKind.wrap .u8 ((n:Nat):Int)=(n:Nat)))=true by decide +kernel) k (bV.2 hk)
 grind
theorem Dy(c:UInt8):V0 136 [pU c] (pI (EL c)):=by
 have hd:=Fd c;rw[TY]at hd;rw[<-xj4];have vA:(0:Int)<=(c.toNat:Nat):=Int.natCast_nonneg _;have uZ:((c.toNat:Nat):Int)<=255:=by have:=c.toNat_lt;omega
 unfold pU at *;generalize ((c.toNat:Nat):Int)=z at *;unfold FA
 by_cases h1:48<=z/\z<=57
 ·rw[aF h1];rw[aA h1]at hd;obtain⟨v,hv⟩:∃v,z-48=v:=⟨_,rfl⟩
  rw[hv];refine eZ Tryz.func136 fun P G E hc hE=>?_
  replace hd:=hc _ _ _ hd;have w1:E.wsub .u8 z 48=v:=Jn
  have w2:E.wrap .i64 v=v:=C4
  clear hE hc vA uZ h1 hv;exact nP
 ·rw[aD h1];rw[dF h1]at hd
  by_cases h2:97<=z/\z<=102
  ·rw[aF h2];obtain⟨v,hv⟩:∃v,z-97=v:=⟨_,rfl⟩
   obtain⟨u,hu⟩:∃u,v+10=u:=⟨_,rfl⟩
   rw[hv,hu];refine eZ Tryz.func136 fun P G E hc hE=>?_
   replace hd:=hc _ _ _ hd;have k1:E.lei 97 z=decide (97<=z):=fH
   have k2:E.lei z 102=decide (z<=102):=fH
   have k3:E.lei 65 z=decide (65<=z):=fH
   have k4:E.lei z 70=decide (z<=70):=fH
   have w1:E.wsub .u8 z 97=v:=Jn
   have w2:E.wrap .i64 v=v:=C4
   have w3:E.wadd .i64 v 10=u:=by rw[hE,<- hu];exact jX oM oM
   rw[aA h2.1]at k1;rw[aA h2.2]at k2;clear hE hc vA uZ h1 h2 hv hu k3 k4;exact nP
  ·rw[aD h2];obtain⟨q1,r4⟩:∃q,decide (97<=z)=q:=⟨_,rfl⟩
   obtain⟨q2,yQ⟩:∃q,decide (z<=102)=q:=⟨_,rfl⟩
   by_cases h3:65<=z/\z<=70
   ·rw[aF h3];obtain⟨v,hv⟩:∃v,z-65=v:=⟨_,rfl⟩
    obtain⟨u,hu⟩:∃u,v+10=u:=⟨_,rfl⟩
    rw[hv,hu];have h5:decide (97<=z)=false:=dF oM
    refine eZ Tryz.func136 fun P G E hc hE=>?_
    replace hd:=hc _ _ _ hd;have k1:E.lei 97 z=decide (97<=z):=fH
    have k2:E.lei z 102=decide (z<=102):=fH
    have k3:E.lei 65 z=decide (65<=z):=fH
    have k4:E.lei z 70=decide (z<=70):=fH
    have w1:E.wsub .u8 z 65=v:=Jn
    have w2:E.wrap .i64 v=v:=C4
    have w3:E.wadd .i64 v 10=u:=by rw[hE,<- hu];exact jX oM oM
    rw[h5]at k1;rw[aA h3.1]at k3;rw[aA h3.2]at k4;clear hE hc vA uZ h1 h2 h3 hv hu h5 r4 yQ k2;exact nP
   ·rw[aD h3];obtain⟨q3,Yj⟩:∃q,decide (65<=z)=q:=⟨_,rfl⟩
    obtain⟨q4,Yi⟩:∃q,decide (z<=70)=q:=⟨_,rfl⟩
    have h4:(q1&&q2)=false:=by
     grind
    have h5:(q3&&q4)=false:=by
     grind
    cases q1<;>cases q2<;>cases q3<;>cases q4<;>first|(cases h4;done)|(cases h5;done)|skip
    all_goals
     refine eZ Tryz.func136 fun P G E hc hE=>?_
     replace hd:=hc _ _ _ hd;have k1:E.lei 97 z=decide (97<=z):=fH
     have k2:E.lei z 102=decide (z<=102):=fH
     have k3:E.lei 65 z=decide (65<=z):=fH
     have k4:E.lei z 70=decide (z<=70):=fH
     rw[r4]at k1;rw[yQ]at k2;rw[Yj]at k3;rw[Yi]at k4;clear hE hc vA uZ h1 h2 h3 h4 h5 r4 yQ Yj Yi;cbv
     repeat (first|(simp only[k1];cbv)|(simp only[k2];cbv)|(simp only[k3];cbv)|(simp only[k4];cbv)|(refine⟨_,hd,?_⟩;cbv))
def uB(n:Nat):Bs:=(Utf8.encode (n:Int)).data.toList
def bL(l:Bs):ByteArray:=⟨l.toArray⟩
theorem S1(s:ByteArray):bL s.data.toList=s:=rfl
theorem S2(n:Nat):bL (uB n)=Utf8.encode (n:Int):=S1 _
theorem JD(c:UInt8):(sL c).getD 0<=15:=by
 have key:=aO.1 (show((List.range 256).all fun n=>decide ((sL (UInt8.ofNat n)).getD 0<=15))=true by decide +kernel) c.toNat (bV.2 c.toNat_lt)
 simp_all
theorem A8(u:Bs)(x:UInt8):pV (u++[x])=16*pV u+(sL x).getD 0:=by
 unfold pV
 grind
theorem Dx:∀(k:Nat)(u:Bs),u.length<=k->pV u<16 ^ k:=by
 intro k
 induction k with
 |zero=>
  intro u h
  have:u=[]:=aQ oM
  subst this;decide
 |succ k ih=>
  intro u h
  rcases List.eq_nil_or_concat u with rfl|⟨v,x,rfl⟩
  ·grind
  ·have h2:v.length<=k:=by
    grind
   have h3:=ih v h2;have h4:=JD x;rw[List.concat_eq_append,A8,Nat.pow_succ];omega
theorem F2{c:UInt8}(h:iR c=true):EL c=((sL c).getD 0:Nat):=by
 unfold iR at h;unfold EL
 grind
theorem F1{c:UInt8}(h:iR c=false):EL c=-1:=by
 unfold iR at h;unfold EL
 grind
def ng(s:ByteArray)(a:Int):PV:=match xD uB (bB s (a+1))with
 |none=>.tup [pS ⟨#[]⟩,pI 0]
 |some p=>.tup [pS (bL p.1),pI ((s.size:Nat)-(p.2.length:Nat)-a)]
structure Ku(s:ByteArray)(n a:Int)(x:Int×Int):Prop where
 j0:a+2<=x.1
 j1:x.1<=n
 j2:x.1<=a+9
 u:∃u:Bs,bB s (a+2)=u++bB s x.1/\(∀c∈u,iR c=true)/\(u.length:Int)=x.1-a-2/\x.2=(pV u:Nat)
def U9(u:Bs):Bs->Option (Bs×Bs)
 |[]=>none
 |d::r'=>if d=125/\1<=u.length/\u.length<=6/\oh (pV u)=true then some (uB (pV u),r')else none
theorem SA{s:ByteArray}{a:Int}{r u:Bs}{c:UInt8}{l:Bs}(h:bB s (a+1)=123::r)(hr:r=u++l)(hu:∀c∈u,iR c=true)(hl:l=[]\/∃l',l=c::l'/\iR c=false):xD uB (bB s (a+1))=U9 u l:=by
 have h4:=ld (p:=iR) u l hu (fun x hx=>by
  grind)
 rw[h,xD,aF rfl,hr,h4.1,h4.2]
 cases l<;>rfl
theorem xdh{s:ByteArray}{a:Int}{r u l:Bs}{c:UInt8}(h:bB s (a+1)=123::r)(hr:r=u++c::l)(hu:∀c∈u,iR c=true)(hl:7<=u.length):xD uB (bB s (a+1))=none:=by
 have hlen:7<=(r.takeWhile iR).length:=by
  obtain⟨h1,h2,h3⟩:=n6 (p:=iR) (c::l);have h4:=ld (p:=iR) (u++(c::l).takeWhile iR) ((c::l).dropWhile iR) (fun x hx=>by
   grind) h2
  grind
 rw[h,xD,aF rfl]
 grind
theorem Fu{n:Int}(h0:0<=n)(h1:n<2147483648):IntKind.i32.wrap n=n:=by
 simp[IntKind.wrap,IntKind.bits,IntKind.signed]
 split<;>omega
theorem z3e(s:ByteArray)(a:Int)(h0:0<=a)(h1:a<(s.size:Nat))(hs:s.size<=100000000):V0 137 [pS s,pI a] (ng s a):=by
 obtain⟨n,hn⟩:∃n:Int,((s.size:Nat):Int)=n:=⟨_,rfl⟩
 rw[hn]at h1;have aT:∀i:Int,0<=i->i<n->∃c,s.data.toList[i.toNat]?=some c:=fun i iH iL=>⟨_,aB cj⟩
 obtain⟨a1,kU⟩:∃x:Int,a+1=x:=⟨_,rfl⟩
 rcases dV (n<=a1)with hA|hA
 ·have hr:ng s a=.tup [pS ⟨#[]⟩,pI 0]:=by
   unfold ng;rw[ja oM]
   rfl
  rw[hr];refine eZ Tryz.func137 fun P G E hc hE=>?_
  have z1:E.size s=n:=iY
  have elt:=yF hE;have ege:∀a b,E.lei a b=decide (a<=b):=fun a b=>by rw[hE];rfl
  have eple:=uL hE;have eget:∀(i:Int)(c:UInt8)(z:Int),s.data.toList[i.toNat]?=some c->((c.toNat:Nat):Int)=z->E.get s (E.nat i)=some z:=fun i c z h hz=>by
   exact Cd
  have eadd:∀a b:Int,-1000000000<=a->a<=1000000000->-1000000<=b->b<=1000000->E.wadd .i64 a b=a+b:=fun a b h0 h1 h2 h3=>by rw[hE];exact jX oM oM
  have d1:E.lei n a1=true:=aX
  have ei:=eadd a 1 oM oM oM oM
  rw[kU]at ei;clear hE hc elt ege eple eget eadd hn aT hA hr kU;exact nP
 ·obtain⟨c,eP⟩:=aT a1 oM oM
  obtain⟨z,hz⟩:∃z:Int,((c.toNat:Nat):Int)=z:=⟨_,rfl⟩
  have dZ:=uW oM eP
  rcases dV (c=123)with hB|hB
  ·subst hB;have w1:decide (z=123)=true:=aA (by rw[<-hz];rfl)
   have wR:bB s (a+1)=123::bB s (a+2):=by
    grind
   obtain⟨a2,rU⟩:∃x:Int,a+2=x:=⟨_,rfl⟩
   obtain⟨a9,HU⟩:∃x:Int,a+9=x:=⟨_,rfl⟩
   have xH:Ku s n a (a2,0):=⟨by omega,by omega,by omega,[],by grind,fun c hc=>(by cases hc),by grind,rfl⟩
   obtain⟨μ,hμ⟩:∃μ:Int×Int->Nat,∀x,μ x=2000000000-x.1.toNat:=⟨_,fun _=>rfl⟩
   have zT:=fun c:UInt8=>Dy c
   obtain⟨RV,eI⟩:∃x,ng s a=x:=⟨_,rfl⟩
   rw[eI];have dA:xD uB (bB s (a+1))=none->RV=.tup [pS ⟨#[]⟩,pI 0]:=fun h=>by
    rw[<-eI];unfold ng;rw[h]
   have gH:∀t r',xD uB (bB s (a+1))=some (t,r')->RV=.tup [pS (bL t),pI (n-(r'.length:Nat)-a)]:=fun t r' h=>by
    rw[<-eI];unfold ng;rw[h,<- hn]
   refine eZ Tryz.func137 fun P G E hc hE=>?_
   replace zT:=fun c:UInt8=>hc _ _ _ (zT c)
   have z1:E.size s=n:=iY
   have elt:=yF hE;have ege:∀a b,E.lei a b=decide (a<=b):=fun a b=>by rw[hE];rfl
   have eple:=uL hE;have eget:∀(i:Int)(c:UInt8)(z:Int),s.data.toList[i.toNat]?=some c->((c.toNat:Nat):Int)=z->E.get s (E.nat i)=some z:=fun i c z h hz=>by
    exact Cd
   have eadd:∀a b:Int,-1000000000<=a->a<=1000000000->-1000000<=b->b<=1000000->E.wadd .i64 a b=a+b:=fun a b h0 h1 h2 h3=>by rw[hE];exact jX oM oM
   have d1:E.lei n a1=false:=aX
   have ei:=eadd a 1 oM oM oM oM
   rw[kU]at ei;have ei2:=eadd a 2 oM oM oM oM
   rw[rU]at ei2;have ei9:=eadd a 9 oM oM oM oM
   rw[HU]at ei9;have g1:=eget a1 123 z eP hz;have p1:=eple 0 a1 oM
   have emul:∀x:Int,0<=x->x<=1000000000->E.wmul .i64 x 16=x*16:=fun x h0 h1=>by rw[hE];exact jX oM oM
   have esub:∀x y:Int,-1000000000<=x->x<=1000000000->-1000000000<=y->y<=1000000000->E.wsub .i64 x y=x-y:=fun x y h0 h1 h2 h3=>by rw[hE];exact jX oM oM
   have ewrp:∀x:Int,0<=x->x<=1114111->E.wrap .i32 x=x:=fun x h0 h1=>by rw[hE];exact Fu oM oM
   have eenc0:∀x:Int,E.enc x=Utf8.encode x:=fun x=>by rw[hE];rfl
   have eenc:∀x:Nat,E.enc (x:Int)=bL (uB x):=fun x=>(eenc0 _).trans (S2 x).symm
   clear hE hc eP dZ eI;cbv;refine cd ?_;refine gV 90 [0,1,6,7] 0 (fun x:Int×Int=>[.p (pS s),.p (pI a),.p (pI x.2),.p (pI x.1)]) (fun _=>[]) (Ku s n a) μ (a2,0) r5 xH ?_
   clear xH w1 g1 p1 d1 ei ei2
   rintro⟨j,acc⟩ hI
   obtain⟨j0,j1,j2,u,gG,gM,lB,cq⟩:=hI;simp only at j0 j1 j2 gG lB cq;replace hn:((s.size:Nat):Int)=n:=hn;have Yd:n<=100000000:=eC
   have MM:((u.length:Nat):Int)=j-a-2:=lB;have GJ:acc=((pV u:Nat):Int):=cq;have vD:u.length<=7:=eC
   have oO:pV u<268435456:=Dx 7 u vD;rw[kU]at wR;rw[<-kU]at wR;have es1:=esub j a oM oM oM oM
   obtain⟨c1,il⟩:∃x:Int,j-a=x:=⟨_,rfl⟩
   rw[il]at es1;have es2:=esub c1 2 oM oM oM oM
   obtain⟨c2,ik⟩:∃x:Int,c1-2=x:=⟨_,rfl⟩
   rw[ik]at es2
   rcases dV (j<n)with cQ|cQ
   ·have d1:E.lti j n=true:=aX
    have d2:E.lei n j=false:=aX
    obtain⟨x,hx⟩:=aT j oM cQ
    obtain⟨y,hy⟩:∃y:Int,((x.toNat:Nat):Int)=y:=⟨_,rfl⟩
    have g1:=eget j x y hx hy;have p1:=eple 0 j oM
    have zH:=uW oM hx
    have hh:=zT x
    cases uk:iR x with
    |true=>
     rw[F2 uk]at hh;have WC:=JD x;obtain⟨v,hv⟩:∃v:Int,(((sL x).getD 0:Nat):Int)=v:=⟨_,rfl⟩
     rw[hv]at hh;have e1:E.lei 0 v=true:=aX
     replace hh:fS P G _ [.v (.int .u8 ((x.toNat:Nat):Int))] _:=hh;rw[hy]at hh
     rcases dV (j<a9)with h9|h9
     ·have d9:E.lti j a9=true:=aX
      have em:=emul acc oM oM
      obtain⟨q,hq⟩:∃q:Int,acc*16=q:=⟨_,rfl⟩
      rw[hq]at em;have YG:pV u<16777216:=Dx 6 u oM
      have ea:=eadd q v oM oM oM oM
      obtain⟨w,hw⟩:∃w:Int,q+v=w:=⟨_,rfl⟩
      rw[hw]at ea;have ej:=eadd j 1 oM oM oM oM
      have lV:Ku s n a (E.wadd .i64 j 1,w):=by
       rw[ej];refine⟨by omega,by omega,by omega,u++[x],?_,fun c hc=>?_,?_,?_⟩
       ·rw[gG,zH];simp
       ·grind
       ·grind
       ·rw[A8];omega
      have hM:μ (E.wadd .i64 j 1,w)<μ (j,acc):=aX
      clear dA gH aT zT elt ege eple eget eadd emul esub ewrp eenc eenc0 gG gM lB cq MM GJ oO YG vD hx hy zH hv WC hq hw ej hn uk h9 wR kU rU HU es1 es2 il ik;cbv;refine cd ?_;refine .mk (E.wadd .i64 j 1,w) r5 ?_ ?_
      ·exact lV
      ·exact hM
     ·have d9:E.lti j a9=false:=aX
      have w5:decide (y=125)=false:=dF fun h=>by
       have h6:x=125:=cY.1 aX
       rw[h6]at uk
       revert uk
       decide
      have eI:=dA (xdh wR (by rw[gG,zH]) gM oM)
      subst eI;clear dA gH aT zT elt ege eple eget eadd emul esub ewrp eenc eenc0 gG gM lB cq MM GJ oO vD hx hy zH hv WC hn uk h9 wR kU rU HU il ik;exact nP
    |false=>
     rw[F1 uk]at hh;replace hh:fS P G _ [.v (.int .u8 ((x.toNat:Nat):Int))] _:=hh;rw[hy]at hh;have e1:E.lei 0 (-1)=false:=by rw[ege];rfl
     have rE:=SA (c:=x) wR gG gM (.inr ⟨_,zH,uk⟩);rw[zH]at rE;rw[U9]at rE
     rcases dV (x=125)with h5|h5
     ·have w5:decide (y=125)=true:=aA (by rw[<-hy,h5];rfl)
      rcases dV (c2<1)with q1|q1
      ·have f1:E.lti c2 1=true:=aX
       rw[aD (fun h=>by omega)]at rE
       exact Kh
      ·have f1:E.lti c2 1=false:=aX
       rcases dV (6<c2)with q2|q2
       ·have f2:E.lti 6 c2=true:=aX
        rw[aD (fun h=>by omega)]at rE
        exact Kh
       ·have f2:E.lti 6 c2=false:=aX
        rcases dV (1114111<acc)with q3|q3
        ·have f3:E.lti 1114111 acc=true:=aX
         exact X5
        ·have f3:E.lti 1114111 acc=false:=aX
         rcases dV (55296<=acc)with q4|q4
         ·have f4:E.lei 55296 acc=true:=aX
          rcases dV (acc<=57343)with q5|q5
          ·have f5:E.lei acc 57343=true:=aX
           exact X5
          ·have f5:E.lei acc 57343=false:=aX
           exact Xm
         ·have f4:E.lei 55296 acc=false:=aX
          exact Xm
     ·have w5:decide (y=125)=false:=dF fun h=>h5 (cY.1 aX)
      rw[aD (fun h=>h5 h.1)]at rE
      exact Kh
   ·have d1:E.lti j n=false:=aX
    have d2:E.lei n j=true:=aX
    have mT:bB s j=[]:=ja oM
    have rE:=SA (c:=0) wR gG gM (.inl mT);rw[mT]at rE;have eI:=dA rE;subst eI;clear dA gH aT zT elt ege eple eget eadd emul esub ewrp eenc eenc0 gG gM lB cq MM GJ oO vD hn wR kU rU HU il ik rE mT;exact nP
  ·have hr:ng s a=.tup [pS ⟨#[]⟩,pI 0]:=by
    unfold ng;rw[kU,dZ,xD,aD hB]
   rw[hr];refine eZ Tryz.func137 fun P G E hc hE=>?_
   have z1:E.size s=n:=iY
   have elt:=yF hE;have ege:∀a b,E.lei a b=decide (a<=b):=fun a b=>by rw[hE];rfl
   have eple:=uL hE;have eget:∀(i:Int)(c:UInt8)(z:Int),s.data.toList[i.toNat]?=some c->((c.toNat:Nat):Int)=z->E.get s (E.nat i)=some z:=fun i c z h hz=>by
    exact Cd
   have eadd:∀a b:Int,-1000000000<=a->a<=1000000000->-1000000<=b->b<=1000000->E.wadd .i64 a b=a+b:=fun a b h0 h1 h2 h3=>by rw[hE];exact jX oM oM
   have d1:E.lei n a1=false:=aX
   have ei:=eadd a 1 oM oM oM oM
   rw[kU]at ei;have g1:=eget a1 c z eP hz;have p1:=eple 0 a1 oM
   have w1:decide (z=123)=false:=dF fun h=>hB (cY.1 aX)
   clear hE hc elt ege eple eget eadd hn aT hA hr kU eP hz dZ hB;exact nP
def EI(s:ByteArray)(a:Int):PV:=match jV uB (bB s a)with
 |none=>.tup [pS ⟨#[]⟩,pI 0]
 |some p=>.tup [pS (bL p.1),pI ((s.size:Nat)-(p.2.length:Nat)-a)]
theorem DN{s:ByteArray}{a:Int}(h:jV uB (bB s a)=none):EI s a=.tup [pS ⟨#[]⟩,pI 0]:=by unfold EI;rw[h]
theorem pi{s:ByteArray}{a:Int}{t r:Bs}(h:jV uB (bB s a)=some (t,r)):EI s a=.tup [pS (bL t),pI ((s.size:Nat)-(r.length:Nat)-a)]:=by unfold EI;rw[h]
theorem gY{c:UInt8}{z:Int}(hz:((c.toNat:Nat):Int)=z)(k:UInt8)(h:c≠k):decide (z=((k.toNat:Nat):Int))=false:=dF fun e=>h (cY.1 oM)
theorem z0i(s:ByteArray)(a:Int)(h0:0<=a)(h1:a<=(s.size:Nat))(hs:s.size<=100000000):V0 124 [pS s,pI a] (EI s a):=by
 obtain⟨n,hn⟩:∃n:Int,((s.size:Nat):Int)=n:=⟨_,rfl⟩
 rw[hn]at h1;have aT:∀i:Int,0<=i->i<n->∃c,s.data.toList[i.toNat]?=some c:=fun i iH iL=>⟨_,aB cj⟩
 rcases dV (n<=a)with hA|hA
 ·rw[DN (by rw[ja oM];rfl)]
  refine xA aU oF mixed (fun n=>match n with|22=>11|_=>0) Tryz.func124 rfl kR kR rfl fun P G E hc hE=>?_
  have z1:E.size s=n:=iY
  have d1:E.lei n a=true:=by rw[hE];exact aA hA
  clear hE hc hn aT hA;exact nP
 obtain⟨c,eP⟩:=aT a h0 oM
 obtain⟨z,hz⟩:∃z:Int,((c.toNat:Nat):Int)=z:=⟨_,rfl⟩
 have dZ:=uW h0 eP;have fE:=rL s (a+1)
 by_cases e110:c=110
 ·have he:jV uB (bB s a)=some ([10],bB s (a+1)):=by rw[dZ,e110];rfl
  rw[pi he,hn,show n-((bB s (a+1)).length:Nat)-a=1 by omega]
  have f110:decide (z=110)=true:=aA (by rw[<-hz,e110];rfl)
  refine xA aU oF mixed (fun n=>match n with|22=>11|_=>0) Tryz.func124 rfl kR kR rfl fun P G E hc hE=>?_
  have z1:E.size s=n:=iY
  have d1:E.lei n a=false:=gc
  have p1:E.ple 0 a:=xF
  have g1:E.get s (E.nat a)=some z:=by
   exact gd
  clear hE hc hn aT hA eP hz dZ fE he e110;exact nP
 by_cases e116:c=116
 ·have he:jV uB (bB s a)=some ([9],bB s (a+1)):=by rw[dZ,e116];rfl
  rw[pi he,hn,show n-((bB s (a+1)).length:Nat)-a=1 by omega]
  have f110:decide (z=110)=false:=gY hz 110 e110;have f116:decide (z=116)=true:=aA (by rw[<-hz,e116];rfl)
  refine xA aU oF mixed (fun n=>match n with|22=>11|_=>0) Tryz.func124 rfl kR kR rfl fun P G E hc hE=>?_
  have z1:E.size s=n:=iY
  have d1:E.lei n a=false:=gc
  have p1:E.ple 0 a:=xF
  have g1:E.get s (E.nat a)=some z:=by
   exact gd
  clear hE hc hn aT hA eP hz dZ fE he e110 e116;exact nP
 by_cases e114:c=114
 ·have he:jV uB (bB s a)=some ([13],bB s (a+1)):=by rw[dZ,e114];rfl
  rw[pi he,hn,show n-((bB s (a+1)).length:Nat)-a=1 by omega]
  have f110:decide (z=110)=false:=gY hz 110 e110;have f116:decide (z=116)=false:=gY hz 116 e116;have f114:decide (z=114)=true:=aA (by rw[<-hz,e114];rfl)
  refine xA aU oF mixed (fun n=>match n with|22=>11|_=>0) Tryz.func124 rfl kR kR rfl fun P G E hc hE=>?_
  have z1:E.size s=n:=iY
  have d1:E.lei n a=false:=gc
  have p1:E.ple 0 a:=xF
  have g1:E.get s (E.nat a)=some z:=by
   exact gd
  clear hE hc hn aT hA eP hz dZ fE he e110 e116 e114;exact nP
 by_cases e98:c=98
 ·have he:jV uB (bB s a)=some ([8],bB s (a+1)):=by rw[dZ,e98];rfl
  rw[pi he,hn,show n-((bB s (a+1)).length:Nat)-a=1 by omega]
  have f110:decide (z=110)=false:=gY hz 110 e110;have f116:decide (z=116)=false:=gY hz 116 e116;have f114:decide (z=114)=false:=gY hz 114 e114;have f98:decide (z=98)=true:=aA (by rw[<-hz,e98];rfl)
  refine xA aU oF mixed (fun n=>match n with|22=>11|_=>0) Tryz.func124 rfl kR kR rfl fun P G E hc hE=>?_
  have z1:E.size s=n:=iY
  have d1:E.lei n a=false:=gc
  have p1:E.ple 0 a:=xF
  have g1:E.get s (E.nat a)=some z:=by
   exact gd
  clear hE hc hn aT hA eP hz dZ fE he e110 e116 e114 e98;exact nP
 by_cases e92:c=92
 ·have he:jV uB (bB s a)=some ([92],bB s (a+1)):=by rw[dZ,e92];rfl
  rw[pi he,hn,show n-((bB s (a+1)).length:Nat)-a=1 by omega]
  obtain⟨a1,kU⟩:∃x:Int,a+1=x:=⟨_,rfl⟩
  obtain⟨O,hO⟩:∃x,bL [92]=x:=⟨_,rfl⟩
  have hex_:s.extract a.toNat a1.toNat=O:=by
   rw[<-hO];refine yZ ?_;have h6:s.data.toList.drop a.toNat=c::bB s (a+1):=dZ;rw[my,h6,e92,show a1.toNat-a.toNat=1 by omega]
   rfl
  rw[hO];have f110:decide (z=110)=false:=gY hz 110 e110;have f116:decide (z=116)=false:=gY hz 116 e116;have f114:decide (z=114)=false:=gY hz 114 e114;have f98:decide (z=98)=false:=gY hz 98 e98;have f92:decide (z=92)=true:=aA (by rw[<-hz,e92];rfl)
  refine xA aU oF mixed (fun n=>match n with|22=>11|_=>0) Tryz.func124 rfl kR kR rfl fun P G E hc hE=>?_
  have z1:E.size s=n:=iY
  have d1:E.lei n a=false:=gc
  have p1:E.ple 0 a:=xF
  have g1:E.get s (E.nat a)=some z:=by
   exact gd
  have w1:E.wadd .i64 a 1=a1:=xq
  have p2:E.ple a a1:=by rw[hE];show a<=a1;omega
  have p3:E.ple a1 n:=by rw[hE];show a1<=n;omega
  have w2:E.ext s (E.nat a) (E.nat a1)=O:=by rw[hE];exact hex_
  clear hE hc hn aT hA eP hz dZ fE he kU hO hex_ e110 e116 e114 e98 e92;exact nP
 by_cases e34:c=34
 ·have he:jV uB (bB s a)=some ([34],bB s (a+1)):=by rw[dZ,e34];rfl
  rw[pi he,hn,show n-((bB s (a+1)).length:Nat)-a=1 by omega]
  obtain⟨a1,kU⟩:∃x:Int,a+1=x:=⟨_,rfl⟩
  obtain⟨O,hO⟩:∃x,bL [34]=x:=⟨_,rfl⟩
  have hex_:s.extract a.toNat a1.toNat=O:=by
   rw[<-hO];refine yZ ?_;have h6:s.data.toList.drop a.toNat=c::bB s (a+1):=dZ;rw[my,h6,e34,show a1.toNat-a.toNat=1 by omega]
   rfl
  rw[hO];have f110:decide (z=110)=false:=gY hz 110 e110;have f116:decide (z=116)=false:=gY hz 116 e116;have f114:decide (z=114)=false:=gY hz 114 e114;have f98:decide (z=98)=false:=gY hz 98 e98;have f92:decide (z=92)=false:=gY hz 92 e92;have f34:decide (z=34)=true:=aA (by rw[<-hz,e34];rfl)
  refine xA aU oF mixed (fun n=>match n with|22=>11|_=>0) Tryz.func124 rfl kR kR rfl fun P G E hc hE=>?_
  have z1:E.size s=n:=iY
  have d1:E.lei n a=false:=gc
  have p1:E.ple 0 a:=xF
  have g1:E.get s (E.nat a)=some z:=by
   exact gd
  have w1:E.wadd .i64 a 1=a1:=xq
  have p2:E.ple a a1:=by rw[hE];show a<=a1;omega
  have p3:E.ple a1 n:=by rw[hE];show a1<=n;omega
  have w2:E.ext s (E.nat a) (E.nat a1)=O:=by rw[hE];exact hex_
  clear hE hc hn aT hA eP hz dZ fE he kU hO hex_ e110 e116 e114 e98 e92 e34;exact nP
 by_cases e39:c=39
 ·have he:jV uB (bB s a)=some ([39],bB s (a+1)):=by rw[dZ,e39];rfl
  rw[pi he,hn,show n-((bB s (a+1)).length:Nat)-a=1 by omega]
  obtain⟨a1,kU⟩:∃x:Int,a+1=x:=⟨_,rfl⟩
  obtain⟨O,hO⟩:∃x,bL [39]=x:=⟨_,rfl⟩
  have hex_:s.extract a.toNat a1.toNat=O:=by
   rw[<-hO];refine yZ ?_;have h6:s.data.toList.drop a.toNat=c::bB s (a+1):=dZ;rw[my,h6,e39,show a1.toNat-a.toNat=1 by omega]
   rfl
  rw[hO];have f110:decide (z=110)=false:=gY hz 110 e110;have f116:decide (z=116)=false:=gY hz 116 e116;have f114:decide (z=114)=false:=gY hz 114 e114;have f98:decide (z=98)=false:=gY hz 98 e98;have f92:decide (z=92)=false:=gY hz 92 e92;have f34:decide (z=34)=false:=gY hz 34 e34;have f39:decide (z=39)=true:=aA (by rw[<-hz,e39];rfl)
  refine xA aU oF mixed (fun n=>match n with|22=>11|_=>0) Tryz.func124 rfl kR kR rfl fun P G E hc hE=>?_
  have z1:E.size s=n:=iY
  have d1:E.lei n a=false:=gc
  have p1:E.ple 0 a:=xF
  have g1:E.get s (E.nat a)=some z:=by
   exact gd
  have w1:E.wadd .i64 a 1=a1:=xq
  have p2:E.ple a a1:=by rw[hE];show a<=a1;omega
  have p3:E.ple a1 n:=by rw[hE];show a1<=n;omega
  have w2:E.ext s (E.nat a) (E.nat a1)=O:=by rw[hE];exact hex_
  clear hE hc hn aT hA eP hz dZ fE he kU hO hex_ e110 e116 e114 e98 e92 e34 e39;exact nP
 have ht:AR c=none:=by
  unfold AR
  grind
 obtain⟨a1,kU⟩:∃x:Int,a+1=x:=⟨_,rfl⟩
 obtain⟨a2,rU⟩:∃x:Int,a+2=x:=⟨_,rfl⟩
 by_cases e48:c=48
 ·have he:jV uB (bB s a)=if(bB s (a+1)).head?.any eO then none else some ([0],bB s (a+1)):=C3
  have f110:decide (z=110)=false:=gY hz 110 e110;have f116:decide (z=116)=false:=gY hz 116 e116;have f114:decide (z=114)=false:=gY hz 114 e114;have f98:decide (z=98)=false:=gY hz 98 e98;have f92:decide (z=92)=false:=gY hz 92 e92;have f34:decide (z=34)=false:=gY hz 34 e34;have f39:decide (z=39)=false:=gY hz 39 e39;have f48:decide (z=48)=true:=aA (by rw[<-hz,e48];rfl)
  rcases dV (a1<n)with hB|hB
  ·obtain⟨d,rT⟩:=aT a1 oM hB
   obtain⟨y,hy⟩:∃y:Int,((d.toNat:Nat):Int)=y:=⟨_,rfl⟩
   have kc:=uW oM rT
   rw[<-kU]at kc;rw[kc]at he;have oY:=Fd d
   cases hq:eO d with
   |true=>
    rw[hq]at oY;have tJ:jV uB (bB s a)=none:=aX
    rw[DN tJ];exact Xn
   |false=>
    rw[hq]at oY;have tJ:jV uB (bB s a)=some ([0],bB s (a+1)):=aX
    rw[pi tJ,hn,show n-((bB s (a+1)).length:Nat)-a=1 by omega]
    exact Xn
  ·have mT:bB s (a+1)=[]:=ja oM
   rw[mT]at he;have tJ:jV uB (bB s a)=some ([0],[]):=he;rw[pi tJ,hn,show n-((([]:Bs).length:Nat):Int)-a=1 by grind]
   refine xA aU oF mixed (fun n=>match n with|22=>11|_=>0) Tryz.func124 rfl kR kR rfl fun P G E hc hE=>?_
   have z1:E.size s=n:=iY
   have d1:E.lei n a=false:=gc
   have p1:E.ple 0 a:=xF
   have g1:E.get s (E.nat a)=some z:=by
    exact gd
   have w1:E.wadd .i64 a 1=a1:=xq
   have d2:E.lti a1 n=false:=by rw[hE];exact dF hB
   clear hE hc hn aT hA eP hz dZ fE he tJ ht kU rU hB mT e110 e116 e114 e98 e92 e34 e39 e48;exact nP
 by_cases e120:c=120
 ·have he:jV uB (bB s a)=m5 uB (bB s (a+1)):=C3
  have f110:decide (z=110)=false:=gY hz 110 e110;have f116:decide (z=116)=false:=gY hz 116 e116;have f114:decide (z=114)=false:=gY hz 114 e114;have f98:decide (z=98)=false:=gY hz 98 e98;have f92:decide (z=92)=false:=gY hz 92 e92;have f34:decide (z=34)=false:=gY hz 34 e34;have f39:decide (z=39)=false:=gY hz 39 e39;have f48:decide (z=48)=false:=gY hz 48 e48;have f120:decide (z=120)=true:=aA (by rw[<-hz,e120];rfl)
  rcases dV (a2<n)with hB|hB
  ·obtain⟨x1,wE⟩:=aT a1 oM oM
   obtain⟨x2,xG⟩:=aT a2 oM hB
   obtain⟨y1,sF⟩:∃y:Int,((x1.toNat:Nat):Int)=y:=⟨_,rfl⟩
   obtain⟨y2,rO⟩:∃y:Int,((x2.toNat:Nat):Int)=y:=⟨_,rfl⟩
   have GR:=uW oM wE
   have oI:=uW oM xG
   rw[show a1+1=a2 by omega,oI,<- kU]at GR
   rw[GR]at he;have nw:=Dy x1;have mg:=Dy x2;change V0 _ [.v (.int .u8 ((x1.toNat:Nat):Int))] _ at nw;change V0 _ [.v (.int .u8 ((x2.toNat:Nat):Int))] _ at mg;rw[sF]at nw;rw[rO]at mg
   cases r4:iR x1 with
   |false=>
    rw[F1 r4]at nw;have tJ:jV uB (bB s a)=none:=by
     rw[he,m5]
     have:sL x1=none:=by unfold iR at r4;simp_all
     rw[this]
    rw[DN tJ];refine xA aU oF mixed (fun n=>match n with|22=>11|_=>0) Tryz.func124 rfl kR kR rfl fun P G E hc hE=>?_
    have z1:E.size s=n:=iY
    have d1:E.lei n a=false:=gc
    have p1:E.ple 0 a:=xF
    have g1:E.get s (E.nat a)=some z:=by
     exact gd
    replace nw:=hc _ _ _ nw;replace mg:=hc _ _ _ mg;have w1:E.wadd .i64 a 1=a1:=xq
    have w2:E.wadd .i64 a 2=a2:=Bz
    have d2:E.lti a2 n=true:=C0
    have p2:E.ple 0 a1:=C5
    have p3:E.ple 0 a2:=by rw[hE];show 0<=a2;omega
    have g2:E.get s (E.nat a1)=some y1:=by
     exact Jx
    have g3:E.get s (E.nat a2)=some y2:=by
     exact Jw
    have k1:E.lei 0 (-1)=false:=fH
    clear r4 tJ mg hE hc hn aT hA eP hz dZ fE he ht kU rU hB wE xG sF rO GR oI e110 e116 e114 e98 e92 e34 e39 e48 e120;exact nP
   |true=>
    rw[F2 r4]at nw;have uE:=JD x1;obtain⟨v1,qr⟩:∃v,(sL x1).getD 0=v:=⟨_,rfl⟩
    obtain⟨u1,gG⟩:∃u:Int,((v1:Nat):Int)=u:=⟨_,rfl⟩
    rw[qr]at uE;rw[qr,gG]at nw;have xI:sL x1=some v1:=by unfold iR at r4;rw[<-qr];cases h:sL x1 with|none=>grind|some v=>rfl
    cases yQ:iR x2 with
    |false=>
     rw[F1 yQ]at mg;have tJ:jV uB (bB s a)=none:=by
      rw[he,m5]
      have:sL x2=none:=by unfold iR at yQ;simp_all
      rw[this,xI]
     rw[DN tJ];refine xA aU oF mixed (fun n=>match n with|22=>11|_=>0) Tryz.func124 rfl kR kR rfl fun P G E hc hE=>?_
     have z1:E.size s=n:=iY
     have d1:E.lei n a=false:=gc
     have p1:E.ple 0 a:=xF
     have g1:E.get s (E.nat a)=some z:=by
      exact gd
     replace nw:=hc _ _ _ nw;replace mg:=hc _ _ _ mg;have w1:E.wadd .i64 a 1=a1:=xq
     have w2:E.wadd .i64 a 2=a2:=Bz
     have d2:E.lti a2 n=true:=C0
     have p2:E.ple 0 a1:=C5
     have p3:E.ple 0 a2:=by rw[hE];show 0<=a2;omega
     have g2:E.get s (E.nat a1)=some y1:=by
      exact Jx
     have g3:E.get s (E.nat a2)=some y2:=by
      exact Jw
     have k1:E.lei 0 u1=true:=sN
     have k2:E.lei 0 (-1)=false:=fH
     clear r4 yQ tJ uE qr gG xI hE hc hn aT hA eP hz dZ fE he ht kU rU hB wE xG sF rO GR oI e110 e116 e114 e98 e92 e34 e39 e48 e120;exact nP
    |true=>
     rw[F2 yQ]at mg;have jY:=JD x2;obtain⟨v2,y7⟩:∃v,(sL x2).getD 0=v:=⟨_,rfl⟩
     obtain⟨u2,gM⟩:∃u:Int,((v2:Nat):Int)=u:=⟨_,rfl⟩
     rw[y7]at jY;rw[y7,gM]at mg;have D2:sL x2=some v2:=by unfold iR at yQ;rw[<-y7];cases h:sL x2 with|none=>grind|some v=>rfl
     have tJ:jV uB (bB s a)=some (uB (16*v1+v2),bB s (a2+1)):=by rw[he,m5,xI,D2]
     have M0:=rL s (a2+1);obtain⟨O,hO⟩:∃x,bL (uB (16*v1+v2))=x:=⟨_,rfl⟩
     rw[pi tJ,hn,hO,show n-((bB s (a2+1)).length:Nat)-a=3 by omega]
     refine xA aU oF mixed (fun n=>match n with|22=>11|_=>0) Tryz.func124 rfl kR kR rfl fun P G E hc hE=>?_
     have z1:E.size s=n:=iY
     have d1:E.lei n a=false:=gc
     have p1:E.ple 0 a:=xF
     have g1:E.get s (E.nat a)=some z:=by
      exact gd
     replace nw:=hc _ _ _ nw;replace mg:=hc _ _ _ mg;have w1:E.wadd .i64 a 1=a1:=xq
     have w2:E.wadd .i64 a 2=a2:=Bz
     have d2:E.lti a2 n=true:=C0
     have p2:E.ple 0 a1:=C5
     have p3:E.ple 0 a2:=by rw[hE];show 0<=a2;omega
     have g2:E.get s (E.nat a1)=some y1:=by
      exact Jx
     have g3:E.get s (E.nat a2)=some y2:=by
      exact Jw
     have k1:E.lei 0 u1=true:=sN
     have k2:E.lei 0 u2=true:=sN
     obtain⟨m,hm⟩:∃m:Int,16*u1=m:=⟨_,rfl⟩
     obtain⟨t,D1⟩:∃t:Int,m+u2=t:=⟨_,rfl⟩
     have w3:E.wmul .i64 16 u1=m:=by rw[hE,<- hm];exact jX oM oM
     have w4:E.wadd .i64 m u2=t:=by rw[hE,<- D1];exact jX oM oM
     have w5:E.wrap .i32 t=t:=by rw[hE];exact Fu oM oM
     have eenc0:∀x:Int,E.enc x=Utf8.encode x:=fun x=>by rw[hE];rfl
     have w6:E.enc t=O:=by rw[<-hO,S2,eenc0,show((16*v1+v2:Nat):Int)=t by omega]
     clear r4 yQ tJ uE qr gG xI jY y7 gM D2 M0 hO hm D1 eenc0 hE hc hn aT hA eP hz dZ fE he ht kU rU hB wE xG sF rO GR oI e110 e116 e114 e98 e92 e34 e39 e48 e120;exact nP
  ·have hle:=rL s (a+1);have tJ:jV uB (bB s a)=none:=by
    rw[he]
    match hr:bB s (a+1),(show(bB s (a+1)).length<=1 by omega)with
    |[],_=>rfl
    |[_],_=>rfl
    |_::_::_,h=>grind
   rw[DN tJ];refine xA aU oF mixed (fun n=>match n with|22=>11|_=>0) Tryz.func124 rfl kR kR rfl fun P G E hc hE=>?_
   have z1:E.size s=n:=iY
   have d1:E.lei n a=false:=gc
   have p1:E.ple 0 a:=xF
   have g1:E.get s (E.nat a)=some z:=by
    exact gd
   have w1:E.wadd .i64 a 1=a1:=xq
   have w2:E.wadd .i64 a 2=a2:=Bz
   have d2:E.lti a2 n=false:=by rw[hE];exact dF hB
   clear hE hc hn aT hA eP hz dZ fE he tJ ht kU rU hB hle e110 e116 e114 e98 e92 e34 e39 e48 e120;exact nP
 by_cases e117:c=117
 ·have he:jV uB (bB s a)=xD uB (bB s (a+1)):=C3
  have hr:EI s a=ng s a:=by
   unfold EI ng
   grind
  have rE:=z3e s a h0 oM hs
  rw[hr];have XS:∃x y,ng s a=.tup [x,y]:=by
   unfold ng
   grind
  obtain⟨RX,RY,hR⟩:=XS;rw[hR]at rE ⊢;have f110:decide (z=110)=false:=gY hz 110 e110;have f116:decide (z=116)=false:=gY hz 116 e116;have f114:decide (z=114)=false:=gY hz 114 e114;have f98:decide (z=98)=false:=gY hz 98 e98;have f92:decide (z=92)=false:=gY hz 92 e92;have f34:decide (z=34)=false:=gY hz 34 e34;have f39:decide (z=39)=false:=gY hz 39 e39;have f48:decide (z=48)=false:=gY hz 48 e48;have f120:decide (z=120)=false:=gY hz 120 e120;have f117:decide (z=117)=true:=aA (by rw[<-hz,e117];rfl)
  refine xA aU oF mixed (fun n=>match n with|22=>11|_=>0) Tryz.func124 rfl kR kR rfl fun P G E hc hE=>?_
  have z1:E.size s=n:=iY
  have d1:E.lei n a=false:=gc
  have p1:E.ple 0 a:=xF
  have g1:E.get s (E.nat a)=some z:=by
   exact gd
  replace rE:=hc _ _ _ rE;clear hE hc hn aT hA eP hz dZ fE he ht hr hR e110 e116 e114 e98 e92 e34 e39 e48 e120 e117;exact nP
 have he:jV uB (bB s a)=none:=C3
 rw[DN he];have f110:decide (z=110)=false:=gY hz 110 e110;have f116:decide (z=116)=false:=gY hz 116 e116;have f114:decide (z=114)=false:=gY hz 114 e114;have f98:decide (z=98)=false:=gY hz 98 e98;have f92:decide (z=92)=false:=gY hz 92 e92;have f34:decide (z=34)=false:=gY hz 34 e34;have f39:decide (z=39)=false:=gY hz 39 e39;have f48:decide (z=48)=false:=gY hz 48 e48;have f120:decide (z=120)=false:=gY hz 120 e120;have f117:decide (z=117)=false:=gY hz 117 e117;refine xA aU oF mixed (fun n=>match n with|22=>11|_=>0) Tryz.func124 rfl kR kR rfl fun P G E hc hE=>?_
 have z1:E.size s=n:=iY
 have d1:E.lei n a=false:=gc
 have p1:E.ple 0 a:=xF
 have g1:E.get s (E.nat a)=some z:=by
  exact gd
 clear hE hc hn aT hA eP hz dZ fE he ht e110 e116 e114 e98 e92 e34 e39 e48 e120 e117;cbv;exact cd trivial
def ah:ByteArray:=⟨#[57,50,50,51,51,55,50,48,51,54,56,53,52,55,55,53,56,48,55]⟩
def QD(s:ByteArray):Bool:=decide (19<s.size)||(decide (s.size=19)&&!(Op.bytesLess s.toList ah.toList||decide (s=ah)))
theorem z5d(s:ByteArray):V0 100 [pS s] (pB (QD s)):=by
 obtain⟨n,hn⟩:∃n:Int,((s.size:Nat):Int)=n:=⟨_,rfl⟩
 have h1:decide (19<s.size)=decide (19<n):=fX.2 oM
 have h2:decide (s.size=19)=decide (n=19):=fX.2 oM
 unfold QD;rw[h1,h2];obtain⟨b1,e1⟩:∃b,decide (19<n)=b:=⟨_,rfl⟩
 obtain⟨b2,e2⟩:∃b,decide (n=19)=b:=⟨_,rfl⟩
 obtain⟨b3,e3⟩:∃b,Op.bytesLess s.toList ah.toList=b:=⟨_,rfl⟩
 obtain⟨b4,e4⟩:∃b,decide (s=ah)=b:=⟨_,rfl⟩
 rw[e1,e2,e3,e4]
 cases b1<;>cases b2<;>cases b3<;>cases b4
 all_goals
  refine eZ Tryz.func100 fun P G E hc hE=>?_
  have z1:E.size s=n:=iY
  have z2:E.size ah=19:=fH
  have k1:E.lti 19 n=decide (19<n):=fH
  rw[e1]at k1;have k3:E.lt s ah=Op.bytesLess s.toList ah.toList:=fH
  rw[e3]at k3;have k4:E.eq s ah=decide (s=ah):=fH
  rw[e4]at k4;clear hE hc hn h1 h2 e1 e3 e4;unfold ah at z2 k3 k4;cbv at z2 k3 k4;exact nP
theorem Gw{l t r:Bs}(h:jV uB l=some (t,r)):t.length<=4:=by
 have hu:∀n:Nat,(uB n).length<=4:=fun n=>OU (n:Int)
 cases l with
 |nil=>cases h
 |cons c l=>
  rw[jV]at h
  cases ht:AR c with
  |some d=>
   grind
  |none=>
   rw[ht]at h;simp only at h
   split at h
   ·grind
   ·split at h
    ·match l,h with
     |x::y::l,h=>
      rw[m5]at h
      grind
    ·split at h
     ·match l,h with
      |x::l,h=>
       rw[xD]at h
       grind
     ·cases h
structure Ks(s:ByteArray)(x:ByteArray×Nat):Prop where
 acc:x.1.data.toList++fR (s.data.toList.drop x.2)=fR s.data.toList
 sz:x.1.size<=4*x.2
theorem TV(r:Int):(Utf8.encode r).size<=4:=by
 have h:=OU r;have e:(encL r).length=(Utf8.encode r).size:=rfl;omega
theorem Qc(s acc:ByteArray)(pos:Nat)(hp:¬pos<s.size)(h:acc.data.toList++fR (s.data.toList.drop pos)=fR s.data.toList):acc=cb s:=by
 have hd:s.data.toList.drop pos=[]:=vV cj
 rw[hd,show fR []=[]from rfl,cB]at h;refine yZ ?_;rw[h];rfl
theorem zvk(s:ByteArray)(hs:s.size<=8000000):V0 123 [pS s] (pS (cb s)):=by
 obtain⟨R,hR⟩:∃x,cb s=x:=⟨_,rfl⟩
 rw[hR];obtain⟨n,hn⟩:∃n:Int,((s.size:Nat):Int)=n:=⟨_,rfl⟩
 obtain⟨μ,hμ⟩:∃μ:ByteArray×Nat->Nat,∀x,μ x=s.size-x.2:=⟨_,fun _=>rfl⟩
 have jR:Ks s (⟨#[]⟩,0):=⟨rfl,nR _⟩;refine eZ Tryz.func123 fun P G E hc hE=>?_
 have z1:E.size s=n:=iY
 have elt:∀p:Nat,E.lti (E.ofN p) n=decide (p<s.size):=fun p=>by
  rw[hE,<- hn];show decide (((p:Nat):Int)<((s.size:Nat):Int))=_
  grind
 have eadd:∀p,E.addN p (E.decW s p)=p+(Utf8.decode s p).2:=fun p=>by rw[hE];rfl
 have ecat:∀a b:ByteArray,a.size<=100000000->b.size<=100000000->E.cat a b:=fun a b h1 h2=>by rw[hE];show((a.size:Nat):Int)+((b.size:Nat):Int)<=_;omega
 have eenc0:∀x:Int,E.enc x=Utf8.encode x:=fun x=>by rw[hE];rfl
 have edec:∀p:Nat,E.decR s p=(((Utf8.decode s p).1:Nat):Int):=fun p=>by rw[hE];rfl
 have eenc:∀p,E.enc (E.decR s p)=Utf8.encode ((Utf8.decode s p).1:Int):=fun p=>by rw[eenc0,edec]
 have eadd0:∀a b,E.add a b=a++b:=fun a b=>by rw[hE];rfl
 have eapp:∀a p,E.add a (E.enc (E.decR s p))=a++Utf8.encode ((Utf8.decode s p).1:Int):=fun a p=>by rw[eenc,eadd0]
 clear hE hc;cbv;refine gV 16 [0,3,7] 1 (fun x:ByteArray×Nat=>[.p (pS s),.p (pS x.1),.own 0 0]) (fun x=>[some (.iter s x.2)]) (Ks s) μ (⟨#[]⟩,0) r5 jR ?_
 clear jR
 rintro⟨acc,pos⟩ ⟨h1,h2⟩
 simp only at h1 h2;have d1:=elt pos
 rcases dV (pos<s.size)with hp|hp
 ·rw[aA hp]at d1;obtain⟨r,wd,hd⟩:∃r wd,Utf8.decode s pos=(r,wd):=⟨_,_,rfl⟩
  have hw:1<=wd:=by
   exact Wl
  have mR:=z7u s pos r wd acc (fR s.data.toList) hp hd h1;have Dg:=TV (r:Int);have hx:E.addN pos (E.decW s pos)=pos+wd:=by rw[eadd,hd]
  have hy:E.add acc (E.enc (E.decR s pos))=acc++Utf8.encode (r:Int):=by rw[eapp,hd]
  have hz:E.enc (E.decR s pos)=Utf8.encode (r:Int):=by rw[eenc,hd]
  have wR:E.cat acc (E.enc (E.decR s pos)):=ecat _ _ oM (by rw[hz];omega)
  have lV:Ks s (E.add acc (E.enc (E.decR s pos)),E.addN pos (E.decW s pos)):=by
   rw[hx,hy];refine⟨mR,?_⟩
   grind
  have hM:μ (E.add acc (E.enc (E.decR s pos)),E.addN pos (E.decW s pos))<μ (acc,pos):=by
   grind
  clear mR Dg hx hy hz elt eadd ecat eenc eapp eenc0 edec eadd0;cbv;refine cd ?_;refine .mk (E.add acc (E.enc (E.decR s pos)),E.addN pos (E.decW s pos)) r5 ?_ ?_
  ·exact lV
  ·exact hM
 ·rw[dF hp]at d1
  have:=Qc s acc pos hp h1
  rw[hR]at this;subst this;clear elt eadd ecat eenc eapp hR eenc0 edec eadd0;exact nP
def QA(s:ByteArray)(a:Int)(q:UInt8):PV:=match lit uB q (bB s (a+1))with
 |none=>.tup [pS ⟨#[]⟩,pI 0]
 |some p=>.tup [pS (cb (bL p.1)),pI ((s.size:Nat)-(p.2.length:Nat)-a)]
structure xw(s:ByteArray)(n a:Int)(q:UInt8)(R:Option (Bs×Bs))(x:Int×ByteArray):Prop where
 j0:a+1<=x.1
 j1:x.1<=n
 sz:((x.2.size:Nat):Int)<=4*(x.1-a)
 eq:R=(lit uB q (bB s x.1)).map fun z=>(x.2.data.toList++z.1,z.2)
theorem zs6(s:ByteArray)(a:Int)(q:UInt8)(h0:0<=a)(hq:s.data.toList[a.toNat]?=some q)(hs:s.size<=1500000):V0 101 [pS s,pI a] (QA s a q):=by
 obtain⟨n,hn⟩:∃n:Int,((s.size:Nat):Int)=n:=⟨_,rfl⟩
 have h1:a<n:=by
  exact LZ
 have aT:∀i:Int,0<=i->i<n->∃c,s.data.toList[i.toNat]?=some c:=fun i iH iL=>⟨_,aB cj⟩
 obtain⟨a1,kU⟩:∃x:Int,a+1=x:=⟨_,rfl⟩
 obtain⟨RV,eI⟩:∃x,QA s a q=x:=⟨_,rfl⟩
 rw[eI];obtain⟨RL,aa⟩:∃x,lit uB q (bB s (a+1))=x:=⟨_,rfl⟩
 have dA:RL=none->RV=.tup [pS ⟨#[]⟩,pI 0]:=fun h=>by
  rw[<-eI];unfold QA;rw[aa,h]
 have gH:∀t r',RL=some (t,r')->RV=.tup [pS (cb (bL t)),pI (n-(r'.length:Nat)-a)]:=fun t r' h=>by
  rw[<-eI];unfold QA;rw[aa,h,<- hn]
 obtain⟨μ,hμ⟩:∃μ:Int×ByteArray->Nat,∀x,μ x=2000000000-x.1.toNat:=⟨_,fun _=>rfl⟩
 have jR:xw s n a q RL (a1,⟨#[]⟩):=⟨by omega,by omega,by show(0:Int)<=4*(a1-a);omega,by
  simp_all⟩
 obtain⟨zq,eJ⟩:∃z:Int,((q.toNat:Nat):Int)=z:=⟨_,rfl⟩
 have xY:=fun(i:Int)(h0:0<=i)(h1:i<=n)=>z0i s i h0 oM oM
 have gR:=fun(t:ByteArray)(h:t.size<=8000000)=>zvk t h
 refine eZ Tryz.func101 fun P G E hc hE=>?_
 replace xY:=fun(i:Int)(h0:0<=i)(h1:i<=n)=>hc _ _ _ (xY i h0 h1)
 replace gR:=fun(t:ByteArray)(h:t.size<=8000000)=>hc _ _ _ (gR t h)
 have z1:E.size s=n:=iY
 have elt:=yF hE;have eple:=uL hE;have eget:∀(i:Int)(c:UInt8)(z:Int),s.data.toList[i.toNat]?=some c->((c.toNat:Nat):Int)=z->E.get s (E.nat i)=some z:=fun i c z h hz=>by
  exact MA
 have eadd:=ub hE;have esub:∀a b:Int,-1000000000<=a->a<=1000000000->-1000000000<=b->b<=1000000000->E.wsub .i64 a b=a-b:=fun a b h0 h1 h2 h3=>by rw[hE];exact jX oM oM
 have ecat:∀a b:ByteArray,a.size<=100000000->b.size<=100000000->E.cat a b:=fun a b h1 h2=>by rw[hE];show((a.size:Nat):Int)+((b.size:Nat):Int)<=_;omega
 have ejoin:∀a b,E.add a b=a++b:=fun a b=>by rw[hE];rfl
 have eext:∀i j:Int,E.ext s (E.nat i) (E.nat j)=s.extract i.toNat j.toNat:=fun i j=>by rw[hE];rfl
 have ei:=eadd a 1 oM oM oM oM
 rw[kU]at ei;have g0:=eget a q zq hq eJ;have p0:=eple 0 a h0;clear hE hc;cbv;refine cd ?_;refine gV 66 [0,1,6,7,8] 0 (fun x:Int×ByteArray=>[.p (pS s),.p (pI a),.p (.v (.int .u8 zq)),.p (pS x.2),.p (pI x.1)]) (fun _=>[]) (xw s n a q RL) μ (a1,⟨#[]⟩) r5 jR ?_
 clear jR
 rintro⟨j,out⟩ ⟨j0,j1,dR,iZ⟩
 simp only at j0 j1 dR iZ;replace hn:((s.size:Nat):Int)=n:=hn;replace dR:((out.size:Nat):Int)<=4*(j-a):=dR;replace eJ:((q.toNat:Nat):Int)=zq:=eJ;have Yd:n<=1500000:=eC
 rcases dV (j<n)with cQ|cQ
 ·have d1:E.lti j n=true:=aX
  obtain⟨c,eP⟩:=aT j oM cQ
  obtain⟨z,hz⟩:∃z:Int,((c.toNat:Nat):Int)=z:=⟨_,rfl⟩
  have g1:=eget j c z eP hz;have p1:=eple 0 j oM
  have dZ:=uW oM eP
  obtain⟨j2,oL⟩:∃x:Int,j+1=x:=⟨_,rfl⟩
  have ej:=eadd j 1 oM oM oM oM
  rw[oL]at ej;rw[dZ,oL]at iZ;have fE:=rL s j2
  rcases dV (c=q)with pP|pP
  ·
   rw[pP,Ai]at iZ;have hv:=gH _ _ iZ;rw[cB,S1]at hv;have es:=esub j2 a oM oM oM oM
   obtain⟨g,hg⟩:∃x:Int,j2-a=x:=⟨_,rfl⟩
   rw[hg]at es;have pO:n-((bB s j2).length:Nat)-a=g:=eC
   rw[pO]at hv;have hr:=gR out oM
   obtain⟨O,hO⟩:∃x,cb out=x:=⟨_,rfl⟩
   rw[hO]at hr hv;have w1:decide (z=zq)=true:=aA aX
   subst hv;clear dA gH aT xY gR elt eple eget eadd esub ecat ejoin eext iZ fE dZ eP hz pP hO hg pO eI aa g0 eJ hq hn dR;cbv;exact cd trivial
  ·have w1:decide (z=zq)=false:=dF (by
    intro h;exact pP (cY.1 oM))
   have sH:∀k:UInt8,c≠k->decide (z=((k.toNat:Nat):Int))=false:=fun k h=>gY hz k h
   rcases dV (c=10\/c=13)with hb|hb
   ·rw[F9 _ _ pP hb]at iZ;have hv:=dA iZ;subst hv
    rcases dV (c=10)with fh|fh
    ·have w2:decide (z=10)=true:=aA (by rw[<-hz,fh];rfl)
     clear dA gH aT xY gR elt eple eget eadd esub ecat ejoin eext iZ fE dZ eP hz pP eI aa g0 eJ hq hn dR sH hb fh;exact nP
    ·have YR:c=13:=hb.resolve_left fh;have w2:decide (z=10)=false:=sH 10 fh;have w3:decide (z=13)=true:=aA (by rw[<-hz,YR];rfl)
     clear dA gH aT xY gR elt eple eget eadd esub ecat ejoin eext iZ fE dZ eP hz pP eI aa g0 eJ hq hn dR sH hb fh YR;exact nP
   ·have w2:decide (z=10)=false:=sH 10 (fun e=>hb (.inl e))
    have w3:decide (z=13)=false:=sH 13 (fun e=>hb (.inr e))
    rcases dV (c=92)with ab|ab
    ·have w4:decide (z=92)=true:=aA (by rw[<-hz,ab];rfl)
     have he:=xY j2 oM oM
     cases zU:jV uB (bB s j2)with
     |none=>
      rw[Fk _ pP hb ab zU]at iZ;have hv:=dA iZ;subst hv;rw[DN zU]at he;clear dA gH aT xY gR elt eple eget eadd esub ecat ejoin eext iZ fE dZ eP hz pP eI aa g0 eJ hq hn dR sH hb ab zU;exact nP
     |some p=>
      obtain⟨t,r⟩:=p;rw[pi zU,hn]at he;have ib:=JI uB zU;simp only at ib;obtain⟨u,gG,gM,lB⟩:=ZW uB zU;have h4:=Gw zU;rw[Aj _ pP hb ab zU]at iZ;simp only at iZ;obtain⟨m,hm⟩:∃x:Int,n-(r.length:Nat)-j2=x:=⟨_,rfl⟩
      rw[hm]at he;have yl:0<m:=eC
      have w5:decide (m=0)=false:=dF oM
      have dH:r=bB s (j+(m+1)):=by
       have e1:bB s j2=s.data.toList.drop j2.toNat:=rfl;have e2:s.data.toList.drop (j+(m+1)).toNat=(s.data.toList.drop j2.toNat).drop m.toNat:=by
        rw[zD]
        grind
       show r=s.data.toList.drop (j+(m+1)).toNat;rw[e2,<- e1,gM];have e3:u.length=m.toNat:=by
        grind
       grind
      rw[dH]at iZ;have em:=eadd m 1 oM oM oM oM
      obtain⟨m2,kS⟩:∃x:Int,m+1=x:=⟨_,rfl⟩
      rw[kS]at em iZ dH;have ejm:=eadd j m2 oM oM oM oM
      obtain⟨j3,XM⟩:∃x:Int,j+m2=x:=⟨_,rfl⟩
      rw[XM]at ejm iZ dH;obtain⟨T,hT⟩:∃x,bL t=x:=⟨_,rfl⟩
      have jZ:T.data.toList=t:=by rw[<-hT];unfold bL;simp
      have bo:T.size<=4:=by
       exact Jq
      rw[hT]at he;have p2:=ecat out T oM oM
      have ejo:=ejoin out T;obtain⟨O,hO⟩:∃x,out++T=x:=⟨_,rfl⟩
      rw[hO]at ejo;have YK:O.data.toList=out.data.toList++t:=Un
      have Mr:O.size=out.size+T.size:=aX
      have qw:r.length<=s.size:=eC
      have lV:xw s n a q RL (j3,O):=by
       refine⟨by omega,by omega,by grind,?_⟩
       rw[iZ,YK,yT]
       congr 1
       grind
      have hM:μ (j3,O)<μ (j,out):=by
       grind
      clear dA gH aT xY gR elt eple eget eadd esub ecat ejoin eext iZ fE dZ eP hz pP eI aa g0 eJ hq hn dR sH hb ab zU ib gG gM lB h4 hm yl dH kS XM hT jZ bo hO YK Mr qw;cbv;refine cd ?_;refine .mk (j3,O) r5 ?_ ?_
      ·exact lV
      ·exact hM
    ·have w4:decide (z=92)=false:=sH 92 ab;rw[Ah _ _ pP hb ab]at iZ;obtain⟨T,hT⟩:∃x,s.extract j.toNat j2.toNat=x:=⟨_,rfl⟩
     have jZ:T.data.toList=[c]:=by
      rw[<-hT,my];have e1:s.data.toList.drop j.toNat=bB s j:=rfl;rw[e1,dZ,show j2.toNat-j.toNat=1 by omega]
      rfl
     have bo:T.size=1:=by
      exact Jq
     have ex:=eext j j2;rw[hT]at ex;have p2:=ecat out T oM oM
     have ejo:=ejoin out T;obtain⟨O,hO⟩:∃x,out++T=x:=⟨_,rfl⟩
     rw[hO]at ejo;have YK:O.data.toList=out.data.toList++[c]:=Un
     have Mr:O.size=out.size+T.size:=aX
     have p3:=eple j j2 oM
     have p4:=eple j2 n oM
     have lV:xw s n a q RL (j2,O):=by
      refine⟨by omega,by omega,by grind,?_⟩
      rw[iZ,YK,yT]
      congr 1
      funext z
      simp
     have hM:μ (j2,O)<μ (j,out):=by
      grind
     clear dA gH aT xY gR elt eple eget eadd esub ecat ejoin eext iZ fE dZ eP hz pP eI aa g0 eJ hq hn dR sH hb ab hT jZ bo hO YK Mr;cbv;refine cd ?_;refine .mk (j2,O) r5 ?_ ?_
     ·exact lV
     ·exact hM
 ·have d1:E.lti j n=false:=aX
  rw[ja oM,O2]at iZ
  have hv:=dA iZ;subst hv;clear dA gH aT xY gR elt eple eget eadd esub ecat ejoin eext iZ eI aa g0 eJ hq hn dR;exact nP
def dw(l:List ByteArray):List (List PV):=l.map fun s=>[pS s]
theorem ztz:V0 122 [] (.ro 1 (dw lH)):=by
 refine eZ Tryz.func122 fun P G E hc hE=>?_
 have p1:E.pre 0 28 (dw lH):=by rw[hE];exact nR 28
 have t3:E.sub (dw lH) 0 28=dw lH:=fH
 exact Ce
structure L4(s:ByteArray)(R:Bool)(i:Int):Prop where
 i0:0<=i
 i1:i<=28
 an:(lH.drop i.toNat).any (fun x=>decide (x=s))=R
theorem z2u(s:ByteArray):V0 99 [pS s] (pB (mq s.data.toList)):=by
 have hk:=ztz;obtain⟨R,hR⟩:∃R,lH.any (fun x=>decide (x=s))=R:=⟨_,rfl⟩
 have cW:mq s.data.toList=R:=by
  rw[T6,<- hR]
  grind
 rw[cW];have hl:(dw lH).length=28:=rfl;have hg:∀(k:Nat) x,lH[k]?=some x->(dw lH)[k]?=some [pS x]:=fun k x h=>by
  unfold dw
  grind
 have xH:L4 s R 0:=⟨bT _,by decide,hR⟩
 have lI:lH.length=28:=rfl;obtain⟨μ,hμ⟩:∃μ:Int->Nat,∀i,μ i=200000-i.toNat:=⟨_,fun _=>rfl⟩
 generalize dw lH=F at *;refine eZ Tryz.func99 fun P G E hc hE=>?_
 replace hk:=hc _ _ _ hk;have elt:=yF hE;have enat:∀i,E.nat i=i.toNat:=fun i=>by rw[hE];rfl
 have eple:=uL hE;have eeq:∀a b,E.eq a b=decide (a=b):=fun a b=>by rw[hE];rfl
 have eadd:∀a b:Int,-1000000<=a->a<=1000000->-1000000<=b->b<=1000000->E.wadd .i64 a b=a+b:=fun a b h0 h1 h2 h3=>by rw[hE];exact jX oM oM
 have v1:E.ofN 28=28:=fH
 clear hE hc;cbv at hl;cbv;refine cd ?_;refine gV 18 [0,3,4] 0 (fun i:Int=>[.p (pS s),.p (.ro 1 F),.p (pI i)]) (fun _=>[]) (L4 s R) μ 0 r5 xH ?_
 clear xH;intro i hI;have i0:=hI.i0;have i1:=hI.i1
 rcases dV (i<28)with cQ|cQ
 ·have d1:E.lti i 28=true:=aX
  replace lI:lH.length=28:=lI;obtain⟨x,hx⟩:∃x,lH[i.toNat]?=some x:=⟨_,aB oM⟩
  have g1:=hg _ x hx;rw[<-enat]at g1;have p1:=eple 0 i i0;have ei:=eadd i 1 oM oM oM oM
  have hM:μ (E.wadd .i64 i 1)<μ i:=aX
  have mi:lH.drop i.toNat=x::lH.drop (i+1).toNat:=by
   have uH:=(aC.1 hx).1;rw[cU uH,show(i+1).toNat=i.toNat+1 by omega]
   grind
  have HS:=hI.an;rw[mi,NC]at HS
  rcases dV (x=s)with zG|zG
  ·have w1:E.eq x s=true:=aX
   rw[aA zG,dP]at HS;subst HS;clear hg elt enat eple eeq eadd mi hx zG ei;exact nP
  ·have w1:E.eq x s=false:=aX
   rw[dF zG,bI]at HS;have lV:L4 s R (E.wadd .i64 i 1):=by rw[ei];exact⟨by omega,by omega,HS⟩
   clear hg elt enat eple eeq eadd mi hx zG ei;exact VE
 ·have d1:E.lti i 28=false:=aX
  have HS:=hI.an
  have:i=28:=eC
  subst this;have h5:R=false:=by rw[<-HS];rfl
  subst h5;clear hg elt enat eple eeq eadd;exact nP
end Go.Proofs.YtjkcdcloomkooaaGreatDoor
