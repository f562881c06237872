/- Own work: walks and laws of the parser and its reference. -/
import Derived.Test.YtjkcdcloomkooaaGreatDoorQYY
import Derived.Test.YtjkcdcloomkooaaGreatDoorQYR
set_option linter.unusedVariables false
set_option linter.unusedSimpArgs false
set_option linter.unusedSectionVars false
set_option maxHeartbeats 8000000
set_option maxRecDepth 100000
namespace Go.Proofs.YtjkcdcloomkooaaGreatDoor
open Go.RowKit
def vl(k:Int):Bool×Bool×Bool:=
 if k<1\/42<k then(true,true,true)else if k=5 then(false,true,false)else if k=11\/k=31 then(true,false,true)else if k=12\/k=13\/k=14\/k=16\/k=17 then(false,false,true)
 else if k=6\/k=7\/k=18\/k=38\/k=40\/k=41 then(true,false,false)else(false,false,false)
mutual
def tc:PT->PT->Bool
 | .mk k n i o ks,.mk k' n' i' o' ks'=>(decide (k=k')&&(!(vl k).1||decide (n=n'))&&(!(vl k).2.1||decide (i=i'))&&(!(vl k).2.2||decide (o=o')))&&(decide (ks.length=ks'.length)&&CV ks ks')
def CV:List PT->List PT->Bool
 |k::ks,k'::ks'=>tc k k'&&CV ks ks'
 |_,_=>true
end
mutual
theorem Pf:∀x:PT,tc x x=true
 | .mk k n i o ks=>by
  rw[tc,Pe ks];simp
theorem Pe:∀x:List PT,CV x x=true
 |[]=>rfl
 |k::ks=>by rw[CV,Pf k,Pe ks];rfl
end
theorem z7j:∀dk b1 dn b2 di b3 dq:Bool,((dk=false\/(dk=true/\b1=true/\dn=false)\/(dk=true/\b1=false/\b2=true/\di=false)\/(dk=true/\b1=true/\dn=true/\b2=true/\di=false)\/(dk=true/\b1=false/\b2=false/\b3=true/\dq=false)\/(dk=true/\b1=true/\dn=true/\b2=false/\b3=true/\dq=false)\/(dk=true/\b1=false/\b2=true/\di=true/\b3=true/\dq=false)\/(dk=true/\b1=true/\dn=true/\b2=true/\di=true/\b3=true/\dq=false))/\(dk&&(!b1||dn)&&(!b2||di)&&(!b3||dq))=false) ∨
 (dk=true/\(b1=false\/b1=true/\dn=true)/\(b2=false\/b2=true/\di=true)/\(b3=false\/b3=true/\dq=true)/\(dk&&(!b1||dn)&&(!b2||di)&&(!b3||dq))=true):=by
 simp_all
structure Cl(ks ks':List PT)(q:Bool)(x:Int×List PT×List PT):Prop where
 d:ks.drop x.1.toNat=x.2.1
 d':ks'.drop x.1.toNat=x.2.2
 i0:0<=x.1
 i1:x.1+((x.2.1.length:Nat):Int)=((ks.length:Nat):Int)
 le:x.2.1.length=x.2.2.length
 q:CV x.2.1 x.2.2=q
theorem Rm{k:Int}{b1 b2 b3:Bool}(h0:1<=k)(h1:k<=42)(h:∀(P:Program)(G:World->Prop)(E:SO),E.lti k 1=false->E.lti 42 k=false->tC P G E cO (fun _=>0) (Tryz.f21.body.getD .skip) (jG E cO Tryz.f21.results.toList (.tup [pB b1,pB b2,pB b3])) (([pI k]:List PV).map .p++List.replicate (34-([pI k]:List PV).length) (.p (.v undef))) []):V0 21 [pI k] (.tup [pB b1,pB b2,pB b3]):=by
 refine eZ Tryz.func21 fun P G E hc hE=>?_
 exact h P G E sE sE
theorem z2c{k:Int}{b1 b2 b3:Bool}(h:vl k=(b1,b2,b3)):V0 21 [pI k] (.tup [pB b1,pB b2,pB b3]):=by
 by_cases hv:k=5\/k=11\/k=31\/k=12\/k=13\/k=14\/k=16\/k=17\/k=6\/k=7\/k=18\/k=38\/k=40\/k=41
 ·refine Rm oM oM fun P G E d1 d2=>?_
  rcases hv with rfl|rfl|rfl|rfl|rfl|rfl|rfl|rfl|rfl|rfl|rfl|rfl|rfl|rfl
  all_goals
   cases h
   cbv
   repeat (first|(simp only[d1];try cbv)|(simp only[d2];try cbv))
 ·simp only[CL]at hv;obtain⟨v5,v11,v31,v12,v13,v14,v16,v17,v6,v7,v18,v38,v40,v41⟩:=hv
  rcases(show k<1\/42<k\/(1<=k/\k<=42) by omega)with hk|hk|⟨ri,zQ⟩
  ·unfold vl at h;rw[aF (.inl hk)]at h
   cases h
   refine eZ Tryz.func21 fun P G E hc hE=>?_
   have d1:E.lti k 1=true:=by rw[hE];exact aA hk
   clear hc hE;exact Kj
  ·unfold vl at h;rw[aF (.inr hk)]at h
   cases h
   refine eZ Tryz.func21 fun P G E hc hE=>?_
   have d1:E.lti k 1=false:=sE
   have d2:E.lti 42 k=true:=by rw[hE];exact aA hk
   clear hc hE;exact Kj
  ·have e:vl k=(false,false,false):=by
    unfold vl
    grind
   rw[e]at h
   cases h
   refine Rm ri zQ fun P G E d1 d2=>?_
   exact Kj
mutual
def bU:PT->List PV
 | .mk k nm i o ks=>[pI k,pS (bL nm),pI i,pI o,.ro 5 (bW ks)]
def bW:List PT->List (List PV)
 |[]=>[]
 |k::ks=>bU k::bW ks
end
theorem na:∀a:List PT,(bW a).length=a.length
 |[]=>by rfl
 |x::a=>by rw[bW,qQ,qQ,na a]
theorem AK:∀(ps:List PT)(i:Nat),(bW ps)[i]?=ps[i]?.map bU
 |[],i=>by rw[bW];simp
 |p::ps,0=>by rfl
 |p::ps,i+1=>by rw[bW,cD,cD,AK ps i]
theorem iT(x:PT):∃k i o nm R,bU x=[pI k,pS nm,pI i,pI o,.ro 5 R]:=by
 cases x with
 |mk k nm i o ks=>exact⟨k,i,o,bL nm,bW ks,by rw[bU]⟩
theorem Cl.next{ks ks':List PT}{q:Bool}{j j2:Int}{z z':PT}{l l':List PT}(h:Cl ks ks' q (j,z::l,z'::l'))(hj:j+1=j2)(hs:tc z z'=true):Cl ks ks' q (j2,l,l')/\ks[j.toNat]?=some z/\ks'[j.toNat]?=some z':=by
 obtain⟨g1,g2,g3,g4,g5,g6⟩:=h;have e:j2.toNat=j.toNat+1:=eC
 refine⟨⟨by rw[e,<- zD,g1];rfl,by rw[e,<- zD,g2];rfl,by omega,by grind,by simpa using g5,by rw[<-g6,CV,hs,bO]⟩,?_,?_⟩
 ·exact K5
 ·have:=aG (fun r:List PT=>r[0]?) g2
  grind
section
variable{P:Program}{G:World->Prop}{E:SO}{k i o k' i' o' M M':Int}{T T':ByteArray}{KK KK':PV}{b1 b2 b3 dk dn di dq dl:Bool}{HI:Prop}
abbrev LC(k i o k' i' o':Int)(T T':ByteArray)(KK KK':PV):AH:=[some (.box [.p (pI k),.p (pS T),.p (pI i),.p (pI o),.p KK] 25 none),some (.box [.p (pI k'),.p (pS T'),.p (pI i'),.p (pI o'),.p KK'] 25 none)]
abbrev rsH(P:Program)(G:World->Prop)(E:SO)(k i o k' i' o':Int)(T T':ByteArray)(KK KK':PV)(HI:Prop)(q:Bool):Prop:=
 tC P G E cO (fun _=>0) (wW 2 (Tryz.f8.body.getD .skip)) (nI (mC 77 [2,3,4] 2 (fun _:Unit=>[.own 0 0,.own 1 0,.p (pB false)]) (fun _=>LC k i o k' i' o' T T' KK KK') (fun _=>HI)) (jG E cO Tryz.f8.results.toList (pB q)))
  (([.agg [pI k,pS T,pI i,pI o,KK],.agg [pI k',pS T',pI i',pI o',KK']]:List PV).map .p++List.replicate (77-([.agg [pI k,pS T,pI i,pI o,KK],.agg [pI k',pS T',pI i',pI o',KK']]:List PV).length) (.p (.v undef))) []
abbrev Bg(P:Program)(G:World->Prop)(E:SO)(k i o k' i' o':Int)(T T':ByteArray)(KK KK':PV)(HI:Prop)(q:Bool):Prop:=
 tC P G E cO (fun _=>0) (wW 2 (l8 2 (Tryz.f8.body.getD .skip))) (nI (mC 77 [2,3,4] 2 (fun _:Unit=>[.own 0 0,.own 1 0,.p (pB false)]) (fun _=>LC k i o k' i' o' T T' KK KK') (fun _=>HI)) (jG E cO Tryz.f8.results.toList (pB q)))
  (rB [2,3,4] [.own 0 0,.own 1 0,.p (pB false)] 77 0) (LC k i o k' i' o' T T' KK KK')
theorem Ib{q:Bool}{R R':List (List PV)}(l0:E.ofN R.length=M)(l1:E.ofN R'.length=M')(ka:decide (k=k')=dk)(jJ:decide (M=M')=dl)(h:dk=false\/dk=true/\dl=false\/dk=true/\dl=true)(hq:(dk&&dl)=false->false=q)(hI:(dk&&dl)=true->HI):rsH P G E k i o k' i' o' T T' (.ro 5 R) (.ro 5 R') HI q:=by
 cbv at l0;cbv at l1
 rcases h with rfl|⟨rfl,rfl⟩|⟨rfl,rfl⟩
 ·have gw:=hq rfl;subst gw;exact FX
 ·have gw:=hq rfl;subst gw;exact FX
 ·replace hI:=hI rfl;cbv;refine ay ?_;exact .mk () r5 hI
section
variable(h1:fS P G 21 [pI k] (.tup [pB b1,pB b2,pB b3]))(ok:al (.p KK)=true)(ok':al (.p KK')=true)(e2:E.eq T T'=dn)(rT:decide (i=i')=di)(xZ:decide (o=o')=dq)
include h1 ok ok' e2 rT xZ
theorem x5(h:(b1=true/\dn=false)\/(b1=false/\b2=true/\di=false)\/(b1=true/\dn=true/\b2=true/\di=false)\/(b1=false/\b2=false/\b3=true/\dq=false)):Bg P G E k i o k' i' o' T T' KK KK' HI false:=by
 cbv at ok;cbv at ok'
 rcases h with⟨rfl,rfl⟩|⟨rfl,rfl,rfl⟩|⟨rfl,rfl,rfl,rfl⟩|⟨rfl,rfl,rfl,rfl⟩
 all_goals
  exact FX
theorem ET(h:(b1=true/\dn=true/\b2=false/\b3=true/\dq=false)\/(b1=false/\b2=true/\di=true/\b3=true/\dq=false)\/(b1=true/\dn=true/\b2=true/\di=true/\b3=true/\dq=false)):Bg P G E k i o k' i' o' T T' KK KK' HI false:=by
 cbv at ok'
 rcases h with⟨rfl,rfl,rfl,rfl,rfl⟩|⟨rfl,rfl,rfl,rfl,rfl⟩|⟨rfl,rfl,rfl,rfl,rfl,rfl⟩
 all_goals
  exact FX
theorem Ia{q:Bool}(hI:HI)(dI:b1=false)(h2:b2=false\/b2=true/\di=true)(h3:b3=false\/b3=true/\dq=true):Bg P G E k i o k' i' o' T T' KK KK' HI q:=by
 cbv at ok;cbv at ok';subst dI
 exact Xc
theorem I9{q:Bool}(hI:HI)(dI:b1=true/\dn=true)(h2:b2=false\/b2=true/\di=true)(h3:b3=false\/b3=true/\dq=true):Bg P G E k i o k' i' o' T T' KK KK' HI q:=by
 cbv at ok;cbv at ok';obtain⟨rfl,rfl⟩:=dI
 exact Xc
end
end
theorem Oy:∀(d:Nat)(x y:PT),gP x<=d->vK x->vK y->V0 8 [.agg (bU x),.agg (bU y)] (pB (tc x y))
 |0,x,_,h,_,_=>by have:=AB x;omega
 |d+1,.mk k nm i o ks,.mk k' nm' i' o' ks',hd,hw,Y9=>by
  rw[vK]at hw Y9;obtain⟨Cw,qq⟩:=hw;obtain⟨hwl',Le⟩:=Y9;rw[gP]at hd;have ihk:∀y∈ks,∀y'∈ks',V0 8 [.agg (bU y),.agg (bU y')] (pB (tc y y')):=fun y hy y' Cu=>Oy d y y' UT (ZY qq hy) (ZY Le Cu)
  rw[bU,bU];obtain⟨b1,b2,b3,hu⟩:∃b1 b2 b3,vl k=(b1,b2,b3):=⟨_,_,_,rfl⟩
  have hU:=z2c hu;obtain⟨dk,ka⟩:∃b,decide (k=k')=b:=⟨_,rfl⟩
  obtain⟨dn,vH⟩:∃b,decide (nm=nm')=b:=⟨_,rfl⟩
  obtain⟨di,rT⟩:∃b,decide (i=i')=b:=⟨_,rfl⟩
  obtain⟨dq,xZ⟩:∃b,decide (o=o')=b:=⟨_,rfl⟩
  have fE:=na ks;have GP:=na ks';have aT:=AK ks;have XQ:=AK ks';obtain⟨R,hR⟩:∃R,bW ks=R:=⟨_,rfl⟩
  obtain⟨R',lT⟩:∃R,bW ks'=R:=⟨_,rfl⟩
  rw[hR]at fE aT ⊢;rw[lT]at GP XQ ⊢;clear hR lT;obtain⟨M,hM⟩:∃M:Int,((R.length:Nat):Int)=M:=⟨_,rfl⟩
  obtain⟨M',hM'⟩:∃M:Int,((R'.length:Nat):Int)=M:=⟨_,rfl⟩
  obtain⟨dl,jJ⟩:∃b,decide (M=M')=b:=⟨_,rfl⟩
  have HQ:decide (ks.length=ks'.length)=dl:=by rw[<-jJ];grind
  obtain⟨hb,MS⟩:∃b,(dk&&(!b1||dn)&&(!b2||di)&&(!b3||dq))=b:=⟨_,rfl⟩
  obtain⟨q,hq⟩:∃q,tc (.mk k nm i o ks) (.mk k' nm' i' o' ks')=q:=⟨_,rfl⟩
  rw[hq];rw[tc,hu,ka,vH,rT,xZ,MS,HQ]at hq;have XY:decide (bL nm=bL nm')=dn:=by rw[<-vH];exact fX.2 ⟨ov,aG bL⟩
  obtain⟨T,hT⟩:∃T,bL nm=T:=⟨_,rfl⟩
  obtain⟨T',Zc⟩:∃T,bL nm'=T:=⟨_,rfl⟩
  rw[hT,Zc]at XY ⊢;refine ap aU oF (f:=8) Tryz.func8 rfl kR (oT kR) ?_
  refine aY.cutK 2 77 [2,3,4] 2 (fun _:Unit=>[.own 0 0,.own 1 0,.p (pB false)]) (fun _=>LC k i o k' i' o' T T' (.ro 5 R) (.ro 5 R')) (fun _=>(dk&&dl)=true) aU mixed (fun _=>0) (fun E=>jG E cO Tryz.f8.results.toList (pB q)) kR ?_ ?_
  ·intro P G E hc qK hE;exact Ib eh (by rw[hE];exact hM') ka jJ aX (fun e=>by grind) id
  ·rintro _ uJ
   have zQ:dk=true:=by cases dk<;>simp_all
   have kH:dl=true:=by cases dl<;>simp_all
   subst zQ kH;refine aY.cutK 2 77 [2,3,4] 2 (fun _:Unit=>[.own 0 0,.own 1 0,.p (pB false)]) (fun _=>LC k i o k' i' o' T T' (.ro 5 R) (.ro 5 R')) (fun _=>hb=true) aU mixed (fun _=>0) (fun E=>jG E cO Tryz.f8.results.toList (pB q)) kR ?_ ?_
   ·intro P G E hc qK hE;have h1:=hc _ _ _ hU;have e2:E.eq T T'=dn:=by rw[hE];exact XY
    have key:=z7j true b1 dn b2 di b3 dq
    rcases key with⟨h,h2⟩|⟨ha,YE,sj,wO,Dd⟩
    ·rw[h2]at MS;subst MS;have e0:false=q:=aX
     subst e0
     rcases h with h|h|h|h|h|h|h|h
     ·cases h
     ·exact x5 h1 rfl rfl e2 rT xZ (.inl h.2)
     ·exact x5 h1 rfl rfl e2 rT xZ (.inr (.inl h.2))
     ·exact x5 h1 rfl rfl e2 rT xZ (.inr (.inr (.inl h.2)))
     ·exact x5 h1 rfl rfl e2 rT xZ (.inr (.inr (.inr h.2)))
     ·exact ET h1 rfl rfl e2 rT xZ (.inl h.2)
     ·exact ET h1 rfl rfl e2 rT xZ (.inr (.inl h.2))
     ·exact ET h1 rfl rfl e2 rT xZ (.inr (.inr h.2))
    ·rcases YE with YE|YE
     ·exact Ia h1 rfl rfl e2 rT xZ (MS.symm.trans Dd) YE sj wO
     ·exact I9 h1 rfl rfl e2 rT xZ (MS.symm.trans Dd) YE sj wO
   ·rintro _ ke
    subst ke;rw[bO,bO]at hq;have hlen:ks.length=ks'.length:=oT HQ;clear hU vH ka rT xZ MS XY hT Zc hu jJ HQ uJ;obtain⟨μ,hμ⟩:∃μ:Int×List PT×List PT->Nat,∀x,μ x=x.2.1.length:=⟨_,fun _=>rfl⟩
    refine aY.of aU mixed (fun n=>match n with|9=>10|_=>0) kR (fun E=>jG E cO Tryz.f8.results.toList (pB q)) fun P G E hc qK hE=>?_
    have l0:E.ofN R.length=M:=eh
    cbv at l0;cbv;refine gV 77 [2,3,4,8] 2 (fun x:Int×List PT×List PT=>[.own 0 0,.own 1 0,.p (pB false),.p (pI x.1)]) (fun _=>LC k i o k' i' o' T T' (.ro 5 R) (.ro 5 R')) (Cl ks ks' q) μ (0,ks,ks') r5 ⟨rfl,rfl,bT 0,by simp,hlen,hq⟩ ?_
    rintro⟨j,l,l'⟩ hI
    obtain⟨g1,g2,g3,g4,g5,g6⟩:=id hI;simp only at g1 g2 g3 g4 g5 g6;replace hM:((R.length:Nat):Int)=M:=hM;replace g4:j+((l.length:Nat):Int)=((ks.length:Nat):Int):=g4
    cases l with
    |nil=>
     have d2:E.lti j M=false:=Bo
     have e0:true=q:=by rw[<-g6];cases l'<;>rfl
     subst e0;clear hc qK hE ihk;cbv;exact ay trivial
    |cons z l=>
     cases l' with
     |nil=>simp at g5
     |cons z' l'=>
      have d2:E.lti j M=true:=LL
      have p0:E.ple 0 j:=by rw[hE];exact g3
      obtain⟨j2,oL⟩:∃i2,j+1=i2:=⟨_,rfl⟩
      have ea:E.wadd .i64 j 1=j2:=by rw[hE,<- oL];exact jX oM oM
      obtain⟨k1,q1,o1,n1,K1,hv⟩:=iT z;obtain⟨k2,q2,o2,n2,K2,be⟩:=iT z';have hz:ks[j.toNat]?=some z:=by
       exact K5
      have qn:ks'[j.toNat]?=some z':=by
       have:=aG (fun r:List PT=>r[0]?) g2
       grind
      have r0:R[E.nat j]?=some [pI k1,pS n1,pI q1,pI o1,.ro 5 K1]:=by rw[hE];show R[j.toNat]?=_;grind
      have r1:R'[E.nat j]?=some [pI k2,pS n2,pI q2,pI o2,.ro 5 K2]:=by rw[hE];show R'[j.toNat]?=_;grind
      have dO:=ihk z (aH hz) z' (aH qn);rw[hv,be]at dO
      cases dR:tc z z' with
      |true=>
       rw[dR]at dO;replace dO:=hc _ _ _ dO;have hx:=(hI.next oL dR).1;have nE:μ (j2,l,l')<μ (j,z::l,z'::l'):=aX
       clear hc qK hE ihk;cbv;refine ay ?_;exact FW
      |false=>
       rw[dR]at dO;replace dO:=hc _ _ _ dO;have e0:false=q:=by rw[<-g6,CV,dR,cH]
       subst e0;clear hc qK hE ihk;exact FX
def la:Nat->Nat->Ts->Nat
 |_,top,[]=>top
 |n,top,t::l=>match sB t with
  |0=>la n top l
  |1=>la (n+1) (max top (n+1)) l
  |_=>la (n-1) top l
theorem ZL:∀(l:Ts)(n top:Nat),top<=la n top l
 |[],n,top=>nR _
 |t::l,n,top=>by
  rw[la]
  split
  ·exact ZL l _ _
  ·have:=ZL l (n+1) (max top (n+1));omega
  ·exact ZL l _ _
theorem Am:∀(l:Ts)(n top:Nat),top<=128->decide (128<la n top l)=uV n l
 |[],n,top,h=>dF (by rw[la];omega)
 |t::l,n,top,h=>by
  rw[la,uV];generalize sB t=b
  match b with
  |0=>exact Am l _ _ h
  |1=>
   show decide (128<la (n+1) (max top (n+1)) l)=if 128<n+1 then true else uV (n+1) l
   split
   ·have:=ZL l (n+1) (max top (n+1))
    grind
   ·exact Am l _ _ oM
  |b+2=>exact Am l _ _ h
structure m7(toks:List Tk)(q:Nat)(x:Int×Int×Int×Ts×Nat×Nat):Prop where
 d:toks.drop x.1.toNat=x.2.2.2.1
 i0:0<=x.1
 i1:x.1+((x.2.2.2.1.length:Nat):Int)=((toks.length:Nat):Int)
 m:((x.2.2.2.2.1:Nat):Int)=x.2.1
 t:((x.2.2.2.2.2:Nat):Int)=x.2.2.1
 m1:x.2.2.2.2.1+x.2.2.2.1.length<=toks.length
 q:la x.2.2.2.2.1 x.2.2.2.2.2 x.2.2.2.1=q
 t1:x.2.2.2.2.2<=toks.length
theorem z8h(n:Int)(toks:List Tk)(hz:toks.length<=1000000):V0 15 [.ro 3 (kY n toks)] (pI (la 0 0 toks:Nat)):=by
 obtain⟨q,hq⟩:∃q,la 0 0 toks=q:=⟨_,rfl⟩
 rw[hq];obtain⟨qi,D3⟩:∃z:Int,((q:Nat):Int)=z:=⟨_,rfl⟩
 rw[D3];have fE:=wu n toks;have aT:∀(j:Nat)(t:Tk),toks[j]?=some t->(kY n toks)[j]?=some [pI t.k,pS (bL t.t),pI (n-(t.rem:Nat))]:=fun j t ht=>by
  unfold kY;rw[aI,ht];rfl
 obtain⟨LR,tN⟩:∃x,kY n toks=x:=⟨_,rfl⟩
 rw[tN]at fE aT;rw[tN];obtain⟨M,hM⟩:∃M:Int,((toks.length:Nat):Int)=M:=⟨_,rfl⟩
 obtain⟨μ,hμ⟩:∃μ:Int×Int×Int×Ts×Nat×Nat->Nat,∀x,μ x=x.2.2.2.1.length:=⟨_,fun _=>rfl⟩
 refine eZ Tryz.func15 fun P G E hc hE=>?_
 have l0:E.ofN LR.length=M:=by rw[hE,fE];exact hM
 cbv at l0;have x0:m7 toks q (0,0,0,toks,0,0):=⟨rfl,bT 0,by simp,rfl,rfl,by simp,hq,aP _⟩
 cbv;refine gV 40 [0,2,3,4,5] 0 (fun x:Int×Int×Int×Ts×Nat×Nat=>[.p (.ro 3 LR),.p (pI 0),.p (pI x.2.1),.p (pI x.2.2.1),.p (pI x.1)]) (fun _=>[]) (m7 toks q) μ (0,0,0,toks,0,0) r5 x0 ?_
 rintro⟨i,op,tp,l,m,tm⟩ hI
 obtain⟨g1,g2,g3,g4,g9,g5,g6,g8⟩:=hI;simp only at g1 g2 g3 g4 g5 g6 g8 g9;replace hM:((toks.length:Nat):Int)=M:=hM;replace g9:((tm:Nat):Int)=tp:=g9;replace D3:((q:Nat):Int)=qi:=D3
 cases l with
 |nil=>
  have d1:E.lti i M=false:=Bo
  have e0:tp=qi:=by rw[<-g9,<- D3,<- g6];rfl
  subst e0;exact UZ
 |cons t l=>
  have d1:E.lti i M=true:=LL
  have ht:toks[i.toNat]?=some t:=by
   have:=aG (fun r:List Tk=>r[0]?) g1
   grind
  have p0:E.ple 0 i:=by rw[hE];exact g2
  have r0:LR[E.nat i]?=some [pI t.k,pS (bL t.t),pI (n-(t.rem:Nat))]:=by rw[hE];exact aT _ t ht
  obtain⟨i2,nF⟩:∃i2,i+1=i2:=⟨_,rfl⟩
  have ea:E.wadd .i64 i 1=i2:=FR
  have n1:toks.drop i2.toNat=l:=by
   have:i2.toNat=i.toNat+1:=eC
   rw[this,<- zD,g1];rfl
  have n2:0<=i2:=eC
  have n3:i2+((l.length:Nat):Int)=((toks.length:Nat):Int):=aX
  simp only[qQ]at g5;have nE:∀(op' tp':Int)(m' t':Nat),μ (i2,op',tp',l,m',t')<μ (i,op,tp,t::l,m,tm):=fun op' tp' m' t'=>by grind
  have eqs:∀w:Bs,E.eq (bL t.t) (bL w)=decide (t.t=w):=fun w=>by
   rw[hE];exact fX.2 ⟨ov,aG bL⟩
  rw[la]at g6;obtain⟨K,hK⟩:∃K,t.k=K:=⟨_,rfl⟩
  obtain⟨T,hT⟩:∃T,bL t.t=T:=⟨_,rfl⟩
  obtain⟨Z,hZ⟩:∃Z,n-((t.rem:Nat):Int)=Z:=⟨_,rfl⟩
  rw[hK,hT,hZ]at r0;rw[hT]at eqs;replace g4:((m:Nat):Int)=op:=g4
  rcases dV (K=5)with hk|hk
  ·have dk:decide (K=5)=true:=aA hk;have hb:sB t=brk t.t:=by unfold sB;rw[hK,aF hk]
   rcases dV (t.t=iS)with hw|nn
   ·exact Kk
   rcases dV (t.t=sX)with hw|m9
   ·exact Kk
   rcases dV (t.t=nN)with hw|Lg
   ·exact Kk
   rcases dV (t.t=eQ)with hw|hw4
   ·exact Kl
   rcases dV (t.t=yG)with hw|hw5
   ·exact Kl
   rcases dV (t.t=sK)with hw|hw6
   ·exact Kl
   have ip:sB t=0:=by
    rw[hb];unfold brk
    grind
   rw[ip]at g6;have w1:E.eq T (bL iS)=false:=aX
   have w2:E.eq T (bL sX)=false:=aX
   have w3:E.eq T (bL nN)=false:=aX
   have w4:E.eq T (bL eQ)=false:=aX
   have w5:E.eq T (bL yG)=false:=aX
   have w6:E.eq T (bL sK)=false:=aX
   cbv at w1 w2 w3 w4 w5 w6;have hx:m7 toks q (i2,op,tp,l,m,tm):=⟨n1,n2,n3,g4,g9,by grind,g6,g8⟩
   have hy:=nE op tp m tm;cbv;refine ay ?_;exact .mk _ r5 hx hy
  ·have dk:decide (K=5)=false:=dF hk;have ip:sB t=0:=by unfold sB;rw[hK,aD hk]
   rw[ip]at g6;have hx:m7 toks q (i2,op,tp,l,m,tm):=⟨n1,n2,n3,g4,g9,by grind,g6,g8⟩
   have hy:=nE op tp m tm;cbv;refine ay ?_;exact .mk _ r5 hx hy
theorem JG:∀{l:List PT}{x:PT},cf l->x∈l->oV x
 |[],_,_,h=>by cases h
 |y::l,x,hs,h=>by
  rcases dX.1 h with rfl|h
  ·exact hs.1
  ·exact JG hs.2 h
structure lY(ks:List PT)(j:Int)(l:List PT):Prop where
 d:ks.drop j.toNat=l
 i0:0<=j
 i1:j+((l.length:Nat):Int)=((ks.length:Nat):Int)
theorem lY.start(ks:List PT):lY ks 0 ks:=⟨rfl,bT 0,by simp⟩
theorem lY.next{ks:List PT}{j j2:Int}{z:PT}{l:List PT}(h:lY ks j (z::l))(hj:j+1=j2):lY ks j2 l:=by
 obtain⟨g1,g2,g3⟩:=h;have e:j2.toNat=j.toNat+1:=eC
 exact⟨by rw[e,<- zD,g1];rfl,by omega,by grind⟩
theorem lY.get{ks:List PT}{j:Int}{z:PT}{l:List PT}(h:lY ks j (z::l)):ks[j.toNat]?=some z:=by
 have:=aG (fun r:List PT=>r[0]?) h.d
 grind
structure KdF(E:SO)(R:List (List PV))(M j j2 k i o:Int)(nm:ByteArray)(KK:List (List PV)):Prop where
 lt:E.lti j M=true
 pl:E.ple 0 j
 ad:E.wadd .i64 j 1=j2
 gt:R[E.nat j]?=some [pI k,pS nm,pI i,pI o,.ro 5 KK]
theorem lY.fact{E:SO}(hE:E=bG){ks:List PT}(hz:ks.length<=2000000){j:Int}{z:PT}{l:List PT}(h:lY ks j (z::l)){R:List (List PV)}(hR:bW ks=R){M:Int}(hM:((R.length:Nat):Int)=M):∃j2 k i o nm KK,j+1=j2/\bU z=[pI k,pS nm,pI i,pI o,.ro 5 KK]/\KdF E R M j j2 k i o nm KK:=by
 obtain⟨k,i,o,nm,KK,hv⟩:=iT z;have hg:=h.get;have h1:=h.i0;have h2:=h.i1;have hl:R.length=ks.length:=FO
 simp only[qQ]at h2;refine⟨j+1,k,i,o,nm,KK,rfl,hv,by rw[hE];exact aA oM,by rw[hE];exact h1,by rw[hE];exact jX oM oM,?_⟩
 rw[hE];show R[j.toNat]?=_;rw[<-hR,AK,hg,<- hv];rfl
theorem lY.stop{E:SO}(hE:E=bG){ks:List PT}{j:Int}(h:lY ks j []){R:List (List PV)}(hR:bW ks=R){M:Int}(hM:((R.length:Nat):Int)=M):E.lti j M=false:=by
 have h2:=h.i1;have hl:R.length=ks.length:=FO
 simp only[bZ]at h2;rw[hE];exact dF oM
theorem zvj(x:PT):V0 79 [.agg (bU x)] (pB (fy x)):=by
 cases x with
 |mk k nm i o ks=>
  rw[bU];show V0 _ _ (pB (decide (k=7)||(decide (k=18)||decide (k=19))));obtain⟨R,hR⟩:∃R,bW ks=R:=⟨_,rfl⟩
  obtain⟨T,hT⟩:∃T,bL nm=T:=⟨_,rfl⟩
  rw[hR,hT];obtain⟨b1,h1⟩:∃b,decide (k=7)=b:=⟨_,rfl⟩
  obtain⟨b2,h2⟩:∃b,decide (k=18)=b:=⟨_,rfl⟩
  obtain⟨b3,h3⟩:∃b,decide (k=19)=b:=⟨_,rfl⟩
  rw[h1,h2,h3];clear hR hT
  cases b1<;>cases b2<;>cases b3
  all_goals
   refine eZ Tryz.func79 fun P G E hc hE=>?_
   exact VH
theorem z22(x:PT):V0 106 [.agg (bU x)] (pB (oD x)):=by
 cases x with
 |mk k nm i o ks=>
  rw[bU];show V0 _ _ (pB (decide (k=24)||(decide (k=25)||decide (k=11))));obtain⟨R,hR⟩:∃R,bW ks=R:=⟨_,rfl⟩
  obtain⟨T,hT⟩:∃T,bL nm=T:=⟨_,rfl⟩
  rw[hR,hT];obtain⟨b1,h1⟩:∃b,decide (k=24)=b:=⟨_,rfl⟩
  obtain⟨b2,h2⟩:∃b,decide (k=25)=b:=⟨_,rfl⟩
  obtain⟨b3,h3⟩:∃b,decide (k=11)=b:=⟨_,rfl⟩
  rw[h1,h2,h3];clear hR hT
  cases b1<;>cases b2<;>cases b3
  all_goals
   refine eZ Tryz.func106 fun P G E hc hE=>?_
   exact VH
theorem N7:∀(d:Nat)(x:PT),gP x<=d->d<=4000000->oV x->V0 20 [.agg (bU x)] (pI (gP x:Nat))
 |0,x,h,_,_=>by have:=AB x;omega
 |d+1,.mk k nm i o ks,hd,hz,hw=>by
  rw[oV]at hw;rw[gP]at hd;have ihk:∀y∈ks,V0 20 [.agg (bU y)] (pI (gP y:Nat)):=fun y hy=>N7 d y UT oM (JG hw.2.2 hy)
  have uw:∀y∈ks,gP y<=rJ ks:=fun y hy=>DU hy
  rw[bU,gP];obtain⟨D,hD⟩:∃D,rJ ks=D:=⟨_,rfl⟩
  rw[hD]at hd uw ⊢;obtain⟨q,hq⟩:∃q:Int,((D+1:Nat):Int)=q:=⟨_,rfl⟩
  rw[hq];have lI:=hw.2.1;obtain⟨R,hR⟩:∃R,bW ks=R:=⟨_,rfl⟩
  obtain⟨T,hT⟩:∃T,bL nm=T:=⟨_,rfl⟩
  rw[hR,hT];obtain⟨M,hM⟩:∃M:Int,((R.length:Nat):Int)=M:=⟨_,rfl⟩
  obtain⟨μ,hμ⟩:∃μ:Int×Int×List PT->Nat,∀x,μ x=x.2.2.length:=⟨_,fun _=>rfl⟩
  refine eZ Tryz.func20 fun P G E hc hE=>?_
  have l0:E.ofN R.length=M:=eh
  cbv at l0;have x0:lY ks 0 ks/\∃m:Nat,((m:Nat):Int)=0/\max m (rJ ks)=D:=⟨lY.start ks,0,rfl,by omega⟩
  cbv;refine gV 22 [1,2,3,4] 1 (fun x:Int×Int×List PT=>[.own 0 0,.p (pI 0),.p (pI x.2.1),.p (pI x.1)]) (fun _=>[some (.box [.p (pI k),.p (pS T),.p (pI i),.p (pI o),.p (.ro 5 R)] 25 none)]) (fun x=>lY ks x.1 x.2.2/\∃m:Nat,((m:Nat):Int)=x.2.1/\max m (rJ x.2.2)=D) μ (0,0,ks) r5 x0 ?_
  rintro⟨j,dd,l⟩ ⟨g1,m,g2,g3⟩
  simp only at g1 g2 g3;replace hM:((R.length:Nat):Int)=M:=hM;replace hq:((D+1:Nat):Int)=q:=hq;replace g2:((m:Nat):Int)=dd:=g2
  cases l with
  |nil=>
   have d1:=g1.stop hE hR hM;have ea:E.wadd .i64 dd 1=q:=by rw[rJ]at g3;rw[hE,<- hq];exact(jX oM oM).trans oM
   clear hc hE;cbv
   repeat (first|(simp only[l0];try cbv)|(simp only[d1];try cbv)|(simp only[ea];try cbv))
   all_goals trivial
  |cons z l=>
   obtain⟨j2,k1,i1,o1,n1,K1,hj,hv,f1,f2,f3,f4⟩:=g1.fact hE lI hR hM;have dO:V0 20 [.agg (bU z)] (pI ((gP z:Nat):Int)):=ihk z (aH g1.get);rw[hv]at dO;obtain⟨z1,uZ⟩:∃z1:Int,((gP z:Nat):Int)=z1:=⟨_,rfl⟩
   rw[uZ]at dO;replace dO:=hc _ _ _ dO;obtain⟨d2,zY⟩:∃d2,E.max dd z1=d2:=⟨_,rfl⟩
   rw[rJ]at g3;have hx:lY ks j2 l/\∃m:Nat,((m:Nat):Int)=d2/\max m (rJ l)=D:=⟨g1.next hj,max m (gP z),by rw[<-zY,hE];show _=if z1>dd then z1 else dd;split<;>omega,by omega⟩
   have nE:μ (j2,d2,l)<μ (j,dd,z::l):=aX
   clear hc hE;cbv;refine ay ?_;exact .mk _ r5 hx nE
theorem Pz:∀{ks:List PT}{z:PT},ks[ks.length-1]?=some z->wZ ks=lN z
 |[],z,h=>by simp at h
 |[x],z,h=>by cases h;rfl
 |x::y::l,z,h=>by
  show wZ (y::l)=_;refine Pz ?_;simpa using h
structure VR(E:SO)(R:List (List PV))(M j k i o:Int)(nm:ByteArray)(KK:List (List PV)):Prop where
 sb:E.wsub .i64 M 1=j
 pl:E.ple 0 j
 gt:R[E.nat j]?=some [pI k,pS nm,pI i,pI o,.ro 5 KK]
theorem Oe{E:SO}(hE:E=bG){ks:List PT}(hz:ks.length<=2000000)(dN:ks≠[]){R:List (List PV)}(hR:bW ks=R){M:Int}(hM:((R.length:Nat):Int)=M):∃z,z∈ks/\wZ ks=lN z/\∃j k i o nm KK,bU z=[pI k,pS nm,pI i,pI o,.ro 5 KK]/\VR E R M j k i o nm KK:=by
 have hl:R.length=ks.length:=FO
 have hp:=aS.2 dN;obtain⟨z,uZ⟩:∃z,ks[ks.length-1]?=some z:=⟨_,aB oM⟩
 obtain⟨k,i,o,nm,KK,hv⟩:=iT z;refine⟨z,aH uZ,Pz uZ,M-1,k,i,o,nm,KK,hv,by rw[hE];exact jX oM oM,by rw[hE];show 0<=M-1;omega,?_⟩
 rw[hE];show R[(M-1).toNat]?=_;rw[show(M-1).toNat=ks.length-1 by omega,<- hR,AK,uZ,<- hv]
 rfl
theorem Pd:∀(d:Nat)(x:PT),gP x<=d->oV x->V0 105 [.agg (bU x)] (pB (lN x))
 |0,x,h,_=>by have:=AB x;omega
 |d+1,.mk k nm i o ks,hd,hw=>by
  rw[oV]at hw;rw[gP]at hd;have ihk:∀y∈ks,V0 105 [.agg (bU y)] (pB (lN y)):=fun y hy=>Pd d y UT (JG hw.2.2 hy)
  obtain⟨q,hq⟩:∃q,lN (.mk k nm i o ks)=q:=⟨_,rfl⟩
  rw[hq,bU];rw[lN]at hq;have lI:=hw.2.1;obtain⟨R,hR⟩:∃R,bW ks=R:=⟨_,rfl⟩
  obtain⟨T,hT⟩:∃T,bL nm=T:=⟨_,rfl⟩
  rw[hR,hT];obtain⟨M,hM⟩:∃M:Int,((R.length:Nat):Int)=M:=⟨_,rfl⟩
  have hl:R.length=ks.length:=FO
  rcases dV (k=28/\ks.length=2)with hk|hk
  ·obtain⟨rfl,hk⟩:=hk;rw[aF ⟨rfl,hk⟩]at hq;subst hq;have d2:decide (M=2)=true:=aA oM
   refine eZ Tryz.func105 fun P G E hc hE=>?_
   have l0:E.ofN R.length=M:=eh
   cbv at l0;exact VH
  ·rw[aD hk]at hq
   rcases dV (k=28\/k=29\/k=30\/k=31)with yR|yR
   ·rw[aF yR]at hq;have dN:ks≠[]:=hw.1 (by rcases yR with rfl|rfl|rfl|rfl<;>rfl)
    have d2:k=28->decide (M=2)=false:=fun e=>dF fun h=>hk ⟨e,by omega⟩
    rcases yR with rfl|yR
    ·refine eZ Tryz.func105 fun P G E hc hE=>?_
     have l0:E.ofN R.length=M:=eh
     cbv;cbv at l0;obtain⟨z,hz,ck,j,k1,i1,o1,n1,K1,hv,f1,f2,f3⟩:=Oe hE lI dN hR hM;have dO:=ihk z hz;rw[hv,<- ck,hq]at dO;replace dO:=hc _ _ _ dO;clear hc hE
     repeat (first|(simp only[l0];try cbv)|(simp only[d2];try cbv)|(simp only[f1];try cbv)|(refine⟨f2,_,f3,?_⟩;cbv)|(refine⟨_,dO,?_⟩;cbv))
    ·rcases yR with rfl|rfl|rfl
     all_goals
      refine eZ Tryz.func105 fun P G E hc hE=>?_
      have l0:E.ofN R.length=M:=eh
      cbv;cbv at l0;obtain⟨z,hz,ck,j,k1,i1,o1,n1,K1,hv,f1,f2,f3⟩:=Oe hE lI dN hR hM;have dO:=ihk z hz;rw[hv,<- ck,hq]at dO;replace dO:=hc _ _ _ dO;clear hc hE
      repeat (first|(simp only[l0];try cbv)|(simp only[f1];try cbv)|(refine⟨f2,_,f3,?_⟩;cbv)|(refine⟨_,dO,?_⟩;cbv))
   ·rw[aD yR]at hq;subst hq;simp only[CL]at yR;obtain⟨e1,e2,e3,e4⟩:=yR;replace e2:decide (k=29)=false:=dF e2;replace e3:decide (k=30)=false:=dF e3;replace e4:decide (k=31)=false:=dF e4;refine eZ Tryz.func105 fun P G E hc hE=>?_
    exact VH
def j6(c:Cx):List PV:=[pB c.lp,pB c.fn,pB c.gn,pB c.as_]
structure Cp(c:Cx)(ks:List PT)(lq:Bool)(fr:Int)(q:Bool)(x:Int×List PT):Prop where
 k:lY ks x.1 x.2
 q:tX c lq (fr-x.1).toNat x.2=q
theorem xhm{c:Cx}{lq:Bool}{z:PT}{l:List PT}:tX c lq 0 (z::l)=(!oD z&&(bE { c with lp:=c.lp||lq } z&&tX c lq 0 l)):=by rw[tX,aF rfl]
theorem xhl{c:Cx}{lq:Bool}{f:Nat}{z:PT}{l:List PT}:tX c lq (f+1) (z::l)=(bE c z&&tX c lq f l):=by rfl
theorem zy5{k i o:Int}{nm:Bs}{ks:List PT}{c:Cx}(hk:k=28\/k=29\/k=30\/k=31)(hw:oV (.mk k nm i o ks))(ih:∀y∈ks,∀c:Cx,V0 48 [.agg (bU y),.agg (j6 c)] (pB (bE c y))):V0 80 [.agg (bU (.mk k nm i o ks)),.agg (j6 c)] (pB (bE c (.mk k nm i o ks))):=by
 rw[oV]at hw;have lI:=hw.2.1;have a8:∀y∈ks,V0 105 [.agg (bU y)] (pB (lN y)):=fun y hy=>Pd _ y (nR _) (JG hw.2.2 hy)
 obtain⟨q,hq⟩:∃q,bE c (.mk k nm i o ks)=q:=⟨_,rfl⟩
 rw[hq,bU];rw[bE,aD oM,aF hk]at hq
 obtain⟨R,hR⟩:∃R,bW ks=R:=⟨_,rfl⟩
 obtain⟨T,hT⟩:∃T,bL nm=T:=⟨_,rfl⟩
 rw[hR,hT];obtain⟨M,hM⟩:∃M:Int,((R.length:Nat):Int)=M:=⟨_,rfl⟩
 have hl:R.length=ks.length:=FO
 obtain⟨fr,MU⟩:∃fr:Int,(if k=30 then 3 else 1)=fr:=⟨_,rfl⟩
 obtain⟨lq,Yp⟩:∃b,decide (k≠28)=b:=⟨_,rfl⟩
 have uu:(if k=30 then 3 else 1)=fr.toNat:=by rw[<-MU];split<;>rfl
 rw[Yp,uu]at hq;have hfr2:fr=1\/fr=3:=by rw[<-MU];split<;>simp
 have Ly:lq=!decide (k=28):=by rw[<-Yp];simp
 refine ap aU oF (f:=80) Tryz.func80 rfl kR (oT kR) ?_
 refine aY.cutK 4 60 [2,3,4,5] 2 (fun _:Unit=>[.own 0 0,.own 1 0,.p (pB false),.p (pI fr)]) (fun _=>[some (.box [.p (pI k),.p (pS T),.p (pI i),.p (pI o),.p (.ro 5 R)] 25 none),some (.box [.p (pB c.lp),.p (pB c.fn),.p (pB c.gn),.p (pB c.as_)] 70 none)]) (fun _=>tX c lq fr.toNat ks=q) aU mixed (fun _=>0) (fun E=>jG E cO Tryz.f80.results.toList (pB q)) kR ?_ ?_
 ·have lZ:∀{P:Program}{G:World->Prop}{E:SO},E=bG->E.ofN R.length=M:=fun hE=>by rw[hE];exact hM
  rcases hk with rfl|hk
  ·have d8:fr=1:=by rw[<-MU];rfl
   subst d8
   rcases dV (ks.length=3)with h3|h3
   ·have d3:decide (M=3)=true:=aA oM
    obtain⟨z,hz⟩:∃z,ks[1]?=some z:=⟨_,aB oM⟩
    obtain⟨k1,i1,o1,n1,K1,hv⟩:=iT z;have r0:R[1]?=some [pI k1,pS n1,pI i1,pI o1,.ro 5 K1]:=by rw[<-hR,AK,hz,<- hv];rfl
    have dO:=a8 z (aH hz);rw[hv]at dO;have ma:IY ks=lN z:=by
     match ks,hz with
     |_::y::_,hz=>cases hz;rfl
    rw[h3,ma]at hq
    cases Yb:lN z with
    |true=>
     rw[Yb]at dO hq;have e0:false=q:=by rw[<-hq];rfl
     subst e0;intro P G E hc qK hE;replace dO:=hc _ _ _ dO;have l0:=lZ (P:=P) (G:=G) hE;have r1:R[E.nat 1]?=some [pI k1,pS n1,pI i1,pI o1,.ro 5 K1]:=by rw[hE];exact r0
     have p0:E.ple 0 1:=Jo
     clear hc qK hE ih a8 hq lZ;cbv;cbv at l0
     repeat (first|(simp only[l0];try cbv)|(simp only[d3];try cbv)|(refine⟨p0,_,r1,?_⟩;cbv)|(refine⟨_,dO,?_⟩;cbv))
     all_goals trivial
    |false=>
     rw[Yb]at dO hq;have yQ:tX c lq (1:Int).toNat ks=q:=by simpa using hq
     intro P G E hc qK hE;replace dO:=hc _ _ _ dO;have l0:=lZ (P:=P) (G:=G) hE;have r1:R[E.nat 1]?=some [pI k1,pS n1,pI i1,pI o1,.ro 5 K1]:=by rw[hE];exact r0
     have p0:E.ple 0 1:=Jo
     clear hc qK hE ih a8 hq lZ;cbv;cbv at l0
     repeat (first|(simp only[l0];try cbv)|(simp only[d3];try cbv)|(refine⟨p0,_,r1,?_⟩;cbv)|(refine⟨_,dO,?_⟩;cbv))
     exact .mk () r5 yQ
   ·have d3:decide (M=3)=false:=dF oM
    have yQ:tX c lq (1:Int).toNat ks=q:=by simpa [h3]using hq
    intro P G E hc qK hE;have l0:=lZ (P:=P) (G:=G) hE;clear hc qK hE ih a8 hq lZ;cbv;cbv at l0
    repeat (first|(simp only[l0];try cbv)|(simp only[d3];try cbv))
    exact .mk () r5 yQ
  ·have yQ:tX c lq fr.toNat ks=q:=by
    have:decide (k=28)=false:=dF oM
    rw[this]at hq;simpa using hq
   rcases hk with rfl|rfl|rfl
   ·have d8:fr=1:=by rw[<-MU];rfl
    exact Kb
   ·have d8:fr=3:=by rw[<-MU];rfl
    exact Kb
   ·have d8:fr=1:=by rw[<-MU];rfl
    exact Kb
 ·rintro _ yQ
  obtain⟨μ,hμ⟩:∃μ:Int×List PT->Nat,∀x,μ x=x.2.length:=⟨_,fun _=>rfl⟩
  have CI:=z22;obtain⟨dk,ka⟩:∃b,decide (k=28)=b:=⟨_,rfl⟩
  rw[ka]at Ly;refine aY.of aU mixed (fun n=>match n with|14=>6|_=>0) kR (fun E=>jG E cO Tryz.f80.results.toList (pB q)) fun P G E hc qK hE=>?_
  have l0:E.ofN R.length=M:=eh
  cbv at l0;have x0:Cp c ks lq fr q (0,ks):=⟨lY.start ks,by show tX c lq (fr-0).toNat ks=q;rw[Int.sub_zero];exact yQ⟩
  cbv;refine gV 60 [2,3,4,5,6] 2 (fun x:Int×List PT=>[.own 0 0,.own 1 0,.p (pB false),.p (pI fr),.p (pI x.1)]) (fun _=>[some (.box [.p (pI k),.p (pS T),.p (pI i),.p (pI o),.p (.ro 5 R)] 25 none),some (.box [.p (pB c.lp),.p (pB c.fn),.p (pB c.gn),.p (pB c.as_)] 70 none)]) (Cp c ks lq fr q) μ (0,ks) r5 x0 ?_
  rintro⟨j,l⟩ ⟨g1,g2⟩
  simp only at g1 g2;replace hM:((R.length:Nat):Int)=M:=hM
  cases l with
  |nil=>
   have d1:=g1.stop hE hR hM;have e0:true=q:=by rw[<-g2,tX]
   subst e0;clear hc qK hE ih a8 CI;exact UZ
  |cons z l=>
   obtain⟨j2,k1,i1,o1,n1,K1,hj,hv,f1,f2,f3,f4⟩:=g1.fact hE lI hR hM;have xx:=aH g1.get;have nE:μ (j2,l)<μ (j,z::l):=by rw[hμ,hμ];show l.length<(z::l).length;simp
   have h0:=g1.i0
   rcases Dr j fr with cQ|qV
   ·have d5:E.lei fr j=false:=sE
    have dO:V0 48 [.agg (bU z),.agg (j6 c)] (pB (bE c z)):=ih z xx c;have e1:(fr-j).toNat=(fr-j2).toNat+1:=eC
    rw[e1,xhl]at g2;rw[hv]at dO;unfold j6 at dO
    cases nr:bE c z with
    |true=>
     rw[nr]at dO g2;replace dO:=hc _ _ _ dO;have hx:Cp c ks lq fr q (j2,l):=⟨g1.next hj,g2⟩;clear hc qK hE ih a8 CI;cbv
     repeat (first|(simp only[l0];try cbv)|(simp only[f1];try cbv)|(simp only[d5];try cbv)|(refine⟨f2,_,f4,?_⟩;cbv)|(refine⟨_,dO,?_⟩;cbv)|(simp only[f3];try cbv))
     exact FW
    |false=>
     rw[nr]at dO g2;replace dO:=hc _ _ _ dO;have e0:false=q:=by rw[<-g2];rfl
     subst e0;clear hc qK hE ih a8 CI;cbv
     repeat (first|(simp only[l0];try cbv)|(simp only[f1];try cbv)|(simp only[d5];try cbv)|(refine⟨f2,_,f4,?_⟩;cbv)|(refine⟨_,dO,?_⟩;cbv)|(simp only[f3];try cbv))
     all_goals trivial
   ·have d5:E.lei fr j=true:=by rw[hE];exact aA qV
    have s8:V0 106 [.agg (bU z)] (pB (oD z)):=CI z;have dO:V0 48 [.agg (bU z),.agg (j6 { c with lp:=c.lp||lq })] (pB (bE { c with lp:=c.lp||lq } z)):=ih z xx _
    have e1:(fr-j).toNat=0:=eC
    have e2:(fr-j2).toNat=0:=eC
    rw[e1,xhm]at g2;rw[hv]at dO s8;unfold j6 at dO
    cases Z0:oD z with
    |true=>
     rw[Z0]at s8 g2;replace s8:=hc _ _ _ s8;have e0:false=q:=by rw[<-g2];rfl
     subst e0;clear hc qK hE ih a8 CI dO
     cases xJ:c.lp<;>cases dk
     all_goals
      cbv
      repeat (first|(simp only[l0];try cbv)|(simp only[f1];try cbv)|(simp only[d5];try cbv)|(simp only[xJ];try cbv)|(simp only[ka];try cbv)|(refine⟨f2,_,f4,?_⟩;cbv)|(refine⟨_,s8,?_⟩;cbv)|(simp only[f3];try cbv))
      all_goals trivial
    |false=>
     rw[Z0]at s8 g2;replace s8:=hc _ _ _ s8;obtain⟨rz,nr⟩:∃b,bE { c with lp:=c.lp||lq } z=b:=⟨_,rfl⟩
     rw[nr]at dO g2;replace dO:=hc _ _ _ dO;have hx:rz=true->Cp c ks lq fr q (j2,l):=fun e=>⟨g1.next hj,by show tX c lq (fr-j2).toNat l=q;rw[e2,<- g2,e];rfl⟩
     have e0:rz=false->false=q:=fun e=>by rw[<-g2,e];rfl
     clear hc qK hE ih a8 CI
     cases rz with
     |false=>
      have e0:=e0 rfl;subst e0
      cases xJ:c.lp
      all_goals cases dk
      all_goals
       rw[xJ,Ly]at dO;cbv
       repeat (first|(simp only[l0];try cbv)|(simp only[f1];try cbv)|(simp only[d5];try cbv)|(simp only[xJ];try cbv)|(simp only[ka];try cbv)|(refine⟨f2,_,f4,?_⟩;cbv)|(refine⟨_,s8,?_⟩;cbv)|(refine⟨_,dO,?_⟩;cbv)|(simp only[f3];try cbv))
       all_goals trivial
     |true=>
      have hx:=hx rfl
      cases xJ:c.lp
      all_goals cases dk
      all_goals
       rw[xJ,Ly]at dO;cbv
       repeat (first|(simp only[l0];try cbv)|(simp only[f1];try cbv)|(simp only[d5];try cbv)|(simp only[xJ];try cbv)|(simp only[ka];try cbv)|(refine⟨f2,_,f4,?_⟩;cbv)|(refine⟨_,s8,?_⟩;cbv)|(refine⟨_,dO,?_⟩;cbv)|(simp only[f3];try cbv))
       exact FW
theorem G4:∀l:List Bs,oU l=true ↔ l.Nodup
 |[]=>by simp[oU]
 |x::l=>by simp[oU,G4 l]
theorem Zu{L:List Bs}{i:Nat}{x:Bs}(h:(L.take i).Nodup)(hx:L[i]?=some x)(hn:∀j,j<i->L[j]?≠some x):(L.take (i+1)).Nodup:=by
 rw[kn,hx];refine List.nodup_append.2 ⟨h,by simp,fun a ha b hb=>?_⟩
 have e:b=x:=by simpa using hb
 subst e;intro e;subst e;obtain⟨j,hj⟩:=nH.1 ha
 grind
theorem z8m{L:List Bs}{i j:Nat}{x:Bs}(hi:L[i]?=some x)(hj:L[j]?=some x)(h:j<i):¬L.Nodup:=fun hd=>by
 have h1:=(aC.1 hi);have h2:=(aC.1 hj)
 have:=(List.getElem_inj (i:=i) (j:=j) (h₀:=h1.1) (h₁:=h2.1) hd).1 (h1.2.trans h2.2.symm)
 omega
def U7(n:Nat):Nat:=match n with
 |43=>12
 |_=>0
section
variable{P:Program}{G:World->Prop}{E:SO}{k i o M:Int}{T:ByteArray}{R:List (List PV)}{c:Cx}{HI:Cx->Prop}{q:Bool}
abbrev LB(k i o:Int)(T:ByteArray)(R:List (List PV))(c:Cx):AH:=[some (.box [.p (pI k),.p (pS T),.p (pI i),.p (pI o),.p (.ro 5 R)] 25 none),some (.box [.p (pB c.lp),.p (pB c.fn),.p (pB c.gn),.p (pB c.as_)] 70 none)]
abbrev qb(P:Program)(G:World->Prop)(E:SO)(k i o:Int)(T:ByteArray)(R:List (List PV))(c:Cx)(HI:Cx->Prop)(q:Bool):Prop:=
 tC P G E cO U7 (wW 3 (Tryz.f48.body.getD .skip)) (nI (mC 149 [2,3,4,5] 3 (fun _:Cx=>[.own 0 0,.own 1 0,.p (pB false),.own 2 0]) (fun y=>LB k i o T R c++[some (.box [.p (pB y.lp),.p (pB y.fn),.p (pB y.gn),.p (pB y.as_)] 70 none)]) HI) (jG E cO Tryz.f48.results.toList (pB q)))
  (([.agg [pI k,pS T,pI i,pI o,.ro 5 R],.agg (j6 c)]:List PV).map .p++List.replicate (149-([.agg [pI k,pS T,pI i,pI o,.ro 5 R],.agg (j6 c)]:List PV).length) (.p (.v undef))) []
theorem xhu(h:k=33\/k=34)(hq:c.lp=q):qb P G E k i o T R c HI q:=by
 rcases h with rfl|rfl
 all_goals
  cbv
  grind
theorem RI{b:Bool}(h:(k=32/\c.fn=b)\/(k=22/\c.gn=b)\/(k=23/\c.as_=b))(h0:b=false->false=q)(h1:b=true->HI c):qb P G E k i o T R c HI q:=by
 cases c with
 |mk fn lp gn as_=>
  rcases h with⟨rfl,h⟩|⟨rfl,h⟩|⟨rfl,h⟩
  ·subst h
   cases fn with
   |false=>
    have e0:=h0 rfl;subst e0;exact jm
   |true=>
    have e1:=h1 rfl;cbv;exact .mk ⟨true,lp,gn,as_⟩ r5 e1
  ·subst h
   cases gn with
   |false=>
    have e0:=h0 rfl;subst e0;exact jm
   |true=>
    have e1:=h1 rfl;cbv;exact .mk ⟨fn,lp,true,as_⟩ r5 e1
  ·subst h
   cases as_ with
   |false=>
    have e0:=h0 rfl;subst e0;exact jm
   |true=>
    have e1:=h1 rfl;cbv;exact .mk ⟨fn,lp,gn,true⟩ r5 e1
theorem xhp{k1 i1 o1:Int}{n1:ByteArray}{K1:List (List PV)}{b:Bool}(h:k=16\/k=17)(p0:E.ple 0 0)(r0:R[E.nat 0]?=some [pI k1,pS n1,pI i1,pI o1,.ro 5 K1])(ht:fS P G 79 [.agg [pI k1,pS n1,pI i1,pI o1,.ro 5 K1]] (pB b))(h0:b=false->false=q)(h1:b=true->HI c):qb P G E k i o T R c HI q:=by
 rcases h with rfl|rfl
 all_goals
  cases b with
  |false=>
   have e0:=h0 rfl;subst e0;cbv
   repeat (first|(refine⟨p0,_,r0,?_⟩;cbv)|(refine⟨_,ht,?_⟩;cbv))
   all_goals trivial
  |true=>
   have e1:=h1 rfl;cbv;exact C9
theorem xhn(hk:k=12)(h:decide (o=5)=false)(h1:HI c):qb P G E k i o T R c HI q:=by
 subst hk;cbv;refine ay ?_;exact .mk c r5 h1
theorem RH{k1 i1 o1:Int}{n1:ByteArray}{K1:List (List PV)}{b8 b9:Bool}(hk:k=12)(ho5:o=5)(p0:E.ple 0 0)(r0:R[E.nat 0]?=some [pI k1,pS n1,pI i1,pI o1,.ro 5 K1])(d8:decide (k1=18)=b8)(d9:decide (k1=19)=b9)(h0:b8=false->b9=false->false=q)(h1:b8=true\/b9=true->HI c):qb P G E k i o T R c HI q:=by
 subst hk ho5
 cases b8<;>cases b9
 ·have e0:=h0 rfl rfl;subst e0;cbv
  repeat (first|(refine⟨p0,_,r0,?_⟩;cbv)|(simp only[d8];try cbv)|(simp only[d9];try cbv))
  all_goals trivial
 all_goals
  have e1:=h1 dL
  cbv;exact C9
theorem xho{b:Bool}(hk:k=36)(l0:E.ofN R.length=M)(h:E.lti M 2=b)(h0:b=true->false=q)(h1:b=false->HI c):qb P G E k i o T R c HI q:=by
 subst hk
 cases b with
 |true=>
  have e0:=h0 rfl;subst e0;cbv;cbv at l0
  repeat (first|(simp only[l0];try cbv)|(simp only[h];try cbv))
  all_goals trivial
 |false=>
  have e1:=h1 rfl;cbv;cbv at l0;exact C9
theorem xhq(h:k=28\/k=29\/k=30\/k=31)(ht:fS P G 80 [.agg [pI k,pS T,pI i,pI o,.ro 5 R],.agg [pB c.lp,pB c.fn,pB c.gn,pB c.as_]] (pB q)):qb P G E k i o T R c HI q:=by
 rcases h with rfl|rfl|rfl|rfl
 all_goals
  cbv
  repeat (first|(refine⟨_,ht,?_⟩;cbv))
  all_goals trivial
theorem xhr(e1:decide (k=33)=false)(e2:decide (k=34)=false)(e3:decide (k=32)=false)(e4:decide (k=22)=false)(e5:decide (k=23)=false)(e6:decide (k=16)=false)(e7:decide (k=17)=false)(e8:decide (k=12)=false)(e9:decide (k=25)=false)(ea:decide (k=36)=false)(eb:decide (k=28)=false)(ec:decide (k=29)=false)(ed:decide (k=30)=false)(ee:decide (k=31)=false)(ef:decide (k=11)=false)(h1:HI c):qb P G E k i o T R c HI q:=by
 cbv;refine ay ?_;exact .mk c r5 h1
end
section
variable{P:Program}{G:World->Prop}{E:SO}{k i o M:Int}{T:ByteArray}{R:List (List PV)}{c:Cx}{HI:Cx->Prop}{q:Bool}
theorem xht(hk:k=25)(hE:E=bG){ks:List PT}(lI:ks.length<=2000000)(hR:bW ks=R)(hM:((R.length:Nat):Int)=M)(h0:(ks.all fun x=>!x.kids.isEmpty)=false->false=q)(h1:(ks.all fun x=>!x.kids.isEmpty)=true->HI c):qb P G E k i o T R c HI q:=by
 subst hk;cbv;replace hM:((R.length:Nat):Int)=M:=hM;have l0:E.ofN R.length=M:=eh
 obtain⟨μ,hμ⟩:∃μ:Int×List PT->Nat,∀x,μ x=x.2.length:=⟨_,fun _=>rfl⟩
 have x0:lY ks 0 ks/\(ks.all fun x=>!x.kids.isEmpty)=(ks.all fun x=>!x.kids.isEmpty):=⟨lY.start ks,rfl⟩
 obtain⟨A,hA⟩:∃A,(ks.all fun x=>!x.kids.isEmpty)=A:=⟨_,rfl⟩
 rw[hA]at h0 h1;replace x0:lY ks 0 ks/\(ks.all fun x=>!x.kids.isEmpty)=A:=⟨lY.start ks,hA⟩
 cbv at l0;refine gV 149 [2,3,4,5,6] 3 (fun x:Int×List PT=>[.own 0 0,.own 1 0,.p (pB false),.own 2 0,.p (pI x.1)]) (fun _=>LB 25 i o T R c++[some (.box [.p (pB c.lp),.p (pB c.fn),.p (pB c.gn),.p (pB c.as_)] 70 none)]) (fun x=>lY ks x.1 x.2/\(x.2.all fun x=>!x.kids.isEmpty)=A) μ (0,ks) r5 x0 ?_
 rintro⟨j,l⟩ ⟨g1,g2⟩
 simp only at g1 g2;replace hM:((R.length:Nat):Int)=M:=hM
 cases l with
 |nil=>
  have d1:=g1.stop hE hR hM;have e1:=h1 (by rw[<-g2];rfl)
  clear hE;cbv;exact C9
 |cons z l=>
  obtain⟨j2,k1,i1,o1,n1,K1,hj,hv,f1,f2,f3,f4⟩:=g1.fact hE lI hR hM;have nE:μ (j2,l)<μ (j,z::l):=aX
  have hK:K1.length=z.kids.length:=by
   cases z with
   |mk a b e f ks2=>
    injection hv with _ hv
    injection hv with _ hv
    injection hv with _ hv
    injection hv with _ hv
    injection hv with hv
    injection hv with _ hv
    rw[<-hv,na];rfl
  obtain⟨L1,hL1⟩:∃L:Int,((K1.length:Nat):Int)=L:=⟨_,rfl⟩
  have l1:E.ofN K1.length=L1:=by rw[hE];exact hL1
  rw[List.all_cons]at g2
  cases hz:z.kids.isEmpty with
  |true=>
   have d3:decide (L1=0)=true:=aA aX
   have e0:=h0 (by rw[<-g2,hz];rfl)
   subst e0;cbv at l1;clear hE;cbv
   repeat (first|(simp only[l0];try cbv)|(simp only[f1];try cbv)|(refine⟨f2,_,f4,?_⟩;cbv)|(simp only[l1];try cbv)|(simp only[d3];try cbv)|(simp only[f3];try cbv))
   all_goals trivial
  |false=>
   have dN:z.kids≠[]:=fun e=>by rw[e]at hz;cases hz
   have:=aS.2 dN
   have d3:decide (L1=0)=false:=dF oM
   have hx:lY ks j2 l/\(l.all fun x=>!x.kids.isEmpty)=A:=⟨g1.next hj,by rw[<-g2,hz];rfl⟩
   cbv at l1;clear hE;cbv;refine ay ?_;exact FW
structure L5(L:List Bs)(N1 x:Int):Prop where
 i0:0<=x
 i1:x<=N1\/x=0
 nd:(L.take x.toNat).Nodup
structure Cr(L:List Bs)(x y:Int):Prop where
 i0:0<=y
 i1:y<=x
 no:∀j,j<y.toNat->L[j]?≠L[x.toNat]?
theorem U1{ks:List PT}{R:List (List PV)}(hR:bW ks=R){j:Nat}{z:PT}(h:ks[j]?=some z):∃k i o K,R[j]?=some [pI k,pS (bL z.nm),pI i,pI o,.ro 5 K]:=by
 cases z with
 |mk k nm i o ks2=>exact⟨k,i,o,bW ks2,by rw[<-hR,AK,h];show some (bU _)=_;rfl⟩
theorem z8s{ks:List PT}{j:Nat}{z:PT}(h:ks[j]?=some z)(hj:j+1<ks.length):(oR ks.dropLast)[j]?=some z.nm:=by
 unfold oR;rw[aI,List.getElem?_dropLast,aF oM,h]
 rfl
theorem xhs(hk:k=11)(hE:E=bG){ks:List PT}(lI:ks.length<=2000000)(hR:bW ks=R)(hM:((R.length:Nat):Int)=M)(h0:oU (oR ks.dropLast)=false->false=q)(h1:oU (oR ks.dropLast)=true->HI (pE o)):qb P G E k i o T R c HI q:=by
 subst hk;cbv;replace hM:((R.length:Nat):Int)=M:=hM;have l0:E.ofN R.length=M:=eh
 have hl:R.length=ks.length:=FO
 obtain⟨L,hL⟩:∃L,oR ks.dropLast=L:=⟨_,rfl⟩
 have Zg:L.length=ks.length-1:=by rw[<-hL];simp[oR]
 have Zh:∀{j:Nat}{z:PT},ks[j]?=some z->j+1<ks.length->L[j]?=some z.nm:=fun h hj=>by rw[<-hL];exact z8s h hj
 rw[hL]at h0 h1;obtain⟨N1,hN1⟩:∃N1,M-1=N1:=⟨_,rfl⟩
 have es:E.wsub .i64 M 1=N1:=by rw[hE,<- hN1];exact jX oM oM
 obtain⟨b3,fe⟩:∃b,decide (o=3)=b:=⟨_,rfl⟩
 obtain⟨b4,ux⟩:∃b,decide (o=4)=b:=⟨_,rfl⟩
 obtain⟨b5,Z7⟩:∃b,decide (o=5)=b:=⟨_,rfl⟩
 have MH:pE o=⟨true,false,b3,b4||b5⟩:=by unfold pE;rw[fe,ux,Z7]
 rw[MH]at h1;obtain⟨μ,hμ⟩:∃μ:Int->Nat,∀x,μ x=(N1-x).toNat:=⟨_,fun _=>rfl⟩
 have x0:L5 L N1 0:=⟨bT 0,.inr rfl,by simp⟩
 cbv at l0;refine gV 149 [2,3,4,5,7] 3 (fun x:Int=>[.own 0 0,.own 1 0,.p (pB false),.own 2 0,.p (pI x)]) (fun _=>LB 11 i o T R c++[some (.box [.p (pB c.lp),.p (pB c.fn),.p (pB c.gn),.p (pB c.as_)] 70 none)]) (L5 L N1) μ 0 r5 x0 ?_
 intro x hI;obtain⟨g1,g2,g3⟩:=hI;replace hM:((R.length:Nat):Int)=M:=hM
 rcases Dr x N1 with cQ|qV
 ·have d1:E.lti x N1=true:=Jm
  obtain⟨z,hz⟩:∃z,ks[x.toNat]?=some z:=⟨_,aB oM⟩
  obtain⟨k1,i1,o1,K1,r1⟩:=U1 hR hz;have Mt:=Zh hz oM
  have p1:E.ple 0 x:=by rw[hE];exact g1
  replace r1:R[E.nat x]?=some [pI k1,pS (bL z.nm),pI i1,pI o1,.ro 5 K1]:=by rw[hE];exact r1
  obtain⟨x2,xG⟩:∃x2,x+1=x2:=⟨_,rfl⟩
  have ea:E.wadd .i64 x 1=x2:=by rw[hE,<- xG];exact jX oM oM
  obtain⟨ν,hν⟩:∃ν:Int->Nat,∀y,ν y=(x-y).toNat:=⟨_,fun _=>rfl⟩
  have y0:Cr L x 0:=⟨bT 0,g1,fun j hj=>by simp at hj⟩
  have nE:μ x2<μ x:=qg
  have rQ:Cr L x x->L5 L N1 x2:=fun h=>⟨by omega,.inl oM,by
   rw[show x2.toNat=x.toNat+1 by omega]
   exact Zu g3 Mt fun j hj e=>h.no j hj (e.trans Mt.symm)⟩
  obtain⟨T1,Mn⟩:∃T,bL z.nm=T:=⟨_,rfl⟩
  rw[Mn]at r1;have Y7:x.toNat+1<ks.length:=eC
  have hxm:x<=2000000:=eC
  cbv;refine ay ?_;refine gV 149 [2,3,4,5,7,8] 3 (fun y:Int=>[.own 0 0,.own 1 0,.p (pB false),.own 2 0,.p (pI x),.p (pI y)]) (fun _=>LB 11 i o T R c++[some (.box [.p (pB c.lp),.p (pB c.fn),.p (pB c.gn),.p (pB c.as_)] 70 none)]) (Cr L x) ν 0 r5 y0 ?_
  intro y hJ;obtain⟨k1',k2',k3'⟩:=id hJ;replace Y7:x.toNat+1<ks.length:=Y7;replace g1:0<=x:=g1
  rcases Dr y x with hy|hy
  ·have d2:E.lti y x=true:=by rw[hE];exact aA hy
   obtain⟨z2,zF⟩:∃z,ks[y.toNat]?=some z:=⟨_,aB oM⟩
   obtain⟨k3,i3,o3,K3,r2⟩:=U1 hR zF;have hLy:=Zh zF oM
   have p2:E.ple 0 y:=by rw[hE];exact k1'
   replace r2:R[E.nat y]?=some [pI k3,pS (bL z2.nm),pI i3,pI o3,.ro 5 K3]:=by rw[hE];exact r2
   obtain⟨y2,rO⟩:∃y2,y+1=y2:=⟨_,rfl⟩
   have eb:E.wadd .i64 y 1=y2:=by rw[hE,<- rO];exact jX oM oM
   obtain⟨T2,a8⟩:∃T,bL z2.nm=T:=⟨_,rfl⟩
   rw[a8]at r2
   rcases dV (z.nm=z2.nm)with hn|hn
   ·have eq:E.eq T1 T2=true:=by rw[hE,<- Mn,<- a8,hn];exact aA rfl
    have e0:=h0 (by
     cases jJ:oU L with
     |false=>rfl
     |true=>exact absurd ((G4 L).1 jJ) (z8m Mt (hLy.trans (aG some hn.symm)) oM))
    subst e0;clear hE;cbv
    repeat (first|(simp only[d2];try cbv)|(refine⟨p1,_,r1,?_⟩;cbv)|(refine⟨p2,_,r2,?_⟩;cbv)|(simp only[eq];try cbv))
    all_goals trivial
   ·have eq:E.eq T1 T2=false:=by rw[hE,<- Mn,<- a8];exact dF fun e=>hn (ov e)
    have hx:Cr L x y2:=⟨by omega,by omega,fun j hj=>by
     grind⟩
    have i8:ν y2<ν y:=by rw[hν,hν];omega
    clear hE;cbv;refine ay ?_;exact .mk _ r5 hx i8
  ·have d2:E.lti y x=false:=sE
   have hyx:y=x:=eC
   subst hyx;have hx:=rQ hJ;clear hE;cbv;refine ay ?_;exact FW
 ·have d1:E.lti x N1=false:=sE
  have e1:=h1 ((G4 L).2 (by rwa[iF oM]at g3))
  clear hE
  cases b4
  ·cbv;refine ay ?_;exact .mk ⟨true,false,b3,b5⟩ r5 e1
  ·cbv;refine ay ?_;exact .mk ⟨true,false,b3,true⟩ r5 e1
end
theorem Pc:∀(d:Nat)(x:PT)(c:Cx),gP x<=d->oV x->V0 48 [.agg (bU x),.agg (j6 c)] (pB (bE c x))
 |0,x,_,h,_=>by have:=AB x;omega
 |d+1,.mk k nm i o ks,c,hd,np=>by
  have hw:=np;rw[oV]at hw;rw[gP]at hd;have ihk:∀y∈ks,∀c:Cx,V0 48 [.agg (bU y),.agg (j6 c)] (pB (bE c y)):=fun y hy c=>Pc d y c UT (JG hw.2.2 hy)
  have rE:(k=28\/k=29\/k=30\/k=31)->V0 80 [.agg (bU (.mk k nm i o ks)),.agg (j6 c)] (pB (bE c (.mk k nm i o ks))):=fun hk=>zy5 hk np ihk
  have lI:=hw.2.1;obtain⟨q,hq⟩:∃q,bE c (.mk k nm i o ks)=q:=⟨_,rfl⟩
  rw[hq,bU]at rE;rw[hq,bU];rw[bE]at hq;obtain⟨R,hR⟩:∃R,bW ks=R:=⟨_,rfl⟩
  obtain⟨T,hT⟩:∃T,bL nm=T:=⟨_,rfl⟩
  rw[hR,hT]at rE ⊢;obtain⟨M,hM⟩:∃M:Int,((R.length:Nat):Int)=M:=⟨_,rfl⟩
  have hl:R.length=ks.length:=FO
  refine ap aU oF (f:=48) Tryz.func48 rfl kR (oT kR) ?_
  refine aY.cutK 3 149 [2,3,4,5] 3 (fun _:Cx=>[.own 0 0,.own 1 0,.p (pB false),.own 2 0]) (fun y=>LB k i o T R c++[some (.box [.p (pB y.lp),.p (pB y.fn),.p (pB y.gn),.p (pB y.as_)] 70 none)]) (fun y=>dW y ks=q) aU mixed U7 (fun E=>jG E cO Tryz.f48.results.toList (pB q)) kR ?_ ?_
  ·suffices hX:∀(P:Program)(G:World->Prop)(E:SO),(∀f l r,fS Tryz.prog G0 f l r->fS P G f l r)->E=bG->qb P G E k i o T R c (fun y=>dW y ks=q) q from fun P G E hc qK hE=>hX P G E hc hE
   rcases dV (k=33\/k=34)with h1|h1
   ·rw[aF h1]at hq;exact fun P G E hc hE=>xhu h1 hq
   rw[aD h1]at hq
   rcases dV (k=28\/k=29\/k=30\/k=31)with h2|h2
   ·exact fun P G E hc hE=>xhq h2 (hc _ _ _ (rE h2))
   rw[aD h2]at hq;clear rE;have hH:∀{b:Bool},jM c k o ks=b->k≠11->(b=false->false=q)/\(b=true->dW c ks=q):=fun{b} e hn=>by
    rw[e,aD hn]at hq;exact⟨fun e=>by rw[<-hq,e];rfl,fun e=>by rw[<-hq,e];rfl⟩
   have z0:ks≠[]->∃z l k1 i1 o1 n1 K1,ks=z::l/\bU z=[pI k1,pS n1,pI i1,pI o1,.ro 5 K1]/\R[0]?=some [pI k1,pS n1,pI i1,pI o1,.ro 5 K1]:=fun dN=>by
    cases ks with
    |nil=>exact absurd rfl dN
    |cons z l=>
     obtain⟨k1,i1,o1,n1,K1,hv⟩:=iT z;exact⟨z,l,k1,i1,o1,n1,K1,rfl,hv,by rw[<-hR,bW,hv];rfl⟩
   rcases dV (k=32\/k=22\/k=23)with h3|h3
   ·obtain⟨b,hb⟩:∃b,jM c k o ks=b:=⟨_,rfl⟩
    obtain⟨e0,e1⟩:=hH hb oM
    refine fun P G E hc hE=>RI (b:=b) ?_ e0 e1
    rcases h3 with rfl|rfl|rfl
    ·exact .inl ⟨rfl,hb⟩
    ·exact .inr (.inl ⟨rfl,hb⟩)
    ·exact .inr (.inr ⟨rfl,hb⟩)
   rcases dV (k=16\/k=17)with h4|h4
   ·obtain⟨z,l,k1,i1,o1,n1,K1,e,hv,r0⟩:=z0 (hw.1 (by rcases h4 with rfl|rfl<;>rfl))
    have ht:=zvj z;rw[hv]at ht;obtain⟨e0,e1⟩:=hH (b:=fy z) (by rw[e];rcases h4 with rfl|rfl<;>rfl) oM
    exact fun P G E hc hE=>xhp h4 Bx (by rw[hE];exact r0) (hc _ _ _ ht) e0 e1
   rcases dV (k=12)with h5|h5
   ·obtain⟨z,l,k1,i1,o1,n1,K1,e,hv,r0⟩:=z0 (hw.1 (by rw[h5];rfl))
    have zQ:z.kind=k1:=by
     cases z with
     |mk a b c2 d2 e2=>rw[bU]at hv;injection hv with hv _;injection hv with hv;injection hv with _ hv
    rcases dV (o=5)with h6|h6
    ·obtain⟨e0,e1⟩:=hH (b:=decide (k1=18)||decide (k1=19)) (by rw[e,<- zQ,h5,h6];rfl) oM
     obtain⟨b8,h8⟩:∃b,decide (k1=18)=b:=⟨_,rfl⟩
     obtain⟨b9,h9⟩:∃b,decide (k1=19)=b:=⟨_,rfl⟩
     rw[h8,h9]at e0 e1;exact fun P G E hc hE=>RH (k1:=k1) (i1:=i1) (o1:=o1) (n1:=n1) (K1:=K1) h5 h6 Bx (by rw[hE];exact r0) h8 h9 (fun a b=>e0 (by rw[a,b];rfl)) (fun a=>e1 (by rcases a with a|a<;>rw[a]<;>simp))
    ·obtain⟨e0,e1⟩:=hH (b:=true) (by rw[e,h5];show(!decide (o=5)||_)=true;rw[dF h6];rfl) oM
     exact fun P G E hc hE=>xhn h5 (dF h6) (e1 rfl)
   rcases dV (k=25)with h6|h6
   ·obtain⟨e0,e1⟩:=hH (b:=ks.all fun x=>!x.kids.isEmpty) (by rw[h6];rfl) oM
    exact fun P G E hc hE=>xht h6 hE lI hR hM e0 e1
   rcases dV (k=36)with h7|h7
   ·obtain⟨e0,e1⟩:=hH (b:=decide (2<=ks.length)) (by rw[h7];rfl) oM
    exact fun P G E hc hE=>xho (M:=M) (b:=decide (M<2)) h7 eh fH (fun a=>e0 (dF (by have:=oT a;omega))) (fun a=>e1 (aA (by have:=gB a;omega)))
   rcases dV (k=11)with h8|h8
   ·have hb:jM c k o ks=oU (oR ks.dropLast):=by rw[h8];rfl
    rw[hb,aF h8]at hq;exact fun P G E hc hE=>xhs h8 hE lI hR hM (fun a=>by rw[<-hq,a];rfl) (fun a=>by rw[<-hq,a];rfl)
   ·have hb:jM c k o ks=true:=by
     unfold jM;rw[aD oM,aD oM,aD oM,aD h4,aD h5,aD h6,aD h7,aD h8]
    obtain⟨e0,e1⟩:=hH hb h8;simp only[CL]at h1 h2 h3 h4;exact fun P G E hc hE=>xhr (dF h1.1) (dF h1.2) (dF h3.1) (dF h3.2.1) (dF h3.2.2) (dF h4.1) (dF h4.2) (dF h5) (dF h6) (dF h7) (dF h2.1) (dF h2.2.1) (dF h2.2.2.1) (dF h2.2.2.2) (dF h8) (e1 rfl)
  ·rintro y hy
   clear rE hq;obtain⟨μ,hμ⟩:∃μ:Int×List PT->Nat,∀x,μ x=x.2.length:=⟨_,fun _=>rfl⟩
   refine aY.of aU mixed (fun n=>match n with|49=>6|_=>0) kR (fun E=>jG E cO Tryz.f48.results.toList (pB q)) fun P G E hc qK hE=>?_
   have l0:E.ofN R.length=M:=eh
   have x0:lY ks 0 ks/\dW y ks=q:=⟨lY.start ks,hy⟩;cbv;cbv at l0;refine gV 149 [2,3,4,5,9] 3 (fun x:Int×List PT=>[.own 0 0,.own 1 0,.p (pB false),.own 2 0,.p (pI x.1)]) (fun _=>LB k i o T R c++[some (.box [.p (pB y.lp),.p (pB y.fn),.p (pB y.gn),.p (pB y.as_)] 70 none)]) (fun x=>lY ks x.1 x.2/\dW y x.2=q) μ (0,ks) r5 x0 ?_
   rintro⟨j,l⟩ ⟨g1,g2⟩
   simp only at g1 g2;replace hM:((R.length:Nat):Int)=M:=hM
   cases l with
   |nil=>
    have d1:=g1.stop hE hR hM;have e0:true=q:=by rw[<-g2,dW]
    subst e0;clear hc qK hE ihk;exact UZ
   |cons z l=>
    obtain⟨j2,k1,i1,o1,n1,K1,hj,hv,f1,f2,f3,f4⟩:=g1.fact hE lI hR hM;have nE:μ (j2,l)<μ (j,z::l):=by rw[hμ,hμ];show l.length<(z::l).length;simp
    have dO:V0 48 [.agg (bU z),.agg (j6 y)] (pB (bE y z)):=ihk z (aH g1.get) y;rw[hv]at dO;unfold j6 at dO;rw[dW]at g2
    cases nr:bE y z with
    |true=>
     rw[nr]at dO g2;replace dO:=hc _ _ _ dO;have hx:lY ks j2 l/\dW y l=q:=⟨g1.next hj,g2⟩;clear hc qK hE ihk;cbv
     repeat (first|(simp only[l0];try cbv)|(simp only[f1];try cbv)|(refine⟨f2,_,f4,?_⟩;cbv)|(refine⟨_,dO,?_⟩;cbv)|(simp only[f3];try cbv))
     exact FW
    |false=>
     rw[nr]at dO g2;replace dO:=hc _ _ _ dO;have e0:false=q:=by rw[<-g2];rfl
     subst e0;clear hc qK hE ihk;cbv
     repeat (first|(simp only[l0];try cbv)|(simp only[f1];try cbv)|(refine⟨f2,_,f4,?_⟩;cbv)|(refine⟨_,dO,?_⟩;cbv)|(simp only[f3];try cbv))
     all_goals trivial
theorem zzd(x:PT)(h:oV x):V0 19 [.agg (bU x)] (pB (bE lW x)):=by
 have hr:V0 48 [.agg (bU x),.agg (j6 lW)] (pB (bE lW x)):=Pc _ x lW (nR _) h;obtain⟨k,i,o,nm,R,hv⟩:=iT x;obtain⟨b,hb⟩:∃b,bE lW x=b:=⟨_,rfl⟩
 rw[hv,hb]at hr;rw[hv,hb];refine eZ Tryz.func19 fun P G E hc hE=>?_
 replace hr:=hc _ _ _ hr;exact VH
def Lo(p p':PV):Prop:=∀(w:World)(R:Nat->Prop)(v:Value),cI w R p v->cI w R p' v
theorem Lo.refl(p:PV):Lo p p:=fun _ _ _ h=>h
theorem Tc(s:Nat):Lo (.v (.slice none 0 0)) (.ro s []):=fun w R v h=>by cases h;exact .ro0 _ _ _
structure gf(l l':List PV):Prop where
 len:l.length=l'.length
 at_:∀(j:Nat)(a a':PV),l[j]?=some a->l'[j]?=some a'->Lo a a'
theorem gf.refl(l:List PV):gf l l:=⟨rfl,fun j a a' h h'=>by rw[h]at h';cases h';exact .refl _⟩
theorem gf.cons{a a':PV}{l l':List PV}(h:Lo a a')(hl:gf l l'):gf (a::l) (a'::l'):=⟨by simp[hl.len],fun j b b' g g'=>by
 cases j with
 |zero=>grind
 |succ j=>exact hl.at_ j b b' (by simpa using g) (by simpa using g')⟩
theorem IU{α:Type}{l l':List α}(h:l.length=l'.length){j:Nat}{a':α}(h':l'[j]?=some a'):∃a,l[j]?=some a:=by
 grind
theorem R7{s:Nat}{rs rs':List (List PV)}(hl:rs.length=rs'.length)(h:∀(i:Nat)(r r':List PV),rs[i]?=some r->rs'[i]?=some r'->gf r r'):Lo (.ro s rs) (.ro s rs'):=fun w R v hv=>by
 cases hv with
 |ro0 s A cap=>
  have:rs'=[]:=YT.1 hl.symm
  subst this;exact .ro0 _ _ _
 |ro s rows b o cap vs hR hb pQ hs hc hr=>
  rw[hl];refine .ro s rs' b o cap vs hR hb oM (fun i row hi=>?_) (fun i j row a hi hj=>?_) (fun i j row a hi hj=>?_)
  ·obtain⟨r,pG⟩:=IU hl hi;rw[<-(h i r row pG hi).len];exact hs i r pG
  ·obtain⟨r,pG⟩:=IU hl hi;obtain⟨c,dZ⟩:=IU (h i r row pG hi).len hj
   grind
  ·obtain⟨r,pG⟩:=IU hl hi;obtain⟨c,dZ⟩:=IU (h i r row pG hi).len hj;exact(h i r row pG hi).at_ j c a dZ hj w R _ (hr i j r c pG dZ)
theorem ZH{l l':List PV}(h:gf l l'):Lo (.agg l) (.agg l'):=fun w R v hv=>by
 cases hv with
 |agg cs vs hl hr=>
  refine .agg l' vs (by rw[<-h.len];exact hl) fun j a v ha hv=>?_
  obtain⟨c,dZ⟩:=IU h.len ha;exact h.at_ j c a dZ ha w R v (hr j c v dZ hv)
theorem fS.lo{P:Program}{G:World->Prop}{f:FuncId}{xs ys:List PV}{r:PV}(h:fS P G f xs r)(hl:gf ys xs):fS P G f ys r:=by
 refine⟨h.1,fun w B args hG hlen eG=>h.2 w B args hG (by rw[<-hl.len];exact hlen) fun j a v ha hv=>?_⟩
 have cQ:=(aC.1 ha).1;obtain⟨c,dZ⟩:∃c,ys[j]?=some c:=⟨_,aB (by rw[hl.len];exact cQ)⟩
 exact hl.at_ j c a dZ ha w B v (eG j c v dZ hv)
theorem SW{a b c d e e':PV}(h:Lo e e'):gf [a,b,c,d,e] [a,b,c,d,e']:=.cons (.refl _) (.cons (.refl _) (.cons (.refl _) (.cons (.refl _) (.cons h (.refl _)))))
theorem SU(k:Int):∀ks:List PT,(∀(i:Nat)(r r':List PV),(gZ ks)[i]?=some r->(bW ks)[i]?=some r'->gf r r')->Lo (rV k ks) (.ro 5 (bW ks))
 |[],_=>by
  rw[rV,bW]
  split
  ·exact .refl _
  ·exact Tc 5
 |x::ks,h=>by
  rw[gZ,bW]at h;exact R7 (by simp[EB,na]) h
mutual
theorem xg:∀x:PT,gf (pY x) (bU x)
 | .mk k nm i o ks=>by exact SW (SU k ks (Sf ks))
theorem Sf:∀(ks:List PT)(i:Nat)(r r':List PV),(gZ ks)[i]?=some r->(bW ks)[i]?=some r'->gf r r'
 |[],i,r,r',h,h'=>by rw[gZ]at h;simp at h
 |x::ks,i,r,r',h,h'=>by
  rw[gZ]at h;rw[bW]at h'
  cases i with
  |zero=>cases h;cases h';exact xg x
  |succ i=>exact Sf ks i r r' jk (by simpa using h')
end
theorem Se:∀ks:List PT,(∀(i:Nat)(r r':List PV),(eU ks)[i]?=some r->(bW ks)[i]?=some r'->gf r r')->Lo (mM ks) (.ro 5 (bW ks))
 |[],_=>by exact Tc 5
 |x::ks,h=>by
  rw[eU,bW]at h;exact R7 (by simp[wh,na]) h
mutual
theorem SV:∀x:PT,gf (gO x) (bU x)
 | .mk k nm i o ks=>by exact SW (Se ks (Hi ks))
theorem Hi:∀(ks:List PT)(i:Nat)(r r':List PV),(eU ks)[i]?=some r->(bW ks)[i]?=some r'->gf r r'
 |[],i,r,r',h,h'=>by rw[eU]at h;simp at h
 |x::ks,i,r,r',h,h'=>by
  rw[eU]at h;rw[bW]at h'
  cases i with
  |zero=>cases h;cases h';exact SV x
  |succ i=>exact Hi ks i r r' jk (by simpa using h')
end
theorem z2f(x:PT)(h:oV x):V0 19 [.agg (pY x)] (pB (bE lW x)):=(zzd x h).lo (.cons (ZH (xg x)) (.refl _))
theorem xbx(x:PT)(h:oV x)(hd:gP x<=4000000):V0 20 [.agg (pY x)] (pI (gP x:Nat)):=(N7 _ x hd (nR _) h).lo (.cons (ZH (xg x)) (.refl _))
theorem xck(x y:PT)(hx:vK x)(hy:vK y):V0 8 [.agg (gO x),.agg (pY y)] (pB (tc x y)):=(Oy (max (gP x) 0) x y oM hx hy).lo (.cons (ZH (SV x)) (.cons (ZH (xg y)) (.refl _)))
end Go.Proofs.YtjkcdcloomkooaaGreatDoor
