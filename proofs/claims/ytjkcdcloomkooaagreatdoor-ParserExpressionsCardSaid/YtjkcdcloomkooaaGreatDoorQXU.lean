/- Own work: walks and laws of the parser and its reference. -/
import Derived.Test.YtjkcdcloomkooaaGreatDoorQXQ
import Derived.Test.YtjkcdcloomkooaaGreatDoorQXR
import Derived.Test.YtjkcdcloomkooaaGreatDoorQXY
set_option linter.unusedVariables false
set_option linter.unusedSimpArgs false
set_option linter.unusedSectionVars false
set_option maxHeartbeats 8000000
set_option maxRecDepth 100000
namespace Go.Proofs.YtjkcdcloomkooaaGreatDoor
open Go.RowKit
def uk(k:Int):Bool×Bool×Bool:=
 if k<1\/42<k then(true,true,true)else if k=5 then(false,true,false)else if k=11\/k=31 then(true,false,true)else if k=12\/k=13\/k=14\/k=16\/k=17 then(false,false,true)
 else if k=6\/k=7\/k=18\/k=38\/k=40\/k=41 then(true,false,false)else(false,false,false)
mutual
def rk:PT->PT->Bool
 | .mk k n i o ks,.mk k' n' i' o' ks'=>(decide (k=k')&&(!(uk k).1||decide (n=n'))&&(!(uk k).2.1||decide (i=i'))&&(!(uk k).2.2||decide (o=o')))&&(decide (ks.length=ks'.length)&&BJ ks ks')
def BJ:List PT->List PT->Bool
 |k::ks,k'::ks'=>rk k k'&&BJ ks ks'
 |_,_=>true
end
mutual
theorem Md:∀x:PT,rk x x=true
 | .mk k n i o ks=>by
  rw[rk,Mc ks];simp
theorem Mc:∀x:List PT,BJ x x=true
 |[]=>rfl
 |k::ks=>by rw[BJ,Md k,Mc ks];rfl
end
theorem z5y:∀dk b1 dn b2 di b3 dq:Bool,((dk=false\/(dk=true/\b1=true/\dn=false)\/(dk=true/\b1=false/\b2=true/\di=false)\/(dk=true/\b1=true/\dn=true/\b2=true/\di=false)\/(dk=true/\b1=false/\b2=false/\b3=true/\dq=false)\/(dk=true/\b1=true/\dn=true/\b2=false/\b3=true/\dq=false)\/(dk=true/\b1=false/\b2=true/\di=true/\b3=true/\dq=false)\/(dk=true/\b1=true/\dn=true/\b2=true/\di=true/\b3=true/\dq=false))/\(dk&&(!b1||dn)&&(!b2||di)&&(!b3||dq))=false) ∨
 (dk=true/\(b1=false\/b1=true/\dn=true)/\(b2=false\/b2=true/\di=true)/\(b3=false\/b3=true/\dq=true)/\(dk&&(!b1||dn)&&(!b2||di)&&(!b3||dq))=true):=by
 simp_all
structure A7(ks ks':List PT)(q:Bool)(x:Int×List PT×List PT):Prop where
 d:ks.drop x.1.toNat=x.2.1
 d':ks'.drop x.1.toNat=x.2.2
 i0:0<=x.1
 i1:x.1+((x.2.1.length:Nat):Int)=((ks.length:Nat):Int)
 le:x.2.1.length=x.2.2.length
 q:BJ x.2.1 x.2.2=q
theorem Pm{k:Int}{b1 b2 b3:Bool}(h0:1<=k)(h1:k<=42)(h:∀(P:Program)(G:World->Prop)(E:SO),E.lti k 1=false->E.lti 42 k=false->uE P G E cK (fun _=>0) (Tryz.f21.body.getD .skip) (jF E cK Tryz.f21.results.toList (.tup [pB b1,pB b2,pB b3])) (([pI k]:List PV).map .p++List.replicate (34-([pI k]:List PV).length) (.p (.v undef))) []):V0 21 [pI k] (.tup [pB b1,pB b2,pB b3]):=by
 refine dE aN dO mixed (fun _=>0) Tryz.func21 rfl kR kR rfl fun P G E hc hE=>?_
 exact h P G E sS sS
theorem z02{k:Int}{b1 b2 b3:Bool}(h:uk k=(b1,b2,b3)):V0 21 [pI k] (.tup [pB b1,pB b2,pB b3]):=by
 by_cases hv:k=5\/k=11\/k=31\/k=12\/k=13\/k=14\/k=16\/k=17\/k=6\/k=7\/k=18\/k=38\/k=40\/k=41
 ·refine Pm oM oM fun P G E d1 d2=>?_
  rcases hv with rfl|rfl|rfl|rfl|rfl|rfl|rfl|rfl|rfl|rfl|rfl|rfl|rfl|rfl
  all_goals
   cases h
   cbv
   repeat (first|(simp only[d1];try cbv)|(simp only[d2];try cbv))
 ·simp only[AZ]at hv;obtain⟨v5,v11,v31,v12,v13,v14,v16,v17,v6,v7,v18,v38,v40,v41⟩:=hv
  rcases(show k<1\/42<k\/(1<=k/\k<=42) by omega)with hk|hk|⟨tu,yZ⟩
  ·unfold uk at h;rw[aF (.inl hk)]at h
   cases h
   refine dE aN dO mixed (fun _=>0) Tryz.func21 rfl kR kR rfl fun P G E hc hE=>?_
   have d1:E.lti k 1=true:=by rw[hE];exact aA hk
   clear hc hE;exact Hk
  ·unfold uk at h;rw[aF (.inr hk)]at h
   cases h
   refine dE aN dO mixed (fun _=>0) Tryz.func21 rfl kR kR rfl fun P G E hc hE=>?_
   have d1:E.lti k 1=false:=sS
   have d2:E.lti 42 k=true:=by rw[hE];exact aA hk
   clear hc hE;exact Hk
  ·have e:uk k=(false,false,false):=by
    unfold uk
    grind
   rw[e]at h
   cases h
   refine Pm tu yZ fun P G E d1 d2=>?_
   exact Hk
mutual
def mG:PT->List PV
 | .mk k nm i o ks=>[pI k,pS (bL nm),pI i,pI o,.ro 5 (oO ks)]
def oO:List PT->List (List PV)
 |[]=>[]
 |k::ks=>mG k::oO ks
end
theorem CO:∀a:List PT,(oO a).length=a.length
 |[]=>by rfl
 |x::a=>by rw[oO,qD,qD,CO a]
theorem CD:∀(ps:List PT)(i:Nat),(oO ps)[i]?=ps[i]?.map mG
 |[],i=>by rw[oO];simp
 |p::ps,0=>by rfl
 |p::ps,i+1=>by rw[oO,bY,bY,CD ps i]
theorem BO(x:PT):∃k i o nm R,mG x=[pI k,pS nm,pI i,pI o,.ro 5 R]:=by
 cases x with
 |mk k nm i o ks=>exact⟨k,i,o,bL nm,oO ks,by rw[mG]⟩
theorem A7.next{ks ks':List PT}{q:Bool}{j j2:Int}{z z':PT}{l l':List PT}(h:A7 ks ks' q (j,z::l,z'::l'))(hj:j+1=j2)(hs:rk z z'=true):A7 ks ks' q (j2,l,l')/\ks[j.toNat]?=some z/\ks'[j.toNat]?=some z':=by
 obtain⟨g1,g2,g3,g4,g5,g6⟩:=h;have e:j2.toNat=j.toNat+1:=dU
 refine⟨⟨by rw[e,<- yS,g1];rfl,by rw[e,<- yS,g2];rfl,by omega,by grind,by simpa using g5,by rw[<-g6,BJ,hs,bP]⟩,?_,?_⟩
 ·exact H5
 ·have:=aG (fun r:List PT=>r[0]?) g2
  grind
section
variable{P:Program}{G:World->Prop}{E:SO}{k i o k' i' o' M M':Int}{T T':ByteArray}{KK KK':PV}{b1 b2 b3 dk dn di dq dl:Bool}{HI:Prop}
abbrev IZ(k i o k' i' o':Int)(T T':ByteArray)(KK KK':PV):AH:=[some (.box [.p (pI k),.p (pS T),.p (pI i),.p (pI o),.p KK] 25 none),some (.box [.p (pI k'),.p (pS T'),.p (pI i'),.p (pI o'),.p KK'] 25 none)]
abbrev rsH(P:Program)(G:World->Prop)(E:SO)(k i o k' i' o':Int)(T T':ByteArray)(KK KK':PV)(HI:Prop)(q:Bool):Prop:=
 uE P G E cK (fun _=>0) (wO 2 (Tryz.f8.body.getD .skip)) (nB (lZ 77 [2,3,4] 2 (fun _:Unit=>[.own 0 0,.own 1 0,.p (pB false)]) (fun _=>IZ k i o k' i' o' T T' KK KK') (fun _=>HI)) (jF E cK Tryz.f8.results.toList (pB q)))
  (([.agg [pI k,pS T,pI i,pI o,KK],.agg [pI k',pS T',pI i',pI o',KK']]:List PV).map .p++List.replicate (77-([.agg [pI k,pS T,pI i,pI o,KK],.agg [pI k',pS T',pI i',pI o',KK']]:List PV).length) (.p (.v undef))) []
abbrev YW(P:Program)(G:World->Prop)(E:SO)(k i o k' i' o':Int)(T T':ByteArray)(KK KK':PV)(HI:Prop)(q:Bool):Prop:=
 uE P G E cK (fun _=>0) (wO 2 (kf 2 (Tryz.f8.body.getD .skip))) (nB (lZ 77 [2,3,4] 2 (fun _:Unit=>[.own 0 0,.own 1 0,.p (pB false)]) (fun _=>IZ k i o k' i' o' T T' KK KK') (fun _=>HI)) (jF E cK Tryz.f8.results.toList (pB q)))
  (qN [2,3,4] [.own 0 0,.own 1 0,.p (pB false)] 77 0) (IZ k i o k' i' o' T T' KK KK')
theorem Fg{q:Bool}{R R':List (List PV)}(l0:E.ofN R.length=M)(l1:E.ofN R'.length=M')(jl:decide (k=k')=dk)(jJ:decide (M=M')=dl)(h:dk=false\/dk=true/\dl=false\/dk=true/\dl=true)(hq:(dk&&dl)=false->false=q)(hI:(dk&&dl)=true->HI):rsH P G E k i o k' i' o' T T' (.ro 5 R) (.ro 5 R') HI q:=by
 cbv at l0;cbv at l1
 rcases h with rfl|⟨rfl,rfl⟩|⟨rfl,rfl⟩
 ·have gg:=hq rfl;subst gg;exact EJ
 ·have gg:=hq rfl;subst gg;exact EJ
 ·replace hI:=hI rfl;cbv;refine aa ?_;exact .mk () r5 hI
section
variable(h1:fX P G 21 [pI k] (.tup [pB b1,pB b2,pB b3]))(ok:yM (.p KK)=true)(ok':yM (.p KK')=true)(e2:E.eq T T'=dn)(wG:decide (i=i')=di)(xO:decide (o=o')=dq)
include h1 ok ok' e2 wG xO
theorem vm(h:(b1=true/\dn=false)\/(b1=false/\b2=true/\di=false)\/(b1=true/\dn=true/\b2=true/\di=false)\/(b1=false/\b2=false/\b3=true/\dq=false)):YW P G E k i o k' i' o' T T' KK KK' HI false:=by
 cbv at ok;cbv at ok'
 rcases h with⟨rfl,rfl⟩|⟨rfl,rfl,rfl⟩|⟨rfl,rfl,rfl,rfl⟩|⟨rfl,rfl,rfl,rfl⟩
 all_goals
  exact EJ
theorem DG(h:(b1=true/\dn=true/\b2=false/\b3=true/\dq=false)\/(b1=false/\b2=true/\di=true/\b3=true/\dq=false)\/(b1=true/\dn=true/\b2=true/\di=true/\b3=true/\dq=false)):YW P G E k i o k' i' o' T T' KK KK' HI false:=by
 cbv at ok'
 rcases h with⟨rfl,rfl,rfl,rfl,rfl⟩|⟨rfl,rfl,rfl,rfl,rfl⟩|⟨rfl,rfl,rfl,rfl,rfl,rfl⟩
 all_goals
  exact EJ
theorem Ff{q:Bool}(hI:HI)(dG:b1=false)(h2:b2=false\/b2=true/\di=true)(h3:b3=false\/b3=true/\dq=true):YW P G E k i o k' i' o' T T' KK KK' HI q:=by
 cbv at ok;cbv at ok';subst dG
 exact Th
theorem Fe{q:Bool}(hI:HI)(dG:b1=true/\dn=true)(h2:b2=false\/b2=true/\di=true)(h3:b3=false\/b3=true/\dq=true):YW P G E k i o k' i' o' T T' KK KK' HI q:=by
 cbv at ok;cbv at ok';obtain⟨rfl,rfl⟩:=dG
 exact Th
end
end
theorem Ln:∀(d:Nat)(x y:PT),jN x<=d->jO x->jO y->V0 8 [.agg (mG x),.agg (mG y)] (pB (rk x y))
 |0,x,_,h,_,_=>by have:=LP x;omega
 |d+1,.mk k nm i o ks,.mk k' nm' i' o' ks',hd,hw,Ux=>by
  rw[jO]at hw Ux;obtain⟨Ai,pn⟩:=hw;obtain⟨hwl',Ie⟩:=Ux;rw[jN]at hd;have ihk:∀y∈ks,∀y'∈ks',V0 8 [.agg (mG y),.agg (mG y')] (pB (rk y y')):=fun y hy y' Ib=>Ln d y y' QX (WW pn hy) (WW Ie Ib)
  rw[mG,mG];obtain⟨b1,b2,b3,hu⟩:∃b1 b2 b3,uk k=(b1,b2,b3):=⟨_,_,_,rfl⟩
  have hU:=z02 hu;obtain⟨dk,jl⟩:∃b,decide (k=k')=b:=⟨_,rfl⟩
  obtain⟨dn,uY⟩:∃b,decide (nm=nm')=b:=⟨_,rfl⟩
  obtain⟨di,wG⟩:∃b,decide (i=i')=b:=⟨_,rfl⟩
  obtain⟨dq,xO⟩:∃b,decide (o=o')=b:=⟨_,rfl⟩
  have eS:=CO ks;have EZ:=CO ks';have aU:=CD ks;have UC:=CD ks';obtain⟨R,hR⟩:∃R,oO ks=R:=⟨_,rfl⟩
  obtain⟨R',lT⟩:∃R,oO ks'=R:=⟨_,rfl⟩
  rw[hR]at eS aU ⊢;rw[lT]at EZ UC ⊢;clear hR lT;obtain⟨M,hM⟩:∃M:Int,((R.length:Nat):Int)=M:=⟨_,rfl⟩
  obtain⟨M',hM'⟩:∃M:Int,((R'.length:Nat):Int)=M:=⟨_,rfl⟩
  obtain⟨dl,jJ⟩:∃b,decide (M=M')=b:=⟨_,rfl⟩
  have FX:decide (ks.length=ks'.length)=dl:=by rw[<-jJ];grind
  obtain⟨hb,KI⟩:∃b,(dk&&(!b1||dn)&&(!b2||di)&&(!b3||dq))=b:=⟨_,rfl⟩
  obtain⟨q,hq⟩:∃q,rk (.mk k nm i o ks) (.mk k' nm' i' o' ks')=q:=⟨_,rfl⟩
  rw[hq];rw[rk,hu,jl,uY,wG,xO,KI,FX]at hq;have UJ:decide (bL nm=bL nm')=dn:=by rw[<-uY];exact fM.2 ⟨yg,aG bL⟩
  obtain⟨T,hT⟩:∃T,bL nm=T:=⟨_,rfl⟩
  obtain⟨T',Vy⟩:∃T,bL nm'=T:=⟨_,rfl⟩
  rw[hT,Vy]at UJ ⊢;refine zZ aN dO (f:=8) Tryz.func8 rfl kR (oT kR) ?_
  refine aY.cutK 2 77 [2,3,4] 2 (fun _:Unit=>[.own 0 0,.own 1 0,.p (pB false)]) (fun _=>IZ k i o k' i' o' T T' (.ro 5 R) (.ro 5 R')) (fun _=>(dk&&dl)=true) aN mixed (fun _=>0) (fun E=>jF E cK Tryz.f8.results.toList (pB q)) kR ?_ ?_
  ·intro P G E hc tZ hE;exact Fg mr (by rw[hE];exact hM') jl jJ aZ (fun e=>by grind) id
  ·rintro _ tX
   have yZ:dk=true:=by cases dk<;>simp_all
   have jY:dl=true:=by cases dl<;>simp_all
   subst yZ jY;refine aY.cutK 2 77 [2,3,4] 2 (fun _:Unit=>[.own 0 0,.own 1 0,.p (pB false)]) (fun _=>IZ k i o k' i' o' T T' (.ro 5 R) (.ro 5 R')) (fun _=>hb=true) aN mixed (fun _=>0) (fun E=>jF E cK Tryz.f8.results.toList (pB q)) kR ?_ ?_
   ·intro P G E hc tZ hE;have h1:=hc _ _ _ hU;have e2:E.eq T T'=dn:=by rw[hE];exact UJ
    have key:=z5y true b1 dn b2 di b3 dq
    rcases key with⟨h,h2⟩|⟨ha,UP,qv,wH,Az⟩
    ·rw[h2]at KI;subst KI;have e0:false=q:=aZ
     subst e0
     rcases h with h|h|h|h|h|h|h|h
     ·cases h
     ·exact vm h1 rfl rfl e2 wG xO (.inl h.2)
     ·exact vm h1 rfl rfl e2 wG xO (.inr (.inl h.2))
     ·exact vm h1 rfl rfl e2 wG xO (.inr (.inr (.inl h.2)))
     ·exact vm h1 rfl rfl e2 wG xO (.inr (.inr (.inr h.2)))
     ·exact DG h1 rfl rfl e2 wG xO (.inl h.2)
     ·exact DG h1 rfl rfl e2 wG xO (.inr (.inl h.2))
     ·exact DG h1 rfl rfl e2 wG xO (.inr (.inr h.2))
    ·rcases UP with UP|UP
     ·exact Ff h1 rfl rfl e2 wG xO (KI.symm.trans Az) UP qv wH
     ·exact Fe h1 rfl rfl e2 wG xO (KI.symm.trans Az) UP qv wH
   ·rintro _ jn
    subst jn;rw[bP,bP]at hq;have hlen:ks.length=ks'.length:=oT FX;clear hU uY jl wG xO KI UJ hT Vy hu jJ FX tX;obtain⟨μ,hμ⟩:∃μ:Int×List PT×List PT->Nat,∀x,μ x=x.2.1.length:=⟨_,fun _=>rfl⟩
    refine aY.of aN mixed (fun n=>match n with|9=>10|_=>0) kR (fun E=>jF E cK Tryz.f8.results.toList (pB q)) fun P G E hc tZ hE=>?_
    have l0:E.ofN R.length=M:=mr
    cbv at l0;cbv;refine gU 77 [2,3,4,8] 2 (fun x:Int×List PT×List PT=>[.own 0 0,.own 1 0,.p (pB false),.p (pI x.1)]) (fun _=>IZ k i o k' i' o' T T' (.ro 5 R) (.ro 5 R')) (A7 ks ks' q) μ (0,ks,ks') r5 ⟨rfl,rfl,bU 0,by simp,hlen,hq⟩ ?_
    rintro⟨j,l,l'⟩ hI
    obtain⟨g1,g2,g3,g4,g5,g6⟩:=id hI;simp only at g1 g2 g3 g4 g5 g6;replace hM:((R.length:Nat):Int)=M:=hM;replace g4:j+((l.length:Nat):Int)=((ks.length:Nat):Int):=g4
    cases l with
    |nil=>
     have d2:E.lti j M=false:=ZE
     have e0:true=q:=by rw[<-g6];cases l'<;>rfl
     subst e0;clear hc tZ hE ihk;cbv;exact aa trivial
    |cons z l=>
     cases l' with
     |nil=>simp at g5
     |cons z' l'=>
      have d2:E.lti j M=true:=JG
      have p0:E.ple 0 j:=by rw[hE];exact g3
      obtain⟨j2,oA⟩:∃i2,j+1=i2:=⟨_,rfl⟩
      have ea:E.wadd .i64 j 1=j2:=by rw[hE,<- oA];exact jX oM oM
      obtain⟨k1,q1,o1,n1,K1,hv⟩:=BO z;obtain⟨k2,q2,o2,n2,K2,aj⟩:=BO z';have hz:ks[j.toNat]?=some z:=by
       exact H5
      have pi:ks'[j.toNat]?=some z':=by
       have:=aG (fun r:List PT=>r[0]?) g2
       grind
      have r0:R[E.nat j]?=some [pI k1,pS n1,pI q1,pI o1,.ro 5 K1]:=by rw[hE];show R[j.toNat]?=_;grind
      have r1:R'[E.nat j]?=some [pI k2,pS n2,pI q2,pI o2,.ro 5 K2]:=by rw[hE];show R'[j.toNat]?=_;grind
      have eD:=ihk z (aJ hz) z' (aJ pi);rw[hv,aj]at eD
      cases dM:rk z z' with
      |true=>
       rw[dM]at eD;replace eD:=hc _ _ _ eD;have hx:=(hI.next oA dM).1;have oU:μ (j2,l,l')<μ (j,z::l,z'::l'):=aZ
       clear hc tZ hE ihk;cbv;refine aa ?_;exact EK
      |false=>
       rw[dM]at eD;replace eD:=hc _ _ _ eD;have e0:false=q:=by rw[<-g6,BJ,dM,cD]
       subst e0;clear hc tZ hE ihk;exact EJ
def needK(k:Int):Bool:=decide (k=12)||(decide (k=16)||(decide (k=17)||(decide (k=28)||(decide (k=29)||(decide (k=30)||decide (k=31))))))
mutual
def vB:PT->Prop
 | .mk k _ _ _ ks=>(needK k=true->ks≠[])/\ks.length<=2000000/\ab ks
def ab:List PT->Prop
 |[]=>True
 |x::l=>vB x/\ab l
end
mutual
theorem vB.wid:∀{x:PT},vB x->jO x
 | .mk k nm i o ks,h=>by rw[jO];exact⟨h.2.1,ab.wid h.2.2⟩
theorem ab.wid:∀{l:List PT},ab l->tF l
 |[],_=>by trivial
 |x::l,h=>by rw[tF];exact⟨vB.wid h.1,ab.wid h.2⟩
end
theorem Pn:∀{a b:List PT},ab (a++b) ↔ ab a/\ab b
 |[],b=>by simp[ab]
 |x::a,b=>by rw[pD,ab,ab,Pn (a:=a),and_assoc]
theorem K7:∀a b:List PT,rI (a++b)=max (rI a) (rI b)
 |[],b=>by simp[rI]
 |x::a,b=>by rw[pD,rI,rI,K7 a b];omega
def RS.lst:RS->Bool
 | .stms|.stmsL _|.names|.namesL _|.list _|.listL _ _=>true
 |_=>false
def YX(t:Bool)(n B:Nat):RV->Prop
 | .nd x=>t=false/\vB x/\jN x+3*n<=B
 | .ls l=>t=true/\l.length<=1000001/\ab l/\rI l+3*n<=B
def qF(n B:Nat):RS->Prop
 | .stmsL acc|.listL _ acc|.objL acc|.namesL acc|.declsL _ acc=>acc.length+n<=1000000/\ab acc/\rI acc+3*n<=B
 | .lvL _ x|.newL x|.chainL x=>n<=1000000/\vB x/\jN x+3*n<=B
 | .tryR=>n<=1000000/\3*n+3<=B
 |_=>n<=1000000/\3*n<=B
def RS.st:RS->Nat
 | .stm=>1
 |_=>0
def Inv(t:Bool):RP->Nat->Nat->Prop
 | .ret v,n,B=>YX t n B v
 | .tail s,n,B=>s.lst=t/\qF n B s
 | .call s k,n,B=>(s.lst=false/\qF n (3*n) s)/\∀x n',n'+s.st<=n->vB x->jN x+3*n'<=3*n->Inv t (k x) n' B
 | .calls s k,n,B=>(s.lst=true/\qF n (3*n) s)/\∀ks n',n'<=n->ks.length<=1000001->ab ks->rI ks+3*n'<=3*n->Inv t (k ks) n' B
 | .need _ k,n,B=>∀n',n=n'+1->Inv t k n' B
 | .take _ x y,n,B=>(∀n',n=n'+1->Inv t x n' B)/\Inv t y n B
 | .at_ _ _ x y,n,B=>Inv t x n B/\Inv t y n B
 | .kdI _ _ x y,n,B=>Inv t x n B/\Inv t y n B
 | .name k,n,B=>∀s n',n=n'+1->Inv t (k s) n' B
 | .key k,n,B=>∀s n',n=n'+1->Inv t (k s) n' B
 | .oper _ _ k,n,B=>(∀q n',n=n'+1->q≠0->Inv t (k q) n' B)/\Inv t (k 0) n B
 | .bad _ y,n,B=>Inv t y n B
 | .eof x y,n,B=>(n=0->Inv t x n B)/\(1<=n->Inv t y n B)
 | .skip j k,n,B=>Inv t k (n-j) B
 | .ptx _ k,n,B=>∀s,Inv t (k s) n B
 | .kdv _ k,n,B=>∀q,Inv t (k q) n B
 | .fail _,_,_=>True
 | .ahead x y,n,B=>Inv t x n B/\Inv t y n B
theorem Q1{l:Ts}{w:Bs}(h:aL l 0 w=true):l.length=(l.drop 1).length+1:=by have:=nH h;grind
theorem MY{l:Ts}{k:Int}(h:kd l 0=k)(hk:k≠0):l.length=(l.drop 1).length+1:=by have:=kJ h hk;grind
theorem wQ{R:RR}(hR:∀s l b,nW l b (R s l b))(hI:∀s l v l' B,R s l false=(v,l',false)->W l->qF l.length B s->YX s.lst l'.length B v)(hS:∀l v l',R .stm l false=(v,l',false)->l'.length<l.length)(t:Bool):
  ∀(p:RP)(l:Ts)(v:RV)(l':Ts)(B:Nat),W l->Inv t p l.length B->Gd R p l v l'->YX t l'.length B v
 | .ret v0,l,v,l',B,w,h,g=>by obtain⟨rfl,rfl⟩:=g.ret;exact h
 | .tail s,l,v,l',B,w,h,g=>by
  have:=hI _ _ _ _ B g.tail w h.2
  rwa[h.1]at this
 | .call s k,l,v,l',B,w,h,g=>by
  obtain⟨x,l1,g1,hs,w1,g⟩:=Gd.call hR w g;have h1:=hI _ _ _ _ _ g1 w h.1.2;rw[h.1.1]at h1
  cases x with
  |ls q=>cases h1.1
  |nd x=>exact wQ hR hI hS t _ _ _ _ B w1 (h.2 x _ (by cases s<;>first|exact hS _ _ _ g1|exact hs.length_le) h1.2.1 h1.2.2) g
 | .calls s k,l,v,l',B,w,h,g=>by
  obtain⟨x,l1,g1,hs,w1,g⟩:=Gd.calls hR w g;have h1:=hI _ _ _ _ _ g1 w h.1.2;rw[h.1.1]at h1
  cases x with
  |nd q=>cases h1.1
  |ls x=>exact wQ hR hI hS t _ _ _ _ B w1 (h.2 x _ hs.length_le h1.2.1 h1.2.2.1 h1.2.2.2) g
 | .need s k,l,v,l',B,w,h,g=>by
  obtain⟨hi,w1,g⟩:=Gd.need hR w g;exact wQ hR hI hS t _ _ _ _ B w1 (h _ (Q1 hi)) g
 | .take s x y,l,v,l',B,w,h,g=>by
  rcases Gd.take w g with⟨hi,w1,g⟩|⟨hi,g⟩
  ·exact wQ hR hI hS t _ _ _ _ B w1 (h.1 _ (Q1 hi)) g
  ·exact wQ hR hI hS t _ _ _ _ B w h.2 g
 | .at_ n s x y,l,v,l',B,w,h,g=>by
  rcases g.at_ with⟨hi,g⟩|⟨hi,g⟩
  ·exact wQ hR hI hS t _ _ _ _ B w h.1 g
  ·exact wQ hR hI hS t _ _ _ _ B w h.2 g
 | .kdI n k x y,l,v,l',B,w,h,g=>by
  rcases g.kdI with⟨hi,g⟩|⟨hi,g⟩
  ·exact wQ hR hI hS t _ _ _ _ B w h.1 g
  ·exact wQ hR hI hS t _ _ _ _ B w h.2 g
 | .name k,l,v,l',B,w,h,g=>by
  obtain⟨hk,w1,g⟩:=Gd.name hR w g;exact wQ hR hI hS t _ _ _ _ B w1 (h _ _ (MY hk aT)) g
 | .key k,l,v,l',B,w,h,g=>by
  obtain⟨hk,w1,g⟩:=Gd.key hR w g;exact wQ hR hI hS t _ _ _ _ B w1 (h _ _ (hk.elim (fun e=>MY e aT) fun e=>MY e aT)) g
 | .oper fr cnt k,l,v,l',B,w,h,g=>by
  rcases Gd.oper w g with⟨hk,hf,w1,g⟩|⟨hf,g⟩
  ·exact wQ hR hI hS t _ _ _ _ B w1 (h.1 _ _ (hk.elim (fun e=>MY e aT) fun e=>MY e aT) hf) g
  ·exact wQ hR hI hS t _ _ _ _ B w h.2 g
 | .bad x y,l,v,l',B,w,h,g=>wQ hR hI hS t y _ _ _ B w h g.bad
 | .eof x y,l,v,l',B,w,h,g=>by
  rcases g.eof with⟨hi,g⟩|⟨hi,g⟩
  ·exact wQ hR hI hS t _ _ _ _ B w (h.1 (by rw[hi];rfl)) g
  ·exact wQ hR hI hS t _ _ _ _ B w (h.2 (aV.2 hi)) g
 | .skip j k,l,v,l',B,w,h,g=>by
  obtain⟨w1,g⟩:=Gd.skip w g;exact wQ hR hI hS t _ _ _ _ B w1 (by rw[yR];exact h) g
 | .ptx n k,l,v,l',B,w,h,g=>wQ hR hI hS t (k _) _ _ _ B w (h _) g.ptx
 | .kdv n k,l,v,l',B,w,h,g=>wQ hR hI hS t (k _) _ _ _ B w (h _) g.kdv
 | .fail x,l,v,l',B,w,h,g=>(Gd.fail hR g).elim
 | .ahead x y,l,v,l',B,w,h,g=>by
  rcases g.ahead with⟨hi,g⟩|⟨hi,g⟩
  ·exact wQ hR hI hS t _ _ _ _ B w h.1 g
  ·exact wQ hR hI hS t _ _ _ _ B w h.2 g
theorem iIf{t:Bool}{c:Prop} [Decidable c] {x y:RP} {n B:Nat} (h1:c->Inv t x n B) (h2:¬c->Inv t y n B):Inv t (if c then x else y) n B:=by
 grind
theorem z0y(n:Nat)(l:Ts)(b:Bool):rμ (bN (n+1) .stm l b).2.1 (bN (n+1) .stm l b).2.2<rμ l b\/(bN (n+1) .stm l b).2.2=true:=by
 have hR:=nC n;have hN:∀{w:Bs}{k:RP}{l:Ts}{b:Bool},tG (bN n) (.need w k) l b:=fun{w k l b}=>HR hR
 have hE:∀l b,tG (bN n) (.call .assign fun x=>.need mH (iR (nd 26 [x]))) l b:=fun l b=>K8 hR fun _ _ _=>hN
 have h3:∀l b,tG (bN n) YL l b:=fun l b=>wR hR (wR hR (hE l b))
 have h2:∀l b,tG (bN n) ye l b:=fun l b=>LN (by cases n with
  |zero=>exact .inr rfl
  |succ n=>exact WK (HR (nC n))) (wR hR (wR hR (wR hR (wR hR (wR hR (wR hR (wR hR (h3 l b))))))))
 have hF:∀l b,tG (bN n) (.tail (.func true)) l b:=fun l b=>by
  cases n with
  |zero=>exact .inr rfl
  |succ n=>exact WK (wR (nC n) (HR (nC n)))
 show tG (bN n) sx l b;exact Ss
theorem zI{p:Prop} (hp:p:=by
 simp only[gr,YQ,NB,VL,sx,ye,YL,Et,NC,GP,BE,YJ,Eu,ND,Qa,Ed,NF,vo,NT,IV,NE,BT,YI,GO,vq,HO,cx,mj,VO,BF,DH,GQ,BV,O7,YK,vp,VZ,VN,RP.isFn,iR,rZ,Inv,RS.lst,RS.st]
 repeat' (first
  |trivial
  |rfl
  |assumption
  |omega
  |exact bZ _ _
  |exact List.append_ne_nil_of_right_ne_nil _ (bZ _ _)
  |(intro tu)
  |(subst tu)
  |exact absurd tu aT
  |(refine And.intro ?_ ?_)
  |(refine iIf ?_ ?_)
  |(simp only[nd,dV,fR,jN,rI,K7,sE,qD,bW];omega)
  |(simp only[nd,dV,fR,vB,ab,Pn]at *)
  |fail)
 all_goals fail):p:=hp
theorem z7z{n B:Nat}(h:qF n B .stms):Inv true (gr .stms) n B:=by
 exact af
theorem z3l{n B:Nat}{acc:List PT}(h:qF n B (.stmsL acc)):Inv true (gr (.stmsL acc)) n B:=by
 exact zw
theorem xcw{n B:Nat}(h:qF n B .stm):Inv false (gr .stm) n B:=by
 exact af
theorem z3r{n B:Nat}(h:qF n B .block):Inv false (gr .block) n B:=by
 exact af
theorem z3p{n B:Nat}{k:Int}(h:qF n B (.decls k)):Inv false (gr (.decls k)) n B:=by
 exact af
theorem Xv{n B:Nat}{k:Int}{acc:List PT}(h:qF n B (.declsL k acc)):Inv false (gr (.declsL k acc)) n B:=by
 exact zw
theorem z79{n B:Nat}(h:qF n B .cond):Inv false (gr .cond) n B:=by
 exact af
theorem z76{n B:Nat}(h:qF n B .loop):Inv false (gr .loop) n B:=by
 exact af
theorem z7y{n B:Nat}(h:qF n B .tryR):Inv false (gr .tryR) n B:=by
 exact af
theorem z78{n B:Nat}{d:Bool}(h:qF n B (.func d)):Inv false (gr (.func d)) n B:=by
 exact af
theorem z3m{n B:Nat}(h:qF n B .names):Inv true (gr .names) n B:=by
 exact af
theorem Xw{n B:Nat}{acc:List PT}(h:qF n B (.namesL acc)):Inv true (gr (.namesL acc)) n B:=by
 exact zw
theorem z3s{n B:Nat}(h:qF n B .arrow):Inv false (gr .arrow) n B:=by
 exact af
theorem Xt{n B:Nat}(h:qF n B .assign):Inv false (gr .assign) n B:=by
 exact af
theorem xg2{n B:Nat}{k:Nat}(h:qF n B (.lv k)):Inv false (gr (.lv k)) n B:=by
 exact af
theorem xcy{n B:Nat}{k:Nat}{x:PT}(h:qF n B (.lvL k x)):Inv false (gr (.lvL k x)) n B:=by
 exact zw
theorem z3k{n B:Nat}(h:qF n B .unary):Inv false (gr .unary) n B:=by
 exact af
theorem z77{n B:Nat}{e:Bs}(h:qF n B (.list e)):Inv true (gr (.list e)) n B:=by
 exact af
theorem z3n{n B:Nat}{e:Bs}{acc:List PT}(h:qF n B (.listL e acc)):Inv true (gr (.listL e acc)) n B:=by
 exact zw
theorem z3q{n B:Nat}(h:qF n B .chain):Inv false (gr .chain) n B:=by
 exact af
theorem z74{n B:Nat}{x:PT}(h:qF n B (.newL x)):Inv false (gr (.newL x)) n B:=by
 exact zw
theorem Xu{n B:Nat}{x:PT}(h:qF n B (.chainL x)):Inv false (gr (.chainL x)) n B:=by
 exact zw
theorem z71{n B:Nat}(h:qF n B .prim):Inv false (gr .prim) n B:=by
 exact af
theorem xcx{n B:Nat}(h:qF n B .obj):Inv false (gr .obj) n B:=by
 exact af
theorem z73{n B:Nat}{acc:List PT}(h:qF n B (.objL acc)):Inv false (gr (.objL acc)) n B:=by
 exact zw
theorem z3o{n B:Nat}(h:qF n B .field):Inv false (gr .field) n B:=by
 exact af
def kg:Nat->Nat->Ts->Nat
 |_,top,[]=>top
 |n,top,t::l=>match rO t with
  |0=>kg n top l
  |1=>kg (n+1) (max top (n+1)) l
  |_=>kg (n-1) top l
theorem WG:∀(l:Ts)(n top:Nat),top<=kg n top l
 |[],n,top=>nR _
 |t::l,n,top=>by
  rw[kg]
  split
  ·exact WG l _ _
  ·have:=WG l (n+1) (max top (n+1));omega
  ·exact WG l _ _
theorem XS:∀(l:Ts)(n top:Nat),top<=128->decide (128<kg n top l)=uO n l
 |[],n,top,h=>dF (by rw[kg];omega)
 |t::l,n,top,h=>by
  rw[kg,uO];generalize rO t=b
  match b with
  |0=>exact XS l _ _ h
  |1=>
   show decide (128<kg (n+1) (max top (n+1)) l)=if 128<n+1 then true else uO (n+1) l
   split
   ·have:=WG l (n+1) (max top (n+1))
    grind
   ·exact XS l _ _ oM
  |b+2=>exact XS l _ _ h
structure lb(toks:List Tk)(q:Nat)(x:Int×Int×Int×Ts×Nat×Nat):Prop where
 d:toks.drop x.1.toNat=x.2.2.2.1
 i0:0<=x.1
 i1:x.1+((x.2.2.2.1.length:Nat):Int)=((toks.length:Nat):Int)
 m:((x.2.2.2.2.1:Nat):Int)=x.2.1
 t:((x.2.2.2.2.2:Nat):Int)=x.2.2.1
 m1:x.2.2.2.2.1+x.2.2.2.1.length<=toks.length
 q:kg x.2.2.2.2.1 x.2.2.2.2.2 x.2.2.2.1=q
 t1:x.2.2.2.2.2<=toks.length
theorem z6y(n:Int)(toks:List Tk)(hz:toks.length<=1000000):V0 15 [.ro 3 (lF n toks)] (pI (kg 0 0 toks:Nat)):=by
 obtain⟨q,hq⟩:∃q,kg 0 0 toks=q:=⟨_,rfl⟩
 rw[hq];obtain⟨qi,Ao⟩:∃z:Int,((q:Nat):Int)=z:=⟨_,rfl⟩
 rw[Ao];have eS:=vh n toks;have aU:∀(j:Nat)(t:Tk),toks[j]?=some t->(lF n toks)[j]?=some [pI t.k,pS (bL t.t),pI (n-(t.rem:Nat))]:=fun j t ht=>by
  unfold lF;rw[aH,ht];rfl
 obtain⟨LR,tB⟩:∃x,lF n toks=x:=⟨_,rfl⟩
 rw[tB]at eS aU;rw[tB];obtain⟨M,hM⟩:∃M:Int,((toks.length:Nat):Int)=M:=⟨_,rfl⟩
 obtain⟨μ,hμ⟩:∃μ:Int×Int×Int×Ts×Nat×Nat->Nat,∀x,μ x=x.2.2.2.1.length:=⟨_,fun _=>rfl⟩
 refine dE aN dO mixed (fun _=>0) Tryz.func15 rfl kR kR rfl fun P G E hc hE=>?_
 have l0:E.ofN LR.length=M:=by rw[hE,eS];exact hM
 cbv at l0;have x0:lb toks q (0,0,0,toks,0,0):=⟨rfl,bU 0,by simp,rfl,rfl,by simp,hq,aP _⟩
 cbv;refine gU 40 [0,2,3,4,5] 0 (fun x:Int×Int×Int×Ts×Nat×Nat=>[.p (.ro 3 LR),.p (pI 0),.p (pI x.2.1),.p (pI x.2.2.1),.p (pI x.1)]) (fun _=>[]) (lb toks q) μ (0,0,0,toks,0,0) r5 x0 ?_
 rintro⟨i,op,tp,l,m,tm⟩ hI
 obtain⟨g1,g2,g3,g4,g9,g5,g6,g8⟩:=hI;simp only at g1 g2 g3 g4 g5 g6 g8 g9;replace hM:((toks.length:Nat):Int)=M:=hM;replace g9:((tm:Nat):Int)=tp:=g9;replace Ao:((q:Nat):Int)=qi:=Ao
 cases l with
 |nil=>
  have d1:E.lti i M=false:=ZE
  have e0:tp=qi:=by rw[<-g9,<- Ao,<- g6];rfl
  subst e0;exact He
 |cons t l=>
  have d1:E.lti i M=true:=JG
  have ht:toks[i.toNat]?=some t:=by
   have:=aG (fun r:List Tk=>r[0]?) g1
   grind
  have p0:E.ple 0 i:=by rw[hE];exact g2
  have r0:LR[E.nat i]?=some [pI t.k,pS (bL t.t),pI (n-(t.rem:Nat))]:=by rw[hE];exact aU _ t ht
  obtain⟨i2,mX⟩:∃i2,i+1=i2:=⟨_,rfl⟩
  have ea:E.wadd .i64 i 1=i2:=EH
  have n1:toks.drop i2.toNat=l:=by
   have:i2.toNat=i.toNat+1:=dU
   rw[this,<- yS,g1];rfl
  have n2:0<=i2:=dU
  have n3:i2+((l.length:Nat):Int)=((toks.length:Nat):Int):=aZ
  simp only[qD]at g5;have oU:∀(op' tp':Int)(m' t':Nat),μ (i2,op',tp',l,m',t')<μ (i,op,tp,t::l,m,tm):=fun op' tp' m' t'=>by grind
  have eqs:∀w:Bs,E.eq (bL t.t) (bL w)=decide (t.t=w):=fun w=>by
   rw[hE];exact fM.2 ⟨yg,aG bL⟩
  rw[kg]at g6;obtain⟨K,hK⟩:∃K,t.k=K:=⟨_,rfl⟩
  obtain⟨T,hT⟩:∃T,bL t.t=T:=⟨_,rfl⟩
  obtain⟨Z,hZ⟩:∃Z,n-((t.rem:Nat):Int)=Z:=⟨_,rfl⟩
  rw[hK,hT,hZ]at r0;rw[hT]at eqs;replace g4:((m:Nat):Int)=op:=g4
  rcases dP (K=5)with hk|hk
  ·have dk:decide (K=5)=true:=aA hk;have hb:rO t=brk t.t:=by unfold rO;rw[hK,aF hk]
   rcases dP (t.t=jD)with hw|mu
   ·exact Hl
   rcases dP (t.t=uD)with hw|lf
   ·exact Hl
   rcases dP (t.t=nS)with hw|Ig
   ·exact Hl
   rcases dP (t.t=eG)with hw|hw4
   ·exact Hm
   rcases dP (t.t=xB)with hw|hw5
   ·exact Hm
   rcases dP (t.t=uC)with hw|hw6
   ·exact Hm
   have i7:rO t=0:=by
    rw[hb];unfold brk
    grind
   rw[i7]at g6;have w1:E.eq T (bL jD)=false:=aZ
   have w2:E.eq T (bL uD)=false:=aZ
   have w3:E.eq T (bL nS)=false:=aZ
   have w4:E.eq T (bL eG)=false:=aZ
   have w5:E.eq T (bL xB)=false:=aZ
   have w6:E.eq T (bL uC)=false:=aZ
   cbv at w1 w2 w3 w4 w5 w6;have hx:lb toks q (i2,op,tp,l,m,tm):=⟨n1,n2,n3,g4,g9,by grind,g6,g8⟩
   have hy:=oU op tp m tm;cbv;refine aa ?_;exact .mk _ r5 hx hy
  ·have dk:decide (K=5)=false:=dF hk;have i7:rO t=0:=by unfold rO;rw[hK,aE hk]
   rw[i7]at g6;have hx:lb toks q (i2,op,tp,l,m,tm):=⟨n1,n2,n3,g4,g9,by grind,g6,g8⟩
   have hy:=oU op tp m tm;cbv;refine aa ?_;exact .mk _ r5 hx hy
theorem LM:∀{l:List PT}{x:PT},ab l->x∈l->vB x
 |[],_,_,h=>by cases h
 |y::l,x,hs,h=>by
  rcases fJ.1 h with rfl|h
  ·exact hs.1
  ·exact LM hs.2 h
structure tN(ks:List PT)(j:Int)(l:List PT):Prop where
 d:ks.drop j.toNat=l
 i0:0<=j
 i1:j+((l.length:Nat):Int)=((ks.length:Nat):Int)
theorem tN.start(ks:List PT):tN ks 0 ks:=⟨rfl,bU 0,by simp⟩
theorem tN.next{ks:List PT}{j j2:Int}{z:PT}{l:List PT}(h:tN ks j (z::l))(hj:j+1=j2):tN ks j2 l:=by
 obtain⟨g1,g2,g3⟩:=h;have e:j2.toNat=j.toNat+1:=dU
 exact⟨by rw[e,<- yS,g1];rfl,by omega,by grind⟩
theorem tN.get{ks:List PT}{j:Int}{z:PT}{l:List PT}(h:tN ks j (z::l)):ks[j.toNat]?=some z:=by
 have:=aG (fun r:List PT=>r[0]?) h.d
 grind
structure KdF(E:SO)(R:List (List PV))(M j j2 k i o:Int)(nm:ByteArray)(KK:List (List PV)):Prop where
 lt:E.lti j M=true
 pl:E.ple 0 j
 ad:E.wadd .i64 j 1=j2
 gt:R[E.nat j]?=some [pI k,pS nm,pI i,pI o,.ro 5 KK]
theorem tN.fact{E:SO}(hE:E=bK){ks:List PT}(hz:ks.length<=2000000){j:Int}{z:PT}{l:List PT}(h:tN ks j (z::l)){R:List (List PV)}(hR:oO ks=R){M:Int}(hM:((R.length:Nat):Int)=M):∃j2 k i o nm KK,j+1=j2/\mG z=[pI k,pS nm,pI i,pI o,.ro 5 KK]/\KdF E R M j j2 k i o nm KK:=by
 obtain⟨k,i,o,nm,KK,hv⟩:=BO z;have hg:=h.get;have h1:=h.i0;have h2:=h.i1;have hl:R.length=ks.length:=ED
 simp only[qD]at h2;refine⟨j+1,k,i,o,nm,KK,rfl,hv,by rw[hE];exact aA oM,by rw[hE];exact h1,by rw[hE];exact jX oM oM,?_⟩
 rw[hE];show R[j.toNat]?=_;rw[<-hR,CD,hg,<- hv];rfl
theorem tN.stop{E:SO}(hE:E=bK){ks:List PT}{j:Int}(h:tN ks j []){R:List (List PV)}(hR:oO ks=R){M:Int}(hM:((R.length:Nat):Int)=M):E.lti j M=false:=by
 have h2:=h.i1;have hl:R.length=ks.length:=ED
 simp only[bW]at h2;rw[hE];exact dF oM
theorem Z3(x:PT):V0 79 [.agg (mG x)] (pB (mb x)):=by
 cases x with
 |mk k nm i o ks=>
  rw[mG];show V0 _ _ (pB (decide (k=7)||(decide (k=18)||decide (k=19))));obtain⟨R,hR⟩:∃R,oO ks=R:=⟨_,rfl⟩
  obtain⟨T,hT⟩:∃T,bL nm=T:=⟨_,rfl⟩
  rw[hR,hT];obtain⟨b1,h1⟩:∃b,decide (k=7)=b:=⟨_,rfl⟩
  obtain⟨b2,h2⟩:∃b,decide (k=18)=b:=⟨_,rfl⟩
  obtain⟨b3,h3⟩:∃b,decide (k=19)=b:=⟨_,rfl⟩
  rw[h1,h2,h3];clear hR hT
  cases b1<;>cases b2<;>cases b3
  all_goals
   refine dE aN dO mixed (fun _=>0) Tryz.func79 rfl kR kR rfl fun P G E hc hE=>?_
   exact RO
theorem z1o(x:PT):V0 106 [.agg (mG x)] (pB (rK x)):=by
 cases x with
 |mk k nm i o ks=>
  rw[mG];show V0 _ _ (pB (decide (k=24)||(decide (k=25)||decide (k=11))));obtain⟨R,hR⟩:∃R,oO ks=R:=⟨_,rfl⟩
  obtain⟨T,hT⟩:∃T,bL nm=T:=⟨_,rfl⟩
  rw[hR,hT];obtain⟨b1,h1⟩:∃b,decide (k=24)=b:=⟨_,rfl⟩
  obtain⟨b2,h2⟩:∃b,decide (k=25)=b:=⟨_,rfl⟩
  obtain⟨b3,h3⟩:∃b,decide (k=11)=b:=⟨_,rfl⟩
  rw[h1,h2,h3];clear hR hT
  cases b1<;>cases b2<;>cases b3
  all_goals
   refine dE aN dO mixed (fun _=>0) Tryz.func106 rfl kR kR rfl fun P G E hc hE=>?_
   exact RO
theorem K6:∀(d:Nat)(x:PT),jN x<=d->d<=4000000->vB x->V0 20 [.agg (mG x)] (pI (jN x:Nat))
 |0,x,h,_,_=>by have:=LP x;omega
 |d+1,.mk k nm i o ks,hd,hz,hw=>by
  rw[vB]at hw;rw[jN]at hd;have ihk:∀y∈ks,V0 20 [.agg (mG y)] (pI (jN y:Nat)):=fun y hy=>K6 d y QX oM (LM hw.2.2 hy)
  have u4:∀y∈ks,jN y<=rI ks:=fun y hy=>Dt hy
  rw[mG,jN];obtain⟨D,hD⟩:∃D,rI ks=D:=⟨_,rfl⟩
  rw[hD]at hd u4 ⊢;obtain⟨q,hq⟩:∃q:Int,((D+1:Nat):Int)=q:=⟨_,rfl⟩
  rw[hq];have lI:=hw.2.1;obtain⟨R,hR⟩:∃R,oO ks=R:=⟨_,rfl⟩
  obtain⟨T,hT⟩:∃T,bL nm=T:=⟨_,rfl⟩
  rw[hR,hT];obtain⟨M,hM⟩:∃M:Int,((R.length:Nat):Int)=M:=⟨_,rfl⟩
  obtain⟨μ,hμ⟩:∃μ:Int×Int×List PT->Nat,∀x,μ x=x.2.2.length:=⟨_,fun _=>rfl⟩
  refine dE aN dO mixed (fun _=>0) Tryz.func20 rfl kR kR rfl fun P G E hc hE=>?_
  have l0:E.ofN R.length=M:=mr
  cbv at l0;have x0:tN ks 0 ks/\∃m:Nat,((m:Nat):Int)=0/\max m (rI ks)=D:=⟨tN.start ks,0,rfl,by omega⟩
  cbv;refine gU 22 [1,2,3,4] 1 (fun x:Int×Int×List PT=>[.own 0 0,.p (pI 0),.p (pI x.2.1),.p (pI x.1)]) (fun _=>[some (.box [.p (pI k),.p (pS T),.p (pI i),.p (pI o),.p (.ro 5 R)] 25 none)]) (fun x=>tN ks x.1 x.2.2/\∃m:Nat,((m:Nat):Int)=x.2.1/\max m (rI x.2.2)=D) μ (0,0,ks) r5 x0 ?_
  rintro⟨j,dd,l⟩ ⟨g1,m,g2,g3⟩
  simp only at g1 g2 g3;replace hM:((R.length:Nat):Int)=M:=hM;replace hq:((D+1:Nat):Int)=q:=hq;replace g2:((m:Nat):Int)=dd:=g2
  cases l with
  |nil=>
   have d1:=g1.stop hE hR hM;have ea:E.wadd .i64 dd 1=q:=by rw[rI]at g3;rw[hE,<- hq];exact(jX oM oM).trans oM
   clear hc hE;cbv
   repeat (first|(simp only[l0];try cbv)|(simp only[d1];try cbv)|(simp only[ea];try cbv))
   all_goals trivial
  |cons z l=>
   obtain⟨j2,k1,i1,o1,n1,K1,hj,hv,f1,f2,f3,f4⟩:=g1.fact hE lI hR hM;have eD:V0 20 [.agg (mG z)] (pI ((jN z:Nat):Int)):=ihk z (aJ g1.get);rw[hv]at eD;obtain⟨z1,uR⟩:∃z1:Int,((jN z:Nat):Int)=z1:=⟨_,rfl⟩
   rw[uR]at eD;replace eD:=hc _ _ _ eD;obtain⟨d2,zE⟩:∃d2,E.max dd z1=d2:=⟨_,rfl⟩
   rw[rI]at g3;have hx:tN ks j2 l/\∃m:Nat,((m:Nat):Int)=d2/\max m (rI l)=D:=⟨g1.next hj,max m (jN z),by rw[<-zE,hE];show _=if z1>dd then z1 else dd;split<;>omega,by omega⟩
   have oU:μ (j2,d2,l)<μ (j,dd,z::l):=aZ
   clear hc hE;cbv;refine aa ?_;exact .mk _ r5 hx oU
theorem Mv:∀{ks:List PT}{z:PT},ks[ks.length-1]?=some z->nn ks=qO z
 |[],z,h=>by simp at h
 |[x],z,h=>by cases h;rfl
 |x::y::l,z,h=>by
  show nn (y::l)=_;refine Mv ?_;simpa using h
structure SC(E:SO)(R:List (List PV))(M j k i o:Int)(nm:ByteArray)(KK:List (List PV)):Prop where
 sb:E.wsub .i64 M 1=j
 pl:E.ple 0 j
 gt:R[E.nat j]?=some [pI k,pS nm,pI i,pI o,.ro 5 KK]
theorem Lt{E:SO}(hE:E=bK){ks:List PT}(hz:ks.length<=2000000)(eA:ks≠[]){R:List (List PV)}(hR:oO ks=R){M:Int}(hM:((R.length:Nat):Int)=M):∃z,z∈ks/\nn ks=qO z/\∃j k i o nm KK,mG z=[pI k,pS nm,pI i,pI o,.ro 5 KK]/\SC E R M j k i o nm KK:=by
 have hl:R.length=ks.length:=ED
 have hp:=aV.2 eA;obtain⟨z,uR⟩:∃z,ks[ks.length-1]?=some z:=⟨_,aB oM⟩
 obtain⟨k,i,o,nm,KK,hv⟩:=BO z;refine⟨z,aJ uR,Mv uR,M-1,k,i,o,nm,KK,hv,by rw[hE];exact jX oM oM,by rw[hE];show 0<=M-1;omega,?_⟩
 rw[hE];show R[(M-1).toNat]?=_;rw[show(M-1).toNat=ks.length-1 by omega,<- hR,CD,uR,<- hv]
 rfl
theorem Mb:∀(d:Nat)(x:PT),jN x<=d->vB x->V0 105 [.agg (mG x)] (pB (qO x))
 |0,x,h,_=>by have:=LP x;omega
 |d+1,.mk k nm i o ks,hd,hw=>by
  rw[vB]at hw;rw[jN]at hd;have ihk:∀y∈ks,V0 105 [.agg (mG y)] (pB (qO y)):=fun y hy=>Mb d y QX (LM hw.2.2 hy)
  obtain⟨q,hq⟩:∃q,qO (.mk k nm i o ks)=q:=⟨_,rfl⟩
  rw[hq,mG];rw[qO]at hq;have lI:=hw.2.1;obtain⟨R,hR⟩:∃R,oO ks=R:=⟨_,rfl⟩
  obtain⟨T,hT⟩:∃T,bL nm=T:=⟨_,rfl⟩
  rw[hR,hT];obtain⟨M,hM⟩:∃M:Int,((R.length:Nat):Int)=M:=⟨_,rfl⟩
  have hl:R.length=ks.length:=ED
  rcases dP (k=28/\ks.length=2)with hk|hk
  ·obtain⟨rfl,hk⟩:=hk;rw[aF ⟨rfl,hk⟩]at hq;subst hq;have d2:decide (M=2)=true:=aA oM
   refine dE aN dO mixed (fun _=>0) Tryz.func105 rfl kR kR rfl fun P G E hc hE=>?_
   have l0:E.ofN R.length=M:=mr
   cbv at l0;exact RO
  ·rw[aE hk]at hq
   rcases dP (k=28\/k=29\/k=30\/k=31)with yG|yG
   ·rw[aF yG]at hq;have eA:ks≠[]:=hw.1 (by rcases yG with rfl|rfl|rfl|rfl<;>rfl)
    have d2:k=28->decide (M=2)=false:=fun e=>dF fun h=>hk ⟨e,by omega⟩
    rcases yG with rfl|yG
    ·refine dE aN dO mixed (fun _=>0) Tryz.func105 rfl kR kR rfl fun P G E hc hE=>?_
     have l0:E.ofN R.length=M:=mr
     cbv;cbv at l0;obtain⟨z,hz,bx,j,k1,i1,o1,n1,K1,hv,f1,f2,f3⟩:=Lt hE lI eA hR hM;have eD:=ihk z hz;rw[hv,<- bx,hq]at eD;replace eD:=hc _ _ _ eD;clear hc hE
     repeat (first|(simp only[l0];try cbv)|(simp only[d2];try cbv)|(simp only[f1];try cbv)|(refine⟨f2,_,f3,?_⟩;cbv)|(refine⟨_,eD,?_⟩;cbv))
    ·rcases yG with rfl|rfl|rfl
     all_goals
      refine dE aN dO mixed (fun _=>0) Tryz.func105 rfl kR kR rfl fun P G E hc hE=>?_
      have l0:E.ofN R.length=M:=mr
      cbv;cbv at l0;obtain⟨z,hz,bx,j,k1,i1,o1,n1,K1,hv,f1,f2,f3⟩:=Lt hE lI eA hR hM;have eD:=ihk z hz;rw[hv,<- bx,hq]at eD;replace eD:=hc _ _ _ eD;clear hc hE
      repeat (first|(simp only[l0];try cbv)|(simp only[f1];try cbv)|(refine⟨f2,_,f3,?_⟩;cbv)|(refine⟨_,eD,?_⟩;cbv))
   ·rw[aE yG]at hq;subst hq;simp only[AZ]at yG;obtain⟨e1,e2,e3,e4⟩:=yG;replace e2:decide (k=29)=false:=dF e2;replace e3:decide (k=30)=false:=dF e3;replace e4:decide (k=31)=false:=dF e4;refine dE aN dO mixed (fun _=>0) Tryz.func105 rfl kR kR rfl fun P G E hc hE=>?_
    exact RO
def ij(c:Cx):List PV:=[pB c.lp,pB c.fn,pB c.gn,pB c.as_]
structure Ab(c:Cx)(ks:List PT)(lq:Bool)(fr:Int)(q:Bool)(x:Int×List PT):Prop where
 k:tN ks x.1 x.2
 q:vP c lq (fr-x.1).toNat x.2=q
theorem xev{c:Cx}{lq:Bool}{z:PT}{l:List PT}:vP c lq 0 (z::l)=(!rK z&&(bJ { c with lp:=c.lp||lq } z&&vP c lq 0 l)):=by rw[vP,aF rfl]
theorem xeu{c:Cx}{lq:Bool}{f:Nat}{z:PT}{l:List PT}:vP c lq (f+1) (z::l)=(bJ c z&&vP c lq f l):=by rfl
theorem Y5{k i o:Int}{nm:Bs}{ks:List PT}{c:Cx}(hk:k=28\/k=29\/k=30\/k=31)(hw:vB (.mk k nm i o ks))(ih:∀y∈ks,∀c:Cx,V0 48 [.agg (mG y),.agg (ij c)] (pB (bJ c y))):V0 80 [.agg (mG (.mk k nm i o ks)),.agg (ij c)] (pB (bJ c (.mk k nm i o ks))):=by
 rw[vB]at hw;have lI:=hw.2.1;have zJ:∀y∈ks,V0 105 [.agg (mG y)] (pB (qO y)):=fun y hy=>Mb _ y (nR _) (LM hw.2.2 hy)
 obtain⟨q,hq⟩:∃q,bJ c (.mk k nm i o ks)=q:=⟨_,rfl⟩
 rw[hq,mG];rw[bJ,aE oM,aF hk]at hq
 obtain⟨R,hR⟩:∃R,oO ks=R:=⟨_,rfl⟩
 obtain⟨T,hT⟩:∃T,bL nm=T:=⟨_,rfl⟩
 rw[hR,hT];obtain⟨M,hM⟩:∃M:Int,((R.length:Nat):Int)=M:=⟨_,rfl⟩
 have hl:R.length=ks.length:=ED
 obtain⟨fr,KL⟩:∃fr:Int,(if k=30 then 3 else 1)=fr:=⟨_,rfl⟩
 obtain⟨lq,Vd⟩:∃b,decide (k≠28)=b:=⟨_,rfl⟩
 have u0:(if k=30 then 3 else 1)=fr.toNat:=by rw[<-KL];split<;>rfl
 rw[Vd,u0]at hq;have hfr2:fr=1\/fr=3:=by rw[<-KL];split<;>simp
 have Iz:lq=!decide (k=28):=by rw[<-Vd];simp
 refine zZ aN dO (f:=80) Tryz.func80 rfl kR (oT kR) ?_
 refine aY.cutK 4 60 [2,3,4,5] 2 (fun _:Unit=>[.own 0 0,.own 1 0,.p (pB false),.p (pI fr)]) (fun _=>[some (.box [.p (pI k),.p (pS T),.p (pI i),.p (pI o),.p (.ro 5 R)] 25 none),some (.box [.p (pB c.lp),.p (pB c.fn),.p (pB c.gn),.p (pB c.as_)] 70 none)]) (fun _=>vP c lq fr.toNat ks=q) aN mixed (fun _=>0) (fun E=>jF E cK Tryz.f80.results.toList (pB q)) kR ?_ ?_
 ·have lW:∀{P:Program}{G:World->Prop}{E:SO},E=bK->E.ofN R.length=M:=fun hE=>by rw[hE];exact hM
  rcases hk with rfl|hk
  ·have d8:fr=1:=by rw[<-KL];rfl
   subst d8
   rcases dP (ks.length=3)with h3|h3
   ·have d3:decide (M=3)=true:=aA oM
    obtain⟨z,hz⟩:∃z,ks[1]?=some z:=⟨_,aB oM⟩
    obtain⟨k1,i1,o1,n1,K1,hv⟩:=BO z;have r0:R[1]?=some [pI k1,pS n1,pI i1,pI o1,.ro 5 K1]:=by rw[<-hR,CD,hz,<- hv];rfl
    have eD:=zJ z (aJ hz);rw[hv]at eD;have lg:LB ks=qO z:=by
     match ks,hz with
     |_::y::_,hz=>cases hz;rfl
    rw[h3,lg]at hq
    cases Uz:qO z with
    |true=>
     rw[Uz]at eD hq;have e0:false=q:=by rw[<-hq];rfl
     subst e0;intro P G E hc tZ hE;replace eD:=hc _ _ _ eD;have l0:=lW (P:=P) (G:=G) hE;have r1:R[E.nat 1]?=some [pI k1,pS n1,pI i1,pI o1,.ro 5 K1]:=by rw[hE];exact r0
     have p0:E.ple 0 1:=Gn
     clear hc tZ hE ih zJ hq lW;cbv;cbv at l0
     repeat (first|(simp only[l0];try cbv)|(simp only[d3];try cbv)|(refine⟨p0,_,r1,?_⟩;cbv)|(refine⟨_,eD,?_⟩;cbv))
     all_goals trivial
    |false=>
     rw[Uz]at eD hq;have vD:vP c lq (1:Int).toNat ks=q:=by simpa using hq
     intro P G E hc tZ hE;replace eD:=hc _ _ _ eD;have l0:=lW (P:=P) (G:=G) hE;have r1:R[E.nat 1]?=some [pI k1,pS n1,pI i1,pI o1,.ro 5 K1]:=by rw[hE];exact r0
     have p0:E.ple 0 1:=Gn
     clear hc tZ hE ih zJ hq lW;cbv;cbv at l0
     repeat (first|(simp only[l0];try cbv)|(simp only[d3];try cbv)|(refine⟨p0,_,r1,?_⟩;cbv)|(refine⟨_,eD,?_⟩;cbv))
     exact .mk () r5 vD
   ·have d3:decide (M=3)=false:=dF oM
    have vD:vP c lq (1:Int).toNat ks=q:=by simpa [h3]using hq
    intro P G E hc tZ hE;have l0:=lW (P:=P) (G:=G) hE;clear hc tZ hE ih zJ hq lW;cbv;cbv at l0
    repeat (first|(simp only[l0];try cbv)|(simp only[d3];try cbv))
    exact .mk () r5 vD
  ·have vD:vP c lq fr.toNat ks=q:=by
    have:decide (k=28)=false:=dF oM
    rw[this]at hq;simpa using hq
   rcases hk with rfl|rfl|rfl
   ·have d8:fr=1:=by rw[<-KL];rfl
    exact Hd
   ·have d8:fr=3:=by rw[<-KL];rfl
    exact Hd
   ·have d8:fr=1:=by rw[<-KL];rfl
    exact Hd
 ·rintro _ vD
  obtain⟨μ,hμ⟩:∃μ:Int×List PT->Nat,∀x,μ x=x.2.length:=⟨_,fun _=>rfl⟩
  have AX:=z1o;obtain⟨dk,jl⟩:∃b,decide (k=28)=b:=⟨_,rfl⟩
  rw[jl]at Iz;refine aY.of aN mixed (fun n=>match n with|14=>6|_=>0) kR (fun E=>jF E cK Tryz.f80.results.toList (pB q)) fun P G E hc tZ hE=>?_
  have l0:E.ofN R.length=M:=mr
  cbv at l0;have x0:Ab c ks lq fr q (0,ks):=⟨tN.start ks,by show vP c lq (fr-0).toNat ks=q;rw[Int.sub_zero];exact vD⟩
  cbv;refine gU 60 [2,3,4,5,6] 2 (fun x:Int×List PT=>[.own 0 0,.own 1 0,.p (pB false),.p (pI fr),.p (pI x.1)]) (fun _=>[some (.box [.p (pI k),.p (pS T),.p (pI i),.p (pI o),.p (.ro 5 R)] 25 none),some (.box [.p (pB c.lp),.p (pB c.fn),.p (pB c.gn),.p (pB c.as_)] 70 none)]) (Ab c ks lq fr q) μ (0,ks) r5 x0 ?_
  rintro⟨j,l⟩ ⟨g1,g2⟩
  simp only at g1 g2;replace hM:((R.length:Nat):Int)=M:=hM
  cases l with
  |nil=>
   have d1:=g1.stop hE hR hM;have e0:true=q:=by rw[<-g2,vP]
   subst e0;clear hc tZ hE ih zJ AX;exact He
  |cons z l=>
   obtain⟨j2,k1,i1,o1,n1,K1,hj,hv,f1,f2,f3,f4⟩:=g1.fact hE lI hR hM;have Ut:=aJ g1.get;have oU:μ (j2,l)<μ (j,z::l):=by rw[hμ,hμ];show l.length<(z::l).length;simp
   have h0:=g1.i0
   rcases Bd j fr with cJ|qJ
   ·have d5:E.lei fr j=false:=sS
    have eD:V0 48 [.agg (mG z),.agg (ij c)] (pB (bJ c z)):=ih z Ut c;have e1:(fr-j).toNat=(fr-j2).toNat+1:=dU
    rw[e1,xeu]at g2;rw[hv]at eD;unfold ij at eD
    cases my:bJ c z with
    |true=>
     rw[my]at eD g2;replace eD:=hc _ _ _ eD;have hx:Ab c ks lq fr q (j2,l):=⟨g1.next hj,g2⟩;clear hc tZ hE ih zJ AX;cbv
     repeat (first|(simp only[l0];try cbv)|(simp only[f1];try cbv)|(simp only[d5];try cbv)|(refine⟨f2,_,f4,?_⟩;cbv)|(refine⟨_,eD,?_⟩;cbv)|(simp only[f3];try cbv))
     exact EK
    |false=>
     rw[my]at eD g2;replace eD:=hc _ _ _ eD;have e0:false=q:=by rw[<-g2];rfl
     subst e0;clear hc tZ hE ih zJ AX;cbv
     repeat (first|(simp only[l0];try cbv)|(simp only[f1];try cbv)|(simp only[d5];try cbv)|(refine⟨f2,_,f4,?_⟩;cbv)|(refine⟨_,eD,?_⟩;cbv)|(simp only[f3];try cbv))
     all_goals trivial
   ·have d5:E.lei fr j=true:=by rw[hE];exact aA qJ
    have qr:V0 106 [.agg (mG z)] (pB (rK z)):=AX z;have eD:V0 48 [.agg (mG z),.agg (ij { c with lp:=c.lp||lq })] (pB (bJ { c with lp:=c.lp||lq } z)):=ih z Ut _
    have e1:(fr-j).toNat=0:=dU
    have e2:(fr-j2).toNat=0:=dU
    rw[e1,xev]at g2;rw[hv]at eD qr;unfold ij at eD
    cases Vo:rK z with
    |true=>
     rw[Vo]at qr g2;replace qr:=hc _ _ _ qr;have e0:false=q:=by rw[<-g2];rfl
     subst e0;clear hc tZ hE ih zJ AX eD
     cases wW:c.lp<;>cases dk
     all_goals
      cbv
      repeat (first|(simp only[l0];try cbv)|(simp only[f1];try cbv)|(simp only[d5];try cbv)|(simp only[wW];try cbv)|(simp only[jl];try cbv)|(refine⟨f2,_,f4,?_⟩;cbv)|(refine⟨_,qr,?_⟩;cbv)|(simp only[f3];try cbv))
      all_goals trivial
    |false=>
     rw[Vo]at qr g2;replace qr:=hc _ _ _ qr;obtain⟨rz,my⟩:∃b,bJ { c with lp:=c.lp||lq } z=b:=⟨_,rfl⟩
     rw[my]at eD g2;replace eD:=hc _ _ _ eD;have hx:rz=true->Ab c ks lq fr q (j2,l):=fun e=>⟨g1.next hj,by show vP c lq (fr-j2).toNat l=q;rw[e2,<- g2,e];rfl⟩
     have e0:rz=false->false=q:=fun e=>by rw[<-g2,e];rfl
     clear hc tZ hE ih zJ AX
     cases rz with
     |false=>
      have e0:=e0 rfl;subst e0
      cases wW:c.lp
      all_goals cases dk
      all_goals
       rw[wW,Iz]at eD;cbv
       repeat (first|(simp only[l0];try cbv)|(simp only[f1];try cbv)|(simp only[d5];try cbv)|(simp only[wW];try cbv)|(simp only[jl];try cbv)|(refine⟨f2,_,f4,?_⟩;cbv)|(refine⟨_,qr,?_⟩;cbv)|(refine⟨_,eD,?_⟩;cbv)|(simp only[f3];try cbv))
       all_goals trivial
     |true=>
      have hx:=hx rfl
      cases wW:c.lp
      all_goals cases dk
      all_goals
       rw[wW,Iz]at eD;cbv
       repeat (first|(simp only[l0];try cbv)|(simp only[f1];try cbv)|(simp only[d5];try cbv)|(simp only[wW];try cbv)|(simp only[jl];try cbv)|(refine⟨f2,_,f4,?_⟩;cbv)|(refine⟨_,qr,?_⟩;cbv)|(refine⟨_,eD,?_⟩;cbv)|(simp only[f3];try cbv))
       exact EK
theorem Du:∀l:List Bs,qP l=true ↔ l.Nodup
 |[]=>by simp[qP]
 |x::l=>by simp[qP,Du l]
theorem Xg{L:List Bs}{i:Nat}{x:Bs}(h:(L.take i).Nodup)(hx:L[i]?=some x)(hn:∀j,j<i->L[j]?≠some x):(L.take (i+1)).Nodup:=by
 rw[ju,hx];refine List.nodup_append.2 ⟨h,by simp,fun a ha b hb=>?_⟩
 have e:b=x:=by simpa using hb
 subst e;intro e;subst e;obtain⟨j,hj⟩:=nA.1 ha
 grind
theorem z63{L:List Bs}{i j:Nat}{x:Bs}(hi:L[i]?=some x)(hj:L[j]?=some x)(h:j<i):¬L.Nodup:=fun hd=>by
 have h1:=(aC.1 hi);have h2:=(aC.1 hj)
 have:=(List.getElem_inj (i:=i) (j:=j) (h₀:=h1.1) (h₁:=h2.1) hd).1 (h1.2.trans h2.2.symm)
 omega
def Qm(n:Nat):Nat:=match n with
 |43=>12
 |_=>0
section
variable{P:Program}{G:World->Prop}{E:SO}{k i o M:Int}{T:ByteArray}{R:List (List PV)}{c:Cx}{HI:Cx->Prop}{q:Bool}
abbrev IY(k i o:Int)(T:ByteArray)(R:List (List PV))(c:Cx):AH:=[some (.box [.p (pI k),.p (pS T),.p (pI i),.p (pI o),.p (.ro 5 R)] 25 none),some (.box [.p (pB c.lp),.p (pB c.fn),.p (pB c.gn),.p (pB c.as_)] 70 none)]
abbrev ou(P:Program)(G:World->Prop)(E:SO)(k i o:Int)(T:ByteArray)(R:List (List PV))(c:Cx)(HI:Cx->Prop)(q:Bool):Prop:=
 uE P G E cK Qm (wO 3 (Tryz.f48.body.getD .skip)) (nB (lZ 149 [2,3,4,5] 3 (fun _:Cx=>[.own 0 0,.own 1 0,.p (pB false),.own 2 0]) (fun y=>IY k i o T R c++[some (.box [.p (pB y.lp),.p (pB y.fn),.p (pB y.gn),.p (pB y.as_)] 70 none)]) HI) (jF E cK Tryz.f48.results.toList (pB q)))
  (([.agg [pI k,pS T,pI i,pI o,.ro 5 R],.agg (ij c)]:List PV).map .p++List.replicate (149-([.agg [pI k,pS T,pI i,pI o,.ro 5 R],.agg (ij c)]:List PV).length) (.p (.v undef))) []
theorem xe3(h:k=33\/k=34)(hq:c.lp=q):ou P G E k i o T R c HI q:=by
 rcases h with rfl|rfl
 all_goals
  cbv
  grind
theorem OL{b:Bool}(h:(k=32/\c.fn=b)\/(k=22/\c.gn=b)\/(k=23/\c.as_=b))(h0:b=false->false=q)(h1:b=true->HI c):ou P G E k i o T R c HI q:=by
 cases c with
 |mk fn lp gn as_=>
  rcases h with⟨rfl,h⟩|⟨rfl,h⟩|⟨rfl,h⟩
  ·subst h
   cases fn with
   |false=>
    have e0:=h0 rfl;subst e0;exact j7
   |true=>
    have e1:=h1 rfl;cbv;exact .mk ⟨true,lp,gn,as_⟩ r5 e1
  ·subst h
   cases gn with
   |false=>
    have e0:=h0 rfl;subst e0;exact j7
   |true=>
    have e1:=h1 rfl;cbv;exact .mk ⟨fn,lp,true,as_⟩ r5 e1
  ·subst h
   cases as_ with
   |false=>
    have e0:=h0 rfl;subst e0;exact j7
   |true=>
    have e1:=h1 rfl;cbv;exact .mk ⟨fn,lp,gn,true⟩ r5 e1
theorem xey{k1 i1 o1:Int}{n1:ByteArray}{K1:List (List PV)}{b:Bool}(h:k=16\/k=17)(p0:E.ple 0 0)(r0:R[E.nat 0]?=some [pI k1,pS n1,pI i1,pI o1,.ro 5 K1])(ht:fX P G 79 [.agg [pI k1,pS n1,pI i1,pI o1,.ro 5 K1]] (pB b))(h0:b=false->false=q)(h1:b=true->HI c):ou P G E k i o T R c HI q:=by
 rcases h with rfl|rfl
 all_goals
  cases b with
  |false=>
   have e0:=h0 rfl;subst e0;cbv
   repeat (first|(refine⟨p0,_,r0,?_⟩;cbv)|(refine⟨_,ht,?_⟩;cbv))
   all_goals trivial
  |true=>
   have e1:=h1 rfl;cbv;exact ZW
theorem xew(hk:k=12)(h:decide (o=5)=false)(h1:HI c):ou P G E k i o T R c HI q:=by
 subst hk;cbv;refine aa ?_;exact .mk c r5 h1
theorem OK{k1 i1 o1:Int}{n1:ByteArray}{K1:List (List PV)}{b8 b9:Bool}(hk:k=12)(ho5:o=5)(p0:E.ple 0 0)(r0:R[E.nat 0]?=some [pI k1,pS n1,pI i1,pI o1,.ro 5 K1])(d8:decide (k1=18)=b8)(d9:decide (k1=19)=b9)(h0:b8=false->b9=false->false=q)(h1:b8=true\/b9=true->HI c):ou P G E k i o T R c HI q:=by
 subst hk ho5
 cases b8<;>cases b9
 ·have e0:=h0 rfl rfl;subst e0;cbv
  repeat (first|(refine⟨p0,_,r0,?_⟩;cbv)|(simp only[d8];try cbv)|(simp only[d9];try cbv))
  all_goals trivial
 all_goals
  have e1:=h1 jT
  cbv;exact ZW
theorem xex{b:Bool}(hk:k=36)(l0:E.ofN R.length=M)(h:E.lti M 2=b)(h0:b=true->false=q)(h1:b=false->HI c):ou P G E k i o T R c HI q:=by
 subst hk
 cases b with
 |true=>
  have e0:=h0 rfl;subst e0;cbv;cbv at l0
  repeat (first|(simp only[l0];try cbv)|(simp only[h];try cbv))
  all_goals trivial
 |false=>
  have e1:=h1 rfl;cbv;cbv at l0;exact ZW
theorem xez(h:k=28\/k=29\/k=30\/k=31)(ht:fX P G 80 [.agg [pI k,pS T,pI i,pI o,.ro 5 R],.agg [pB c.lp,pB c.fn,pB c.gn,pB c.as_]] (pB q)):ou P G E k i o T R c HI q:=by
 rcases h with rfl|rfl|rfl|rfl
 all_goals
  cbv
  repeat (first|(refine⟨_,ht,?_⟩;cbv))
  all_goals trivial
theorem xe0(e1:decide (k=33)=false)(e2:decide (k=34)=false)(e3:decide (k=32)=false)(e4:decide (k=22)=false)(e5:decide (k=23)=false)(e6:decide (k=16)=false)(e7:decide (k=17)=false)(e8:decide (k=12)=false)(e9:decide (k=25)=false)(ea:decide (k=36)=false)(eb:decide (k=28)=false)(ec:decide (k=29)=false)(ed:decide (k=30)=false)(ee:decide (k=31)=false)(ef:decide (k=11)=false)(h1:HI c):ou P G E k i o T R c HI q:=by
 cbv;refine aa ?_;exact .mk c r5 h1
end
section
variable{P:Program}{G:World->Prop}{E:SO}{k i o M:Int}{T:ByteArray}{R:List (List PV)}{c:Cx}{HI:Cx->Prop}{q:Bool}
theorem xe2(hk:k=25)(hE:E=bK){ks:List PT}(lI:ks.length<=2000000)(hR:oO ks=R)(hM:((R.length:Nat):Int)=M)(h0:(ks.all fun x=>!x.kids.isEmpty)=false->false=q)(h1:(ks.all fun x=>!x.kids.isEmpty)=true->HI c):ou P G E k i o T R c HI q:=by
 subst hk;cbv;replace hM:((R.length:Nat):Int)=M:=hM;have l0:E.ofN R.length=M:=mr
 obtain⟨μ,hμ⟩:∃μ:Int×List PT->Nat,∀x,μ x=x.2.length:=⟨_,fun _=>rfl⟩
 have x0:tN ks 0 ks/\(ks.all fun x=>!x.kids.isEmpty)=(ks.all fun x=>!x.kids.isEmpty):=⟨tN.start ks,rfl⟩
 obtain⟨A,hA⟩:∃A,(ks.all fun x=>!x.kids.isEmpty)=A:=⟨_,rfl⟩
 rw[hA]at h0 h1;replace x0:tN ks 0 ks/\(ks.all fun x=>!x.kids.isEmpty)=A:=⟨tN.start ks,hA⟩
 cbv at l0;refine gU 149 [2,3,4,5,6] 3 (fun x:Int×List PT=>[.own 0 0,.own 1 0,.p (pB false),.own 2 0,.p (pI x.1)]) (fun _=>IY 25 i o T R c++[some (.box [.p (pB c.lp),.p (pB c.fn),.p (pB c.gn),.p (pB c.as_)] 70 none)]) (fun x=>tN ks x.1 x.2/\(x.2.all fun x=>!x.kids.isEmpty)=A) μ (0,ks) r5 x0 ?_
 rintro⟨j,l⟩ ⟨g1,g2⟩
 simp only at g1 g2;replace hM:((R.length:Nat):Int)=M:=hM
 cases l with
 |nil=>
  have d1:=g1.stop hE hR hM;have e1:=h1 (by rw[<-g2];rfl)
  clear hE;cbv;exact ZW
 |cons z l=>
  obtain⟨j2,k1,i1,o1,n1,K1,hj,hv,f1,f2,f3,f4⟩:=g1.fact hE lI hR hM;have oU:μ (j2,l)<μ (j,z::l):=aZ
  have hK:K1.length=z.kids.length:=by
   cases z with
   |mk a b e f ks2=>
    injection hv with _ hv
    injection hv with _ hv
    injection hv with _ hv
    injection hv with _ hv
    injection hv with hv
    injection hv with _ hv
    rw[<-hv,CO];rfl
  obtain⟨L1,hL1⟩:∃L:Int,((K1.length:Nat):Int)=L:=⟨_,rfl⟩
  have l1:E.ofN K1.length=L1:=by rw[hE];exact hL1
  rw[List.all_cons]at g2
  cases hz:z.kids.isEmpty with
  |true=>
   have d3:decide (L1=0)=true:=aA aZ
   have e0:=h0 (by rw[<-g2,hz];rfl)
   subst e0;cbv at l1;clear hE;cbv
   repeat (first|(simp only[l0];try cbv)|(simp only[f1];try cbv)|(refine⟨f2,_,f4,?_⟩;cbv)|(simp only[l1];try cbv)|(simp only[d3];try cbv)|(simp only[f3];try cbv))
   all_goals trivial
  |false=>
   have eA:z.kids≠[]:=fun e=>by rw[e]at hz;cases hz
   have:=aV.2 eA
   have d3:decide (L1=0)=false:=dF oM
   have hx:tN ks j2 l/\(l.all fun x=>!x.kids.isEmpty)=A:=⟨g1.next hj,by rw[<-g2,hz];rfl⟩
   cbv at l1;clear hE;cbv;refine aa ?_;exact EK
structure I5(L:List Bs)(N1 x:Int):Prop where
 i0:0<=x
 i1:x<=N1\/x=0
 nd:(L.take x.toNat).Nodup
structure Ad(L:List Bs)(x y:Int):Prop where
 i0:0<=y
 i1:y<=x
 no:∀j,j<y.toNat->L[j]?≠L[x.toNat]?
theorem Oa{ks:List PT}{R:List (List PV)}(hR:oO ks=R){j:Nat}{z:PT}(h:ks[j]?=some z):∃k i o K,R[j]?=some [pI k,pS (bL z.nm),pI i,pI o,.ro 5 K]:=by
 cases z with
 |mk k nm i o ks2=>exact⟨k,i,o,oO ks2,by rw[<-hR,CD,h];show some (mG _)=_;rfl⟩
theorem z69{ks:List PT}{j:Nat}{z:PT}(h:ks[j]?=some z)(hj:j+1<ks.length):(rX ks.dropLast)[j]?=some z.nm:=by
 unfold rX;rw[aH,List.getElem?_dropLast,aF oM,h]
 rfl
theorem xe1(hk:k=11)(hE:E=bK){ks:List PT}(lI:ks.length<=2000000)(hR:oO ks=R)(hM:((R.length:Nat):Int)=M)(h0:qP (rX ks.dropLast)=false->false=q)(h1:qP (rX ks.dropLast)=true->HI (nV o)):ou P G E k i o T R c HI q:=by
 subst hk;cbv;replace hM:((R.length:Nat):Int)=M:=hM;have l0:E.ofN R.length=M:=mr
 have hl:R.length=ks.length:=ED
 obtain⟨L,hL⟩:∃L,rX ks.dropLast=L:=⟨_,rfl⟩
 have W2:L.length=ks.length-1:=by rw[<-hL];simp[rX]
 have W3:∀{j:Nat}{z:PT},ks[j]?=some z->j+1<ks.length->L[j]?=some z.nm:=fun h hj=>by rw[<-hL];exact z69 h hj
 rw[hL]at h0 h1;obtain⟨N1,hN1⟩:∃N1,M-1=N1:=⟨_,rfl⟩
 have es:E.wsub .i64 M 1=N1:=by rw[hE,<- hN1];exact jX oM oM
 obtain⟨b3,eg⟩:∃b,decide (o=3)=b:=⟨_,rfl⟩
 obtain⟨b4,u5⟩:∃b,decide (o=4)=b:=⟨_,rfl⟩
 obtain⟨b5,Vt⟩:∃b,decide (o=5)=b:=⟨_,rfl⟩
 have hwi:nV o=⟨true,false,b3,b4||b5⟩:=by unfold nV;rw[eg,u5,Vt]
 rw[hwi]at h1;obtain⟨μ,hμ⟩:∃μ:Int->Nat,∀x,μ x=(N1-x).toNat:=⟨_,fun _=>rfl⟩
 have x0:I5 L N1 0:=⟨bU 0,.inr rfl,by simp⟩
 cbv at l0;refine gU 149 [2,3,4,5,7] 3 (fun x:Int=>[.own 0 0,.own 1 0,.p (pB false),.own 2 0,.p (pI x)]) (fun _=>IY 11 i o T R c++[some (.box [.p (pB c.lp),.p (pB c.fn),.p (pB c.gn),.p (pB c.as_)] 70 none)]) (I5 L N1) μ 0 r5 x0 ?_
 intro x hI;obtain⟨g1,g2,g3⟩:=hI;replace hM:((R.length:Nat):Int)=M:=hM
 rcases Bd x N1 with cJ|qJ
 ·have d1:E.lti x N1=true:=Gl
  obtain⟨z,hz⟩:∃z,ks[x.toNat]?=some z:=⟨_,aB oM⟩
  obtain⟨k1,i1,o1,K1,r1⟩:=Oa hR hz;have Jq:=W3 hz oM
  have p1:E.ple 0 x:=by rw[hE];exact g1
  replace r1:R[E.nat x]?=some [pI k1,pS (bL z.nm),pI i1,pI o1,.ro 5 K1]:=by rw[hE];exact r1
  obtain⟨x2,ag⟩:∃x2,x+1=x2:=⟨_,rfl⟩
  have ea:E.wadd .i64 x 1=x2:=by rw[hE,<- ag];exact jX oM oM
  obtain⟨ν,hν⟩:∃ν:Int->Nat,∀y,ν y=(x-y).toNat:=⟨_,fun _=>rfl⟩
  have y0:Ad L x 0:=⟨bU 0,g1,fun j hj=>by simp at hj⟩
  have oU:μ x2<μ x:=pb
  have rD:Ad L x x->I5 L N1 x2:=fun h=>⟨by omega,.inl oM,by
   rw[show x2.toNat=x.toNat+1 by omega]
   exact Xg g3 Jq fun j hj e=>h.no j hj (e.trans Jq.symm)⟩
  obtain⟨T1,Jm⟩:∃T,bL z.nm=T:=⟨_,rfl⟩
  rw[Jm]at r1;have Uv:x.toNat+1<ks.length:=dU
  have hxm:x<=2000000:=dU
  cbv;refine aa ?_;refine gU 149 [2,3,4,5,7,8] 3 (fun y:Int=>[.own 0 0,.own 1 0,.p (pB false),.own 2 0,.p (pI x),.p (pI y)]) (fun _=>IY 11 i o T R c++[some (.box [.p (pB c.lp),.p (pB c.fn),.p (pB c.gn),.p (pB c.as_)] 70 none)]) (Ad L x) ν 0 r5 y0 ?_
  intro y hJ;obtain⟨k1',k2',k3'⟩:=id hJ;replace Uv:x.toNat+1<ks.length:=Uv;replace g1:0<=x:=g1
  rcases Bd y x with hy|hy
  ·have d2:E.lti y x=true:=by rw[hE];exact aA hy
   obtain⟨z2,dr⟩:∃z,ks[y.toNat]?=some z:=⟨_,aB oM⟩
   obtain⟨k3,i3,o3,K3,r2⟩:=Oa hR dr;have hLy:=W3 dr oM
   have p2:E.ple 0 y:=by rw[hE];exact k1'
   replace r2:R[E.nat y]?=some [pI k3,pS (bL z2.nm),pI i3,pI o3,.ro 5 K3]:=by rw[hE];exact r2
   obtain⟨y2,uH⟩:∃y2,y+1=y2:=⟨_,rfl⟩
   have eb:E.wadd .i64 y 1=y2:=by rw[hE,<- uH];exact jX oM oM
   obtain⟨T2,zJ⟩:∃T,bL z2.nm=T:=⟨_,rfl⟩
   rw[zJ]at r2
   rcases dP (z.nm=z2.nm)with hn|hn
   ·have eq:E.eq T1 T2=true:=by rw[hE,<- Jm,<- zJ,hn];exact aA rfl
    have e0:=h0 (by
     cases jJ:qP L with
     |false=>rfl
     |true=>exact absurd ((Du L).1 jJ) (z63 Jq (hLy.trans (aG some hn.symm)) oM))
    subst e0;clear hE;cbv
    repeat (first|(simp only[d2];try cbv)|(refine⟨p1,_,r1,?_⟩;cbv)|(refine⟨p2,_,r2,?_⟩;cbv)|(simp only[eq];try cbv))
    all_goals trivial
   ·have eq:E.eq T1 T2=false:=by rw[hE,<- Jm,<- zJ];exact dF fun e=>hn (yg e)
    have hx:Ad L x y2:=⟨by omega,by omega,fun j hj=>by
     grind⟩
    have gk:ν y2<ν y:=by rw[hν,hν];omega
    clear hE;cbv;refine aa ?_;exact .mk _ r5 hx gk
  ·have d2:E.lti y x=false:=sS
   have hyx:y=x:=dU
   subst hyx;have hx:=rD hJ;clear hE;cbv;refine aa ?_;exact EK
 ·have d1:E.lti x N1=false:=sS
  have e1:=h1 ((Du L).2 (by rwa[mC oM]at g3))
  clear hE
  cases b4
  ·cbv;refine aa ?_;exact .mk ⟨true,false,b3,b5⟩ r5 e1
  ·cbv;refine aa ?_;exact .mk ⟨true,false,b3,true⟩ r5 e1
end
theorem Ma:∀(d:Nat)(x:PT)(c:Cx),jN x<=d->vB x->V0 48 [.agg (mG x),.agg (ij c)] (pB (bJ c x))
 |0,x,_,h,_=>by have:=LP x;omega
 |d+1,.mk k nm i o ks,c,hd,mw=>by
  have hw:=mw;rw[vB]at hw;rw[jN]at hd;have ihk:∀y∈ks,∀c:Cx,V0 48 [.agg (mG y),.agg (ij c)] (pB (bJ c y)):=fun y hy c=>Ma d y c QX (LM hw.2.2 hy)
  have qR:(k=28\/k=29\/k=30\/k=31)->V0 80 [.agg (mG (.mk k nm i o ks)),.agg (ij c)] (pB (bJ c (.mk k nm i o ks))):=fun hk=>Y5 hk mw ihk
  have lI:=hw.2.1;obtain⟨q,hq⟩:∃q,bJ c (.mk k nm i o ks)=q:=⟨_,rfl⟩
  rw[hq,mG]at qR;rw[hq,mG];rw[bJ]at hq;obtain⟨R,hR⟩:∃R,oO ks=R:=⟨_,rfl⟩
  obtain⟨T,hT⟩:∃T,bL nm=T:=⟨_,rfl⟩
  rw[hR,hT]at qR ⊢;obtain⟨M,hM⟩:∃M:Int,((R.length:Nat):Int)=M:=⟨_,rfl⟩
  have hl:R.length=ks.length:=ED
  refine zZ aN dO (f:=48) Tryz.func48 rfl kR (oT kR) ?_
  refine aY.cutK 3 149 [2,3,4,5] 3 (fun _:Cx=>[.own 0 0,.own 1 0,.p (pB false),.own 2 0]) (fun y=>IY k i o T R c++[some (.box [.p (pB y.lp),.p (pB y.fn),.p (pB y.gn),.p (pB y.as_)] 70 none)]) (fun y=>eI y ks=q) aN mixed Qm (fun E=>jF E cK Tryz.f48.results.toList (pB q)) kR ?_ ?_
  ·suffices hX:∀(P:Program)(G:World->Prop)(E:SO),(∀f l r,fX Tryz.prog G0 f l r->fX P G f l r)->E=bK->ou P G E k i o T R c (fun y=>eI y ks=q) q from fun P G E hc tZ hE=>hX P G E hc hE
   rcases dP (k=33\/k=34)with h1|h1
   ·rw[aF h1]at hq;exact fun P G E hc hE=>xe3 h1 hq
   rw[aE h1]at hq
   rcases dP (k=28\/k=29\/k=30\/k=31)with h2|h2
   ·exact fun P G E hc hE=>xez h2 (hc _ _ _ (qR h2))
   rw[aE h2]at hq;clear qR;have hH:∀{b:Bool},kX c k o ks=b->k≠11->(b=false->false=q)/\(b=true->eI c ks=q):=fun{b} e hn=>by
    rw[e,aE hn]at hq;exact⟨fun e=>by rw[<-hq,e];rfl,fun e=>by rw[<-hq,e];rfl⟩
   have z0:ks≠[]->∃z l k1 i1 o1 n1 K1,ks=z::l/\mG z=[pI k1,pS n1,pI i1,pI o1,.ro 5 K1]/\R[0]?=some [pI k1,pS n1,pI i1,pI o1,.ro 5 K1]:=fun eA=>by
    cases ks with
    |nil=>exact absurd rfl eA
    |cons z l=>
     obtain⟨k1,i1,o1,n1,K1,hv⟩:=BO z;exact⟨z,l,k1,i1,o1,n1,K1,rfl,hv,by rw[<-hR,oO,hv];rfl⟩
   rcases dP (k=32\/k=22\/k=23)with h3|h3
   ·obtain⟨b,hb⟩:∃b,kX c k o ks=b:=⟨_,rfl⟩
    obtain⟨e0,e1⟩:=hH hb oM
    refine fun P G E hc hE=>OL (b:=b) ?_ e0 e1
    rcases h3 with rfl|rfl|rfl
    ·exact .inl ⟨rfl,hb⟩
    ·exact .inr (.inl ⟨rfl,hb⟩)
    ·exact .inr (.inr ⟨rfl,hb⟩)
   rcases dP (k=16\/k=17)with h4|h4
   ·obtain⟨z,l,k1,i1,o1,n1,K1,e,hv,r0⟩:=z0 (hw.1 (by rcases h4 with rfl|rfl<;>rfl))
    have ht:=Z3 z;rw[hv]at ht;obtain⟨e0,e1⟩:=hH (b:=mb z) (by rw[e];rcases h4 with rfl|rfl<;>rfl) oM
    exact fun P G E hc hE=>xey h4 Gj (by rw[hE];exact r0) (hc _ _ _ ht) e0 e1
   rcases dP (k=12)with h5|h5
   ·obtain⟨z,l,k1,i1,o1,n1,K1,e,hv,r0⟩:=z0 (hw.1 (by rw[h5];rfl))
    have yZ:z.kind=k1:=by
     cases z with
     |mk a b c2 d2 e2=>rw[mG]at hv;injection hv with hv _;injection hv with hv;injection hv with _ hv
    rcases dP (o=5)with h6|h6
    ·obtain⟨e0,e1⟩:=hH (b:=decide (k1=18)||decide (k1=19)) (by rw[e,<- yZ,h5,h6];rfl) oM
     obtain⟨b8,h8⟩:∃b,decide (k1=18)=b:=⟨_,rfl⟩
     obtain⟨b9,h9⟩:∃b,decide (k1=19)=b:=⟨_,rfl⟩
     rw[h8,h9]at e0 e1;exact fun P G E hc hE=>OK (k1:=k1) (i1:=i1) (o1:=o1) (n1:=n1) (K1:=K1) h5 h6 Gj (by rw[hE];exact r0) h8 h9 (fun a b=>e0 (by rw[a,b];rfl)) (fun a=>e1 (by rcases a with a|a<;>rw[a]<;>simp))
    ·obtain⟨e0,e1⟩:=hH (b:=true) (by rw[e,h5];show(!decide (o=5)||_)=true;rw[dF h6];rfl) oM
     exact fun P G E hc hE=>xew h5 (dF h6) (e1 rfl)
   rcases dP (k=25)with h6|h6
   ·obtain⟨e0,e1⟩:=hH (b:=ks.all fun x=>!x.kids.isEmpty) (by rw[h6];rfl) oM
    exact fun P G E hc hE=>xe2 h6 hE lI hR hM e0 e1
   rcases dP (k=36)with h7|h7
   ·obtain⟨e0,e1⟩:=hH (b:=decide (2<=ks.length)) (by rw[h7];rfl) oM
    exact fun P G E hc hE=>xex (M:=M) (b:=decide (M<2)) h7 mr fS (fun a=>e0 (dF (by have:=oT a;omega))) (fun a=>e1 (aA (by have:=fV a;omega)))
   rcases dP (k=11)with h8|h8
   ·have hb:kX c k o ks=qP (rX ks.dropLast):=by rw[h8];rfl
    rw[hb,aF h8]at hq;exact fun P G E hc hE=>xe1 h8 hE lI hR hM (fun a=>by rw[<-hq,a];rfl) (fun a=>by rw[<-hq,a];rfl)
   ·have hb:kX c k o ks=true:=by
     unfold kX;rw[aE oM,aE oM,aE oM,aE h4,aE h5,aE h6,aE h7,aE h8]
    obtain⟨e0,e1⟩:=hH hb h8;simp only[AZ]at h1 h2 h3 h4;exact fun P G E hc hE=>xe0 (dF h1.1) (dF h1.2) (dF h3.1) (dF h3.2.1) (dF h3.2.2) (dF h4.1) (dF h4.2) (dF h5) (dF h6) (dF h7) (dF h2.1) (dF h2.2.1) (dF h2.2.2.1) (dF h2.2.2.2) (dF h8) (e1 rfl)
  ·rintro y hy
   clear qR hq;obtain⟨μ,hμ⟩:∃μ:Int×List PT->Nat,∀x,μ x=x.2.length:=⟨_,fun _=>rfl⟩
   refine aY.of aN mixed (fun n=>match n with|49=>6|_=>0) kR (fun E=>jF E cK Tryz.f48.results.toList (pB q)) fun P G E hc tZ hE=>?_
   have l0:E.ofN R.length=M:=mr
   have x0:tN ks 0 ks/\eI y ks=q:=⟨tN.start ks,hy⟩;cbv;cbv at l0;refine gU 149 [2,3,4,5,9] 3 (fun x:Int×List PT=>[.own 0 0,.own 1 0,.p (pB false),.own 2 0,.p (pI x.1)]) (fun _=>IY k i o T R c++[some (.box [.p (pB y.lp),.p (pB y.fn),.p (pB y.gn),.p (pB y.as_)] 70 none)]) (fun x=>tN ks x.1 x.2/\eI y x.2=q) μ (0,ks) r5 x0 ?_
   rintro⟨j,l⟩ ⟨g1,g2⟩
   simp only at g1 g2;replace hM:((R.length:Nat):Int)=M:=hM
   cases l with
   |nil=>
    have d1:=g1.stop hE hR hM;have e0:true=q:=by rw[<-g2,eI]
    subst e0;clear hc tZ hE ihk;exact He
   |cons z l=>
    obtain⟨j2,k1,i1,o1,n1,K1,hj,hv,f1,f2,f3,f4⟩:=g1.fact hE lI hR hM;have oU:μ (j2,l)<μ (j,z::l):=by rw[hμ,hμ];show l.length<(z::l).length;simp
    have eD:V0 48 [.agg (mG z),.agg (ij y)] (pB (bJ y z)):=ihk z (aJ g1.get) y;rw[hv]at eD;unfold ij at eD;rw[eI]at g2
    cases my:bJ y z with
    |true=>
     rw[my]at eD g2;replace eD:=hc _ _ _ eD;have hx:tN ks j2 l/\eI y l=q:=⟨g1.next hj,g2⟩;clear hc tZ hE ihk;cbv
     repeat (first|(simp only[l0];try cbv)|(simp only[f1];try cbv)|(refine⟨f2,_,f4,?_⟩;cbv)|(refine⟨_,eD,?_⟩;cbv)|(simp only[f3];try cbv))
     exact EK
    |false=>
     rw[my]at eD g2;replace eD:=hc _ _ _ eD;have e0:false=q:=by rw[<-g2];rfl
     subst e0;clear hc tZ hE ihk;cbv
     repeat (first|(simp only[l0];try cbv)|(simp only[f1];try cbv)|(refine⟨f2,_,f4,?_⟩;cbv)|(refine⟨_,eD,?_⟩;cbv)|(simp only[f3];try cbv))
     all_goals trivial
theorem Xq(x:PT)(h:vB x):V0 19 [.agg (mG x)] (pB (bJ jC x)):=by
 have hr:V0 48 [.agg (mG x),.agg (ij jC)] (pB (bJ jC x)):=Ma _ x jC (nR _) h;obtain⟨k,i,o,nm,R,hv⟩:=BO x;obtain⟨b,hb⟩:∃b,bJ jC x=b:=⟨_,rfl⟩
 rw[hv,hb]at hr;rw[hv,hb];refine dE aN dO mixed (fun _=>0) Tryz.func19 rfl kR kR rfl fun P G E hc hE=>?_
 replace hr:=hc _ _ _ hr;exact RO
def Lo(p p':PV):Prop:=∀(w:World)(R:Nat->Prop)(v:Value),cE w R p v->cE w R p' v
theorem Lo.refl(p:PV):Lo p p:=fun _ _ _ h=>h
theorem Nz(s:Nat):Lo (.v (.slice none 0 0)) (.ro s []):=fun w R v h=>by cases h;exact .ro0 _ _ _
structure fo(l l':List PV):Prop where
 len:l.length=l'.length
 at_:∀(j:Nat)(a a':PV),l[j]?=some a->l'[j]?=some a'->Lo a a'
theorem fo.refl(l:List PV):fo l l:=⟨rfl,fun j a a' h h'=>by rw[h]at h';cases h';exact .refl _⟩
theorem fo.cons{a a':PV}{l l':List PV}(h:Lo a a')(hl:fo l l'):fo (a::l) (a'::l'):=⟨by simp[hl.len],fun j b b' g g'=>by
 cases j with
 |zero=>grind
 |succ j=>exact hl.at_ j b b' (by simpa using g) (by simpa using g')⟩
theorem HD{α:Type}{l l':List α}(h:l.length=l'.length){j:Nat}{a':α}(h':l'[j]?=some a'):∃a,l[j]?=some a:=by
 grind
theorem P7{s:Nat}{rs rs':List (List PV)}(hl:rs.length=rs'.length)(h:∀(i:Nat)(r r':List PV),rs[i]?=some r->rs'[i]?=some r'->fo r r'):Lo (.ro s rs) (.ro s rs'):=fun w R v hv=>by
 cases hv with
 |ro0 s A cap=>
  have:rs'=[]:=uM.1 hl.symm
  subst this;exact .ro0 _ _ _
 |ro s rows b o cap vs hR hb oX hs hc hr=>
  rw[hl];refine .ro s rs' b o cap vs hR hb oM (fun i row hi=>?_) (fun i j row a hi hj=>?_) (fun i j row a hi hj=>?_)
  ·obtain⟨r,pK⟩:=HD hl hi;rw[<-(h i r row pK hi).len];exact hs i r pK
  ·obtain⟨r,pK⟩:=HD hl hi;obtain⟨c,dR⟩:=HD (h i r row pK hi).len hj
   grind
  ·obtain⟨r,pK⟩:=HD hl hi;obtain⟨c,dR⟩:=HD (h i r row pK hi).len hj;exact(h i r row pK hi).at_ j c a dR hj w R _ (hr i j r c pK dR)
theorem VS{l l':List PV}(h:fo l l'):Lo (.agg l) (.agg l'):=fun w R v hv=>by
 cases hv with
 |agg cs vs hl hr=>
  refine .agg l' vs (by rw[<-h.len];exact hl) fun j a v ha hv=>?_
  obtain⟨c,dR⟩:=HD h.len ha;exact h.at_ j c a dR ha w R v (hr j c v dR hv)
theorem fX.lo{P:Program}{G:World->Prop}{f:FuncId}{xs ys:List PV}{r:PV}(h:fX P G f xs r)(hl:fo ys xs):fX P G f ys r:=by
 refine⟨h.1,fun w B args hG hlen dW=>h.2 w B args hG (by rw[<-hl.len];exact hlen) fun j a v ha hv=>?_⟩
 have cJ:=(aC.1 ha).1;obtain⟨c,dR⟩:∃c,ys[j]?=some c:=⟨_,aB (by rw[hl.len];exact cJ)⟩
 exact hl.at_ j c a dR ha w B v (dW j c v dR hv)
theorem PO{a b c d e e':PV}(h:Lo e e'):fo [a,b,c,d,e] [a,b,c,d,e']:=.cons (.refl _) (.cons (.refl _) (.cons (.refl _) (.cons (.refl _) (.cons h (.refl _)))))
theorem PL(k:Int):∀ks:List PT,(∀(i:Nat)(r r':List PV),(gR ks)[i]?=some r->(oO ks)[i]?=some r'->fo r r')->Lo (rV k ks) (.ro 5 (oO ks))
 |[],_=>by
  rw[rV,oO]
  split
  ·exact .refl _
  ·exact Nz 5
 |x::ks,h=>by
  rw[gR,oO]at h;exact P7 (by simp[CQ,CO]) h
mutual
theorem vv:∀x:PT,fo (pA x) (mG x)
 | .mk k nm i o ks=>by exact PO (PL k ks (Q4 ks))
theorem Q4:∀(ks:List PT)(i:Nat)(r r':List PV),(gR ks)[i]?=some r->(oO ks)[i]?=some r'->fo r r'
 |[],i,r,r',h,h'=>by rw[gR]at h;simp at h
 |x::ks,i,r,r',h,h'=>by
  rw[gR]at h;rw[oO]at h'
  cases i with
  |zero=>cases h;cases h';exact vv x
  |succ i=>exact Q4 ks i r r' j6 (by simpa using h')
end
theorem PM:∀ks:List PT,(∀(i:Nat)(r r':List PV),(eO ks)[i]?=some r->(oO ks)[i]?=some r'->fo r r')->Lo (mS ks) (.ro 5 (oO ks))
 |[],_=>by exact Nz 5
 |x::ks,h=>by
  rw[eO,oO]at h;exact P7 (by simp[vd,CO]) h
mutual
theorem PN:∀x:PT,fo (gM x) (mG x)
 | .mk k nm i o ks=>by exact PO (PM ks (Q3 ks))
theorem Q3:∀(ks:List PT)(i:Nat)(r r':List PV),(eO ks)[i]?=some r->(oO ks)[i]?=some r'->fo r r'
 |[],i,r,r',h,h'=>by rw[eO]at h;simp at h
 |x::ks,i,r,r',h,h'=>by
  rw[eO]at h;rw[oO]at h'
  cases i with
  |zero=>cases h;cases h';exact PN x
  |succ i=>exact Q3 ks i r r' j6 (by simpa using h')
end
theorem xan(x:PT)(h:vB x):V0 19 [.agg (pA x)] (pB (bJ jC x)):=(Xq x h).lo (.cons (VS (vv x)) (.refl _))
theorem xhh(x:PT)(h:vB x)(hd:jN x<=4000000):V0 20 [.agg (pA x)] (pI (jN x:Nat)):=(K6 _ x hd (nR _) h).lo (.cons (VS (vv x)) (.refl _))
theorem xam(x y:PT)(hx:jO x)(hy:jO y):V0 8 [.agg (gM x),.agg (pA y)] (pB (rk x y)):=(Ln (max (jN x) 0) x y oM hx hy).lo (.cons (VS (PN x)) (.cons (VS (vv y)) (.refl _)))
theorem xg3:∀(s:RS){n B:Nat},qF n B s->Inv s.lst (gr s) n B
 | .stms,_,_,h=>z7z h
 | .stmsL _,_,_,h=>z3l h
 | .stm,_,_,h=>xcw h
 | .block,_,_,h=>z3r h
 | .decls _,_,_,h=>z3p h
 | .declsL _ _,_,_,h=>Xv h
 | .cond,_,_,h=>z79 h
 | .loop,_,_,h=>z76 h
 | .tryR,_,_,h=>z7y h
 | .func _,_,_,h=>z78 h
 | .names,_,_,h=>z3m h
 | .namesL _,_,_,h=>Xw h
 | .arrow,_,_,h=>z3s h
 | .assign,_,_,h=>Xt h
 | .lv _,_,_,h=>xg2 h
 | .lvL _ _,_,_,h=>xcy h
 | .unary,_,_,h=>z3k h
 | .list _,_,_,h=>z77 h
 | .listL _ _,_,_,h=>z3n h
 | .chain,_,_,h=>z3q h
 | .newL _,_,_,h=>z74 h
 | .chainL _,_,_,h=>Xu h
 | .prim,_,_,h=>z71 h
 | .obj,_,_,h=>xcx h
 | .objL _,_,_,h=>z73 h
 | .field,_,_,h=>z3o h
theorem Bm:∀(m:Nat)(s:RS)(l:Ts)(v:RV)(l':Ts)(B:Nat),bN m s l false=(v,l',false)->W l->qF l.length B s->YX s.lst l'.length B v
 |0,s,l,v,l',B,h,w,hi=>by cases h
 |m+1,s,l,v,l',B,h,w,hi=>by
  refine wQ (nC m) (fun s l v l' B h w hi=>Bm m s l v l' B h w hi) (fun l v l' h=>?_) s.lst (gr s) l v l' B w (xg3 s hi) h
  cases m with
  |zero=>cases h
  |succ m=>
   have:=z0y m l false
   rw[h,tI]at this
   rcases this with h1|h1
   ·replace h1:l'.length+1<l.length+1:=h1;omega
   ·cases h1
theorem NV{l t r:Bs}{k:Int}{m:Nat}(h:jQ uB gD l=.ok k t r):Hr ⟨k,t,m⟩:=by
 have hk:∀w∈YZ,gN w 24 4=0/\gN w 28 2=0:=aT
 have ho:∀w,(w∈zO\/w∈ff\/w∈sr)->w ∉ [ol,ru,sy,s8,nu,kr,rq,t7]:=by
  have a:∀w∈zO,w ∉ [ol,ru,sy,s8,nu,kr,rq,t7]:=aT
  have b:∀w∈ff,w ∉ [ol,ru,sy,s8,nu,kr,rq,t7]:=aT
  have c:∀w∈sr,w ∉ [ol,ru,sy,s8,nu,kr,rq,t7]:=aT
  grind
 have hm:∀{L:List Bs}{w:Bs},(L.any fun x=>x==w)=true->w∈L:=fun{L w} hw=>by
  grind
 cases l with
 |nil=>cases h
 |cons c l=>
  rw[jQ]at h
  split at h
  ·injection h with h1 h2 h3
   subst h2
   split at h1
   ·rename_i hw;subst h1;exact⟨(by decide:(2:Int)≠0),fun e=>absurd e (by decide:¬(2:Int)=5),fun _=>hk _ (hm hw)⟩
   ·subst h1;exact⟨(by decide:(1:Int)≠0),fun e=>absurd e (by decide:¬(1:Int)=5),fun e=>absurd e (by decide:¬(1:Int)=2)⟩
  ·split at h
   ·unfold rJ at h
    split at h
    ·cases h
    ·split at h
     ·cases h
     ·split at h
      ·cases h
      ·injection h with h1 h2 h3
       subst h1;exact⟨(by decide:(3:Int)≠0),fun e=>absurd e (by decide:¬(3:Int)=5),fun e=>absurd e (by decide:¬(3:Int)=2)⟩
   ·split at h
    ·cases hl:lit uB c l with
     |none=>rw[hl]at h;cases h
     |some z=>
      rw[hl]at h
      injection h with h1 h2 h3
      subst h1;exact⟨(by decide:(4:Int)≠0),fun e=>absurd e (by decide:¬(4:Int)=5),fun e=>absurd e (by decide:¬(4:Int)=2)⟩
    ·cases hq:rA (c::l)with
     |none=>rw[hq]at h;cases h
     |some w=>
      rw[hq]at h
      injection h with h1 h2 h3
      subst h1 h2;refine⟨(by decide:(5:Int)≠0),fun _=>ho _ ?_,fun e=>absurd e (by decide:¬(5:Int)=2)⟩
      unfold rA at hq
      grind
theorem Ny:∀(n:Nat)(l:Bs){ts:List Tk}{e:Option (Nat×Int)},qW uB gD n l=(ts,e)->∀x∈ts,Hr x
 |0,_,_,_,h,x,hx=>by cases h;cases hx
 |n+1,l,ts,e,h,x,hx=>by
  rw[qW]at h
  split at h
  ·cases h;cases hx
  ·split at h
   ·cases h;cases hx
   ·split at h
    ·cases h;cases hx
    ·rename_i k t r ht
     cases h
     rcases fJ.1 hx with rfl|hx
     ·exact NV ht
     ·exact Ny n r (ts:=(qW uB gD n r).1) (e:=(qW uB gD n r).2) rfl x hx
theorem xd8{l:Bs}{ts:List Tk}{e:Option (Nat×Int)}(h:mO l=(ts,e)):W (ts.map er):=fun t ht=>by
 obtain⟨x,hx,rfl⟩:=iB.1 ht
 have:=Ny _ _ (show qW uB gD (l.length+1) l=_ from h) x hx
 exact⟨this.a,this.b,this.c⟩
theorem xc6{l l':Ts}{x:PT}(w:W l)(h:ev (.assign jC l)=some (some (.nd x,l'))):bJ jC x=true/\∃m,∀k,m<=k->bN k .assign l false=(.nd x,l',false):=by
 obtain⟨w1,g,r⟩:=Pd _ _ _ _ h w;exact⟨r,(GG.tail (s:=.assign) g)⟩
theorem z32{m:Nat}{l l':Ts}{v:RV}(w:W l)(h:bN m .assign l false=(v,l',false))(hr:bJ jC v.n=true):ev (.assign jC l)=some (some (.nd v.n,l')):=P8 _ _ _ _ _ h w jC hr
end Go.Proofs.YtjkcdcloomkooaaGreatDoor
