/- Own work: walks and laws of the parser and its reference. -/
import Derived.Maps.Views
import Derived.Maps.OwnOps
import Derived.WalkKit
import Derived.Test.YtjkcdcloomkooaaGreatDoorQXZ
set_option linter.unusedVariables false
set_option linter.unusedSimpArgs false
set_option linter.unusedSectionVars false
set_option maxHeartbeats 8000000
set_option maxRecDepth 100000
namespace Go.Proofs.YtjkcdcloomkooaaGreatDoor
open Go.RowKit
theorem D5{y:PT}{ys:List PT}{R:List (List PV)}(h:eO (y::ys)=R):mS (y::ys)=.ro 5 R:=by
 subst h;rw[mS,eO]
section
variable{n:Int}{toks:List Tk}{LR:List (List PV)}{l:Ts}
theorem Wm{c:Cx}(ih:∀s':Sy,s'.meas<(Sy.block c l).meas->iD n toks LR s'):iD n toks LR (.block c l):=by
 intro f hf a h o ho
 cases hf
 rw[qA]at ho;change ry ev c l=some o at ho;unfold ry at ho;change bE n toks LR a l at h;show MP _ (.own 0 0::[]) [aX LR a c] (iL o) (iE toks LR c o);obtain⟨μ,hμ⟩:∃μ:Int×Ts×List PT×List (List PV)×Nat->Nat,∀x,μ x=x.2.1.length:=⟨_,fun _=>rfl⟩
 have hz:=h.z;have ca:l.length<=1000000:=EF
 obtain⟨M,mY⟩:∃M:Int,((toks.length:Nat):Int)=M:=⟨_,rfl⟩
 refine gS aN (f:=36) Tryz.func36 rfl kR (oT kR) fun tags bS=>?_
 match tags,bS with
 |[t0],_=>
  refine aY.ofM aN mixed (fun n=>match n with|4=>9|6=>5|_=>0) (fun n=>match n with|6=>[3]|_=>[]) (fun n i=>match n,i with|6,3=>1|6,4=>1|_,_=>0) kR (fun E=>eU E cK Tryz.f36.results.toList [t0] (iL o) (iE toks LR c o)) fun P G E hc hM hE=>?_
  cbv;refine oE (m6 h nS c ho) (fun k0=>xE k0 fun bk0 k0=>?_) (fun k0=>?_)
  case' refine_2=>
   refine .z [0] (hM _ _ _ _ _ (k0.2)) rfl rfl rfl ?_;cbv;have e0:=k0.1;subst e0;cbv;all_goals trivial
  refine .z [0] (hM _ _ _ _ _ (k0.2.2.2.2)) rfl rfl rfl ?_;cbv;refine gU 30 [0,2,3] 4 (fun x:Int×Ts×List PT×List (List PV)×Nat=>[.own 0 0,.own 1 0,.own 2 0]) (fun x=>match x.2.2.1 with
    |[]=>[some (.box [.p (.ro 3 LR),.p (pI x.1),.p (pB c.fn),.p (pB c.lp),.p (pB c.gn),.p (pB c.as_)] 39 (some t0)),some (.box [.p (pI 0),.p (pS ⟨#[]⟩),.p (pI 0),.p (pI 0),.p (.v (.slice none 0 0))] 25 none),some (.box [.p (pI 27),.p (pS ⟨#[]⟩),.p (pI 0),.p (pI 0),.p (.v (.slice none 0 0))] 25 none)]
    |_::_=>[some (.box [.p (.ro 3 LR),.p (pI x.1),.p (pB c.fn),.p (pB c.lp),.p (pB c.gn),.p (pB c.as_)] 39 (some t0)),some (.box [.p (pI 0),.p (pS ⟨#[]⟩),.p (pI 0),.p (pI 0),.p (.v (.slice none 0 0))] 25 none),some (.box [.p (pI 27),.p (pS ⟨#[]⟩),.p (pI 0),.p (pI 0),.osl 3 0 x.2.2.2.2] 25 none),some (.rows 5 x.2.2.2.1 25)])
   (fun x=>bE n toks LR x.1 x.2.1/\ev (.blockL x.2.2.1 c x.2.1)=some o/\x.2.2.2.2+x.2.1.length<=(List.drop 1 l).length/\eO x.2.2.1=x.2.2.2.1/\x.2.2.2.1.length=x.2.2.2.2) μ (bk0,List.drop 1 l,[],[],0) r5 ⟨k0.1,k0.2.1,by show 0+(List.drop 1 l).length<=(List.drop 1 l).length;omega,by rw[eO],rfl⟩ ?_
  rintro⟨a1,l1,acc,R,N⟩ ⟨g1,g2,g3,g4,g5⟩
  simp only at g1 g2 g3 g4 g5;replace mY:((toks.length:Nat):Int)=M:=mY
  cases acc with
  |nil=>
   rw[qA]at g2;replace g2:sp ev [] c l1=some o:=g2;unfold sp at g2;have l0:E.ofN LR.length=M:=zp
   cbv at l0;cbv;refine oE (xC g1 uC c g2) (fun k1=>xE k1 fun bk1 k1=>?_) (fun k1=>?_)
   case' refine_1=>
    refine .z [0] (hM _ _ _ _ _ (k1.2.2.2.2)) rfl rfl rfl ?_;cbv;have e0:=rP (k1.2.1);subst e0;simp only[k1.1.place,nd,gM,mS];cbv;all_goals trivial
   refine .z [0] (hM _ _ _ _ _ (k1.2.2)) rfl rfl rfl ?_;cbv;simp only[l0];cbv;refine oE (jz k1.1) (fun k2=>?_) (fun k2=>?_)
   case' refine_1=>
    have d1:E.lei M a1=true:=Rg
    cbv;simp only[d1];cbv;refine .z [0] (hM _ _ _ _ _ (vQ (um LR a1 c))) rfl rfl rfl ?_;cbv;have e0:=yd k2.2;subst e0;cbv;all_goals trivial
   have cf:=aV.2 k2.1;have d1:E.lei M a1=false:=Ra
   cbv;simp only[d1];cbv;refine oE (yE (L:=l1) (c:=c) (ih (.stmt c l1) xJ) rfl rfl rfl rfl rfl rfl g1 k2.2) (fun k3=>xE k3 fun xk k3=>xE k3 fun lk k3=>xE k3 fun bk k3=>xE k3 fun q1 k3=>xE k3 fun q2 k3=>xE k3 fun q3 k3=>xE k3 fun q4 k3=>xE k3 fun q5 k3=>?_) (fun k3=>?_)
   case' refine_2=>
    refine Or.inr ?_;refine .mk [0] _ _ _ _ (hM _ _ _ _ _ (k3.2)) rfl rfl rfl _ rfl ?_;cbv;have e0:=k3.1;subst e0;cbv;all_goals trivial
   refine Or.inl ?_;refine⟨.mk trivial,?_⟩;refine .mk [0] _ _ _ _ (hM _ _ _ _ _ (k3.2.2.2.2)) rfl rfl rfl rfl ?_;cbv;have ok3:=k3.2.2.2.1.one;cbv at ok3;have rm:=(gX hE).room 0 1 64 aT aT
   cbv;simp only[ok3];cbv;refine⟨.mk vR,?_⟩
   cbv;refine⟨rm,?_⟩;cbv;exact .mk (bk,lk,[xk],[[pI q1,pS q4,pI q2,pI q3,q5]],1) r5 ⟨k3.1,k3.2.1,by show 1+lk.length<=(List.drop 1 l).length;omega,by rw[eO,eO,k3.2.2.2.1.row],rfl⟩ (by rw[hμ,hμ];show lk.length<l1.length;omega)
  |cons y ys=>
   rw[qA]at g2;replace g2:sp ev (y::ys) c l1=some o:=g2;unfold sp at g2;have l0:E.ofN LR.length=M:=zp
   cbv at l0;have fB:=ig (R:=R) (row:=[pI 0,pI 0,pI 0,pI 0,pI 0]) hE g5 oM rfl rfl
   have fB5:=fB.pre;have fB6:E.sub R 0 N=R:=JO
   cbv;refine oE (xC g1 uC c g2) (fun k1=>xE k1 fun bk1 k1=>?_) (fun k1=>?_)
   case' refine_1=>
    refine .z [0] (hM _ _ _ _ _ (k1.2.2.2.2)) rfl rfl rfl ?_;cbv;have e0:=rP (k1.2.1);subst e0;have hK:=D5 g4;simp only[k1.1.place,nd,gM,hK];cbv
    repeat (first|(refine⟨fB5,?_⟩;cbv)|(simp only[fB6];cbv))
    all_goals trivial
   refine .z [0] (hM _ _ _ _ _ (k1.2.2)) rfl rfl rfl ?_;cbv;simp only[l0];cbv;refine oE (jz k1.1) (fun k2=>?_) (fun k2=>?_)
   case' refine_1=>
    have d1:E.lei M a1=true:=Rg
    cbv;simp only[d1];cbv;refine .z [0] (hM _ _ _ _ _ (vQ (um LR a1 c))) rfl rfl rfl ?_;cbv;have e0:=yd k2.2;subst e0;cbv;all_goals trivial
   have cf:=aV.2 k2.1;have d1:E.lei M a1=false:=Ra
   cbv;simp only[d1];cbv;refine oE (yE (L:=l1) (c:=c) (ih (.stmt c l1) xJ) rfl rfl rfl rfl rfl rfl g1 k2.2) (fun k3=>xE k3 fun xk k3=>xE k3 fun lk k3=>xE k3 fun bk k3=>xE k3 fun q1 k3=>xE k3 fun q2 k3=>xE k3 fun q3 k3=>xE k3 fun q4 k3=>xE k3 fun q5 k3=>?_) (fun k3=>?_)
   case' refine_2=>
    refine Or.inr ?_;refine .mk [0] _ _ _ _ (hM _ _ _ _ _ (k3.2)) rfl rfl rfl _ rfl ?_;cbv;have e0:=k3.1;subst e0;cbv;all_goals trivial
   refine Or.inl ?_;refine⟨.mk trivial,?_⟩;refine .mk [0] _ _ _ _ (hM _ _ _ _ _ (k3.2.2.2.2)) rfl rfl rfl rfl ?_;cbv;have ok3:=k3.2.2.2.1.one;cbv at ok3;refine xE (⟨_,rfl⟩:∃R2,R++[[pI q1,pS q4,pI q2,pI q3,q5]]=R2) fun R2 cS=>?_
   refine xE (⟨_,rfl⟩:∃N2,N+1=N2) fun N2 fT=>?_
   have fA:=ig hE g5 oM cS fT
   have fA1:=fA.pre;have fA2:=fA.room;have fA3:=fA.add;have fA4:=fA.app;cbv;simp only[ok3];cbv;refine⟨.mk vR,?_⟩
   cbv
   repeat (first|(refine⟨fA1,fA2,?_⟩;cbv)|(simp only[fA3,fA4];cbv))
   exact .mk (bk,lk,y::ys++[xk],R2,N2) r5 ⟨k3.1,k3.2.1,by show N2+lk.length<=(List.drop 1 l).length;omega,by rw[o9,g4,eO,eO,k3.2.2.2.1.row];exact cS,by show R2.length=N2;rw[<-cS,sE,g5];exact fT⟩ (by rw[hμ,hμ];show lk.length<l1.length;omega)
end
def QA(H:AH):AV->AV
 | .p x=>.p x
 | .osl k i n=>(match H[k]? with
  |some (some (.rows s rs _))=>(match Nat.ble (i+n) rs.length with
   |true=>.p (.ro s ((rs.drop i).take n))
   |false=>.junk)
  |_=>.junk)
 |_=>.junk
theorem xd2{env:List AV}{H:AH}:Wk env H (env.map (QA H)) (H.map fun _=>none):=by
 intro w0 B w ι tmps hB hR hE;have mM:∀(k:Nat)(b:cH),(H.map fun _=>(none:Option cH))[k]?≠some (some b):=fun k b h=>by
  grind
 have px:∀b,B b->Rd B ι (H.map fun _=>(none:Option cH)) b:=fun b hb=>⟨hb,fun⟨k,b',_,h,_⟩=>mM k b' h⟩
 refine⟨ι,⟨hR.gr,hR.fut,by simp[hR.len],fun k b c s h1=>absurd h1 (mM k b),fun k l b b' c s s' h1=>absurd h1 (mM k b)⟩,by simp[hE.len],fun q y u hy hu=>?_⟩
 rw[aH]at hy
 cases hq:env[q]? with
 |none=>rw[hq]at hy;cases hy
 |some a=>
  rw[hq]at hy
  cases hy
  have hr:=hE.at_ q a u hq hu
  cases a with
  |p x=>
   cases hr with
   |p _ _ h=>exact .p _ _ ((Bp h).keep (nR _) fun b hb _=>⟨px b hb,rfl⟩)
  |osl k i n=>
   simp only[QA]
   split
   ·rename_i s rs t hk
    split
    ·rename_i hle;have hle:=aD hle;obtain⟨p,rfl,hp⟩:=IA hR hB (.osl k i n) u (fun p=>p=.ro s ((rs.drop i).take n)) (by
      unfold bu;rw[hk];exact⟨hle,rfl⟩) hr
     exact .p _ _ (hp.keep (nR _) fun b hb _=>⟨px b hb,rfl⟩)
    ·exact .junk _
   ·exact .junk _
  |own _ _=>exact .junk _
  |orw _ _ _=>exact .junk _
  |agg _=>exact .junk _
  |tup _=>exact .junk _
  |clo _ _ _=>exact .junk _
  |junk=>exact .junk _
def iy:List (List PV):=[[.ro 1 [[pI 22],[pI 23]]],[.ro 1 [[pI 21],[pI 21]]],[.ro 1 [[pI 11],[pI 14]]],[.ro 1 [[pI 15],[pI 20]]],[.ro 1 [[pI 6],[pI 7]]],[.ro 1 [[pI 8],[pI 10]]]]
theorem zqs:V0 110 [] (.ro 1 iy):=by
 refine zZ aN dO (f:=110) Tryz.func110 rfl kR (oT kR) ?_
 refine aY.cutK 1 8 [] 0 (fun _:Unit=>[]) (fun _=>[]) (fun _=>True) aN mixed (fun _=>0) (fun E=>jF E cK Tryz.f110.results.toList (.ro 1 iy)) kR ?_ ?_
 ·intro P G E hc tZ hE;cbv;exact EI
 intro _ _;refine aY.cut 8 [0] 1 (fun _:Unit=>[.osl 0 0 6]) (fun _=>[some (.rows 1 iy 97)]) (fun _=>True) ?_ ?_
 ·refine aY.cutOps 6 8 [1,2,3,4,5,6] 0 (fun _:Unit=>[.p (.ro 1 [[pI 22],[pI 23]]),.p (.ro 1 [[pI 21],[pI 21]]),.p (.ro 1 [[pI 11],[pI 14]]),.p (.ro 1 [[pI 15],[pI 20]]),.p (.ro 1 [[pI 6],[pI 7]]),.p (.ro 1 [[pI 8],[pI 10]])]) (fun _=>[]) (fun _=>True) aN (fun E=>nB (lZ 8 [0] 1 (fun _:Unit=>[.osl 0 0 6]) (fun _=>[some (.rows 1 iy 97)]) (fun _=>True)) (jF E cK Tryz.f110.results.toList (.ro 1 iy))) ?_ ?_
  ·intro P G E hc tZ hE;cbv;exact .wk () _ _ xd2 r5 trivial
  ·intro _ _ P G E hc tZ hE;cbv;exact EI
 intro _ _;refine aY.of aN mixed (fun _=>0) kR (fun E=>jF E cK Tryz.f110.results.toList (.ro 1 iy)) fun P G E hc hM hE=>?_
 have p1:E.pre 0 6 iy:=by rw[hE];exact nR 6
 have t3:E.sub iy 0 6=iy:=fS
 clear hE hc hM;cbv;refine⟨p1,?_⟩;exact aG (PV.ro 1) t3
theorem xef:∀k:Nat,k<6->∃fr cnt:Nat,CU k=(fr,cnt)/\1<=fr/\fr+cnt<=30/\1<=cnt/\iy[k]?=some [.ro 1 [[pI (fr:Nat)],[pI ((fr+cnt-1:Nat):Int)]]]
 |0,_=>⟨22,2,rfl,by decide,by decide,by decide,rfl⟩
 |1,_=>⟨21,1,rfl,by decide,by decide,by decide,rfl⟩
 |2,_=>⟨11,4,rfl,by decide,by decide,by decide,rfl⟩
 |3,_=>⟨15,6,rfl,by decide,by decide,by decide,rfl⟩
 |4,_=>⟨6,2,rfl,by decide,by decide,by decide,rfl⟩
 |5,_=>⟨8,3,rfl,by decide,by decide,by decide,rfl⟩
 |_+6,h=>by omega
theorem yt{x:PT}{k i o:Int}{nm:ByteArray}{K:PV}(h:gM x=[pI k,pS nm,pI i,pI o,K]):iX x k i o nm K:=by
 cases x with
 |mk k' nm' i' o' ks=>
  rw[gM]at h;have h1:k'=k:=by
   grind
  have h5:mS ks=K:=by
   grind
  exact⟨by exact h,by rw[<-h5];exact C4 ks,h1⟩
section
variable{n:Int}{toks:List Tk}{LR:List (List PV)}{l:Ts}
theorem z2b{k:Nat}{c:Cx}(ih:∀s':Sy,s'.meas<(Sy.opnd k c l).meas->iD n toks LR s'):iD n toks LR (.opnd k c l):=by
 intro f hf a h o ho;have hk6:k<=6:=by
  by_cases hk:k<=6
  ·exact hk
  ·rw[show(Sy.opnd k c l).fid=none from aE hk]at hf;cases hf
 rw[show(Sy.opnd k c l).fid=some 91 from aF hk6]at hf
 cases hf
 rw[qA]at ho;change yo ev k c l=some o at ho;unfold yo at ho;change bE n toks LR a l at h;show MP _ (.own 0 0::[.p (pI (k:Nat))]) [aX LR a c] (iL o) (iE toks LR c o);obtain⟨z,Uu⟩:∃z:Int,((k:Nat):Int)=z:=⟨_,rfl⟩
 rw[Uu];have mK:=sD zqs
 rcases bB k 6 with cJ|qJ
 ·rw[aE oM]at ho
  obtain⟨fr,cnt,e1,e2,e3,e4,e5⟩:=xef k cJ;obtain⟨z1,uR⟩:∃z:Int,((fr:Nat):Int)=z:=⟨_,rfl⟩
  obtain⟨z2,dr⟩:∃z:Int,((fr+cnt-1:Nat):Int)=z:=⟨_,rfl⟩
  obtain⟨z3,AA⟩:∃z:Int,((k+1:Nat):Int)=z:=⟨_,rfl⟩
  have tW:k<2->z<2:=fun h=>by omega
  have oV:¬k<2->¬z<2:=fun h=>by omega
  have SE:z1+((cnt:Nat):Int)=z2+1:=dU
  rw[uR,dr]at e5;have UT:iy.length=6:=rfl;obtain⟨TB,Jl⟩:∃x,iy=x:=⟨_,rfl⟩
  rw[Jl]at e5 mK UT;obtain⟨μ,hμ⟩:∃μ:Int×Ts×PT×Int×Int×Int×ByteArray×PV->Nat,∀x,μ x=x.2.1.length:=⟨_,fun _=>rfl⟩
  have fid1:(Sy.opnd (k+1) c l).fid=some 91:=aF oM
  have rk1:(Sy.opnd (k+1) c l).meas<(Sy.opnd k c l).meas:=by
   show 64*l.length+(if k+1<=6 then 26-2*(k+1)else 14)<64*l.length+(if k<=6 then 26-2*k else 14)
   grind
  have rk2:∀l2:Ts,l2.length<l.length->(Sy.opnd (k+1) c l2).meas<(Sy.opnd k c l).meas:=fun l2 h2=>by
   show 64*l2.length+(if k+1<=6 then 26-2*(k+1)else 14)<64*l.length+(if k<=6 then 26-2*k else 14)
   grind
  refine gS aN (f:=91) Tryz.func91 rfl kR (oT kR) fun tags bS=>?_
  match tags,bS with
  |[t0],_=>
   refine aY.ofM aN mixed (fun n=>match n with|8=>14|15=>8|_=>0) (fun n=>match n with|15=>[6]|_=>[]) (fun n i=>match n,i with|15,6=>1|15,7=>1|_,_=>0) kR (fun E=>eU E cK Tryz.f91.results.toList [t0] (iL o) (iE toks LR c o)) fun P G E hc hM hE=>?_
   have l0:E.ofN TB.length=6:=by rw[hE,UT];rfl
   have d6:decide (z=6)=false:=dF oM
   have ea:E.wadd .i64 z 1=z3:=by rw[hE,<- AA,<- Uu];exact jX oM oM
   have pz:E.ple 0 z:=by rw[hE];show 0<=z;omega
   have gz:TB[E.nat z]?=some [.ro 1 [[pI z1],[pI z2]]]:=by rw[hE];show TB[z.toNat]?=_;grind
   have n0:E.nat 0=0:=fS
   have n1:E.nat 1=1:=fS
   have p0:E.ple 0 0:=Gj
   have p1:E.ple 0 1:=Gn
   have fO:=gX hE;have sb2:=fO.s2;cbv at l0;refine⟨_,hc _ _ _ mK,?_⟩;cbv;refine mT ?_;refine oE (yE (L:=l) (c:=c) (ih (.opnd (k+1) c l) rk1) fid1 rfl rfl rfl rfl (show(Sy.opnd (k+1) c l).args=[.p (pI z3)] by rw[<-AA];rfl) h ho) (fun k1=>xE k1 fun xk1 k1=>xE k1 fun lk1 k1=>xE k1 fun bk1 k1=>xE k1 fun q1k1 k1=>xE k1 fun q2k1 k1=>xE k1 fun q3k1 k1=>xE k1 fun q4k1 k1=>xE k1 fun q5k1 k1=>?_) (fun k1=>?_)
   case' refine_2=>
    refine .z [0] (hM _ _ _ _ _ (k1.2)) rfl rfl rfl ?_;cbv;have e0:=k1.1;subst e0;all_goals trivial
   refine .z [0] (hM _ _ _ _ _ (k1.2.2.2.2)) rfl rfl rfl ?_;cbv;have ok1:=k1.2.2.2.1.one;cbv at ok1;cbv;simp only[ok1];cbv;refine gU 68 [0,1,4,5,6] 3 (fun x:Int×Ts×PT×Int×Int×Int×ByteArray×PV=>[.own 0 0,.p (pI z),.own 1 0,.p (.ro 1 TB),.own 2 0]) (fun x=>[some (.box [.p (.ro 3 LR),.p (pI x.1),.p (pB c.fn),.p (pB c.lp),.p (pB c.gn),.p (pB c.as_)] 39 (some t0)),some (.box [.p (pI 0),.p (pS ⟨#[]⟩),.p (pI 0),.p (pI 0),.p (.v (.slice none 0 0))] 25 none),some (.box [.p (pI x.2.2.2.1),.p (pS x.2.2.2.2.2.2.1),.p (pI x.2.2.2.2.1),.p (pI x.2.2.2.2.2.1),.p x.2.2.2.2.2.2.2] 25 none)])
    (fun x=>bE n toks LR x.1 x.2.1/\ev (.opndL k x.2.2.1 c x.2.1)=some o/\iX x.2.2.1 x.2.2.2.1 x.2.2.2.2.1 x.2.2.2.2.2.1 x.2.2.2.2.2.2.1 x.2.2.2.2.2.2.2/\x.2.1.length<l.length) μ (bk1,lk1,xk1,q1k1,q2k1,q3k1,q4k1,q5k1) r5 ⟨k1.1,k1.2.1,k1.2.2.2.1,k1.2.2.1⟩ ?_
   rintro⟨a1,l1,x,kq,iq,oq,nq,KK⟩ ⟨g1,g2,g3,g4⟩
   simp only at g1 g2 g3 g4;rw[qA]at g2;replace g2:s5 ev k x c l1=some o:=g2;unfold s5 at g2;rw[e1]at g2;simp only at g2;have ok:=g3.one;cbv at ok;cbv;refine xE (YH g1 0 aT c) fun K k2=>xE k2 fun T k2=>xE k2 fun zz k2=>?_
   refine .z [0] (hM _ _ _ _ _ (k2.2.2)) rfl rfl rfl ?_;cbv;refine oE (PE g2) (fun k3=>?_) (fun k3=>oE k3 (fun k3=>?_) (fun k3=>?_))
   case' refine_1=>
    have eK:decide (K=5)=true:=aZ
    cbv;refine mT ?_;refine xE (MW _ k2.2.1 fr cnt e2 e3 z1 z2 uR SE) fun F k4=>?_
    refine⟨_,hc _ _ _ k4.2,?_⟩;cbv;refine oE (jz k3.1) (fun k5=>?_) (fun k5=>?_)
    case' refine_1=>
     have eF:decide (F=0)=true:=aZ
     cbv;refine mT ?_;have e0:=rP k5.2;subst e0;simp only[g1.place,g3.row];all_goals trivial
    have eF:decide (F=0)=false:=aZ
    cbv;simp only[eF];cbv;refine xE (bE.next g1 (kJ k3.2 aT)) fun b6 k6=>?_
    have d7:(List.drop 1 l1).length<l1.length:=by have:=kJ k3.2 aT;grind
    have ak6:=yj hE k6.2.2.1 k6.2.2.2 k6.2.1;cbv;simp only[ak6];cbv;refine oE (dP (k<2)) (fun h2=>?_) (fun h2=>?_)
    case' refine_1=>
     have d2:E.lti z 2=true:=by rw[hE];exact aA (tW h2)
     cbv;simp only[d2];cbv;cbv;simp only[ea];cbv;refine oE (yE (L:=(List.drop 1 l1)) (c:=c) (ih (.opnd (k+1) c (List.drop 1 l1)) (rk2 _ oM)) fid1 rfl rfl rfl rfl (show(Sy.opnd (k+1) c (List.drop 1 l1)).args=[.p (pI z3)] by rw[<-AA];rfl) k6.1 k5.2) (fun k8=>xE k8 fun xk8 k8=>xE k8 fun lk8 k8=>xE k8 fun bk8 k8=>xE k8 fun q1k8 k8=>xE k8 fun q2k8 k8=>xE k8 fun q3k8 k8=>xE k8 fun q4k8 k8=>xE k8 fun q5k8 k8=>?_) (fun k8=>?_)
     case' refine_2=>
      refine Or.inr ?_;refine .mk [0] _ _ _ _ (hM _ _ _ _ _ (k8.2)) rfl rfl rfl _ rfl ?_;cbv;have e0:=k8.1;subst e0;all_goals trivial
     refine Or.inl ?_;refine⟨.mk trivial,?_⟩;refine .mk [0] _ _ _ _ (hM _ _ _ _ _ (k8.2.2.2.2)) rfl rfl rfl rfl ?_;cbv;have ok8:=k8.2.2.2.1.one;cbv at ok8;cbv;refine mT ?_;refine⟨.mk vR,?_⟩
     cbv;have e9:=k8.2.1;rw[(aF h2)]at e9;exact .mk (bk8,lk8,fR 14 (gN (tx l1 0) fr cnt) [x,xk8],14,0,F,⟨#[]⟩,.ro 5 [[pI kq,pS nq,pI iq,pI oq,KK],[pI q1k8,pS q4k8,pI q2k8,pI q3k8,q5k8]]) r5 ⟨k8.1,e9,yt ZS,by grind⟩ aZ
    have d2:E.lti z 2=false:=by rw[hE];exact dF (oV h2)
    cbv;simp only[d2];cbv;cbv;simp only[ea];cbv;refine oE (yE (L:=(List.drop 1 l1)) (c:=c) (ih (.opnd (k+1) c (List.drop 1 l1)) (rk2 _ oM)) fid1 rfl rfl rfl rfl (show(Sy.opnd (k+1) c (List.drop 1 l1)).args=[.p (pI z3)] by rw[<-AA];rfl) k6.1 k5.2) (fun k8=>xE k8 fun xk8 k8=>xE k8 fun lk8 k8=>xE k8 fun bk8 k8=>xE k8 fun q1k8 k8=>xE k8 fun q2k8 k8=>xE k8 fun q3k8 k8=>xE k8 fun q4k8 k8=>xE k8 fun q5k8 k8=>?_) (fun k8=>?_)
    case' refine_2=>
     refine Or.inr ?_;refine .mk [0] _ _ _ _ (hM _ _ _ _ _ (k8.2)) rfl rfl rfl _ rfl ?_;cbv;have e0:=k8.1;subst e0;all_goals trivial
    refine Or.inl ?_;refine⟨.mk trivial,?_⟩;refine .mk [0] _ _ _ _ (hM _ _ _ _ _ (k8.2.2.2.2)) rfl rfl rfl rfl ?_;cbv;have ok8:=k8.2.2.2.1.one;cbv at ok8;cbv;refine mT ?_;refine⟨.mk vR,?_⟩
    cbv;have e9:=k8.2.1;rw[(aE h2)]at e9;exact .mk (bk8,lk8,fR 13 (gN (tx l1 0) fr cnt) [x,xk8],13,0,F,⟨#[]⟩,.ro 5 [[pI kq,pS nq,pI iq,pI oq,KK],[pI q1k8,pS q4k8,pI q2k8,pI q3k8,q5k8]]) r5 ⟨k8.1,e9,yt ZS,by grind⟩ aZ
   case' refine_2=>
    have eK:decide (K=5)=false:=aZ
    have eK2:decide (K=2)=true:=aZ
    cbv;refine mT ?_;refine xE (MW _ k2.2.1 fr cnt e2 e3 z1 z2 uR SE) fun F k4=>?_
    refine⟨_,hc _ _ _ k4.2,?_⟩;cbv;refine oE (jz k3.1) (fun k5=>?_) (fun k5=>?_)
    case' refine_1=>
     have eF:decide (F=0)=true:=aZ
     cbv;refine mT ?_;have e0:=rP k5.2;subst e0;simp only[g1.place,g3.row];all_goals trivial
    have eF:decide (F=0)=false:=aZ
    cbv;simp only[eF];cbv;refine xE (bE.next g1 (kJ k3.2.2 aT)) fun b6 k6=>?_
    have d7:(List.drop 1 l1).length<l1.length:=by have:=kJ k3.2.2 aT;grind
    have ak6:=yj hE k6.2.2.1 k6.2.2.2 k6.2.1;cbv;simp only[ak6];cbv;refine oE (dP (k<2)) (fun h2=>?_) (fun h2=>?_)
    case' refine_1=>
     have d2:E.lti z 2=true:=by rw[hE];exact aA (tW h2)
     cbv;simp only[d2];cbv;cbv;simp only[ea];cbv;refine oE (yE (L:=(List.drop 1 l1)) (c:=c) (ih (.opnd (k+1) c (List.drop 1 l1)) (rk2 _ oM)) fid1 rfl rfl rfl rfl (show(Sy.opnd (k+1) c (List.drop 1 l1)).args=[.p (pI z3)] by rw[<-AA];rfl) k6.1 k5.2) (fun k8=>xE k8 fun xk8 k8=>xE k8 fun lk8 k8=>xE k8 fun bk8 k8=>xE k8 fun q1k8 k8=>xE k8 fun q2k8 k8=>xE k8 fun q3k8 k8=>xE k8 fun q4k8 k8=>xE k8 fun q5k8 k8=>?_) (fun k8=>?_)
     case' refine_2=>
      refine Or.inr ?_;refine .mk [0] _ _ _ _ (hM _ _ _ _ _ (k8.2)) rfl rfl rfl _ rfl ?_;cbv;have e0:=k8.1;subst e0;all_goals trivial
     refine Or.inl ?_;refine⟨.mk trivial,?_⟩;refine .mk [0] _ _ _ _ (hM _ _ _ _ _ (k8.2.2.2.2)) rfl rfl rfl rfl ?_;cbv;have ok8:=k8.2.2.2.1.one;cbv at ok8;cbv;refine mT ?_;refine⟨.mk vR,?_⟩
     cbv;have e9:=k8.2.1;rw[(aF h2)]at e9;exact .mk (bk8,lk8,fR 14 (gN (tx l1 0) fr cnt) [x,xk8],14,0,F,⟨#[]⟩,.ro 5 [[pI kq,pS nq,pI iq,pI oq,KK],[pI q1k8,pS q4k8,pI q2k8,pI q3k8,q5k8]]) r5 ⟨k8.1,e9,yt ZS,by grind⟩ aZ
    have d2:E.lti z 2=false:=by rw[hE];exact dF (oV h2)
    cbv;simp only[d2];cbv;cbv;simp only[ea];cbv;refine oE (yE (L:=(List.drop 1 l1)) (c:=c) (ih (.opnd (k+1) c (List.drop 1 l1)) (rk2 _ oM)) fid1 rfl rfl rfl rfl (show(Sy.opnd (k+1) c (List.drop 1 l1)).args=[.p (pI z3)] by rw[<-AA];rfl) k6.1 k5.2) (fun k8=>xE k8 fun xk8 k8=>xE k8 fun lk8 k8=>xE k8 fun bk8 k8=>xE k8 fun q1k8 k8=>xE k8 fun q2k8 k8=>xE k8 fun q3k8 k8=>xE k8 fun q4k8 k8=>xE k8 fun q5k8 k8=>?_) (fun k8=>?_)
    case' refine_2=>
     refine Or.inr ?_;refine .mk [0] _ _ _ _ (hM _ _ _ _ _ (k8.2)) rfl rfl rfl _ rfl ?_;cbv;have e0:=k8.1;subst e0;all_goals trivial
    refine Or.inl ?_;refine⟨.mk trivial,?_⟩;refine .mk [0] _ _ _ _ (hM _ _ _ _ _ (k8.2.2.2.2)) rfl rfl rfl rfl ?_;cbv;have ok8:=k8.2.2.2.1.one;cbv at ok8;cbv;refine mT ?_;refine⟨.mk vR,?_⟩
    cbv;have e9:=k8.2.1;rw[(aE h2)]at e9;exact .mk (bk8,lk8,fR 13 (gN (tx l1 0) fr cnt) [x,xk8],13,0,F,⟨#[]⟩,.ro 5 [[pI kq,pS nq,pI iq,pI oq,KK],[pI q1k8,pS q4k8,pI q2k8,pI q3k8,q5k8]]) r5 ⟨k8.1,e9,yt ZS,by grind⟩ aZ
   have eK:decide (K=5)=false:=aZ
   have eK2:decide (K=2)=false:=aZ
   cbv;refine mT ?_;have e0:=rP k3.1;subst e0;simp only[g1.place,g3.row];all_goals trivial
 ·rw[aF qJ]at ho;have UT:iy.length=6:=rfl;obtain⟨TB,Jl⟩:∃x,iy=x:=⟨_,rfl⟩
  rw[Jl]at mK UT;refine gS aN (f:=91) Tryz.func91 rfl kR (oT kR) fun tags bS=>?_
  match tags,bS with
  |[t0],_=>
   refine aY.cutKM 3 68 [] 0 (fun _:Unit=>[]) (fun _=>[]) (fun _=>False) aN mixed (fun _=>0) (fun _=>[]) (fun _ _=>0) (fun E=>eU E cK Tryz.f91.results.toList [t0] (iL o) (iE toks LR c o)) kR (fun P G E hc hM hE=>?_) (fun _ h=>h.elim)
   have l0:E.ofN TB.length=6:=by rw[hE,UT];rfl
   have d6:decide (z=6)=true:=aA oM
   cbv at l0;cbv;refine⟨_,hc _ _ _ mK,?_⟩;cbv;refine mT ?_;refine oE (YO (L:=l) (c:=c) (ih (.unary c l) (by
    show 64*l.length+12<64*l.length+(if k<=6 then 26-2*k else 14)
    grind)) rfl rfl rfl rfl rfl h ho) (fun k2=>xE k2 fun xk2 k2=>xE k2 fun lk2 k2=>xE k2 fun bk2 k2=>xE k2 fun q1k2 k2=>xE k2 fun q2k2 k2=>xE k2 fun q3k2 k2=>xE k2 fun q4k2 k2=>xE k2 fun q5k2 k2=>?_) (fun k2=>?_)
   case' refine_2=>
    refine .z [0] (hM _ _ _ _ _ (k2.2)) rfl rfl rfl ?_;cbv;have e0:=k2.1;subst e0;all_goals trivial
   refine .z [0] (hM _ _ _ _ _ (k2.2.2.2)) rfl rfl rfl ?_;cbv;have ok2:=k2.2.2.1.one;cbv at ok2;cbv;simp only[ok2];cbv;have e0:=k2.2.1;subst e0;simp only[k2.1.place,k2.2.2.1.row];all_goals trivial
end
theorem X9(m:Nat):∀(e:Bs)(acc:List PT)(c:Cx)(l:Ts){ks:List PT}{l':Ts},l.length<m->ev (.list2L e acc c l)=some (some (.ls ks,l'))->ks.length+l'.length<=acc.length+l.length:=by
 induction m with
 |zero=>omega
 |succ m ih=>
  intro e acc c l ks l' hm h;rw[qA]at h;change sj ev e acc c l=_ at h;unfold sj at h;obtain⟨o,ho,hp⟩:=yl (.assign c l);rw[ho]at h
  cases o with
  |none=>cases h
  |some q=>
   obtain⟨v,l1⟩:=q;have h1:=hp v l1 rfl
   cases v with
   |nb x b=>cases h
   |ls x=>cases h
   |nd x=>
    have h2:l1.length<l.length:=(h1.2.2 rfl rfl).2;replace h:(if aL l1 0 e then bR (Rv.ls (acc++[x])) (l1.drop 1)else eZ rY l1 fun l2=>ev (.list2L e (acc++[x]) c l2))=some (some (.ls ks,l')):=h
    by_cases h3:aL l1 0 e=true
    ·rw[aF h3]at h
     cases h
     grind
    ·rw[aE h3]at h;unfold eZ at h
     by_cases h4:aL l1 0 rY=true
     ·rw[aF h4]at h
      have:=ih e _ c _ aZ h
      grind
     ·rw[aE h4]at h;cases h
theorem z27{e:Bs}{c:Cx}{l:Ts}{ks:List PT}{l':Ts}(h:ev (.list2 e c l)=some (some (.ls ks,l'))):ks.length<=l.length:=by
 change s9 ev e c l=_ at h;unfold s9 at h
 split at h
 ·cases h;exact aP _
 ·have:=X9 _ e [] c l (oy _) h
  grind
def DU(c:Cx)(m:PT)(l1:Ts):Re Rv:=eZ jD l1 fun l2=>lsR (ev (.list2 eG c l2)) fun qs l3=>ev (.chainL (nd 21 (m::qs)) c l3)
def Qy(c:Cx):Bool->PT->Ts->Re Rv
 |true,x,l=>ev (.chainN x c l)
 |false,x,l=>DU c x l
theorem xhl{c:Cx}{p:Bool}{x:PT}{l:Ts}{o:Option (Rv×Ts)}(h:(if p then ev (.chainN x c l)else eZ jD l fun l2=>lsR (ev (.list2 eG c l2)) fun qs l3=>ev (.chainL (nd 21 (x::qs)) c l3))=some o):Qy c p x l=some o:=by
 cases p with
 |true=>exact h
 |false=>exact h
theorem WD{α:Type}(l:List α):l=[]\/∃x xs,l=x::xs:=by
 cases l with
 |nil=>exact .inl rfl
 |cons x xs=>grind
structure ApL(E:SO)(r:List PV)(rs:List (List PV))(M:Nat)(R2:List (List PV))(N2:Nat):Prop where
 pre:E.pre 0 1 [r]
 room:E.room 1 M 64
 add:E.addN 1 M=N2
 app:E.app [r] 1 rs=R2
 le:N2<=R2.length
 take:R2.take N2=R2
theorem Qz{E:SO}(hE:E=bK){r:List PV}{rs:List (List PV)}{M:Nat}(hM:rs.length=M)(hz:M<=1000000){R2:List (List PV)}{N2:Nat}(h2:r::rs=R2)(h3:1+M=N2):ApL E r rs M R2 N2:=by
 subst hE h2 h3 hM;exact⟨nR 1,⟨by unfold maxLen;omega,by omega⟩,rfl,rfl,by simp[Ba],by grind⟩
section
variable{n:Int}{toks:List Tk}{LR:List (List PV)}{l:Ts}
theorem Q2{c:Cx}{x:PT}{k i q:Int}{nm:ByteArray}{K:PV}(hv:iX x k i q nm K):(Sy.link x c l).args=[.p (.agg [pI k,pS nm,pI i,pI q,K])]:=aG (fun r=>[AV.p (.agg r)]) hv.row
theorem Qu{a:Int}{e:Bs}{c:Cx}{L:Ts}{β:Type}{o:Option (β×Ts)}(hG:iD n toks LR (.list2 e c L))(h:bE n toks LR a L){K:List PT->Ts->Re β}(ho:lsR (ev (.list2 e c L)) K=some o):
  (∃ks l' b R M,bE n toks LR b l'/\K ks l'=some o/\l'.length<L.length/\eO ks=R/\R.length=M/\M<=L.length/\MP 154 [.own 0 0,.p (pS (bL e))] [aX LR a c] (.p (mS ks)) [aX LR b c])\/(o=none/\MP 154 [.own 0 0,.p (pS (bL e))] [aX LR a c] (.p (.pan lO)) [none]):=by
 rcases hG.ls rfl rfl h with⟨h1,h2⟩|⟨x,l',b,h1,h2,h4,h5⟩
 ·unfold lsR bnd at ho;rw[h1]at ho;simp only[bV]at ho;exact .inr ⟨ho.symm,h2⟩
 ·unfold lsR bnd at ho;rw[h1]at ho;refine .inl ⟨x,l',b,_,_,h2,ho,h4 rfl,rfl,rfl,?_,h5⟩;rw[vd];exact z27 h1
theorem Kt{ks:List PT}{R:List (List PV)}{M:Nat}(vG:ks=[])(h:eO ks=R)(h2:R.length=M):mS ks=.v (.slice none 0 0)/\R=[]/\M=0:=by
 subst vG;subst h h2;exact⟨by rw[mS],rfl,rfl⟩
theorem LW{ks:List PT}{R:List (List PV)}(vG:∃x xs,ks=x::xs)(h:eO ks=R):mS ks=.ro 5 R:=by
 obtain⟨x,xs,rfl⟩:=vG;exact D5 h
theorem Qf{x:PT}{kd:Int}{ks:List PT}{r:List PV}{R R2:List (List PV)}(hx:gM x=r)(h:eO ks=R)(h2:r::R=R2):gM (nd kd (x::ks))=[pI kd,pS ⟨#[]⟩,pI 0,pI 0,.ro 5 R2]:=by
 subst hx h h2;rfl
theorem YG{f:FuncId}{H H':AH}{r:AV}{k i q:Int}{nm:ByteArray}{K:PV}(h:MP f [.own 0 0,.p (.agg [pI k,pS nm,pI i,pI q,K])] H r H'):MP f [.own 0 0,.agg [.p (pI k),.p (pS nm),.p (pI i),.p (pI q),.p K]] H r H':=
 jP.args h rfl fun j a a' ha B2=>by
  match j with
  |0=>grind
  |1=>cases ha;cases B2;exact .inr ⟨_,rfl,rfl⟩
  |j+2=>cases ha
theorem Ws{c:Cx}(ih:∀s':Sy,s'.meas<(Sy.chain c l).meas->iD n toks LR s'):iD n toks LR (.chain c l):=by
 intro f hf a h o ho
 cases hf
 rw[qA]at ho;change yx ev c l=some o at ho;unfold yx at ho;change bE n toks LR a l at h;show MP _ (.own 0 0::[]) [aX LR a c] (iL o) (iE toks LR c o);have ca:l.length<=1000000:=dm
 obtain⟨μ,hμ⟩:∃μ:(Int×Ts×PT×Int×Int×Int×ByteArray×PV)×Bool->Nat,∀x,μ x=(if x.2 then x.1.2.1.length+1 else 0):=⟨_,fun _=>rfl⟩
 obtain⟨μ2,hμ2⟩:∃μ:Int×Ts×PT×Int×Int×Int×ByteArray×PV->Nat,∀x,μ x=x.2.1.length:=⟨_,fun _=>rfl⟩
 refine gS aN (f:=139) Tryz.func139 rfl kR (oT kR) fun tags bS=>?_
 match tags,bS with
 |[t0],_=>
  refine aY.cutKM 3 46 [0,2,3] 3 (fun x:Int×Ts×PT×Int×Int×Int×ByteArray×PV=>[.own 0 0,.own 1 0,.own 2 0]) (fun x=>[some (.box [.p (.ro 3 LR),.p (pI x.1),.p (pB c.fn),.p (pB c.lp),.p (pB c.gn),.p (pB c.as_)] 39 (some t0)),some (.box [.p (pI 0),.p (pS ⟨#[]⟩),.p (pI 0),.p (pI 0),.p (.v (.slice none 0 0))] 25 none),some (.box [.p (pI x.2.2.2.1),.p (pS x.2.2.2.2.2.2.1),.p (pI x.2.2.2.2.1),.p (pI x.2.2.2.2.2.1),.p x.2.2.2.2.2.2.2] 25 none)]) (fun x=>bE n toks LR x.1 x.2.1/\ev (.chainL x.2.2.1 c x.2.1)=some o/\iX x.2.2.1 x.2.2.2.1 x.2.2.2.2.1 x.2.2.2.2.2.1 x.2.2.2.2.2.2.1 x.2.2.2.2.2.2.2/\x.2.1.length<l.length) aN mixed (fun _=>0) (fun _=>[]) (fun n i=>match n,i with|8,0=>1|15,0=>1|_,_=>0) (fun E=>eU E cK Tryz.f139.results.toList [t0] (iL o) (iE toks LR c o)) kR (fun P G E hc hM hE=>?_) ?_
  case' refine_1=>
   cbv;refine oE (xC h YT c ho) (fun k1=>xE k1 fun bk1 k1=>?_) (fun k1=>?_)
   case' refine_2=>
    refine .z [0] (hM _ _ _ _ _ (k1.2.2)) rfl rfl rfl ?_;cbv;refine oE (yE (L:=l) (c:=c) (ih (.prim c l) xJ) rfl rfl rfl rfl rfl rfl h k1.1) (fun k2=>xE k2 fun xk2 k2=>xE k2 fun lk2 k2=>xE k2 fun bk2 k2=>xE k2 fun q1k2 k2=>xE k2 fun q2k2 k2=>xE k2 fun q3k2 k2=>xE k2 fun q4k2 k2=>xE k2 fun q5k2 k2=>?_) (fun k2=>?_)
    case' refine_2=>
     refine .z [0] (hM _ _ _ _ _ (k2.2)) rfl rfl rfl ?_;cbv;have e0:=k2.1;subst e0;all_goals trivial
    refine .z [0] (hM _ _ _ _ _ (k2.2.2.2.2)) rfl rfl rfl ?_;cbv;have ok2:=k2.2.2.2.1.one;cbv at ok2;cbv;simp only[ok2];cbv;exact .mk (bk2,lk2,xk2,q1k2,q2k2,q3k2,q4k2,q5k2) r5 ⟨k2.1,k2.2.1,k2.2.2.2.1,k2.2.2.1⟩
   refine .z [0] (hM _ _ _ _ _ (k1.2.2.2.2)) rfl rfl rfl ?_;cbv;refine oE (yE (L:=(List.drop 1 l)) (c:=c) (ih (.prim c (List.drop 1 l)) xJ) rfl rfl rfl rfl rfl rfl k1.1 k1.2.1) (fun k2=>xE k2 fun xk2 k2=>xE k2 fun lk2 k2=>xE k2 fun bk2 k2=>xE k2 fun q1k2 k2=>xE k2 fun q2k2 k2=>xE k2 fun q3k2 k2=>xE k2 fun q4k2 k2=>xE k2 fun q5k2 k2=>?_) (fun k2=>?_)
   case' refine_2=>
    refine .z [0] (hM _ _ _ _ _ (k2.2)) rfl rfl rfl ?_;cbv;have e0:=k2.1;subst e0;all_goals trivial
   refine .z [0] (hM _ _ _ _ _ (k2.2.2.2.2)) rfl rfl rfl ?_;cbv;have ok2:=k2.2.2.2.1.one;cbv at ok2;cbv;simp only[ok2];cbv;refine gU 46 [0,2,3,4] 3 (fun x:(Int×Ts×PT×Int×Int×Int×ByteArray×PV)×Bool=>[.own 0 0,.own 1 0,.own 2 0,.p (pB x.2)]) (fun x=>[some (.box [.p (.ro 3 LR),.p (pI x.1.1),.p (pB c.fn),.p (pB c.lp),.p (pB c.gn),.p (pB c.as_)] 39 (some t0)),some (.box [.p (pI 0),.p (pS ⟨#[]⟩),.p (pI 0),.p (pI 0),.p (.v (.slice none 0 0))] 25 none),some (.box [.p (pI x.1.2.2.2.1),.p (pS x.1.2.2.2.2.2.2.1),.p (pI x.1.2.2.2.2.1),.p (pI x.1.2.2.2.2.2.1),.p x.1.2.2.2.2.2.2.2] 25 none)]) (fun x=>bE n toks LR x.1.1 x.1.2.1/\Qy c x.2 x.1.2.2.1 x.1.2.1=some o/\iX x.1.2.2.1 x.1.2.2.2.1 x.1.2.2.2.2.1 x.1.2.2.2.2.2.1 x.1.2.2.2.2.2.2.1 x.1.2.2.2.2.2.2.2/\x.1.2.1.length<l.length) μ ((bk2,lk2,xk2,q1k2,q2k2,q3k2,q4k2,q5k2),true) r5 ⟨k2.1,k2.2.1,k2.2.2.2.1,by grind⟩ ?_
   rintro⟨⟨a1,l1,x,kq,iq,oq,nq,KK⟩,bb⟩ ⟨g1,g2,g3,g4⟩
   simp only at g1 g2 g3 g4;have ok:=g3.one;cbv at ok
   cases bb with
   |true=>
    replace g2:ev (.chainN x c l1)=some o:=g2;rw[qA]at g2;replace g2:yu ev x c l1=some o:=g2;unfold yu at g2;cbv;cbv;refine oE (G3 (L:=l1) (c:=c) (ih (.link x c l1) xJ) rfl rfl rfl rfl rfl (Q2 g3) g1 g2) (fun k3=>xE k3 fun xk3 k3=>xE k3 fun pk3 k3=>xE k3 fun lk3 k3=>xE k3 fun bk3 k3=>xE k3 fun q1k3 k3=>xE k3 fun q2k3 k3=>xE k3 fun q3k3 k3=>xE k3 fun q4k3 k3=>xE k3 fun q5k3 k3=>?_) (fun k3=>?_)
    case' refine_2=>
     refine .z [0] (hM _ _ _ _ _ (YG k3.2)) rfl rfl rfl ?_;cbv;have e0:=k3.1;subst e0;all_goals trivial
    refine .z [0] (hM _ _ _ _ _ (YG k3.2.2.2.2)) rfl rfl rfl ?_;cbv;have ok3:=k3.2.2.2.1.one;cbv at ok3;cbv;simp only[ok3];cbv;exact .mk ((bk3,lk3,xk3,q1k3,q2k3,q3k3,q4k3,q5k3),pk3) r5 ⟨k3.1,xhl k3.2.1,k3.2.2.2.1,by grind⟩ (by
     grind)
   |false=>
    replace g2:DU c x l1=some o:=g2;unfold DU at g2;cbv;refine oE (m6 g1 jD c g2) (fun k4=>xE k4 fun bk4 k4=>?_) (fun k4=>?_)
    case' refine_2=>
     refine .z [0] (hM _ _ _ _ _ (k4.2)) rfl rfl rfl ?_;cbv;have e0:=k4.1;subst e0;all_goals trivial
    refine .z [0] (hM _ _ _ _ _ (k4.2.2.2.2)) rfl rfl rfl ?_;cbv;simp only[ok];cbv;have FL:(List.drop 1 l1).length<l.length:=dU
    refine oE (Qu (ih (.list2 eG c (List.drop 1 l1)) xJ) k4.1 k4.2.1) (fun k5=>xE k5 fun ks5 k5=>xE k5 fun lk5 k5=>xE k5 fun bk5 k5=>xE k5 fun R5 k5=>xE k5 fun M5 k5=>?_) (fun k5=>?_)
    case' refine_2=>
     refine⟨⟨?_,?_,?_⟩,⟨?_,?_⟩,?_⟩
     all_goals refine .z [0] (hM _ _ _ _ _ (k5.2)) rfl rfl rfl ?_
     all_goals cbv
     all_goals have e0:=k5.1
     all_goals subst e0
     all_goals cbv
     all_goals trivial
    refine xE (⟨_,rfl⟩:∃R2,[pI kq,pS nq,pI iq,pI oq,KK]::R5=R2) fun R2 cS=>?_
    refine xE (⟨_,rfl⟩:∃N2,1+M5=N2) fun N2 fT=>?_
    have y6:=k5.2.2.2.2.1;have GH:=k5.2.2.2.1;have r9:=y6;cbv at r9;have fA:=Qz hE y6 oM cS fT
    have fA1:=fA.pre;have fA2:=fA.room;have fA3:=fA.add;have fA4:=fA.app;have cM:=Qf (kd:=21) g3.row GH cS;refine oE (WD ks5) (fun vG=>?_) (fun vG=>?_)
    case' refine_1=>
     have hn:=Kt vG GH y6;have qu:=k5.2.2.2.2.2.2;rw[hn.1]at qu;rw[hn.2.1]at fA4;rw[hn.2.2]at fA2 fA3;refine⟨⟨?_,?_,?_⟩,⟨?_,?_⟩,?_⟩
     all_goals refine .z [0] (hM _ _ _ _ _ qu) rfl rfl rfl ?_
     all_goals cbv
     all_goals repeat (first|(simp only[ok];cbv)|(refine⟨fA1,?_⟩;cbv)|(refine⟨fA2,?_⟩;cbv)|(simp only[fA3,fA4];cbv))
     all_goals exact .wk (bk5,lk5,nd 21 (x::ks5),21,0,0,⟨#[]⟩,.ro 5 R2) _ _ (a6 (k:=2) (j:=4) (l:=3) (n:=N2) rfl rfl rfl fA.le fA.take) r5 ⟨k5.1,k5.2.1,yt cM,pQ k5.2.2.1 FL⟩
    have hn:=LW vG GH;have qu:=k5.2.2.2.2.2.2;rw[hn]at qu;refine⟨⟨?_,?_,?_⟩,⟨?_,?_⟩,?_⟩
    all_goals refine .z [0] (hM _ _ _ _ _ qu) rfl rfl rfl ?_
    all_goals cbv
    all_goals repeat (first|(simp only[ok];cbv)|(simp only[r9];cbv)|(refine⟨fA1,?_⟩;cbv)|(refine⟨fA2,?_⟩;cbv)|(simp only[fA3,fA4];cbv))
    all_goals exact .wk (bk5,lk5,nd 21 (x::ks5),21,0,0,⟨#[]⟩,.ro 5 R2) _ _ (a6 (k:=2) (j:=4) (l:=3) (n:=N2) rfl rfl rfl fA.le fA.take) r5 ⟨k5.1,k5.2.1,yt cM,pQ k5.2.2.1 FL⟩
  rintro⟨a0,l0,x0,kz,iz,oz,nz,Kz⟩ ⟨h0,ap,rQ,mW⟩
  simp only at h0 ap rQ mW;refine aY.ofM aN mixed (fun _=>0) (fun _=>[]) (fun n i=>match n,i with|8,0=>1|15,0=>1|_,_=>0) kR (fun E=>eU E cK Tryz.f139.results.toList [t0] (iL o) (iE toks LR c o)) fun P G E hc hM hE=>?_
  cbv;refine C9 46 [0,2,3] 3 (fun x:Int×Ts×PT×Int×Int×Int×ByteArray×PV=>[.own 0 0,.own 1 0,.own 2 0]) (fun x=>[some (.box [.p (.ro 3 LR),.p (pI x.1),.p (pB c.fn),.p (pB c.lp),.p (pB c.gn),.p (pB c.as_)] 39 (some t0)),some (.box [.p (pI 0),.p (pS ⟨#[]⟩),.p (pI 0),.p (pI 0),.p (.v (.slice none 0 0))] 25 none),some (.box [.p (pI x.2.2.2.1),.p (pS x.2.2.2.2.2.2.1),.p (pI x.2.2.2.2.1),.p (pI x.2.2.2.2.2.1),.p x.2.2.2.2.2.2.2] 25 none)]) (fun x=>bE n toks LR x.1 x.2.1/\ev (.chainL x.2.2.1 c x.2.1)=some o/\iX x.2.2.1 x.2.2.2.1 x.2.2.2.2.1 x.2.2.2.2.2.1 x.2.2.2.2.2.2.1 x.2.2.2.2.2.2.2/\x.2.1.length<l.length) μ2 (a0,l0,x0,kz,iz,oz,nz,Kz) r5 ⟨h0,ap,rQ,mW⟩ ?_
  rintro⟨a1,l1,x,kq,iq,oq,nq,KK⟩ ⟨g1,g2,g3,g4⟩
  simp only at g1 g2 g3 g4;have ok:=g3.one;cbv at ok;rw[qA]at g2;replace g2:yz ev x c l1=some o:=g2;unfold yz at g2;cbv;cbv;refine oE (G3 (L:=l1) (c:=c) (ih (.link x c l1) xJ) rfl rfl rfl rfl rfl (Q2 g3) g1 g2) (fun k3=>xE k3 fun xk3 k3=>xE k3 fun pk3 k3=>xE k3 fun lk3 k3=>xE k3 fun bk3 k3=>xE k3 fun q1k3 k3=>xE k3 fun q2k3 k3=>xE k3 fun q3k3 k3=>xE k3 fun q4k3 k3=>xE k3 fun q5k3 k3=>?_) (fun k3=>?_)
  case' refine_2=>
   refine .z [0] (hM _ _ _ _ _ (YG k3.2)) rfl rfl rfl ?_;cbv;have e0:=k3.1;subst e0;all_goals trivial
  refine .z [0] (hM _ _ _ _ _ (YG k3.2.2.2.2)) rfl rfl rfl ?_;cbv;have ok3:=k3.2.2.2.1.one;cbv at ok3;cbv;simp only[ok3];cbv;refine oE (El k3.2.1) (fun k4=>?_) (fun k4=>?_)
  case' refine_1=>
   have ep:=k4.2;subst ep;have cJ:=k3.2.2.1.2 rfl;cbv;simp only[ok3];cbv;exact .mk (bk3,lk3,xk3,q1k3,q2k3,q3k3,q4k3,q5k3) r5 ⟨k3.1,k4.1,k3.2.2.2.1,by grind⟩ aZ
  have ep:=k4.2;subst ep;cbv;refine oE (xC k3.1 jD c k4.1) (fun k6=>xE k6 fun bk6 k6=>?_) (fun k6=>?_)
  case' refine_2=>
   refine .z [0] (hM _ _ _ _ _ (k6.2.2)) rfl rfl rfl ?_;cbv;simp only[ok];cbv;have e0:=rP (k6.1);subst e0;simp only[k3.1.place,g3.row];all_goals trivial
  refine .z [0] (hM _ _ _ _ _ (k6.2.2.2.2)) rfl rfl rfl ?_;cbv;refine mT ?_;have FL:(List.drop 1 lk3).length<l.length:=dU
  refine oE (Qu (ih (.list2 eG c (List.drop 1 lk3)) xJ) k6.1 k6.2.1) (fun k5=>xE k5 fun ks5 k5=>xE k5 fun lk5 k5=>xE k5 fun bk5 k5=>xE k5 fun R5 k5=>xE k5 fun M5 k5=>?_) (fun k5=>?_)
  case' refine_2=>
   refine⟨⟨?_,?_,?_⟩,⟨?_,?_⟩,?_⟩
   all_goals refine .z [0] (hM _ _ _ _ _ (k5.2)) rfl rfl rfl ?_
   all_goals cbv
   all_goals have e0:=k5.1
   all_goals subst e0
   all_goals cbv
   all_goals trivial
  refine xE (⟨_,rfl⟩:∃R2,[pI kq,pS nq,pI iq,pI oq,KK]::R5=R2) fun R2 cS=>?_
  refine xE (⟨_,rfl⟩:∃N2,1+M5=N2) fun N2 fT=>?_
  have y6:=k5.2.2.2.2.1;have GH:=k5.2.2.2.1;have r9:=y6;cbv at r9;have fA:=Qz hE y6 oM cS fT
  have fA1:=fA.pre;have fA2:=fA.room;have fA3:=fA.add;have fA4:=fA.app;have cM:=Qf (kd:=20) g3.row GH cS;refine oE (WD ks5) (fun vG=>?_) (fun vG=>?_)
  case' refine_1=>
   have hn:=Kt vG GH y6;have qu:=k5.2.2.2.2.2.2;rw[hn.1]at qu;rw[hn.2.1]at fA4;rw[hn.2.2]at fA2 fA3;refine⟨⟨?_,?_,?_⟩,⟨?_,?_⟩,?_⟩
   all_goals refine .z [0] (hM _ _ _ _ _ qu) rfl rfl rfl ?_
   all_goals cbv
   all_goals repeat (first|(simp only[ok];cbv)|(refine⟨fA1,?_⟩;cbv)|(refine⟨fA2,?_⟩;cbv)|(simp only[fA3,fA4];cbv))
   all_goals exact .wk (bk5,lk5,nd 20 (x::ks5),20,0,0,⟨#[]⟩,.ro 5 R2) _ _ (a6 (k:=2) (j:=4) (l:=4) (n:=N2) rfl rfl rfl fA.le fA.take) r5 ⟨k5.1,k5.2.1,yt cM,pQ k5.2.2.1 FL⟩ aZ
  have hn:=LW vG GH;have qu:=k5.2.2.2.2.2.2;rw[hn]at qu;refine⟨⟨?_,?_,?_⟩,⟨?_,?_⟩,?_⟩
  all_goals refine .z [0] (hM _ _ _ _ _ qu) rfl rfl rfl ?_
  all_goals cbv
  all_goals repeat (first|(simp only[ok];cbv)|(simp only[r9];cbv)|(refine⟨fA1,?_⟩;cbv)|(refine⟨fA2,?_⟩;cbv)|(simp only[fA3,fA4];cbv))
  all_goals exact .wk (bk5,lk5,nd 20 (x::ks5),20,0,0,⟨#[]⟩,.ro 5 R2) _ _ (a6 (k:=2) (j:=4) (l:=4) (n:=N2) rfl rfl rfl fA.le fA.take) r5 ⟨k5.1,k5.2.1,yt cM,pQ k5.2.2.1 FL⟩ aZ
end
structure tg(n:Int)(toks:List Tk)(q:Bool)(x:Int×Int×Ts×Nat):Prop where
 d:toks.drop x.1.toNat=x.2.2.1
 i0:0<=x.1
 i1:x.1+((x.2.2.1.length:Nat):Int)=((toks.length:Nat):Int)
 m:((x.2.2.2:Nat):Int)=x.2.1
 m1:x.2.2.2<=128
 q:uO x.2.2.2 x.2.2.1=q
theorem Mm(n:Int)(toks:List Tk)(hz:toks.length<=1000000):V0 27 [.ro 3 (lF n toks)] (pB (uO 0 toks)):=by
 obtain⟨q,hq⟩:∃q,uO 0 toks=q:=⟨_,rfl⟩
 rw[hq];have eS:=vh n toks;have aU:∀(j:Nat)(t:Tk),toks[j]?=some t->(lF n toks)[j]?=some [pI t.k,pS (bL t.t),pI (n-(t.rem:Nat))]:=fun j t ht=>by
  unfold lF;rw[aH,ht];rfl
 obtain⟨LR,tB⟩:∃x,lF n toks=x:=⟨_,rfl⟩
 rw[tB]at eS aU;rw[tB];obtain⟨M,hM⟩:∃M:Int,((toks.length:Nat):Int)=M:=⟨_,rfl⟩
 obtain⟨μ,hμ⟩:∃μ:Int×Int×Ts×Nat->Nat,∀x,μ x=x.2.2.1.length:=⟨_,fun _=>rfl⟩
 refine dE aN dO mixed (fun _=>0) Tryz.func27 rfl kR kR rfl fun P G E hc hE=>?_
 have l0:E.ofN LR.length=M:=by rw[hE,eS];exact hM
 cbv at l0;have x0:tg n toks q (0,0,toks,0):=⟨rfl,bU 0,by simp,rfl,aP _,hq⟩
 cbv;simp only[l0];cbv;refine gU 33 [3,6,7,8] 0 (fun x:Int×Int×Ts×Nat=>[.p (pI x.2.1),.p (.ro 3 LR),.p (pI M),.p (pI x.1)]) (fun _=>[]) (tg n toks q) μ (0,0,toks,0) r5 x0 ?_
 rintro⟨i,op,l,m⟩ hI
 obtain⟨g1,g2,g3,g4,g5,g6⟩:=hI;simp only at g1 g2 g3 g4 g5 g6;replace hM:((toks.length:Nat):Int)=M:=hM
 cases l with
 |nil=>
  have d1:E.lti i M=false:=ZE
  have e0:false=q:=g6;subst e0;cbv;simp only[d1];exact j7
 |cons t l=>
  have d1:E.lti i M=true:=JG
  have ht:toks[i.toNat]?=some t:=by
   have:=aG (fun r:List Tk=>r[0]?) g1
   grind
  have p0:E.ple 0 i:=by rw[hE];exact g2
  have r0:LR[E.nat i]?=some [pI t.k,pS (bL t.t),pI (n-(t.rem:Nat))]:=by rw[hE];exact aU _ t ht
  obtain⟨i2,mX⟩:∃i2,i+1=i2:=⟨_,rfl⟩
  have ea:E.wadd .i64 i 1=i2:=EH
  have n1:toks.drop i2.toNat=l:=by
   have:i2.toNat=i.toNat+1:=dU
   rw[this,<- yS,g1];rfl
  have n2:0<=i2:=dU
  have n3:i2+((l.length:Nat):Int)=((toks.length:Nat):Int):=aZ
  have oU:∀(op':Int)(m':Nat),μ (i2,op',l,m')<μ (i,op,t::l,m):=fun op' m'=>by grind
  have eqs:∀w:Bs,E.eq (bL t.t) (bL w)=decide (t.t=w):=fun w=>by
   rw[hE];exact fM.2 ⟨yg,aG bL⟩
  rw[uO]at g6;obtain⟨K,hK⟩:∃K,t.k=K:=⟨_,rfl⟩
  obtain⟨T,hT⟩:∃T,bL t.t=T:=⟨_,rfl⟩
  obtain⟨Z,hZ⟩:∃Z,n-((t.rem:Nat):Int)=Z:=⟨_,rfl⟩
  rw[hK,hT,hZ]at r0;rw[hT]at eqs
  rcases dP (K=5)with hk|hk
  ·have dk:decide (K=5)=true:=aA hk;have hb:rO t=brk t.t:=by unfold rO;rw[hK,aF hk]
   rcases dP (t.t=jD)with hw|mu
   ·have dG:rO t=1:=zt
    rw[dG]at g6;have w1:=eqs jD;have w2:=eqs uD;have w3:=eqs nS;rw[hw]at w1 w2 w3;cbv at w1 w2 w3;replace g4:((m:Nat):Int)=op:=g4;obtain⟨op2,vZ⟩:∃x,op+1=x:=⟨_,rfl⟩
    have eo:E.wadd .i64 op 1=op2:=zr
    rcases bB 128 (m+1)with h|h
    ·have e0:true=q:=aZ
     have d8:E.lti 128 op2=true:=sF
     subst e0;cbv
     repeat (first|(simp only[d1];cbv)|(refine⟨p0,_,r0,?_⟩;cbv)|(simp only[dk];cbv)|(simp only[w1];cbv)|(simp only[eo];cbv)|(simp only[d8];cbv))
     all_goals trivial
    ·have g7:uO (m+1) l=q:=aZ
     have d8:E.lti 128 op2=false:=sS
     have hx:tg n toks q (i2,op2,l,m+1):=⟨n1,n2,n3,by grind,h,g7⟩
     have hy:=oU op2 (m+1);cbv
     repeat (first|(simp only[d1];cbv)|(refine⟨p0,_,r0,?_⟩;cbv)|(simp only[dk];cbv)|(simp only[w1];cbv)|(simp only[eo];cbv)|(simp only[d8];cbv)|(simp only[ea];cbv))
     exact .mk _ r5 hx hy
   rcases dP (t.t=uD)with hw|lf
   ·have dG:rO t=1:=zt
    rw[dG]at g6;have w1:=eqs jD;have w2:=eqs uD;have w3:=eqs nS;rw[hw]at w1 w2 w3;cbv at w1 w2 w3;replace g4:((m:Nat):Int)=op:=g4;obtain⟨op2,vZ⟩:∃x,op+1=x:=⟨_,rfl⟩
    have eo:E.wadd .i64 op 1=op2:=zr
    rcases bB 128 (m+1)with h|h
    ·have e0:true=q:=aZ
     have d8:E.lti 128 op2=true:=sF
     subst e0;cbv
     repeat (first|(simp only[d1];cbv)|(refine⟨p0,_,r0,?_⟩;cbv)|(simp only[dk];cbv)|(simp only[w1,w2];cbv)|(simp only[eo];cbv)|(simp only[d8];cbv))
     all_goals trivial
    ·have g7:uO (m+1) l=q:=aZ
     have d8:E.lti 128 op2=false:=sS
     have hx:tg n toks q (i2,op2,l,m+1):=⟨n1,n2,n3,by grind,h,g7⟩
     have hy:=oU op2 (m+1);cbv
     repeat (first|(simp only[d1];cbv)|(refine⟨p0,_,r0,?_⟩;cbv)|(simp only[dk];cbv)|(simp only[w1,w2];cbv)|(simp only[eo];cbv)|(simp only[d8];cbv)|(simp only[ea];cbv))
     exact .mk _ r5 hx hy
   rcases dP (t.t=nS)with hw|Ig
   ·have dG:rO t=1:=zt
    rw[dG]at g6;have w1:=eqs jD;have w2:=eqs uD;have w3:=eqs nS;rw[hw]at w1 w2 w3;cbv at w1 w2 w3;replace g4:((m:Nat):Int)=op:=g4;obtain⟨op2,vZ⟩:∃x,op+1=x:=⟨_,rfl⟩
    have eo:E.wadd .i64 op 1=op2:=zr
    rcases bB 128 (m+1)with h|h
    ·have e0:true=q:=aZ
     have d8:E.lti 128 op2=true:=sF
     subst e0;cbv
     repeat (first|(simp only[d1];cbv)|(refine⟨p0,_,r0,?_⟩;cbv)|(simp only[dk];cbv)|(simp only[w1,w2,w3];cbv)|(simp only[eo];cbv)|(simp only[d8];cbv))
     all_goals trivial
    ·have g7:uO (m+1) l=q:=aZ
     have d8:E.lti 128 op2=false:=sS
     have hx:tg n toks q (i2,op2,l,m+1):=⟨n1,n2,n3,by grind,h,g7⟩
     have hy:=oU op2 (m+1);cbv
     repeat (first|(simp only[d1];cbv)|(refine⟨p0,_,r0,?_⟩;cbv)|(simp only[dk];cbv)|(simp only[w1,w2,w3];cbv)|(simp only[eo];cbv)|(simp only[d8];cbv)|(simp only[ea];cbv))
     exact .mk _ r5 hx hy
   rcases dP (t.t=eG)with hw|hw4
   ·have dG:rO t=2:=zt
    rw[dG]at g6;have g7:uO (m-1) l=q:=g6;have w1:=eqs jD;have w2:=eqs uD;have w3:=eqs nS;have w4:=eqs eG;have w5:=eqs xB;have w6:=eqs uC;rw[hw]at w1 w2 w3 w4 w5 w6;cbv at w1 w2 w3 w4 w5 w6;replace g4:((m:Nat):Int)=op:=g4;obtain⟨op2,vZ⟩:∃x,op-1=x:=⟨_,rfl⟩
    have eo:E.wsub .i64 op 1=op2:=zr
    obtain⟨op3,qb⟩:∃x,E.max op2 0=x:=⟨_,rfl⟩
    have xe:((m-1:Nat):Int)=op3:=ZT
    have hx:tg n toks q (i2,op3,l,m-1):=⟨n1,n2,n3,xe,by grind,g7⟩
    have hy:=oU op3 (m-1);cbv
    repeat (first|(simp only[d1];cbv)|(refine⟨p0,_,r0,?_⟩;cbv)|(simp only[dk];cbv)|(simp only[w1,w2,w3,w4];cbv)|(simp only[eo];cbv)|(simp only[qb];cbv)|(simp only[ea];cbv))
    exact .mk _ r5 hx hy
   rcases dP (t.t=xB)with hw|hw5
   ·have dG:rO t=2:=zt
    rw[dG]at g6;have g7:uO (m-1) l=q:=g6;have w1:=eqs jD;have w2:=eqs uD;have w3:=eqs nS;have w4:=eqs eG;have w5:=eqs xB;have w6:=eqs uC;rw[hw]at w1 w2 w3 w4 w5 w6;cbv at w1 w2 w3 w4 w5 w6;replace g4:((m:Nat):Int)=op:=g4;obtain⟨op2,vZ⟩:∃x,op-1=x:=⟨_,rfl⟩
    have eo:E.wsub .i64 op 1=op2:=zr
    obtain⟨op3,qb⟩:∃x,E.max op2 0=x:=⟨_,rfl⟩
    have xe:((m-1:Nat):Int)=op3:=ZT
    have hx:tg n toks q (i2,op3,l,m-1):=⟨n1,n2,n3,xe,by grind,g7⟩
    have hy:=oU op3 (m-1);cbv
    repeat (first|(simp only[d1];cbv)|(refine⟨p0,_,r0,?_⟩;cbv)|(simp only[dk];cbv)|(simp only[w1,w2,w3,w4,w5];cbv)|(simp only[eo];cbv)|(simp only[qb];cbv)|(simp only[ea];cbv))
    exact .mk _ r5 hx hy
   rcases dP (t.t=uC)with hw|hw6
   ·have dG:rO t=2:=zt
    rw[dG]at g6;have g7:uO (m-1) l=q:=g6;have w1:=eqs jD;have w2:=eqs uD;have w3:=eqs nS;have w4:=eqs eG;have w5:=eqs xB;have w6:=eqs uC;rw[hw]at w1 w2 w3 w4 w5 w6;cbv at w1 w2 w3 w4 w5 w6;replace g4:((m:Nat):Int)=op:=g4;obtain⟨op2,vZ⟩:∃x,op-1=x:=⟨_,rfl⟩
    have eo:E.wsub .i64 op 1=op2:=zr
    obtain⟨op3,qb⟩:∃x,E.max op2 0=x:=⟨_,rfl⟩
    have xe:((m-1:Nat):Int)=op3:=ZT
    have hx:tg n toks q (i2,op3,l,m-1):=⟨n1,n2,n3,xe,by grind,g7⟩
    have hy:=oU op3 (m-1);cbv
    repeat (first|(simp only[d1];cbv)|(refine⟨p0,_,r0,?_⟩;cbv)|(simp only[dk];cbv)|(simp only[w1,w2,w3,w4,w5,w6];cbv)|(simp only[eo];cbv)|(simp only[qb];cbv)|(simp only[ea];cbv))
    exact .mk _ r5 hx hy
   have i7:rO t=0:=by
    rw[hb];unfold brk
    grind
   rw[i7]at g6;have g7:uO m l=q:=g6;have w1:E.eq T (bL jD)=false:=aZ
   have w2:E.eq T (bL uD)=false:=aZ
   have w3:E.eq T (bL nS)=false:=aZ
   have w4:E.eq T (bL eG)=false:=aZ
   have w5:E.eq T (bL xB)=false:=aZ
   have w6:E.eq T (bL uC)=false:=aZ
   cbv at w1 w2 w3 w4 w5 w6;replace g4:((m:Nat):Int)=op:=g4;have hx:tg n toks q (i2,op,l,m):=⟨n1,n2,n3,g4,g5,g7⟩;have hy:=oU op m;cbv
   repeat (first|(simp only[d1];cbv)|(refine⟨p0,_,r0,?_⟩;cbv)|(simp only[dk];cbv)|(simp only[w1,w2,w3,w4,w5,w6];cbv)|(simp only[ea];cbv))
   exact .mk _ r5 hx hy
  ·have dk:decide (K=5)=false:=dF hk;have i7:rO t=0:=by unfold rO;rw[hK,aE hk]
   rw[i7]at g6;have hx:tg n toks q (i2,op,l,m):=⟨n1,n2,n3,g4,g5,g6⟩;have hy:=oU op m;cbv
   repeat (first|(simp only[d1];cbv)|(refine⟨p0,_,r0,?_⟩;cbv)|(simp only[dk];cbv)|(simp only[ea];cbv))
   exact .mk _ r5 hx hy
mutual
def jN:PT->Nat
 | .mk _ _ _ _ ks=>rI ks+1
def rI:List PT->Nat
 |[]=>0
 |k::ks=>max (jN k) (rI ks)
end
theorem LP(x:PT):1<=jN x:=by
 cases x with
 |mk k nm i o ks=>rw[jN];omega
theorem Dt:∀{ks:List PT}{y:PT},y∈ks->jN y<=rI ks
 |[],y,h=>by cases h
 |k::ks,y,h=>by
  rcases fJ.1 h with rfl|h
  ·exact Nat.le_max_left _ _
  ·exact aS (Dt h) (Nat.le_max_right _ _)
theorem M6:∀(ps:List PT)(i:Nat),(eO ps)[i]?=ps[i]?.map gM
 |[],i=>by rw[eO];simp
 |p::ps,0=>by rfl
 |p::ps,i+1=>by rw[eO,bY,bY,M6 ps i]
structure Up(ks:List PT)(most:Int)(q:Bool)(x:Int×List PT):Prop where
 d:ks.drop x.1.toNat=x.2
 i0:0<=x.1
 i1:x.1+((x.2.length:Nat):Int)=((ks.length:Nat):Int)
 q:decide (((rI x.2+1:Nat):Int)<=most)=q
theorem xak{k:PT}{ks:List PT}{most:Int}(h:decide (((jN k:Nat):Int)<=most-1)=true):decide (((rI (k::ks)+1:Nat):Int)<=most)=decide (((rI ks+1:Nat):Int)<=most):=by
 have h:=oT h;rw[rI]
 grind
theorem z5r{k:PT}{ks:List PT}{most:Int}(h:decide (((jN k:Nat):Int)<=most-1)=false):decide (((rI (k::ks)+1:Nat):Int)<=most)=false:=by
 have h:=fV h;rw[rI]
 grind
theorem WW:∀{ks:List PT}{y:PT},tF ks->y∈ks->jO y
 |[],y,_,h=>by cases h
 |k::ks,y,hw,h=>by
  rcases fJ.1 h with rfl|h
  ·exact hw.1
  ·exact WW hw.2 h
theorem XX:∀(d:Nat)(x:PT)(most:Int),jN x<=d->jO x->most<=100000->V0 22 [.agg (gM x),pI most] (pB (decide (((jN x:Nat):Int)<=most)))
 |0,x,_,h,_,_=>by have:=LP x;omega
 |d+1,.mk kq nq iq oq ks,most,hd,hw,hm=>by
  obtain⟨Ai,pn⟩:=hw;rw[jN]at hd;have ihk:∀y∈ks,∀b:Int,b<=100000->V0 22 [.agg (gM y),pI b] (pB (decide (((jN y:Nat):Int)<=b))):=fun y hy b hb=>XX d y b QX (WW pn hy) hb
  rw[jN,gM];obtain⟨q,hq⟩:∃q,decide (((rI ks+1:Nat):Int)<=most)=q:=⟨_,rfl⟩
  rw[hq];have ok:=C4 ks
  rcases(show most<1\/1<=most by omega)with cJ|qJ
  ·have e0:false=q:=aZ
   obtain⟨KK,hKK⟩:∃KK,mS ks=KK:=⟨_,rfl⟩
   subst e0;refine dE aN dO mixed (fun _=>0) Tryz.func22 rfl kR kR rfl fun P G E hc hE=>?_
   have d1:E.lti most 1=true:=Gl
   clear hc hE;cbv at ok;cbv
   repeat (first|(simp only[ok];cbv)|(simp only[d1];cbv))
   all_goals trivial
  ·obtain⟨μ,hμ⟩:∃μ:Int×List PT->Nat,∀x,μ x=x.2.length:=⟨_,fun _=>rfl⟩
   obtain⟨b,hb⟩:∃b,most-1=b:=⟨_,rfl⟩
   cases ks with
   |nil=>
    have e0:true=q:=by rw[<-hq];exact(aA (by rw[rI];omega)).symm
    subst e0;refine dE aN dO mixed (fun _=>0) Tryz.func22 rfl kR kR rfl fun P G E hc hE=>?_
    have d1:E.lti most 1=false:=sS
    have o0:E.ofN 0=0:=fS
    have d0:E.lti 0 0=false:=fS
    cbv;refine mT ?_;refine gU 22 [1,10,11,12] 0 (fun x:Int×List PT=>[.p (pI most),.p (.v (.slice none 0 0)),.p (pI 0),.p (pI 0)]) (fun _=>[]) (fun _=>True) μ (0,[]) r5 trivial ?_
    rintro⟨i,l⟩ _
    cbv;simp only[d0];exact j7
   |cons k0 ks0=>
    obtain⟨ks,vG⟩:∃ks,k0::ks0=ks:=⟨_,rfl⟩
    rw[LW ⟨k0,ks0,rfl⟩ rfl];rw[vG]at hq Ai pn ihk ⊢;have aU:=M6 ks;have eS:=vd ks;obtain⟨R,hR⟩:∃R,eO ks=R:=⟨_,rfl⟩
    rw[hR]at aU eS;rw[hR];obtain⟨M,hM⟩:∃M:Int,((ks.length:Nat):Int)=M:=⟨_,rfl⟩
    refine dE aN dO mixed (fun _=>0) Tryz.func22 rfl kR kR rfl fun P G E hc hE=>?_
    have d1:E.lti most 1=false:=sS
    have l0:E.ofN R.length=M:=by rw[hE,eS];exact hM
    have eb:E.wsub .i64 most 1=b:=RG
    cbv at l0;cbv;refine mT ?_;refine gU 22 [1,10,11,12] 0 (fun x:Int×List PT=>[.p (pI most),.p (.ro 5 R),.p (pI M),.p (pI x.1)]) (fun _=>[]) (Up ks most q) μ (0,ks) r5 ⟨rfl,bU 0,by simp,hq⟩ ?_
    rintro⟨i,l⟩ hI
    obtain⟨g1,g2,g3,g4⟩:=hI;simp only at g1 g2 g3 g4;replace hM:((ks.length:Nat):Int)=M:=hM;replace Ai:ks.length<=2000000:=Ai
    cases l with
    |nil=>
     have d2:E.lti i M=false:=ZE
     have e0:true=q:=by rw[<-g4];exact(aA (by rw[rI];omega)).symm
     subst e0;cbv;simp only[d2];exact j7
    |cons y l=>
     have d2:E.lti i M=true:=JG
     have hy:ks[i.toNat]?=some y:=by
      exact H5
     have p0:E.ple 0 i:=by rw[hE];exact g2
     obtain⟨k2,i3,o2,n2,KK,hv⟩:=BP y;have r0:R[E.nat i]?=some [pI k2,pS n2,pI i3,pI o2,KK]:=by rw[hE];show R[i.toNat]?=_;rw[aU,hy,<- hv.row];rfl
     obtain⟨i2,mX⟩:∃i2,i+1=i2:=⟨_,rfl⟩
     have ea:E.wadd .i64 i 1=i2:=EH
     have g3a:i2+((l.length:Nat):Int)=((ks.length:Nat):Int):=aZ
     have ok2:=hv.one;cbv at ok2;have eD:=ihk y (aJ hy) b oM
     rw[hv.row]at eD
     cases B0:decide (((jN y:Nat):Int)<=b)with
     |true=>
      rw[B0]at eD;replace eD:=hc _ _ _ eD;have g5:decide (((rI l+1:Nat):Int)<=most)=q:=by rw[<-g4];exact(xak (by rw[hb];exact B0)).symm
      have hx:Up ks most q (i2,l):=⟨by
       have:i2.toNat=i.toNat+1:=dU
       rw[this,<- yS,g1];rfl,by omega,g3a,g5⟩
      have oU:μ (i2,l)<μ (i,y::l):=aZ
      cbv
      repeat (first|(simp only[d2];cbv)|(refine⟨p0,_,r0,?_⟩;cbv)|(simp only[ok2];cbv)|(simp only[eb];cbv)|(refine⟨_,eD,?_⟩;cbv)|(simp only[ea];cbv))
      exact EK
     |false=>
      rw[B0]at eD;replace eD:=hc _ _ _ eD;have e0:false=q:=by rw[<-g4];exact(z5r (by rw[hb];exact B0)).symm
      subst e0;cbv
      repeat (first|(simp only[d2];cbv)|(refine⟨p0,_,r0,?_⟩;cbv)|(simp only[ok2];cbv)|(simp only[eb];cbv)|(refine⟨_,eD,?_⟩;cbv))
      all_goals trivial
section
variable{n:Int}{toks:List Tk}{LR:List (List PV)}{l:Ts}
theorem QJ{c:Cx}{o:Option (Rv×Ts)}(ho:ev (.declL (if aL l 0 qC then 25 else 24) [] c (l.drop 1))=some o):(if aL l 0 qC then ev (.declL 25 [] c (l.drop 1))else ev (.declL 24 [] c (l.drop 1)))=some o:=by
 grind
theorem z4e{c:Cx}(ih:∀s':Sy,s'.meas<(Sy.decl c l).meas->iD n toks LR s'):iD n toks LR (.decl c l):=by
 intro f hf a h o ho;have cf:0<l.length:=by cases l with|nil=>cases hf|cons x l=>exact B8 _
 rw[show(Sy.decl c l).fid=some 32 from by cases l with|nil=>cases hf|cons x l=>rfl]at hf
 cases hf
 rw[qA]at ho;change BM ev c l=some o at ho;unfold BM at ho;change bE n toks LR a l at h;show MP _ (.own 0 0::[]) [aX LR a c] (iL o) (iE toks LR c o);refine gS aN (f:=32) Tryz.func32 rfl kR (oT kR) fun tags bS=>?_
 match tags,bS with
 |[t0],_=>
  refine aY.cutKM 4 40 [0,2,3] 3 (fun x:Int×Ts×Int=>[.own 0 0,.own 1 0,.own 2 0]) (fun x=>[some (.box [.p (.ro 3 LR),.p (pI x.1),.p (pB c.fn),.p (pB c.lp),.p (pB c.gn),.p (pB c.as_)] 39 (some t0)),some (.box [.p (pI 0),.p (pS ⟨#[]⟩),.p (pI 0),.p (pI 0),.p (.v (.slice none 0 0))] 25 none),some (.box [.p (pI x.2.2),.p (pS ⟨#[]⟩),.p (pI 0),.p (pI 0),.p (.v (.slice none 0 0))] 25 none)]) (fun x=>bE n toks LR x.1 x.2.1/\ev (.declL x.2.2 [] c x.2.1)=some o/\x.2.1.length<l.length) aN mixed (fun _=>0) (fun _=>[]) (fun _ _=>0) (fun E=>eU E cK Tryz.f32.results.toList [t0] (iL o) (iE toks LR c o)) kR (fun P G E hc hM hE=>?_) ?_
  case' refine_1=>
   cbv;have yZ:=ho;replace yZ:=QJ yZ;refine oE (PR h 0 aT qC c yZ) (fun k2=>?_) (fun k2=>?_)
   case' refine_1=>
    refine .z [0] (hM _ _ _ _ _ (k2.2.2.2)) rfl rfl rfl ?_;cbv;refine xE (bE.next h (nH k2.2.1)) fun bk3 k3=>?_
    have dk3:(List.drop 1 l).length<(l).length:=aZ
    have ak3:=yj hE k3.2.2.1 k3.2.2.2 k3.2.1;cbv;simp only[ak3];cbv;exact .mk ((bk3,List.drop 1 l,25)) r5 (⟨k3.1,k2.1,dk3⟩)
   refine .z [0] (hM _ _ _ _ _ (k2.2.2)) rfl rfl rfl ?_;cbv;refine xE (bE.next h (cf)) fun bk4 k4=>?_
   have dk4:(List.drop 1 l).length<(l).length:=aZ
   have ak4:=yj hE k4.2.2.1 k4.2.2.2 k4.2.1;cbv;simp only[ak4];cbv;exact .mk ((bk4,List.drop 1 l,24)) r5 (⟨k4.1,k2.1,dk4⟩)
  rintro⟨a0,l0,kk⟩ ⟨h0,ap,mW⟩
  simp only at h0 ap mW;obtain⟨μ,hμ⟩:∃μ:Int×Ts×List PT×List (List PV)×Nat->Nat,∀x,μ x=x.2.1.length:=⟨_,fun _=>rfl⟩
  have ca:l0.length<=1000000:=by have:=h0.h1;have:=h0.h0;have:=h0.z;omega
  refine aY.ofM aN mixed (fun _=>0) (fun n=>match n with|10=>[0]|_=>[]) (fun _ _=>0) kR (fun E=>eU E cK Tryz.f32.results.toList [t0] (iL o) (iE toks LR c o)) fun P G E hc hM hE=>?_
  cbv;refine iO.wk (BS (k:=2) (j:=4) 5 25 rfl rfl) ?_;refine gU 40 [0,2,3] 4 (fun x:Int×Ts×List PT×List (List PV)×Nat=>[.own 0 0,.own 1 0,.own 2 0]) (fun x=>[some (.box [.p (.ro 3 LR),.p (pI x.1),.p (pB c.fn),.p (pB c.lp),.p (pB c.gn),.p (pB c.as_)] 39 (some t0)),some (.box [.p (pI 0),.p (pS ⟨#[]⟩),.p (pI 0),.p (pI 0),.p (.v (.slice none 0 0))] 25 none),some (.box [.p (pI kk),.p (pS ⟨#[]⟩),.p (pI 0),.p (pI 0),.osl 3 0 x.2.2.2.2] 25 none),some (.rows 5 x.2.2.2.1 25)])
   (fun x=>bE n toks LR x.1 x.2.1/\ev (.declL kk x.2.2.1 c x.2.1)=some o/\x.2.2.2.2+x.2.1.length<=l0.length/\eO x.2.2.1=x.2.2.2.1/\x.2.2.2.1.length=x.2.2.2.2) μ (a0,l0,[],[],0) r5 ⟨h0,ap,by simp,by rw[eO],rfl⟩ ?_
  rintro⟨a1,l1,acc,R,N⟩ ⟨g1,g2,g3,g4,g5⟩
  simp only at g1 g2 g3 g4 g5;rw[qA]at g2;replace g2:rv ev kk acc c l1=some o:=g2;unfold rv at g2;have on1:E.ofN 1=1:=fS
  have fO:=gX hE;have sb1:=fO.s1;cbv;refine oE (GN g1 c g2) (fun k1=>xE k1 fun bk1 k1=>xE k1 fun Tk1 k1=>?_) (fun k1=>?_)
  case' refine_2=>
   refine .z [0] (hM _ _ _ _ _ (k1.2)) rfl rfl rfl ?_;cbv;have e0:=k1.1;subst e0;all_goals trivial
  refine .z [0] (hM _ _ _ _ _ (k1.2.2.2.2)) rfl rfl rfl ?_;cbv;have eT:=k1.2.2.2.1;refine oE (xC k1.1 Ew c k1.2.1) (fun k2=>xE k2 fun bk2 k2=>?_) (fun k2=>?_)
  case' refine_1=>
   refine .z [0] (hM _ _ _ _ _ (k2.2.2.2.2)) rfl rfl rfl ?_;cbv;refine oE (yE (L:=(List.drop 1 (List.drop 1 l1))) (c:=c) (ih (.assign c (List.drop 1 (List.drop 1 l1))) (by have:=k1.2.2.1;simp only[Sy.meas,Sy.l,Sy.rank];omega)) rfl rfl rfl rfl rfl rfl k2.1 k2.2.1) (fun k3=>xE k3 fun xk3 k3=>xE k3 fun lk3 k3=>xE k3 fun bk3 k3=>xE k3 fun q1k3 k3=>xE k3 fun q2k3 k3=>xE k3 fun q3k3 k3=>xE k3 fun q4k3 k3=>xE k3 fun q5k3 k3=>?_) (fun k3=>?_)
   case' refine_2=>
    refine .z [0] (hM _ _ _ _ _ (k3.2)) rfl rfl rfl ?_;cbv;have e0:=k3.1;subst e0;all_goals trivial
   refine .z [0] (hM _ _ _ _ _ (k3.2.2.2.2)) rfl rfl rfl ?_;cbv;have ok3:=k3.2.2.2.1.one;cbv at ok3;cbv;simp only[ok3];cbv;refine xE (⟨_,rfl⟩:∃R2,R++[[pI 40,pS Tk1,pI 0,pI 0,.ro 5 [[pI q1k3,pS q4k3,pI q2k3,pI q3k3,q5k3]]]]=R2) fun R2 cS=>?_
   refine xE (⟨_,rfl⟩:∃N2,N+1=N2) fun N2 fT=>?_
   have fA:=ig hE g5 oM cS fT
   have fA1:=fA.pre;have fA2:=fA.room;have fA3:=fA.add;have fA4:=fA.app;have fA5:=fA.pre2;have fA6:=fA.sub;have fA7:=fA.p1;have fA8:=fA.s1;refine .mk _ _ (a6 (k:=4) (j:=4) (l:=5) (n:=1) rfl rfl rfl (nR _) rfl) ?_;cbv;refine mT ?_;have cM:gM (dV 40 (tx l1 0) [xk3])=[pI 40,pS Tk1,pI 0,pI 0,.ro 5 [[pI q1k3,pS q4k3,pI q2k3,pI q3k3,q5k3]]]:=by rw[dV,gM,eT,mS,k3.2.2.2.1.row,eO]
   refine oE (xC k3.1 rY c (k3.2.1)) (fun k4=>xE k4 fun bk4 k4=>?_) (fun k4=>?_)
   case' refine_2=>
    refine .z [0] (hM _ _ _ _ _ (k4.2.2)) rfl rfl rfl ?_;cbv;have e0:=rP (k4.1);subst e0;have hK:=CI g4 cM cS;simp only[k3.1.place,nd,gM,hK];cbv
    grind
   refine .z [0] (hM _ _ _ _ _ (k4.2.2.2.2)) rfl rfl rfl ?_;cbv;exact .mk (bk4,List.drop 1 lk3,acc++[dV 40 (tx l1 0) [xk3]],R2,N2) r5 ⟨k4.1,k4.2.1,by grind,by rw[o9,g4,eO,eO,cM];exact cS,by grind⟩ aZ
  refine .z [0] (hM _ _ _ _ _ (k2.2.2)) rfl rfl rfl ?_;cbv;refine oE (jz k2.1) (fun k3=>?_) (fun k3=>?_)
  case' refine_1=>
   have d1:decide (kk=25)=true:=aA k3.1;cbv;simp only[d1];cbv;refine .z [0] (hM _ _ _ _ _ (vQ (um LR bk1 c))) rfl rfl rfl ?_;cbv;have e0:=yd k3.2;subst e0;all_goals trivial
  have d1:decide (kk=25)=false:=dF k3.1;cbv;simp only[d1];cbv;refine xE (⟨_,rfl⟩:∃R2,R++[[pI 40,pS Tk1,pI 0,pI 0,.v (.slice none 0 0)]]=R2) fun R2 cS=>?_
  refine xE (⟨_,rfl⟩:∃N2,N+1=N2) fun N2 fT=>?_
  have fA:=ig hE g5 oM cS fT
  have fA1:=fA.pre;have fA2:=fA.room;have fA3:=fA.add;have fA4:=fA.app;have fA5:=fA.pre2;have fA6:=fA.sub;have fA7:=fA.p1;have fA8:=fA.s1;refine .mk _ _ (Wk.refl _ _) ?_;cbv;refine mT ?_;have cM:gM (dV 40 (tx l1 0) [])=[pI 40,pS Tk1,pI 0,pI 0,.v (.slice none 0 0)]:=by rw[dV,gM,eT,mS]
  refine oE (xC k1.1 rY c (k3.2)) (fun k4=>xE k4 fun bk4 k4=>?_) (fun k4=>?_)
  case' refine_2=>
   refine .z [0] (hM _ _ _ _ _ (k4.2.2)) rfl rfl rfl ?_;cbv;have e0:=rP (k4.1);subst e0;have hK:=CI g4 cM cS;simp only[k1.1.place,nd,gM,hK];cbv
   grind
  refine .z [0] (hM _ _ _ _ _ (k4.2.2.2.2)) rfl rfl rfl ?_;cbv;exact .mk (bk4,List.drop 1 (List.drop 1 l1),acc++[dV 40 (tx l1 0) []],R2,N2) r5 ⟨k4.1,k4.2.1,by grind,by rw[o9,g4,eO,eO,cM];exact cS,by grind⟩ aZ
end
open Go.Maps
open Go.WideMaps
theorem O0:Keyed Tryz.prog 9:=string_keyed Tryz.underlying9
theorem xgg{s:ByteArray}(h:s.size<=maxLen):keyOf Tryz.prog 9 (.string s)=some (.string s.data.toList):=keyOf_string_mk Tryz.underlying9 h
theorem zoe{H:Type}{P:Program}(w:World){ops:Array Oper}{rest:List Oper}{o:Oper}{a:Act}{Q:Exit->Act->World->Prop}
  (hg:o.guard=none) (m x:Operand) (t:TypeId) (nT:o.op=Op.lookup t m x false)
  (k e:TypeId) (K:Keyed P k) (ht:P.underlying t=some (.map k e)) (he:P.underlying e=some .bool) (hz:(zeroValue e).run P w=.ok (.bool false) w) (b n:Nat) (D:DataW H)
  (hm:a.eval m=.map (some b)) (iP:w.ownsMap P k (plainElem P e) b n D) (key:Value) (kl:Lit) (hx:a.eval x=key) (J3:keyOf P k key=some kl) (y:Bool) (mQ:D.atKey kl (.lit (.bool false))=.lit (.bool y))
  (hK:wpList P ops Q rest (a.put o.dst (.bool y)) w):wpList P ops Q (o::rest) a w:=by
 refine wpList_plain hg fun K' UY=>?_
 obtain⟨v,ps,dN,hv⟩:=iP.lookup K ht hz (plainElem_bool he false) J3;rw[mQ]at hv;have nK:v=.bool y:=by
  unfold plainElem at hv
  grind
 subst nK;unfold Oper.wp;simp[execOp,nT,hm,hx,dN,Result.andThen];exact UY _ _ hK
structure wh(D:DataW Unit)(l:List Bs):Prop where
 m:IsMap D
 at_:∀s:Bs,D.atKey (.string s) (.lit (.bool false))=.lit (.bool (decide (s∈l)))
theorem z5u:wh (.map []) []:=⟨isMap_empty,fun s=>by simp[DataW.atKey]⟩
theorem z5t{D:DataW Unit}{l:List Bs}(h:wh D l)(s:Bs)(hs:WideAt.IsKeyLit (.string s)):wh (D.put (.string s) (.lit (.bool true))) (l++[s]):=⟨h.m.put _ _,fun t=>by
 by_cases e:t=s
 ·subst e;rw[atKey_put_same h.m hs];simp
 ·have eA:(Lit.string t)≠(Lit.string s):=fun he=>e (by injection he)
  rw[atKey_put_other eA,h.at_];simp[e]⟩
theorem Oe{s:Bs}(h:s.length<=maxLen):keyOf Tryz.prog 9 (.string (bL s))=some (.string s):=by
 have:=xgg (s:=bL s) h
 rwa[CS]at this
theorem M2:∀{l:List Bs},l.Nodup->qP l=true
 |[],_=>rfl
 |x::l,h=>by
  rw[List.nodup_cons]at h;rw[qP,M2 h.2,fK];simpa using h.1
theorem Lc:∀{l:List Bs},qP l=true->l.Nodup
 |[],_=>List.nodup_nil
 |x::l,h=>by
  rw[qP,gH]at h;exact List.nodup_cons.2 ⟨by simpa using h.1,Lc h.2⟩
theorem z8k{l:List Bs}{k:Nat}(hk:k<l.length)(h:l[k]∈l.take k):qP l=false:=by
 cases e:qP l with
 |false=>rfl
 |true=>
  exfalso
  have hn:=Lc e;obtain⟨i,hi,he⟩:=List.getElem_of_mem h;rw[uL]at hi;rw[List.getElem_take]at he;exact(List.pairwise_iff_getElem.1 hn) i k oM hk oM he
theorem Xf{l:List Bs}{x:Bs}(h:l.Nodup)(hx:¬x∈l):(l++[x]).Nodup:=by
 grind
theorem Zk(b o n cap:Nat)(ss:List Bs)(w:World)(hz:ss.length=n)(hn:n<maxLen)(hb:b<w.heap.size)(dM:∀s∈ss,s.length<=maxLen)
  (h0:∀j,j<n->w.cell? ⟨b,o+j*5,none⟩=some (.int .i64 7)) (h1:∀j,j<n->w.cell? ⟨b,o+j*5+1,none⟩=some (.string (bL (ss.getD j []))))
  (h2:∀j,j<n->w.cell? ⟨b,o+j*5+2,none⟩=some (.int .i64 0)) (h3:∀j,j<n->w.cell? ⟨b,o+j*5+3,none⟩=some (.int .i64 0)) (h4:∀j,j<n->w.cell? ⟨b,o+j*5+4,none⟩=some (.slice none 0 0)):
  Calls Tryz.prog 95 #[.slice (some ⟨b,o,none⟩) n cap] w fun e w'=>e=.returned (.bool (qP ss))/\Below w.heap.size w w':=by
 have jf:=@run_makeMap Tryz.prog
 go_enter Tryz.func95,Tryz.ntmps95
 go_wp2
 go_loopw [9] (fun i wr=>∃k:Nat,k<=n/\i=.int .i64 k/\(ss.take k).Nodup/\(∃D,wh D (ss.take k)/\wr.ownsMap Tryz.prog 9 (plainElem Tryz.prog 4) w.heap.size k D)/\Below w.heap.size w wr)
  (fun i _=>n-(intOf i).toNat)
 case atStart=>exact⟨0,aP _,rfl,by simp,⟨_,z5u,World.ownsMap_made _ _ _ _⟩,(Below.refl _ _).alloc (nR _) _⟩
 case round=>
  obtain⟨k,hk,rfl,dv,⟨D,hD,iP⟩,rD⟩:=hrel;have c0:k<n->wr.cell? ⟨b,o+k*5,none⟩=some (.int .i64 7):=fun h=>(rD.cell (by exact hb)).trans (h0 k h)
  have c1:k<n->wr.cell? ⟨b,o+k*5+1,none⟩=some (.string (bL (ss.getD k []))):=fun h=>(rD.cell (by exact hb)).trans (h1 k h)
  have c2:k<n->wr.cell? ⟨b,o+k*5+2,none⟩=some (.int .i64 0):=fun h=>(rD.cell (by exact hb)).trans (h2 k h)
  have c3:k<n->wr.cell? ⟨b,o+k*5+3,none⟩=some (.int .i64 0):=fun h=>(rD.cell (by exact hb)).trans (h3 k h)
  have c4:k<n->wr.cell? ⟨b,o+k*5+4,none⟩=some (.slice none 0 0):=fun h=>(rD.cell (by exact hb)).trans (h4 k h)
  have lQ:∀h:k<ss.length,(ss[k]).length<=maxLen:=fun h=>dM _ (nf _)
  go_wp2_with (first
   |(at_lookup;refine zoe _ rfl _ _ 103 rfl 9 4 O0 Tryz.underlying103 Tryz.underlying4 kR w.heap.size k D rfl (iP.alloc _) _ (.string ss[k]) rfl (Oe (lQ _)) (decide (ss[k]∈ss.take k)) (hD.at_ _) ?_)
   |(at_mapUpdate;refine wpList_mapUpdate_own _ rfl _ _ _ 103 rfl 9 4 O0 Tryz.underlying103 (plainElem (H:=Unit) Tryz.prog 4) w.heap.size k D rfl (iP.alloc _) oM _ _ (.string ss[k]) rfl rfl (Oe (lQ _)) _ [] (plainElem_bool Tryz.underlying4 true) ?_;intro w1 TC FU)
   |go_in)
  ·have hm:ss[k]'oM∈List.take k ss:=mI
   have hf:qP ss=false:=z8k oM hm
   go_ret
   exact⟨by rw[hf];rfl,rD.alloc rD.size _⟩
  ·have cJ:k<n:=mI
   have hm:¬ss[k]'oM∈List.take k ss:=mI
   have ak:List.take (k+1) ss=List.take k ss++[ss[k]'oM]:=by rw[ju,aB oM];rfl
   have hw:wrap64 ((k:Int)+1)=((k+1:Nat):Int):=by unfold maxLen at hn;unfold wrap64;omega
   refine⟨⟨k+1,cJ,by rw[hw],?_,⟨_,?_,TC⟩,?_⟩,?_⟩
   ·rw[ak];exact Xf dv hm
   ·rw[ak];exact z5t hD _ trivial
   ·exact(rD.alloc rD.size _).grown FU (by have:=rD.size;simp;omega) (fun j hj=>by cases hj;exact nR _)
   ·rw[hw];simp[intOf];omega
  ·have Au:k=n:=dU
   subst Au;have hf:qP ss=true:=M2 (by rw[<-hz,l7]at dv;exact dv)
   go_ret
   exact⟨by rw[hf];rfl,rD⟩
theorem zro(a:Option Addr)(cap:Nat)(w:World):Calls Tryz.prog 95 #[.slice a 0 cap] w fun e w'=>e=.returned (.bool true)/\Below w.heap.size w w':=by
 have jf:=@run_makeMap Tryz.prog
 go_wp2
 refine wp_loop_rounds 1 ?_;rw[rounds_succ]
 go_wp2
 go_ret
 exact⟨rfl,(Below.refl _ _).alloc (nR _) _⟩
theorem Lg:∀(ps:List PT)(i:Nat),(eO ps)[i]?=ps[i]?.map gM
 |[],i=>by rw[eO];simp
 |p::ps,0=>by rfl
 |p::ps,i+1=>by rw[eO,bY,bY,Lg ps i]
theorem Yj(ps:List PT)(hp:∀p∈ps,∃s:Bs,s.length<=1000000/\p=dV 7 s []){R:List (List PV)}(hR:eO ps=R)(hl:ps.length<=1000000):V0 95 [.ro 5 R] (pB (qP (rX ps))):=by
 subst hR;refine⟨Ea Tryz.func95 rfl rfl,fun w B args _ tW hr=>?_⟩
 match args,tW with
 |[v],_=>
  have h1:=hr 0 _ v rfl rfl;have rR:(rX ps).length=ps.length:=by unfold rX;rw[tc]
  have key:∀(e:Ending)(w':World),e=.returned (.bool (qP (rX ps)))/\Below w.heap.size w w'->Gr w w'/\oe w' (fun b=>B b\/w.heap.size<=b) (pB (qP (rX ps))) e:=fun e w' h=>⟨h.2,by rw[h.1];exact .ret (.v _)⟩
  have cM:∀i,i<ps.length->∃s:Bs,(rX ps).getD i []=s/\(eO ps)[i]?=some [pI 7,pS (bL s),pI 0,pI 0,.v (.slice none 0 0)]:=fun i hi=>by
   obtain⟨s,_,hs⟩:=hp _ (nf hi);refine⟨s,?_,?_⟩
   ·unfold rX;rw[List.getD,aH,aB hi,hs];rfl
   ·have:=Lg ps i
    rw[this,aB hi,hs];rfl
  have dM:∀s∈rX ps,s.length<=maxLen:=fun s hs=>by
   obtain⟨p,Iq,rfl⟩:=iB.1 hs;obtain⟨s,hs,rfl⟩:=hp p Iq;show s.length<=maxLen;unfold maxLen;omega
  have q7:=vd ps;generalize eO ps=R at h1 cM q7
  cases h1 with
  |ro0 s A cap=>
   cases ps with
   |nil=>exact(zro A cap w).mono key
   |cons p ps=>simp at q7
  |ro _ _ b o cap vs hR hb oX hs hc gg=>
   have cell:∀j,j<ps.length->∃s:Bs,(rX ps).getD j []=s/\∀q (x:PV),[pI 7,pS (bL s),pI 0,pI 0,.v (.slice none 0 0)][q]?=some x->∀y,x=.v y->w.cell? ⟨b,o+(j*5+q),none⟩=some y:=fun j hj=>by
    obtain⟨s,h2,h3⟩:=cM j hj;refine⟨s,h2,fun q x hq y hy=>?_⟩
    have h4:=hc j q _ x h3 hq;have h5:=gg j q _ x h3 hq;subst hy
    cases h5
    exact h4.1
   rw[q7];refine(Zk b o ps.length cap (rX ps) w rR (by unfold maxLen;omega) hb dM (fun j hj=>?_) (fun j hj=>?_) (fun j hj=>?_) (fun j hj=>?_) (fun j hj=>?_)).mono key
   ·obtain⟨s,h2,h3⟩:=cell j hj;exact h3 0 _ rfl _ rfl
   ·grind
   ·grind
   ·grind
   grind
def Fj:Option (List PT×Ts)->AV
 |none=>.p (.pan lO)
 |some ([],_)=>.p (.v (.slice none 0 0))
 |some (_::ks,_)=>.osl 1 0 (ks.length+1)
def ZB(toks:List Tk)(LR:List (List PV))(c:Cx):Option (List PT×Ts)->AH
 |none=>[none]
 |some ([],l)=>[aX LR (((toks.length:Nat):Int)-((l.length:Nat):Int)) c]
 |some (k::ks,l)=>[aX LR (((toks.length:Nat):Int)-((l.length:Nat):Int)) c,some (.rows 5 (eO (k::ks)) 25)]
theorem xb5{toks:List Tk}{LR:List (List PV)}{c:Cx}{acc:List PT}{x:PT}{R R2:List (List PV)}{row:List PV}{N N2:Nat}{l:Ts}(h:eO acc=R)(hN:R.length=N)(hx:gM x=row)(h2:R++[row]=R2)(fT:N+1=N2):
  Fj (some (acc++[x],l))=.osl 1 0 N2/\ZB toks LR c (some (acc++[x],l))=[aX LR (((toks.length:Nat):Int)-((l.length:Nat):Int)) c,some (.rows 5 R2 25)]:=by
 have e:eO (acc++[x])=R2:=by rw[o9,h,eO,eO,hx,h2]
 have el:(acc++[x]).length=N2:=by rw[sE,<- vd,h,hN];exact fT
 cases hc:acc++[x]with
 |nil=>simp at hc
 |cons y ys=>
  rw[hc]at e el;exact⟨by rw[<-el];rfl,by show [_,some (cH.rows 5 (eO (y::ys)) _)]=_;rw[e]⟩
section
variable{n:Int}{toks:List Tk}{LR:List (List PV)}{a:Int}{l:Ts}
theorem bE.txz(h:bE n toks LR a l)(k:Nat):(tx l k).length<=1000000:=by
 unfold tx
 cases e:l[k]? with
 |none=>exact aP _
 |some t=>
  have hm:t∈toks:=by
   have:=aJ e
   rw[<-h.d]at this
   grind
  exact h.tz t hm
theorem xb9(h:bE n toks LR a l)(c:Cx){o:Option (List PT×Ts)}(ho:uQ l=some o):MP 58 [.own 0 0] [aX LR a c] (Fj o) (ZB toks LR c o):=by
 unfold uQ at ho;obtain⟨μ,hμ⟩:∃μ:Int×Ts×List PT×List (List PV)×Nat->Nat,∀x,μ x=x.2.1.length:=⟨_,fun _=>rfl⟩
 have hz:=h.z;have ca:l.length<=1000000:=EF
 obtain⟨rr,dZ⟩:∃rr,Fj o=rr:=⟨_,rfl⟩
 obtain⟨HH,gQ⟩:∃HH,ZB toks LR c o=HH:=⟨_,rfl⟩
 rw[dZ,gQ];refine gS aN (f:=58) Tryz.func58 rfl kR (oT kR) fun tags bS=>?_
 match tags,bS with
 |[t0],_=>
  refine aY.ofM aN mixed (fun _=>0) (fun _=>[]) (fun _ _=>0) kR (fun E=>eU E cK Tryz.f58.results.toList [t0] rr HH) fun P G E hc hM hE=>?_
  cbv;refine oE (m6 h jD c ho) (fun k0=>xE k0 fun bk0 k0=>?_) (fun k0=>?_)
  case' refine_2=>
   refine .z [0] (hM _ _ _ _ _ (k0.2)) rfl rfl rfl ?_;cbv;have e0:=k0.1;subst e0;have e1:AV.p (.pan lO)=rr:=dZ;have e2:[none]=HH:=gQ;subst e1 e2;all_goals trivial
  refine .z [0] (hM _ _ _ _ _ (k0.2.2.2.2)) rfl rfl rfl ?_;cbv;refine oE (xC k0.1 eG c k0.2.1) (fun k1=>xE k1 fun bk1 k1=>?_) (fun k1=>?_)
  case' refine_1=>
   refine .z [0] (hM _ _ _ _ _ (k1.2.2.2.2)) rfl rfl rfl ?_;cbv;have e0:=rP (k1.2.1);subst e0;have e1:AV.p (.v (.slice none 0 0))=rr:=dZ;have e2:[aX LR bk1 c]=HH:=by rw[<-gQ];simp only[ZB,k1.1.place]
   subst e1 e2;all_goals trivial
  refine .z [0] (hM _ _ _ _ _ (k1.2.2)) rfl rfl rfl ?_;cbv;refine iO.wk (BZ (d:=3) 5 25 rfl) ?_;refine gU 24 [0,3] 2 (fun x:Int×Ts×List PT×List (List PV)×Nat=>[.own 0 0,.osl 1 0 x.2.2.2.2]) (fun x=>[some (.box [.p (.ro 3 LR),.p (pI x.1),.p (pB c.fn),.p (pB c.lp),.p (pB c.gn),.p (pB c.as_)] 39 (some t0)),some (.rows 5 x.2.2.2.1 25)])
   (fun x=>bE n toks LR x.1 x.2.1/\(∃m,namesL m x.2.2.1 x.2.1=some o)/\x.2.2.2.2+x.2.1.length<=l.length/\(eO x.2.2.1=x.2.2.2.1/\∀p∈x.2.2.1,∃s:Bs,s.length<=1000000/\p=dV 7 s [])/\x.2.2.2.1.length=x.2.2.2.2) μ (bk0,List.drop 1 l,[],[],0) r5 ⟨k0.1,⟨_,k1.1⟩,by grind,⟨by rw[eO],fun p hp=>by cases hp⟩,rfl⟩ ?_
  rintro⟨a1,l1,acc,R,N⟩ ⟨g1,⟨m,g2⟩,g3,⟨g4,g6⟩,g5⟩
  simp only at g1 g2 g3 g4 g5 g6
  cases m with
  |zero=>cases g2
  |succ m=>
   rw[namesL]at g2;cbv;refine oE (GN g1 c g2) (fun k2=>xE k2 fun bk2 k2=>xE k2 fun Tk2 k2=>?_) (fun k2=>?_)
   case' refine_2=>
    refine .z [0] (hM _ _ _ _ _ (k2.2)) rfl rfl rfl ?_;cbv;have e0:=k2.1;subst e0;have e1:AV.p (.pan lO)=rr:=dZ;have e2:[none]=HH:=gQ;subst e1 e2;all_goals trivial
   refine .z [0] (hM _ _ _ _ _ (k2.2.2.2.2)) rfl rfl rfl ?_;have eT:=k2.2.2.2.1;refine xE (⟨_,rfl⟩:∃R2,R++[[pI 7,pS Tk2,pI 0,pI 0,.v (.slice none 0 0)]]=R2) fun R2 cS=>?_
   refine xE (⟨_,rfl⟩:∃N2,N+1=N2) fun N2 fT=>?_
   have fA:=ig hE g5 oM cS fT
   have fA1:=fA.pre;have fA2:=fA.room;have fA3:=fA.add;have fA4:=fA.app;have fA5:=fA.pre2;have fA6:=fA.sub;have fA7:=fA.p1;have fA8:=fA.s1;cbv;refine mT ?_;have cM:gM (dV 7 (tx l1 0) [])=[pI 7,pS Tk2,pI 0,pI 0,.v (.slice none 0 0)]:=by rw[dV,gM,eT,mS]
   have g7:∀p∈acc++[dV 7 (tx l1 0) []],∃s:Bs,s.length<=1000000/\p=dV 7 s []:=fun p hp=>by
    rcases kV.1 hp with hp|hp
    ·exact g6 p hp
    ·exact⟨_,g1.txz 0,hY.1 hp⟩
   have qL:eO (acc++[dV 7 (tx l1 0) []])=R2:=by rw[o9,g4,eO,eO,cM,cS]
   refine oE (xC k2.1 eG c k2.2.1) (fun k3=>xE k3 fun bk3 k3=>?_) (fun k3=>?_)
   case' refine_1=>
    refine .z [0] (hM _ _ _ _ _ (k3.2.2.2.2)) rfl rfl rfl ?_;have nO:=Yj (acc++[dV 7 (tx l1 0) []]) g7 qL (by rw[<-vd,qL,<- cS,sE,g5];grind)
    cbv;simp only[fA6];cbv;refine oE (jz k3.2.1) (fun k4=>?_) (fun k4=>?_)
    case' refine_1=>
     rw[k4.1]at nO;refine .inl ⟨fA5,_,hc _ _ _ (sD nO),?_⟩;have e0:=rP k4.2;subst e0;have hK:=xb5 (toks:=toks) (LR:=LR) (c:=c) (l:=List.drop 1 (List.drop 1 l1)) g4 g5 cM cS fT;have e1:AV.osl 1 0 N2=rr:=by rw[<-dZ,hK.1]
     have e2:[aX LR bk3 c,some (.rows 5 R2 25)]=HH:=by rw[<-gQ,hK.2,k3.1.place]
     subst e1 e2;cbv;all_goals trivial
    rw[show qP (rX (acc++[dV 7 (tx l1 0) []]))=false by simpa using k4.1]at nO
    refine .inl ⟨fA5,_,hc _ _ _ (sD nO),?_⟩;cbv;refine .z [0] (hM _ _ _ _ _ (vQ (um LR bk3 c))) rfl rfl rfl ?_;cbv;have e0:=yd k4.2;subst e0;have e1:AV.p (.pan lO)=rr:=dZ;have e2:[none]=HH:=gQ;subst e1 e2;all_goals trivial
   refine .z [0] (hM _ _ _ _ _ (k3.2.2)) rfl rfl rfl ?_;cbv;refine oE (m6 k2.1 rY c k3.1) (fun k4=>xE k4 fun bk4 k4=>?_) (fun k4=>?_)
   case' refine_2=>
    refine .z [0] (hM _ _ _ _ _ (k4.2)) rfl rfl rfl ?_;cbv;have e0:=k4.1;subst e0;have e1:AV.p (.pan lO)=rr:=dZ;have e2:[none]=HH:=gQ;subst e1 e2;all_goals trivial
   refine .z [0] (hM _ _ _ _ _ (k4.2.2.2.2)) rfl rfl rfl ?_;cbv;exact .mk (bk4,List.drop 1 (List.drop 1 l1),acc++[dV 7 (tx l1 0) []],R2,N2) r5 ⟨k4.1,⟨m,k4.2.1⟩,by grind,⟨qL,g7⟩,by grind⟩ aZ
end
section
variable{n:Int}{toks:List Tk}{LR:List (List PV)}{l:Ts}
theorem Mj:∀(m:Nat)(acc:List PT)(l:Ts){ps:List PT}{l':Ts},namesL m acc l=some (some (ps,l'))->ps.length+l'.length<=acc.length+l.length
 |0,_,_,_,_,h=>by cases h
 |m+1,acc,l,ps,l',h=>by
  rw[namesL]at h;unfold pZ at h
  split at h
  ·rename_i hk;have hp:=kJ hk aT
   simp only at h
   split at h
   ·split at h
    ·cases h
     grind
    ·cases h
   ·unfold eZ at h
    split at h
    ·have:=Mj m _ _ h
     grind
    ·cases h
  ·cases h
theorem Xe{l:Ts}{ps:List PT}{l':Ts}(h:uQ l=some (some (ps,l'))):ps.length+l'.length<=l.length:=by
 unfold uQ eZ at h
 split at h
 ·simp only at h
  split at h
  ·cases h
   grind
  ·have:=Mj _ _ _ h
   grind
 ·cases h
theorem O3{a:Int}{β:Type}{o:Option (β×Ts)}(h:bE n toks LR a l)(c:Cx){K:List PT->Ts->Re β}(ho:bnd (uQ l) K=some o):
  (∃l' b,bE n toks LR b l'/\K [] l'=some o/\l'.length<l.length/\MP 58 [.own 0 0] [aX LR a c] (.p (.v (.slice none 0 0))) [aX LR b c]) ∨
   (∃p ps l' b R N,bE n toks LR b l'/\K (p::ps) l'=some o/\l'.length<l.length/\eO (p::ps)=R/\R.length=N/\N<=1000000/\MP 58 [.own 0 0] [aX LR a c] (.osl 1 0 N) [aX LR b c,some (.rows 5 R 25)]) ∨
   (o=none/\MP 58 [.own 0 0] [aX LR a c] (.p (.pan lO)) [none]):=by
 obtain⟨o',KE,hP⟩:=MO l;have hm:=xb9 h c KE;rw[KE]at ho
 cases o' with
 |none=>cases ho;exact .inr (.inr ⟨rfl,hm⟩)
 |some q=>
  obtain⟨ps,l'⟩:=q;have h1:=hP ps l' rfl
  cases ps with
  |nil=>exact .inl ⟨l',_,h.suf h1.1,ho,h1.2,hm⟩
  |cons p ps=>
   refine .inr (.inl ⟨p,ps,l',_,_,_,h.suf h1.1,ho,h1.2,rfl,rfl,?_,?_⟩)
   ·have:=Xe KE
    have h2:=h.h1;have h3:=h.z;have h4:=h.h0;rw[vd];omega
   ·rw[vd];exact hm
def DR(o:Int)(nm:Bs)(l3:Ts):Re Rv:=bnd (uQ l3) fun ps l4=>ndR (ev (.block (nV o) l4)) fun b l5=>bR (.nd (.mk 11 nm 0 o (ps++[b]))) l5
def DS(d:Bool)(o:Int)(l2:Ts):Re Rv:=if d||decide (kd l2 0=1)then pZ l2 (DR o)else DR o [] l2
theorem QD{d:Bool}{c:Cx}{l:Ts}:yA ev d c l=if aL l 0 iW then eZ vA (l.drop 1) (fun l1=>DS d 4 l1)else eZ vA l fun l1=>if aL l1 0 o7 then DS d 3 (l1.drop 1)else DS d 1 l1:=by
 unfold yA
 cases aL l 0 iW with
 |true=>rfl
 |false=>
  show(if aL l 0 vA=true then _ else _)=(if aL l 0 vA=true then _ else _)
  split
  ·simp only[aM,bT]
   cases aL (List.drop 1 l) 0 o7<;>rfl
  ·rfl
theorem xdc(d:Bool):d=true\/d=false:=by cases d<;>simp
theorem Ga(o:Int)(l2:Ts):DS true o l2=pZ l2 (DR o):=rfl
theorem G9(o:Int)(l2:Ts):DS false o l2=if kd l2 0=1 then pZ l2 (DR o)else DR o [] l2:=by unfold DS;simp
theorem z3y{c:Cx}{d:Bool}(ih:∀s':Sy,s'.meas<(Sy.func d c l).meas->iD n toks LR s'):iD n toks LR (.func d c l):=by
 intro f hf a h o ho
 cases hf
 rw[qA]at ho;change yA ev d c l=some o at ho;unfold yA at ho;change bE n toks LR a l at h;show MP _ (.own 0 0::[.p (pB d)]) [aX LR a c] (iL o) (iE toks LR c o);have UH:yA ev d c l=_:=QD;unfold yA at UH;rw[UH]at ho;refine gS aN (f:=35) Tryz.func35 rfl kR (oT kR) fun tags bS=>?_
 match tags,bS with
 |[t0],_=>
  refine aY.cutKM 5 56 [0,1,4,5] 3 (fun x:Int×Ts×Int=>[.own 0 0,.p (pB d),.own 1 0,.own 2 0]) (fun x=>[some (.box [.p (.ro 3 LR),.p (pI x.1),.p (pB c.fn),.p (pB c.lp),.p (pB c.gn),.p (pB c.as_)] 39 (some t0)),some (.box [.p (pI 0),.p (pS ⟨#[]⟩),.p (pI 0),.p (pI 0),.p (.v (.slice none 0 0))] 25 none),some (.box [.p (pI 11),.p (pS ⟨#[]⟩),.p (pI 0),.p (pI (x.2.2)),.p (.v (.slice none 0 0))] 25 none)]) (fun x=>bE n toks LR x.1 x.2.1/\DS d x.2.2 x.2.1=some o/\x.2.1.length<l.length) aN mixed (fun _=>0) (fun _=>[]) (fun _ _=>0) (fun E=>eU E cK Tryz.f35.results.toList [t0] (iL o) (iE toks LR c o)) kR (fun P G E hc hM hE=>?_) ?_
  case' refine_1=>
   have fO:=gX hE;have sb1:=fO.s1;have sb2:=fO.s2;have sb3:=fO.s3;have ap2:=fO.a2;have ap3:=fO.a3;have an2:=fO.n2;have an3:=fO.n3;have rm:=fun k m b h1 h2=>fO.room k m b h1 h2
   have pr:=fun k rs h=>fO.pre k rs h
   cbv;refine oE (xC h iW c ho) (fun k1=>xE k1 fun bk1 k1=>?_) (fun k1=>?_)
   case' refine_1=>
    refine .z [0] (hM _ _ _ _ _ (k1.2.2.2.2)) rfl rfl rfl ?_;cbv;refine oE (m6 k1.1 vA c k1.2.1) (fun k2=>xE k2 fun bk2 k2=>?_) (fun k2=>?_)
    case' refine_2=>
     refine .z [0] (hM _ _ _ _ _ (k2.2)) rfl rfl rfl ?_;cbv;have e0:=k2.1;subst e0;all_goals trivial
    refine .z [0] (hM _ _ _ _ _ (k2.2.2.2.2)) rfl rfl rfl ?_;cbv;exact .mk ((bk2,((l.drop 1).drop 1),4)) r5 (⟨k2.1,k2.2.1,pQ k2.2.2.1 k1.2.2.1⟩)
   refine .z [0] (hM _ _ _ _ _ (k1.2.2)) rfl rfl rfl ?_;cbv;refine oE (m6 h vA c k1.1) (fun k3=>xE k3 fun bk3 k3=>?_) (fun k3=>?_)
   case' refine_2=>
    refine .z [0] (hM _ _ _ _ _ (k3.2)) rfl rfl rfl ?_;cbv;have e0:=k3.1;subst e0;all_goals trivial
   refine .z [0] (hM _ _ _ _ _ (k3.2.2.2.2)) rfl rfl rfl ?_;cbv;refine oE (xC k3.1 o7 c k3.2.1) (fun k4=>xE k4 fun bk4 k4=>?_) (fun k4=>?_)
   case' refine_1=>
    refine .z [0] (hM _ _ _ _ _ (k4.2.2.2.2)) rfl rfl rfl ?_;cbv;exact .mk ((bk4,((l.drop 1).drop 1),3)) r5 (⟨k4.1,k4.2.1,pQ k4.2.2.1 k3.2.2.1⟩)
   refine .z [0] (hM _ _ _ _ _ (k4.2.2)) rfl rfl rfl ?_;cbv;exact .mk ((bk3,(l.drop 1),1)) r5 (⟨k3.1,k4.1,k3.2.2.1⟩)
  rintro⟨a0,l0,oo⟩ ⟨h0,ap,mW⟩
  simp only at h0 ap mW;refine aY.cutKM 1 56 [0,4,5] 3 (fun x:Int×Ts×Bs×ByteArray=>[.own 0 0,.own 1 0,.own 2 0]) (fun x=>[some (.box [.p (.ro 3 LR),.p (pI x.1),.p (pB c.fn),.p (pB c.lp),.p (pB c.gn),.p (pB c.as_)] 39 (some t0)),some (.box [.p (pI 0),.p (pS ⟨#[]⟩),.p (pI 0),.p (pI 0),.p (.v (.slice none 0 0))] 25 none),some (.box [.p (pI 11),.p (pS x.2.2.2),.p (pI 0),.p (pI (oo)),.p (.v (.slice none 0 0))] 25 none)]) (fun x=>bE n toks LR x.1 x.2.1/\DR oo x.2.2.1 x.2.1=some o/\x.2.1.length<=l0.length/\bL x.2.2.1=x.2.2.2) aN mixed (fun _=>0) (fun _=>[]) (fun _ _=>0) (fun E=>eU E cK Tryz.f35.results.toList [t0] (iL o) (iE toks LR c o)) kR (fun P G E hc hM hE=>?_) ?_
  case' refine_1=>
   have fO:=gX hE;have sb1:=fO.s1;have sb2:=fO.s2;have sb3:=fO.s3;have ap2:=fO.a2;have ap3:=fO.a3;have an2:=fO.n2;have an3:=fO.n3;have rm:=fun k m b h1 h2=>fO.room k m b h1 h2
   have pr:=fun k rs h=>fO.pre k rs h
   cbv;simp only[sb1,sb2,sb3];cbv;refine oE (xdc d) (fun e=>?_) (fun e=>?_)
   case' refine_1=>
    subst e;cbv;have Vh:=ap;rw[Ga]at Vh;refine oE (GN h0 c Vh) (fun k6=>xE k6 fun bk6 k6=>xE k6 fun Tk6 k6=>?_) (fun k6=>?_)
    case' refine_2=>
     refine .z [0] (hM _ _ _ _ _ (k6.2)) rfl rfl rfl ?_;cbv;have e0:=k6.1;subst e0;all_goals trivial
    refine .z [0] (hM _ _ _ _ _ (k6.2.2.2.2)) rfl rfl rfl ?_;cbv;exact .mk ((bk6,(l0.drop 1),tx l0 0,_)) r5 (⟨k6.1,k6.2.1,dA k6.2.2.1,k6.2.2.2.1⟩)
   subst e;cbv;have Vg:=ap;rw[G9]at Vg;refine xE (YH h0 0 aT c) fun Kk8 k8=>xE k8 fun Tk8 k8=>xE k8 fun zk8 k8=>?_
   refine .z [0] (hM _ _ _ _ _ (k8.2.2)) rfl rfl rfl ?_;cbv;refine oE (jz (Vg)) (fun k9=>?_) (fun k9=>?_)
   case' refine_1=>
    have ek9:decide (Kk8=1)=true:=aZ
    cbv;simp only[ek9];cbv;refine oE (GN h0 c k9.2) (fun k10=>xE k10 fun bk10 k10=>xE k10 fun Tk10 k10=>?_) (fun k10=>?_)
    case' refine_2=>
     refine .z [0] (hM _ _ _ _ _ (k10.2)) rfl rfl rfl ?_;cbv;have e0:=k10.1;subst e0;all_goals trivial
    refine .z [0] (hM _ _ _ _ _ (k10.2.2.2.2)) rfl rfl rfl ?_;cbv;exact .mk ((bk10,(l0.drop 1),tx l0 0,_)) r5 (⟨k10.1,k10.2.1,dA k10.2.2.1,k10.2.2.2.1⟩)
   have ek9:decide (Kk8=1)=false:=aZ
   cbv;simp only[ek9];cbv;exact .mk ((a0,l0,[],_)) r5 (⟨h0,k9.2,nR _,rfl⟩)
  rintro⟨a1,l1,nm,TT⟩ ⟨h1,ao,jY,KF⟩
  simp only at h1 ao jY KF;unfold DR at ao;obtain⟨c2,AN⟩:∃c2,nV oo=c2:=⟨_,rfl⟩
  rw[AN]at ao;have hw:=sD (Mg oo);rw[AN]at hw;refine aY.ofM aN mixed (fun n=>match n with|12=>5|_=>0) (fun n=>match n with|12=>[3]|_=>[]) (fun n i=>match n,i with|12,3=>1|12,4=>1|_,_=>0) kR (fun E=>eU E cK Tryz.f35.results.toList [t0] (iL o) (iE toks LR c o)) fun P G E hc hM hE=>?_
  have fO:=gX hE;have sb1:=fO.s1;have sb2:=fO.s2;have sb3:=fO.s3;have ap2:=fO.a2;have ap3:=fO.a3;have an2:=fO.n2;have an3:=fO.n3;have rm:=fun k m b h1 h2=>fO.room k m b h1 h2
  have pr:=fun k rs h=>fO.pre k rs h
  cbv;refine oE (O3 h1 c (ao)) (fun k11=>xE k11 fun lk11 k11=>xE k11 fun bk11 k11=>?_) (fun k11=>oE k11 (fun k11=>xE k11 fun pk11 k11=>xE k11 fun psk11 k11=>xE k11 fun lk11 k11=>xE k11 fun bk11 k11=>xE k11 fun Rk11 k11=>xE k11 fun Nk11 k11=>?_) (fun k11=>?_))
  case' refine_3=>
   refine .z [0] (hM _ _ _ _ _ (k11.2)) rfl rfl rfl ?_;cbv;have e0:=k11.1;subst e0;all_goals trivial
  case' refine_1=>
   refine .z [0] (hM _ _ _ _ _ (k11.2.2.2)) rfl rfl rfl ?_;cbv;simp only[sb1,sb2,sb3];cbv;refine⟨_,hc _ _ _ hw,?_⟩;cbv;refine oE (yE (L:=lk11) (c:=c2) (ih (.block c2 lk11) xJ) rfl rfl rfl rfl rfl rfl k11.1 k11.2.1) (fun k12=>xE k12 fun xk12 k12=>xE k12 fun lk12 k12=>xE k12 fun bk12 k12=>xE k12 fun q1k12 k12=>xE k12 fun q2k12 k12=>xE k12 fun q3k12 k12=>xE k12 fun q4k12 k12=>xE k12 fun q5k12 k12=>?_) (fun k12=>?_)
   case' refine_2=>
    refine Or.inr ?_;refine .mk [0] _ _ _ _ (hM _ _ _ _ _ (k12.2)) rfl rfl rfl _ rfl ?_;cbv;have e0:=k12.1;subst e0;all_goals trivial
   refine Or.inl ?_;refine⟨.mk trivial,?_⟩;refine .mk [0] _ _ _ _ (hM _ _ _ _ _ (k12.2.2.2.2)) rfl rfl rfl rfl ?_;cbv;have ok12:=k12.2.2.2.1.one;cbv at ok12;cbv;simp only[ok12];cbv;refine⟨.mk vR,?_⟩
   cbv;refine⟨(rm _ _ _ aT aT),?_⟩;cbv
   have e0:=rP (k12.2.1);subst e0;simp only[k12.1.place,nd,dV,fR,gM,mS,eO,pD,sR,KF,k12.2.2.2.1.row];cbv
   grind
  refine .z [0] (hM _ _ _ _ _ (k11.2.2.2.2.2.2)) rfl rfl rfl ?_;cbv;simp only[sb1,sb2,sb3];cbv;refine⟨_,hc _ _ _ hw,?_⟩;cbv;refine oE (yE (L:=lk11) (c:=c2) (ih (.block c2 lk11) xJ) rfl rfl rfl rfl rfl rfl k11.1 k11.2.1) (fun k13=>xE k13 fun xk13 k13=>xE k13 fun lk13 k13=>xE k13 fun bk13 k13=>xE k13 fun q1k13 k13=>xE k13 fun q2k13 k13=>xE k13 fun q3k13 k13=>xE k13 fun q4k13 k13=>xE k13 fun q5k13 k13=>?_) (fun k13=>?_)
  case' refine_2=>
   refine Or.inr ?_;refine .mk [0] _ _ _ _ (hM _ _ _ _ _ (k13.2)) rfl rfl rfl _ rfl ?_;cbv;have e0:=k13.1;subst e0;all_goals trivial
  refine Or.inl ?_;refine⟨.mk trivial,?_⟩;refine .mk [0] _ _ _ _ (hM _ _ _ _ _ (k13.2.2.2.2)) rfl rfl rfl rfl ?_;cbv;have ok13:=k13.2.2.2.1.one;cbv at ok13;refine xE (⟨_,rfl⟩:∃R2,Rk11++[[pI q1k13,pS q4k13,pI q2k13,pI q3k13,q5k13]]=R2) fun R2 cS=>?_
  refine xE (⟨_,rfl⟩:∃N2,Nk11+1=N2) fun N2 fT=>?_
  have fA:=ig hE (k11.2.2.2.2.1) (aS (k11.2.2.2.2.2.1) aT) cS fT
  have fA1:=fA.pre;have fA2:=fA.room;have fA3:=fA.add;have fA4:=fA.app;have fA5:=fA.pre2;have fA6:=fA.sub;have fA7:=fA.p1;have fA8:=fA.s1;cbv;simp only[ok13];cbv;refine⟨.mk vR,?_⟩
  cbv;refine mT ?_;have e0:=rP (k13.2.1);subst e0;have cM:gM (xk13)=[pI q1k13,pS q4k13,pI q2k13,pI q3k13,q5k13]:=by(simp only[nd,dV,fR,gM,mS,eO,KF,k13.2.2.2.1.row])<;>rfl
  have hK:=CI (k11.2.2.2.1) cM cS;simp only[nd,dV,fR,pD]at hK;simp only[k13.1.place,nd,dV,fR,gM,hK,pD,sR,KF,k13.2.2.2.1.row];cbv
  grind
end
section
variable{n:Int}{toks:List Tk}{LR:List (List PV)}{l:Ts}
def ZC(o:Int)(ps:List PT)(l1:Ts):Re Rv:=eZ qX l1 fun l2=>if aL l2 0 nS then ndR (ev (.block (nV o) l2)) fun b l3=>bR (.nd (fR 11 o (ps++[b]))) l3 else ndR (ev (.assign (nV o) l2)) fun n l3=>bR (.nd (fR 11 o (ps++[nd 27 [nd 32 [n]]]))) l3
def ZD(o:Int)(l0:Ts):Re Rv:=if aL l0 0 jD then bnd (uQ l0) (ZC o)else pZ l0 fun s l1=>ZC o [dV 7 s []] l1
theorem QT{c:Cx}{l:Ts}:bp ev c l=if aL l 0 iW then ZD 5 (l.drop 1)else ZD 2 l:=by
 unfold bp
 cases aL l 0 iW with
 |true=>rfl
 |false=>rfl
theorem Fh{s:Bs}{T:ByteArray}(h:bL s=T):eO [dV 7 s []]=[[pI 7,pS T,pI 0,pI 0,.v (.slice none 0 0)]]:=by subst h;rfl
theorem Wb{c:Cx}(ih:∀s':Sy,s'.meas<(Sy.arrow c l).meas->iD n toks LR s'):iD n toks LR (.arrow c l):=by
 intro f hf a h o ho
 cases hf
 rw[qA]at ho;change bp ev c l=some o at ho;unfold bp at ho;change bE n toks LR a l at h;show MP _ (.own 0 0::[]) [aX LR a c] (iL o) (iE toks LR c o);have UH:bp ev c l=_:=QT;unfold bp at UH;rw[UH]at ho;refine gS aN (f:=51) Tryz.func51 rfl kR (oT kR) fun tags bS=>?_
 match tags,bS with
 |[t0],_=>
  refine aY.cutKM 3 56 [0,2,3] 3 (fun x:Int×Ts×Int=>[.own 0 0,.own 1 0,.own 2 0]) (fun x=>[some (.box [.p (.ro 3 LR),.p (pI x.1),.p (pB c.fn),.p (pB c.lp),.p (pB c.gn),.p (pB c.as_)] 39 (some t0)),some (.box [.p (pI 0),.p (pS ⟨#[]⟩),.p (pI 0),.p (pI 0),.p (.v (.slice none 0 0))] 25 none),some (.box [.p (pI 11),.p (pS ⟨#[]⟩),.p (pI 0),.p (pI (x.2.2)),.p (.v (.slice none 0 0))] 25 none)]) (fun x=>bE n toks LR x.1 x.2.1/\ZD x.2.2 x.2.1=some o/\x.2.1.length<=l.length) aN mixed (fun _=>0) (fun _=>[]) (fun _ _=>0) (fun E=>eU E cK Tryz.f51.results.toList [t0] (iL o) (iE toks LR c o)) kR (fun P G E hc hM hE=>?_) ?_
  case' refine_1=>
   have fO:=gX hE;have sb1:=fO.s1;have sb2:=fO.s2;have sb3:=fO.s3;have ap2:=fO.a2;have ap3:=fO.a3;have an2:=fO.n2;have an3:=fO.n3;have rm:=fun k m b h1 h2=>fO.room k m b h1 h2
   have pr:=fun k rs h=>fO.pre k rs h
   cbv;refine oE (xC h iW c ho) (fun k1=>xE k1 fun bk1 k1=>?_) (fun k1=>?_)
   case' refine_1=>
    refine .z [0] (hM _ _ _ _ _ (k1.2.2.2.2)) rfl rfl rfl ?_;cbv;exact .mk ((bk1,(l.drop 1),5)) r5 (⟨k1.1,k1.2.1,dA k1.2.2.1⟩)
   refine .z [0] (hM _ _ _ _ _ (k1.2.2)) rfl rfl rfl ?_;cbv;exact .mk ((a,l,2)) r5 (⟨h,k1.1,nR _⟩)
  rintro⟨a0,l0,oo⟩ ⟨h0,ap,mW⟩
  simp only at h0 ap mW;unfold ZD at ap;refine aY.cutKM 1 56 [0,2,3] 4 (fun x:Int×Ts×List PT×List (List PV)×Nat=>[.own 0 0,.own 1 0,.own 2 0]) (fun x=>match x.2.2.1 with
    |[]=>[some (.box [.p (.ro 3 LR),.p (pI x.1),.p (pB c.fn),.p (pB c.lp),.p (pB c.gn),.p (pB c.as_)] 39 (some t0)),some (.box [.p (pI 0),.p (pS ⟨#[]⟩),.p (pI 0),.p (pI 0),.p (.v (.slice none 0 0))] 25 none),some (.box [.p (pI 11),.p (pS ⟨#[]⟩),.p (pI 0),.p (pI (oo)),.p (.v (.slice none 0 0))] 25 none)]
    |_::_=>[some (.box [.p (.ro 3 LR),.p (pI x.1),.p (pB c.fn),.p (pB c.lp),.p (pB c.gn),.p (pB c.as_)] 39 (some t0)),some (.box [.p (pI 0),.p (pS ⟨#[]⟩),.p (pI 0),.p (pI 0),.p (.v (.slice none 0 0))] 25 none),some (.box [.p (pI 11),.p (pS ⟨#[]⟩),.p (pI 0),.p (pI (oo)),.osl 3 0 x.2.2.2.2] 25 none),some (.rows 5 x.2.2.2.1 25)]) (fun x=>bE n toks LR x.1 x.2.1/\ZC oo x.2.2.1 x.2.1=some o/\x.2.1.length<l0.length/\eO x.2.2.1=x.2.2.2.1/\x.2.2.2.1.length=x.2.2.2.2/\x.2.2.2.2<=1000000) aN mixed (fun _=>0) (fun _=>[]) (fun _ _=>0) (fun E=>eU E cK Tryz.f51.results.toList [t0] (iL o) (iE toks LR c o)) kR (fun P G E hc hM hE=>?_) ?_
  case' refine_1=>
   have fO:=gX hE;have sb1:=fO.s1;have sb2:=fO.s2;have sb3:=fO.s3;have ap2:=fO.a2;have ap3:=fO.a3;have an2:=fO.n2;have an3:=fO.n3;have rm:=fun k m b h1 h2=>fO.room k m b h1 h2
   have pr:=fun k rs h=>fO.pre k rs h
   cbv;refine oE (PR h0 0 aT jD c ap) (fun k2=>?_) (fun k2=>?_)
   case' refine_1=>
    refine .z [0] (hM _ _ _ _ _ (k2.2.2.2)) rfl rfl rfl ?_;cbv;refine oE (O3 h0 c (k2.1)) (fun k3=>xE k3 fun lk3 k3=>xE k3 fun bk3 k3=>?_) (fun k3=>oE k3 (fun k3=>xE k3 fun pk3 k3=>xE k3 fun psk3 k3=>xE k3 fun lk3 k3=>xE k3 fun bk3 k3=>xE k3 fun Rk3 k3=>xE k3 fun Nk3 k3=>?_) (fun k3=>?_))
    case' refine_3=>
     refine .z [0] (hM _ _ _ _ _ (k3.2)) rfl rfl rfl ?_;cbv;have e0:=k3.1;subst e0;all_goals trivial
    case' refine_1=>
     refine .z [0] (hM _ _ _ _ _ (k3.2.2.2)) rfl rfl rfl ?_;cbv;exact .mk ((bk3,lk3,[],[],0)) r5 (⟨k3.1,k3.2.1,k3.2.2.1,by rw[eO],rfl,aP _⟩)
    refine .z [0] (hM _ _ _ _ _ (k3.2.2.2.2.2.2)) rfl rfl rfl ?_;cbv;exact .mk ((bk3,lk3,pk3::psk3,Rk3,Nk3)) r5 (⟨k3.1,k3.2.1,k3.2.2.1,k3.2.2.2.1,k3.2.2.2.2.1,k3.2.2.2.2.2.1⟩)
   refine .z [0] (hM _ _ _ _ _ (k2.2.2)) rfl rfl rfl ?_;cbv;refine oE (GN h0 c k2.1) (fun k4=>xE k4 fun bk4 k4=>xE k4 fun Tk4 k4=>?_) (fun k4=>?_)
   case' refine_2=>
    refine .z [0] (hM _ _ _ _ _ (k4.2)) rfl rfl rfl ?_;cbv;have e0:=k4.1;subst e0;all_goals trivial
   refine .z [0] (hM _ _ _ _ _ (k4.2.2.2.2)) rfl rfl rfl ?_;cbv;exact .mk ((bk4,(l0.drop 1),[dV 7 (tx l0 0) []],_,1)) r5 (⟨k4.1,k4.2.1,k4.2.2.1,Fh k4.2.2.2.1,rfl,(by decide:1<=1000000)⟩)
  rintro⟨a1,l1,ps,R,N⟩ ⟨h1,ao,jY,hR,hN,hz⟩
  simp only at h1 ao jY hR hN hz;unfold ZC at ao;obtain⟨c2,AN⟩:∃c2,nV oo=c2:=⟨_,rfl⟩
  rw[AN]at ao;have hw:=sD (Mg oo);rw[AN]at hw
  cases ps with
  |nil=>
   refine aY.ofM aN mixed (fun n=>match n with|11=>5|12=>9|_=>0) (fun n=>match n with|11=>[3]|12=>[3]|_=>[]) (fun n i=>match n,i with|11,3=>1|11,4=>1|12,3=>1|12,4=>1|12,5=>1|12,6=>1|12,7=>1|12,8=>1|_,_=>0) kR (fun E=>eU E cK Tryz.f51.results.toList [t0] (iL o) (iE toks LR c o)) fun P G E hc hM hE=>?_
   have fO:=gX hE;have sb1:=fO.s1;have sb2:=fO.s2;have sb3:=fO.s3;have ap2:=fO.a2;have ap3:=fO.a3;have an2:=fO.n2;have an3:=fO.n3;have rm:=fun k m b h1 h2=>fO.room k m b h1 h2
   have pr:=fun k rs h=>fO.pre k rs h
   cbv;refine oE (m6 h1 qX c ao) (fun k5=>xE k5 fun bk5 k5=>?_) (fun k5=>?_)
   case' refine_2=>
    refine .z [0] (hM _ _ _ _ _ (k5.2)) rfl rfl rfl ?_;cbv;have e0:=k5.1;subst e0;all_goals trivial
   refine .z [0] (hM _ _ _ _ _ (k5.2.2.2.2)) rfl rfl rfl ?_;cbv;simp only[sb1,sb2,sb3];cbv;refine⟨_,hc _ _ _ hw,?_⟩;cbv;refine oE (PR k5.1 0 aT nS c2 k5.2.1) (fun k6=>?_) (fun k6=>?_)
   case' refine_1=>
    refine .z [0] (hM _ _ _ _ _ (k6.2.2.2)) rfl rfl rfl ?_;cbv;refine oE (yE (L:=(l1.drop 1)) (c:=c2) (ih (.block c2 (l1.drop 1)) xJ) rfl rfl rfl rfl rfl rfl k5.1 k6.1) (fun k7=>xE k7 fun xk7 k7=>xE k7 fun lk7 k7=>xE k7 fun bk7 k7=>xE k7 fun q1k7 k7=>xE k7 fun q2k7 k7=>xE k7 fun q3k7 k7=>xE k7 fun q4k7 k7=>xE k7 fun q5k7 k7=>?_) (fun k7=>?_)
    case' refine_2=>
     refine Or.inr ?_;refine .mk [0] _ _ _ _ (hM _ _ _ _ _ (k7.2)) rfl rfl rfl _ rfl ?_;cbv;have e0:=k7.1;subst e0;all_goals trivial
    refine Or.inl ?_;refine⟨.mk trivial,?_⟩;refine .mk [0] _ _ _ _ (hM _ _ _ _ _ (k7.2.2.2.2)) rfl rfl rfl rfl ?_;cbv;have ok7:=k7.2.2.2.1.one;cbv at ok7;cbv;simp only[ok7];cbv;refine⟨.mk vR,?_⟩
    cbv;refine⟨(rm _ _ _ aT aT),?_⟩;cbv
    have e0:=rP (k7.2.1);subst e0;simp only[k7.1.place,nd,dV,fR,gM,mS,eO,pD,sR,k7.2.2.2.1.row];cbv
    grind
   refine .z [0] (hM _ _ _ _ _ (k6.2.2)) rfl rfl rfl ?_;cbv;refine oE (yE (L:=(l1.drop 1)) (c:=c2) (ih (.assign c2 (l1.drop 1)) xJ) rfl rfl rfl rfl rfl rfl k5.1 k6.1) (fun k8=>xE k8 fun xk8 k8=>xE k8 fun lk8 k8=>xE k8 fun bk8 k8=>xE k8 fun q1k8 k8=>xE k8 fun q2k8 k8=>xE k8 fun q3k8 k8=>xE k8 fun q4k8 k8=>xE k8 fun q5k8 k8=>?_) (fun k8=>?_)
   case' refine_2=>
    refine Or.inr ?_;refine .mk [0] _ _ _ _ (hM _ _ _ _ _ (k8.2)) rfl rfl rfl _ rfl ?_;cbv;have e0:=k8.1;subst e0;all_goals trivial
   refine Or.inl ?_;refine⟨.mk trivial,?_⟩;refine .mk [0] _ _ _ _ (hM _ _ _ _ _ (k8.2.2.2.2)) rfl rfl rfl rfl ?_;cbv;have ok8:=k8.2.2.2.1.one;cbv at ok8;cbv;simp only[ok8];cbv;refine⟨.mk vR,?_⟩
   cbv;refine⟨(rm _ _ _ aT aT),?_⟩;cbv
   have e0:=rP (k8.2.1);subst e0;simp only[k8.1.place,nd,dV,fR,gM,mS,eO,pD,sR,k8.2.2.2.1.row];cbv
   grind
  |cons p ps=>
   refine aY.ofM aN mixed (fun n=>match n with|11=>5|12=>9|_=>0) (fun n=>match n with|11=>[3]|12=>[3]|_=>[]) (fun n i=>match n,i with|11,3=>1|11,4=>1|12,3=>1|12,4=>1|12,5=>1|12,6=>1|12,7=>1|12,8=>1|_,_=>0) kR (fun E=>eU E cK Tryz.f51.results.toList [t0] (iL o) (iE toks LR c o)) fun P G E hc hM hE=>?_
   have fO:=gX hE;have sb1:=fO.s1;have sb2:=fO.s2;have sb3:=fO.s3;have ap2:=fO.a2;have ap3:=fO.a3;have an2:=fO.n2;have an3:=fO.n3;have rm:=fun k m b h1 h2=>fO.room k m b h1 h2
   have pr:=fun k rs h=>fO.pre k rs h
   cbv;refine oE (m6 h1 qX c ao) (fun k9=>xE k9 fun bk9 k9=>?_) (fun k9=>?_)
   case' refine_2=>
    refine .z [0] (hM _ _ _ _ _ (k9.2)) rfl rfl rfl ?_;cbv;have e0:=k9.1;subst e0;all_goals trivial
   refine .z [0] (hM _ _ _ _ _ (k9.2.2.2.2)) rfl rfl rfl ?_;cbv;simp only[sb1,sb2,sb3];cbv;refine⟨_,hc _ _ _ hw,?_⟩;cbv;refine oE (PR k9.1 0 aT nS c2 k9.2.1) (fun k10=>?_) (fun k10=>?_)
   case' refine_1=>
    refine .z [0] (hM _ _ _ _ _ (k10.2.2.2)) rfl rfl rfl ?_;cbv;refine oE (yE (L:=(l1.drop 1)) (c:=c2) (ih (.block c2 (l1.drop 1)) xJ) rfl rfl rfl rfl rfl rfl k9.1 k10.1) (fun k11=>xE k11 fun xk11 k11=>xE k11 fun lk11 k11=>xE k11 fun bk11 k11=>xE k11 fun q1k11 k11=>xE k11 fun q2k11 k11=>xE k11 fun q3k11 k11=>xE k11 fun q4k11 k11=>xE k11 fun q5k11 k11=>?_) (fun k11=>?_)
    case' refine_2=>
     refine Or.inr ?_;refine .mk [0] _ _ _ _ (hM _ _ _ _ _ (k11.2)) rfl rfl rfl _ rfl ?_;cbv;have e0:=k11.1;subst e0;all_goals trivial
    refine Or.inl ?_;refine⟨.mk trivial,?_⟩;refine .mk [0] _ _ _ _ (hM _ _ _ _ _ (k11.2.2.2.2)) rfl rfl rfl rfl ?_;cbv;have ok11:=k11.2.2.2.1.one;cbv at ok11;refine xE (⟨_,rfl⟩:∃R2,R++[[pI q1k11,pS q4k11,pI q2k11,pI q3k11,q5k11]]=R2) fun R2 cS=>?_
    refine xE (⟨_,rfl⟩:∃N2,N+1=N2) fun N2 fT=>?_
    have fA:=ig hE (hN) (aS (hz) aT) cS fT
    have fA1:=fA.pre;have fA2:=fA.room;have fA3:=fA.add;have fA4:=fA.app;have fA5:=fA.pre2;have fA6:=fA.sub;have fA7:=fA.p1;have fA8:=fA.s1;cbv;simp only[ok11];cbv;refine⟨.mk vR,?_⟩
    cbv;refine mT ?_;have e0:=rP (k11.2.1);subst e0;have cM:gM (xk11)=[pI q1k11,pS q4k11,pI q2k11,pI q3k11,q5k11]:=by(simp only[nd,dV,fR,gM,mS,eO,k11.2.2.2.1.row])<;>rfl
    have hK:=CI (hR) cM cS;simp only[nd,dV,fR,pD]at hK;simp only[k11.1.place,nd,dV,fR,gM,hK,pD,sR,k11.2.2.2.1.row];cbv
    grind
   refine .z [0] (hM _ _ _ _ _ (k10.2.2)) rfl rfl rfl ?_;cbv;refine oE (yE (L:=(l1.drop 1)) (c:=c2) (ih (.assign c2 (l1.drop 1)) xJ) rfl rfl rfl rfl rfl rfl k9.1 k10.1) (fun k12=>xE k12 fun xk12 k12=>xE k12 fun lk12 k12=>xE k12 fun bk12 k12=>xE k12 fun q1k12 k12=>xE k12 fun q2k12 k12=>xE k12 fun q3k12 k12=>xE k12 fun q4k12 k12=>xE k12 fun q5k12 k12=>?_) (fun k12=>?_)
   case' refine_2=>
    refine Or.inr ?_;refine .mk [0] _ _ _ _ (hM _ _ _ _ _ (k12.2)) rfl rfl rfl _ rfl ?_;cbv;have e0:=k12.1;subst e0;all_goals trivial
   refine Or.inl ?_;refine⟨.mk trivial,?_⟩;refine .mk [0] _ _ _ _ (hM _ _ _ _ _ (k12.2.2.2.2)) rfl rfl rfl rfl ?_;cbv;have ok12:=k12.2.2.2.1.one;cbv at ok12;refine xE (⟨_,rfl⟩:∃R2,R++[[pI 27,pS ⟨#[]⟩,pI 0,pI 0,.ro 5 [[pI 32,pS ⟨#[]⟩,pI 0,pI 0,.ro 5 [[pI q1k12,pS q4k12,pI q2k12,pI q3k12,q5k12]]]]]]=R2) fun R2 cS=>?_
   refine xE (⟨_,rfl⟩:∃N2,N+1=N2) fun N2 fT=>?_
   have fA:=ig hE (hN) (aS (hz) aT) cS fT
   have fA1:=fA.pre;have fA2:=fA.room;have fA3:=fA.add;have fA4:=fA.app;have fA5:=fA.pre2;have fA6:=fA.sub;have fA7:=fA.p1;have fA8:=fA.s1;cbv;simp only[ok12];cbv;refine⟨.mk vR,?_⟩
   cbv;refine mT ?_;have e0:=rP (k12.2.1);subst e0;have cM:gM (nd 27 [nd 32 [xk12]])=[pI 27,pS ⟨#[]⟩,pI 0,pI 0,.ro 5 [[pI 32,pS ⟨#[]⟩,pI 0,pI 0,.ro 5 [[pI q1k12,pS q4k12,pI q2k12,pI q3k12,q5k12]]]]]:=by(simp only[nd,dV,fR,gM,mS,eO,k12.2.2.2.1.row])<;>rfl
   have hK:=CI (hR) cM cS;simp only[nd,dV,fR,pD]at hK;simp only[k12.1.place,nd,dV,fR,gM,hK,pD,sR,k12.2.2.2.1.row];cbv
   grind
end
section
variable{n:Int}{toks:List Tk}{LR:List (List PV)}{l:Ts}
theorem bE.num{a:Int}(h:bE n toks LR a l)(hk:kd l 0=3):RL 131 [pS (bL (tx l 0)),pI 10,pI 64] (.tup [pI (lC (tx l 0):Nat),.v .nilIface]):=by
 have hp:=kJ hk aT
 have hm:l[0]∈toks:=jA (i:=a.toNat) (by rw[h.d];grind)
 have ht:tx l 0=l[0].t:=by unfold tx;grind
 have AL:l[0].k=3:=by unfold kd at hk;grind
 obtain⟨h1,h2,h3⟩:=h.tn _ hm AL;have h4:=h.tz _ hm
 have:=Kx (bL (tx l 0)) (by show(tx l 0).length<=2000000;rw[ht];omega) (by rw[CS,ht];exact h1) (by rw[CS,ht];exact h2) (by rw[CS,ht];exact h3)
 rw[CS]at this;exact this
def Fp(c:Cx)(l:Ts):Re Rv:=if aL l 0 jD then ndR (ev (.assign c (l.drop 1))) fun n l1=>eZ eG l1 fun l2=>bR (.nd n) l2
 else if aL l 0 uD then lsR (ev (.list2 xB c (l.drop 1))) fun ks l1=>bR (.nd (nd 9 ks)) l1
 else if aL l 0 nS then lsR (ev (.fields c (l.drop 1))) fun ks l1=>bR (.nd (nd 10 ks)) l1
 else if aL l 0 vA||aL l 0 iW then ev (.func false c l)
 else qY
def OY:Nat->Bs×Int
 |0=>(XF,1)
 |1=>(WA,2)
 |2=>(WC,3)
 |3=>(XE,4)
 |_=>(WB,8)
def OZ(c:Cx)(l:Ts):Nat->Re Rv
 |0=>Fp c l
 |j+1=>if aL l 0 (OY (4-j)).1 then bR (.nd (nd (OY (4-j)).2 [])) (l.drop 1)else OZ c l j
def Ev:List (List PV):=[[pS (bL XF)],[pS (bL WA)],[pS (bL WC)],[pS (bL XE)],[pS (bL WB)]]
def G2:List (List PV):=[[pI 1],[pI 2],[pI 3],[pI 4],[pI 8]]
theorem xfu:∀i:Nat,i<5->Ev[i]?=some [pS (bL (OY i).1)]/\G2[i]?=some [pI (OY i).2]
 |0,_=>⟨rfl,rfl⟩
 |1,_=>⟨rfl,rfl⟩
 |2,_=>⟨rfl,rfl⟩
 |3,_=>⟨rfl,rfl⟩
 |4,_=>⟨rfl,rfl⟩
 |_+5,h=>by omega
theorem z11{c:Cx}(ih:∀s':Sy,s'.meas<(Sy.prim c l).meas->iD n toks LR s'):iD n toks LR (.prim c l):=by
 intro f hf a h o ho
 cases hf
 rw[qA]at ho;change va ev c l=some o at ho;unfold va at ho;change bE n toks LR a l at h;show MP _ (.own 0 0::[]) [aX LR a c] (iL o) (iE toks LR c o);refine gS aN (f:=152) Tryz.func152 rfl kR (oT kR) fun tags bS=>?_
 match tags,bS with
 |[t0],_=>
  refine aY.cutKM 3 104 [0,2] 2 (fun x:Int=>[.own 0 0,.own 1 0]) (fun x=>[some (.box [.p (.ro 3 LR),.p (pI x),.p (pB c.fn),.p (pB c.lp),.p (pB c.gn),.p (pB c.as_)] 39 (some t0)),some (.box [.p (pI 0),.p (pS ⟨#[]⟩),.p (pI 0),.p (pI 0),.p (.v (.slice none 0 0))] 25 none)]) (fun x=>bE n toks LR x l/\OZ c l 5=some o) aN mixed (fun _=>0) (fun _=>[]) (fun _ _=>0) (fun E=>eU E cK Tryz.f152.results.toList [t0] (iL o) (iE toks LR c o)) kR (fun P G E hc hM hE=>?_) ?_
  case' refine_1=>
   have fO:=gX hE;have sb1:=fO.s1;have sb2:=fO.s2;have sb3:=fO.s3;have ap2:=fO.a2;have ap3:=fO.a3;have an2:=fO.n2;have an3:=fO.n3;have rm:=fun k m b h1 h2=>fO.room k m b h1 h2
   have pr:=fun k rs h=>fO.pre k rs h
   cbv;refine xE (YH h 0 aT c) fun Kk1 k1=>xE k1 fun Tk1 k1=>xE k1 fun zk1 k1=>?_
   refine .z [0] (hM _ _ _ _ _ (k1.2.2)) rfl rfl rfl ?_;cbv;refine oE (jz (ho)) (fun k2=>?_) (fun k2=>?_)
   case' refine_1=>
    have ek2:decide (Kk1=1)=true:=aZ
    cbv;simp only[ek2];cbv;refine xE (bE.next h (kJ (k2.1) aT)) fun bk3 k3=>?_
    have dk3:(List.drop 1 l).length<(l).length:=by have:=kJ (k2.1) aT;grind
    have ak3:=yj hE k3.2.2.1 k3.2.2.2 k3.2.1;cbv;simp only[ak3];cbv;have e0:=rP (k2.2);subst e0;simp only[k3.1.place,nd,dV,fR,gM,mS,eO,pD,sR,k1.2.1];all_goals trivial
   have ek2:decide (Kk1=1)=false:=aZ
   cbv;simp only[ek2];cbv;refine oE (jz (k2.2)) (fun k4=>?_) (fun k4=>?_)
   case' refine_1=>
    have ek4:decide (Kk1=4)=true:=aZ
    cbv;simp only[ek4];cbv;refine xE (bE.next h (kJ (k4.1) aT)) fun bk5 k5=>?_
    have dk5:(List.drop 1 l).length<(l).length:=by have:=kJ (k4.1) aT;grind
    have ak5:=yj hE k5.2.2.1 k5.2.2.2 k5.2.1;cbv;simp only[ak5];cbv;have e0:=rP (k4.2);subst e0;simp only[k5.1.place,nd,dV,fR,gM,mS,eO,pD,sR,k1.2.1];all_goals trivial
   have ek4:decide (Kk1=4)=false:=aZ
   cbv;simp only[ek4];cbv;refine oE (jz (k4.2)) (fun k6=>?_) (fun k6=>?_)
   case' refine_1=>
    have ek6:decide (Kk1=3)=true:=aZ
    cbv
    repeat (simp only[ek6];cbv)
    have jb:=bE.num h (k6.1);rw[k1.2.1]at jb;refine xE (⟨_,rfl⟩:∃V:Int,((lC (tx l 0):Nat):Int)=V) fun V hV=>?_
    rw[hV]at jb;refine xE (bE.next h (kJ (k6.1) aT)) fun bk7 k7=>?_
    have dk7:(List.drop 1 l).length<(l).length:=by have:=kJ (k6.1) aT;grind
    have ak7:=yj hE k7.2.2.1 k7.2.2.2 k7.2.1;cbv;simp only[ak7];cbv;refine⟨_,hc _ _ _ jb,?_⟩;cbv;have e0:=rP (k6.2);subst e0;simp only[k7.1.place,nd,dV,fR,gM,mS,eO,pD,sR,hV,k1.2.1];all_goals trivial
   have ek6:decide (Kk1=3)=false:=aZ
   cbv;simp only[ek6];cbv;exact .mk (a) r5 (⟨h,k6.2⟩)
  rintro a0 ⟨h0,ap⟩
  obtain⟨μ,hμ⟩:∃μ:Int×Nat->Nat,∀x,μ x=5-x.2:=⟨_,fun _=>rfl⟩
  refine aY.cutKM 2 104 [0,2] 2 (fun x:Int=>[.own 0 0,.own 1 0]) (fun x=>[some (.box [.p (.ro 3 LR),.p (pI x),.p (pB c.fn),.p (pB c.lp),.p (pB c.gn),.p (pB c.as_)] 39 (some t0)),some (.box [.p (pI 0),.p (pS ⟨#[]⟩),.p (pI 0),.p (pI 0),.p (.v (.slice none 0 0))] 25 none)]) (fun x=>bE n toks LR x l/\Fp c l=some o) aN mixed (fun _=>0) (fun _=>[]) (fun _ _=>0) (fun E=>eU E cK Tryz.f152.results.toList [t0] (iL o) (iE toks LR c o)) kR (fun P G E hc hM hE=>?_) ?_
  case' refine_1=>
   have fO:=gX hE;have sb1:=fO.s1;have sb2:=fO.s2;have sb3:=fO.s3;have ap2:=fO.a2;have ap3:=fO.a3;have an2:=fO.n2;have an3:=fO.n3;have rm:=fun k m b h1 h2=>fO.room k m b h1 h2
   have pr:=fun k rs h=>fO.pre k rs h
   cbv;have cM:=xfu;have o5:E.ofN 5=5:=fS
   simp only[o5];refine gU 104 [0,2,6,56,57,58] 4 (fun x:Int×Nat=>[.own 0 0,.own 1 0,.osl 2 0 5,.osl 3 0 5,.p (pI 5),.p (pI x.1)]) (fun x=>[some (.box [.p (.ro 3 LR),.p (pI a0),.p (pB c.fn),.p (pB c.lp),.p (pB c.gn),.p (pB c.as_)] 39 (some t0)),some (.box [.p (pI 0),.p (pS ⟨#[]⟩),.p (pI 0),.p (pI 0),.p (.v (.slice none 0 0))] 25 none),some (.rows 1 Ev 9),some (.rows 1 G2 3)])
    (fun x=>((x.2:Nat):Int)=x.1/\x.2<=5/\OZ c l (5-x.2)=some o) μ (0,0) r5 ⟨rfl,aP _,ap⟩ ?_
   rintro⟨i,j⟩ ⟨g1,g2,g3⟩
   simp only at g1 g2 g3
   rcases bB j 5 with cJ|qJ
   ·have d1:E.lti i 5=true:=sF
    have hr:=cM j cJ;obtain⟨w,v,Uw⟩:∃w v,OY j=(w,v):=⟨_,_,rfl⟩
    rw[Uw]at hr;rw[show 5-j=(4-j)+1 by omega,OZ,show 4-(4-j)=j by omega,Uw]at g3
    simp only at g3;have p0:E.ple 0 i:=by rw[hE];show 0<=i;omega
    have p5:E.plt i 5:=by rw[hE];show i<5;omega
    obtain⟨J,hJ⟩:∃J,E.addN 0 (E.nat i)=J:=⟨_,rfl⟩
    have Jr:J=j:=by rw[<-hJ,hE];show 0+i.toNat=j;omega
    have r1:Ev[J]?=some [pS (bL w)]:=by rw[Jr];exact hr.1
    have r2:G2[J]?=some [pI v]:=by rw[Jr];exact hr.2
    obtain⟨i2,mX⟩:∃i2,i+1=i2:=⟨_,rfl⟩
    have ea:E.wadd .i64 i 1=i2:=EH
    have g4:((j+1:Nat):Int)=i2:=dU
    clear Jr hr cM;refine oE (xC h0 w c g3) (fun k2=>xE k2 fun bk2 k2=>?_) (fun k2=>?_)
    case' refine_1=>
     cbv;refine mT ?_;refine .z [0] (hM _ _ _ _ _ (k2.2.2.2.2)) rfl rfl rfl ?_;cbv;have e0:=rP k2.2.1;subst e0;simp only[k2.1.place,nd,gM,mS];all_goals trivial
    cbv;refine mT ?_;refine .z [0] (hM _ _ _ _ _ (k2.2.2)) rfl rfl rfl ?_;cbv;simp only[ea];cbv;exact .mk (i2,j+1) r5 ⟨g4,cJ,by grind⟩ aZ
   ·have d1:E.lti i 5=false:=sS
    rw[show 5-j=0 by omega,OZ]at g3
    cbv;simp only[d1];cbv;exact .mk a0 r5 ⟨h0,g3⟩
  rintro a1 ⟨h1,ao⟩
  unfold Fp at ao;refine aY.ofM aN mixed (fun _=>0) (fun _=>[]) (fun _ _=>0) kR (fun E=>eU E cK Tryz.f152.results.toList [t0] (iL o) (iE toks LR c o)) fun P G E hc hM hE=>?_
  have fO:=gX hE;have sb1:=fO.s1;have sb2:=fO.s2;have sb3:=fO.s3;have ap2:=fO.a2;have ap3:=fO.a3;have an2:=fO.n2;have an3:=fO.n3;have rm:=fun k m b h1 h2=>fO.room k m b h1 h2
  have pr:=fun k rs h=>fO.pre k rs h
  cbv;refine oE (xC h1 jD c ao) (fun k8=>xE k8 fun bk8 k8=>?_) (fun k8=>?_)
  case' refine_1=>
   refine .z [0] (hM _ _ _ _ _ (k8.2.2.2.2)) rfl rfl rfl ?_;cbv;refine oE (yE (L:=(l.drop 1)) (c:=c) (ih (.assign c (l.drop 1)) xJ) rfl rfl rfl rfl rfl rfl k8.1 k8.2.1) (fun k9=>xE k9 fun xk9 k9=>xE k9 fun lk9 k9=>xE k9 fun bk9 k9=>xE k9 fun q1k9 k9=>xE k9 fun q2k9 k9=>xE k9 fun q3k9 k9=>xE k9 fun q4k9 k9=>xE k9 fun q5k9 k9=>?_) (fun k9=>?_)
   case' refine_2=>
    refine .z [0] (hM _ _ _ _ _ (k9.2)) rfl rfl rfl ?_;cbv;have e0:=k9.1;subst e0;all_goals trivial
   refine .z [0] (hM _ _ _ _ _ (k9.2.2.2.2)) rfl rfl rfl ?_;cbv;have ok9:=k9.2.2.2.1.one;cbv at ok9;cbv;simp only[ok9];cbv;refine oE (m6 k9.1 eG c k9.2.1) (fun k10=>xE k10 fun bk10 k10=>?_) (fun k10=>?_)
   case' refine_2=>
    refine .z [0] (hM _ _ _ _ _ (k10.2)) rfl rfl rfl ?_;cbv;have e0:=k10.1;subst e0;all_goals trivial
   refine .z [0] (hM _ _ _ _ _ (k10.2.2.2.2)) rfl rfl rfl ?_;cbv;simp only[ok9];cbv;have e0:=rP (k10.2.1);subst e0;simp only[k10.1.place,nd,dV,fR,gM,mS,eO,pD,sR,k9.2.2.2.1.row];all_goals trivial
  refine .z [0] (hM _ _ _ _ _ (k8.2.2)) rfl rfl rfl ?_;cbv;refine oE (xC h1 uD c k8.1) (fun k11=>xE k11 fun bk11 k11=>?_) (fun k11=>?_)
  case' refine_1=>
   refine .z [0] (hM _ _ _ _ _ (k11.2.2.2.2)) rfl rfl rfl ?_;cbv;refine oE (Qt (L:=(l.drop 1)) (c:=c) (ih (.list2 xB c (l.drop 1)) xJ) rfl rfl rfl rfl rfl rfl k11.1 k11.2.1) (fun k12=>xE k12 fun ksk12 k12=>xE k12 fun lk12 k12=>xE k12 fun bk12 k12=>?_) (fun k12=>?_)
   case' refine_2=>
    refine .z [0] (hM _ _ _ _ _ (k12.2)) rfl rfl rfl ?_;cbv;have e0:=k12.1;subst e0;all_goals trivial
   refine oE (WD ksk12) (fun vG=>?_) (fun vG=>xE (⟨_,rfl⟩:∃R,eO ksk12=R) fun R hR=>?_)
   case' refine_1=>
    have hn:mS ksk12=.v (.slice none 0 0):=by rw[vG,mS]
    have cp:=k12.2.2.2;rw[hn]at cp;refine .z [0] (hM _ _ _ _ _ (cp)) rfl rfl rfl ?_;cbv;have e0:=rP (k12.2.1);subst e0;simp only[k12.1.place,nd,dV,fR,gM,pD,sR,hn];all_goals trivial
   have hn:=LW vG hR;have cp:=k12.2.2.2;rw[hn]at cp;refine .z [0] (hM _ _ _ _ _ (cp)) rfl rfl rfl ?_;cbv;have e0:=rP (k12.2.1);subst e0;simp only[k12.1.place,nd,dV,fR,gM,pD,sR,hn];all_goals trivial
  refine .z [0] (hM _ _ _ _ _ (k11.2.2)) rfl rfl rfl ?_;cbv;refine oE (xC h1 nS c k11.1) (fun k13=>xE k13 fun bk13 k13=>?_) (fun k13=>?_)
  case' refine_1=>
   refine .z [0] (hM _ _ _ _ _ (k13.2.2.2.2)) rfl rfl rfl ?_;cbv;refine oE (Qt (L:=(l.drop 1)) (c:=c) (ih (.fields c (l.drop 1)) xJ) rfl rfl rfl rfl rfl rfl k13.1 k13.2.1) (fun k14=>xE k14 fun ksk14 k14=>xE k14 fun lk14 k14=>xE k14 fun bk14 k14=>?_) (fun k14=>?_)
   case' refine_2=>
    refine .z [0] (hM _ _ _ _ _ (k14.2)) rfl rfl rfl ?_;cbv;have e0:=k14.1;subst e0;all_goals trivial
   refine oE (WD ksk14) (fun vG=>?_) (fun vG=>xE (⟨_,rfl⟩:∃R,eO ksk14=R) fun R hR=>?_)
   case' refine_1=>
    have hn:mS ksk14=.v (.slice none 0 0):=by rw[vG,mS]
    have cn:=k14.2.2.2;rw[hn]at cn;refine .z [0] (hM _ _ _ _ _ (cn)) rfl rfl rfl ?_;cbv;have e0:=rP (k14.2.1);subst e0;simp only[k14.1.place,nd,dV,fR,gM,pD,sR,hn];all_goals trivial
   have hn:=LW vG hR;have cn:=k14.2.2.2;rw[hn]at cn;refine .z [0] (hM _ _ _ _ _ (cn)) rfl rfl rfl ?_;cbv;have e0:=rP (k14.2.1);subst e0;simp only[k14.1.place,nd,dV,fR,gM,pD,sR,hn];all_goals trivial
  refine .z [0] (hM _ _ _ _ _ (k13.2.2)) rfl rfl rfl ?_;cbv;refine oE (PS h1 vA iW c k13.1) (fun k15=>?_) (fun k15=>oE k15 (fun k15=>?_) (fun k15=>?_))
  case' refine_1=>
   refine .z [0] (hM _ _ _ _ _ (k15.2.2)) rfl rfl rfl ?_;cbv;refine oE (YO (L:=l) (c:=c) (ih (.func false c l) xJ) rfl rfl rfl rfl rfl h1 k15.1) (fun k16=>xE k16 fun xk16 k16=>xE k16 fun lk16 k16=>xE k16 fun bk16 k16=>xE k16 fun q1k16 k16=>xE k16 fun q2k16 k16=>xE k16 fun q3k16 k16=>xE k16 fun q4k16 k16=>xE k16 fun q5k16 k16=>?_) (fun k16=>?_)
   case' refine_2=>
    refine .z [0] (hM _ _ _ _ _ (k16.2)) rfl rfl rfl ?_;cbv;have e0:=k16.1;subst e0;all_goals trivial
   refine .z [0] (hM _ _ _ _ _ (k16.2.2.2)) rfl rfl rfl ?_;cbv;have ok16:=k16.2.2.1.one;cbv at ok16;cbv;simp only[ok16];cbv;have e0:=k16.2.1;subst e0;simp only[k16.1.place,k16.2.2.1.row];all_goals trivial
  case' refine_2=>
   refine .z [0] (hM _ _ _ _ _ (k15.2.2.2.1)) rfl rfl rfl ?_;cbv;refine .z [0] (hM _ _ _ _ _ (k15.2.2.2.2)) rfl rfl rfl ?_;cbv;refine oE (YO (L:=l) (c:=c) (ih (.func false c l) xJ) rfl rfl rfl rfl rfl h1 k15.1) (fun k17=>xE k17 fun xk17 k17=>xE k17 fun lk17 k17=>xE k17 fun bk17 k17=>xE k17 fun q1k17 k17=>xE k17 fun q2k17 k17=>xE k17 fun q3k17 k17=>xE k17 fun q4k17 k17=>xE k17 fun q5k17 k17=>?_) (fun k17=>?_)
   case' refine_2=>
    refine .z [0] (hM _ _ _ _ _ (k17.2)) rfl rfl rfl ?_;cbv;have e0:=k17.1;subst e0;all_goals trivial
   refine .z [0] (hM _ _ _ _ _ (k17.2.2.2)) rfl rfl rfl ?_;cbv;have ok17:=k17.2.2.1.one;cbv at ok17;cbv;simp only[ok17];cbv;have e0:=k17.2.1;subst e0;simp only[k17.1.place,k17.2.2.1.row];all_goals trivial
  refine .z [0] (hM _ _ _ _ _ (k15.2.2.2.1)) rfl rfl rfl ?_;cbv;refine .z [0] (hM _ _ _ _ _ (k15.2.2.2.2)) rfl rfl rfl ?_;cbv;refine .z [0] (hM _ _ _ _ _ (vQ (um LR a1 c))) rfl rfl rfl ?_;cbv;have e0:=yd (k15.1);subst e0;all_goals trivial
end
theorem C3{n:Int}{toks:List Tk}{LR:List (List PV)}:∀(m:Nat)(s:Sy),s.meas<m->iD n toks LR s
 |0,_,h=>by omega
 |m+1,s,h=>by
  have ih:∀s':Sy,s'.meas<s.meas->iD n toks LR s':=fun s' h'=>C3 m s' oM
  cases s with
  |stmt c l=>exact Y8 ih
  |keyw c l=>exact Xy ih
  |condn c l=>exact Yh ih
  |inner c l=>exact Yo ih
  |body c l=>exact Wn ih
  |loops c l=>exact Za ih
  |tryS c l=>exact Y2 ih
  |decl c l=>exact z4e ih
  |block c l=>exact Wm ih
  |func d c l=>exact z3y ih
  |arrow c l=>exact Wb ih
  |assign c l=>exact Zi ih
  |cond c l=>exact Wt ih
  |opnd k c l=>exact z2b ih
  |unary c l=>exact Z6 ih
  |postf c l=>exact Yz ih
  |link x c l=>exact X8 ih
  |chain c l=>exact Ws ih
  |list2 e c l=>exact Xb ih
  |prim c l=>exact z11 ih
  |fields c l=>exact Yn ih
  |field c l=>exact Yk ih
  |_=>intro f hf;cases hf
def Fi:Option (List PT)->AV
 |none=>.p (.pan lO)
 |some ks=>.p (.agg (gM (nd 42 ks)))
def Qx(toks:List Tk)(LR:List (List PV)):Option (List PT)->AH
 |none=>[none]
 |some _=>[aX LR ((toks.length:Nat):Int) jC]
section
variable{n:Int}{toks:List Tk}{LR:List (List PV)}{l:Ts}
theorem xeh{a:Int}{acc:List PT}{m:Nat}{l:Ts}{o:Option (List PT)}(h:fk (m+1) acc l=o)(hl:l≠[])(hz:bE n toks LR a l):
  (∃x l' b k i q nm KK,bE n toks LR b l'/\fk m (acc++[x]) l'=o/\l'.length<l.length/\iX x k i q nm KK/\MP 13 [.own 0 0] [aX LR a jC] (.p (.agg [pI k,pS nm,pI i,pI q,KK])) [aX LR b jC])\/(o=none/\MP 13 [.own 0 0] [aX LR a jC] (.p (.pan lO)) [none]):=by
 rw[fk,aE hl]at h
 rcases iD.nd (C3 _ (.stmt jC l) (oy _)) rfl rfl hz with⟨h1,h2⟩|⟨x,l',b,k,i,q,nm,KK,h1,h2,h3,h4,h5⟩
 ·rw[h1]at h;exact .inr ⟨h.symm,h2⟩
 ·rw[h1]at h;exact .inl ⟨x,l',b,k,i,q,nm,KK,h2,h,h4 rfl,h3,h5⟩
theorem Kh{m:Nat}{acc:List PT}{l l':Ts}{o:Option (List PT)}(h:l.length<m+1)(hl:l'.length<l.length)(ho:fk m acc l'=o):∃m',l'.length<m'+1/\fk (m'+1) acc l'=o:=by
 cases m with
 |zero=>omega
 |succ m=>grind
theorem z5v{a:Int}(h:bE n toks LR a l):MP 12 [.own 0 0] [aX LR a jC] (Fi (GZ l)) (Qx toks LR (GZ l)):=by
 obtain⟨o,ho⟩:∃o,GZ l=o:=⟨_,rfl⟩
 rw[ho];unfold GZ at ho;obtain⟨μ,hμ⟩:∃μ:Int×Ts×List PT×List (List PV)×Nat->Nat,∀x,μ x=x.2.1.length:=⟨_,fun _=>rfl⟩
 have hz:=h.z;have ca:l.length<=1000000:=EF
 obtain⟨M,mY⟩:∃M:Int,((toks.length:Nat):Int)=M:=⟨_,rfl⟩
 obtain⟨rr,dZ⟩:∃rr,Fi o=rr:=⟨_,rfl⟩
 obtain⟨HH,gQ⟩:∃HH,Qx toks LR o=HH:=⟨_,rfl⟩
 rw[dZ,gQ];refine gS aN (f:=12) Tryz.func12 rfl kR (oT kR) fun tags bS=>?_
 match tags,bS with
 |[t0],_=>
  refine aY.ofM aN mixed (fun n=>match n with|2=>9|3=>5|_=>0) (fun n=>match n with|3=>[3]|_=>[]) (fun n i=>match n,i with|3,3=>1|3,4=>1|_,_=>0) kR (fun E=>eU E cK Tryz.f12.results.toList [t0] rr HH) fun P G E hc hM hE=>?_
  cbv;refine gU 23 [0,2,3] 4 (fun x:Int×Ts×List PT×List (List PV)×Nat=>[.own 0 0,.own 1 0,.own 2 0]) (fun x=>match x.2.2.1 with
    |[]=>[some (.box [.p (.ro 3 LR),.p (pI x.1),.p (pB false),.p (pB false),.p (pB false),.p (pB false)] 39 (some t0)),some (.box [.p (pI 0),.p (pS ⟨#[]⟩),.p (pI 0),.p (pI 0),.p (.v (.slice none 0 0))] 25 none),some (.box [.p (pI 42),.p (pS ⟨#[]⟩),.p (pI 0),.p (pI 0),.p (.v (.slice none 0 0))] 25 none)]
    |_::_=>[some (.box [.p (.ro 3 LR),.p (pI x.1),.p (pB false),.p (pB false),.p (pB false),.p (pB false)] 39 (some t0)),some (.box [.p (pI 0),.p (pS ⟨#[]⟩),.p (pI 0),.p (pI 0),.p (.v (.slice none 0 0))] 25 none),some (.box [.p (pI 42),.p (pS ⟨#[]⟩),.p (pI 0),.p (pI 0),.osl 3 0 x.2.2.2.2] 25 none),some (.rows 5 x.2.2.2.1 25)])
   (fun x=>bE n toks LR x.1 x.2.1/\(∃m,x.2.1.length<m+1/\fk (m+1) x.2.2.1 x.2.1=o)/\x.2.2.2.2+x.2.1.length<=l.length/\eO x.2.2.1=x.2.2.2.1/\x.2.2.2.1.length=x.2.2.2.2) μ (a,l,[],[],0) r5 ⟨h,⟨_,oy _,ho⟩,by show 0+l.length<=l.length;omega,by rw[eO],rfl⟩ ?_
  rintro⟨a1,l1,acc,R,N⟩ ⟨g1,⟨m,g0,g2⟩,g3,g4,g5⟩
  simp only at g0 g1 g2 g3 g4 g5;replace mY:((toks.length:Nat):Int)=M:=mY;have l0:E.ofN LR.length=M:=zp
  cbv at l0
  rcases dP (l1=[])with hl|hl
  ·have d1:E.lti a1 M=false:=by rw[hE];have B5:((toks.length:Nat):Int)=M:=mY;have:=g1.h1;rw[hl]at this;exact dF (by simp at this;omega)
   rw[fk,aF hl]at g2;subst g2;have ha:a1=M:=by have B5:((toks.length:Nat):Int)=M:=mY;have:=g1.h1;rw[hl]at this;simp at this;omega
   have e2:[aX LR a1 jC]=HH:=by rw[<-gQ,ha,<- mY];rfl
   cases acc with
   |nil=>
    have e1:AV.p (.agg [pI 42,pS ⟨#[]⟩,pI 0,pI 0,.v (.slice none 0 0)])=rr:=by rw[<-dZ];rfl
    subst e1 e2;cbv
    repeat (first|(simp only[l0];cbv)|(simp only[d1];cbv))
    all_goals trivial
   |cons y ys=>
    have hK:=D5 g4;have e1:AV.p (.agg [pI 42,pS ⟨#[]⟩,pI 0,pI 0,.ro 5 R])=rr:=by rw[<-dZ];simp only[Fi,nd,gM,hK];rfl
    have fB:=ig (R:=R) (row:=[pI 0,pI 0,pI 0,pI 0,pI 0]) hE g5 oM rfl rfl
    have fB5:=fB.pre;have fB6:E.sub R 0 N=R:=JO
    subst e1 e2;cbv
    repeat (first|(simp only[l0];cbv)|(simp only[d1];cbv)|(refine⟨fB5,?_⟩;cbv)|(simp only[fB6];cbv))
    all_goals trivial
  ·have cf:=aV.2 hl;have d1:E.lti a1 M=true:=by rw[hE];have B5:((toks.length:Nat):Int)=M:=mY;have:=g1.h1;exact aA oM
   have al:=xeh g2 hl g1
   cases acc with
   |nil=>
    cbv
    repeat (first|(simp only[l0];cbv)|(simp only[d1];cbv))
    refine oE al (fun k3=>xE k3 fun xk k3=>xE k3 fun lk k3=>xE k3 fun bk k3=>xE k3 fun q1 k3=>xE k3 fun q2 k3=>xE k3 fun q3 k3=>xE k3 fun q4 k3=>xE k3 fun q5 k3=>?_) (fun k3=>?_)
    case' refine_2=>
     refine Or.inr ?_;refine .mk [0] _ _ _ _ (hM _ _ _ _ _ (k3.2)) rfl rfl rfl _ rfl ?_;cbv;have e0:=k3.1;subst e0;have e1:AV.p (.pan lO)=rr:=dZ;have e2:[none]=HH:=gQ;subst e1 e2;cbv;all_goals trivial
    refine Or.inl ?_;refine⟨.mk trivial,?_⟩;refine .mk [0] _ _ _ _ (hM _ _ _ _ _ (k3.2.2.2.2)) rfl rfl rfl rfl ?_;cbv;have ok3:=k3.2.2.2.1.one;cbv at ok3;have rm:=(gX hE).room 0 1 64 aT aT
    cbv;simp only[ok3];cbv;refine⟨.mk vR,?_⟩
    cbv;refine⟨rm,?_⟩;cbv;exact .mk (bk,lk,[xk],[[pI q1,pS q4,pI q2,pI q3,q5]],1) r5 ⟨k3.1,Kh g0 k3.2.2.1 k3.2.1,by show 1+lk.length<=l.length;have:=k3.2.2.1;omega,by rw[eO,eO,k3.2.2.2.1.row],rfl⟩ (by rw[hμ,hμ];exact k3.2.2.1)
   |cons y ys=>
    cbv
    repeat (first|(simp only[l0];cbv)|(simp only[d1];cbv))
    refine oE al (fun k3=>xE k3 fun xk k3=>xE k3 fun lk k3=>xE k3 fun bk k3=>xE k3 fun q1 k3=>xE k3 fun q2 k3=>xE k3 fun q3 k3=>xE k3 fun q4 k3=>xE k3 fun q5 k3=>?_) (fun k3=>?_)
    case' refine_2=>
     refine Or.inr ?_;refine .mk [0] _ _ _ _ (hM _ _ _ _ _ (k3.2)) rfl rfl rfl _ rfl ?_;cbv;have e0:=k3.1;subst e0;have e1:AV.p (.pan lO)=rr:=dZ;have e2:[none]=HH:=gQ;subst e1 e2;cbv;all_goals trivial
    refine Or.inl ?_;refine⟨.mk trivial,?_⟩;refine .mk [0] _ _ _ _ (hM _ _ _ _ _ (k3.2.2.2.2)) rfl rfl rfl rfl ?_;cbv;have ok3:=k3.2.2.2.1.one;cbv at ok3;refine xE (⟨_,rfl⟩:∃R2,R++[[pI q1,pS q4,pI q2,pI q3,q5]]=R2) fun R2 cS=>?_
    refine xE (⟨_,rfl⟩:∃N2,N+1=N2) fun N2 fT=>?_
    have fA:=ig hE g5 oM cS fT
    have fA1:=fA.pre;have fA2:=fA.room;have fA3:=fA.add;have fA4:=fA.app;cbv;simp only[ok3];cbv;refine⟨.mk vR,?_⟩
    cbv
    repeat (first|(refine⟨fA1,fA2,?_⟩;cbv)|(simp only[fA3,fA4];cbv))
    exact .mk (bk,lk,y::ys++[xk],R2,N2) r5 ⟨k3.1,Kh g0 k3.2.2.1 k3.2.1,by show N2+lk.length<=l.length;have:=k3.2.2.1;omega,by rw[o9,g4,eO,eO,k3.2.2.2.1.row];exact cS,by show R2.length=N2;rw[<-cS,sE,g5];exact fT⟩ (by rw[hμ,hμ];exact k3.2.2.1)
end
end Go.Proofs.YtjkcdcloomkooaaGreatDoor
