/- Own work: walks and laws of the parser and its reference. -/
import Derived.Maps.Views
import Derived.Maps.OwnOps
import Derived.WalkKit
import Derived.Test.YtjkcdcloomkooaaGreatDoorQYZ
import Derived.Tactics
import Derived.Tactics2
import Derived.Defers
import Derived.Recover
set_option linter.unusedVariables false
set_option linter.unusedSimpArgs false
set_option linter.unusedSectionVars false
set_option maxHeartbeats 8000000
set_option maxRecDepth 100000
namespace Go.Proofs.YtjkcdcloomkooaaGreatDoor
open Go.RowKit
theorem Fb{y:PT}{ys:List PT}{R:List (List PV)}(h:eU (y::ys)=R):mM (y::ys)=.ro 5 R:=by
 subst h;rw[mM,eU]
section
variable{n:Int}{toks:List Tk}{LR:List (List PV)}{l:Ts}
theorem z0w{c:Cx}(ih:∀s':Sy,s'.meas<(Sy.block c l).meas->iI n toks LR s'):iI n toks LR (.block c l):=by
 intro f hf a h o ho
 cases hf
 rw[mU]at ho;change w7 ev c l=some o at ho;unfold w7 at ho;change bF n toks LR a l at h;show MP _ (.own 0 0::[]) [aZ LR a c] (iO o) (iG toks LR c o);obtain⟨μ,hμ⟩:∃μ:Int×Ts×List PT×List (List PV)×Nat->Nat,∀x,μ x=x.2.1.length:=⟨_,fun _=>rfl⟩
 have hz:=h.z;have cn:l.length<=1000000:=FU
 obtain⟨M,lU⟩:∃M:Int,((toks.length:Nat):Int)=M:=⟨_,rfl⟩
 refine iD aU (f:=36) Tryz.func36 rfl kR (oT kR) fun tags cC=>?_
 match tags,cC with
 |[t0],_=>
  refine aY.ofM aU mixed (fun n=>match n with|4=>9|6=>5|_=>0) (fun n=>match n with|6=>[3]|_=>[]) (fun n i=>match n,i with|6,3=>1|6,4=>1|_,_=>0) kR (fun E=>fI E cO Tryz.f36.results.toList [t0] (iO o) (iG toks LR c o)) fun P G E hc hM hE=>?_
  cbv;refine oE (mr h nN c ho) (fun k0=>xE k0 fun bk0 k0=>?_) (fun k0=>?_)
  case' refine_2=>
   refine .y hM (k0.2) ?_;cbv;have e0:=k0.1;subst e0;cbv;all_goals trivial
  refine .y hM (k0.2.2.2.2) ?_;cbv;refine gV 30 [0,2,3] 4 (fun x:Int×Ts×List PT×List (List PV)×Nat=>[.own 0 0,.own 1 0,.own 2 0]) (fun x=>match x.2.2.1 with
    |[]=>[some (.box [.p (.ro 3 LR),.p (pI x.1),.p (pB c.fn),.p (pB c.lp),.p (pB c.gn),.p (pB c.as_)] 39 (some t0)),some (.box [.p (pI 0),.p (pS ⟨#[]⟩),.p (pI 0),.p (pI 0),.p (.v (.slice none 0 0))] 25 none),some (.box [.p (pI 27),.p (pS ⟨#[]⟩),.p (pI 0),.p (pI 0),.p (.v (.slice none 0 0))] 25 none)]
    |_::_=>[some (.box [.p (.ro 3 LR),.p (pI x.1),.p (pB c.fn),.p (pB c.lp),.p (pB c.gn),.p (pB c.as_)] 39 (some t0)),some (.box [.p (pI 0),.p (pS ⟨#[]⟩),.p (pI 0),.p (pI 0),.p (.v (.slice none 0 0))] 25 none),some (.box [.p (pI 27),.p (pS ⟨#[]⟩),.p (pI 0),.p (pI 0),.osl 3 0 x.2.2.2.2] 25 none),some (.rows 5 x.2.2.2.1 25)])
   (fun x=>bF n toks LR x.1 x.2.1/\ev (.blockL x.2.2.1 c x.2.1)=some o/\x.2.2.2.2+x.2.1.length<=(List.drop 1 l).length/\eU x.2.2.1=x.2.2.2.1/\x.2.2.2.1.length=x.2.2.2.2) μ (bk0,List.drop 1 l,[],[],0) r5 ⟨k0.1,k0.2.1,by show 0+(List.drop 1 l).length<=(List.drop 1 l).length;omega,by rw[eU],rfl⟩ ?_
  rintro⟨a1,l1,acc,R,N⟩ ⟨g1,g2,g3,g4,g5⟩
  simp only at g1 g2 g3 g4 g5;replace lU:((toks.length:Nat):Int)=M:=lU
  cases acc with
  |nil=>
   rw[mU]at g2;replace g2:wt ev [] c l1=some o:=g2;unfold wt at g2;have l0:E.ofN LR.length=M:=BI
   cbv at l0;cbv;refine oE (xO g1 sK c g2) (fun k1=>xE k1 fun bk1 k1=>?_) (fun k1=>?_)
   case' refine_1=>
    refine .y hM (k1.2.2.2.2) ?_;cbv;have e0:=sC (k1.2.1);subst e0;simp only[k1.1.place,nd,gO,mM];cbv;all_goals trivial
   refine .y hM (k1.2.2) ?_;cbv;simp only[l0];cbv;refine oE (kt k1.1) (fun k2=>?_) (fun k2=>?_)
   case' refine_1=>
    have d1:E.lei M a1=true:=Us
    cbv;simp only[d1];cbv;refine .y hM (wB (vo LR a1 c)) ?_;cbv;have e0:=zj k2.2;subst e0;cbv;all_goals trivial
   have cr:=aS.2 k2.1;have d1:E.lei M a1=false:=Uu
   cbv;simp only[d1];cbv;refine oE (yM (L:=l1) (c:=c) (ih (.stmt c l1) xT) rfl rfl rfl rfl rfl rfl g1 k2.2) (fun k3=>xE k3 fun xk k3=>xE k3 fun lk k3=>xE k3 fun bk k3=>xE k3 fun q1 k3=>xE k3 fun q2 k3=>xE k3 fun q3 k3=>xE k3 fun q4 k3=>xE k3 fun q5 k3=>?_) (fun k3=>?_)
   case' refine_2=>
    refine Or.inr ?_;refine .mk [0] _ _ _ _ (hM _ _ _ _ _ (k3.2)) rfl rfl rfl _ rfl ?_;cbv;have e0:=k3.1;subst e0;cbv;all_goals trivial
   refine Or.inl ?_;refine⟨.mk trivial,?_⟩;refine .mk [0] _ _ _ _ (hM _ _ _ _ _ (k3.2.2.2.2)) rfl rfl rfl rfl ?_;cbv;have ok3:=k3.2.2.2.1.one;cbv at ok3;have rm:=(iQ hE).room 0 1 64 aN aN
   cbv;simp only[ok3];cbv;refine⟨.mk wC,?_⟩
   cbv;refine⟨rm,?_⟩;cbv;exact .mk (bk,lk,[xk],[[pI q1,pS q4,pI q2,pI q3,q5]],1) r5 ⟨k3.1,k3.2.1,by show 1+lk.length<=(List.drop 1 l).length;omega,by rw[eU,eU,k3.2.2.2.1.row],rfl⟩ (by rw[hμ,hμ];show lk.length<l1.length;omega)
  |cons y ys=>
   rw[mU]at g2;replace g2:wt ev (y::ys) c l1=some o:=g2;unfold wt at g2;have l0:E.ofN LR.length=M:=BI
   cbv at l0;have fB:=j4 (R:=R) (row:=[pI 0,pI 0,pI 0,pI 0,pI 0]) hE g5 oM rfl rfl
   have fB5:=fB.pre;have fB6:E.sub R 0 N=R:=LU
   cbv;refine oE (xO g1 sK c g2) (fun k1=>xE k1 fun bk1 k1=>?_) (fun k1=>?_)
   case' refine_1=>
    refine .y hM (k1.2.2.2.2) ?_;cbv;have e0:=sC (k1.2.1);subst e0;have hK:=Fb g4;simp only[k1.1.place,nd,gO,hK];cbv
    repeat (first|(refine⟨fB5,?_⟩;cbv)|(simp only[fB6];cbv))
    all_goals trivial
   refine .y hM (k1.2.2) ?_;cbv;simp only[l0];cbv;refine oE (kt k1.1) (fun k2=>?_) (fun k2=>?_)
   case' refine_1=>
    have d1:E.lei M a1=true:=Us
    cbv;simp only[d1];cbv;refine .y hM (wB (vo LR a1 c)) ?_;cbv;have e0:=zj k2.2;subst e0;cbv;all_goals trivial
   have cr:=aS.2 k2.1;have d1:E.lei M a1=false:=Uu
   cbv;simp only[d1];cbv;refine oE (yM (L:=l1) (c:=c) (ih (.stmt c l1) xT) rfl rfl rfl rfl rfl rfl g1 k2.2) (fun k3=>xE k3 fun xk k3=>xE k3 fun lk k3=>xE k3 fun bk k3=>xE k3 fun q1 k3=>xE k3 fun q2 k3=>xE k3 fun q3 k3=>xE k3 fun q4 k3=>xE k3 fun q5 k3=>?_) (fun k3=>?_)
   case' refine_2=>
    refine Or.inr ?_;refine .mk [0] _ _ _ _ (hM _ _ _ _ _ (k3.2)) rfl rfl rfl _ rfl ?_;cbv;have e0:=k3.1;subst e0;cbv;all_goals trivial
   refine Or.inl ?_;refine⟨.mk trivial,?_⟩;refine .mk [0] _ _ _ _ (hM _ _ _ _ _ (k3.2.2.2.2)) rfl rfl rfl rfl ?_;cbv;have ok3:=k3.2.2.2.1.one;cbv at ok3;refine xE (⟨_,rfl⟩:∃R2,R++[[pI q1,pS q4,pI q2,pI q3,q5]]=R2) fun R2 cW=>?_
   refine xE (⟨_,rfl⟩:∃N2,N+1=N2) fun N2 fZ=>?_
   have fA:=j4 hE g5 oM cW fZ
   have fA1:=fA.pre;have fA2:=fA.room;have fA3:=fA.add;have fA4:=fA.app;cbv;simp only[ok3];cbv;refine⟨.mk wC,?_⟩
   cbv
   repeat (first|(refine⟨fA1,fA2,?_⟩;cbv)|(simp only[fA3,fA4];cbv))
   exact .mk (bk,lk,y::ys++[xk],R2,N2) r5 ⟨k3.1,k3.2.1,by show N2+lk.length<=(List.drop 1 l).length;omega,by rw[pj,g4,eU,eU,k3.2.2.2.1.row];exact cW,by show R2.length=N2;rw[<-cW,sD,g5];exact fZ⟩ (by rw[hμ,hμ];show lk.length<l1.length;omega)
end
def TJ(H:AH):AV->AV
 | .p x=>.p x
 | .osl k i n=>(match H[k]? with
  |some (some (.rows s rs _))=>(match Nat.ble (i+n) rs.length with
   |true=>.p (.ro s ((rs.drop i).take n))
   |false=>.junk)
  |_=>.junk)
 |_=>.junk
theorem xgi{env:List AV}{H:AH}:Wk env H (env.map (TJ H)) (H.map fun _=>none):=by
 intro w0 B w ι tmps hB hR hE;have mS:∀(k:Nat)(b:cE),(H.map fun _=>(none:Option cE))[k]?≠some (some b):=fun k b h=>by
  grind
 have qz:∀b,B b->Rd B ι (H.map fun _=>(none:Option cE)) b:=fun b hb=>⟨hb,fun⟨k,b',_,h,_⟩=>mS k b' h⟩
 refine⟨ι,⟨hR.gr,hR.fut,by simp[hR.len],fun k b c s h1=>absurd h1 (mS k b),fun k l b b' c s s' h1=>absurd h1 (mS k b)⟩,by simp[hE.len],fun q y u hy hu=>?_⟩
 rw[aI]at hy
 cases hq:env[q]? with
 |none=>rw[hq]at hy;cases hy
 |some a=>
  rw[hq]at hy
  cases hy
  have hr:=hE.at_ q a u hq hu
  cases a with
  |p x=>
   cases hr with
   |p _ _ h=>exact .p _ _ ((E3 h).keep (nR _) fun b hb _=>⟨qz b hb,rfl⟩)
  |osl k i n=>
   simp only[TJ]
   split
   ·rename_i s rs t hk
    split
    ·rename_i hle;have hle:=aE hle;obtain⟨p,rfl,hp⟩:=JV hR hB (.osl k i n) u (fun p=>p=.ro s ((rs.drop i).take n)) (by
      unfold cg;rw[hk];exact⟨hle,rfl⟩) hr
     exact .p _ _ (hp.keep (nR _) fun b hb _=>⟨qz b hb,rfl⟩)
    ·exact .junk _
   ·exact .junk _
  |own _ _=>exact .junk _
  |orw _ _ _=>exact .junk _
  |agg _=>exact .junk _
  |tup _=>exact .junk _
  |clo _ _ _=>exact .junk _
  |junk=>exact .junk _
def jg:List (List PV):=[[.ro 1 [[pI 22],[pI 23]]],[.ro 1 [[pI 21],[pI 21]]],[.ro 1 [[pI 11],[pI 14]]],[.ro 1 [[pI 15],[pI 20]]],[.ro 1 [[pI 6],[pI 7]]],[.ro 1 [[pI 8],[pI 10]]]]
theorem zri:V0 110 [] (.ro 1 jg):=by
 refine ap aU oF (f:=110) Tryz.func110 rfl kR (oT kR) ?_
 refine aY.cutK 1 8 [] 0 (fun _:Unit=>[]) (fun _=>[]) (fun _=>True) aU mixed (fun _=>0) (fun E=>jG E cO Tryz.f110.results.toList (.ro 1 jg)) kR ?_ ?_
 ·intro P G E hc qK hE;cbv;exact FT
 intro _ _;refine aY.cut 8 [0] 1 (fun _:Unit=>[.osl 0 0 6]) (fun _=>[some (.rows 1 jg 97)]) (fun _=>True) ?_ ?_
 ·refine aY.cutOps 6 8 [1,2,3,4,5,6] 0 (fun _:Unit=>[.p (.ro 1 [[pI 22],[pI 23]]),.p (.ro 1 [[pI 21],[pI 21]]),.p (.ro 1 [[pI 11],[pI 14]]),.p (.ro 1 [[pI 15],[pI 20]]),.p (.ro 1 [[pI 6],[pI 7]]),.p (.ro 1 [[pI 8],[pI 10]])]) (fun _=>[]) (fun _=>True) aU (fun E=>nI (mC 8 [0] 1 (fun _:Unit=>[.osl 0 0 6]) (fun _=>[some (.rows 1 jg 97)]) (fun _=>True)) (jG E cO Tryz.f110.results.toList (.ro 1 jg))) ?_ ?_
  ·intro P G E hc qK hE;cbv;exact .wk () _ _ xgi r5 trivial
  ·intro _ _ P G E hc qK hE;cbv;exact FT
 intro _ _;refine aY.of aU mixed (fun _=>0) kR (fun E=>jG E cO Tryz.f110.results.toList (.ro 1 jg)) fun P G E hc hM hE=>?_
 have p1:E.pre 0 6 jg:=by rw[hE];exact nR 6
 have t3:E.sub jg 0 6=jg:=fH
 clear hE hc hM;cbv;refine⟨p1,?_⟩;exact aG (PV.ro 1) t3
theorem xgx:∀k:Nat,k<6->∃fr cnt:Nat,oe k=(fr,cnt)/\1<=fr/\fr+cnt<=30/\1<=cnt/\jg[k]?=some [.ro 1 [[pI (fr:Nat)],[pI ((fr+cnt-1:Nat):Int)]]]
 |0,_=>⟨22,2,rfl,by decide,by decide,by decide,rfl⟩
 |1,_=>⟨21,1,rfl,by decide,by decide,by decide,rfl⟩
 |2,_=>⟨11,4,rfl,by decide,by decide,by decide,rfl⟩
 |3,_=>⟨15,6,rfl,by decide,by decide,by decide,rfl⟩
 |4,_=>⟨6,2,rfl,by decide,by decide,by decide,rfl⟩
 |5,_=>⟨8,3,rfl,by decide,by decide,by decide,rfl⟩
 |_+6,h=>by omega
theorem AD{x:PT}{k i o:Int}{nm:ByteArray}{K:PV}(h:gO x=[pI k,pS nm,pI i,pI o,K]):jC x k i o nm K:=by
 cases x with
 |mk k' nm' i' o' ks=>
  rw[gO]at h;have h1:k'=k:=by
   grind
  have h5:mM ks=K:=by
   grind
  exact⟨by exact h,by rw[<-h5];exact Ej ks,h1⟩
section
variable{n:Int}{toks:List Tk}{LR:List (List PV)}{l:Ts}
theorem z3l{k:Nat}{c:Cx}(ih:∀s':Sy,s'.meas<(Sy.opnd k c l).meas->iI n toks LR s'):iI n toks LR (.opnd k c l):=by
 intro f hf a h o ho;have hk6:k<=6:=by
  by_cases hk:k<=6
  ·exact hk
  ·rw[show(Sy.opnd k c l).fid=none from aD hk]at hf;cases hf
 rw[show(Sy.opnd k c l).fid=some 91 from aF hk6]at hf
 cases hf
 rw[mU]at ho;change pb ev k c l=some o at ho;unfold pb at ho;change bF n toks LR a l at h;show MP _ (.own 0 0::[.p (pI (k:Nat))]) [aZ LR a c] (iO o) (iG toks LR c o);obtain⟨z,Y6⟩:∃z:Int,((k:Nat):Int)=z:=⟨_,rfl⟩
 rw[Y6];have mR:=nK zri
 rcases aW k 6 with cQ|qV
 ·rw[aD oM]at ho
  obtain⟨fr,cnt,e1,e2,e3,e4,e5⟩:=xgx k cQ;obtain⟨z1,uZ⟩:∃z:Int,((fr:Nat):Int)=z:=⟨_,rfl⟩
  obtain⟨z2,zF⟩:∃z:Int,((fr+cnt-1:Nat):Int)=z:=⟨_,rfl⟩
  obtain⟨z3,BP⟩:∃z:Int,((k+1:Nat):Int)=z:=⟨_,rfl⟩
  have uH:k<2->z<2:=fun h=>by omega
  have pO:¬k<2->¬z<2:=fun h=>by omega
  have VV:z1+((cnt:Nat):Int)=z2+1:=eC
  rw[uZ,zF]at e5;have YI:jg.length=6:=rfl;obtain⟨TB,Mm⟩:∃x,jg=x:=⟨_,rfl⟩
  rw[Mm]at e5 mR YI;obtain⟨μ,hμ⟩:∃μ:Int×Ts×PT×Int×Int×Int×ByteArray×PV->Nat,∀x,μ x=x.2.1.length:=⟨_,fun _=>rfl⟩
  have fid1:(Sy.opnd (k+1) c l).fid=some 91:=aF oM
  have rk1:(Sy.opnd (k+1) c l).meas<(Sy.opnd k c l).meas:=by
   show 64*l.length+(if k+1<=6 then 26-2*(k+1)else 14)<64*l.length+(if k<=6 then 26-2*k else 14)
   grind
  have rk2:∀l2:Ts,l2.length<l.length->(Sy.opnd (k+1) c l2).meas<(Sy.opnd k c l).meas:=fun l2 h2=>by
   show 64*l2.length+(if k+1<=6 then 26-2*(k+1)else 14)<64*l.length+(if k<=6 then 26-2*k else 14)
   grind
  refine iD aU (f:=91) Tryz.func91 rfl kR (oT kR) fun tags cC=>?_
  match tags,cC with
  |[t0],_=>
   refine aY.ofM aU mixed (fun n=>match n with|8=>14|15=>8|_=>0) (fun n=>match n with|15=>[6]|_=>[]) (fun n i=>match n,i with|15,6=>1|15,7=>1|_,_=>0) kR (fun E=>fI E cO Tryz.f91.results.toList [t0] (iO o) (iG toks LR c o)) fun P G E hc hM hE=>?_
   have l0:E.ofN TB.length=6:=by rw[hE,YI];rfl
   have d6:decide (z=6)=false:=dF oM
   have ea:E.wadd .i64 z 1=z3:=by rw[hE,<- BP,<- Y6];exact jX oM oM
   have pz:E.ple 0 z:=by rw[hE];show 0<=z;omega
   have gz:TB[E.nat z]?=some [.ro 1 [[pI z1],[pI z2]]]:=by rw[hE];show TB[z.toNat]?=_;grind
   have n0:E.nat 0=0:=fH
   have n1:E.nat 1=1:=fH
   have p0:E.ple 0 0:=Bx
   have p1:E.ple 0 1:=Jo
   have fO:=iQ hE;have sb2:=fO.s2;cbv at l0;refine⟨_,hc _ _ _ mR,?_⟩;cbv;refine mV ?_;refine oE (yM (L:=l) (c:=c) (ih (.opnd (k+1) c l) rk1) fid1 rfl rfl rfl rfl (show(Sy.opnd (k+1) c l).args=[.p (pI z3)] by rw[<-BP];rfl) h ho) (fun k1=>xE k1 fun xk1 k1=>xE k1 fun lk1 k1=>xE k1 fun bk1 k1=>xE k1 fun q1k1 k1=>xE k1 fun q2k1 k1=>xE k1 fun q3k1 k1=>xE k1 fun q4k1 k1=>xE k1 fun q5k1 k1=>?_) (fun k1=>?_)
   case' refine_2=>
    refine .y hM (k1.2) ?_;cbv;have e0:=k1.1;subst e0;all_goals trivial
   refine .y hM (k1.2.2.2.2) ?_;cbv;have ok1:=k1.2.2.2.1.one;cbv at ok1;cbv;simp only[ok1];cbv;refine gV 68 [0,1,4,5,6] 3 (fun x:Int×Ts×PT×Int×Int×Int×ByteArray×PV=>[.own 0 0,.p (pI z),.own 1 0,.p (.ro 1 TB),.own 2 0]) (fun x=>[some (.box [.p (.ro 3 LR),.p (pI x.1),.p (pB c.fn),.p (pB c.lp),.p (pB c.gn),.p (pB c.as_)] 39 (some t0)),some (.box [.p (pI 0),.p (pS ⟨#[]⟩),.p (pI 0),.p (pI 0),.p (.v (.slice none 0 0))] 25 none),some (.box [.p (pI x.2.2.2.1),.p (pS x.2.2.2.2.2.2.1),.p (pI x.2.2.2.2.1),.p (pI x.2.2.2.2.2.1),.p x.2.2.2.2.2.2.2] 25 none)])
    (fun x=>bF n toks LR x.1 x.2.1/\ev (.opndL k x.2.2.1 c x.2.1)=some o/\jC x.2.2.1 x.2.2.2.1 x.2.2.2.2.1 x.2.2.2.2.2.1 x.2.2.2.2.2.2.1 x.2.2.2.2.2.2.2/\x.2.1.length<l.length) μ (bk1,lk1,xk1,q1k1,q2k1,q3k1,q4k1,q5k1) r5 ⟨k1.1,k1.2.1,k1.2.2.2.1,k1.2.2.1⟩ ?_
   rintro⟨a1,l1,x,kq,iq,oq,nq,KK⟩ ⟨g1,g2,g3,g4⟩
   simp only at g1 g2 g3 g4;rw[mU]at g2;replace g2:wb ev k x c l1=some o:=g2;unfold wb at g2;rw[e1]at g2;simp only at g2;have ok:=g3.one;cbv at ok;cbv;refine xE (B3 g1 0 aN c) fun K k2=>xE k2 fun T k2=>xE k2 fun zz k2=>?_
   refine .y hM (k2.2.2) ?_;cbv;refine oE (SH g2) (fun k3=>?_) (fun k3=>oE k3 (fun k3=>?_) (fun k3=>?_))
   case' refine_1=>
    have eK:decide (K=5)=true:=aX
    cbv;refine mV ?_;refine xE (PI _ k2.2.1 fr cnt e2 e3 z1 z2 uZ VV) fun F k4=>?_
    refine⟨_,hc _ _ _ k4.2,?_⟩;cbv;refine oE (kt k3.1) (fun k5=>?_) (fun k5=>?_)
    case' refine_1=>
     have eF:decide (F=0)=true:=aX
     cbv;refine mV ?_;have e0:=sC k5.2;subst e0;simp only[g1.place,g3.row];all_goals trivial
    have eF:decide (F=0)=false:=aX
    cbv;simp only[eF];cbv;refine xE (bF.next g1 (lO k3.2 aN)) fun b6 k6=>?_
    have d7:(List.drop 1 l1).length<l1.length:=by have:=lO k3.2 aN;grind
    have ak6:=zu hE k6.2.2.1 k6.2.2.2 k6.2.1;cbv;simp only[ak6];cbv;refine oE (dV (k<2)) (fun h2=>?_) (fun h2=>?_)
    case' refine_1=>
     have d2:E.lti z 2=true:=by rw[hE];exact aA (uH h2)
     cbv;simp only[d2];cbv;cbv;simp only[ea];cbv;refine oE (yM (L:=(List.drop 1 l1)) (c:=c) (ih (.opnd (k+1) c (List.drop 1 l1)) (rk2 _ oM)) fid1 rfl rfl rfl rfl (show(Sy.opnd (k+1) c (List.drop 1 l1)).args=[.p (pI z3)] by rw[<-BP];rfl) k6.1 k5.2) (fun k8=>xE k8 fun xk8 k8=>xE k8 fun lk8 k8=>xE k8 fun bk8 k8=>xE k8 fun q1k8 k8=>xE k8 fun q2k8 k8=>xE k8 fun q3k8 k8=>xE k8 fun q4k8 k8=>xE k8 fun q5k8 k8=>?_) (fun k8=>?_)
     case' refine_2=>
      refine Or.inr ?_;refine .mk [0] _ _ _ _ (hM _ _ _ _ _ (k8.2)) rfl rfl rfl _ rfl ?_;cbv;have e0:=k8.1;subst e0;all_goals trivial
     refine Or.inl ?_;refine⟨.mk trivial,?_⟩;refine .mk [0] _ _ _ _ (hM _ _ _ _ _ (k8.2.2.2.2)) rfl rfl rfl rfl ?_;cbv;have ok8:=k8.2.2.2.1.one;cbv at ok8;cbv;refine mV ?_;refine⟨.mk wC,?_⟩
     cbv;have e9:=k8.2.1;rw[(aF h2)]at e9;exact .mk (bk8,lk8,gC 14 (gF (tx l1 0) fr cnt) [x,xk8],14,0,F,⟨#[]⟩,.ro 5 [[pI kq,pS nq,pI iq,pI oq,KK],[pI q1k8,pS q4k8,pI q2k8,pI q3k8,q5k8]]) r5 ⟨k8.1,e9,AD C6,by grind⟩ aX
    have d2:E.lti z 2=false:=by rw[hE];exact dF (pO h2)
    cbv;simp only[d2];cbv;cbv;simp only[ea];cbv;refine oE (yM (L:=(List.drop 1 l1)) (c:=c) (ih (.opnd (k+1) c (List.drop 1 l1)) (rk2 _ oM)) fid1 rfl rfl rfl rfl (show(Sy.opnd (k+1) c (List.drop 1 l1)).args=[.p (pI z3)] by rw[<-BP];rfl) k6.1 k5.2) (fun k8=>xE k8 fun xk8 k8=>xE k8 fun lk8 k8=>xE k8 fun bk8 k8=>xE k8 fun q1k8 k8=>xE k8 fun q2k8 k8=>xE k8 fun q3k8 k8=>xE k8 fun q4k8 k8=>xE k8 fun q5k8 k8=>?_) (fun k8=>?_)
    case' refine_2=>
     refine Or.inr ?_;refine .mk [0] _ _ _ _ (hM _ _ _ _ _ (k8.2)) rfl rfl rfl _ rfl ?_;cbv;have e0:=k8.1;subst e0;all_goals trivial
    refine Or.inl ?_;refine⟨.mk trivial,?_⟩;refine .mk [0] _ _ _ _ (hM _ _ _ _ _ (k8.2.2.2.2)) rfl rfl rfl rfl ?_;cbv;have ok8:=k8.2.2.2.1.one;cbv at ok8;cbv;refine mV ?_;refine⟨.mk wC,?_⟩
    cbv;have e9:=k8.2.1;rw[(aD h2)]at e9;exact .mk (bk8,lk8,gC 13 (gF (tx l1 0) fr cnt) [x,xk8],13,0,F,⟨#[]⟩,.ro 5 [[pI kq,pS nq,pI iq,pI oq,KK],[pI q1k8,pS q4k8,pI q2k8,pI q3k8,q5k8]]) r5 ⟨k8.1,e9,AD C6,by grind⟩ aX
   case' refine_2=>
    have eK:decide (K=5)=false:=aX
    have eK2:decide (K=2)=true:=aX
    cbv;refine mV ?_;refine xE (PI _ k2.2.1 fr cnt e2 e3 z1 z2 uZ VV) fun F k4=>?_
    refine⟨_,hc _ _ _ k4.2,?_⟩;cbv;refine oE (kt k3.1) (fun k5=>?_) (fun k5=>?_)
    case' refine_1=>
     have eF:decide (F=0)=true:=aX
     cbv;refine mV ?_;have e0:=sC k5.2;subst e0;simp only[g1.place,g3.row];all_goals trivial
    have eF:decide (F=0)=false:=aX
    cbv;simp only[eF];cbv;refine xE (bF.next g1 (lO k3.2.2 aN)) fun b6 k6=>?_
    have d7:(List.drop 1 l1).length<l1.length:=by have:=lO k3.2.2 aN;grind
    have ak6:=zu hE k6.2.2.1 k6.2.2.2 k6.2.1;cbv;simp only[ak6];cbv;refine oE (dV (k<2)) (fun h2=>?_) (fun h2=>?_)
    case' refine_1=>
     have d2:E.lti z 2=true:=by rw[hE];exact aA (uH h2)
     cbv;simp only[d2];cbv;cbv;simp only[ea];cbv;refine oE (yM (L:=(List.drop 1 l1)) (c:=c) (ih (.opnd (k+1) c (List.drop 1 l1)) (rk2 _ oM)) fid1 rfl rfl rfl rfl (show(Sy.opnd (k+1) c (List.drop 1 l1)).args=[.p (pI z3)] by rw[<-BP];rfl) k6.1 k5.2) (fun k8=>xE k8 fun xk8 k8=>xE k8 fun lk8 k8=>xE k8 fun bk8 k8=>xE k8 fun q1k8 k8=>xE k8 fun q2k8 k8=>xE k8 fun q3k8 k8=>xE k8 fun q4k8 k8=>xE k8 fun q5k8 k8=>?_) (fun k8=>?_)
     case' refine_2=>
      refine Or.inr ?_;refine .mk [0] _ _ _ _ (hM _ _ _ _ _ (k8.2)) rfl rfl rfl _ rfl ?_;cbv;have e0:=k8.1;subst e0;all_goals trivial
     refine Or.inl ?_;refine⟨.mk trivial,?_⟩;refine .mk [0] _ _ _ _ (hM _ _ _ _ _ (k8.2.2.2.2)) rfl rfl rfl rfl ?_;cbv;have ok8:=k8.2.2.2.1.one;cbv at ok8;cbv;refine mV ?_;refine⟨.mk wC,?_⟩
     cbv;have e9:=k8.2.1;rw[(aF h2)]at e9;exact .mk (bk8,lk8,gC 14 (gF (tx l1 0) fr cnt) [x,xk8],14,0,F,⟨#[]⟩,.ro 5 [[pI kq,pS nq,pI iq,pI oq,KK],[pI q1k8,pS q4k8,pI q2k8,pI q3k8,q5k8]]) r5 ⟨k8.1,e9,AD C6,by grind⟩ aX
    have d2:E.lti z 2=false:=by rw[hE];exact dF (pO h2)
    cbv;simp only[d2];cbv;cbv;simp only[ea];cbv;refine oE (yM (L:=(List.drop 1 l1)) (c:=c) (ih (.opnd (k+1) c (List.drop 1 l1)) (rk2 _ oM)) fid1 rfl rfl rfl rfl (show(Sy.opnd (k+1) c (List.drop 1 l1)).args=[.p (pI z3)] by rw[<-BP];rfl) k6.1 k5.2) (fun k8=>xE k8 fun xk8 k8=>xE k8 fun lk8 k8=>xE k8 fun bk8 k8=>xE k8 fun q1k8 k8=>xE k8 fun q2k8 k8=>xE k8 fun q3k8 k8=>xE k8 fun q4k8 k8=>xE k8 fun q5k8 k8=>?_) (fun k8=>?_)
    case' refine_2=>
     refine Or.inr ?_;refine .mk [0] _ _ _ _ (hM _ _ _ _ _ (k8.2)) rfl rfl rfl _ rfl ?_;cbv;have e0:=k8.1;subst e0;all_goals trivial
    refine Or.inl ?_;refine⟨.mk trivial,?_⟩;refine .mk [0] _ _ _ _ (hM _ _ _ _ _ (k8.2.2.2.2)) rfl rfl rfl rfl ?_;cbv;have ok8:=k8.2.2.2.1.one;cbv at ok8;cbv;refine mV ?_;refine⟨.mk wC,?_⟩
    cbv;have e9:=k8.2.1;rw[(aD h2)]at e9;exact .mk (bk8,lk8,gC 13 (gF (tx l1 0) fr cnt) [x,xk8],13,0,F,⟨#[]⟩,.ro 5 [[pI kq,pS nq,pI iq,pI oq,KK],[pI q1k8,pS q4k8,pI q2k8,pI q3k8,q5k8]]) r5 ⟨k8.1,e9,AD C6,by grind⟩ aX
   have eK:decide (K=5)=false:=aX
   have eK2:decide (K=2)=false:=aX
   cbv;refine mV ?_;have e0:=sC k3.1;subst e0;simp only[g1.place,g3.row];all_goals trivial
 ·rw[aF qV]at ho;have YI:jg.length=6:=rfl;obtain⟨TB,Mm⟩:∃x,jg=x:=⟨_,rfl⟩
  rw[Mm]at mR YI;refine iD aU (f:=91) Tryz.func91 rfl kR (oT kR) fun tags cC=>?_
  match tags,cC with
  |[t0],_=>
   refine aY.cutKM 3 68 [] 0 (fun _:Unit=>[]) (fun _=>[]) (fun _=>False) aU mixed (fun _=>0) (fun _=>[]) (fun _ _=>0) (fun E=>fI E cO Tryz.f91.results.toList [t0] (iO o) (iG toks LR c o)) kR (fun P G E hc hM hE=>?_) (fun _ h=>h.elim)
   have l0:E.ofN TB.length=6:=by rw[hE,YI];rfl
   have d6:decide (z=6)=true:=aA oM
   cbv at l0;cbv;refine⟨_,hc _ _ _ mR,?_⟩;cbv;refine mV ?_;refine oE (Ba (L:=l) (c:=c) (ih (.unary c l) (by
    show 64*l.length+12<64*l.length+(if k<=6 then 26-2*k else 14)
    grind)) rfl rfl rfl rfl rfl h ho) (fun k2=>xE k2 fun xk2 k2=>xE k2 fun lk2 k2=>xE k2 fun bk2 k2=>xE k2 fun q1k2 k2=>xE k2 fun q2k2 k2=>xE k2 fun q3k2 k2=>xE k2 fun q4k2 k2=>xE k2 fun q5k2 k2=>?_) (fun k2=>?_)
   case' refine_2=>
    refine .y hM (k2.2) ?_;cbv;have e0:=k2.1;subst e0;all_goals trivial
   refine .y hM (k2.2.2.2) ?_;cbv;have ok2:=k2.2.2.1.one;cbv at ok2;cbv;simp only[ok2];cbv;have e0:=k2.2.1;subst e0;simp only[k2.1.place,k2.2.2.1.row];all_goals trivial
end
theorem zz2(m:Nat):∀(e:Bs)(acc:List PT)(c:Cx)(l:Ts){ks:List PT}{l':Ts},l.length<m->ev (.list2L e acc c l)=some (some (.ls ks,l'))->ks.length+l'.length<=acc.length+l.length:=by
 induction m with
 |zero=>omega
 |succ m ih=>
  intro e acc c l ks l' hm h;rw[mU]at h;change wm ev e acc c l=_ at h;unfold wm at h;obtain⟨o,ho,hp⟩:=JK (.assign c l);rw[ho]at h
  cases o with
  |none=>cases h
  |some q=>
   obtain⟨v,l1⟩:=q;have h1:=hp v l1 rfl
   cases v with
   |nb x b=>cases h
   |ls x=>cases h
   |nd x=>
    have h2:l1.length<l.length:=(h1.2.2 rfl rfl).2;replace h:(if aM l1 0 e then bY (Rv.ls (acc++[x])) (l1.drop 1)else fV sY l1 fun l2=>ev (.list2L e (acc++[x]) c l2))=some (some (.ls ks,l')):=h
    by_cases h3:aM l1 0 e=true
    ·rw[aF h3]at h
     cases h
     grind
    ·rw[aD h3]at h;unfold fV at h
     by_cases h4:aM l1 0 sY=true
     ·rw[aF h4]at h
      have:=ih e _ c _ aX h
      grind
     ·rw[aD h4]at h;cases h
theorem z4i{e:Bs}{c:Cx}{l:Ts}{ks:List PT}{l':Ts}(h:ev (.list2 e c l)=some (some (.ls ks,l'))):ks.length<=l.length:=by
 change vz ev e c l=_ at h;unfold vz at h
 split at h
 ·cases h;exact aP _
 ·have:=zz2 _ e [] c l (xf _) h
  grind
def FF(c:Cx)(m:PT)(l1:Ts):Re Rv:=fV iS l1 fun l2=>lsR (ev (.list2 eQ c l2)) fun qs l3=>ev (.chainL (nd 21 (m::qs)) c l3)
def LKx(c:Cx):Bool->PT->Ts->Re Rv
 |true,x,l=>ev (.chainN x c l)
 |false,x,l=>FF c x l
theorem xky{c:Cx}{p:Bool}{x:PT}{l:Ts}{o:Option (Rv×Ts)}(h:(if p then ev (.chainN x c l)else fV iS l fun l2=>lsR (ev (.list2 eQ c l2)) fun qs l3=>ev (.chainL (nd 21 (x::qs)) c l3))=some o):LKx c p x l=some o:=by
 cases p with
 |true=>exact h
 |false=>exact h
theorem ZO{α:Type}(l:List α):l=[]\/∃x xs,l=x::xs:=by
 cases l with
 |nil=>exact .inl rfl
 |cons x xs=>grind
structure ApL(E:SO)(r:List PV)(rs:List (List PV))(M:Nat)(R2:List (List PV))(N2:Nat):Prop where
 pre:E.pre 0 1 [r]
 room:E.room 1 M 64
 add:E.addN 1 M=N2
 app:E.app [r] 1 rs=R2
 le:N2<=R2.length
 take:R2.take N2=R2
theorem Uk{E:SO}(hE:E=bG){r:List PV}{rs:List (List PV)}{M:Nat}(hM:rs.length=M)(hz:M<=1000000){R2:List (List PV)}{N2:Nat}(h2:r::rs=R2)(h3:1+M=N2):ApL E r rs M R2 N2:=by
 subst hE h2 h3 hM;exact⟨nR 1,⟨by unfold maxLen;omega,by omega⟩,rfl,rfl,by simp[Dn],by grind⟩
section
variable{n:Int}{toks:List Tk}{LR:List (List PV)}{l:Ts}
theorem Sd{c:Cx}{x:PT}{k i q:Int}{nm:ByteArray}{K:PV}(hv:jC x k i q nm K):(Sy.link x c l).args=[.p (.agg [pI k,pS nm,pI i,pI q,K])]:=aG (fun r=>[AV.p (.agg r)]) hv.row
theorem Uf{a:Int}{e:Bs}{c:Cx}{L:Ts}{β:Type}{o:Option (β×Ts)}(hG:iI n toks LR (.list2 e c L))(h:bF n toks LR a L){K:List PT->Ts->Re β}(ho:lsR (ev (.list2 e c L)) K=some o):
  (∃ks l' b R M,bF n toks LR b l'/\K ks l'=some o/\l'.length<L.length/\eU ks=R/\R.length=M/\M<=L.length/\MP 154 [.own 0 0,.p (pS (bL e))] [aZ LR a c] (.p (mM ks)) [aZ LR b c])\/(o=none/\MP 154 [.own 0 0,.p (pS (bL e))] [aZ LR a c] (.p (.pan mN)) [none]):=by
 rcases hG.ls rfl rfl h with⟨h1,h2⟩|⟨x,l',b,h1,h2,h4,h5⟩
 ·unfold lsR bnd at ho;rw[h1]at ho;simp only[bQ]at ho;exact .inr ⟨ho.symm,h2⟩
 ·unfold lsR bnd at ho;rw[h1]at ho;refine .inl ⟨x,l',b,_,_,h2,ho,h4 rfl,rfl,rfl,?_,h5⟩;rw[wh];exact z4i h1
theorem Ny{ks:List PT}{R:List (List PV)}{M:Nat}(uI:ks=[])(h:eU ks=R)(h2:R.length=M):mM ks=.v (.slice none 0 0)/\R=[]/\M=0:=by
 subst uI;subst h h2;exact⟨by rw[mM],rfl,rfl⟩
theorem OJ{ks:List PT}{R:List (List PV)}(uI:∃x xs,ks=x::xs)(h:eU ks=R):mM ks=.ro 5 R:=by
 obtain⟨x,xs,rfl⟩:=uI;exact Fb h
theorem Sq{x:PT}{kd:Int}{ks:List PT}{r:List PV}{R R2:List (List PV)}(hx:gO x=r)(h:eU ks=R)(h2:r::R=R2):gO (nd kd (x::ks))=[pI kd,pS ⟨#[]⟩,pI 0,pI 0,.ro 5 R2]:=by
 subst hx h h2;rfl
theorem B4{f:FuncId}{H H':AH}{r:AV}{k i q:Int}{nm:ByteArray}{K:PV}(h:MP f [.own 0 0,.p (.agg [pI k,pS nm,pI i,pI q,K])] H r H'):MP f [.own 0 0,.agg [.p (pI k),.p (pS nm),.p (pI i),.p (pI q),.p K]] H r H':=
 jL.args h rfl fun j a a' ha Dh=>by
  match j with
  |0=>grind
  |1=>cases ha;cases Dh;exact .inr ⟨_,rfl,rfl⟩
  |j+2=>cases ha
theorem z0p{c:Cx}(ih:∀s':Sy,s'.meas<(Sy.chain c l).meas->iI n toks LR s'):iI n toks LR (.chain c l):=by
 intro f hf a h o ho
 cases hf
 rw[mU]at ho;change w8 ev c l=some o at ho;unfold w8 at ho;change bF n toks LR a l at h;show MP _ (.own 0 0::[]) [aZ LR a c] (iO o) (iG toks LR c o);have cn:l.length<=1000000:=f6
 obtain⟨μ,hμ⟩:∃μ:(Int×Ts×PT×Int×Int×Int×ByteArray×PV)×Bool->Nat,∀x,μ x=(if x.2 then x.1.2.1.length+1 else 0):=⟨_,fun _=>rfl⟩
 obtain⟨μ2,hμ2⟩:∃μ:Int×Ts×PT×Int×Int×Int×ByteArray×PV->Nat,∀x,μ x=x.2.1.length:=⟨_,fun _=>rfl⟩
 refine iD aU (f:=139) Tryz.func139 rfl kR (oT kR) fun tags cC=>?_
 match tags,cC with
 |[t0],_=>
  refine aY.cutKM 3 46 [0,2,3] 3 (fun x:Int×Ts×PT×Int×Int×Int×ByteArray×PV=>[.own 0 0,.own 1 0,.own 2 0]) (fun x=>[some (.box [.p (.ro 3 LR),.p (pI x.1),.p (pB c.fn),.p (pB c.lp),.p (pB c.gn),.p (pB c.as_)] 39 (some t0)),some (.box [.p (pI 0),.p (pS ⟨#[]⟩),.p (pI 0),.p (pI 0),.p (.v (.slice none 0 0))] 25 none),some (.box [.p (pI x.2.2.2.1),.p (pS x.2.2.2.2.2.2.1),.p (pI x.2.2.2.2.1),.p (pI x.2.2.2.2.2.1),.p x.2.2.2.2.2.2.2] 25 none)]) (fun x=>bF n toks LR x.1 x.2.1/\ev (.chainL x.2.2.1 c x.2.1)=some o/\jC x.2.2.1 x.2.2.2.1 x.2.2.2.2.1 x.2.2.2.2.2.1 x.2.2.2.2.2.2.1 x.2.2.2.2.2.2.2/\x.2.1.length<l.length) aU mixed (fun _=>0) (fun _=>[]) (fun n i=>match n,i with|8,0=>1|15,0=>1|_,_=>0) (fun E=>fI E cO Tryz.f139.results.toList [t0] (iO o) (iG toks LR c o)) kR (fun P G E hc hM hE=>?_) ?_
  case' refine_1=>
   cbv;refine oE (xO h QI c ho) (fun k1=>xE k1 fun bk1 k1=>?_) (fun k1=>?_)
   case' refine_2=>
    refine .y hM (k1.2.2) ?_;cbv;refine oE (yM (L:=l) (c:=c) (ih (.prim c l) xT) rfl rfl rfl rfl rfl rfl h k1.1) (fun k2=>xE k2 fun xk2 k2=>xE k2 fun lk2 k2=>xE k2 fun bk2 k2=>xE k2 fun q1k2 k2=>xE k2 fun q2k2 k2=>xE k2 fun q3k2 k2=>xE k2 fun q4k2 k2=>xE k2 fun q5k2 k2=>?_) (fun k2=>?_)
    case' refine_2=>
     refine .y hM (k2.2) ?_;cbv;have e0:=k2.1;subst e0;all_goals trivial
    refine .y hM (k2.2.2.2.2) ?_;cbv;have ok2:=k2.2.2.2.1.one;cbv at ok2;cbv;simp only[ok2];cbv;exact .mk (bk2,lk2,xk2,q1k2,q2k2,q3k2,q4k2,q5k2) r5 ⟨k2.1,k2.2.1,k2.2.2.2.1,k2.2.2.1⟩
   refine .y hM (k1.2.2.2.2) ?_;cbv;refine oE (yM (L:=(List.drop 1 l)) (c:=c) (ih (.prim c (List.drop 1 l)) xT) rfl rfl rfl rfl rfl rfl k1.1 k1.2.1) (fun k2=>xE k2 fun xk2 k2=>xE k2 fun lk2 k2=>xE k2 fun bk2 k2=>xE k2 fun q1k2 k2=>xE k2 fun q2k2 k2=>xE k2 fun q3k2 k2=>xE k2 fun q4k2 k2=>xE k2 fun q5k2 k2=>?_) (fun k2=>?_)
   case' refine_2=>
    refine .y hM (k2.2) ?_;cbv;have e0:=k2.1;subst e0;all_goals trivial
   refine .y hM (k2.2.2.2.2) ?_;cbv;have ok2:=k2.2.2.2.1.one;cbv at ok2;cbv;simp only[ok2];cbv;refine gV 46 [0,2,3,4] 3 (fun x:(Int×Ts×PT×Int×Int×Int×ByteArray×PV)×Bool=>[.own 0 0,.own 1 0,.own 2 0,.p (pB x.2)]) (fun x=>[some (.box [.p (.ro 3 LR),.p (pI x.1.1),.p (pB c.fn),.p (pB c.lp),.p (pB c.gn),.p (pB c.as_)] 39 (some t0)),some (.box [.p (pI 0),.p (pS ⟨#[]⟩),.p (pI 0),.p (pI 0),.p (.v (.slice none 0 0))] 25 none),some (.box [.p (pI x.1.2.2.2.1),.p (pS x.1.2.2.2.2.2.2.1),.p (pI x.1.2.2.2.2.1),.p (pI x.1.2.2.2.2.2.1),.p x.1.2.2.2.2.2.2.2] 25 none)]) (fun x=>bF n toks LR x.1.1 x.1.2.1/\LKx c x.2 x.1.2.2.1 x.1.2.1=some o/\jC x.1.2.2.1 x.1.2.2.2.1 x.1.2.2.2.2.1 x.1.2.2.2.2.2.1 x.1.2.2.2.2.2.2.1 x.1.2.2.2.2.2.2.2/\x.1.2.1.length<l.length) μ ((bk2,lk2,xk2,q1k2,q2k2,q3k2,q4k2,q5k2),true) r5 ⟨k2.1,k2.2.1,k2.2.2.2.1,by grind⟩ ?_
   rintro⟨⟨a1,l1,x,kq,iq,oq,nq,KK⟩,bb⟩ ⟨g1,g2,g3,g4⟩
   simp only at g1 g2 g3 g4;have ok:=g3.one;cbv at ok
   cases bb with
   |true=>
    replace g2:ev (.chainN x c l1)=some o:=g2;rw[mU]at g2;replace g2:DQ ev x c l1=some o:=g2;unfold DQ at g2;cbv;cbv;refine oE (J0 (L:=l1) (c:=c) (ih (.link x c l1) xT) rfl rfl rfl rfl rfl (Sd g3) g1 g2) (fun k3=>xE k3 fun xk3 k3=>xE k3 fun pk3 k3=>xE k3 fun lk3 k3=>xE k3 fun bk3 k3=>xE k3 fun q1k3 k3=>xE k3 fun q2k3 k3=>xE k3 fun q3k3 k3=>xE k3 fun q4k3 k3=>xE k3 fun q5k3 k3=>?_) (fun k3=>?_)
    case' refine_2=>
     refine .y hM (B4 k3.2) ?_;cbv;have e0:=k3.1;subst e0;all_goals trivial
    refine .y hM (B4 k3.2.2.2.2) ?_;cbv;have ok3:=k3.2.2.2.1.one;cbv at ok3;cbv;simp only[ok3];cbv;exact .mk ((bk3,lk3,xk3,q1k3,q2k3,q3k3,q4k3,q5k3),pk3) r5 ⟨k3.1,xky k3.2.1,k3.2.2.2.1,by grind⟩ (by
     grind)
   |false=>
    replace g2:FF c x l1=some o:=g2;unfold FF at g2;cbv;refine oE (mr g1 iS c g2) (fun k4=>xE k4 fun bk4 k4=>?_) (fun k4=>?_)
    case' refine_2=>
     refine .y hM (k4.2) ?_;cbv;have e0:=k4.1;subst e0;all_goals trivial
    refine .y hM (k4.2.2.2.2) ?_;cbv;simp only[ok];cbv;have HC:(List.drop 1 l1).length<l.length:=eC
    refine oE (Uf (ih (.list2 eQ c (List.drop 1 l1)) xT) k4.1 k4.2.1) (fun k5=>xE k5 fun ks5 k5=>xE k5 fun lk5 k5=>xE k5 fun bk5 k5=>xE k5 fun R5 k5=>xE k5 fun M5 k5=>?_) (fun k5=>?_)
    case' refine_2=>
     refine⟨⟨?_,?_,?_⟩,⟨?_,?_⟩,?_⟩
     all_goals refine .y hM (k5.2) ?_
     all_goals cbv
     all_goals have e0:=k5.1
     all_goals subst e0
     all_goals cbv
     all_goals trivial
    refine xE (⟨_,rfl⟩:∃R2,[pI kq,pS nq,pI iq,pI oq,KK]::R5=R2) fun R2 cW=>?_
    refine xE (⟨_,rfl⟩:∃N2,1+M5=N2) fun N2 fZ=>?_
    have zc:=k5.2.2.2.2.1;have HY:=k5.2.2.2.1;have su:=zc;cbv at su;have fA:=Uk hE zc oM cW fZ
    have fA1:=fA.pre;have fA2:=fA.room;have fA3:=fA.add;have fA4:=fA.app;have cS:=Sq (kd:=21) g3.row HY cW;refine oE (ZO ks5) (fun uI=>?_) (fun uI=>?_)
    case' refine_1=>
     have hn:=Ny uI HY zc;have sg:=k5.2.2.2.2.2.2;rw[hn.1]at sg;rw[hn.2.1]at fA4;rw[hn.2.2]at fA2 fA3;refine⟨⟨?_,?_,?_⟩,⟨?_,?_⟩,?_⟩
     all_goals refine .y hM sg ?_
     all_goals cbv
     all_goals repeat (first|(simp only[ok];cbv)|(refine⟨fA1,?_⟩;cbv)|(refine⟨fA2,?_⟩;cbv)|(simp only[fA3,fA4];cbv))
     all_goals exact .wk (bk5,lk5,nd 21 (x::ks5),21,0,0,⟨#[]⟩,.ro 5 R2) _ _ (ar (k:=2) (j:=4) (l:=3) (n:=N2) rfl rfl rfl fA.le fA.take) r5 ⟨k5.1,k5.2.1,AD cS,qM k5.2.2.1 HC⟩
    have hn:=OJ uI HY;have sg:=k5.2.2.2.2.2.2;rw[hn]at sg;refine⟨⟨?_,?_,?_⟩,⟨?_,?_⟩,?_⟩
    all_goals refine .y hM sg ?_
    all_goals cbv
    all_goals repeat (first|(simp only[ok];cbv)|(simp only[su];cbv)|(refine⟨fA1,?_⟩;cbv)|(refine⟨fA2,?_⟩;cbv)|(simp only[fA3,fA4];cbv))
    all_goals exact .wk (bk5,lk5,nd 21 (x::ks5),21,0,0,⟨#[]⟩,.ro 5 R2) _ _ (ar (k:=2) (j:=4) (l:=3) (n:=N2) rfl rfl rfl fA.le fA.take) r5 ⟨k5.1,k5.2.1,AD cS,qM k5.2.2.1 HC⟩
  rintro⟨a0,l0,x0,kz,iz,oz,nz,Kz⟩ ⟨h0,bg,sG,mX⟩
  simp only at h0 bg sG mX;refine aY.ofM aU mixed (fun _=>0) (fun _=>[]) (fun n i=>match n,i with|8,0=>1|15,0=>1|_,_=>0) kR (fun E=>fI E cO Tryz.f139.results.toList [t0] (iO o) (iG toks LR c o)) fun P G E hc hM hE=>?_
  cbv;refine Ed 46 [0,2,3] 3 (fun x:Int×Ts×PT×Int×Int×Int×ByteArray×PV=>[.own 0 0,.own 1 0,.own 2 0]) (fun x=>[some (.box [.p (.ro 3 LR),.p (pI x.1),.p (pB c.fn),.p (pB c.lp),.p (pB c.gn),.p (pB c.as_)] 39 (some t0)),some (.box [.p (pI 0),.p (pS ⟨#[]⟩),.p (pI 0),.p (pI 0),.p (.v (.slice none 0 0))] 25 none),some (.box [.p (pI x.2.2.2.1),.p (pS x.2.2.2.2.2.2.1),.p (pI x.2.2.2.2.1),.p (pI x.2.2.2.2.2.1),.p x.2.2.2.2.2.2.2] 25 none)]) (fun x=>bF n toks LR x.1 x.2.1/\ev (.chainL x.2.2.1 c x.2.1)=some o/\jC x.2.2.1 x.2.2.2.1 x.2.2.2.2.1 x.2.2.2.2.2.1 x.2.2.2.2.2.2.1 x.2.2.2.2.2.2.2/\x.2.1.length<l.length) μ2 (a0,l0,x0,kz,iz,oz,nz,Kz) r5 ⟨h0,bg,sG,mX⟩ ?_
  rintro⟨a1,l1,x,kq,iq,oq,nq,KK⟩ ⟨g1,g2,g3,g4⟩
  simp only at g1 g2 g3 g4;have ok:=g3.one;cbv at ok;rw[mU]at g2;replace g2:DZ ev x c l1=some o:=g2;unfold DZ at g2;cbv;cbv;refine oE (J0 (L:=l1) (c:=c) (ih (.link x c l1) xT) rfl rfl rfl rfl rfl (Sd g3) g1 g2) (fun k3=>xE k3 fun xk3 k3=>xE k3 fun pk3 k3=>xE k3 fun lk3 k3=>xE k3 fun bk3 k3=>xE k3 fun q1k3 k3=>xE k3 fun q2k3 k3=>xE k3 fun q3k3 k3=>xE k3 fun q4k3 k3=>xE k3 fun q5k3 k3=>?_) (fun k3=>?_)
  case' refine_2=>
   refine .y hM (B4 k3.2) ?_;cbv;have e0:=k3.1;subst e0;all_goals trivial
  refine .y hM (B4 k3.2.2.2.2) ?_;cbv;have ok3:=k3.2.2.2.1.one;cbv at ok3;cbv;simp only[ok3];cbv;refine oE (Hd k3.2.1) (fun k4=>?_) (fun k4=>?_)
  case' refine_1=>
   have ep:=k4.2;subst ep;have cQ:=k3.2.2.1.2 rfl;cbv;simp only[ok3];cbv;exact .mk (bk3,lk3,xk3,q1k3,q2k3,q3k3,q4k3,q5k3) r5 ⟨k3.1,k4.1,k3.2.2.2.1,by grind⟩ aX
  have ep:=k4.2;subst ep;cbv;refine oE (xO k3.1 iS c k4.1) (fun k6=>xE k6 fun bk6 k6=>?_) (fun k6=>?_)
  case' refine_2=>
   refine .y hM (k6.2.2) ?_;cbv;simp only[ok];cbv;have e0:=sC (k6.1);subst e0;simp only[k3.1.place,g3.row];all_goals trivial
  refine .y hM (k6.2.2.2.2) ?_;cbv;refine mV ?_;have HC:(List.drop 1 lk3).length<l.length:=eC
  refine oE (Uf (ih (.list2 eQ c (List.drop 1 lk3)) xT) k6.1 k6.2.1) (fun k5=>xE k5 fun ks5 k5=>xE k5 fun lk5 k5=>xE k5 fun bk5 k5=>xE k5 fun R5 k5=>xE k5 fun M5 k5=>?_) (fun k5=>?_)
  case' refine_2=>
   refine⟨⟨?_,?_,?_⟩,⟨?_,?_⟩,?_⟩
   all_goals refine .y hM (k5.2) ?_
   all_goals cbv
   all_goals have e0:=k5.1
   all_goals subst e0
   all_goals cbv
   all_goals trivial
  refine xE (⟨_,rfl⟩:∃R2,[pI kq,pS nq,pI iq,pI oq,KK]::R5=R2) fun R2 cW=>?_
  refine xE (⟨_,rfl⟩:∃N2,1+M5=N2) fun N2 fZ=>?_
  have zc:=k5.2.2.2.2.1;have HY:=k5.2.2.2.1;have su:=zc;cbv at su;have fA:=Uk hE zc oM cW fZ
  have fA1:=fA.pre;have fA2:=fA.room;have fA3:=fA.add;have fA4:=fA.app;have cS:=Sq (kd:=20) g3.row HY cW;refine oE (ZO ks5) (fun uI=>?_) (fun uI=>?_)
  case' refine_1=>
   have hn:=Ny uI HY zc;have sg:=k5.2.2.2.2.2.2;rw[hn.1]at sg;rw[hn.2.1]at fA4;rw[hn.2.2]at fA2 fA3;refine⟨⟨?_,?_,?_⟩,⟨?_,?_⟩,?_⟩
   all_goals refine .y hM sg ?_
   all_goals cbv
   all_goals repeat (first|(simp only[ok];cbv)|(refine⟨fA1,?_⟩;cbv)|(refine⟨fA2,?_⟩;cbv)|(simp only[fA3,fA4];cbv))
   all_goals exact .wk (bk5,lk5,nd 20 (x::ks5),20,0,0,⟨#[]⟩,.ro 5 R2) _ _ (ar (k:=2) (j:=4) (l:=4) (n:=N2) rfl rfl rfl fA.le fA.take) r5 ⟨k5.1,k5.2.1,AD cS,qM k5.2.2.1 HC⟩ aX
  have hn:=OJ uI HY;have sg:=k5.2.2.2.2.2.2;rw[hn]at sg;refine⟨⟨?_,?_,?_⟩,⟨?_,?_⟩,?_⟩
  all_goals refine .y hM sg ?_
  all_goals cbv
  all_goals repeat (first|(simp only[ok];cbv)|(simp only[su];cbv)|(refine⟨fA1,?_⟩;cbv)|(refine⟨fA2,?_⟩;cbv)|(simp only[fA3,fA4];cbv))
  all_goals exact .wk (bk5,lk5,nd 20 (x::ks5),20,0,0,⟨#[]⟩,.ro 5 R2) _ _ (ar (k:=2) (j:=4) (l:=4) (n:=N2) rfl rfl rfl fA.le fA.take) r5 ⟨k5.1,k5.2.1,AD cS,qM k5.2.2.1 HC⟩ aX
end
structure uj(n:Int)(toks:List Tk)(q:Bool)(x:Int×Int×Ts×Nat):Prop where
 d:toks.drop x.1.toNat=x.2.2.1
 i0:0<=x.1
 i1:x.1+((x.2.2.1.length:Nat):Int)=((toks.length:Nat):Int)
 m:((x.2.2.2:Nat):Int)=x.2.1
 m1:x.2.2.2<=128
 q:uV x.2.2.2 x.2.2.1=q
theorem Pq(n:Int)(toks:List Tk)(hz:toks.length<=1000000):V0 27 [.ro 3 (kY n toks)] (pB (uV 0 toks)):=by
 obtain⟨q,hq⟩:∃q,uV 0 toks=q:=⟨_,rfl⟩
 rw[hq];have fE:=wu n toks;have aT:∀(j:Nat)(t:Tk),toks[j]?=some t->(kY n toks)[j]?=some [pI t.k,pS (bL t.t),pI (n-(t.rem:Nat))]:=fun j t ht=>by
  unfold kY;rw[aI,ht];rfl
 obtain⟨LR,tN⟩:∃x,kY n toks=x:=⟨_,rfl⟩
 rw[tN]at fE aT;rw[tN];obtain⟨M,hM⟩:∃M:Int,((toks.length:Nat):Int)=M:=⟨_,rfl⟩
 obtain⟨μ,hμ⟩:∃μ:Int×Int×Ts×Nat->Nat,∀x,μ x=x.2.2.1.length:=⟨_,fun _=>rfl⟩
 refine eZ Tryz.func27 fun P G E hc hE=>?_
 have l0:E.ofN LR.length=M:=by rw[hE,fE];exact hM
 cbv at l0;have x0:uj n toks q (0,0,toks,0):=⟨rfl,bT 0,by simp,rfl,aP _,hq⟩
 cbv;simp only[l0];cbv;refine gV 33 [3,6,7,8] 0 (fun x:Int×Int×Ts×Nat=>[.p (pI x.2.1),.p (.ro 3 LR),.p (pI M),.p (pI x.1)]) (fun _=>[]) (uj n toks q) μ (0,0,toks,0) r5 x0 ?_
 rintro⟨i,op,l,m⟩ hI
 obtain⟨g1,g2,g3,g4,g5,g6⟩:=hI;simp only at g1 g2 g3 g4 g5 g6;replace hM:((toks.length:Nat):Int)=M:=hM
 cases l with
 |nil=>
  have d1:E.lti i M=false:=Bo
  have e0:false=q:=g6;subst e0;cbv;simp only[d1];exact jm
 |cons t l=>
  have d1:E.lti i M=true:=LL
  have ht:toks[i.toNat]?=some t:=by
   have:=aG (fun r:List Tk=>r[0]?) g1
   grind
  have p0:E.ple 0 i:=by rw[hE];exact g2
  have r0:LR[E.nat i]?=some [pI t.k,pS (bL t.t),pI (n-(t.rem:Nat))]:=by rw[hE];exact aT _ t ht
  obtain⟨i2,nF⟩:∃i2,i+1=i2:=⟨_,rfl⟩
  have ea:E.wadd .i64 i 1=i2:=FR
  have n1:toks.drop i2.toNat=l:=by
   have:i2.toNat=i.toNat+1:=eC
   rw[this,<- zD,g1];rfl
  have n2:0<=i2:=eC
  have n3:i2+((l.length:Nat):Int)=((toks.length:Nat):Int):=aX
  have nE:∀(op':Int)(m':Nat),μ (i2,op',l,m')<μ (i,op,t::l,m):=fun op' m'=>by grind
  have eqs:∀w:Bs,E.eq (bL t.t) (bL w)=decide (t.t=w):=fun w=>by
   rw[hE];exact fX.2 ⟨ov,aG bL⟩
  rw[uV]at g6;obtain⟨K,hK⟩:∃K,t.k=K:=⟨_,rfl⟩
  obtain⟨T,hT⟩:∃T,bL t.t=T:=⟨_,rfl⟩
  obtain⟨Z,hZ⟩:∃Z,n-((t.rem:Nat):Int)=Z:=⟨_,rfl⟩
  rw[hK,hT,hZ]at r0;rw[hT]at eqs
  rcases dV (K=5)with hk|hk
  ·have dk:decide (K=5)=true:=aA hk;have hb:sB t=brk t.t:=by unfold sB;rw[hK,aF hk]
   rcases dV (t.t=iS)with hw|nn
   ·have dI:sB t=1:=BH
    rw[dI]at g6;have w1:=eqs iS;have w2:=eqs sX;have w3:=eqs nN;rw[hw]at w1 w2 w3;cbv at w1 w2 w3;replace g4:((m:Nat):Int)=op:=g4;obtain⟨op2,tG⟩:∃x,op+1=x:=⟨_,rfl⟩
    have eo:E.wadd .i64 op 1=op2:=BG
    rcases aW 128 (m+1)with h|h
    ·have e0:true=q:=aX
     have d8:E.lti 128 op2=true:=sN
     subst e0;cbv
     repeat (first|(simp only[d1];cbv)|(refine⟨p0,_,r0,?_⟩;cbv)|(simp only[dk];cbv)|(simp only[w1];cbv)|(simp only[eo];cbv)|(simp only[d8];cbv))
     all_goals trivial
    ·have g7:uV (m+1) l=q:=aX
     have d8:E.lti 128 op2=false:=sE
     have hx:uj n toks q (i2,op2,l,m+1):=⟨n1,n2,n3,by grind,h,g7⟩
     have hy:=nE op2 (m+1);cbv
     repeat (first|(simp only[d1];cbv)|(refine⟨p0,_,r0,?_⟩;cbv)|(simp only[dk];cbv)|(simp only[w1];cbv)|(simp only[eo];cbv)|(simp only[d8];cbv)|(simp only[ea];cbv))
     exact .mk _ r5 hx hy
   rcases dV (t.t=sX)with hw|m9
   ·have dI:sB t=1:=BH
    rw[dI]at g6;have w1:=eqs iS;have w2:=eqs sX;have w3:=eqs nN;rw[hw]at w1 w2 w3;cbv at w1 w2 w3;replace g4:((m:Nat):Int)=op:=g4;obtain⟨op2,tG⟩:∃x,op+1=x:=⟨_,rfl⟩
    have eo:E.wadd .i64 op 1=op2:=BG
    rcases aW 128 (m+1)with h|h
    ·have e0:true=q:=aX
     have d8:E.lti 128 op2=true:=sN
     subst e0;cbv
     repeat (first|(simp only[d1];cbv)|(refine⟨p0,_,r0,?_⟩;cbv)|(simp only[dk];cbv)|(simp only[w1,w2];cbv)|(simp only[eo];cbv)|(simp only[d8];cbv))
     all_goals trivial
    ·have g7:uV (m+1) l=q:=aX
     have d8:E.lti 128 op2=false:=sE
     have hx:uj n toks q (i2,op2,l,m+1):=⟨n1,n2,n3,by grind,h,g7⟩
     have hy:=nE op2 (m+1);cbv
     repeat (first|(simp only[d1];cbv)|(refine⟨p0,_,r0,?_⟩;cbv)|(simp only[dk];cbv)|(simp only[w1,w2];cbv)|(simp only[eo];cbv)|(simp only[d8];cbv)|(simp only[ea];cbv))
     exact .mk _ r5 hx hy
   rcases dV (t.t=nN)with hw|Lg
   ·have dI:sB t=1:=BH
    rw[dI]at g6;have w1:=eqs iS;have w2:=eqs sX;have w3:=eqs nN;rw[hw]at w1 w2 w3;cbv at w1 w2 w3;replace g4:((m:Nat):Int)=op:=g4;obtain⟨op2,tG⟩:∃x,op+1=x:=⟨_,rfl⟩
    have eo:E.wadd .i64 op 1=op2:=BG
    rcases aW 128 (m+1)with h|h
    ·have e0:true=q:=aX
     have d8:E.lti 128 op2=true:=sN
     subst e0;cbv
     repeat (first|(simp only[d1];cbv)|(refine⟨p0,_,r0,?_⟩;cbv)|(simp only[dk];cbv)|(simp only[w1,w2,w3];cbv)|(simp only[eo];cbv)|(simp only[d8];cbv))
     all_goals trivial
    ·have g7:uV (m+1) l=q:=aX
     have d8:E.lti 128 op2=false:=sE
     have hx:uj n toks q (i2,op2,l,m+1):=⟨n1,n2,n3,by grind,h,g7⟩
     have hy:=nE op2 (m+1);cbv
     repeat (first|(simp only[d1];cbv)|(refine⟨p0,_,r0,?_⟩;cbv)|(simp only[dk];cbv)|(simp only[w1,w2,w3];cbv)|(simp only[eo];cbv)|(simp only[d8];cbv)|(simp only[ea];cbv))
     exact .mk _ r5 hx hy
   rcases dV (t.t=eQ)with hw|hw4
   ·have dI:sB t=2:=BH
    rw[dI]at g6;have g7:uV (m-1) l=q:=g6;have w1:=eqs iS;have w2:=eqs sX;have w3:=eqs nN;have w4:=eqs eQ;have w5:=eqs yG;have w6:=eqs sK;rw[hw]at w1 w2 w3 w4 w5 w6;cbv at w1 w2 w3 w4 w5 w6;replace g4:((m:Nat):Int)=op:=g4;obtain⟨op2,tG⟩:∃x,op-1=x:=⟨_,rfl⟩
    have eo:E.wsub .i64 op 1=op2:=BG
    obtain⟨op3,rc⟩:∃x,E.max op2 0=x:=⟨_,rfl⟩
    have yi:((m-1:Nat):Int)=op3:=C7
    have hx:uj n toks q (i2,op3,l,m-1):=⟨n1,n2,n3,yi,by grind,g7⟩
    have hy:=nE op3 (m-1);cbv
    repeat (first|(simp only[d1];cbv)|(refine⟨p0,_,r0,?_⟩;cbv)|(simp only[dk];cbv)|(simp only[w1,w2,w3,w4];cbv)|(simp only[eo];cbv)|(simp only[rc];cbv)|(simp only[ea];cbv))
    exact .mk _ r5 hx hy
   rcases dV (t.t=yG)with hw|hw5
   ·have dI:sB t=2:=BH
    rw[dI]at g6;have g7:uV (m-1) l=q:=g6;have w1:=eqs iS;have w2:=eqs sX;have w3:=eqs nN;have w4:=eqs eQ;have w5:=eqs yG;have w6:=eqs sK;rw[hw]at w1 w2 w3 w4 w5 w6;cbv at w1 w2 w3 w4 w5 w6;replace g4:((m:Nat):Int)=op:=g4;obtain⟨op2,tG⟩:∃x,op-1=x:=⟨_,rfl⟩
    have eo:E.wsub .i64 op 1=op2:=BG
    obtain⟨op3,rc⟩:∃x,E.max op2 0=x:=⟨_,rfl⟩
    have yi:((m-1:Nat):Int)=op3:=C7
    have hx:uj n toks q (i2,op3,l,m-1):=⟨n1,n2,n3,yi,by grind,g7⟩
    have hy:=nE op3 (m-1);cbv
    repeat (first|(simp only[d1];cbv)|(refine⟨p0,_,r0,?_⟩;cbv)|(simp only[dk];cbv)|(simp only[w1,w2,w3,w4,w5];cbv)|(simp only[eo];cbv)|(simp only[rc];cbv)|(simp only[ea];cbv))
    exact .mk _ r5 hx hy
   rcases dV (t.t=sK)with hw|hw6
   ·have dI:sB t=2:=BH
    rw[dI]at g6;have g7:uV (m-1) l=q:=g6;have w1:=eqs iS;have w2:=eqs sX;have w3:=eqs nN;have w4:=eqs eQ;have w5:=eqs yG;have w6:=eqs sK;rw[hw]at w1 w2 w3 w4 w5 w6;cbv at w1 w2 w3 w4 w5 w6;replace g4:((m:Nat):Int)=op:=g4;obtain⟨op2,tG⟩:∃x,op-1=x:=⟨_,rfl⟩
    have eo:E.wsub .i64 op 1=op2:=BG
    obtain⟨op3,rc⟩:∃x,E.max op2 0=x:=⟨_,rfl⟩
    have yi:((m-1:Nat):Int)=op3:=C7
    have hx:uj n toks q (i2,op3,l,m-1):=⟨n1,n2,n3,yi,by grind,g7⟩
    have hy:=nE op3 (m-1);cbv
    repeat (first|(simp only[d1];cbv)|(refine⟨p0,_,r0,?_⟩;cbv)|(simp only[dk];cbv)|(simp only[w1,w2,w3,w4,w5,w6];cbv)|(simp only[eo];cbv)|(simp only[rc];cbv)|(simp only[ea];cbv))
    exact .mk _ r5 hx hy
   have ip:sB t=0:=by
    rw[hb];unfold brk
    grind
   rw[ip]at g6;have g7:uV m l=q:=g6;have w1:E.eq T (bL iS)=false:=aX
   have w2:E.eq T (bL sX)=false:=aX
   have w3:E.eq T (bL nN)=false:=aX
   have w4:E.eq T (bL eQ)=false:=aX
   have w5:E.eq T (bL yG)=false:=aX
   have w6:E.eq T (bL sK)=false:=aX
   cbv at w1 w2 w3 w4 w5 w6;replace g4:((m:Nat):Int)=op:=g4;have hx:uj n toks q (i2,op,l,m):=⟨n1,n2,n3,g4,g5,g7⟩;have hy:=nE op m;cbv
   repeat (first|(simp only[d1];cbv)|(refine⟨p0,_,r0,?_⟩;cbv)|(simp only[dk];cbv)|(simp only[w1,w2,w3,w4,w5,w6];cbv)|(simp only[ea];cbv))
   exact .mk _ r5 hx hy
  ·have dk:decide (K=5)=false:=dF hk;have ip:sB t=0:=by unfold sB;rw[hK,aD hk]
   rw[ip]at g6;have hx:uj n toks q (i2,op,l,m):=⟨n1,n2,n3,g4,g5,g6⟩;have hy:=nE op m;cbv
   repeat (first|(simp only[d1];cbv)|(refine⟨p0,_,r0,?_⟩;cbv)|(simp only[dk];cbv)|(simp only[ea];cbv))
   exact .mk _ r5 hx hy
mutual
def gP:PT->Nat
 | .mk _ _ _ _ ks=>rJ ks+1
def rJ:List PT->Nat
 |[]=>0
 |k::ks=>max (gP k) (rJ ks)
end
theorem AB(x:PT):1<=gP x:=by
 cases x with
 |mk k nm i o ks=>rw[gP];omega
theorem DU:∀{ks:List PT}{y:PT},y∈ks->gP y<=rJ ks
 |[],y,h=>by cases h
 |k::ks,y,h=>by
  rcases dX.1 h with rfl|h
  ·exact Nat.le_max_left _ _
  ·exact aR (DU h) (Nat.le_max_right _ _)
theorem P9:∀(ps:List PT)(i:Nat),(eU ps)[i]?=ps[i]?.map gO
 |[],i=>by rw[eU];simp
 |p::ps,0=>by rfl
 |p::ps,i+1=>by rw[eU,cD,cD,P9 ps i]
structure Y1(ks:List PT)(most:Int)(q:Bool)(x:Int×List PT):Prop where
 d:ks.drop x.1.toNat=x.2
 i0:0<=x.1
 i1:x.1+((x.2.length:Nat):Int)=((ks.length:Nat):Int)
 q:decide (((rJ x.2+1:Nat):Int)<=most)=q
theorem xci{k:PT}{ks:List PT}{most:Int}(h:decide (((gP k:Nat):Int)<=most-1)=true):decide (((rJ (k::ks)+1:Nat):Int)<=most)=decide (((rJ ks+1:Nat):Int)<=most):=by
 have h:=oT h;rw[rJ]
 grind
theorem z7b{k:PT}{ks:List PT}{most:Int}(h:decide (((gP k:Nat):Int)<=most-1)=false):decide (((rJ (k::ks)+1:Nat):Int)<=most)=false:=by
 have h:=gB h;rw[rJ]
 grind
theorem ZY:∀{ks:List PT}{y:PT},th ks->y∈ks->vK y
 |[],y,_,h=>by cases h
 |k::ks,y,hw,h=>by
  rcases dX.1 h with rfl|h
  ·exact hw.1
  ·exact ZY hw.2 h
theorem OY:∀(d:Nat)(x:PT)(most:Int),gP x<=d->vK x->most<=100000->V0 22 [.agg (gO x),pI most] (pB (decide (((gP x:Nat):Int)<=most)))
 |0,x,_,h,_,_=>by have:=AB x;omega
 |d+1,.mk kq nq iq oq ks,most,hd,hw,hm=>by
  obtain⟨Cw,qq⟩:=hw;rw[gP]at hd;have ihk:∀y∈ks,∀b:Int,b<=100000->V0 22 [.agg (gO y),pI b] (pB (decide (((gP y:Nat):Int)<=b))):=fun y hy b hb=>OY d y b UT (ZY qq hy) hb
  rw[gP,gO];obtain⟨q,hq⟩:∃q,decide (((rJ ks+1:Nat):Int)<=most)=q:=⟨_,rfl⟩
  rw[hq];have ok:=Ej ks
  rcases(show most<1\/1<=most by omega)with cQ|qV
  ·have e0:false=q:=aX
   obtain⟨KK,hKK⟩:∃KK,mM ks=KK:=⟨_,rfl⟩
   subst e0;refine eZ Tryz.func22 fun P G E hc hE=>?_
   have d1:E.lti most 1=true:=Jm
   clear hc hE;cbv at ok;cbv
   repeat (first|(simp only[ok];cbv)|(simp only[d1];cbv))
   all_goals trivial
  ·obtain⟨μ,hμ⟩:∃μ:Int×List PT->Nat,∀x,μ x=x.2.length:=⟨_,fun _=>rfl⟩
   obtain⟨b,hb⟩:∃b,most-1=b:=⟨_,rfl⟩
   cases ks with
   |nil=>
    have e0:true=q:=by rw[<-hq];exact(aA (by rw[rJ];omega)).symm
    subst e0;refine eZ Tryz.func22 fun P G E hc hE=>?_
    have d1:E.lti most 1=false:=sE
    have o0:E.ofN 0=0:=fH
    have d0:E.lti 0 0=false:=fH
    cbv;refine mV ?_;refine gV 22 [1,10,11,12] 0 (fun x:Int×List PT=>[.p (pI most),.p (.v (.slice none 0 0)),.p (pI 0),.p (pI 0)]) (fun _=>[]) (fun _=>True) μ (0,[]) r5 trivial ?_
    rintro⟨i,l⟩ _
    cbv;simp only[d0];exact jm
   |cons k0 ks0=>
    obtain⟨ks,uI⟩:∃ks,k0::ks0=ks:=⟨_,rfl⟩
    rw[OJ ⟨k0,ks0,rfl⟩ rfl];rw[uI]at hq Cw qq ihk ⊢;have aT:=P9 ks;have fE:=wh ks;obtain⟨R,hR⟩:∃R,eU ks=R:=⟨_,rfl⟩
    rw[hR]at aT fE;rw[hR];obtain⟨M,hM⟩:∃M:Int,((ks.length:Nat):Int)=M:=⟨_,rfl⟩
    refine eZ Tryz.func22 fun P G E hc hE=>?_
    have d1:E.lti most 1=false:=sE
    have l0:E.ofN R.length=M:=by rw[hE,fE];exact hM
    have eb:E.wsub .i64 most 1=b:=UX
    cbv at l0;cbv;refine mV ?_;refine gV 22 [1,10,11,12] 0 (fun x:Int×List PT=>[.p (pI most),.p (.ro 5 R),.p (pI M),.p (pI x.1)]) (fun _=>[]) (Y1 ks most q) μ (0,ks) r5 ⟨rfl,bT 0,by simp,hq⟩ ?_
    rintro⟨i,l⟩ hI
    obtain⟨g1,g2,g3,g4⟩:=hI;simp only at g1 g2 g3 g4;replace hM:((ks.length:Nat):Int)=M:=hM;replace Cw:ks.length<=2000000:=Cw
    cases l with
    |nil=>
     have d2:E.lti i M=false:=Bo
     have e0:true=q:=by rw[<-g4];exact(aA (by rw[rJ];omega)).symm
     subst e0;cbv;simp only[d2];exact jm
    |cons y l=>
     have d2:E.lti i M=true:=LL
     have hy:ks[i.toNat]?=some y:=by
      exact K5
     have p0:E.ple 0 i:=by rw[hE];exact g2
     obtain⟨k2,i3,o2,n2,KK,hv⟩:=zp y;have r0:R[E.nat i]?=some [pI k2,pS n2,pI i3,pI o2,KK]:=by rw[hE];show R[i.toNat]?=_;rw[aT,hy,<- hv.row];rfl
     obtain⟨i2,nF⟩:∃i2,i+1=i2:=⟨_,rfl⟩
     have ea:E.wadd .i64 i 1=i2:=FR
     have g3a:i2+((l.length:Nat):Int)=((ks.length:Nat):Int):=aX
     have ok2:=hv.one;cbv at ok2;have dO:=ihk y (aH hy) b oM
     rw[hv.row]at dO
     cases De:decide (((gP y:Nat):Int)<=b)with
     |true=>
      rw[De]at dO;replace dO:=hc _ _ _ dO;have g5:decide (((rJ l+1:Nat):Int)<=most)=q:=by rw[<-g4];exact(xci (by rw[hb];exact De)).symm
      have hx:Y1 ks most q (i2,l):=⟨by
       have:i2.toNat=i.toNat+1:=eC
       rw[this,<- zD,g1];rfl,by omega,g3a,g5⟩
      have nE:μ (i2,l)<μ (i,y::l):=aX
      cbv
      repeat (first|(simp only[d2];cbv)|(refine⟨p0,_,r0,?_⟩;cbv)|(simp only[ok2];cbv)|(simp only[eb];cbv)|(refine⟨_,dO,?_⟩;cbv)|(simp only[ea];cbv))
      exact FW
     |false=>
      rw[De]at dO;replace dO:=hc _ _ _ dO;have e0:false=q:=by rw[<-g4];exact(z7b (by rw[hb];exact De)).symm
      subst e0;cbv
      repeat (first|(simp only[d2];cbv)|(refine⟨p0,_,r0,?_⟩;cbv)|(simp only[ok2];cbv)|(simp only[eb];cbv)|(refine⟨_,dO,?_⟩;cbv))
      all_goals trivial
section
variable{n:Int}{toks:List Tk}{LR:List (List PV)}{l:Ts}
theorem UA{c:Cx}{o:Option (Rv×Ts)}(ho:ev (.declL (if aM l 0 pZ then 25 else 24) [] c (l.drop 1))=some o):(if aM l 0 pZ then ev (.declL 25 [] c (l.drop 1))else ev (.declL 24 [] c (l.drop 1)))=some o:=by
 grind
theorem z50{c:Cx}(ih:∀s':Sy,s'.meas<(Sy.decl c l).meas->iI n toks LR s'):iI n toks LR (.decl c l):=by
 intro f hf a h o ho;have cr:0<l.length:=by cases l with|nil=>cases hf|cons x l=>exact Nat.succ_pos _
 rw[show(Sy.decl c l).fid=some 32 from by cases l with|nil=>cases hf|cons x l=>rfl]at hf
 cases hf
 rw[mU]at ho;change DA ev c l=some o at ho;unfold DA at ho;change bF n toks LR a l at h;show MP _ (.own 0 0::[]) [aZ LR a c] (iO o) (iG toks LR c o);refine iD aU (f:=32) Tryz.func32 rfl kR (oT kR) fun tags cC=>?_
 match tags,cC with
 |[t0],_=>
  refine aY.cutKM 4 40 [0,2,3] 3 (fun x:Int×Ts×Int=>[.own 0 0,.own 1 0,.own 2 0]) (fun x=>[some (.box [.p (.ro 3 LR),.p (pI x.1),.p (pB c.fn),.p (pB c.lp),.p (pB c.gn),.p (pB c.as_)] 39 (some t0)),some (.box [.p (pI 0),.p (pS ⟨#[]⟩),.p (pI 0),.p (pI 0),.p (.v (.slice none 0 0))] 25 none),some (.box [.p (pI x.2.2),.p (pS ⟨#[]⟩),.p (pI 0),.p (pI 0),.p (.v (.slice none 0 0))] 25 none)]) (fun x=>bF n toks LR x.1 x.2.1/\ev (.declL x.2.2 [] c x.2.1)=some o/\x.2.1.length<l.length) aU mixed (fun _=>0) (fun _=>[]) (fun _ _=>0) (fun E=>fI E cO Tryz.f32.results.toList [t0] (iO o) (iG toks LR c o)) kR (fun P G E hc hM hE=>?_) ?_
  case' refine_1=>
   cbv;have zQ:=ho;replace zQ:=UA zQ;refine oE (TC h 0 aN pZ c zQ) (fun k2=>?_) (fun k2=>?_)
   case' refine_1=>
    refine .y hM (k2.2.2.2) ?_;cbv;refine xE (bF.next h (nZ k2.2.1)) fun bk3 k3=>?_
    have dk3:(List.drop 1 l).length<(l).length:=aX
    have ak3:=zu hE k3.2.2.1 k3.2.2.2 k3.2.1;cbv;simp only[ak3];cbv;exact .mk ((bk3,List.drop 1 l,25)) r5 (⟨k3.1,k2.1,dk3⟩)
   refine .y hM (k2.2.2) ?_;cbv;refine xE (bF.next h (cr)) fun bk4 k4=>?_
   have dk4:(List.drop 1 l).length<(l).length:=aX
   have ak4:=zu hE k4.2.2.1 k4.2.2.2 k4.2.1;cbv;simp only[ak4];cbv;exact .mk ((bk4,List.drop 1 l,24)) r5 (⟨k4.1,k2.1,dk4⟩)
  rintro⟨a0,l0,kk⟩ ⟨h0,bg,mX⟩
  simp only at h0 bg mX;obtain⟨μ,hμ⟩:∃μ:Int×Ts×List PT×List (List PV)×Nat->Nat,∀x,μ x=x.2.1.length:=⟨_,fun _=>rfl⟩
  have cn:l0.length<=1000000:=by have:=h0.h1;have:=h0.h0;have:=h0.z;omega
  refine aY.ofM aU mixed (fun _=>0) (fun n=>match n with|10=>[0]|_=>[]) (fun _ _=>0) kR (fun E=>fI E cO Tryz.f32.results.toList [t0] (iO o) (iG toks LR c o)) fun P G E hc hM hE=>?_
  cbv;refine iU.wk (DC (k:=2) (j:=4) 5 25 rfl rfl) ?_;refine gV 40 [0,2,3] 4 (fun x:Int×Ts×List PT×List (List PV)×Nat=>[.own 0 0,.own 1 0,.own 2 0]) (fun x=>[some (.box [.p (.ro 3 LR),.p (pI x.1),.p (pB c.fn),.p (pB c.lp),.p (pB c.gn),.p (pB c.as_)] 39 (some t0)),some (.box [.p (pI 0),.p (pS ⟨#[]⟩),.p (pI 0),.p (pI 0),.p (.v (.slice none 0 0))] 25 none),some (.box [.p (pI kk),.p (pS ⟨#[]⟩),.p (pI 0),.p (pI 0),.osl 3 0 x.2.2.2.2] 25 none),some (.rows 5 x.2.2.2.1 25)])
   (fun x=>bF n toks LR x.1 x.2.1/\ev (.declL kk x.2.2.1 c x.2.1)=some o/\x.2.2.2.2+x.2.1.length<=l0.length/\eU x.2.2.1=x.2.2.2.1/\x.2.2.2.1.length=x.2.2.2.2) μ (a0,l0,[],[],0) r5 ⟨h0,bg,by simp,by rw[eU],rfl⟩ ?_
  rintro⟨a1,l1,acc,R,N⟩ ⟨g1,g2,g3,g4,g5⟩
  simp only at g1 g2 g3 g4 g5;rw[mU]at g2;replace g2:vr ev kk acc c l1=some o:=g2;unfold vr at g2;have on1:E.ofN 1=1:=fH
  have fO:=iQ hE;have sb1:=fO.s1;cbv;refine oE (IB g1 c g2) (fun k1=>xE k1 fun bk1 k1=>xE k1 fun Tk1 k1=>?_) (fun k1=>?_)
  case' refine_2=>
   refine .y hM (k1.2) ?_;cbv;have e0:=k1.1;subst e0;all_goals trivial
  refine .y hM (k1.2.2.2.2) ?_;cbv;have eT:=k1.2.2.2.1;refine oE (xO k1.1 Ho c k1.2.1) (fun k2=>xE k2 fun bk2 k2=>?_) (fun k2=>?_)
  case' refine_1=>
   refine .y hM (k2.2.2.2.2) ?_;cbv;refine oE (yM (L:=(List.drop 1 (List.drop 1 l1))) (c:=c) (ih (.assign c (List.drop 1 (List.drop 1 l1))) (by have:=k1.2.2.1;simp only[Sy.meas,Sy.l,Sy.rank];omega)) rfl rfl rfl rfl rfl rfl k2.1 k2.2.1) (fun k3=>xE k3 fun xk3 k3=>xE k3 fun lk3 k3=>xE k3 fun bk3 k3=>xE k3 fun q1k3 k3=>xE k3 fun q2k3 k3=>xE k3 fun q3k3 k3=>xE k3 fun q4k3 k3=>xE k3 fun q5k3 k3=>?_) (fun k3=>?_)
   case' refine_2=>
    refine .y hM (k3.2) ?_;cbv;have e0:=k3.1;subst e0;all_goals trivial
   refine .y hM (k3.2.2.2.2) ?_;cbv;have ok3:=k3.2.2.2.1.one;cbv at ok3;cbv;simp only[ok3];cbv;refine xE (⟨_,rfl⟩:∃R2,R++[[pI 40,pS Tk1,pI 0,pI 0,.ro 5 [[pI q1k3,pS q4k3,pI q2k3,pI q3k3,q5k3]]]]=R2) fun R2 cW=>?_
   refine xE (⟨_,rfl⟩:∃N2,N+1=N2) fun N2 fZ=>?_
   have fA:=j4 hE g5 oM cW fZ
   have fA1:=fA.pre;have fA2:=fA.room;have fA3:=fA.add;have fA4:=fA.app;have fA5:=fA.pre2;have fA6:=fA.sub;have fA7:=fA.p1;have fA8:=fA.s1;refine .mk _ _ (ar (k:=4) (j:=4) (l:=5) (n:=1) rfl rfl rfl (nR _) rfl) ?_;cbv;refine mV ?_;have cS:gO (eD 40 (tx l1 0) [xk3])=[pI 40,pS Tk1,pI 0,pI 0,.ro 5 [[pI q1k3,pS q4k3,pI q2k3,pI q3k3,q5k3]]]:=by rw[eD,gO,eT,mM,k3.2.2.2.1.row,eU]
   refine oE (xO k3.1 sY c (k3.2.1)) (fun k4=>xE k4 fun bk4 k4=>?_) (fun k4=>?_)
   case' refine_2=>
    refine .y hM (k4.2.2) ?_;cbv;have e0:=sC (k4.1);subst e0;have hK:=DY g4 cS cW;simp only[k3.1.place,nd,gO,hK];cbv
    grind
   refine .y hM (k4.2.2.2.2) ?_;cbv;exact .mk (bk4,List.drop 1 lk3,acc++[eD 40 (tx l1 0) [xk3]],R2,N2) r5 ⟨k4.1,k4.2.1,by grind,by rw[pj,g4,eU,eU,cS];exact cW,by grind⟩ aX
  refine .y hM (k2.2.2) ?_;cbv;refine oE (kt k2.1) (fun k3=>?_) (fun k3=>?_)
  case' refine_1=>
   have d1:decide (kk=25)=true:=aA k3.1;cbv;simp only[d1];cbv;refine .y hM (wB (vo LR bk1 c)) ?_;cbv;have e0:=zj k3.2;subst e0;all_goals trivial
  have d1:decide (kk=25)=false:=dF k3.1;cbv;simp only[d1];cbv;refine xE (⟨_,rfl⟩:∃R2,R++[[pI 40,pS Tk1,pI 0,pI 0,.v (.slice none 0 0)]]=R2) fun R2 cW=>?_
  refine xE (⟨_,rfl⟩:∃N2,N+1=N2) fun N2 fZ=>?_
  have fA:=j4 hE g5 oM cW fZ
  have fA1:=fA.pre;have fA2:=fA.room;have fA3:=fA.add;have fA4:=fA.app;have fA5:=fA.pre2;have fA6:=fA.sub;have fA7:=fA.p1;have fA8:=fA.s1;refine .mk _ _ (Wk.refl _ _) ?_;cbv;refine mV ?_;have cS:gO (eD 40 (tx l1 0) [])=[pI 40,pS Tk1,pI 0,pI 0,.v (.slice none 0 0)]:=by rw[eD,gO,eT,mM]
  refine oE (xO k1.1 sY c (k3.2)) (fun k4=>xE k4 fun bk4 k4=>?_) (fun k4=>?_)
  case' refine_2=>
   refine .y hM (k4.2.2) ?_;cbv;have e0:=sC (k4.1);subst e0;have hK:=DY g4 cS cW;simp only[k1.1.place,nd,gO,hK];cbv
   grind
  refine .y hM (k4.2.2.2.2) ?_;cbv;exact .mk (bk4,List.drop 1 (List.drop 1 l1),acc++[eD 40 (tx l1 0) []],R2,N2) r5 ⟨k4.1,k4.2.1,by grind,by rw[pj,g4,eU,eU,cS];exact cW,by grind⟩ aX
end
open Go.Maps
open Go.WideMaps
theorem Td:Keyed Tryz.prog 9:=string_keyed Tryz.underlying9
theorem xja{s:ByteArray}(h:s.size<=maxLen):keyOf Tryz.prog 9 (.string s)=some (.string s.data.toList):=keyOf_string_mk Tryz.underlying9 h
theorem zo0{H:Type}{P:Program}(w:World){ops:Array Oper}{rest:List Oper}{o:Oper}{a:Act}{Q:Exit->Act->World->Prop}
  (hg:o.guard=none) (m x:Operand) (t:TypeId) (nD:o.op=Op.lookup t m x false)
  (k e:TypeId) (K:Keyed P k) (ht:P.underlying t=some (.map k e)) (he:P.underlying e=some .bool) (hz:(zeroValue e).run P w=.ok (.bool false) w) (b n:Nat) (D:DataW H)
  (hm:a.eval m=.map (some b)) (iV:w.ownsMap P k (plainElem P e) b n D) (key:Value) (kl:Lit) (hx:a.eval x=key) (M2:keyOf P k key=some kl) (y:Bool) (mY:D.atKey kl (.lit (.bool false))=.lit (.bool y))
  (hK:wpList P ops Q rest (a.put o.dst (.bool y)) w):wpList P ops Q (o::rest) a w:=by
 refine wpList_plain hg fun K' YM=>?_
 obtain⟨v,ps,dS,hv⟩:=iV.lookup K ht hz (plainElem_bool he false) M2;rw[mY]at hv;have jY:v=.bool y:=by
  unfold plainElem at hv
  grind
 subst jY;unfold Oper.wp;simp[execOp,nD,hm,hx,dS,Result.andThen];exact YM _ _ hK
structure xt(D:DataW Unit)(l:List Bs):Prop where
 m:IsMap D
 at_:∀s:Bs,D.atKey (.string s) (.lit (.bool false))=.lit (.bool (decide (s∈l)))
theorem z7e:xt (.map []) []:=⟨isMap_empty,fun s=>by simp[DataW.atKey]⟩
theorem z7d{D:DataW Unit}{l:List Bs}(h:xt D l)(s:Bs)(hs:WideAt.IsKeyLit (.string s)):xt (D.put (.string s) (.lit (.bool true))) (l++[s]):=⟨h.m.put _ _,fun t=>by
 by_cases e:t=s
 ·subst e;rw[atKey_put_same h.m hs];simp
 ·have dN:(Lit.string t)≠(Lit.string s):=fun he=>e (by injection he)
  rw[atKey_put_other dN,h.at_];simp[e]⟩
theorem Tl{s:Bs}(h:s.length<=maxLen):keyOf Tryz.prog 9 (.string (bL s))=some (.string s):=by
 have:=xja (s:=bL s) h
 rwa[EP]at this
theorem Pj:∀{l:List Bs},l.Nodup->oU l=true
 |[],_=>rfl
 |x::l,h=>by
  rw[List.nodup_cons]at h;rw[oU,Pj h.2,fW];simpa using h.1
theorem Oc:∀{l:List Bs},oU l=true->l.Nodup
 |[],_=>List.nodup_nil
 |x::l,h=>by
  rw[oU,gK]at h;exact List.nodup_cons.2 ⟨by simpa using h.1,Oc h.2⟩
theorem xac{l:List Bs}{k:Nat}(hk:k<l.length)(h:l[k]∈l.take k):oU l=false:=by
 cases e:oU l with
 |false=>rfl
 |true=>
  exfalso
  have hn:=Oc e;obtain⟨i,hi,he⟩:=List.getElem_of_mem h;rw[uS]at hi;rw[List.getElem_take]at he;exact(List.pairwise_iff_getElem.1 hn) i k oM hk oM he
theorem Zt{l:List Bs}{x:Bs}(h:l.Nodup)(hx:¬x∈l):(l++[x]).Nodup:=by
 grind
theorem zua(b o n cap:Nat)(ss:List Bs)(w:World)(hz:ss.length=n)(hn:n<maxLen)(hb:b<w.heap.size)(dR:∀s∈ss,s.length<=maxLen)
  (h0:∀j,j<n->w.cell? ⟨b,o+j*5,none⟩=some (.int .i64 7)) (h1:∀j,j<n->w.cell? ⟨b,o+j*5+1,none⟩=some (.string (bL (ss.getD j []))))
  (h2:∀j,j<n->w.cell? ⟨b,o+j*5+2,none⟩=some (.int .i64 0)) (h3:∀j,j<n->w.cell? ⟨b,o+j*5+3,none⟩=some (.int .i64 0)) (h4:∀j,j<n->w.cell? ⟨b,o+j*5+4,none⟩=some (.slice none 0 0)):
  Calls Tryz.prog 95 #[.slice (some ⟨b,o,none⟩) n cap] w fun e w'=>e=.returned (.bool (oU ss))/\Below w.heap.size w w':=by
 have md:=@run_makeMap Tryz.prog
 go_enter Tryz.func95,Tryz.ntmps95
 go_wp2
 go_loopw [9] (fun i wr=>∃k:Nat,k<=n/\i=.int .i64 k/\(ss.take k).Nodup/\(∃D,xt D (ss.take k)/\wr.ownsMap Tryz.prog 9 (plainElem Tryz.prog 4) w.heap.size k D)/\Below w.heap.size w wr)
  (fun i _=>n-(intOf i).toNat)
 case atStart=>exact⟨0,aP _,rfl,by simp,⟨_,z7e,World.ownsMap_made _ _ _ _⟩,(Below.refl _ _).alloc (nR _) _⟩
 case round=>
  obtain⟨k,hk,rfl,fa,⟨D,hD,iV⟩,rQ⟩:=hrel;have c0:k<n->wr.cell? ⟨b,o+k*5,none⟩=some (.int .i64 7):=fun h=>(rQ.cell (by exact hb)).trans (h0 k h)
  have c1:k<n->wr.cell? ⟨b,o+k*5+1,none⟩=some (.string (bL (ss.getD k []))):=fun h=>(rQ.cell (by exact hb)).trans (h1 k h)
  have c2:k<n->wr.cell? ⟨b,o+k*5+2,none⟩=some (.int .i64 0):=fun h=>(rQ.cell (by exact hb)).trans (h2 k h)
  have c3:k<n->wr.cell? ⟨b,o+k*5+3,none⟩=some (.int .i64 0):=fun h=>(rQ.cell (by exact hb)).trans (h3 k h)
  have c4:k<n->wr.cell? ⟨b,o+k*5+4,none⟩=some (.slice none 0 0):=fun h=>(rQ.cell (by exact hb)).trans (h4 k h)
  have lQ:∀h:k<ss.length,(ss[k]).length<=maxLen:=fun h=>dR _ (oa _)
  go_wp2_with (first
   |(at_lookup;refine zo0 _ rfl _ _ 103 rfl 9 4 Td Tryz.underlying103 Tryz.underlying4 kR w.heap.size k D rfl (iV.alloc _) _ (.string ss[k]) rfl (Tl (lQ _)) (decide (ss[k]∈ss.take k)) (hD.at_ _) ?_)
   |(at_mapUpdate;refine wpList_mapUpdate_own _ rfl _ _ _ 103 rfl 9 4 Td Tryz.underlying103 (plainElem (H:=Unit) Tryz.prog 4) w.heap.size k D rfl (iV.alloc _) oM _ _ (.string ss[k]) rfl rfl (Tl (lQ _)) _ [] (plainElem_bool Tryz.underlying4 true) ?_;intro w1 WV HM)
   |go_in)
  ·have hm:ss[k]'oM∈List.take k ss:=jO
   have hf:oU ss=false:=xac oM hm
   go_ret
   exact⟨by rw[hf];rfl,rQ.alloc rQ.size _⟩
  ·have cQ:k<n:=jO
   have hm:¬ss[k]'oM∈List.take k ss:=jO
   have bf:List.take (k+1) ss=List.take k ss++[ss[k]'oM]:=by rw[kn,aB oM];rfl
   have hw:wrap64 ((k:Int)+1)=((k+1:Nat):Int):=by unfold maxLen at hn;unfold wrap64;omega
   refine⟨⟨k+1,cQ,by rw[hw],?_,⟨_,?_,WV⟩,?_⟩,?_⟩
   ·rw[bf];exact Zt fa hm
   ·rw[bf];exact z7d hD _ trivial
   ·exact(rQ.alloc rQ.size _).grown HM (by have:=rQ.size;simp;omega) (fun j hj=>by cases hj;exact nR _)
   ·rw[hw];simp[intOf];omega
  ·have D8:k=n:=eC
   subst D8;have hf:oU ss=true:=Pj (by rw[<-hz,lz]at fa;exact fa)
   go_ret
   exact⟨by rw[hf];rfl,rQ⟩
theorem zsg(a:Option Addr)(cap:Nat)(w:World):Calls Tryz.prog 95 #[.slice a 0 cap] w fun e w'=>e=.returned (.bool true)/\Below w.heap.size w w':=by
 have md:=@run_makeMap Tryz.prog
 go_wp2
 refine wp_loop_rounds 1 ?_;rw[rounds_succ]
 go_wp2
 go_ret
 exact⟨rfl,(Below.refl _ _).alloc (nR _) _⟩
theorem Og:∀(ps:List PT)(i:Nat),(eU ps)[i]?=ps[i]?.map gO
 |[],i=>by rw[eU];simp
 |p::ps,0=>by rfl
 |p::ps,i+1=>by rw[eU,cD,cD,Og ps i]
theorem zwn(ps:List PT)(hp:∀p∈ps,∃s:Bs,s.length<=1000000/\p=eD 7 s []){R:List (List PV)}(hR:eU ps=R)(hl:ps.length<=1000000):V0 95 [.ro 5 R] (pB (oU (oR ps))):=by
 subst hR;refine⟨Gv Tryz.func95 rfl rfl,fun w B args _ uH hr=>?_⟩
 match args,uH with
 |[v],_=>
  have h1:=hr 0 _ v rfl rfl;have sH:(oR ps).length=ps.length:=by unfold oR;rw[nk]
  have key:∀(e:Ending)(w':World),e=.returned (.bool (oU (oR ps)))/\Below w.heap.size w w'->Gr w w'/\pp w' (fun b=>B b\/w.heap.size<=b) (pB (oU (oR ps))) e:=fun e w' h=>⟨h.2,by rw[h.1];exact .ret (.v _)⟩
  have cS:∀i,i<ps.length->∃s:Bs,(oR ps).getD i []=s/\(eU ps)[i]?=some [pI 7,pS (bL s),pI 0,pI 0,.v (.slice none 0 0)]:=fun i hi=>by
   obtain⟨s,_,hs⟩:=hp _ (oa hi);refine⟨s,?_,?_⟩
   ·unfold oR;rw[List.getD,aI,aB hi,hs];rfl
   ·have:=Og ps i
    rw[this,aB hi,hs];rfl
  have dR:∀s∈oR ps,s.length<=maxLen:=fun s hs=>by
   obtain⟨p,WR,rfl⟩:=fT.1 hs;obtain⟨s,hs,rfl⟩:=hp p WR;show s.length<=maxLen;unfold maxLen;omega
  have r6:=wh ps;generalize eU ps=R at h1 cS r6
  cases h1 with
  |ro0 s A cap=>
   cases ps with
   |nil=>exact(zsg A cap w).mono key
   |cons p ps=>simp at r6
  |ro _ _ b o cap vs hR hb pQ hs hc gw=>
   have cell:∀j,j<ps.length->∃s:Bs,(oR ps).getD j []=s/\∀q (x:PV),[pI 7,pS (bL s),pI 0,pI 0,.v (.slice none 0 0)][q]?=some x->∀y,x=.v y->w.cell? ⟨b,o+(j*5+q),none⟩=some y:=fun j hj=>by
    obtain⟨s,h2,h3⟩:=cS j hj;refine⟨s,h2,fun q x hq y hy=>?_⟩
    have h4:=hc j q _ x h3 hq;have h5:=gw j q _ x h3 hq;subst hy
    cases h5
    exact h4.1
   rw[r6];refine(zua b o ps.length cap (oR ps) w sH (by unfold maxLen;omega) hb dR (fun j hj=>?_) (fun j hj=>?_) (fun j hj=>?_) (fun j hj=>?_) (fun j hj=>?_)).mono key
   ·obtain⟨s,h2,h3⟩:=cell j hj;exact h3 0 _ rfl _ rfl
   ·grind
   ·grind
   ·grind
   grind
def Ig:Option (List PT×Ts)->AV
 |none=>.p (.pan mN)
 |some ([],_)=>.p (.v (.slice none 0 0))
 |some (_::ks,_)=>.osl 1 0 (ks.length+1)
def Bk(toks:List Tk)(LR:List (List PV))(c:Cx):Option (List PT×Ts)->AH
 |none=>[none]
 |some ([],l)=>[aZ LR (((toks.length:Nat):Int)-((l.length:Nat):Int)) c]
 |some (k::ks,l)=>[aZ LR (((toks.length:Nat):Int)-((l.length:Nat):Int)) c,some (.rows 5 (eU (k::ks)) 25)]
theorem xd3{toks:List Tk}{LR:List (List PV)}{c:Cx}{acc:List PT}{x:PT}{R R2:List (List PV)}{row:List PV}{N N2:Nat}{l:Ts}(h:eU acc=R)(hN:R.length=N)(hx:gO x=row)(h2:R++[row]=R2)(fZ:N+1=N2):
  Ig (some (acc++[x],l))=.osl 1 0 N2/\Bk toks LR c (some (acc++[x],l))=[aZ LR (((toks.length:Nat):Int)-((l.length:Nat):Int)) c,some (.rows 5 R2 25)]:=by
 have e:eU (acc++[x])=R2:=by rw[pj,h,eU,eU,hx,h2]
 have el:(acc++[x]).length=N2:=by rw[sD,<- wh,h,hN];exact fZ
 cases hc:acc++[x]with
 |nil=>simp at hc
 |cons y ys=>
  rw[hc]at e el;exact⟨by rw[<-el];rfl,by show [_,some (cE.rows 5 (eU (y::ys)) _)]=_;rw[e]⟩
section
variable{n:Int}{toks:List Tk}{LR:List (List PV)}{a:Int}{l:Ts}
theorem bF.txz(h:bF n toks LR a l)(k:Nat):(tx l k).length<=1000000:=by
 unfold tx
 cases e:l[k]? with
 |none=>exact aP _
 |some t=>
  have hm:t∈toks:=by
   have:=aH e
   rw[<-h.d]at this
   grind
  exact h.tz t hm
theorem xd7(h:bF n toks LR a l)(c:Cx){o:Option (List PT×Ts)}(ho:xS l=some o):MP 58 [.own 0 0] [aZ LR a c] (Ig o) (Bk toks LR c o):=by
 unfold xS at ho;obtain⟨μ,hμ⟩:∃μ:Int×Ts×List PT×List (List PV)×Nat->Nat,∀x,μ x=x.2.1.length:=⟨_,fun _=>rfl⟩
 have hz:=h.z;have cn:l.length<=1000000:=FU
 obtain⟨rr,dH⟩:∃rr,Ig o=rr:=⟨_,rfl⟩
 obtain⟨HH,mE⟩:∃HH,Bk toks LR c o=HH:=⟨_,rfl⟩
 rw[dH,mE];refine iD aU (f:=58) Tryz.func58 rfl kR (oT kR) fun tags cC=>?_
 match tags,cC with
 |[t0],_=>
  refine aY.ofM aU mixed (fun _=>0) (fun _=>[]) (fun _ _=>0) kR (fun E=>fI E cO Tryz.f58.results.toList [t0] rr HH) fun P G E hc hM hE=>?_
  cbv;refine oE (mr h iS c ho) (fun k0=>xE k0 fun bk0 k0=>?_) (fun k0=>?_)
  case' refine_2=>
   refine .y hM (k0.2) ?_;cbv;have e0:=k0.1;subst e0;have e1:AV.p (.pan mN)=rr:=dH;have e2:[none]=HH:=mE;subst e1 e2;all_goals trivial
  refine .y hM (k0.2.2.2.2) ?_;cbv;refine oE (xO k0.1 eQ c k0.2.1) (fun k1=>xE k1 fun bk1 k1=>?_) (fun k1=>?_)
  case' refine_1=>
   refine .y hM (k1.2.2.2.2) ?_;cbv;have e0:=sC (k1.2.1);subst e0;have e1:AV.p (.v (.slice none 0 0))=rr:=dH;have e2:[aZ LR bk1 c]=HH:=by rw[<-mE];simp only[Bk,k1.1.place]
   subst e1 e2;all_goals trivial
  refine .y hM (k1.2.2) ?_;cbv;refine iU.wk (DL (d:=3) 5 25 rfl) ?_;refine gV 24 [0,3] 2 (fun x:Int×Ts×List PT×List (List PV)×Nat=>[.own 0 0,.osl 1 0 x.2.2.2.2]) (fun x=>[some (.box [.p (.ro 3 LR),.p (pI x.1),.p (pB c.fn),.p (pB c.lp),.p (pB c.gn),.p (pB c.as_)] 39 (some t0)),some (.rows 5 x.2.2.2.1 25)])
   (fun x=>bF n toks LR x.1 x.2.1/\(∃m,namesL m x.2.2.1 x.2.1=some o)/\x.2.2.2.2+x.2.1.length<=l.length/\(eU x.2.2.1=x.2.2.2.1/\∀p∈x.2.2.1,∃s:Bs,s.length<=1000000/\p=eD 7 s [])/\x.2.2.2.1.length=x.2.2.2.2) μ (bk0,List.drop 1 l,[],[],0) r5 ⟨k0.1,⟨_,k1.1⟩,by grind,⟨by rw[eU],fun p hp=>by cases hp⟩,rfl⟩ ?_
  rintro⟨a1,l1,acc,R,N⟩ ⟨g1,⟨m,g2⟩,g3,⟨g4,g6⟩,g5⟩
  simp only at g1 g2 g3 g4 g5 g6
  cases m with
  |zero=>cases g2
  |succ m=>
   rw[namesL]at g2;cbv;refine oE (IB g1 c g2) (fun k2=>xE k2 fun bk2 k2=>xE k2 fun Tk2 k2=>?_) (fun k2=>?_)
   case' refine_2=>
    refine .y hM (k2.2) ?_;cbv;have e0:=k2.1;subst e0;have e1:AV.p (.pan mN)=rr:=dH;have e2:[none]=HH:=mE;subst e1 e2;all_goals trivial
   refine .y hM (k2.2.2.2.2) ?_;have eT:=k2.2.2.2.1;refine xE (⟨_,rfl⟩:∃R2,R++[[pI 7,pS Tk2,pI 0,pI 0,.v (.slice none 0 0)]]=R2) fun R2 cW=>?_
   refine xE (⟨_,rfl⟩:∃N2,N+1=N2) fun N2 fZ=>?_
   have fA:=j4 hE g5 oM cW fZ
   have fA1:=fA.pre;have fA2:=fA.room;have fA3:=fA.add;have fA4:=fA.app;have fA5:=fA.pre2;have fA6:=fA.sub;have fA7:=fA.p1;have fA8:=fA.s1;cbv;refine mV ?_;have cS:gO (eD 7 (tx l1 0) [])=[pI 7,pS Tk2,pI 0,pI 0,.v (.slice none 0 0)]:=by rw[eD,gO,eT,mM]
   have g7:∀p∈acc++[eD 7 (tx l1 0) []],∃s:Bs,s.length<=1000000/\p=eD 7 s []:=fun p hp=>by
    rcases kX.1 hp with hp|hp
    ·exact g6 p hp
    ·exact⟨_,g1.txz 0,eV.1 hp⟩
   have qX:eU (acc++[eD 7 (tx l1 0) []])=R2:=by rw[pj,g4,eU,eU,cS,cW]
   refine oE (xO k2.1 eQ c k2.2.1) (fun k3=>xE k3 fun bk3 k3=>?_) (fun k3=>?_)
   case' refine_1=>
    refine .y hM (k3.2.2.2.2) ?_;have nV:=zwn (acc++[eD 7 (tx l1 0) []]) g7 qX (by rw[<-wh,qX,<- cW,sD,g5];grind)
    cbv;simp only[fA6];cbv;refine oE (kt k3.2.1) (fun k4=>?_) (fun k4=>?_)
    case' refine_1=>
     rw[k4.1]at nV;refine .inl ⟨fA5,_,hc _ _ _ (nK nV),?_⟩;have e0:=sC k4.2;subst e0;have hK:=xd3 (toks:=toks) (LR:=LR) (c:=c) (l:=List.drop 1 (List.drop 1 l1)) g4 g5 cS cW fZ;have e1:AV.osl 1 0 N2=rr:=by rw[<-dH,hK.1]
     have e2:[aZ LR bk3 c,some (.rows 5 R2 25)]=HH:=by rw[<-mE,hK.2,k3.1.place]
     subst e1 e2;cbv;all_goals trivial
    rw[show oU (oR (acc++[eD 7 (tx l1 0) []]))=false by simpa using k4.1]at nV
    refine .inl ⟨fA5,_,hc _ _ _ (nK nV),?_⟩;cbv;refine .y hM (wB (vo LR bk3 c)) ?_;cbv;have e0:=zj k4.2;subst e0;have e1:AV.p (.pan mN)=rr:=dH;have e2:[none]=HH:=mE;subst e1 e2;all_goals trivial
   refine .y hM (k3.2.2) ?_;cbv;refine oE (mr k2.1 sY c k3.1) (fun k4=>xE k4 fun bk4 k4=>?_) (fun k4=>?_)
   case' refine_2=>
    refine .y hM (k4.2) ?_;cbv;have e0:=k4.1;subst e0;have e1:AV.p (.pan mN)=rr:=dH;have e2:[none]=HH:=mE;subst e1 e2;all_goals trivial
   refine .y hM (k4.2.2.2.2) ?_;cbv;exact .mk (bk4,List.drop 1 (List.drop 1 l1),acc++[eD 7 (tx l1 0) []],R2,N2) r5 ⟨k4.1,⟨m,k4.2.1⟩,by grind,⟨qX,g7⟩,by grind⟩ aX
end
section
variable{n:Int}{toks:List Tk}{LR:List (List PV)}{l:Ts}
theorem P7:∀(m:Nat)(acc:List PT)(l:Ts){ps:List PT}{l':Ts},namesL m acc l=some (some (ps,l'))->ps.length+l'.length<=acc.length+l.length
 |0,_,_,_,_,h=>by cases h
 |m+1,acc,l,ps,l',h=>by
  rw[namesL]at h;unfold rC at h
  split at h
  ·rename_i hk;have hp:=lO hk aN
   simp only at h
   split at h
   ·split at h
    ·cases h
     grind
    ·cases h
   ·unfold fV at h
    split at h
    ·have:=P7 m _ _ h
     grind
    ·cases h
  ·cases h
theorem Zs{l:Ts}{ps:List PT}{l':Ts}(h:xS l=some (some (ps,l'))):ps.length+l'.length<=l.length:=by
 unfold xS fV at h
 split at h
 ·simp only at h
  split at h
  ·cases h
   grind
  ·have:=P7 _ _ _ h
   grind
 ·cases h
theorem Tg{a:Int}{β:Type}{o:Option (β×Ts)}(h:bF n toks LR a l)(c:Cx){K:List PT->Ts->Re β}(ho:bnd (xS l) K=some o):
  (∃l' b,bF n toks LR b l'/\K [] l'=some o/\l'.length<l.length/\MP 58 [.own 0 0] [aZ LR a c] (.p (.v (.slice none 0 0))) [aZ LR b c]) ∨
   (∃p ps l' b R N,bF n toks LR b l'/\K (p::ps) l'=some o/\l'.length<l.length/\eU (p::ps)=R/\R.length=N/\N<=1000000/\MP 58 [.own 0 0] [aZ LR a c] (.osl 1 0 N) [aZ LR b c,some (.rows 5 R 25)]) ∨
   (o=none/\MP 58 [.own 0 0] [aZ LR a c] (.p (.pan mN)) [none]):=by
 obtain⟨o',MN,hP⟩:=Gi l;have hm:=xd7 h c MN;rw[MN]at ho
 cases o' with
 |none=>cases ho;exact .inr (.inr ⟨rfl,hm⟩)
 |some q=>
  obtain⟨ps,l'⟩:=q;have h1:=hP ps l' rfl
  cases ps with
  |nil=>exact .inl ⟨l',_,h.suf h1.1,ho,h1.2,hm⟩
  |cons p ps=>
   refine .inr (.inl ⟨p,ps,l',_,_,_,h.suf h1.1,ho,h1.2,rfl,rfl,?_,?_⟩)
   ·have:=Zs MN
    have h2:=h.h1;have h3:=h.z;have h4:=h.h0;rw[wh];omega
   ·rw[wh];exact hm
def FC(o:Int)(nm:Bs)(l3:Ts):Re Rv:=bnd (xS l3) fun ps l4=>ndR (ev (.block (pE o) l4)) fun b l5=>bY (.nd (.mk 11 nm 0 o (ps++[b]))) l5
def FD(d:Bool)(o:Int)(l2:Ts):Re Rv:=if d||decide (kd l2 0=1)then rC l2 (FC o)else FC o [] l2
theorem TM{d:Bool}{c:Cx}{l:Ts}:ao ev d c l=if aM l 0 jI then fV uN (l.drop 1) (fun l1=>FD d 4 l1)else fV uN l fun l1=>if aM l1 0 u9 then FD d 3 (l1.drop 1)else FD d 1 l1:=by
 unfold ao
 cases aM l 0 jI with
 |true=>rfl
 |false=>
  show(if aM l 0 uN=true then _ else _)=(if aM l 0 uN=true then _ else _)
  split
  ·simp only[aK,bN]
   cases aM (List.drop 1 l) 0 u9<;>rfl
  ·rfl
theorem xfp(d:Bool):d=true\/d=false:=by cases d<;>simp
theorem Ja(o:Int)(l2:Ts):FD true o l2=rC l2 (FC o):=rfl
theorem J9(o:Int)(l2:Ts):FD false o l2=if kd l2 0=1 then rC l2 (FC o)else FC o [] l2:=by unfold FD;simp
theorem z5g{c:Cx}{d:Bool}(ih:∀s':Sy,s'.meas<(Sy.func d c l).meas->iI n toks LR s'):iI n toks LR (.func d c l):=by
 intro f hf a h o ho
 cases hf
 rw[mU]at ho;change ao ev d c l=some o at ho;unfold ao at ho;change bF n toks LR a l at h;show MP _ (.own 0 0::[.p (pB d)]) [aZ LR a c] (iO o) (iG toks LR c o);have XV:ao ev d c l=_:=TM;unfold ao at XV;rw[XV]at ho;refine iD aU (f:=35) Tryz.func35 rfl kR (oT kR) fun tags cC=>?_
 match tags,cC with
 |[t0],_=>
  refine aY.cutKM 5 56 [0,1,4,5] 3 (fun x:Int×Ts×Int=>[.own 0 0,.p (pB d),.own 1 0,.own 2 0]) (fun x=>[some (.box [.p (.ro 3 LR),.p (pI x.1),.p (pB c.fn),.p (pB c.lp),.p (pB c.gn),.p (pB c.as_)] 39 (some t0)),some (.box [.p (pI 0),.p (pS ⟨#[]⟩),.p (pI 0),.p (pI 0),.p (.v (.slice none 0 0))] 25 none),some (.box [.p (pI 11),.p (pS ⟨#[]⟩),.p (pI 0),.p (pI (x.2.2)),.p (.v (.slice none 0 0))] 25 none)]) (fun x=>bF n toks LR x.1 x.2.1/\FD d x.2.2 x.2.1=some o/\x.2.1.length<l.length) aU mixed (fun _=>0) (fun _=>[]) (fun _ _=>0) (fun E=>fI E cO Tryz.f35.results.toList [t0] (iO o) (iG toks LR c o)) kR (fun P G E hc hM hE=>?_) ?_
  case' refine_1=>
   have fO:=iQ hE;have sb1:=fO.s1;have sb2:=fO.s2;have sb3:=fO.s3;have ap2:=fO.a2;have ap3:=fO.a3;have an2:=fO.n2;have an3:=fO.n3;have rm:=fun k m b h1 h2=>fO.room k m b h1 h2
   have pr:=fun k rs h=>fO.pre k rs h
   cbv;refine oE (xO h jI c ho) (fun k1=>xE k1 fun bk1 k1=>?_) (fun k1=>?_)
   case' refine_1=>
    refine .y hM (k1.2.2.2.2) ?_;cbv;refine oE (mr k1.1 uN c k1.2.1) (fun k2=>xE k2 fun bk2 k2=>?_) (fun k2=>?_)
    case' refine_2=>
     refine .y hM (k2.2) ?_;cbv;have e0:=k2.1;subst e0;all_goals trivial
    refine .y hM (k2.2.2.2.2) ?_;cbv;exact .mk ((bk2,((l.drop 1).drop 1),4)) r5 (⟨k2.1,k2.2.1,qM k2.2.2.1 k1.2.2.1⟩)
   refine .y hM (k1.2.2) ?_;cbv;refine oE (mr h uN c k1.1) (fun k3=>xE k3 fun bk3 k3=>?_) (fun k3=>?_)
   case' refine_2=>
    refine .y hM (k3.2) ?_;cbv;have e0:=k3.1;subst e0;all_goals trivial
   refine .y hM (k3.2.2.2.2) ?_;cbv;refine oE (xO k3.1 u9 c k3.2.1) (fun k4=>xE k4 fun bk4 k4=>?_) (fun k4=>?_)
   case' refine_1=>
    refine .y hM (k4.2.2.2.2) ?_;cbv;exact .mk ((bk4,((l.drop 1).drop 1),3)) r5 (⟨k4.1,k4.2.1,qM k4.2.2.1 k3.2.2.1⟩)
   refine .y hM (k4.2.2) ?_;cbv;exact .mk ((bk3,(l.drop 1),1)) r5 (⟨k3.1,k4.1,k3.2.2.1⟩)
  rintro⟨a0,l0,oo⟩ ⟨h0,bg,mX⟩
  simp only at h0 bg mX;refine aY.cutKM 1 56 [0,4,5] 3 (fun x:Int×Ts×Bs×ByteArray=>[.own 0 0,.own 1 0,.own 2 0]) (fun x=>[some (.box [.p (.ro 3 LR),.p (pI x.1),.p (pB c.fn),.p (pB c.lp),.p (pB c.gn),.p (pB c.as_)] 39 (some t0)),some (.box [.p (pI 0),.p (pS ⟨#[]⟩),.p (pI 0),.p (pI 0),.p (.v (.slice none 0 0))] 25 none),some (.box [.p (pI 11),.p (pS x.2.2.2),.p (pI 0),.p (pI (oo)),.p (.v (.slice none 0 0))] 25 none)]) (fun x=>bF n toks LR x.1 x.2.1/\FC oo x.2.2.1 x.2.1=some o/\x.2.1.length<=l0.length/\bL x.2.2.1=x.2.2.2) aU mixed (fun _=>0) (fun _=>[]) (fun _ _=>0) (fun E=>fI E cO Tryz.f35.results.toList [t0] (iO o) (iG toks LR c o)) kR (fun P G E hc hM hE=>?_) ?_
  case' refine_1=>
   have fO:=iQ hE;have sb1:=fO.s1;have sb2:=fO.s2;have sb3:=fO.s3;have ap2:=fO.a2;have ap3:=fO.a3;have an2:=fO.n2;have an3:=fO.n3;have rm:=fun k m b h1 h2=>fO.room k m b h1 h2
   have pr:=fun k rs h=>fO.pre k rs h
   cbv;simp only[sb1,sb2,sb3];cbv;refine oE (xfp d) (fun e=>?_) (fun e=>?_)
   case' refine_1=>
    subst e;cbv;have Yt:=bg;rw[Ja]at Yt;refine oE (IB h0 c Yt) (fun k6=>xE k6 fun bk6 k6=>xE k6 fun Tk6 k6=>?_) (fun k6=>?_)
    case' refine_2=>
     refine .y hM (k6.2) ?_;cbv;have e0:=k6.1;subst e0;all_goals trivial
    refine .y hM (k6.2.2.2.2) ?_;cbv;exact .mk ((bk6,(l0.drop 1),tx l0 0,_)) r5 (⟨k6.1,k6.2.1,dD k6.2.2.1,k6.2.2.2.1⟩)
   subst e;cbv;have Ys:=bg;rw[J9]at Ys;refine xE (B3 h0 0 aN c) fun Kk8 k8=>xE k8 fun Tk8 k8=>xE k8 fun zk8 k8=>?_
   refine .y hM (k8.2.2) ?_;cbv;refine oE (kt (Ys)) (fun k9=>?_) (fun k9=>?_)
   case' refine_1=>
    have ek9:decide (Kk8=1)=true:=aX
    cbv;simp only[ek9];cbv;refine oE (IB h0 c k9.2) (fun k10=>xE k10 fun bk10 k10=>xE k10 fun Tk10 k10=>?_) (fun k10=>?_)
    case' refine_2=>
     refine .y hM (k10.2) ?_;cbv;have e0:=k10.1;subst e0;all_goals trivial
    refine .y hM (k10.2.2.2.2) ?_;cbv;exact .mk ((bk10,(l0.drop 1),tx l0 0,_)) r5 (⟨k10.1,k10.2.1,dD k10.2.2.1,k10.2.2.2.1⟩)
   have ek9:decide (Kk8=1)=false:=aX
   cbv;simp only[ek9];cbv;exact .mk ((a0,l0,[],_)) r5 (⟨h0,k9.2,nR _,rfl⟩)
  rintro⟨a1,l1,nm,TT⟩ ⟨h1,wI,kH,MO⟩
  simp only at h1 wI kH MO;unfold FC at wI;obtain⟨c2,CB⟩:∃c2,pE oo=c2:=⟨_,rfl⟩
  rw[CB]at wI;have hw:=nK (Fg oo);rw[CB]at hw;refine aY.ofM aU mixed (fun n=>match n with|12=>5|_=>0) (fun n=>match n with|12=>[3]|_=>[]) (fun n i=>match n,i with|12,3=>1|12,4=>1|_,_=>0) kR (fun E=>fI E cO Tryz.f35.results.toList [t0] (iO o) (iG toks LR c o)) fun P G E hc hM hE=>?_
  have fO:=iQ hE;have sb1:=fO.s1;have sb2:=fO.s2;have sb3:=fO.s3;have ap2:=fO.a2;have ap3:=fO.a3;have an2:=fO.n2;have an3:=fO.n3;have rm:=fun k m b h1 h2=>fO.room k m b h1 h2
  have pr:=fun k rs h=>fO.pre k rs h
  cbv;refine oE (Tg h1 c (wI)) (fun k11=>xE k11 fun lk11 k11=>xE k11 fun bk11 k11=>?_) (fun k11=>oE k11 (fun k11=>xE k11 fun pk11 k11=>xE k11 fun psk11 k11=>xE k11 fun lk11 k11=>xE k11 fun bk11 k11=>xE k11 fun Rk11 k11=>xE k11 fun Nk11 k11=>?_) (fun k11=>?_))
  case' refine_3=>
   refine .y hM (k11.2) ?_;cbv;have e0:=k11.1;subst e0;all_goals trivial
  case' refine_1=>
   refine .y hM (k11.2.2.2) ?_;cbv;simp only[sb1,sb2,sb3];cbv;refine⟨_,hc _ _ _ hw,?_⟩;cbv;refine oE (yM (L:=lk11) (c:=c2) (ih (.block c2 lk11) xT) rfl rfl rfl rfl rfl rfl k11.1 k11.2.1) (fun k12=>xE k12 fun xk12 k12=>xE k12 fun lk12 k12=>xE k12 fun bk12 k12=>xE k12 fun q1k12 k12=>xE k12 fun q2k12 k12=>xE k12 fun q3k12 k12=>xE k12 fun q4k12 k12=>xE k12 fun q5k12 k12=>?_) (fun k12=>?_)
   case' refine_2=>
    refine Or.inr ?_;refine .mk [0] _ _ _ _ (hM _ _ _ _ _ (k12.2)) rfl rfl rfl _ rfl ?_;cbv;have e0:=k12.1;subst e0;all_goals trivial
   refine Or.inl ?_;refine⟨.mk trivial,?_⟩;refine .mk [0] _ _ _ _ (hM _ _ _ _ _ (k12.2.2.2.2)) rfl rfl rfl rfl ?_;cbv;have ok12:=k12.2.2.2.1.one;cbv at ok12;cbv;simp only[ok12];cbv;refine⟨.mk wC,?_⟩
   cbv;refine⟨(rm _ _ _ aN aN),?_⟩;cbv
   have e0:=sC (k12.2.1);subst e0;simp only[k12.1.place,nd,eD,gC,gO,mM,eU,qD,tB,MO,k12.2.2.2.1.row];cbv
   grind
  refine .y hM (k11.2.2.2.2.2.2) ?_;cbv;simp only[sb1,sb2,sb3];cbv;refine⟨_,hc _ _ _ hw,?_⟩;cbv;refine oE (yM (L:=lk11) (c:=c2) (ih (.block c2 lk11) xT) rfl rfl rfl rfl rfl rfl k11.1 k11.2.1) (fun k13=>xE k13 fun xk13 k13=>xE k13 fun lk13 k13=>xE k13 fun bk13 k13=>xE k13 fun q1k13 k13=>xE k13 fun q2k13 k13=>xE k13 fun q3k13 k13=>xE k13 fun q4k13 k13=>xE k13 fun q5k13 k13=>?_) (fun k13=>?_)
  case' refine_2=>
   refine Or.inr ?_;refine .mk [0] _ _ _ _ (hM _ _ _ _ _ (k13.2)) rfl rfl rfl _ rfl ?_;cbv;have e0:=k13.1;subst e0;all_goals trivial
  refine Or.inl ?_;refine⟨.mk trivial,?_⟩;refine .mk [0] _ _ _ _ (hM _ _ _ _ _ (k13.2.2.2.2)) rfl rfl rfl rfl ?_;cbv;have ok13:=k13.2.2.2.1.one;cbv at ok13;refine xE (⟨_,rfl⟩:∃R2,Rk11++[[pI q1k13,pS q4k13,pI q2k13,pI q3k13,q5k13]]=R2) fun R2 cW=>?_
  refine xE (⟨_,rfl⟩:∃N2,Nk11+1=N2) fun N2 fZ=>?_
  have fA:=j4 hE (k11.2.2.2.2.1) (aR (k11.2.2.2.2.2.1) aN) cW fZ
  have fA1:=fA.pre;have fA2:=fA.room;have fA3:=fA.add;have fA4:=fA.app;have fA5:=fA.pre2;have fA6:=fA.sub;have fA7:=fA.p1;have fA8:=fA.s1;cbv;simp only[ok13];cbv;refine⟨.mk wC,?_⟩
  cbv;refine mV ?_;have e0:=sC (k13.2.1);subst e0;have cS:gO (xk13)=[pI q1k13,pS q4k13,pI q2k13,pI q3k13,q5k13]:=by(simp only[nd,eD,gC,gO,mM,eU,MO,k13.2.2.2.1.row])<;>rfl
  have hK:=DY (k11.2.2.2.1) cS cW;simp only[nd,eD,gC,qD]at hK;simp only[k13.1.place,nd,eD,gC,gO,hK,qD,tB,MO,k13.2.2.2.1.row];cbv
  grind
end
section
variable{n:Int}{toks:List Tk}{LR:List (List PV)}{l:Ts}
def Bm(o:Int)(ps:List PT)(l1:Ts):Re Rv:=fV pD l1 fun l2=>if aM l2 0 nN then ndR (ev (.block (pE o) l2)) fun b l3=>bY (.nd (gC 11 o (ps++[b]))) l3 else ndR (ev (.assign (pE o) l2)) fun n l3=>bY (.nd (gC 11 o (ps++[nd 27 [nd 32 [n]]]))) l3
def Bn(o:Int)(l0:Ts):Re Rv:=if aM l0 0 iS then bnd (xS l0) (Bm o)else rC l0 fun s l1=>Bm o [eD 7 s []] l1
theorem UK{c:Cx}{l:Ts}:fw ev c l=if aM l 0 jI then Bn 5 (l.drop 1)else Bn 2 l:=by
 unfold fw
 cases aM l 0 jI with
 |true=>rfl
 |false=>rfl
theorem Ic{s:Bs}{T:ByteArray}(h:bL s=T):eU [eD 7 s []]=[[pI 7,pS T,pI 0,pI 0,.v (.slice none 0 0)]]:=by subst h;rfl
theorem z05{c:Cx}(ih:∀s':Sy,s'.meas<(Sy.arrow c l).meas->iI n toks LR s'):iI n toks LR (.arrow c l):=by
 intro f hf a h o ho
 cases hf
 rw[mU]at ho;change fw ev c l=some o at ho;unfold fw at ho;change bF n toks LR a l at h;show MP _ (.own 0 0::[]) [aZ LR a c] (iO o) (iG toks LR c o);have XV:fw ev c l=_:=UK;unfold fw at XV;rw[XV]at ho;refine iD aU (f:=51) Tryz.func51 rfl kR (oT kR) fun tags cC=>?_
 match tags,cC with
 |[t0],_=>
  refine aY.cutKM 3 56 [0,2,3] 3 (fun x:Int×Ts×Int=>[.own 0 0,.own 1 0,.own 2 0]) (fun x=>[some (.box [.p (.ro 3 LR),.p (pI x.1),.p (pB c.fn),.p (pB c.lp),.p (pB c.gn),.p (pB c.as_)] 39 (some t0)),some (.box [.p (pI 0),.p (pS ⟨#[]⟩),.p (pI 0),.p (pI 0),.p (.v (.slice none 0 0))] 25 none),some (.box [.p (pI 11),.p (pS ⟨#[]⟩),.p (pI 0),.p (pI (x.2.2)),.p (.v (.slice none 0 0))] 25 none)]) (fun x=>bF n toks LR x.1 x.2.1/\Bn x.2.2 x.2.1=some o/\x.2.1.length<=l.length) aU mixed (fun _=>0) (fun _=>[]) (fun _ _=>0) (fun E=>fI E cO Tryz.f51.results.toList [t0] (iO o) (iG toks LR c o)) kR (fun P G E hc hM hE=>?_) ?_
  case' refine_1=>
   have fO:=iQ hE;have sb1:=fO.s1;have sb2:=fO.s2;have sb3:=fO.s3;have ap2:=fO.a2;have ap3:=fO.a3;have an2:=fO.n2;have an3:=fO.n3;have rm:=fun k m b h1 h2=>fO.room k m b h1 h2
   have pr:=fun k rs h=>fO.pre k rs h
   cbv;refine oE (xO h jI c ho) (fun k1=>xE k1 fun bk1 k1=>?_) (fun k1=>?_)
   case' refine_1=>
    refine .y hM (k1.2.2.2.2) ?_;cbv;exact .mk ((bk1,(l.drop 1),5)) r5 (⟨k1.1,k1.2.1,dD k1.2.2.1⟩)
   refine .y hM (k1.2.2) ?_;cbv;exact .mk ((a,l,2)) r5 (⟨h,k1.1,nR _⟩)
  rintro⟨a0,l0,oo⟩ ⟨h0,bg,mX⟩
  simp only at h0 bg mX;unfold Bn at bg;refine aY.cutKM 1 56 [0,2,3] 4 (fun x:Int×Ts×List PT×List (List PV)×Nat=>[.own 0 0,.own 1 0,.own 2 0]) (fun x=>match x.2.2.1 with
    |[]=>[some (.box [.p (.ro 3 LR),.p (pI x.1),.p (pB c.fn),.p (pB c.lp),.p (pB c.gn),.p (pB c.as_)] 39 (some t0)),some (.box [.p (pI 0),.p (pS ⟨#[]⟩),.p (pI 0),.p (pI 0),.p (.v (.slice none 0 0))] 25 none),some (.box [.p (pI 11),.p (pS ⟨#[]⟩),.p (pI 0),.p (pI (oo)),.p (.v (.slice none 0 0))] 25 none)]
    |_::_=>[some (.box [.p (.ro 3 LR),.p (pI x.1),.p (pB c.fn),.p (pB c.lp),.p (pB c.gn),.p (pB c.as_)] 39 (some t0)),some (.box [.p (pI 0),.p (pS ⟨#[]⟩),.p (pI 0),.p (pI 0),.p (.v (.slice none 0 0))] 25 none),some (.box [.p (pI 11),.p (pS ⟨#[]⟩),.p (pI 0),.p (pI (oo)),.osl 3 0 x.2.2.2.2] 25 none),some (.rows 5 x.2.2.2.1 25)]) (fun x=>bF n toks LR x.1 x.2.1/\Bm oo x.2.2.1 x.2.1=some o/\x.2.1.length<l0.length/\eU x.2.2.1=x.2.2.2.1/\x.2.2.2.1.length=x.2.2.2.2/\x.2.2.2.2<=1000000) aU mixed (fun _=>0) (fun _=>[]) (fun _ _=>0) (fun E=>fI E cO Tryz.f51.results.toList [t0] (iO o) (iG toks LR c o)) kR (fun P G E hc hM hE=>?_) ?_
  case' refine_1=>
   have fO:=iQ hE;have sb1:=fO.s1;have sb2:=fO.s2;have sb3:=fO.s3;have ap2:=fO.a2;have ap3:=fO.a3;have an2:=fO.n2;have an3:=fO.n3;have rm:=fun k m b h1 h2=>fO.room k m b h1 h2
   have pr:=fun k rs h=>fO.pre k rs h
   cbv;refine oE (TC h0 0 aN iS c bg) (fun k2=>?_) (fun k2=>?_)
   case' refine_1=>
    refine .y hM (k2.2.2.2) ?_;cbv;refine oE (Tg h0 c (k2.1)) (fun k3=>xE k3 fun lk3 k3=>xE k3 fun bk3 k3=>?_) (fun k3=>oE k3 (fun k3=>xE k3 fun pk3 k3=>xE k3 fun psk3 k3=>xE k3 fun lk3 k3=>xE k3 fun bk3 k3=>xE k3 fun Rk3 k3=>xE k3 fun Nk3 k3=>?_) (fun k3=>?_))
    case' refine_3=>
     refine .y hM (k3.2) ?_;cbv;have e0:=k3.1;subst e0;all_goals trivial
    case' refine_1=>
     refine .y hM (k3.2.2.2) ?_;cbv;exact .mk ((bk3,lk3,[],[],0)) r5 (⟨k3.1,k3.2.1,k3.2.2.1,by rw[eU],rfl,aP _⟩)
    refine .y hM (k3.2.2.2.2.2.2) ?_;cbv;exact .mk ((bk3,lk3,pk3::psk3,Rk3,Nk3)) r5 (⟨k3.1,k3.2.1,k3.2.2.1,k3.2.2.2.1,k3.2.2.2.2.1,k3.2.2.2.2.2.1⟩)
   refine .y hM (k2.2.2) ?_;cbv;refine oE (IB h0 c k2.1) (fun k4=>xE k4 fun bk4 k4=>xE k4 fun Tk4 k4=>?_) (fun k4=>?_)
   case' refine_2=>
    refine .y hM (k4.2) ?_;cbv;have e0:=k4.1;subst e0;all_goals trivial
   refine .y hM (k4.2.2.2.2) ?_;cbv;exact .mk ((bk4,(l0.drop 1),[eD 7 (tx l0 0) []],_,1)) r5 (⟨k4.1,k4.2.1,k4.2.2.1,Ic k4.2.2.2.1,rfl,(by decide:1<=1000000)⟩)
  rintro⟨a1,l1,ps,R,N⟩ ⟨h1,wI,kH,hR,hN,hz⟩
  simp only at h1 wI kH hR hN hz;unfold Bm at wI;obtain⟨c2,CB⟩:∃c2,pE oo=c2:=⟨_,rfl⟩
  rw[CB]at wI;have hw:=nK (Fg oo);rw[CB]at hw
  cases ps with
  |nil=>
   refine aY.ofM aU mixed (fun n=>match n with|11=>5|12=>9|_=>0) (fun n=>match n with|11=>[3]|12=>[3]|_=>[]) (fun n i=>match n,i with|11,3=>1|11,4=>1|12,3=>1|12,4=>1|12,5=>1|12,6=>1|12,7=>1|12,8=>1|_,_=>0) kR (fun E=>fI E cO Tryz.f51.results.toList [t0] (iO o) (iG toks LR c o)) fun P G E hc hM hE=>?_
   have fO:=iQ hE;have sb1:=fO.s1;have sb2:=fO.s2;have sb3:=fO.s3;have ap2:=fO.a2;have ap3:=fO.a3;have an2:=fO.n2;have an3:=fO.n3;have rm:=fun k m b h1 h2=>fO.room k m b h1 h2
   have pr:=fun k rs h=>fO.pre k rs h
   cbv;refine oE (mr h1 pD c wI) (fun k5=>xE k5 fun bk5 k5=>?_) (fun k5=>?_)
   case' refine_2=>
    refine .y hM (k5.2) ?_;cbv;have e0:=k5.1;subst e0;all_goals trivial
   refine .y hM (k5.2.2.2.2) ?_;cbv;simp only[sb1,sb2,sb3];cbv;refine⟨_,hc _ _ _ hw,?_⟩;cbv;refine oE (TC k5.1 0 aN nN c2 k5.2.1) (fun k6=>?_) (fun k6=>?_)
   case' refine_1=>
    refine .y hM (k6.2.2.2) ?_;cbv;refine oE (yM (L:=(l1.drop 1)) (c:=c2) (ih (.block c2 (l1.drop 1)) xT) rfl rfl rfl rfl rfl rfl k5.1 k6.1) (fun k7=>xE k7 fun xk7 k7=>xE k7 fun lk7 k7=>xE k7 fun bk7 k7=>xE k7 fun q1k7 k7=>xE k7 fun q2k7 k7=>xE k7 fun q3k7 k7=>xE k7 fun q4k7 k7=>xE k7 fun q5k7 k7=>?_) (fun k7=>?_)
    case' refine_2=>
     refine Or.inr ?_;refine .mk [0] _ _ _ _ (hM _ _ _ _ _ (k7.2)) rfl rfl rfl _ rfl ?_;cbv;have e0:=k7.1;subst e0;all_goals trivial
    refine Or.inl ?_;refine⟨.mk trivial,?_⟩;refine .mk [0] _ _ _ _ (hM _ _ _ _ _ (k7.2.2.2.2)) rfl rfl rfl rfl ?_;cbv;have ok7:=k7.2.2.2.1.one;cbv at ok7;cbv;simp only[ok7];cbv;refine⟨.mk wC,?_⟩
    cbv;refine⟨(rm _ _ _ aN aN),?_⟩;cbv
    have e0:=sC (k7.2.1);subst e0;simp only[k7.1.place,nd,eD,gC,gO,mM,eU,qD,tB,k7.2.2.2.1.row];cbv
    grind
   refine .y hM (k6.2.2) ?_;cbv;refine oE (yM (L:=(l1.drop 1)) (c:=c2) (ih (.assign c2 (l1.drop 1)) xT) rfl rfl rfl rfl rfl rfl k5.1 k6.1) (fun k8=>xE k8 fun xk8 k8=>xE k8 fun lk8 k8=>xE k8 fun bk8 k8=>xE k8 fun q1k8 k8=>xE k8 fun q2k8 k8=>xE k8 fun q3k8 k8=>xE k8 fun q4k8 k8=>xE k8 fun q5k8 k8=>?_) (fun k8=>?_)
   case' refine_2=>
    refine Or.inr ?_;refine .mk [0] _ _ _ _ (hM _ _ _ _ _ (k8.2)) rfl rfl rfl _ rfl ?_;cbv;have e0:=k8.1;subst e0;all_goals trivial
   refine Or.inl ?_;refine⟨.mk trivial,?_⟩;refine .mk [0] _ _ _ _ (hM _ _ _ _ _ (k8.2.2.2.2)) rfl rfl rfl rfl ?_;cbv;have ok8:=k8.2.2.2.1.one;cbv at ok8;cbv;simp only[ok8];cbv;refine⟨.mk wC,?_⟩
   cbv;refine⟨(rm _ _ _ aN aN),?_⟩;cbv
   have e0:=sC (k8.2.1);subst e0;simp only[k8.1.place,nd,eD,gC,gO,mM,eU,qD,tB,k8.2.2.2.1.row];cbv
   grind
  |cons p ps=>
   refine aY.ofM aU mixed (fun n=>match n with|11=>5|12=>9|_=>0) (fun n=>match n with|11=>[3]|12=>[3]|_=>[]) (fun n i=>match n,i with|11,3=>1|11,4=>1|12,3=>1|12,4=>1|12,5=>1|12,6=>1|12,7=>1|12,8=>1|_,_=>0) kR (fun E=>fI E cO Tryz.f51.results.toList [t0] (iO o) (iG toks LR c o)) fun P G E hc hM hE=>?_
   have fO:=iQ hE;have sb1:=fO.s1;have sb2:=fO.s2;have sb3:=fO.s3;have ap2:=fO.a2;have ap3:=fO.a3;have an2:=fO.n2;have an3:=fO.n3;have rm:=fun k m b h1 h2=>fO.room k m b h1 h2
   have pr:=fun k rs h=>fO.pre k rs h
   cbv;refine oE (mr h1 pD c wI) (fun k9=>xE k9 fun bk9 k9=>?_) (fun k9=>?_)
   case' refine_2=>
    refine .y hM (k9.2) ?_;cbv;have e0:=k9.1;subst e0;all_goals trivial
   refine .y hM (k9.2.2.2.2) ?_;cbv;simp only[sb1,sb2,sb3];cbv;refine⟨_,hc _ _ _ hw,?_⟩;cbv;refine oE (TC k9.1 0 aN nN c2 k9.2.1) (fun k10=>?_) (fun k10=>?_)
   case' refine_1=>
    refine .y hM (k10.2.2.2) ?_;cbv;refine oE (yM (L:=(l1.drop 1)) (c:=c2) (ih (.block c2 (l1.drop 1)) xT) rfl rfl rfl rfl rfl rfl k9.1 k10.1) (fun k11=>xE k11 fun xk11 k11=>xE k11 fun lk11 k11=>xE k11 fun bk11 k11=>xE k11 fun q1k11 k11=>xE k11 fun q2k11 k11=>xE k11 fun q3k11 k11=>xE k11 fun q4k11 k11=>xE k11 fun q5k11 k11=>?_) (fun k11=>?_)
    case' refine_2=>
     refine Or.inr ?_;refine .mk [0] _ _ _ _ (hM _ _ _ _ _ (k11.2)) rfl rfl rfl _ rfl ?_;cbv;have e0:=k11.1;subst e0;all_goals trivial
    refine Or.inl ?_;refine⟨.mk trivial,?_⟩;refine .mk [0] _ _ _ _ (hM _ _ _ _ _ (k11.2.2.2.2)) rfl rfl rfl rfl ?_;cbv;have ok11:=k11.2.2.2.1.one;cbv at ok11;refine xE (⟨_,rfl⟩:∃R2,R++[[pI q1k11,pS q4k11,pI q2k11,pI q3k11,q5k11]]=R2) fun R2 cW=>?_
    refine xE (⟨_,rfl⟩:∃N2,N+1=N2) fun N2 fZ=>?_
    have fA:=j4 hE (hN) (aR (hz) aN) cW fZ
    have fA1:=fA.pre;have fA2:=fA.room;have fA3:=fA.add;have fA4:=fA.app;have fA5:=fA.pre2;have fA6:=fA.sub;have fA7:=fA.p1;have fA8:=fA.s1;cbv;simp only[ok11];cbv;refine⟨.mk wC,?_⟩
    cbv;refine mV ?_;have e0:=sC (k11.2.1);subst e0;have cS:gO (xk11)=[pI q1k11,pS q4k11,pI q2k11,pI q3k11,q5k11]:=by(simp only[nd,eD,gC,gO,mM,eU,k11.2.2.2.1.row])<;>rfl
    have hK:=DY (hR) cS cW;simp only[nd,eD,gC,qD]at hK;simp only[k11.1.place,nd,eD,gC,gO,hK,qD,tB,k11.2.2.2.1.row];cbv
    grind
   refine .y hM (k10.2.2) ?_;cbv;refine oE (yM (L:=(l1.drop 1)) (c:=c2) (ih (.assign c2 (l1.drop 1)) xT) rfl rfl rfl rfl rfl rfl k9.1 k10.1) (fun k12=>xE k12 fun xk12 k12=>xE k12 fun lk12 k12=>xE k12 fun bk12 k12=>xE k12 fun q1k12 k12=>xE k12 fun q2k12 k12=>xE k12 fun q3k12 k12=>xE k12 fun q4k12 k12=>xE k12 fun q5k12 k12=>?_) (fun k12=>?_)
   case' refine_2=>
    refine Or.inr ?_;refine .mk [0] _ _ _ _ (hM _ _ _ _ _ (k12.2)) rfl rfl rfl _ rfl ?_;cbv;have e0:=k12.1;subst e0;all_goals trivial
   refine Or.inl ?_;refine⟨.mk trivial,?_⟩;refine .mk [0] _ _ _ _ (hM _ _ _ _ _ (k12.2.2.2.2)) rfl rfl rfl rfl ?_;cbv;have ok12:=k12.2.2.2.1.one;cbv at ok12;refine xE (⟨_,rfl⟩:∃R2,R++[[pI 27,pS ⟨#[]⟩,pI 0,pI 0,.ro 5 [[pI 32,pS ⟨#[]⟩,pI 0,pI 0,.ro 5 [[pI q1k12,pS q4k12,pI q2k12,pI q3k12,q5k12]]]]]]=R2) fun R2 cW=>?_
   refine xE (⟨_,rfl⟩:∃N2,N+1=N2) fun N2 fZ=>?_
   have fA:=j4 hE (hN) (aR (hz) aN) cW fZ
   have fA1:=fA.pre;have fA2:=fA.room;have fA3:=fA.add;have fA4:=fA.app;have fA5:=fA.pre2;have fA6:=fA.sub;have fA7:=fA.p1;have fA8:=fA.s1;cbv;simp only[ok12];cbv;refine⟨.mk wC,?_⟩
   cbv;refine mV ?_;have e0:=sC (k12.2.1);subst e0;have cS:gO (nd 27 [nd 32 [xk12]])=[pI 27,pS ⟨#[]⟩,pI 0,pI 0,.ro 5 [[pI 32,pS ⟨#[]⟩,pI 0,pI 0,.ro 5 [[pI q1k12,pS q4k12,pI q2k12,pI q3k12,q5k12]]]]]:=by(simp only[nd,eD,gC,gO,mM,eU,k12.2.2.2.1.row])<;>rfl
   have hK:=DY (hR) cS cW;simp only[nd,eD,gC,qD]at hK;simp only[k12.1.place,nd,eD,gC,gO,hK,qD,tB,k12.2.2.2.1.row];cbv
   grind
end
section
variable{n:Int}{toks:List Tk}{LR:List (List PV)}{l:Ts}
theorem bF.num{a:Int}(h:bF n toks LR a l)(hk:kd l 0=3):RL 131 [pS (bL (tx l 0)),pI 10,pI 64] (.tup [pI (lE (tx l 0):Nat),.v .nilIface]):=by
 have hp:=lO hk aN
 have hm:l[0]∈toks:=jE (i:=a.toNat) (by rw[h.d];grind)
 have ht:tx l 0=l[0].t:=by unfold tx;grind
 have BZ:l[0].k=3:=by unfold kd at hk;grind
 obtain⟨h1,h2,h3⟩:=h.tn _ hm BZ;have h4:=h.tz _ hm
 have:=Nd (bL (tx l 0)) (by show(tx l 0).length<=2000000;rw[ht];omega) (by rw[EP,ht];exact h1) (by rw[EP,ht];exact h2) (by rw[EP,ht];exact h3)
 rw[EP]at this;exact this
def Il(c:Cx)(l:Ts):Re Rv:=if aM l 0 iS then ndR (ev (.assign c (l.drop 1))) fun n l1=>fV eQ l1 fun l2=>bY (.nd n) l2
 else if aM l 0 sX then lsR (ev (.list2 yG c (l.drop 1))) fun ks l1=>bY (.nd (nd 9 ks)) l1
 else if aM l 0 nN then lsR (ev (.fields c (l.drop 1))) fun ks l1=>bY (.nd (nd 10 ks)) l1
 else if aM l 0 uN||aM l 0 jI then ev (.func false c l)
 else rK
def SC:Nat->Bs×Int
 |0=>(OI,1)
 |1=>(NN,2)
 |2=>(NQ,3)
 |3=>(OH,4)
 |_=>(NO,8)
def SD(c:Cx)(l:Ts):Nat->Re Rv
 |0=>Il c l
 |j+1=>if aM l 0 (SC (4-j)).1 then bY (.nd (nd (SC (4-j)).2 [])) (l.drop 1)else SD c l j
def Hn:List (List PV):=[[pS (bL OI)],[pS (bL NN)],[pS (bL NQ)],[pS (bL OH)],[pS (bL NO)]]
def Iz:List (List PV):=[[pI 1],[pI 2],[pI 3],[pI 4],[pI 8]]
theorem xin:∀i:Nat,i<5->Hn[i]?=some [pS (bL (SC i).1)]/\Iz[i]?=some [pI (SC i).2]
 |0,_=>⟨rfl,rfl⟩
 |1,_=>⟨rfl,rfl⟩
 |2,_=>⟨rfl,rfl⟩
 |3,_=>⟨rfl,rfl⟩
 |4,_=>⟨rfl,rfl⟩
 |_+5,h=>by omega
theorem z3c{c:Cx}(ih:∀s':Sy,s'.meas<(Sy.prim c l).meas->iI n toks LR s'):iI n toks LR (.prim c l):=by
 intro f hf a h o ho
 cases hf
 rw[mU]at ho;change u7 ev c l=some o at ho;unfold u7 at ho;change bF n toks LR a l at h;show MP _ (.own 0 0::[]) [aZ LR a c] (iO o) (iG toks LR c o);refine iD aU (f:=152) Tryz.func152 rfl kR (oT kR) fun tags cC=>?_
 match tags,cC with
 |[t0],_=>
  refine aY.cutKM 3 104 [0,2] 2 (fun x:Int=>[.own 0 0,.own 1 0]) (fun x=>[some (.box [.p (.ro 3 LR),.p (pI x),.p (pB c.fn),.p (pB c.lp),.p (pB c.gn),.p (pB c.as_)] 39 (some t0)),some (.box [.p (pI 0),.p (pS ⟨#[]⟩),.p (pI 0),.p (pI 0),.p (.v (.slice none 0 0))] 25 none)]) (fun x=>bF n toks LR x l/\SD c l 5=some o) aU mixed (fun _=>0) (fun _=>[]) (fun _ _=>0) (fun E=>fI E cO Tryz.f152.results.toList [t0] (iO o) (iG toks LR c o)) kR (fun P G E hc hM hE=>?_) ?_
  case' refine_1=>
   have fO:=iQ hE;have sb1:=fO.s1;have sb2:=fO.s2;have sb3:=fO.s3;have ap2:=fO.a2;have ap3:=fO.a3;have an2:=fO.n2;have an3:=fO.n3;have rm:=fun k m b h1 h2=>fO.room k m b h1 h2
   have pr:=fun k rs h=>fO.pre k rs h
   cbv;refine xE (B3 h 0 aN c) fun Kk1 k1=>xE k1 fun Tk1 k1=>xE k1 fun zk1 k1=>?_
   refine .y hM (k1.2.2) ?_;cbv;refine oE (kt (ho)) (fun k2=>?_) (fun k2=>?_)
   case' refine_1=>
    have ek2:decide (Kk1=1)=true:=aX
    cbv;simp only[ek2];cbv;refine xE (bF.next h (lO (k2.1) aN)) fun bk3 k3=>?_
    have dk3:(List.drop 1 l).length<(l).length:=by have:=lO (k2.1) aN;grind
    have ak3:=zu hE k3.2.2.1 k3.2.2.2 k3.2.1;cbv;simp only[ak3];cbv;have e0:=sC (k2.2);subst e0;simp only[k3.1.place,nd,eD,gC,gO,mM,eU,qD,tB,k1.2.1];all_goals trivial
   have ek2:decide (Kk1=1)=false:=aX
   cbv;simp only[ek2];cbv;refine oE (kt (k2.2)) (fun k4=>?_) (fun k4=>?_)
   case' refine_1=>
    have ek4:decide (Kk1=4)=true:=aX
    cbv;simp only[ek4];cbv;refine xE (bF.next h (lO (k4.1) aN)) fun bk5 k5=>?_
    have dk5:(List.drop 1 l).length<(l).length:=by have:=lO (k4.1) aN;grind
    have ak5:=zu hE k5.2.2.1 k5.2.2.2 k5.2.1;cbv;simp only[ak5];cbv;have e0:=sC (k4.2);subst e0;simp only[k5.1.place,nd,eD,gC,gO,mM,eU,qD,tB,k1.2.1];all_goals trivial
   have ek4:decide (Kk1=4)=false:=aX
   cbv;simp only[ek4];cbv;refine oE (kt (k4.2)) (fun k6=>?_) (fun k6=>?_)
   case' refine_1=>
    have ek6:decide (Kk1=3)=true:=aX
    cbv
    repeat (simp only[ek6];cbv)
    have js:=bF.num h (k6.1);rw[k1.2.1]at js;refine xE (⟨_,rfl⟩:∃V:Int,((lE (tx l 0):Nat):Int)=V) fun V hV=>?_
    rw[hV]at js;refine xE (bF.next h (lO (k6.1) aN)) fun bk7 k7=>?_
    have dk7:(List.drop 1 l).length<(l).length:=by have:=lO (k6.1) aN;grind
    have ak7:=zu hE k7.2.2.1 k7.2.2.2 k7.2.1;cbv;simp only[ak7];cbv;refine⟨_,hc _ _ _ js,?_⟩;cbv;have e0:=sC (k6.2);subst e0;simp only[k7.1.place,nd,eD,gC,gO,mM,eU,qD,tB,hV,k1.2.1];all_goals trivial
   have ek6:decide (Kk1=3)=false:=aX
   cbv;simp only[ek6];cbv;exact .mk (a) r5 (⟨h,k6.2⟩)
  rintro a0 ⟨h0,bg⟩
  obtain⟨μ,hμ⟩:∃μ:Int×Nat->Nat,∀x,μ x=5-x.2:=⟨_,fun _=>rfl⟩
  refine aY.cutKM 2 104 [0,2] 2 (fun x:Int=>[.own 0 0,.own 1 0]) (fun x=>[some (.box [.p (.ro 3 LR),.p (pI x),.p (pB c.fn),.p (pB c.lp),.p (pB c.gn),.p (pB c.as_)] 39 (some t0)),some (.box [.p (pI 0),.p (pS ⟨#[]⟩),.p (pI 0),.p (pI 0),.p (.v (.slice none 0 0))] 25 none)]) (fun x=>bF n toks LR x l/\Il c l=some o) aU mixed (fun _=>0) (fun _=>[]) (fun _ _=>0) (fun E=>fI E cO Tryz.f152.results.toList [t0] (iO o) (iG toks LR c o)) kR (fun P G E hc hM hE=>?_) ?_
  case' refine_1=>
   have fO:=iQ hE;have sb1:=fO.s1;have sb2:=fO.s2;have sb3:=fO.s3;have ap2:=fO.a2;have ap3:=fO.a3;have an2:=fO.n2;have an3:=fO.n3;have rm:=fun k m b h1 h2=>fO.room k m b h1 h2
   have pr:=fun k rs h=>fO.pre k rs h
   cbv;have cS:=xin;have o5:E.ofN 5=5:=fH
   simp only[o5];refine gV 104 [0,2,6,56,57,58] 4 (fun x:Int×Nat=>[.own 0 0,.own 1 0,.osl 2 0 5,.osl 3 0 5,.p (pI 5),.p (pI x.1)]) (fun x=>[some (.box [.p (.ro 3 LR),.p (pI a0),.p (pB c.fn),.p (pB c.lp),.p (pB c.gn),.p (pB c.as_)] 39 (some t0)),some (.box [.p (pI 0),.p (pS ⟨#[]⟩),.p (pI 0),.p (pI 0),.p (.v (.slice none 0 0))] 25 none),some (.rows 1 Hn 9),some (.rows 1 Iz 3)])
    (fun x=>((x.2:Nat):Int)=x.1/\x.2<=5/\SD c l (5-x.2)=some o) μ (0,0) r5 ⟨rfl,aP _,bg⟩ ?_
   rintro⟨i,j⟩ ⟨g1,g2,g3⟩
   simp only at g1 g2 g3
   rcases aW j 5 with cQ|qV
   ·have d1:E.lti i 5=true:=sN
    have hr:=cS j cQ;obtain⟨w,v,Y8⟩:∃w v,SC j=(w,v):=⟨_,_,rfl⟩
    rw[Y8]at hr;rw[show 5-j=(4-j)+1 by omega,SD,show 4-(4-j)=j by omega,Y8]at g3
    simp only at g3;have p0:E.ple 0 i:=by rw[hE];show 0<=i;omega
    have p5:E.plt i 5:=by rw[hE];show i<5;omega
    obtain⟨J,hJ⟩:∃J,E.addN 0 (E.nat i)=J:=⟨_,rfl⟩
    have Mu:J=j:=by rw[<-hJ,hE];show 0+i.toNat=j;omega
    have r1:Hn[J]?=some [pS (bL w)]:=by rw[Mu];exact hr.1
    have r2:Iz[J]?=some [pI v]:=by rw[Mu];exact hr.2
    obtain⟨i2,nF⟩:∃i2,i+1=i2:=⟨_,rfl⟩
    have ea:E.wadd .i64 i 1=i2:=FR
    have g4:((j+1:Nat):Int)=i2:=eC
    clear Mu hr cS;refine oE (xO h0 w c g3) (fun k2=>xE k2 fun bk2 k2=>?_) (fun k2=>?_)
    case' refine_1=>
     cbv;refine mV ?_;refine .y hM (k2.2.2.2.2) ?_;cbv;have e0:=sC k2.2.1;subst e0;simp only[k2.1.place,nd,gO,mM];all_goals trivial
    cbv;refine mV ?_;refine .y hM (k2.2.2) ?_;cbv;simp only[ea];cbv;exact .mk (i2,j+1) r5 ⟨g4,cQ,by grind⟩ aX
   ·have d1:E.lti i 5=false:=sE
    rw[show 5-j=0 by omega,SD]at g3
    cbv;simp only[d1];cbv;exact .mk a0 r5 ⟨h0,g3⟩
  rintro a1 ⟨h1,wI⟩
  unfold Il at wI;refine aY.ofM aU mixed (fun _=>0) (fun _=>[]) (fun _ _=>0) kR (fun E=>fI E cO Tryz.f152.results.toList [t0] (iO o) (iG toks LR c o)) fun P G E hc hM hE=>?_
  have fO:=iQ hE;have sb1:=fO.s1;have sb2:=fO.s2;have sb3:=fO.s3;have ap2:=fO.a2;have ap3:=fO.a3;have an2:=fO.n2;have an3:=fO.n3;have rm:=fun k m b h1 h2=>fO.room k m b h1 h2
  have pr:=fun k rs h=>fO.pre k rs h
  cbv;refine oE (xO h1 iS c wI) (fun k8=>xE k8 fun bk8 k8=>?_) (fun k8=>?_)
  case' refine_1=>
   refine .y hM (k8.2.2.2.2) ?_;cbv;refine oE (yM (L:=(l.drop 1)) (c:=c) (ih (.assign c (l.drop 1)) xT) rfl rfl rfl rfl rfl rfl k8.1 k8.2.1) (fun k9=>xE k9 fun xk9 k9=>xE k9 fun lk9 k9=>xE k9 fun bk9 k9=>xE k9 fun q1k9 k9=>xE k9 fun q2k9 k9=>xE k9 fun q3k9 k9=>xE k9 fun q4k9 k9=>xE k9 fun q5k9 k9=>?_) (fun k9=>?_)
   case' refine_2=>
    refine .y hM (k9.2) ?_;cbv;have e0:=k9.1;subst e0;all_goals trivial
   refine .y hM (k9.2.2.2.2) ?_;cbv;have ok9:=k9.2.2.2.1.one;cbv at ok9;cbv;simp only[ok9];cbv;refine oE (mr k9.1 eQ c k9.2.1) (fun k10=>xE k10 fun bk10 k10=>?_) (fun k10=>?_)
   case' refine_2=>
    refine .y hM (k10.2) ?_;cbv;have e0:=k10.1;subst e0;all_goals trivial
   refine .y hM (k10.2.2.2.2) ?_;cbv;simp only[ok9];cbv;have e0:=sC (k10.2.1);subst e0;simp only[k10.1.place,nd,eD,gC,gO,mM,eU,qD,tB,k9.2.2.2.1.row];all_goals trivial
  refine .y hM (k8.2.2) ?_;cbv;refine oE (xO h1 sX c k8.1) (fun k11=>xE k11 fun bk11 k11=>?_) (fun k11=>?_)
  case' refine_1=>
   refine .y hM (k11.2.2.2.2) ?_;cbv;refine oE (Ue (L:=(l.drop 1)) (c:=c) (ih (.list2 yG c (l.drop 1)) xT) rfl rfl rfl rfl rfl rfl k11.1 k11.2.1) (fun k12=>xE k12 fun ksk12 k12=>xE k12 fun lk12 k12=>xE k12 fun bk12 k12=>?_) (fun k12=>?_)
   case' refine_2=>
    refine .y hM (k12.2) ?_;cbv;have e0:=k12.1;subst e0;all_goals trivial
   refine oE (ZO ksk12) (fun uI=>?_) (fun uI=>xE (⟨_,rfl⟩:∃R,eU ksk12=R) fun R hR=>?_)
   case' refine_1=>
    have hn:mM ksk12=.v (.slice none 0 0):=by rw[uI,mM]
    have df:=k12.2.2.2;rw[hn]at df;refine .y hM (df) ?_;cbv;have e0:=sC (k12.2.1);subst e0;simp only[k12.1.place,nd,eD,gC,gO,qD,tB,hn];all_goals trivial
   have hn:=OJ uI hR;have df:=k12.2.2.2;rw[hn]at df;refine .y hM (df) ?_;cbv;have e0:=sC (k12.2.1);subst e0;simp only[k12.1.place,nd,eD,gC,gO,qD,tB,hn];all_goals trivial
  refine .y hM (k11.2.2) ?_;cbv;refine oE (xO h1 nN c k11.1) (fun k13=>xE k13 fun bk13 k13=>?_) (fun k13=>?_)
  case' refine_1=>
   refine .y hM (k13.2.2.2.2) ?_;cbv;refine oE (Ue (L:=(l.drop 1)) (c:=c) (ih (.fields c (l.drop 1)) xT) rfl rfl rfl rfl rfl rfl k13.1 k13.2.1) (fun k14=>xE k14 fun ksk14 k14=>xE k14 fun lk14 k14=>xE k14 fun bk14 k14=>?_) (fun k14=>?_)
   case' refine_2=>
    refine .y hM (k14.2) ?_;cbv;have e0:=k14.1;subst e0;all_goals trivial
   refine oE (ZO ksk14) (fun uI=>?_) (fun uI=>xE (⟨_,rfl⟩:∃R,eU ksk14=R) fun R hR=>?_)
   case' refine_1=>
    have hn:mM ksk14=.v (.slice none 0 0):=by rw[uI,mM]
    have cz:=k14.2.2.2;rw[hn]at cz;refine .y hM (cz) ?_;cbv;have e0:=sC (k14.2.1);subst e0;simp only[k14.1.place,nd,eD,gC,gO,qD,tB,hn];all_goals trivial
   have hn:=OJ uI hR;have cz:=k14.2.2.2;rw[hn]at cz;refine .y hM (cz) ?_;cbv;have e0:=sC (k14.2.1);subst e0;simp only[k14.1.place,nd,eD,gC,gO,qD,tB,hn];all_goals trivial
  refine .y hM (k13.2.2) ?_;cbv;refine oE (TD h1 uN jI c k13.1) (fun k15=>?_) (fun k15=>oE k15 (fun k15=>?_) (fun k15=>?_))
  case' refine_1=>
   refine .y hM (k15.2.2) ?_;cbv;refine oE (Ba (L:=l) (c:=c) (ih (.func false c l) xT) rfl rfl rfl rfl rfl h1 k15.1) (fun k16=>xE k16 fun xk16 k16=>xE k16 fun lk16 k16=>xE k16 fun bk16 k16=>xE k16 fun q1k16 k16=>xE k16 fun q2k16 k16=>xE k16 fun q3k16 k16=>xE k16 fun q4k16 k16=>xE k16 fun q5k16 k16=>?_) (fun k16=>?_)
   case' refine_2=>
    refine .y hM (k16.2) ?_;cbv;have e0:=k16.1;subst e0;all_goals trivial
   refine .y hM (k16.2.2.2) ?_;cbv;have ok16:=k16.2.2.1.one;cbv at ok16;cbv;simp only[ok16];cbv;have e0:=k16.2.1;subst e0;simp only[k16.1.place,k16.2.2.1.row];all_goals trivial
  case' refine_2=>
   refine .y hM (k15.2.2.2.1) ?_;cbv;refine .y hM (k15.2.2.2.2) ?_;cbv;refine oE (Ba (L:=l) (c:=c) (ih (.func false c l) xT) rfl rfl rfl rfl rfl h1 k15.1) (fun k17=>xE k17 fun xk17 k17=>xE k17 fun lk17 k17=>xE k17 fun bk17 k17=>xE k17 fun q1k17 k17=>xE k17 fun q2k17 k17=>xE k17 fun q3k17 k17=>xE k17 fun q4k17 k17=>xE k17 fun q5k17 k17=>?_) (fun k17=>?_)
   case' refine_2=>
    refine .y hM (k17.2) ?_;cbv;have e0:=k17.1;subst e0;all_goals trivial
   refine .y hM (k17.2.2.2) ?_;cbv;have ok17:=k17.2.2.1.one;cbv at ok17;cbv;simp only[ok17];cbv;have e0:=k17.2.1;subst e0;simp only[k17.1.place,k17.2.2.1.row];all_goals trivial
  refine .y hM (k15.2.2.2.1) ?_;cbv;refine .y hM (k15.2.2.2.2) ?_;cbv;refine .y hM (wB (vo LR a1 c)) ?_;cbv;have e0:=zj (k15.1);subst e0;all_goals trivial
end
theorem Ov{n:Int}{toks:List Tk}{LR:List (List PV)}:∀(m:Nat)(s:Sy),s.meas<m->iI n toks LR s
 |0,_,h=>by omega
 |m+1,s,h=>by
  have ih:∀s':Sy,s'.meas<s.meas->iI n toks LR s':=fun s' h'=>Ov m s' oM
  cases s with
  |stmt c l=>exact zy0 ih
  |keyw c l=>exact zz8 ih
  |condn c l=>exact zwq ih
  |inner c l=>exact zwc ih
  |body c l=>exact z0v ih
  |loops c l=>exact zv1 ih
  |tryS c l=>exact zyt ih
  |decl c l=>exact z50 ih
  |block c l=>exact z0w ih
  |func d c l=>exact z5g ih
  |arrow c l=>exact z05 ih
  |assign c l=>exact zui ih
  |cond c l=>exact z0o ih
  |opnd k c l=>exact z3l ih
  |unary c l=>exact zu9 ih
  |postf c l=>exact zvv ih
  |link x c l=>exact zz4 ih
  |chain c l=>exact z0p ih
  |list2 e c l=>exact Zp ih
  |prim c l=>exact z3c ih
  |fields c l=>exact zwi ih
  |field c l=>exact zwl ih
  |_=>intro f hf;cases hf
def Ie:Option (List PT)->AV
 |none=>.p (.pan mN)
 |some ks=>.p (.agg (gO (nd 42 ks)))
def Uj(toks:List Tk)(LR:List (List PV)):Option (List PT)->AH
 |none=>[none]
 |some _=>[aZ LR ((toks.length:Nat):Int) lW]
section
variable{n:Int}{toks:List Tk}{LR:List (List PV)}{l:Ts}
theorem xg7{a:Int}{acc:List PT}{m:Nat}{l:Ts}{o:Option (List PT)}(h:fv (m+1) acc l=o)(hl:l≠[])(hz:bF n toks LR a l):
  (∃x l' b k i q nm KK,bF n toks LR b l'/\fv m (acc++[x]) l'=o/\l'.length<l.length/\jC x k i q nm KK/\MP 13 [.own 0 0] [aZ LR a lW] (.p (.agg [pI k,pS nm,pI i,pI q,KK])) [aZ LR b lW])\/(o=none/\MP 13 [.own 0 0] [aZ LR a lW] (.p (.pan mN)) [none]):=by
 rw[fv,aD hl]at h
 rcases iI.nd (Ov _ (.stmt lW l) (xf _)) rfl rfl hz with⟨h1,h2⟩|⟨x,l',b,k,i,q,nm,KK,h1,h2,h3,h4,h5⟩
 ·rw[h1]at h;exact .inr ⟨h.symm,h2⟩
 ·rw[h1]at h;exact .inl ⟨x,l',b,k,i,q,nm,KK,h2,h,h4 rfl,h3,h5⟩
theorem Nl{m:Nat}{acc:List PT}{l l':Ts}{o:Option (List PT)}(h:l.length<m+1)(hl:l'.length<l.length)(ho:fv m acc l'=o):∃m',l'.length<m'+1/\fv (m'+1) acc l'=o:=by
 cases m with
 |zero=>omega
 |succ m=>grind
theorem z7f{a:Int}(h:bF n toks LR a l):MP 12 [.own 0 0] [aZ LR a lW] (Ie (vd l)) (Uj toks LR (vd l)):=by
 obtain⟨o,ho⟩:∃o,vd l=o:=⟨_,rfl⟩
 rw[ho];unfold vd at ho;obtain⟨μ,hμ⟩:∃μ:Int×Ts×List PT×List (List PV)×Nat->Nat,∀x,μ x=x.2.1.length:=⟨_,fun _=>rfl⟩
 have hz:=h.z;have cn:l.length<=1000000:=FU
 obtain⟨M,lU⟩:∃M:Int,((toks.length:Nat):Int)=M:=⟨_,rfl⟩
 obtain⟨rr,dH⟩:∃rr,Ie o=rr:=⟨_,rfl⟩
 obtain⟨HH,mE⟩:∃HH,Uj toks LR o=HH:=⟨_,rfl⟩
 rw[dH,mE];refine iD aU (f:=12) Tryz.func12 rfl kR (oT kR) fun tags cC=>?_
 match tags,cC with
 |[t0],_=>
  refine aY.ofM aU mixed (fun n=>match n with|2=>9|3=>5|_=>0) (fun n=>match n with|3=>[3]|_=>[]) (fun n i=>match n,i with|3,3=>1|3,4=>1|_,_=>0) kR (fun E=>fI E cO Tryz.f12.results.toList [t0] rr HH) fun P G E hc hM hE=>?_
  cbv;refine gV 23 [0,2,3] 4 (fun x:Int×Ts×List PT×List (List PV)×Nat=>[.own 0 0,.own 1 0,.own 2 0]) (fun x=>match x.2.2.1 with
    |[]=>[some (.box [.p (.ro 3 LR),.p (pI x.1),.p (pB false),.p (pB false),.p (pB false),.p (pB false)] 39 (some t0)),some (.box [.p (pI 0),.p (pS ⟨#[]⟩),.p (pI 0),.p (pI 0),.p (.v (.slice none 0 0))] 25 none),some (.box [.p (pI 42),.p (pS ⟨#[]⟩),.p (pI 0),.p (pI 0),.p (.v (.slice none 0 0))] 25 none)]
    |_::_=>[some (.box [.p (.ro 3 LR),.p (pI x.1),.p (pB false),.p (pB false),.p (pB false),.p (pB false)] 39 (some t0)),some (.box [.p (pI 0),.p (pS ⟨#[]⟩),.p (pI 0),.p (pI 0),.p (.v (.slice none 0 0))] 25 none),some (.box [.p (pI 42),.p (pS ⟨#[]⟩),.p (pI 0),.p (pI 0),.osl 3 0 x.2.2.2.2] 25 none),some (.rows 5 x.2.2.2.1 25)])
   (fun x=>bF n toks LR x.1 x.2.1/\(∃m,x.2.1.length<m+1/\fv (m+1) x.2.2.1 x.2.1=o)/\x.2.2.2.2+x.2.1.length<=l.length/\eU x.2.2.1=x.2.2.2.1/\x.2.2.2.1.length=x.2.2.2.2) μ (a,l,[],[],0) r5 ⟨h,⟨_,xf _,ho⟩,by show 0+l.length<=l.length;omega,by rw[eU],rfl⟩ ?_
  rintro⟨a1,l1,acc,R,N⟩ ⟨g1,⟨m,g0,g2⟩,g3,g4,g5⟩
  simp only at g0 g1 g2 g3 g4 g5;replace lU:((toks.length:Nat):Int)=M:=lU;have l0:E.ofN LR.length=M:=BI
  cbv at l0
  rcases dV (l1=[])with hl|hl
  ·have d1:E.lti a1 M=false:=by rw[hE];have MZ:((toks.length:Nat):Int)=M:=lU;have:=g1.h1;rw[hl]at this;exact dF (by simp at this;omega)
   rw[fv,aF hl]at g2;subst g2;have ha:a1=M:=by have MZ:((toks.length:Nat):Int)=M:=lU;have:=g1.h1;rw[hl]at this;simp at this;omega
   have e2:[aZ LR a1 lW]=HH:=by rw[<-mE,ha,<- lU];rfl
   cases acc with
   |nil=>
    have e1:AV.p (.agg [pI 42,pS ⟨#[]⟩,pI 0,pI 0,.v (.slice none 0 0)])=rr:=by rw[<-dH];rfl
    subst e1 e2;cbv
    repeat (first|(simp only[l0];cbv)|(simp only[d1];cbv))
    all_goals trivial
   |cons y ys=>
    have hK:=Fb g4;have e1:AV.p (.agg [pI 42,pS ⟨#[]⟩,pI 0,pI 0,.ro 5 R])=rr:=by rw[<-dH];simp only[Ie,nd,gO,hK];rfl
    have fB:=j4 (R:=R) (row:=[pI 0,pI 0,pI 0,pI 0,pI 0]) hE g5 oM rfl rfl
    have fB5:=fB.pre;have fB6:E.sub R 0 N=R:=LU
    subst e1 e2;cbv
    repeat (first|(simp only[l0];cbv)|(simp only[d1];cbv)|(refine⟨fB5,?_⟩;cbv)|(simp only[fB6];cbv))
    all_goals trivial
  ·have cr:=aS.2 hl;have d1:E.lti a1 M=true:=by rw[hE];have MZ:((toks.length:Nat):Int)=M:=lU;have:=g1.h1;exact aA oM
   have vN:=xg7 g2 hl g1
   cases acc with
   |nil=>
    cbv
    repeat (first|(simp only[l0];cbv)|(simp only[d1];cbv))
    refine oE vN (fun k3=>xE k3 fun xk k3=>xE k3 fun lk k3=>xE k3 fun bk k3=>xE k3 fun q1 k3=>xE k3 fun q2 k3=>xE k3 fun q3 k3=>xE k3 fun q4 k3=>xE k3 fun q5 k3=>?_) (fun k3=>?_)
    case' refine_2=>
     refine Or.inr ?_;refine .mk [0] _ _ _ _ (hM _ _ _ _ _ (k3.2)) rfl rfl rfl _ rfl ?_;cbv;have e0:=k3.1;subst e0;have e1:AV.p (.pan mN)=rr:=dH;have e2:[none]=HH:=mE;subst e1 e2;cbv;all_goals trivial
    refine Or.inl ?_;refine⟨.mk trivial,?_⟩;refine .mk [0] _ _ _ _ (hM _ _ _ _ _ (k3.2.2.2.2)) rfl rfl rfl rfl ?_;cbv;have ok3:=k3.2.2.2.1.one;cbv at ok3;have rm:=(iQ hE).room 0 1 64 aN aN
    cbv;simp only[ok3];cbv;refine⟨.mk wC,?_⟩
    cbv;refine⟨rm,?_⟩;cbv;exact .mk (bk,lk,[xk],[[pI q1,pS q4,pI q2,pI q3,q5]],1) r5 ⟨k3.1,Nl g0 k3.2.2.1 k3.2.1,by show 1+lk.length<=l.length;have:=k3.2.2.1;omega,by rw[eU,eU,k3.2.2.2.1.row],rfl⟩ (by rw[hμ,hμ];exact k3.2.2.1)
   |cons y ys=>
    cbv
    repeat (first|(simp only[l0];cbv)|(simp only[d1];cbv))
    refine oE vN (fun k3=>xE k3 fun xk k3=>xE k3 fun lk k3=>xE k3 fun bk k3=>xE k3 fun q1 k3=>xE k3 fun q2 k3=>xE k3 fun q3 k3=>xE k3 fun q4 k3=>xE k3 fun q5 k3=>?_) (fun k3=>?_)
    case' refine_2=>
     refine Or.inr ?_;refine .mk [0] _ _ _ _ (hM _ _ _ _ _ (k3.2)) rfl rfl rfl _ rfl ?_;cbv;have e0:=k3.1;subst e0;have e1:AV.p (.pan mN)=rr:=dH;have e2:[none]=HH:=mE;subst e1 e2;cbv;all_goals trivial
    refine Or.inl ?_;refine⟨.mk trivial,?_⟩;refine .mk [0] _ _ _ _ (hM _ _ _ _ _ (k3.2.2.2.2)) rfl rfl rfl rfl ?_;cbv;have ok3:=k3.2.2.2.1.one;cbv at ok3;refine xE (⟨_,rfl⟩:∃R2,R++[[pI q1,pS q4,pI q2,pI q3,q5]]=R2) fun R2 cW=>?_
    refine xE (⟨_,rfl⟩:∃N2,N+1=N2) fun N2 fZ=>?_
    have fA:=j4 hE g5 oM cW fZ
    have fA1:=fA.pre;have fA2:=fA.room;have fA3:=fA.add;have fA4:=fA.app;cbv;simp only[ok3];cbv;refine⟨.mk wC,?_⟩
    cbv
    repeat (first|(refine⟨fA1,fA2,?_⟩;cbv)|(simp only[fA3,fA4];cbv))
    exact .mk (bk,lk,y::ys++[xk],R2,N2) r5 ⟨k3.1,Nl g0 k3.2.2.1 k3.2.1,by show N2+lk.length<=l.length;have:=k3.2.2.1;omega,by rw[pj,g4,eU,eU,k3.2.2.2.1.row];exact cW,by show R2.length=N2;rw[<-cW,sD,g5];exact fZ⟩ (by rw[hμ,hμ];exact k3.2.2.1)
end
def BB(cs:List AV)(x y:AV)(t1 t2 t3:Option Nat)(K:AH):AH:=some (.box cs 25 t1)::some (.box [x] 3 t2)::some (.box [y] 26 t3)::K
abbrev zN:List AV:=[.p (pI 0),.p (pS ⟨#[]⟩),.p (pI 0),.p (pI 0),.p (.v (.slice none 0 0))]
abbrev zP:PV:=.agg [pI 0,pS ⟨#[]⟩,pI 0,pI 0,.v (.slice none 0 0)]
section
variable{P:Program}{ops:Array Oper}{Q:Exit->Act->World->Prop}{a:Act}{w w':World}{rest:List Oper}{o:Oper}
theorem u0{v:Value}(hw:Region.wanted o (yielded ops a.tmps)=true)(he:(execOp a.eval o).run P w=.ok (.value v) w')(h:wpList P ops Q rest (a.put o.dst v) w'):wpList P ops Q (o::rest) a w:=by
 exact K7
theorem xeb(hw:Region.wanted o (yielded ops a.tmps)=true)(he:(execOp a.eval o).run P w=.ok .skip w')(h:wpList P ops Q rest (a.put o.dst undef) w'):wpList P ops Q (o::rest) a w:=by
 exact K7
theorem z8z{d:Deferred}(hw:Region.wanted o (yielded ops a.tmps)=true)(he:(execOp a.eval o).run P w=.ok (.defer d) w')(h:wpList P ops Q rest ({ a with defers:=d::a.defers }.put o.dst undef) w'):wpList P ops Q (o::rest) a w:=by
 exact K7
end
theorem Q0{o:Oper}(h:o.guard=none)(y:Nat->Option Bool):Region.wanted o y=true:=by unfold Region.wanted;rw[h]
abbrev nc(c d e:Nat):Array Value:=#[.pointer (some ⟨c,0,none⟩),.pointer (some ⟨d,0,none⟩),.pointer (some ⟨e,0,none⟩)]
theorem z0s(c d e:Nat)(w:World):CallsD Tryz.prog 28 (nc c d e) .returning w fun e u' w'=>e=.returned (.tuple #[])/\u'=.returning/\w'=w:=by
 have dN:∀w:World,(binOp BinOp.neq 20 .nilIface .nilIface).run Tryz.prog w=.ok (.bool false) w:=fun _=>by kernel_rfl
 refine callsD_of_wpS Tryz.func28 rfl fun c₀ cs hu=>?_
 apply wpS_seq;apply wpS_region;simp[wpOpsS,go_sem,recoverD,hu,Tryz.ntmps28,Exit.thenS];apply wpS_seq;apply wpS_region;simp[wpOpsS,go_sem,dN,Exit.thenS];refine wpS_cond (t:=false) (by simp[Act.eval,Array.replicate]) ?_
 refine wpS_of_wp (wp_skip ?_)
 cases c₀
 simp_all[bodyPostS,results,Tryz.results28]
theorem eX.ds{w0:cJ}{B:Nat->Prop}{w:World}{ι:Pl}{H:AH}(h:eX w0 B w ι H)(ds:List Deferred):eX ⟨w0.w,w0.X,ds,w0.pin⟩ B w ι H:=
 ⟨⟨h.gr.os,h.gr.tape,h.gr.output,h.gr.size,h.gr.block⟩,h.fut,h.len,h.blk,h.inj⟩
theorem vn{w0:cJ}{B:Nat->Prop}{w:World}{ι:Pl}{H:AH}(h:eX w0 B w ι H){k c:Nat}{cs:List AV}{t:TypeId}(hk:H[k]?=some (some (.box cs t (some c)))):∃s,ι[k]?=some (some c,s):=by
 obtain⟨⟨c',s⟩,hp⟩:∃x,ι[k]?=some x:=⟨_,aB (by rw[h.len];grind)⟩
 obtain⟨⟨_,h1⟩,_⟩:=(h.blk k _ _ _ hk hp).2
 grind
theorem z6a{w0:cJ}{B:Nat->Prop}{w:World}{ι:Pl}{c d e:Nat}{a0 a1 a2 a3 a4 x y:AV}(gS:∀b,w0.own b->B b)(hR:eX w0 B w ι (BB [a0,a1,a2,a3,a4] x y (some c) (some d) (some e) [none])):
  CallsD Tryz.prog 28 (nc c d e) (.panicking mN) w fun ex u' w'=>ex=.returned (.tuple #[])/\settle u'=.returning ∧
   ∃ι',eX w0 B w' ι' (BB zN (.p (pI 0)) (.p (pI 4)) (some c) (some d) (some e) [none]):=by
 have dN:∀w:World,(binOp BinOp.neq 20 (.iface 56 (.agg #[])) .nilIface).run Tryz.prog w=.ok (.bool true) w:=fun _=>by kernel_rfl
 refine callsD_of_wpS Tryz.func28 rfl fun c₀ cs hu=>?_
 apply wpS_seq;apply wpS_region;simp[wpOpsS,go_sem,recoverD,hu,mN,Tryz.ntmps28,Exit.thenS];apply wpS_seq;apply wpS_region;simp[wpOpsS,go_sem,dN,Exit.thenS];refine wpS_cond (t:=true) (by simp[Act.eval,Array.replicate]) ?_
 refine wpS_of_wp ?_;refine wp_seq ?_;refine wp_seq ?_;refine wp_region_list ?_;refine u0 (v:=.iface 56 (.agg #[])) (w':=w) kR kR ?_
 refine u0 (v:=.tuple #[.agg #[],.bool true]) (w':=w) kR kR ?_
 refine u0 (v:=.tuple #[.agg #[],.bool true]) (w':=w) kR kR ?_
 refine u0 (v:=.agg #[]) (w':=w) kR kR ?_
 refine u0 (v:=.bool true) (w':=w) kR kR ?_
 refine u0 (v:=.pointer (some ⟨w.heap.size,0,none⟩)) (w':=w.alloc (.cells #[] 56)) kR kR ?_
 refine xeb (w':=w.alloc (.cells #[] 56)) kR kR ?_
 refine u0 (v:=.bool true) (w':=w.alloc (.cells #[] 56)) kR kR ?_
 refine wp_seq ?_;refine wp_region_list ?_;refine u0 (v:=.bool true) (w':=w.alloc (.cells #[] 56)) kR kR ?_
 refine u0 (v:=.bool false) (w':=w.alloc (.cells #[] 56)) kR kR ?_
 refine wp_cond (t:=false) kR ?_
 simp only[aK,bN];refine wp_skip ?_;have vG:Gr w (w.alloc (.cells #[] 56)):=(Below.refl _ w).alloc (nR _) _;have pA:=(hR.grow vG).ds [];obtain⟨s1,i1⟩:=vn pA (k:=0) rfl;obtain⟨s2,i2⟩:=vn pA (k:=1) rfl;obtain⟨s3,i3⟩:=vn pA (k:=2) rfl;generalize w.alloc (.cells #[] 56)=W at pA ⊢;have cW:=pA.pin (fun _=>none)
 suffices hS:∀A:Act,A.defers=[]->A.tmps.size=18->A.tmps[0]?=some (.pointer (some ⟨c,0,none⟩))->A.tmps[1]?=some (.pointer (some ⟨d,0,none⟩))->A.tmps[2]?=some (.pointer (some ⟨e,0,none⟩))->St ⟨w0.w,w0.X,[],fun _=>none⟩ B 18 ([.own 0 0,.own 1 0,.own 2 0]++List.replicate 15 .junk) (BB [a0,a1,a2,a3,a4] x y (some c) (some d) (some e) [none]) A W by
  refine wp_mono (pn (w0:=⟨w0.w,w0.X,[],fun _=>none⟩) (G:=G0) (B:=B) (nt:=18) aU (fun w' _=>trivial) gS mixed (fun _=>0) _ (jb (fun _=>rfl) _) kR (fun ex env H=>ex=.normal/\H=BB zN (.p (pI 0)) (.p (pI 4)) (some c) (some d) (some e) [none]) ([.own 0 0,.own 1 0,.own 2 0]++List.replicate 15 .junk) (BB [a0,a1,a2,a3,a4] x y (some c) (some d) (some e) [none]) _ W ?_ (hS _ kR kR kR kR kR)) ?_
  ·cbv
  ·rintro ex a2 w2 ⟨env2,H2,⟨rfl,rfl⟩,uz⟩
   obtain⟨ι2,cW,dj⟩:=uz.rep;have zY:=uz.defers;refine⟨zY,.panicking [{ v:=.iface 56 (.agg #[]),recovered:=true }],rfl,.tuple #[],by simp[results,Tryz.results28],rfl,rfl,ι2,?_⟩
   exact(cW.ds w0.ds).pin w0.pin
 intro A hA1 Zk h0 h1 h2;refine⟨hA1,Zk,(fun t v h=>by cases h),ι,cW,?_,fun t z v hz hv=>?_⟩
 ·rw[Zk];rfl
 ·match t,hz,hv with
  |0,hz,hv=>rw[h0]at hv;cases hz;cases hv;exact .own _ _ _ _ i1
  |1,hz,hv=>rw[h1]at hv;cases hz;cases hv;exact .own _ _ _ _ i2
  |2,hz,hv=>rw[h2]at hv;cases hz;cases hv;exact .own _ _ _ _ i3
  |t+3,hz,hv=>
   have qn:(List.replicate 15 AV.junk)[t]?=some z:=hz
   have:z=.junk:=by
    grind
   subst this;exact .junk v
theorem eX.tag{w0:cJ}{B:Nat->Prop}{w:World}{ι:Pl}{H:AH}(h:eX w0 B w ι H){k c:Nat}{s:Nat×Nat}{cs:List AV}{t:TypeId}(hk:H[k]?=some (some (.box cs t none)))(hi:ι[k]?=some (some c,s)):
  eX w0 B w ι (H.set k (some (.box cs t (some c))))/\bS none w ι (Rd B ι H) w ι (Rd B ι (H.set k (some (.box cs t (some c))))):=by
 have lI:=(aC.1 hk).1;have hS:∀i b,(H.set k (some (.box cs t (some c))))[i]?=some (some b)->∃b',H[i]?=some (some b'):=fun i b hb=>by
  rw[cA]at hb
  split at hb
  ·rename_i e;subst e;exact⟨_,hk⟩
  ·exact⟨_,hb⟩
 have iK:bS none w ι (Rd B ι H) w ι (Rd B ι (H.set k (some (.box cs t (some c))))):=⟨nR _,fun b hb _=>⟨⟨hb.1,fun⟨i,b',s',h1,h2⟩=>by
  obtain⟨b0,h0⟩:=hS i b' h1;exact hb.2 ⟨i,b0,s',h0,h2⟩⟩,rfl⟩,fun _ _ _ _ h=>h⟩
 refine⟨⟨h.gr,h.fut,by simp[h.len],fun i b c' s' h1 h2=>?_,fun i j b b' c' s1 s2 h1 h2 h3 h4=>?_⟩,iK⟩
 ·by_cases e:i=k
  ·subst e;rw[mH lI]at h1
   cases h1
   rw[hi]at h2
   cases h2
   obtain⟨g1,⟨g2,_⟩,g3⟩:=h.blk i _ _ _ hk hi;refine⟨g1,⟨g2,fun n e=>by cases e;rfl⟩,?_⟩
   obtain⟨c'',arr,e,e1,e2,e3⟩:=g3;exact⟨c'',arr,e,e1,e2,fun j a ha=>by
    obtain⟨v,hv,uE,hr⟩:=e3 j a ha;exact⟨v,hv,uE,hr.keep0 iK⟩⟩
  ·rw[oC (iW e)]at h1;exact⟨(h.blk i b c' s' h1 h2).1,(h.blk i b c' s' h1 h2).2.keep0 iK fun _ _=>rfl⟩
 ·obtain⟨b0,g1⟩:=hS i b h1;obtain⟨b1,g2⟩:=hS j b' h2;exact h.inj i j b0 b1 c' s1 s2 g1 g2 h3 h4
theorem Ps{P:Program}{G:World->Prop}{T:TT}{nt:Nat}(hT:iE P T)(hm:P.follows .mixedOrders=true){kOf:Nat->Nat}{mOf:Nat->List Nat}{lo:Nat->Nat->Nat}{w0:cJ}{B:Nat->Prop}(hG:∀w,uD w0 w->G w)(hB:∀b,w0.own b->B b){R:List AV->AH->Prop}{Q:Exit->List AV->AH->Prop}{F:Exit->Act->World->Prop}(hF:∀e a w,e ≠ .normal->sJ w0 B nt Q e a w->F e a w):∀(k:Nat)(c:Code),fp w0 c->yK nt kOf mOf lo (wW k c)=true->(∀env H a w,R env H->St w0 B nt env H a w->(l8 k c).wp P F a w) →
  ∀(env:List AV)(H:AH)(a:Act)(w:World),vX P G bG T kOf mOf lo (wW k c) (nI R Q) env H->St w0 B nt env H a w->c.wp P F a w
 |0,c,_,_,hR,env,H,a,w,h,hS=>hR env H a w h hS
 |k+1,c,gD,cV,hR,env,H,a,w,h,hS=>by
  cases c with
  |seq x y=>
   simp only[wW,yK,gK]at cV;refine wp_seq (wp_mono (ua hT hG hB hm kOf mOf lo x gD.1 cV.1 _ env H a w h hS) ?_)
   rintro e a w ⟨env,H,h,hS⟩
   cases e with
   |normal=>exact Ps hT hm hG hB hF k y gD.2 cV.2 hR env H a w h hS
   |_=>exact hF _ a w dL ⟨env,H,h,hS⟩
  |_=>exact False.elim h
inductive VP(c d e:Nat):AH->Prop
 |mk (a0 a1 a2 a3 a4 x y:AV):VP c d e (BB [a0,a1,a2,a3,a4] x y (some c) (some d) (some e) [none])
def Ua(E:SO)(c d g:Nat)(r:PV)(e:Exit)(env:List AV)(H:AH):Prop:=
 match e with
 | .ret=>jG E cO Tryz.f11.results.toList r .ret env H
 | .normal=>jG E cO Tryz.f11.results.toList r .ret env H
 | .panic ch=>ch=mN/\r=.tup [zP,pI 0,pI 4]/\env.getD 4 .junk=.own 0 0/\env.getD 5 .junk=.own 1 0/\env.getD 6 .junk=.own 2 0/\VP c d g H
 |_=>False
def LJ(c d e:Nat):Deferred:=⟨.fn (.func 28) (nc c d e),#[]⟩
abbrev EV(g:FuncId)(p:PV):List AV:=[.p (.v (.func (.func g) #[] #[])),.own 0 0,.own 1 0,.own 2 0,.p p]
abbrev xc(c d e:Option Nat):AH:=BB zN (.p (pI 0)) (.p (pI 0)) c d e []
theorem E1{w:World}{ι:Pl}{R:Nat->Prop}{k c:Nat}{s:Nat×Nat}{v:Value}(h:dG w ι R (.own k 0) v)(hi:ι[k]?=some (some c,s)):v=.pointer (some ⟨c,0,none⟩):=by
 cases h with
 |own _ _ c' s' h=>grind
theorem Ef{w:World}{ι:Pl}{R:Nat->Prop}{k:Nat}{v:Value}(h:dG w ι R (.own k 0) v):∃c s,v=.pointer (some ⟨c,0,none⟩)/\ι[k]?=some (some c,s):=by
 cases h with
 |own _ _ c s h=>grind
theorem zzl{g:FuncId}{s p r:PV}{HI:Prop}(kOf:Nat->Nat)(mOf:Nat->List Nat)(lo:Nat->Nat->Nat){c0 rest:Code}{rid:Nat}{o1 o2:Oper}(hb:Tryz.f11.body=some c0)(ht:l8 4 c0=.seq (.region rid #[o1,o2] false) rest)
  (wI:o1.op=.makeFunc (.func 28) #[] #[.tmp 4,.tmp 5,.tmp 6]) (nL:o1.dst=some 23) (M7:o1.guard=none) (tG:o2.op=.defer { callee:=.value (.tmp 23),args:=#[],argTypes:=#[] }) (zY:o2.dst=none) (pO:o2.guard=none)
  (ri:yK 47 kOf mOf lo (wW 4 c0)=true) (zQ:yK 47 kOf mOf lo rest=true)
  (h0:∀(P':Program)(G':World->Prop)(E:SO),(∀f l r,fS Tryz.prog GL f l r->fS P' G' f l r)->E=bG →
   vX P' G' E cO kOf mOf lo (wW 4 c0) (nI (mC 47 [1,4,5,6,7] 3 (fun _:Unit=>EV g p) (fun _=>xc none none none) fun _=>HI) (jG E cO Tryz.f11.results.toList r)) (.p s :: .p (.v (.func (.func g) #[] #[]))::List.replicate 45 (.p (.v undef))) [])
  (h1:HI->∀(P':Program)(G':World->Prop)(E:SO),(∀f l r,fS Tryz.prog GL f l r->fS P' G' f l r)->(∀f xs H r H',jL Tryz.prog GL f xs H r H'->jL P' G' f xs H r H')->E=bG->∀t1 t2 t3:Nat,
   vX P' G' E cO kOf mOf lo rest (Ua E t1 t2 t3 r) ((rB [1,4,5,6,7] (EV g p) 47 0).set 23 .junk) (xc (some t1) (some t2) (some t3))):RL 11 [s,.v (.func (.func g) #[] #[])] r:=by
 refine⟨AN Tryz.func11 hb kR,fun w B args hG hlen eG=>?_⟩
 refine calls_of_wp_defers Tryz.func11 hb ?_;have gS:∀b,(cJ.of w).own b->B b\/w.heap.size<=b:=fun b hb=>hb.elim (fun h=>h.elim) .inr
 have hS:St (cJ.of w) (fun b=>B b\/w.heap.size<=b) 47 (.p s :: .p (.v (.func (.func g) #[] #[]))::List.replicate 45 (.p (.v undef))) [] { tmps:=args.toArray++Array.replicate (47-args.toArray.size) undef,defers:=[] } w:=by
  refine⟨rfl,?_,(fun t v h=>by cases h),[],⟨.of (Gr.refl _),fun b hb=>.inr hb,rfl,fun k b c s h1=>by simp at h1,fun k l b b' c s s' h1=>by simp at h1⟩,?_⟩
  ·grind
  ·have:=OZ (w:=w) (ι:=[]) (R:=Rd (fun b=>B b\/w.heap.size<=b) [] []) (args:=args) (nt:=47) (show([AV.p s,AV.p (.v (.func (.func g) #[] #[]))]:List AV).length<=47 by simp) (by simpa using hlen) fun j x v ha hv=>by
    have hk:∀z:PV,cI w (fun b=>B b) z v->dG w [] (Rd (fun b=>B b\/w.heap.size<=b) [] []) (.p z) v:=fun z hz=>.p _ _ (hz.keep (nR _) fun b hb _=>⟨⟨.inl hb,by
     rintro⟨k,b',s,h1,_⟩
     simp at h1⟩,rfl⟩)
    grind
   exact qh
 have sw:∀w',uD (cJ.of w) w'->GL w':=fun w' hg=>mA _ _ hg.gr hG
 have fin0:∀(a2:Act)(w2:World)(ι2:Pl)(env:List AV)(H:AH)(w0:cJ),w0.w=w->(∀b,w0.own b->B b\/w.heap.size<=b)->Gr w w2->eX w0 (fun b=>B b\/w.heap.size<=b) w2 ι2 H->nQ w2 ι2 (Rd (fun b=>B b\/w.heap.size<=b) ι2 H) env a2.tmps->jG bG cO Tryz.f11.results.toList r .ret env H->∃v,(results Tryz.f11 a2.tmps).run Tryz.prog w2=.ok v w2/\Gr w w2/\pp w2 (fun b=>B b\/w.heap.size<=b) r (.returned v):=by
  intro a2 w2 ι2 env H w0 _ mo vG cW dj h;obtain⟨x,v,hx,dS,hv⟩:=KH (K:=fun a=>cg bG H a fun p=>p=r) aU cW dj h
  obtain⟨p,rfl,hp⟩:=JV cW mo x v _ hx hv;exact⟨v,dS,vG,.ret hp⟩
 refine Ps (w0:=cJ.of w) (nt:=47) aU mixed sw gS (Q:=jG bG cO Tryz.f11.results.toList r) ?_ 4 c0 (jb (fun _=>rfl) _) ri ?_ _ _ _ w (h0 Tryz.prog GL bG (fun _ _ _ h=>h) rfl) hS
 ·rintro e a2 w2 he ⟨env,H,hQ,o7⟩
  obtain⟨ι2,cW,dj⟩:=o7.rep;have vG:Gr w w2:=cW.gr.gr
  cases e with
  |ret=>
   obtain⟨v,h1,h2⟩:=fin0 a2 w2 ι2 env H _ rfl gS vG cW dj hQ;show Leaves _ _ _ _ a2.defers .returning w2;rw[o7.defers];exact⟨v,h1,h2⟩
  |normal=>exact absurd rfl he
  |exit id=>cases hQ
  |goto l=>cases hQ
  |panic ch=>
   show Leaves _ _ _ _ a2.defers (.panicking ch) w2;rw[o7.defers];have hr:r=.pan ch:=hQ;subst hr;exact⟨vG,rfl⟩
  |outgrown=>cases hQ
 intro env1 H1 a1 w1 Mc ff;obtain⟨hHI,Mo⟩:HI/\St (cJ.of w) (fun b=>B b\/w.heap.size<=b) 47 (rB [1,4,5,6,7] (EV g p) 47 0) (xc none none none) a1 w1:=by
  obtain⟨ι,hR,hE⟩:=ff.rep
  cases Mc with
  |mk y hh hI=>exact⟨hI,ff.defers,ff.size,ff.pin,hh.wk _ _ w1 ι a1.tmps gS hR hE⟩
  |wk y env2 H2 hw hh hI=>exact⟨hI,ff.defers,ff.size,ff.pin,(hw.trans hh.wk) _ _ w1 ι a1.tmps gS hR hE⟩
 obtain⟨ι,hR,hE⟩:=Mo.rep;rw[ht];obtain⟨c,sc,v4,i1⟩:=Ef (hE.eval (.tmp 4));obtain⟨d,sd,v5,i2⟩:=Ef (hE.eval (.tmp 5));obtain⟨e,se,v6,i3⟩:=Ef (hE.eval (.tmp 6));obtain⟨hRa,hka⟩:=hR.tag (k:=0) rfl i1;obtain⟨sv,HD⟩:=hRa.tag (k:=1) rfl i2;obtain⟨su,hkc⟩:=sv.tag (k:=2) rfl i3;have M3:bS none w1 ι (Rd (fun b=>B b\/w.heap.size<=b) ι (xc none none none)) w1 ι (Rd (fun b=>B b\/w.heap.size<=b) ι (xc (some c) (some d) (some e))):=⟨nR _,fun b hb hl=>⟨(hkc.read b (HD.read b (hka.read b hb hl).1 hl).1 hl).1,rfl⟩,fun _ _ _ _ h=>h⟩
 have hmf:∀(fn:Go.Fn)(first cap:Array Value)(w:World),(Instr.makeFunc fn first cap).run Tryz.prog w=.ok (.func fn first cap) w:=fun _ _ _ _=>rfl
 refine wp_seq (wp_region_list ?_);refine u0 (v:=.func (.func 28) #[] (nc c d e)) (w':=w1) (Q0 M7 _) (by simp[execOp,wI,v4,v5,v6,hmf]) ?_
 rw[nL];have dR:a1.tmps.size=47:=Mo.size;have h9:(a1.put (some 23) (.func (.func 28) #[] (nc c d e))).eval (.tmp 23)=.func (.func 28) #[] (nc c d e):=by
  simp[Act.eval,Act.put,fU,dR]
 refine z8z (d:=LJ c d e) (w':=w1) (Q0 pO _) (by simp[execOp,tG,resolve,h9,Deferred.ofValue,LJ]) ?_
 rw[zY];have WR:=hE.put (d:=some 23) (a:=a1) (x:=.junk) (v:=.func (.func 28) #[] (nc c d e)) M3 (.junk _);have uz:St ⟨w,fun _=>False,[LJ c d e],fun _=>none⟩ (fun b=>B b\/w.heap.size<=b) 47 ((rB [1,4,5,6,7] (EV g p) 47 0).set 23 .junk) (xc (some c) (some d) (some e))
  (Act.put { a1.put (some 23) (.func (.func 28) #[] (nc c d e))with defers:=LJ c d e::a1.defers } none undef) w1:=
  ⟨by have:=Mo.defers;rw[this];rfl,by simpa [Act.put]using dR,(fun t v h=>by cases h),ι,su.ds _,WR⟩
 have mo:∀b,(cJ.mk w (fun _=>False) [LJ c d e] fun _=>none).own b->B b\/w.heap.size<=b:=gS
 refine wp_mono (ua (w0:=⟨w,fun _=>False,[LJ c d e],fun _=>none⟩) aU (fun w' hg=>mA _ _ ⟨hg.os,hg.tape,hg.output,hg.size,fun k hk=>hg.block k hk id⟩ hG) mo mixed kOf mOf lo rest (jb (fun _=>rfl) _) zQ _ _ _ _ w1 (h1 hHI Tryz.prog GL bG (fun _ _ _ h=>h) (fun _ _ _ _ _ h=>h) rfl c d e) uz) ?_
 rintro ex a2 w2 ⟨env,H,hQ,o7⟩
 obtain⟨ι2,cW,dj⟩:=o7.rep;have hinv:∀w2,(invoke (.fn (.func 28) (nc c d e)) #[]).run Tryz.prog w2=.ok (.enter 28 (nc c d e)) w2:=fun w2=>by
  simp[invoke,Gv Tryz.func28 kR kR]
 have vG:Gr w w2:=⟨cW.gr.os,cW.gr.tape,cW.gr.output,cW.gr.size,fun k hk=>cW.gr.block k hk id⟩
 have fin:jG bG cO Tryz.f11.results.toList r .ret env H->Leaves Tryz.prog Tryz.f11 a2.tmps (fun e w'=>Gr w w'/\pp w' (fun b=>B b\/w.heap.size<=b) r e) a2.defers .returning w2:=by
  intro h;rw[o7.defers];refine leaves_cons (f:=28) (args:=nc c d e) dL (hinv w2) ?_
  refine(z0s c d e w2).mono ?_
  rintro e u' w' ⟨rfl,rfl,rfl⟩
  exact fin0 a2 w' ι2 env H _ rfl mo vG cW dj h
 cases ex with
 |ret=>exact fin hQ
 |normal=>exact fin hQ
 |exit id=>cases hQ
 |goto l=>cases hQ
 |panic ch=>
  obtain⟨rfl,rfl,q2,q3,q4,⟨a0,a1,a2',a3,a4,x,y⟩⟩:=hQ;obtain⟨s1,j1⟩:=vn cW (k:=0) rfl;obtain⟨s2,j2⟩:=vn cW (k:=1) rfl;obtain⟨s3,j3⟩:=vn cW (k:=2) rfl;have t4:a2.eval (.tmp 4)=.pointer (some ⟨c,0,none⟩):=E1 (by have h:=dj.eval (.tmp 4);have e:bR env (.tmp 4)=.own 0 0:=q2;rw[e]at h;exact h) j1
  have t5:a2.eval (.tmp 5)=.pointer (some ⟨d,0,none⟩):=E1 (by have h:=dj.eval (.tmp 5);have e:bR env (.tmp 5)=.own 1 0:=q3;rw[e]at h;exact h) j2
  have t6:a2.eval (.tmp 6)=.pointer (some ⟨e,0,none⟩):=E1 (by have h:=dj.eval (.tmp 6);have e':bR env (.tmp 6)=.own 2 0:=q4;rw[e']at h;exact h) j3
  show Leaves Tryz.prog Tryz.f11 a2.tmps _ a2.defers (.panicking mN) w2;rw[o7.defers];refine leaves_cons (f:=28) (args:=nc c d e) dL (hinv w2) ?_
  refine(z6a mo cW).mono ?_
  rintro ex u' w' ⟨rfl,hu,ι3,qX⟩
  simp only;rw[hu];obtain⟨s1,k1⟩:=vn qX (k:=0) rfl;obtain⟨s2,k2⟩:=vn qX (k:=1) rfl;obtain⟨s3,k3⟩:=vn qX (k:=2) rfl;have M6:Gr w w':=⟨qX.gr.os,qX.gr.tape,qX.gr.output,qX.gr.size,fun k hk=>qX.gr.block k hk id⟩
  refine fin0 a2 w' ι3 ([.junk,.junk,.junk,.junk,.own 0 0,.own 1 0,.own 2 0]++List.replicate 40 .junk) _ _ rfl mo M6 qX ⟨?_,fun t z v hz hv=>?_⟩ ?_
  ·rw[o7.size];rfl
  ·match t,hz with
   |0,hz=>cases hz;exact .junk _
   |1,hz=>cases hz;exact .junk _
   |2,hz=>cases hz;exact .junk _
   |3,hz=>cases hz;exact .junk _
   |4,hz=>
    cases hz
    have:a2.eval (.tmp 4)=v:=Jl
    rw[<-this,t4];exact .own _ _ _ _ k1
   |5,hz=>
    cases hz
    have:a2.eval (.tmp 5)=v:=Jl
    rw[<-this,t5];exact .own _ _ _ _ k2
   |6,hz=>
    cases hz
    have:a2.eval (.tmp 6)=v:=Jl
    rw[<-this,t6];exact .own _ _ _ _ k3
   |t+7,hz=>
    have qn:(List.replicate 40 AV.junk)[t]?=some z:=hz
    have:z=.junk:=by
     grind
    subst this;exact .junk v
  ·cbv
 |outgrown=>cases hQ
theorem F4(q:UInt8):∀(n:Nat)(l t r:Bs),yW uB q n l=some (t,r)->t.length+4*r.length<=4*l.length
 |0,_,_,_,h=>by cases h
 |n+1,[],_,_,h=>by cases h
 |n+1,c::l,t,r,h=>by
  rw[yW]at h
  split at h
  ·grind
  ·split at h
   ·cases h
   ·split at h
    ·cases he:jV uB l with
     |none=>rw[he]at h;cases h
     |some p=>
      rw[he]at h;simp only[Dl]at h;obtain⟨z,hz,h2⟩:=h
      cases h2
      have h3:=F4 q n p.2 z.1 z.2 hz;have h4:=Gw (t:=p.1) (r:=p.2) he;have h5:=JI uB he
      grind
    ·simp only[Dl]at h;obtain⟨z,hz,h2⟩:=h
     cases h2
     have h3:=F4 q n l z.1 z.2 hz
     grind
theorem Ns{l t r:Bs}{k:Int}(h:jH uB fR l=.ok k t r):t.length<=16*l.length:=by
 cases l with
 |nil=>cases h
 |cons c l=>
  rcases dV (k=4)with hk|hk
  ·subst hk;rw[jH]at h
   split at h
   ·grind
   ·split at h
    ·unfold qZ at h
     grind
    ·split at h
     ·cases hl:lit uB c l with
      |none=>rw[hl]at h;cases h
      |some z=>
       rw[hl]at h
       cases h
       have h1:=F4 c l.length l z.1 z.2 hl;have h2:=Qm z.1
       grind
     grind
  ·have h1:=aG List.length (F5 uB fR h hk)
   grind
theorem Nu:∀(n:Nat)(l:Bs){ts:List Tk}{er:Option (Nat×Int)},oQ uB fR n l=(ts,er)->ts.length<=l.length
 |0,_,_,_,h=>by cases h;exact aP _
 |n+1,l,ts,er,h=>by
  have hle:=DG l;rw[oQ]at h
  split at h
  ·grind
  ·split at h
   ·grind
   ·split at h
    ·grind
    ·rename_i k t r ht
     cases h
     have h2:=DF uB fR ht;have h1:=Nu n r (ts:=(oQ uB fR n r).1) (er:=(oQ uB fR n r).2) rfl
     grind
theorem ZX{p:UInt8->Bool}:∀(l:Bs),∀c∈l.takeWhile p,p c=true
 |[],c,h=>by cases h
 |x::l,c,h=>by
  rw[List.takeWhile_cons]at h
  split at h
  ·rename_i hp
   rcases dX.1 h with rfl|h
   ·exact hp
   ·exact ZX l c h
  ·cases h
theorem xjs{w:Bs}(h:mq w=true):brk w=0:=by
 have key:∀w∈Bi,brk w=0:=aN
 unfold mq at h;obtain⟨v,hv,he⟩:=fY.1 h;have e:v=w:=UP
 exact e ▸ key v hv
structure VN(t:Tk)(L:Nat):Prop where
 z:t.t.length<=16*L
 n:t.k=3->(∀c∈t.t,eO c=true)/\t.t≠[]/\lE t.t<9223372036854775808
 k:Bc t
theorem VN.le{t:Tk}{L M:Nat}(h:VN t L)(hl:L<=M):VN t M:=⟨by have:=h.z;omega,h.n,h.k⟩
theorem QT{l t r:Bs}{k:Int}{m:Nat}(h:jH uB fR l=.ok k t r):VN ⟨k,t,m⟩ l.length:=by
 refine⟨Ns h,fun hk=>?_,fun hk=>?_⟩
 ·cases l with
  |nil=>cases h
  |cons c l=>
   rw[jH]at h
   split at h
   ·grind
   ·split at h
    ·rename_i hd;unfold qZ at h
     split at h
     ·cases h
     ·split at h
      ·cases h
      ·split at h
       ·cases h
       ·injection h with h1 h2 h3
        subst h2;refine⟨ZX _,?_,by simp only;omega⟩
        simp_all
    grind
 ·subst hk
  cases l with
  |nil=>cases h
  |cons c l=>
   rw[jH]at h
   split at h
   ·injection h with h1 h2 h3
    subst h2
    split at h1
    ·rename_i hw;exact xjs hw
    omega
   ·split at h
    ·unfold qZ at h
     grind
    grind
theorem R6:∀(n:Nat)(l:Bs){ts:List Tk}{er:Option (Nat×Int)},oQ uB fR n l=(ts,er)->∀x∈ts,VN x l.length
 |0,_,_,_,h,x,hx=>by cases h;cases hx
 |n+1,l,ts,er,h,x,hx=>by
  have hle:=DG l;rw[oQ]at h
  split at h
  ·cases h;cases hx
  ·split at h
   ·cases h;cases hx
   ·split at h
    ·cases h;cases hx
    ·rename_i k t r ht
     cases h
     have h2:=DF uB fR ht
     rcases dX.1 hx with rfl|hx
     ·exact(QT ht).le hle
     ·exact(R6 n r (ts:=(oQ uB fR n r).1) (er:=(oQ uB fR n r).2) rfl x hx).le oM
theorem El{l:Bs}{ts:List Tk}{e:Option (Nat×Int)}(h:lF l=(ts,e)):ts.length<=l.length:=Nu _ _ (show oQ uB fR (l.length+1) l=_ from h)
theorem P3{l:Bs}{n:Int}{ts:List Tk}{e:Option (Nat×Int)}(h:lF l=(ts,e))(hl:l.length<=60000):bF n (ts.map er) (kY n ts) 0 (ts.map er):=by
 have hf:=R6 _ _ (show oQ uB fR (l.length+1) l=_ from h);have hc:=El h;refine⟨by omega,by omega,rfl,⟨ts,rfl,rfl⟩,by grind,fun t ht=>?_,fun t ht=>?_⟩
 ·obtain⟨x,hx,rfl⟩:=fT.1 ht;show x.t.length<=1000000
  have:=(hf x hx).z
  omega
 ·obtain⟨x,hx,rfl⟩:=fT.1 ht;exact(hf x hx).n
end Go.Proofs.YtjkcdcloomkooaaGreatDoor
