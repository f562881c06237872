/- Own work: walks and laws of the parser and its reference. -/
import Derived.Test.YtjkcdcloomkooaaGreatDoorQXW
set_option linter.unusedVariables false
set_option linter.unusedSimpArgs false
set_option linter.unusedSectionVars false
set_option maxHeartbeats 4000000
set_option maxRecDepth 100000
namespace Go.Proofs.YtjkcdcloomkooaaGreatDoor
open Go.RowKit
theorem Kn:∀cs:List PV,AV.toP.toPL (cs.map .p)=some cs
 |[]=>rfl
 |c::cs=>by rw[jZ,AV.toP.toPL,Kn cs];rfl
theorem fX.ro{P:Program}{G:World->Prop}{f:FuncId}{cs xs:List PV}{x:Value}{t:TypeId}(h:fX P G f (.rop cs::xs) (.v x)):jP P G f (.own 0 0::xs.map .p) [some (.box (cs.map .p) t none)] (.p (.v x)) [some (.box (cs.map .p) t none)]:=by
 refine⟨h.1,fun B w ι args tags bS hC hR hlen dW=>?_⟩
 match tags,bS with
 |[t0],_=>
  have SI:∀(j:Nat)(a:PV)(v:Value),(PV.rop cs::xs)[j]?=some a->args[j]?=some v->cE w (fun _=>True) a v:=by
   intro j a v ha hv
   cases j with
   |zero=>
    cases ha
    exact Kp hR (dW 0 _ v rfl hv) (show NI _ (.own 0 0)=some (.rop cs) by
     show(match AV.toP.toPL (cs.map .p)with
      |some ps=>some (PV.rop ps)
      |none=>none)=some (.rop cs)
     rw[show AV.toP.toPL (cs.map .p)=some cs from Kn cs])
   |succ j=>
    have h1:xs[j]?=some a:=JJ
    have:=dW (j+1) (.p a) v aZ hv
    cases this with
    |p _ _ h=>exact h.keep (nR _) fun _ _ _=>⟨trivial,rfl⟩
  refine(h.2 w (fun _=>True) args hC.now (by simpa using hlen) SI).mono fun e w' ⟨hg,he⟩=>?_
  obtain⟨v,rfl,hv⟩:=he.val rfl
  cases hv
  exact⟨ι,(hR.regrow hg (fun _ _ h=>h) fun b hb=>hR.fut b (aS hg.size hb)).1,_,rfl,.p _ _ (.v x)⟩
theorem nQ {f : FuncId} {fn : Func} {c : Code} (hf : Tryz.prog.funcs[f]? = some fn) (hb : fn.body = some c) (hn : (fn.name == "runtime.NumGoroutine") = false) (kOf : Nat → Nat) (mOf : Nat → List Nat) (lo : Nat → Nat → Nat) (cU : yB fn.ntmps kOf mOf lo c = true) {xs : List AV} {b : Option cH} {r : AV} {H' : AH} (hl : decide (xs.length ≤ fn.ntmps) = true)
  (h:∀(t0:Nat)(P':Program)(G':World->Prop)(E:SO),(∀f l r,fX Tryz.prog G0 f l r->fX P' G' f l r)->(∀f xs H r H',jP Tryz.prog G0 f xs H r H'->jP P' G' f xs H r H')->E=bK->vN P' G' E cK kOf mOf lo c (eU E cK fn.results.toList [t0] r H') (xs++List.replicate (fn.ntmps-xs.length) (.p (.v undef))) (dC [t0] [b])):VM f xs [b] r H':=
 gS aN hf hb hn (oT hl) fun tags bS=>match tags,bS with
  |[t0],_=>aY.ofM aN mixed kOf mOf lo cU (fun E=>eU E cK fn.results.toList [t0] r H') fun P G E hc hM hE=>h t0 P G E hc hM hE
abbrev sw(LR:List (List PV))(a:Int)(b:Bool):List PV:=[.ro 3 LR,pI a,pB b]
abbrev cZ(LR:List (List PV))(a:Int)(b:Bool):Option cH:=some (.box [.p (.ro 3 LR),.p (pI a),.p (pB b)] 46 none)
section
variable{n:Int}{toks:List Tk}{LR:List (List PV)}{a:Int}{l:Ts}
theorem z7w{k:Nat}(h:l[k]?=none)(w:Bs):aL l k w=false:=by
 unfold aL kd;rw[h];simp
theorem z7v{k:Nat}{t:Tk}(h:l[k]?=some t)(w:Bs):aL l k w=(decide (bL t.t=bL w)&&(decide (t.k=2)||decide (t.k=5))):=by
 unfold aL kd tx;rw[h]
 congr 1
 exact fM.2 ⟨aG bL,yg⟩
theorem bE.rd{E:SO}(hE:E=bK)(h:bE n toks LR a l){k:Nat}{z:Int}(hz:((k:Nat):Int)=z)(hk:k<=1000010):∃b M:Int,E.wadd .i64 a z=b/\E.ofN LR.length=M/\E.ple 0 b/\((l[k]?=none/\E.lti b M=false/\E.lei M b=true)\/∃t y,l[k]?=some t/\E.lti b M=true/\E.lei M b=false/\LR[E.nat b]?=some [pI t.k,pS (bL t.t),pI y]):=by
 have h0:=h.h0;have h1:=h.h1;have dr:=h.z;refine⟨a+z,((toks.length:Nat):Int),by rw[hE];exact jX oM oM,by rw[hE,h.len];rfl,by rw[hE];show 0<=a+z;omega,?_⟩
 cases ht:l[k]? with
 |none=>
  have qJ:l.length<=k:=rS.1 ht;exact .inl ⟨rfl,by rw[hE];exact dF oM,by rw[hE];exact aA oM⟩
 |some t=>
  obtain⟨y,hg⟩:=h.get ht;have cJ:k<l.length:=(aC.1 ht).1;rw[hz]at hg;exact .inr ⟨t,y,rfl,by rw[hE];exact aA oM,by rw[hE];exact dF oM,by rw[hE];exact hg⟩
structure AtF(E:SO)(K:Int)(T W:ByteArray)(d5 d2 dT:Bool):Prop where
 h5:decide (K=5)=d5
 h2:decide (K=2)=d2
 eT:E.eq T W=dT
theorem rn(h:bE n toks LR a l){k:Nat}{z:Int}(hz:((k:Nat):Int)=z)(hk:k<=1000010)(w:Bs)(b:Bool):V0 46 [.rop (sw LR a b),pI z,pS (bL w)] (pB (aL l k w)):=by
 obtain⟨W,hW⟩:∃W,bL w=W:=⟨_,rfl⟩
 obtain⟨b0,M,ea,l0,p1,hh⟩:=h.rd rfl hz hk;clear hk hz
 rcases hh with⟨hn,d1,dx⟩|⟨t,y,ht,d1,dx,g1⟩<;>clear dx
 ·rw[z7w hn,hW];refine dE aN dO mixed (fun n=>match n with|1=>62|_=>0) Tryz.func46 rfl kR kR rfl fun P G E hc hE=>?_
  rw[<-hE]at ea l0 d1;clear hE hc h hn;cbv;cbv at l0;exact mT trivial
 ·rw[z7v ht,hW];obtain⟨T,hT⟩:∃x,bL t.t=x:=⟨_,rfl⟩
  obtain⟨K,hK⟩:∃x,t.k=x:=⟨_,rfl⟩
  rw[hT,hK]at g1 ⊢;obtain⟨d5,h5⟩:∃d,decide (K=5)=d:=⟨_,rfl⟩
  obtain⟨d2,h2⟩:∃d,decide (K=2)=d:=⟨_,rfl⟩
  obtain⟨dT,hd⟩:∃d,decide (T=W)=d:=⟨_,rfl⟩
  rw[h5,h2,hd];clear hT hK ht hW h;have mk:∀E:SO,E=bK->AtF E K T W d5 d2 dT:=fun E hE=>⟨h5,h2,by rw[hE];exact hd⟩
  clear hd h5 h2;obtain⟨q,hq⟩:∃q,(dT&&(d2||d5))=q:=⟨_,rfl⟩
  rw[hq]
  cases d5<;>cases d2<;>cases dT
  all_goals
   first|(obtain rfl:false=q:=hq)|(obtain rfl:true=q:=hq)
   refine dE aN dO mixed (fun n=>match n with|1=>62|_=>0) Tryz.func46 rfl kR kR rfl fun P G E hc hE=>?_
   have fA:=mk E hE;clear mk;rw[<-hE]at ea l0 d1 p1 g1;clear hE hc;cbv;cbv at l0;exact mT trivial
theorem WO(h:bE n toks LR a l){k:Nat}{z:Int}(hz:((k:Nat):Int)=z)(hk:k<=1000010)(b:Bool):V0 67 [.rop (sw LR a b),pI z] (pI (kd l k)):=by
 obtain⟨b0,M,ea,l0,p1,hh⟩:=h.rd rfl hz hk
 rcases hh with⟨hn,dx,d1⟩|⟨t,y,ht,dx,d1,g1⟩<;>clear dx
 ·rw[show kd l k=0 by unfold kd;rw[hn]]
  refine dE aN dO mixed (fun n=>match n with|1=>11|3=>10|_=>0) Tryz.func67 rfl kR kR rfl fun P G E hc hE=>?_
  rw[<-hE]at ea l0 d1;clear hE hc h hn;cbv;cbv at l0;exact mT trivial
 ·rw[show kd l k=t.k by unfold kd;rw[ht]]
  obtain⟨T,hT⟩:∃x,bL t.t=x:=⟨_,rfl⟩
  obtain⟨K,hK⟩:∃x,t.k=x:=⟨_,rfl⟩
  rw[hT,hK]at g1;rw[hK];refine dE aN dO mixed (fun n=>match n with|1=>11|3=>10|_=>0) Tryz.func67 rfl kR kR rfl fun P G E hc hE=>?_
  rw[<-hE]at ea l0 d1 p1 g1;clear hE hc h ht hT hK;cbv;cbv at l0;exact mT trivial
theorem DW(h:bE n toks LR a l)(k:Nat)(hk:k<=1000010)(w:Bs)(b:Bool):VM 46 [.own 0 0,.p (pI (k:Nat)),.p (pS (bL w))] [cZ LR a b] (.p (pB (aL l k w))) [cZ LR a b]:=(rn h rfl hk w b).ro
theorem BN(h:bE n toks LR a l)(k:Nat)(hk:k<=1000010)(b:Bool):VM 67 [.own 0 0,.p (pI (k:Nat))] [cZ LR a b] (.p (pI (kd l k))) [cZ LR a b]:=(WO h rfl hk b).ro
theorem bE.inc{E:SO}(hE:E=bK)(h:bE n toks LR a l)(hl:0<l.length):∃b,bE n toks LR b (l.drop 1)/\E.wadd .i64 a 1=b/\E.wsub .i64 b 1=a:=by
 obtain⟨b,h1,h2,h3,h4⟩:=h.next hl;exact⟨b,h1,by rw[hE,<- h2];exact jX oM oM,by rw[hE,<- h2];show IntKind.i64.wrap (a+1-1)=a;rw[Int.add_sub_cancel];exact jX oM oM⟩
theorem Pb(h:bE n toks LR a l){w:Bs}(ht:aL l 0 w=true):∃a1,bE n toks LR a1 (l.drop 1)/\VM 42 [.own 0 0,.p (pS (bL w))] [cZ LR a false] (.p (pB true)) [cZ LR a1 false]:=by
 have hk:=DW h 0 aT w false
 rw[ht]at hk;obtain⟨a1,h1,e1,e2⟩:=h.inc rfl (nH ht);refine⟨a1,h1,?_⟩;obtain⟨W,hW⟩:∃W,bL w=W:=⟨_,rfl⟩
 rw[hW]at hk ⊢;refine nQ Tryz.func42 rfl kR (fun _=>0) (fun _=>[]) (fun _ _=>0) kR rfl fun t0 P G E hc hM hE=>?_
 replace hk:=hM _ _ _ _ _ hk;rw[<-hE]at e1;clear hc hM hE h h1 ht hW;cbv;refine .z [0] hk rfl rfl rfl ?_;cbv
 grind
theorem Pa(h:bE n toks LR a l){w:Bs}{b:Bool}(hb:b=true\/aL l 0 w=false):VM 42 [.own 0 0,.p (pS (bL w))] [cZ LR a b] (.p (pB false)) [cZ LR a b]:=by
 have hk:=DW h 0 aT w b
 obtain⟨W,hW⟩:∃W,bL w=W:=⟨_,rfl⟩
 cases b with
 |true=>
  refine nQ Tryz.func42 rfl kR (fun _=>0) (fun _=>[]) (fun _ _=>0) kR rfl fun t0 P G E hc hM hE=>?_
  clear hc hM hE h hb hW hk;cbv;trivial
 |false=>
  rw[hb.resolve_left lB]at hk;refine nQ Tryz.func42 rfl kR (fun _=>0) (fun _=>[]) (fun _ _=>0) kR rfl fun t0 P G E hc hM hE=>?_
  exact Ri
theorem xat(h:bE n toks LR a l){w:Bs}(ht:aL l 0 w=true):∃a1,bE n toks LR a1 (l.drop 1)/\VM 44 [.own 0 0,.p (pS (bL w))] [cZ LR a false] (.p (.tup [])) [cZ LR a1 false]:=by
 obtain⟨a1,h1,hk⟩:=Pb h ht;refine⟨a1,h1,?_⟩;obtain⟨W,hW⟩:∃W,bL w=W:=⟨_,rfl⟩
 refine nQ Tryz.func44 rfl kR (fun _=>0) (fun _=>[]) (fun _ _=>0) kR rfl fun t0 P G E hc hM hE=>?_
 replace hk:=hM _ _ _ _ _ hk;clear hc hM hE h h1 ht hW;cbv;refine .z [0] hk rfl rfl rfl ?_;exact j7
theorem xau(h:bE n toks LR a l){w:Bs}{b:Bool}(hb:b=true\/aL l 0 w=false):VM 44 [.own 0 0,.p (pS (bL w))] [cZ LR a b] (.p (.tup [])) [cZ LR a true]:=by
 have hk:=Pa h hb;obtain⟨W,hW⟩:∃W,bL w=W:=⟨_,rfl⟩
 refine nQ Tryz.func44 rfl kR (fun _=>0) (fun _=>[]) (fun _ _=>0) kR rfl fun t0 P G E hc hM hE=>?_
 exact Ri
theorem xav(h:bE n toks LR a l)(ht:kd l 0=1):∃a1,bE n toks LR a1 (l.drop 1)/\VM 69 [.own 0 0] [cZ LR a false] (.p (pS (bL (tx l 0)))) [cZ LR a1 false]:=by
 have hk:=BN h 0 aT false
 rw[ht]at hk;obtain⟨a1,h1,e1,e2⟩:=h.inc rfl (kJ ht aT)
 refine⟨a1,h1,?_⟩;obtain⟨b0,M,ea,l0,p1,hh⟩:=h.rd (k:=0) rfl rfl aT
 rcases hh with⟨hn,_⟩|⟨t,y,dt,dx,dy,g1⟩
 ·unfold kd at ht;rw[hn]at ht;cases ht
 have e0:b0=a:=by rw[<-ea];show IntKind.i64.wrap (a+0)=a;have:=h.h0;have:=h.h1;have:=h.z;rw[Int.add_zero];exact jX oM oM
 rw[e0]at g1 p1;rw[show tx l 0=t.t by unfold tx;rw[dt]]
 generalize bL t.t=T at g1 ⊢;generalize t.k=K at g1;refine nQ Tryz.func69 rfl kR (fun n=>match n with|5=>9|_=>0) (fun _=>[]) (fun _ _=>0) kR rfl fun t0 P G E hc hM hE=>?_
 replace hk:=hM _ _ _ _ _ hk;rw[<-hE]at e1 e2 p1 g1;clear hc hM hE h h1 ht dt ea l0 e0;cbv;refine .z [0] hk rfl rfl rfl ?_;cbv;exact mT trivial
theorem xaw(h:bE n toks LR a l){b:Bool}(hb:b=true\/¬kd l 0=1):VM 69 [.own 0 0] [cZ LR a b] (.p (pS ⟨#[]⟩)) [cZ LR a true]:=by
 have hk:=BN h 0 aT b
 cases b with
 |true=>
  refine nQ Tryz.func69 rfl kR (fun n=>match n with|5=>9|_=>0) (fun _=>[]) (fun _ _=>0) kR rfl fun t0 P G E hc hM hE=>?_
  clear hc hM hE h hb hk;cbv;trivial
 |false=>
  have ek:=dF (hb.resolve_left lB);generalize kd l 0=K at hk ek;refine nQ Tryz.func69 rfl kR (fun n=>match n with|5=>9|_=>0) (fun _=>[]) (fun _ _=>0) kR rfl fun t0 P G E hc hM hE=>?_
  replace hk:=hM _ _ _ _ _ hk;clear hc hM hE h hb;cbv;refine .z [0] hk rfl rfl rfl ?_;exact la
end
def eK(k:Int):Bool:=match k with
 |1|2|3|4|8|27|32|33|34|37|42=>true
 |_=>false
mutual
def pA:PT->List PV
 | .mk k nm i o ks=>[pI k,pS (bL nm),pI i,pI o,rV k ks]
def rV(k:Int):List PT->PV
 |[]=>if eK k=true then .ro 5 []else .v (.slice none 0 0)
 |x::ks=>.ro 5 (pA x::gR ks)
def gR:List PT->List (List PV)
 |[]=>[]
 |k::ks=>pA k::gR ks
end
def oh:List PT->PV
 |[]=>.v (.slice none 0 0)
 |x::ks=>.ro 5 (gR (x::ks))
theorem vg:∀a b:List PT,gR (a++b)=gR a++gR b
 |[],_=>by rfl
 |x::a,b=>by rw[pD,gR,gR,vg a b];rfl
theorem CQ:∀a:List PT,(gR a).length=a.length
 |[]=>by rfl
 |x::a=>by rw[gR,qD,qD,CQ a]
structure fI(x:PT)(k i o:Int)(nm:ByteArray)(K:PV):Prop where
 row:pA x=[pI k,pS nm,pI i,pI o,K]
 one:yM (.p K)=true
 kind:x.kind=k
theorem z1h(k:Int)(ks:List PT):yM (.p (rV k ks))=true:=by
 cases ks with
 |nil=>rw[rV];split<;>rfl
 |cons x ks=>rfl
theorem NG(x:PT):∃k i o nm K,fI x k i o nm K:=by
 cases x with
 |mk k nm i o ks=>exact⟨k,i,o,bL nm,rV k ks,by rw[pA],z1h k ks,rfl⟩
theorem z64(k:Int){R:List (List PV)}(hR:R.length<=1000):V0 17 [pI k,.ro 5 R] (.agg [pI k,pS ⟨#[]⟩,pI 0,pI 0,.ro 5 R]):=by
 refine dE aN dO mixed (fun _=>0) Tryz.func17 rfl kR kR rfl fun P G E hc hE=>?_
 clear hc;cbv;have fO:=gX hE;subst hE
 cases R with
 |nil=>exact⟨nR 0,fO.room 0 0 64 aT aT,nR 0,rfl⟩
 |cons r R=>
  replace hR:R.length+1<=1000:=hR;refine⟨nR 0,fO.room 0 (R.length+1) 64 oM aT,?_,?_⟩
  ·show 0+(0+(R.length+1))<=([]++r::R).length;simp
  ·show PV.agg [_,_,_,_,.ro 5 ((([]++r::R).drop 0).take (0+(R.length+1)))]=_
   grind
theorem z2h(k:Int):V0 17 [pI k,.v (.slice none 0 0)] (.agg [pI k,pS ⟨#[]⟩,pI 0,pI 0,.ro 5 []]):=by
 refine dE aN dO mixed (fun _=>0) Tryz.func17 rfl kR kR rfl fun P G E hc hE=>?_
 clear hc;cbv;subst hE;exact⟨nR 0,⟨by omega,by omega⟩,nR 0,rfl⟩
def DB:List ByteArray:=(zQ.drop 1).map bL
theorem Y4:V0 104 [] (.ro 1 (j4 DB)):=by
 refine dE aN dO mixed (fun _=>0) Tryz.func104 rfl kR kR rfl fun P G E hc hE=>?_
 have p1:E.pre 0 29 (j4 DB):=by rw[hE];exact nR 29
 have t3:E.sub (j4 DB) 0 29=j4 DB:=fS
 exact A5
theorem P9(s:Bs)(fr cnt:Nat)(h1:1<=fr)(h2:fr+cnt<=30)(z1 z2:Int)(e1:((fr:Nat):Int)=z1)(e2:z1+((cnt:Nat):Int)=z2+1):V0 73 [pS (bL s),pI z1,pI z2] (pI (gN s fr cnt)):=by
 have ho:=Y4;obtain⟨R,hR⟩:∃R,j4 DB=R:=⟨_,rfl⟩
 rw[hR]at ho;obtain⟨v,hv⟩:∃v,gN s fr cnt=v:=⟨_,rfl⟩
 rw[hv];obtain⟨T,hT⟩:∃T,bL s=T:=⟨_,rfl⟩
 rw[hT];obtain⟨μ,hμ⟩:∃μ:Int->Nat,∀x,μ x=(z2+1-x).toNat:=⟨_,fun _=>rfl⟩
 refine dE aN dO mixed (fun _=>0) Tryz.func73 rfl kR kR rfl fun P G E hc hE=>?_
 replace ho:=hc _ _ _ ho;clear hc;cbv;refine⟨_,ho,?_⟩;cbv;refine gU 24 [0,1,2,7,8] 0 (fun i:Int=>[.p (pS T),.p (pI z1),.p (pI z2),.p (.ro 1 R),.p (pI i)]) (fun _=>[]) (fun i=>∃m:Nat,z1+((m:Nat):Int)=i/\m<=cnt/\∀j,j<m->zQ[fr+j]?≠some s) μ z1 r5 ⟨0,by omega,aP _,fun j hj=>by omega⟩ ?_
 rintro i ⟨m,hm,AK,hn⟩
 replace hm:z1+((m:Nat):Int)=i:=hm;replace AK:m<=cnt:=AK;replace e1:((fr:Nat):Int)=z1:=e1;replace e2:z1+((cnt:Nat):Int)=z2+1:=e2;have t1:((fr:Nat):Int)+((m:Nat):Int)=i:=by rw[e1];exact hm
 have t2:i+((cnt:Nat):Int)=z2+1+((m:Nat):Int):=by rw[<-hm,<- e2];exact Int.add_right_comm _ _ _
 clear e1 e2
 rcases bB m cnt with cJ|qJ
 ·have d1:E.lei i z2=true:=sF
  have hlen:zQ.length=30:=rfl;obtain⟨w,hw⟩:∃w,zQ[fr+m]?=some w:=⟨_,aB (by rw[hlen];omega)⟩
  obtain⟨TW,GD⟩:∃x,bL w=x:=⟨_,rfl⟩
  obtain⟨i2,mX⟩:∃x:Int,i+1=x:=⟨_,rfl⟩
  obtain⟨i0,iF⟩:∃x:Int,i-1=x:=⟨_,rfl⟩
  have ea:E.wadd .i64 i 1=i2:=EH
  have es:E.wsub .i64 i 1=i0:=by rw[hE,<- iF];exact jX oM oM
  have p0:E.ple 0 i0:=by rw[hE];show 0<=i0;omega
  have g1:R[E.nat i0]?=some [pS TW]:=by
   rw[hE,<- hR,<- GD];show(j4 DB)[i0.toNat]?=_;unfold j4 DB;rw[Bb,aH,dI,show 1+i0.toNat=fr+m by omega,hw]
   rfl
  rcases dP (s=w)with he|he
  ·have q1:E.eq TW T=true:=by rw[hE,<- GD,<- hT,he];exact aA rfl
   have rQ:=M4 cJ (by rw[hw,he]) hn
   rw[hv,show((fr+m:Nat):Int)=i by omega]at rQ
   subst rQ;clear hE hw hlen hn hR;cbv
   repeat (first|(simp only[d1];try cbv)|(simp only[es];try cbv)|(refine⟨p0,_,g1,?_⟩;cbv)|(simp only[q1];try cbv))
   all_goals trivial
  ·have q1:E.eq TW T=false:=by rw[hE,<- GD,<- hT];exact dF fun e=>he (yg e).symm
   have hI:∃m:Nat,z1+((m:Nat):Int)=i2/\m<=cnt/\∀j,j<m->zQ[fr+j]?≠some s:=⟨m+1,by omega,cJ,fun j hj=>by
    rcases bB j m with h|h
    ·exact hn j h
    ·rw[show j=m by omega,hw]
     exact fun e=>he (bA e).symm⟩
   have oU:μ i2<μ i:=pb
   clear hE hμ hn hw hlen hR;cbv
   repeat (first|(simp only[d1];try cbv)|(simp only[es];try cbv)|(refine⟨p0,_,g1,?_⟩;cbv)|(simp only[q1];try cbv)|(simp only[ea];try cbv))
   exact .mk i2 r5 hI oU
 ·have d1:E.lei i z2=false:=sS
  have rQ:=M3 (s:=s) (fr:=fr) (cnt:=cnt) fun j hj=>hn j oM
  rw[hv]at rQ;subst rQ;clear hE hR;cbv
  repeat (first|(simp only[d1];try cbv))
  all_goals trivial
section
variable{n:Int}{toks:List Tk}{LR:List (List PV)}{a:Int}{l:Ts}
theorem bE.tok(h:bE n toks LR a l){k:Nat}{z:Int}(hz:((k:Nat):Int)=z)(hl:k<l.length):∃K T y,kd l k=K/\bL (tx l k)=T/\∀E:SO,E=bK->E.ple 0 (a+z)/\LR[E.nat (a+z)]?=some [pI K,pS T,pI y]:=by
 have h0:=h.h0
 cases ht:l[k]? with
 |none=>grind
 |some t=>
  obtain⟨y,hg⟩:=h.get ht;rw[hz]at hg;exact⟨t.k,bL t.t,y,by unfold kd;rw[ht],by unfold tx;rw[ht],fun E hE=>⟨by rw[hE];show 0<=a+z;omega,by rw[hE];exact hg⟩⟩
theorem bE.tok0(h:bE n toks LR a l)(hl:0<l.length):∃K T y,kd l 0=K/\bL (tx l 0)=T/\∀E:SO,E=bK->E.ple 0 a/\LR[E.nat a]?=some [pI K,pS T,pI y]:=by
 have:=h.tok (k:=0) (z:=0) rfl hl
 simp_all
theorem xfb(h:bE n toks LR a l)(ht:kd l 0=1\/kd l 0=2):∃a1,bE n toks LR a1 (l.drop 1)/\VM 150 [.own 0 0] [cZ LR a false] (.p (pS (bL (tx l 0)))) [cZ LR a1 false]:=by
 have hk:=BN h 0 aT false
 have hl:0<l.length:=ht.elim (fun e=>kJ e aT) fun e=>kJ e aT
 obtain⟨a1,h1,e1,e2⟩:=h.inc rfl hl;refine⟨a1,h1,?_⟩;obtain⟨K,T,y,hK,hT,g⟩:=h.tok0 hl;rw[hK]at hk ht;rw[hT]
 rcases ht with rfl|rfl
 all_goals
  refine nQ Tryz.func150 rfl kR (fun n=>match n with|5=>9|_=>0) (fun _=>[]) (fun _ _=>0) kR rfl fun t0 P G E hc hM hE=>?_
  replace hk:=hM _ _ _ _ _ hk;obtain⟨p1,g1⟩:=g E hE;rw[<-hE]at e1 e2;clear hc hM hE h h1 hK hT hl g;exact Hg
theorem xfc(h:bE n toks LR a l){b:Bool}(hb:b=true\/¬(kd l 0=1\/kd l 0=2)):VM 150 [.own 0 0] [cZ LR a b] (.p (pS ⟨#[]⟩)) [cZ LR a true]:=by
 have hk:=BN h 0 aT b
 cases b with
 |true=>
  refine nQ Tryz.func150 rfl kR (fun n=>match n with|5=>9|_=>0) (fun _=>[]) (fun _ _=>0) kR rfl fun t0 P G E hc hM hE=>?_
  clear hc hM hE h hb hk;cbv;trivial
 |false=>
  have hb:=hb.resolve_left lB;have e1:=dF fun e=>hb (.inl e)
  have e2:=dF fun e=>hb (.inr e)
  generalize kd l 0=K at hk e1 e2;refine nQ Tryz.func150 rfl kR (fun n=>match n with|5=>9|_=>0) (fun _=>[]) (fun _ _=>0) kR rfl fun t0 P G E hc hM hE=>?_
  replace hk:=hM _ _ _ _ _ hk;clear hc hM hE h;exact Rh
theorem xar(h:bE n toks LR a l){fr cnt:Nat}(ht:kd l 0=5\/kd l 0=2)(hn:gN (tx l 0) fr cnt≠0)(h1:1<=fr)(h2:fr+cnt<=30){z1 z2:Int}(e1:((fr:Nat):Int)=z1)(e2:z1+((cnt:Nat):Int)=z2+1):∃a1,bE n toks LR a1 (l.drop 1)/\VM 45 [.own 0 0,.p (pI z1),.p (pI z2)] [cZ LR a false] (.p (pI (gN (tx l 0) fr cnt))) [cZ LR a1 false]:=by
 have hk:=BN h 0 aT false
 have ho:=P9 (tx l 0) fr cnt h1 h2 z1 z2 e1 e2;have hl:0<l.length:=ht.elim (fun e=>kJ e aT) fun e=>kJ e aT
 obtain⟨a1,h1,ea,es⟩:=h.inc rfl hl;clear es;refine⟨a1,h1,?_⟩;have hb:=C2 (tx l 0) fr cnt;obtain⟨K,T,y,hK,hT,g⟩:=h.tok0 hl;rw[hK]at hk ht;rw[hT]at ho;obtain⟨N,hN⟩:∃N,gN (tx l 0) fr cnt=N:=⟨_,rfl⟩
 rw[hN]at hn hb ho ⊢
 rcases ht with rfl|rfl
 all_goals
  refine nQ Tryz.func45 rfl kR (fun n=>match n with|3=>13|_=>0) (fun _=>[]) (fun _ _=>0) kR rfl fun t0 P G E hc hM hE=>?_
  replace hk:=hM _ _ _ _ _ hk;replace ho:=hc _ _ _ ho;obtain⟨p1,g1⟩:=g E hE;have d1:E.lti 0 N=true:=sF
  rw[<-hE]at ea;clear hc hM hE h h1 hK hT hl g hn hb hN h2 e1 e2;exact Hg
theorem xas(h:bE n toks LR a l){fr cnt:Nat}{b:Bool}(hb:b=true\/¬((kd l 0=5\/kd l 0=2)/\gN (tx l 0) fr cnt≠0))(h1:1<=fr)(h2:fr+cnt<=30){z1 z2:Int}(e1:((fr:Nat):Int)=z1)(e2:z1+((cnt:Nat):Int)=z2+1):VM 45 [.own 0 0,.p (pI z1),.p (pI z2)] [cZ LR a b] (.p (pI 0)) [cZ LR a b]:=by
 have hk:=BN h 0 aT b
 have ho:=P9 (tx l 0) fr cnt h1 h2 z1 z2 e1 e2;clear h1 h2 e1 e2
 cases b with
 |true=>
  refine nQ Tryz.func45 rfl kR (fun n=>match n with|3=>13|_=>0) (fun _=>[]) (fun _ _=>0) kR rfl fun t0 P G E hc hM hE=>?_
  clear hc hM hE h hb hk ho;cbv;trivial
 |false=>
  have hb:=hb.resolve_left lB
  rcases dP (kd l 0=5\/kd l 0=2)with ht|ht
  ·have hN:gN (tx l 0) fr cnt=0:=jw.1 fun e=>hb ⟨ht,e⟩
   have hl:0<l.length:=ht.elim (fun e=>kJ e aT) fun e=>kJ e aT
   obtain⟨K,T,y,hK,hT,g⟩:=h.tok0 hl;rw[hK]at hk ht;rw[hT,hN]at ho
   rcases ht with rfl|rfl
   all_goals
    refine nQ Tryz.func45 rfl kR (fun n=>match n with|3=>13|_=>0) (fun _=>[]) (fun _ _=>0) kR rfl fun t0 P G E hc hM hE=>?_
    replace hk:=hM _ _ _ _ _ hk;replace ho:=hc _ _ _ ho;obtain⟨p1,g1⟩:=g E hE;have d1:E.lti 0 0=false:=fS
    clear hc hM hE h hK hT hl g hb hN;exact Hg
  ·have e1:=dF fun e=>ht (.inl e)
   have e2:=dF fun e=>ht (.inr e)
   generalize kd l 0=K at hk e1 e2;refine nQ Tryz.func45 rfl kR (fun n=>match n with|3=>13|_=>0) (fun _=>[]) (fun _ _=>0) kR rfl fun t0 P G E hc hM hE=>?_
   replace hk:=hM _ _ _ _ _ hk;clear hc hM hE h ho;exact Rh
end
theorem K5(a b:Bs):lC (a++b)=b.foldl (fun n c=>10*n+(c.toNat-48)) (lC a):=by unfold lC;rw[List.foldl_append]
theorem Of:∀(b:Bs)(n:Nat),n<=b.foldl (fun n c=>10*n+(c.toNat-48)) n
 |[],n=>nR n
 |c::b,n=>by rw[ua];have:=Of b (10*n+(c.toNat-48));omega
structure I2(E:SO)(T:ByteArray)(N i i2 c d x y z:Int):Prop where
 sz:E.size T=N
 lt:E.lti i N=true
 p0:E.ple 0 i
 g:E.get T (E.nat i)=some c
 sb:E.wsub .u8 c 48=d
 cv:E.wrap .i64 d=d
 m:E.wmul .i64 x 10=y
 ad:E.wadd .i64 y d=z
 ai:E.wadd .i64 i 1=i2
theorem Z1{s:Bs}(hd:∀c∈s,eH c=true)(hv:lC s<9223372036854775808)(hz:s.length<=1000000):V0 164 [pS (bL s)] (.v (.int .i64 (lC s:Nat))):=by
 obtain⟨v,ah⟩:∃v:Int,((lC s:Nat):Int)=v:=⟨_,rfl⟩
 rw[ah];obtain⟨T,hT⟩:∃T,bL s=T:=⟨_,rfl⟩
 have b7:T.size=s.length:=by rw[<-hT];exact List.size_toArray
 rw[hT];obtain⟨N,hN⟩:∃N:Int,((s.length:Nat):Int)=N:=⟨_,rfl⟩
 obtain⟨μ,hμ⟩:∃μ:Int×Int->Nat,∀x,μ x=(N-x.1).toNat:=⟨_,fun _=>rfl⟩
 refine dE aN dO mixed (fun _=>0) Tryz.func164 rfl kR kR rfl fun P G E hc hE=>?_
 clear hc;have sz:E.size T=N:=by rw[hE,<- hN,<- b7];rfl
 cbv;refine gU 20 [0,3,4] 0 (fun x:Int×Int=>[.p (pS T),.p (.v (.int .i64 x.2)),.p (pI x.1)]) (fun _=>[]) (fun x=>∃m:Nat,((m:Nat):Int)=x.1/\m<=s.length/\((lC (s.take m):Nat):Int)=x.2) μ (0,0) r5 ⟨0,rfl,aP _,rfl⟩ ?_
 rintro⟨i,x⟩ ⟨m,hm,pO,hx⟩
 replace hm:((m:Nat):Int)=i:=hm;replace hx:((lC (s.take m):Nat):Int)=x:=hx;replace hN:((s.length:Nat):Int)=N:=hN;replace ah:((lC s:Nat):Int)=v:=ah
 rcases bB m s.length with cJ|qJ
 ·obtain⟨c,hc⟩:∃c,s[m]?=some c:=⟨_,aB cJ⟩
  have sZ:=hd c (aJ hc);have Jb:48<=c.toNat/\c.toNat<=57:=by
   have:=oT sZ
   exact⟨mZ.1 this.1,mZ.1 this.2⟩
  have ak:s.take (m+1)=s.take m++[c]:=by rw[ju,hc];rfl
  have rD:lC (s.take (m+1))=10*lC (s.take m)+(c.toNat-48):=by rw[ak,K5];rfl
  have hle:lC (s.take (m+1))<=lC s:=by
   have:=K5 (s.take (m+1)) (s.drop (m+1))
   rw[List.take_append_drop]at this;rw[this];exact Of _ _
  have g:E.get T (E.nat i)=some ((c.toNat:Nat):Int):=by
   rw[hE,<- hT];show((s.toArray.toList[i.toNat]?).map fun b=>((b.toNat:Nat):Int))=_
   grind
  have hf:I2 E T N i (i+1) ((c.toNat:Nat):Int) (((c.toNat:Nat):Int)-48) x (x*10) (x*10+(((c.toNat:Nat):Int)-48)):=by
   refine⟨sz,?_,?_,g,?_,?_,?_,?_,?_⟩
   ·rw[hE];exact aA oM
   ·rw[hE];show 0<=i;omega
   ·rw[hE];show IntKind.u8.wrap (((c.toNat:Nat):Int)-48)=_;simp only[IntKind.wrap,IntKind.bits,IntKind.signed,cD,aM,bT];omega
   ·rw[hE];exact jX oM oM
   ·rw[hE];exact jX oM oM
   ·rw[hE];exact jX oM oM
   ·rw[hE];exact jX oM oM
  have hI:∃k:Nat,((k:Nat):Int)=i+1/\k<=s.length/\((lC (s.take k):Nat):Int)=x*10+(((c.toNat:Nat):Int)-48):=⟨m+1,by omega,cJ,by omega⟩
  have oU:μ (i+1,x*10+(((c.toNat:Nat):Int)-48))<μ (i,x):=aZ
  generalize ((c.toNat:Nat):Int)=C at hf hI oU;generalize C-48=D at hf hI oU;generalize x*10+D=Z at hf hI oU;generalize x*10=Y at hf;generalize i+1=I at hf hI oU;clear hE hμ g rD hle sZ Jb hc ak cJ pO hm hx hd hv hz sz ah hT b7 hN;cbv;refine mT ?_;exact .mk (I,Z) r5 hI oU
 ·have e:s.take m=s:=mC qJ;rw[e]at hx;have e2:x=v:=dU
  subst e2;have d1:E.lti i N=false:=sS
  clear hE hμ hd hv hz hT b7;cbv
  repeat (first|(simp only[sz];try cbv)|(simp only[d1];try cbv))
  all_goals trivial
section
variable{n:Int}{toks:List Tk}{LR:List (List PV)}{a:Int}{l:Ts}
def Oc(l:Ts)(i:Nat):Bool:=
 if kd l i=1 then aL l (i+1) qX
 else if aL l i jD then(if aL l (i+1) eG then aL l (i+2) qX else nr l (l.length+1) (i+1))
 else false
theorem z4z(l:Ts):ki l=Oc l (if aL l 0 iW then 1 else 0):=rfl
structure Us(E:SO)(i z1 z2:Int):Prop where
 a1:E.wadd .i64 i 1=z1
 a2:E.wadd .i64 i 2=z2
 b1:E.wadd .i64 z1 1=z2
theorem R1{E:SO}(hE:E=bK){k:Nat}{i z1 z2:Int}(hk:((k:Nat):Int)=i)(hz:k<=1000003)(h1:i+1=z1)(h2:i+2=z2):Us E i z1 z2:=by
 refine⟨?_,?_,?_⟩<;>rw[hE]
 ·rw[<-h1];exact jX oM oM
 ·rw[<-h2];exact jX oM oM
 ·rw[<-h2,<- h1,show i+2=i+1+1 by omega];exact jX oM oM
theorem z4y(h:bE n toks LR a l)(b:Bool):V0 40 [.rop (sw LR a b)] (pB (ki l)):=by
 have ca:l.length<=1000000:=dm
 obtain⟨q,hq⟩:∃q,ki l=q:=⟨_,rfl⟩
 rw[hq];rw[z4z]at hq;have wK:=rn h (k:=0) (z:=0) rfl aT iW b
 obtain⟨i0,z0,w0,iF,gp,iI,mw⟩:∃(i0:Nat)(z0:Int)(w0:Bool),(if aL l 0 iW then 1 else 0)=i0/\((i0:Nat):Int)=z0/\i0<=1/\aL l 0 iW=w0/\(w0=true/\z0=1\/w0=false/\z0=0):=by
  grind
 rw[iF]at hq;rw[mw.1]at wK;obtain⟨_,mw⟩:=mw;obtain⟨z1,uR⟩:∃z:Int,z0+1=z:=⟨_,rfl⟩
 obtain⟨z2,dr⟩:∃z:Int,z0+2=z:=⟨_,rfl⟩
 have au:=WO h (k:=i0) gp oM b
 have kS:=rn h (k:=i0+1) (z:=z1) oM oM qX b
 have wW:=rn h (k:=i0) gp oM jD b
 have sT:=rn h (k:=i0+1) (z:=z1) oM oM eG b
 have rG:=rn h (k:=i0+2) (z:=z2) oM oM qX b
 have hF:∀E:SO,E=bK->Us E z0 z1 z2:=fun E hE=>R1 hE gp oM uR dr
 unfold Oc at hq
 by_cases c1:kd l i0=1
 ·rw[aF c1]at hq;rw[c1]at au;rw[hq]at kS
  rcases mw with⟨rfl,rfl⟩|⟨rfl,rfl⟩
  all_goals
   refine dE aN dO mixed (fun _=>0) Tryz.func40 rfl kR kR rfl fun P G E hc hE=>?_
   replace wK:=hc _ _ _ wK;replace au:=hc _ _ _ au;replace kS:=hc _ _ _ kS;have fA:=hF E hE;clear hc hE hF ca gp iF iI uR dr c1 wW sT rG hq h;exact la
 ·rw[aE c1]at hq;have d1:=dF c1;obtain⟨K,hK⟩:∃K,kd l i0=K:=⟨_,rfl⟩
  rw[hK]at au d1;clear hK c1
  cases c2:aL l i0 jD with
  |false=>
   rw[c2]at wW hq;subst hq
   rcases mw with⟨rfl,rfl⟩|⟨rfl,rfl⟩
   all_goals
    refine dE aN dO mixed (fun _=>0) Tryz.func40 rfl kR kR rfl fun P G E hc hE=>?_
    replace wK:=hc _ _ _ wK;replace au:=hc _ _ _ au;replace wW:=hc _ _ _ wW;clear hc hE hF ca gp iF iI uR dr sT kS rG h c2;exact la
  |true=>
   have n5:=nH c2;rw[c2]at wW hq;rw[aF rfl]at hq
   cases c3:aL l (i0+1) eG with
   |true=>
    rw[c3]at sT hq;rw[aF rfl]at hq;rw[hq]at rG
    rcases mw with⟨rfl,rfl⟩|⟨rfl,rfl⟩
    all_goals
     refine dE aN dO mixed (fun _=>0) Tryz.func40 rfl kR kR rfl fun P G E hc hE=>?_
     replace wK:=hc _ _ _ wK;replace au:=hc _ _ _ au;replace wW:=hc _ _ _ wW;replace sT:=hc _ _ _ sT;replace rG:=hc _ _ _ rG;have fA:=hF E hE;clear hc hE hF ca gp iF iI uR dr h c2 c3 n5 hq kS;exact la
   |false=>
    rw[c3]at sT hq;rw[aE lB]at hq;obtain⟨μ,hμ⟩:∃μ:Int×Nat->Nat,∀x,μ x=l.length+3-x.2:=⟨_,fun _=>rfl⟩
    rcases mw with⟨rfl,rfl⟩|⟨rfl,rfl⟩
    all_goals
     refine dE aN dO mixed (fun _=>0) Tryz.func40 rfl kR kR rfl fun P G E hc hE=>?_
     have oJ:=hc;replace wK:=hc _ _ _ wK;replace au:=hc _ _ _ au;replace wW:=hc _ _ _ wW;replace sT:=hc _ _ _ sT;have fA:=hF E hE;clear hc hF kS rG c2 c3;have jK:((i0+1:Nat):Int)=z1/\i0+1<=l.length/\∃m,l.length+1<=m+(i0+1)/\nr l m (i0+1)=q:=⟨by omega,by omega,l.length+1,by omega,hq⟩
     clear hq ca gp iF iI uR dr;cbv;refine mT ?_;refine gU 46 [0,3] 0 (fun x:Int×Nat=>[.p (.rop (sw LR a b)),.p (pI x.1)]) (fun _=>[]) (fun x=>((x.2:Nat):Int)=x.1/\x.2<=l.length/\∃m,l.length+1<=m+x.2/\nr l m x.2=q) μ (z1,i0+1) r5 jK ?_
     clear wK au wW sT fA jK d1
     rintro⟨z,k⟩ ⟨g1,g2,m,g3,hq⟩
     simp only at g1 g2 g3 hq;have ca:l.length<=1000000:=dm
     obtain⟨m,rfl⟩:∃m',m=m'+1:=⟨m-1,by omega⟩
     rw[nr]at hq;obtain⟨y1,vC⟩:∃y:Int,z+1=y:=⟨_,rfl⟩
     obtain⟨y2,uH⟩:∃y:Int,z+2=y:=⟨_,rfl⟩
     have au:=oJ _ _ _ (WO h (k:=k) g1 oM b)
     have sT:=oJ _ _ _ (rn h (k:=k+1) (z:=y1) oM oM eG b)
     have u6:=oJ _ _ _ (rn h (k:=k+2) (z:=y2) oM oM qX b)
     have dw:=oJ _ _ _ (rn h (k:=k+1) (z:=y1) oM oM rY b)
     have fA:=R1 hE g1 oM vC uH
     have g5:((k+2:Nat):Int)=y2:=dU
     rcases dP (kd l k=1)with c1|c1
     ·rw[aF c1]at hq;rw[c1]at au
      rcases tE (aL l (k+1) eG)with c2|c2
      ·rw[c2]at sT;rw[aF c2]at hq;rw[hq]at u6;clear oJ hE hμ g1 g2 g3 g5 dw c1 c2 hq h vC uH ca;exact la
      ·rw[c2]at sT;rw[aE aZ]at hq
       rcases tE (aL l (k+1) rY)with c3|c3
       ·have hp:=nH c3;rw[c3]at dw;rw[aF c3]at hq;have hI:((k+2:Nat):Int)=y2/\k+2<=l.length/\∃m,l.length+1<=m+(k+2)/\nr l m (k+2)=q:=⟨g5,by omega,m,by omega,hq⟩
        have oU:μ (y2,k+2)<μ (z,k):=aZ
        clear oJ hE hμ g1 g2 g3 g5 u6 c1 c2 c3 hq hp h vC uH ca;cbv;refine mT ?_;exact .mk (y2,k+2) r5 hI oU
       ·rw[c3]at dw;rw[aE aZ]at hq
        subst hq;clear oJ hE hμ g1 g2 g3 g5 u6 c1 c2 c3 h vC uH ca;exact la
     ·rw[aE c1]at hq;subst hq;have d1:=dF c1;obtain⟨K,hK⟩:∃K,kd l k=K:=⟨_,rfl⟩
      rw[hK]at au d1;clear oJ hE hμ g1 g2 g3 g5 u6 dw sT c1 hK h vC uH ca;exact la
end
theorem xY(k:Int){R:List (List PV)}{N:Nat}(hN:R.length=N)(hR:N<=1000):VM 17 [.p (pI k),.osl 0 0 N] [some (.rows 5 R 25)] (.p (.agg [pI k,pS ⟨#[]⟩,pI 0,pI 0,.ro 5 R])) [some (.rows 5 R 25)]:=by
 refine nQ Tryz.func17 rfl kR (fun _=>0) (fun _=>[]) (fun _ _=>0) kR rfl fun t0 P G E hc hM hE=>?_
 clear hc hM;cbv;have fO:=gX hE;subst hE hN;have e:(R.drop 0).take R.length=R:=aZ
 refine⟨by show 0+R.length<=R.length;omega,nR 0,fO.room 0 R.length 64 oM aT,?_,?_,rfl,trivial⟩
 ·show 0+(0+R.length)<=([]++(R.drop 0).take R.length).length
  grind
 ·show AV.p (PV.agg [_,_,_,_,.ro 5 ((([]++(R.drop 0).take R.length).drop 0).take (0+R.length))])=_
  grind
theorem HE(k:Int){R:List (List PV)}{N:Nat}(hN:R.length=N)(hR:N<=1000):VM 17 [.p (pI k),.osl 0 0 N] [some (.rows 5 R 25)] (.agg [.p (pI k),.p (pS ⟨#[]⟩),.p (pI 0),.p (pI 0),.osl 2 0 N]) [some (.rows 5 R 25),none,some (.rows 5 R 25)]:=by
 refine Ll aN Tryz.func17 rfl kR (oT kR) fun tags bS=>?_
 match tags,bS with
 |[t0],_=>
  refine aY.of aN mixed (fun _=>0) kR (fun E=>E3 E cK Tryz.f17.results.toList [t0] (.agg [.p (pI k),.p (pS ⟨#[]⟩),.p (pI 0),.p (pI 0),.osl 2 0 N]) [some (.rows 5 R 25),none,some (.rows 5 R 25)]) fun P G E hc hM hE=>?_
  clear hc hM;cbv;have fO:=gX hE;subst hE hN;have e:(R.drop 0).take R.length=R:=aZ
  refine⟨by show 0+R.length<=R.length;omega,nR 0,fO.room 0 R.length 64 oM aT,?_,⟨rfl,?_⟩,trivial⟩
  ·show AV.agg [_,_,_,_,.osl 2 0 (0+R.length)]=_;rw[cB]
  ·show some (cH.rows 5 ([]++(R.drop 0).take R.length) _)=_/\_
   grind
theorem xb4(k:Int):VM 17 [.p (pI k),.p (.v (.slice none 0 0))] [] (.agg [.p (pI k),.p (pS ⟨#[]⟩),.p (pI 0),.p (pI 0),.osl 1 0 0]) [none,some (.rows 5 [] 25)]:=by
 refine Ll aN Tryz.func17 rfl kR (oT kR) fun tags bS=>?_
 match tags,bS with
 |[],_=>
  refine aY.of aN mixed (fun _=>0) kR (fun E=>E3 E cK Tryz.f17.results.toList [] (.agg [.p (pI k),.p (pS ⟨#[]⟩),.p (pI 0),.p (pI 0),.osl 1 0 0]) [none,some (.rows 5 [] 25)]) fun P G E hc hM hE=>?_
  clear hc hM;cbv;have fO:=gX hE;subst hE;exact⟨nR 0,fO.room 0 0 64 aT aT,rfl,⟨rfl,trivial⟩,trivial⟩
def RS.fid:RS->Option FuncId
 | .stms=>some 18
 | .stm=>some 47
 | .block=>some 70
 | .decls _=>some 74
 | .cond=>some 76
 | .loop=>some 77
 | .tryR=>some 78
 | .func _=>some 75
 | .names=>some 68
 | .arrow=>some 41
 | .assign=>some 16
 | .lv 0=>some 43
 | .lv 1=>some 71
 | .lv (k+2)=>if k<=4 then some 103 else none
 | .unary=>some 125
 | .list _=>some 151
 | .chain=>some 138
 | .prim=>some 149
 | .obj=>some 165
 | .field=>some 173
 |_=>none
def RS.args:RS->List AV
 | .decls k=>[.p (pI k)]
 | .func d=>[.p (pB d)]
 | .lv (k+2)=>[.p (pI (k:Nat))]
 | .list e=>[.p (pS (bL e))]
 |_=>[]
def RS.isL:RS->Bool
 | .stms|.stmsL _|.names|.namesL _|.list _|.listL _ _=>true
 |_=>false
def lD(o:RV×Ts×Bool):AV:=.p (.agg (pA o.1.n))
def DC(o:RV×Ts×Bool):AV:=.p (oh o.1.s)
def vn(o:RV×Ts×Bool):AV:=.p (.ro 5 (gR o.1.s))
def RS.val(s:RS)(o:RV×Ts×Bool):AV:=match s with
 | .stms=>vn o
 |s=>if s.isL then DC o else lD o
theorem Ee{s:RS}{o:RV×Ts×Bool}(h:s.isL=false):s.val o=lD o:=by cases s<;>first|rfl|cases h
theorem xd7{s:RS}{o:RV×Ts×Bool}(h:s.isL=true)(h2:s ≠ .stms):s.val o=DC o:=by cases s<;>first|rfl|exact absurd rfl h2|cases h
def iC(toks:List Tk)(LR:List (List PV))(o:RV×Ts×Bool):AH:=[cZ LR (((toks.length:Nat):Int)-((o.2.1.length:Nat):Int)) o.2.2]
def DK:RS->Bool->Bool
 | .names,_=>false
 | .stms,_|.stm,_|.block,_|.decls _,_|.list _,_|.assign,_|.unary,_=>true
 |_,b=>!b
def gK(n:Int)(toks:List Tk)(LR:List (List PV))(s:RS)(l:Ts)(b:Bool):Prop:=DK s b=true->∀m,cG s l b<m->∀f,s.fid=some f->∀a,bE n toks LR a l->∀o,bN m s l b=o->VM f (.own 0 0::s.args) [cZ LR a b] (s.val o) (iC toks LR o)
structure A9(M:Nat)(s:RS)(l:Ts)(b:Bool)(f:FuncId)(z:Bool)(az:List AV):Prop where
 m:cG s l b<M
 f:s.fid=some f
 nd:s.isL=z
 az:s.args=az
 ok:DK s b=true
theorem ux{s s':RS}{l l':Ts}{b b':Bool}(h:rμ l' b'<rμ l b):cG s' l' b'<cG s l b:=by
 cases b with
 |true=>rw[t8]at h;omega
 |false=>exact z6h h
theorem xa2{s s':RS}{l l':Ts}{b b':Bool}(hb:b=false)(h:rμ l' b'<=rμ l b)(hr:s'.rank<s.rank):cG s' l' b'<cG s l b:=by
 subst hb;exact WR h hr
theorem xa4{s s':RS}{l l':Ts}{b b':Bool}(h:rμ l' b'=0\/rμ l' b'<rμ l b)(hb:s'.brk<s.brk):cG s' l' b'<cG s l b:=by
 rcases h with h|h
 ·cases b' with
  |false=>rw[tI]at h;omega
  |true=>
   cases b with
   |true=>exact hb
   |false=>
    have:=LD s'
    show s'.brk<64*(l.length+1)+s.rank;omega
 ·exact ux h
theorem nw{s s':RS}{l l':Ts}{b b':Bool}(h:rμ l' b'<=rμ l b)(hr:s'.rank<=s.rank)(hb:s'.brk<=s.brk):cG s' l' b'<=cG s l b:=by
 have:=LD s'
 cases b' with
 |true=>
  cases b with
  |true=>exact hb
  |false=>show s'.brk<=64*(l.length+1)+s.rank;omega
 |false=>
  cases b with
  |true=>rw[t8,tI]at h;omega
  |false=>rw[tI,tI]at h;show 64*(l'.length+1)+s'.rank<=64*(l.length+1)+s.rank;omega
theorem WH(l:Ts)(b:Bool):rμ l b<=l.length+1:=by cases b<;>simp[rμ]
theorem BW{l:Ts}(k:Nat)(b:Bool)(h:0<l.length)(hk:0<k):rμ (l.drop k) b<rμ l b\/rμ (l.drop k) b=0:=by
 cases b with
 |true=>exact .inr rfl
 |false=>rw[tI,tI,yR];exact .inl oM
structure aW(R:RR)(p:RP)(l:Ts)(b:Bool)(o:RV×Ts×Bool):Prop where
 h:p.run R l b=o
section
variable{n:Int}{toks:List Tk}{LR:List (List PV)}{a:Int}{l:Ts}{b:Bool}{R:RR}{o:RV×Ts×Bool}{G:Prop}{M m:Nat}
theorem Qd(h:bE n toks LR a l){w:Bs}{k:RP}(ho:aW R (RP.need w k) l b o)
  (A:∀l1 b1 a1,bE n toks LR a1 l1->aW R k l1 b1 o->(rμ l1 b1<rμ l b\/rμ l1 b1=0)->rμ l1 b1<=rμ l b->VM 44 [.own 0 0,.p (pS (bL w))] [cZ LR a b] (.p (.tup [])) [cZ LR a1 b1]->G):G:=by
 obtain⟨ho⟩:=ho;rw[RP.run]at ho
 split at ho
 ·rename_i hc;obtain⟨a1,h1,hk⟩:=xat h hc.2
  have:=BW 1 false (nH hc.2) aT
  obtain⟨hb,_⟩:=hc;subst hb;have h2:rμ (l.drop 1) false<rμ l false:=this.elim id fun e=>by rw[tI]at e;omega
  exact A _ _ a1 h1 ⟨ho⟩ (.inl h2) (dA h2) hk
 ·rename_i hc;refine A _ _ a h ⟨ho⟩ (.inr rfl) Gk (xau h ?_)
  cases b with
  |true=>exact .inl rfl
  |false=>exact .inr (by cases hi:aL l 0 w with
   |true=>exact absurd ⟨rfl,hi⟩ hc
   |false=>rfl)
theorem GY(h:bE n toks LR a l){w:Bs}{x y:RP}(ho:aW R (RP.take w x y) l b o)
  (A:∀a1,bE n toks LR a1 (l.drop 1)->aW R x (l.drop 1) false o->rμ (l.drop 1) false<rμ l b->b=false->VM 42 [.own 0 0,.p (pS (bL w))] [cZ LR a b] (.p (pB true)) [cZ LR a1 false]->G)
  (B:aW R y l b o->VM 42 [.own 0 0,.p (pS (bL w))] [cZ LR a b] (.p (pB false)) [cZ LR a b]->G):G:=by
 obtain⟨ho⟩:=ho;rw[RP.run]at ho
 split at ho
 ·rename_i hc;obtain⟨a1,h1,hk⟩:=Pb h hc.2
  have:=BW 1 false (nH hc.2) aT
  obtain⟨hb,_⟩:=hc;subst hb;exact A a1 h1 ⟨ho⟩ (this.elim id fun e=>by rw[tI]at e;omega) rfl hk
 ·rename_i hc;refine B ⟨ho⟩ (Pa h ?_)
  cases b with
  |true=>exact .inl rfl
  |false=>exact .inr (by cases hi:aL l 0 w with
   |true=>exact absurd ⟨rfl,hi⟩ hc
   |false=>rfl)
theorem sAt(h:bE n toks LR a l){k:Nat}(hk:k<=1000){w:Bs}{x y:RP}(ho:aW R (RP.at_ k w x y) l b o)
  (A:aW R x l b o->aL l k w=true->VM 46 [.own 0 0,.p (pI (k:Nat)),.p (pS (bL w))] [cZ LR a b] (.p (pB true)) [cZ LR a b]->V0 46 [.rop (sw LR a b),pI (k:Nat),pS (bL w)] (pB true)->G)
  (B:aW R y l b o->aL l k w=false->VM 46 [.own 0 0,.p (pI (k:Nat)),.p (pS (bL w))] [cZ LR a b] (.p (pB false)) [cZ LR a b]->V0 46 [.rop (sw LR a b),pI (k:Nat),pS (bL w)] (pB false)->G):G:=by
 obtain⟨ho⟩:=ho;have hr:=rn h (k:=k) rfl oM w b
 have hm:=DW h k oM w b
 rw[RP.run]at ho
 cases hi:aL l k w with
 |true=>rw[hi]at ho hr hm;exact A ⟨ho⟩ hi hm hr
 |false=>rw[hi]at ho hr hm;exact B ⟨ho⟩ hi hm hr
theorem sKd(h:bE n toks LR a l){k:Nat}(hk:k<=1000){q:Int}{x y:RP}(ho:aW R (RP.kdI k q x y) l b o)
  (A:∀K,aW R x l b o->kd l k=q->decide (K=q)=true->VM 67 [.own 0 0,.p (pI (k:Nat))] [cZ LR a b] (.p (pI K)) [cZ LR a b]->V0 67 [.rop (sw LR a b),pI (k:Nat)] (pI K)->G)
  (B:∀K,aW R y l b o->kd l k≠q->decide (K=q)=false->VM 67 [.own 0 0,.p (pI (k:Nat))] [cZ LR a b] (.p (pI K)) [cZ LR a b]->V0 67 [.rop (sw LR a b),pI (k:Nat)] (pI K)->G):G:=by
 obtain⟨ho⟩:=ho;have hr:=WO h (k:=k) rfl oM b
 have hm:=BN h k oM b
 rw[RP.run]at ho
 split at ho
 ·rename_i hc;exact A _ ⟨ho⟩ hc (aA hc) hm hr
 ·rename_i hc;exact B _ ⟨ho⟩ hc (dF hc) hm hr
theorem sKl{k:Nat}{K:Int}(hK:kd l k=K){q:Int}{x y:RP}(ho:aW R (RP.kdI k q x y) l b o)(A:aW R x l b o->kd l k=q->decide (K=q)=true->G)(B:aW R y l b o->kd l k≠q->decide (K=q)=false->G):G:=by
 obtain⟨ho⟩:=ho;subst hK;rw[RP.run]at ho
 split at ho
 ·rename_i hc;exact A ⟨ho⟩ hc (aA hc)
 ·rename_i hc;exact B ⟨ho⟩ hc (dF hc)
theorem xep(h:bE n toks LR a l){x y:RP}(ho:aW R (RP.ahead x y) l b o)
  (A:aW R x l b o->VM 40 [.own 0 0] [cZ LR a b] (.p (pB true)) [cZ LR a b]->V0 40 [.rop (sw LR a b)] (pB true)->G)
  (B:aW R y l b o->VM 40 [.own 0 0] [cZ LR a b] (.p (pB false)) [cZ LR a b]->V0 40 [.rop (sw LR a b)] (pB false)->G):G:=by
 obtain⟨ho⟩:=ho;have hr:=z4y h b;rw[RP.run]at ho
 cases hi:ki l with
 |true=>rw[hi]at ho hr;exact A ⟨ho⟩ hr.ro hr
 |false=>rw[hi]at ho hr;exact B ⟨ho⟩ hr.ro hr
theorem OG(h:bE n toks LR a l){k:Bs->RP}(ho:aW R (RP.name k) l b o)
  (A:∀s T l1 b1 a1,bE n toks LR a1 l1->aW R (k s) l1 b1 o->bL s=T->(rμ l1 b1<rμ l b\/rμ l1 b1=0)->rμ l1 b1<=rμ l b->VM 69 [.own 0 0] [cZ LR a b] (.p (pS T)) [cZ LR a1 b1]->G):G:=by
 obtain⟨ho⟩:=ho;rw[RP.run]at ho
 split at ho
 ·rename_i hc;obtain⟨a1,h1,hk⟩:=xav h hc.2
  have:=BW 1 false (kJ hc.2 aT) aT
  obtain⟨hb,_⟩:=hc;subst hb;have h2:rμ (l.drop 1) false<rμ l false:=this.elim id fun e=>by rw[tI]at e;omega
  exact A _ _ _ _ a1 h1 ⟨ho⟩ rfl (.inl h2) (dA h2) hk
 ·rename_i hc;refine A _ _ _ _ a h ⟨ho⟩ rfl (.inr rfl) Gk (xaw h ?_)
  cases b with
  |true=>exact .inl rfl
  |false=>exact .inr fun e=>hc ⟨rfl,e⟩
theorem F6(h:bE n toks LR a l){k:Bs->RP}(ho:aW R (RP.key k) l b o)
  (A:∀s T l1 b1 a1,bE n toks LR a1 l1->aW R (k s) l1 b1 o->bL s=T->(rμ l1 b1<rμ l b\/rμ l1 b1=0)->rμ l1 b1<=rμ l b->VM 150 [.own 0 0] [cZ LR a b] (.p (pS T)) [cZ LR a1 b1]->G):G:=by
 obtain⟨ho⟩:=ho;rw[RP.run]at ho
 split at ho
 ·rename_i hc;obtain⟨a1,h1,hk⟩:=xfb h hc.2
  have:=BW 1 false (hc.2.elim (fun e=>kJ e aT) fun e=>kJ e aT) aT
  obtain⟨hb,_⟩:=hc;subst hb;have h2:rμ (l.drop 1) false<rμ l false:=this.elim id fun e=>by rw[tI]at e;omega
  exact A _ _ _ _ a1 h1 ⟨ho⟩ rfl (.inl h2) (dA h2) hk
 ·rename_i hc;refine A _ _ _ _ a h ⟨ho⟩ rfl (.inr rfl) Gk (xfc h ?_)
  cases b with
  |true=>exact .inl rfl
  |false=>exact .inr fun e=>hc ⟨rfl,e⟩
theorem BI(h:bE n toks LR a l){fr cnt:Nat}{k:Int->RP}(ho:aW R (RP.oper fr cnt k) l b o)(h1:1<=fr)(h2:fr+cnt<=30)(h3:1<=cnt)
  (A:∀N a1,bE n toks LR a1 (l.drop 1)->aW R (k N) (l.drop 1) false o->rμ (l.drop 1) false<rμ l b->b=false->N≠0->0<=N->N<=30->VM 45 [.own 0 0,.p (pI (fr:Nat)),.p (pI (fr+cnt-1:Nat))] [cZ LR a b] (.p (pI N)) [cZ LR a1 false]->G)
  (B:aW R (k 0) l b o->VM 45 [.own 0 0,.p (pI (fr:Nat)),.p (pI (fr+cnt-1:Nat))] [cZ LR a b] (.p (pI 0)) [cZ LR a b]->G):G:=by
 obtain⟨ho⟩:=ho;have hb:=C2 (tx l 0) fr cnt;have e1:((fr:Nat):Int)=((fr:Nat):Int):=rfl;have e2:((fr:Nat):Int)+((cnt:Nat):Int)=((fr+cnt-1:Nat):Int)+1:=dU
 rw[RP.run]at ho
 split at ho
 ·rename_i hc;obtain⟨a1,g1,hk⟩:=xar h hc.2.1 hc.2.2 h1 h2 e1 e2
  have:=BW 1 false (hc.2.1.elim (fun e=>kJ e aT) fun e=>kJ e aT) aT
  obtain⟨i7,gy,AN⟩:=hc;subst i7;exact A _ a1 g1 ⟨ho⟩ (this.elim id fun e=>by rw[tI]at e;omega) rfl AN hb.1 oM hk
 ·rename_i hc;refine B ⟨ho⟩ (xas h ?_ h1 h2 e1 e2)
  cases b with
  |true=>exact .inl rfl
  |false=>exact .inr fun e=>hc ⟨rfl,e⟩
theorem oN{E:SO}(hE:E=bK){N:Int}(h0:0<=N)(hn:N≠0):E.lti 0 N=true:=sF
theorem o0{E:SO}(hE:E=bK):E.lti 0 0=false:=fS
theorem F9{N:Int}{x y:RP}(hn:N≠0)(ho:aW R (if N=0 then x else y) l b o):aW R y l b o:=by rwa[aE hn]at ho
theorem F8{x y:RP}(ho:aW R (if(0:Int)=0 then x else y) l b o):aW R x l b o:=ho
theorem ON{x y:PT}{k i q k2 i2 q2 kk N:Int}{nm nm2:ByteArray}{K K2:PV}(hx:fI x k2 i2 q2 nm2 K2)(hv:fI y k i q nm K):fI (fR kk N [x,y]) kk 0 N ⟨#[]⟩ (.ro 5 [[pI k2,pS nm2,pI i2,pI q2,K2],[pI k,pS nm,pI i,pI q,K]]):=
 ⟨by simp only[fR,pA,rV,gR,hx.row,hv.row];rfl,rfl,rfl⟩
theorem Fb{E:SO}(hE:E=bK){N:Int}(hN:0<=N){x y:RP}(ho:aW R (if N=0 then x else y) l b o)(A:aW R x l b o->N=0->E.lti 0 N=false->G)(B:aW R y l b o->N≠0->E.lti 0 N=true->G):G:=by
 obtain⟨ho⟩:=ho
 split at ho
 ·rename_i hc;exact A ⟨ho⟩ hc sS
 ·rename_i hc;exact B ⟨ho⟩ hc sF
theorem Fd{x y:RP}(ho:aW R (RP.bad x y) l b o)(A:aW R x l true o->b=true->G)(B:aW R y l false o->b=false->G):G:=by
 cases b with
 |true=>exact A ⟨ho.h⟩ rfl
 |false=>exact B ⟨ho.h⟩ rfl
theorem OI{x y:RP}(ho:aW R (RP.bad x y) l true o):aW R x l true o:=⟨ho.h⟩
theorem OJ{x y:RP}(ho:aW R (RP.bad x y) l false o):aW R y l false o:=⟨ho.h⟩
theorem OH{x:RP}(ho:aW R (RP.fail x) l b o):aW R x l true o:=⟨ho.h⟩
theorem F5{k:Nat}{x:Bs->RP}(ho:aW R (RP.ptx k x) l b o):aW R (x (tx l k)) l b o:=⟨ho.h⟩
theorem F4{v:RV}(ho:aW R (RP.ret v) l b o):(v,l,b)=o:=ho.h
theorem sTl{s:RS}(ho:aW R (RP.tail s) l b o):R s l b=o:=ho.h
theorem Fc{E:SO}(hE:E=bK){M:Int}(mY:((toks.length:Nat):Int)=M)(h:bE n toks LR a l){x y:RP}(ho:aW R (RP.eof x y) l b o)(A:aW R x l b o->l=[]->E.lti a M=false->E.lei M a=true->G)(B:aW R y l b o->0<l.length->E.lti a M=true->E.lei M a=false->G):G:=by
 obtain⟨ho⟩:=ho;have h1:=h.h1;rw[RP.run]at ho
 split at ho
 ·rename_i hc;rw[hc]at h1;exact A ⟨ho⟩ hc (by rw[hE];exact dF (by simp at h1;omega)) (by rw[hE];exact aA (by simp at h1;omega))
 ·rename_i hc
  have:=aV.2 hc
  exact B ⟨ho⟩ this sF sS
theorem uj(hM:M<=m)(ih:∀s' l' b',cG s' l' b'<M->gK n toks LR s' l' b')(h:bE n toks LR a l){s:RS}{k:PT->RP}(ho:aW (bN m) (RP.call s k) l b o){f:FuncId}{az:List AV}(H:A9 M s l b f false az)
  (A:∀x l1 b1 a1 k1 i q nm KK,bE n toks LR a1 l1->aW (bN m) (k x) l1 b1 o->rμ l1 b1<=rμ l b->fI x k1 i q nm KK->VM f (.own 0 0::az) [cZ LR a b] (.p (.agg [pI k1,pS nm,pI i,pI q,KK])) [cZ LR a1 b1]->G):G:=by
 obtain⟨ho⟩:=ho;obtain⟨h1,h2,h3,h4,h5⟩:=H;have hg:=ih s l b h1 h5 m oM f h2 a h _ rfl
 rw[Ee h3,h4]at hg;have he:=nC m s l b;obtain⟨k1,i,q,nm,KK,hv⟩:=NG (bN m s l b).1.n;have oV:VM f (.own 0 0::az) [cZ LR a b] (.p (.agg (pA (bN m s l b).1.n))) (iC toks LR (bN m s l b)):=hg;rw[hv.row]at oV;exact A _ _ _ _ k1 i q nm KK (h.suf he.s) ⟨ho⟩ he.μ hv oV
theorem OC(hM:M<=m)(ih:∀s' l' b',cG s' l' b'<M->gK n toks LR s' l' b')(h:bE n toks LR a l){s:RS}(ho:aW (bN m) (RP.tail s) l b o){f:FuncId}{az:List AV}(H:A9 M s l b f false az)
  (A:∀k1 i q nm KK,fI o.1.n k1 i q nm KK->VM f (.own 0 0::az) [cZ LR a b] (.p (.agg [pI k1,pS nm,pI i,pI q,KK])) (iC toks LR o)->G):G:=by
 obtain⟨ho⟩:=ho;obtain⟨h1,h2,h3,h4,h5⟩:=H;have hg:=ih s l b h1 h5 m oM f h2 a h _ ho
 rw[Ee h3,h4]at hg;obtain⟨k1,i,q,nm,KK,hv⟩:=NG o.1.n;have oV:VM f (.own 0 0::az) [cZ LR a b] (.p (.agg (pA o.1.n))) (iC toks LR o):=hg;rw[hv.row]at oV;exact A k1 i q nm KK hv oV
theorem Ex{E:SO}(hE:E=bK){N Q:Int}(h0:0<=N)(h1:N<=30)(hQ:N+100=Q):E.wadd .i64 N 100=Q:=by rw[hE,<- hQ];exact jX oM oM
theorem F7{k:Nat}{K:Int}(hK:kd l k=K){x:Int->RP}(ho:aW R (RP.kdv k x) l b o):aW R (x K) l b o:=by subst hK;exact⟨ho.h⟩
theorem Fa{N q:Int}{x y:RP}(ho:aW R (if N=q then x else y) l b o)(A:aW R x l b o->decide (N=q)=true->G)(B:aW R y l b o->decide (N=q)=false->G):G:=by
 split at ho
 ·rename_i hc;exact A ho (aA hc)
 ·rename_i hc;exact B ho (dF hc)
theorem OE{E:SO}(hE:E=bK)(h:bE n toks LR a l)(hl:0<l.length){x:RP}(ho:aW R (RP.skip 1 x) l b o)(A:∀a1,bE n toks LR a1 (l.drop 1)->E.wadd .i64 a 1=a1->aW R x (l.drop 1) b o->(rμ (l.drop 1) b<rμ l b\/rμ (l.drop 1) b=0)->rμ (l.drop 1) b<=rμ l b->G):G:=by
 obtain⟨a1,h1,e1,_⟩:=h.inc hE hl;have h2:=BW 1 b hl aT
 exact A a1 h1 e1 ⟨ho.h⟩ h2 (h2.elim dA fun e=>by rw[e];exact aP _)
theorem xek{E:SO}(hE:E=bK)(h:bE n toks LR a l)(hl:2<l.length){x:RP}(ho:aW R (RP.skip 3 x) l b o)(A:∀a1,bE n toks LR a1 (l.drop 3)->E.wadd .i64 a 3=a1->aW R x (l.drop 3) b o->(rμ (l.drop 3) b<rμ l b\/rμ (l.drop 3) b=0)->rμ (l.drop 3) b<=rμ l b->G):G:=by
 have h2:=BW (l:=l) 3 b oM aT
 have h0:=h.h0;have h3:=h.h1;have h4:=h.z;exact A (a+3) (h.drop 3 oM rfl) ZL ⟨ho.h⟩ h2 (h2.elim dA fun e=>by rw[e];exact aP _)
theorem rK9(ks:List PT):rV 9 ks=oh ks:=by cases ks<;>simp[rV,oh,gR,eK]
theorem Fl(ks:List PT):rV 10 ks=oh ks:=by cases ks<;>simp[rV,oh,gR,eK]
theorem Fk(ks:List PT):rV 27 ks=.ro 5 (gR ks):=by cases ks<;>simp[rV,gR,eK]
theorem xeo(hM:M<=m)(ih:∀s' l' b',cG s' l' b'<M->gK n toks LR s' l' b')(h:bE n toks LR a l){s:RS}{k:List PT->RP}(ho:aW (bN m) (RP.calls s k) l b o){f:FuncId}{az:List AV}(H:A9 M s l b f true az)(hs:s ≠ .stms)
  (A:∀l1 b1 a1,bE n toks LR a1 l1->aW (bN m) (k []) l1 b1 o->rμ l1 b1<=rμ l b->VM f (.own 0 0::az) [cZ LR a b] (.p (.v (.slice none 0 0))) [cZ LR a1 b1]->G)
  (B:∀ks R l1 b1 a1,bE n toks LR a1 l1->aW (bN m) (k ks) l1 b1 o->rμ l1 b1<=rμ l b->oh ks=.ro 5 R->VM f (.own 0 0::az) [cZ LR a b] (.p (.ro 5 R)) [cZ LR a1 b1]->G):G:=by
 obtain⟨h1,h2,h3,h4,h5⟩:=H;have hg:=ih s l b h1 h5 m oM f h2 a h _ rfl
 rw[xd7 h3 hs,h4]at hg;have he:=nC m s l b;have oV:VM f (.own 0 0::az) [cZ LR a b] (.p (oh (bN m s l b).1.s)) (iC toks LR (bN m s l b)):=hg;have vZ:aW (bN m) (k (bN m s l b).1.s) (bN m s l b).2.1 (bN m s l b).2.2 o:=⟨ho.h⟩;generalize (bN m s l b).1.s=ks at oV vZ
 cases ks with
 |nil=>exact A _ _ _ (h.suf he.s) vZ he.μ oV
 |cons x ks=>exact B (x::ks) _ _ _ _ (h.suf he.s) vZ he.μ rfl oV
theorem G1(h:bE n toks LR a l)(hk:kd l 0=3){T:ByteArray}(hT:bL (tx l 0)=T):∃N:Int,((lC (tx l 0):Nat):Int)=N/\V0 164 [pS T] (.v (.int .i64 N)):=by
 obtain⟨t,ht⟩:∃t,l[0]?=some t:=⟨_,aB (kJ hk aT)⟩
 have hm:t∈toks:=by rw[<-h.d]at ht;exact jA (aJ ht)
 have e1:kd l 0=t.k:=by unfold kd;rw[ht]
 have e2:tx l 0=t.t:=by unfold tx;rw[ht]
 rw[e2]at hT ⊢;obtain⟨h1,_,h3⟩:=h.tn t hm (e1.symm.trans hk)
 have:=Z1 h1 h3 (h.tz t hm)
 rw[hT]at this;exact⟨_,rfl,this⟩
theorem OD(hM:M<=m)(ih:∀s' l' b',cG s' l' b'<M->gK n toks LR s' l' b')(h:bE n toks LR a l){k:List PT->RP}(ho:aW (bN m) (RP.calls .stms k) l b o)(hm:cG .stms l b<M)
  (A:∀ks R l1 b1 a1,bE n toks LR a1 l1->aW (bN m) (k ks) l1 b1 o->rμ l1 b1<=rμ l b->gR ks=R->VM 18 [.own 0 0] [cZ LR a b] (.p (.ro 5 R)) [cZ LR a1 b1]->G):G:=by
 have hg:=ih .stms l b hm rfl m oM _ rfl a h _ rfl
 have he:=nC m .stms l b;exact A _ _ _ _ _ (h.suf he.s) ⟨ho.h⟩ he.μ rfl hg
theorem bo{s:RS}(ho:aW (bN m) (RP.tail s) l b o)(hm:cG s l b<m):∃m2,cG s l b<=m2/\aW (bN m2) (gr s) l b o:=by
 obtain⟨m2,rfl⟩:∃k,m=k+1:=⟨m-1,by omega⟩
 exact⟨m2,aO hm,⟨ho.h⟩⟩
theorem xa5{ks:List PT}(h:ks≠[]):oh ks=.ro 5 (gR ks):=by
 cases ks with
 |nil=>exact absurd rfl h
 |cons x ks=>rfl
theorem z6i:oh []=.v (.slice none 0 0):=rfl
theorem z1s(ks:List PT)(x:PT):oh (ks++[x])=.ro 5 (gR ks++[pA x]):=by
 rw[xa5 jT,vg,gR,gR]
theorem Xp(k:Int)(ks:List PT)(x:PT):rV k (ks++[x])=.ro 5 (gR ks++[pA x]):=by
 cases ks with
 |nil=>rw[gR];rfl
 |cons y ks=>rw[pD,rV,gR,vg,gR,gR];rfl
theorem oc{E:SO}(hE:E=bK){R:List (List PV)}{N N2:Nat}(hN:R.length=N)(hz:N<=2000000)(fT:N+1=N2)(row:List PV):∃R2,R++[row]=R2/\EN E R N row R2 N2:=⟨_,rfl,ig hE hN hz rfl fT⟩
def JC(o:RV×Ts×Bool):AV:=match o.1.s with
 |[]=>.p (.v (.slice none 0 0))
 |_::xs=>.osl 1 0 (xs.length+1)
def JD(toks:List Tk)(LR:List (List PV))(o:RV×Ts×Bool):AH:=match o.1.s with
 |[]=>iC toks LR o
 |x::xs=>iC toks LR o++[some (.rows 5 (gR (x::xs)) 25)]
theorem xga(l:Ts)(b:Bool):JC (.ls [],l,b)=.p (.v (.slice none 0 0)):=rfl
theorem xb6(l:Ts)(b:Bool):JD toks LR (.ls [],l,b)=iC toks LR (.ls [],l,b):=rfl
theorem z57(ks:List PT)(x:PT)(l:Ts)(b:Bool):JC (.ls (ks++[x]),l,b)=.osl 1 0 (ks.length+1):=by
 cases ks with
 |nil=>rfl
 |cons y ks=>show AV.osl 1 0 ((ks++[x]).length+1)=_;simp
theorem z65(ks:List PT)(x:PT)(l:Ts)(b:Bool):JD toks LR (.ls (ks++[x]),l,b)=[cZ LR (((toks.length:Nat):Int)-((l.length:Nat):Int)) b,some (.rows 5 (gR ks++[pA x]) 25)]:=by
 have:gR (ks++[x])=gR ks++[pA x]:=by rw[vg,gR,gR]
 rw[<-this]
 cases ks with
 |nil=>rfl
 |cons y ks=>rfl
theorem Bo{s s':RS}{l l':Ts}{b b':Bool}(h:rμ l' b'<=rμ l b)(hr:s'.rank<s.rank)(hb:s'.brk<s.brk):cG s' l' b'<cG s l b:=by
 have:=LD s'
 cases b with
 |true=>
  cases b' with
  |true=>exact hb
  |false=>rw[t8,tI]at h;omega
 |false=>exact WR h hr
theorem F3(hM:M<=m)(ih:∀s' l' b',cG s' l' b'<M->gK n toks LR s' l' b')(h:bE n toks LR a l){k:PT->RP}(ho:aW (bN m) (RP.call .stm k) l false o){f:FuncId}{az:List AV}(H:A9 M .stm l false f false az)
  (A:∀x l1 b1 a1 k1 i q nm KK,bE n toks LR a1 l1->aW (bN m) (k x) l1 b1 o->rμ l1 b1<rμ l false->fI x k1 i q nm KK->VM f (.own 0 0::az) [cZ LR a false] (.p (.agg [pI k1,pS nm,pI i,pI q,KK])) [cZ LR a1 b1]->G):G:=by
 have hm:=H.m;have h64:64<=cG .stm l false:=by show 64<=64*(l.length+1)+30;omega
 obtain⟨m',rfl⟩:∃k,m=k+2:=⟨m-2,by omega⟩
 have he:=z5p m' l false;refine uj hM ih h ho H fun x l1 b1 a1 k1 i q nm KK g1 g2 g3 g4 g5=>?_
 obtain⟨h1,h2,h3,h4,h5⟩:=H;have hg:=ih .stm l false h1 h5 (m'+2) oM f h2 a h _ rfl
 rw[Ee h3,h4]at hg;have Az:=nC (m'+2) .stm l false;obtain⟨k1,i,q,nm,KK,hv⟩:=NG (bN (m'+2) .stm l false).1.n;have oV:VM f (.own 0 0::az) [cZ LR a false] (.p (.agg (pA (bN (m'+2) .stm l false).1.n))) (iC toks LR (bN (m'+2) .stm l false)):=hg;rw[hv.row]at oV;refine A _ _ _ _ k1 i q nm KK (h.suf Az.s) ⟨ho.h⟩ ?_ hv oV
 rcases he with he|he
 ·exact he
 ·rw[he,t8,tI];omega
theorem Dj:∀(m:Nat)(acc:List PT)(l:Ts)(b:Bool),(bN m (.namesL acc) l b).1.s.length<=acc.length+l.length+1
 |0,acc,l,b=>aP _
 |m+1,acc,l,b=>by
  rw[rL];show((BT acc).run (bN m) l b).1.s.length<=_;unfold BT;simp only[RP.run]
  split
  ·split<;>(show acc.length<=_;omega)
  ·split
   ·rename_i hk;have h0:=kJ hk.2 aT
    split
    ·rename_i hc;have h1:=nH hc.2;rw[yR]at h1
     have:=Dj m (acc++[dV 7 (tx l 0) []]) ((l.drop 1).drop 1) false
     rw[sE,yR,yR]at this;simp only[qD,bW]at this;omega
    ·exact Hb
   ·split
    ·rename_i hc;cases hc.1
    ·exact Hb
theorem z2k(m:Nat)(l:Ts)(b:Bool):(bN m .names l b).1.s.length<=l.length+1:=by
 cases m with
 |zero=>exact aP _
 |succ m=>
  rw[rL];show((RP.need jD (.take eG (.ret (.ls [])) (.tail (.namesL [])))).run (bN m) l b).1.s.length<=_;simp only[RP.run]
  split
  ·split
   ·exact aP _
   ·have:=Dj m [] (l.drop 1) false
    rw[yR]at this;exact Gu
  ·split
   ·rename_i hc;cases hc.1
   ·have:=Dj m [] l true
    exact Gu
theorem Wj{k i q k2 i2 q2:Int}{nm nm2:ByteArray}{K K2:PV}(ok:yM (.p K)=true)(ok2:yM (.p K2)=true)(kk N:Int):V0 72 [pI kk,pI N,.agg [pI k2,pS nm2,pI i2,pI q2,K2],.agg [pI k,pS nm,pI i,pI q,K]] (.agg [pI kk,pS ⟨#[]⟩,pI 0,pI N,.ro 5 [[pI k2,pS nm2,pI i2,pI q2,K2],[pI k,pS nm,pI i,pI q,K]]]):=by
 refine ir aN dO mixed (fun _=>0) Tryz.func72 rfl kR kR rfl fun P G E hc hM hE=>?_
 have fO:=gX hE;clear hc hE;cbv at ok;cbv at ok2;cbv
 repeat (first|(simp only[ok];cbv)|(simp only[ok2];cbv)|(refine⟨fO.pre _ _ rfl,?_⟩;cbv)|(simp only[fO.s2];cbv)|(refine .inr (.z [2] (hM _ _ _ _ _ (xY _ rfl (aD rfl))) rfl rfl rfl ?_);cbv)|(refine .inr (.z [3] (hM _ _ _ _ _ (xY _ rfl (aD rfl))) rfl rfl rfl ?_);cbv))
 all_goals trivial
structure LvF(E:SO):Prop where
 a:∀i:Int,E.nat i=i.toNat
 b:E.wadd .i64 0 1=1/\E.wadd .i64 1 1=2/\E.wadd .i64 2 1=3/\E.wadd .i64 3 1=4
 c:E.ple 0 0
 d:E.ple 0 1
 e:E.ple 0 2
 f:E.ple 0 3
theorem JE{E:SO}(hE:E=bK):LvF E:=by subst hE;exact⟨fun _=>rfl,⟨rfl,rfl,rfl,rfl⟩,bU 0,(by decide:(0:Int)<=1),(by decide:(0:Int)<=2),(by decide:(0:Int)<=3)⟩
theorem bLn:bL []=⟨⟨[]⟩⟩:=rfl
structure Hx(E:SO):Prop where
 n1:E.addN 0 1=1
 a1:∀x:List PV,E.app [] 0 [x]=[x]
 s0:E.sub [] 0 0=[]
theorem wM{E:SO}(hE:E=bK):Hx E:=by subst hE;exact⟨rfl,fun _=>rfl,rfl⟩
theorem xe4:fI (nd 37 []) 37 0 0 ⟨#[]⟩ (.ro 5 []):=⟨by simp[nd,pA,rV,eK];rfl,rfl,rfl⟩
theorem xe5{x:PT}{k i q:Int}{nm:ByteArray}{K:PV}(hv:fI x k i q nm K):fI (nd 26 [x]) 26 0 0 ⟨#[]⟩ (.ro 5 [[pI k,pS nm,pI i,pI q,K]]):=⟨by simp only[nd,pA,rV,gR,hv.row];rfl,rfl,rfl⟩
theorem F1{E:SO}(hE:E=bK)(h:bE n toks LR a l){w:Bs}(hi:aL l 2 w=true):∃a1 K T y,E.wadd .i64 a 1=a1/\kd l 1=K/\bL (tx l 1)=T/\E.ple 0 a1/\LR[E.nat a1]?=some [pI K,pS T,pI y]:=by
 have hp:=nH hi;obtain⟨K,T,y,h1,h2,g⟩:=h.tok (k:=1) (z:=1) rfl oM
 have h0:=h.h0;have h3:=h.h1;have h4:=h.z;exact⟨a+1,K,T,y,by rw[hE];exact jX oM oM,h1,h2,g E hE⟩
structure I1(E:SO):Prop where
 a:E.lti 0 0=false
 b:E.lti 0 1=true
 c:E.lti 0 2=true
theorem DL{E:SO}(hE:E=bK):I1 E:=by subst hE;exact⟨rfl,rfl,rfl⟩
theorem OQ{x y z:PT}{k i q k2 i2 q2 k3 i3 q3:Int}{nm nm2 nm3:ByteArray}{K K2 K3:PV}(hx:fI x k3 i3 q3 nm3 K3)(hy:fI y k2 i2 q2 nm2 K2)(hz:fI z k i q nm K):fI (nd 15 [x,y,z]) 15 0 0 ⟨#[]⟩ (.ro 5 [[pI k3,pS nm3,pI i3,pI q3,K3],[pI k2,pS nm2,pI i2,pI q2,K2],[pI k,pS nm,pI i,pI q,K]]):=
 ⟨by simp only[nd,pA,rV,gR,hx.row,hy.row,hz.row];rfl,rfl,rfl⟩
theorem xa3{s s':RS}{l l':Ts}{b':Bool}(h:rμ l' b'<=rμ l false)(hr:s'.rank<=s.rank):cG s' l' b'<=cG s l false:=by
 have:=LD s'
 cases b' with
 |true=>show s'.brk<=64*(l.length+1)+s.rank;omega
 |false=>rw[tI,tI]at h;show 64*(l'.length+1)+s'.rank<=64*(l.length+1)+s.rank;omega
theorem GW{x:PT}{s:Bs}{k i q:Int}{nm T:ByteArray}{K:PV}(hx:fI x k i q nm K)(hT:bL s=T):fI (dV 18 s [x]) 18 0 0 T (.ro 5 [[pI k,pS nm,pI i,pI q,K]]):=⟨by simp only[dV,pA,rV,gR,hx.row,hT],rfl,rfl⟩
theorem Qb{x y:PT}{k i q k2 i2 q2:Int}{nm nm2:ByteArray}{K K2:PV}(hx:fI x k i q nm K)(hy:fI y k2 i2 q2 nm2 K2):fI (nd 19 [x,y]) 19 0 0 ⟨#[]⟩ (.ro 5 [[pI k,pS nm,pI i,pI q,K],[pI k2,pS nm2,pI i2,pI q2,K2]]):=⟨by simp only[nd,pA,rV,gR,hx.row,hy.row];rfl,rfl,rfl⟩
structure Ae(E:SO)(r:List PV)(ks:List PT)(R:List (List PV))(M:Nat)(R2:List (List PV))(N2:Nat):Prop where
 pre:E.pre 0 1 [r]
 room:E.room 1 M 64
 add:E.addN 1 M=N2
 app:E.app [r] 1 R=R2
 le:N2<=R2.length
 take:R2.take N2=R2
 rr:gR ks=R
 r2:r::R=R2
theorem GX{x:PT}{kd:Int}{ks:List PT}{k i q:Int}{nm:ByteArray}{K:PV}{R R2:List (List PV)}{M N2:Nat}{E:SO}(hx:fI x k i q nm K)(h:Ae E [pI k,pS nm,pI i,pI q,K] ks R M R2 N2):fI (nd kd (x::ks)) kd 0 0 ⟨#[]⟩ (.ro 5 R2):=⟨by simp only[nd,pA,rV,hx.row,h.rr,h.r2];rfl,rfl,rfl⟩
theorem Lu(e:Bs):∀(m:Nat)(acc:List PT)(l:Ts)(b:Bool),(bN m (.listL e acc) l b).1.s.length<=acc.length+l.length+1
 |0,acc,l,b=>aP _
 |m+1,acc,l,b=>by
  rw[rL];show((BF e acc).run (bN m) l b).1.s.length<=_;unfold BF;simp only[RP.run]
  split
  ·split<;>(show acc.length<=_;omega)
  ·have h1:=(nC m .assign l b).s.length_le
   split
   ·rename_i hc;have h2:=nH hc.2
    have:=Lu e m (acc++[(bN m .assign l b).1.n]) ((bN m .assign l b).2.1.drop 1) false
    rw[sE,yR]at this;simp only[qD,bW]at this;omega
   ·exact Hb
theorem z7i(e:Bs)(m:Nat)(l:Ts)(b:Bool):(bN m (.list e) l b).1.s.length<=l.length+1:=by
 cases m with
 |zero=>exact aP _
 |succ m=>
  rw[rL];show((RP.take e (.ret (.ls [])) (.tail (.listL e []))).run (bN m) l b).1.s.length<=_;simp only[RP.run]
  split
  ·exact aP _
  ·have:=Lu e m [] l b
   exact Gu
theorem xen(hM:M<=m)(ih:∀s' l' b',cG s' l' b'<M->gK n toks LR s' l' b')(h:bE n toks LR a l){e:Bs}{k:List PT->RP}(ho:aW (bN m) (RP.calls (.list e) k) l b o)(hm:cG (.list e) l b<M){E:SO}(hE:E=bK)(r:List PV)
  (A:∀R2 N2 l1 b1 a1,bE n toks LR a1 l1->aW (bN m) (k []) l1 b1 o->rμ l1 b1<=rμ l b->Ae E r [] [] 0 R2 N2->VM 151 [.own 0 0,.p (pS (bL e))] [cZ LR a b] (.p (.v (.slice none 0 0))) [cZ LR a1 b1]->G)
  (B:∀ks R N R2 N2 l1 b1 a1,bE n toks LR a1 l1->aW (bN m) (k ks) l1 b1 o->rμ l1 b1<=rμ l b->R.length=N->Ae E r ks R N R2 N2->VM 151 [.own 0 0,.p (pS (bL e))] [cZ LR a b] (.p (.ro 5 R)) [cZ LR a1 b1]->G):G:=by
 have hg:=ih (.list e) l b hm rfl m oM _ rfl a h _ rfl
 have he:=nC m (.list e) l b;have hn:=z7i e m l b;have hz:l.length<=1000000:=dm
 have oV:VM 151 [.own 0 0,.p (pS (bL e))] [cZ LR a b] (.p (oh (bN m (.list e) l b).1.s)) (iC toks LR (bN m (.list e) l b)):=hg;have vZ:aW (bN m) (k (bN m (.list e) l b).1.s) (bN m (.list e) l b).2.1 (bN m (.list e) l b).2.2 o:=⟨ho.h⟩;have r4:∀ks:List PT,ks.length<=1000001->Ae E r ks (gR ks) ks.length (r::gR ks) (1+ks.length):=fun ks hk=>by
  subst hE;exact⟨nR 1,⟨by unfold maxLen;omega,by omega⟩,rfl,rfl,by simp[CQ,Ba],by rw[mC (by simp[CQ,Ba])],rfl,rfl⟩
 generalize (bN m (.list e) l b).1.s=ks at oV vZ hn
 cases ks with
 |nil=>exact A _ _ _ _ _ (h.suf he.s) vZ he.μ (r4 [] aT) oV
 |cons x ks=>exact B (x::ks) _ _ _ _ _ _ _ (h.suf he.s) vZ he.μ (CQ _) (r4 _ (by simp only[qD]at hn ⊢;omega)) oV
end
theorem tO{p:Prop} (hp:p:=by
 have e0:=F4 ho;subst e0
 try simp only[lD,DC,vn,iC,RV.n,RV.s,h.place,nd,dV,fR,pA,rV,gR,z6i,eK,pD,sR,fE,aM,bT]at dZ gQ
 try simp only[hv.row]at dZ
 try simp only[hx.row]at dZ
 try simp only[nK.row]at dZ
 try simp only[fv.row]at dZ
 try simp only[Uy.row]at dZ
 try simp only[rK9,Fl,Fk,hL]at dZ
 try simp only[xga]at dZ
 try simp only[z57,hlen,fT]at dZ
 try simp only[xb6,iC,h.place]at gQ
 try simp only[z65,g4,h.place,pA,rV,eK,hT,cS,aM,bT]at gQ
 try simp only[I8]at dZ
 try simp only[z1s]at dZ
 try (simp only[Xp]at dZ;try simp only[nd,dV,fR,pA,rV,gR,eK,fE,aM,bT]at dZ)
 try simp only[g4]at dZ
 try simp only[hv.row]at dZ
 try simp only[hT]at dZ
 try simp only[cS]at dZ
 try (simp only[bLn]at dZ;simp only[qL]at dZ)
 try simp only[KP]at dZ
 try simp only[UU]at dZ
 try simp only[hQ]at dZ
 subst dZ gQ;cbv
 repeat (first|(simp only[fA.sub,fA.add,fA.app];cbv)|(simp only[fC.sub,fC.add,fC.app];cbv)|(refine⟨fC.pre2,?_⟩;cbv)|(simp only[fF.sub];cbv)|(refine⟨fF.pre2,?_⟩;cbv)|(simp only[fD.sub];cbv)|(refine⟨fD.pre2,?_⟩;cbv)|(simp only[fB6];cbv)|(refine⟨fA.pre2,?_⟩;cbv)|(refine⟨fB5,?_⟩;cbv)|(simp only[ok];cbv)|(simp only[ok2];cbv)|(simp only[ok3];cbv)|(simp only[fO.s1,fO.s2,fO.s3,fO.a2,fO.a3,fO.n2,fO.n3,fG.n1,fG.a1,fG.s0];cbv)|(refine⟨(fO.pre _ _ rfl),?_⟩;cbv))
 all_goals trivial):p:=hp
theorem tT{p:Prop} (hp:p:=by
 have e1:=dZ;simp only[lD,hv.row]at e1;have e2:=gQ;simp only[iC]at e2;have e3:=sTl ho;subst e1 e2;cbv
 repeat (first|(simp only[ok];cbv))
 all_goals trivial):p:=hp
theorem tP{p:Prop}(hp:p:=by first|assumption|exact nH hi|exact kJ hi aT|omega|exact nH (s:=bi) mI|exact nH (s:=qC) mI|fail):p:=hp
theorem tL{p:Prop}(hp:p:=by first|((try dsimp only);(try rw[hμ,hμ]);(try simp only[t8,tI,yR]at *);omega)|fail):p:=hp
theorem tV{p:Prop} (hp:p:=by
 rw[hμ,hμ]
 dsimp only
 first|rw[aE jU,aE GC]|rw[aF rfl,aE GC]
 omega):p:=hp
theorem ot{p:Prop}(hp:p:=by first|((try dsimp only);rw[hμ,hμ];(try dsimp only);(try simp only[t8,tI,yR]at *);omega)|fail):p:=hp
theorem tQ{p:Prop}(hp:p:=by first|((try simp only[t8,tI,yR]at *);omega)|fail):p:=hp
theorem tM{p:Prop}(hp:p:=by first|(refine ux ?_;(try simp only[t8,tI]at *);omega)|exact xa4 oM (oT rfl)|exact xa2 rfl (by(try simp only[t8,tI]at *);omega) (oT rfl)|fail):p:=hp
theorem rW{p:Prop} (hp:p:=by
 cbv
 (try cbv at l0)
 (try cbv at okx)
 (try cbv at ok)
 (try cbv at ok2)
 repeat' (first
  |(have _m:=AU;exact .mk (_,_,_,_,k,i,q,nm,KK) r5 ⟨h,ho,hv,tL⟩)
  |(have _m:=AU;exact .mk (_,_,_,_,37,0,0,⟨#[]⟩,.ro 5 []) r5 ⟨h,ho,xe4,tL⟩)
  |(have _m:=AU;exact .mk (_,_,_,_,26,0,0,⟨#[]⟩,.ro 5 [[pI k,pS nm,pI i,pI q,KK]]) r5 ⟨h,ho,xe5 hv,tL⟩)
  |(have _m:=AU;exact .mk (_,_,_,_,15,0,0,⟨#[]⟩,.ro 5 [_,_,_]) r5 ⟨h,ho,OQ fv nK hv,tL⟩)
  |(have _m:=VB
    refine xE (bo ho (aI tM gF)) fun m2 r=>?_
    have kM:=r.1;have ho:=r.2;clear r
    first
     |(have _h9:aW (bN m2) (gr (.chainL (dV 18 _ [_]))) l b o:=ho
       first
        |exact .wk (_,_,_,m2,dV 18 _ [_],18,0,0,T,.ro 5 [[pI kx,pS nx,pI ix,pI qx,KX]]) _ _ (a6 (k:=2) (j:=4) (l:=3) (n:=1) rfl rfl rfl (nR _) rfl) r5 ⟨h,ho,GW hx hT,kM,tL⟩ ot
        |exact .wk (_,_,_,m2,dV 18 _ [_],18,0,0,T,.ro 5 [[pI kx,pS nx,pI ix,pI qx,KX]]) _ _ (a6 (k:=2) (j:=4) (l:=4) (n:=1) rfl rfl rfl (nR _) rfl) r5 ⟨h,ho,GW hx hT,kM,tL⟩ ot
        |exact .mk (_,_,_,m2,dV 18 _ [_],18,0,0,T,.ro 5 [[pI kx,pS nx,pI ix,pI qx,KX]]) r5 ⟨h,ho,GW hx hT,kM,tL⟩ ot)
     |(have _h9:aW (bN m2) (gr (.newL (dV 18 _ [_]))) l b o:=ho
       first
        |exact .wk (_,_,_,m2,dV 18 _ [_],18,0,0,T,.ro 5 [[pI kx,pS nx,pI ix,pI qx,KX]]) _ _ (a6 (k:=2) (j:=4) (l:=3) (n:=1) rfl rfl rfl (nR _) rfl) r5 ⟨h,ho,GW hx hT,kM,tL⟩ ot
        |exact .wk (_,_,_,m2,dV 18 _ [_],18,0,0,T,.ro 5 [[pI kx,pS nx,pI ix,pI qx,KX]]) _ _ (a6 (k:=2) (j:=4) (l:=4) (n:=1) rfl rfl rfl (nR _) rfl) r5 ⟨h,ho,GW hx hT,kM,tL⟩ ot
        |exact .mk (_,_,_,m2,dV 18 _ [_],18,0,0,T,.ro 5 [[pI kx,pS nx,pI ix,pI qx,KX]]) r5 ⟨h,ho,GW hx hT,kM,tL⟩ ot)
     |(have _h9:aW (bN m2) (gr (.chainL (nd 19 [_,_]))) l b o:=ho
       first
        |exact .mk (_,_,_,m2,nd 19 [_,_],19,0,0,⟨#[]⟩,.ro 5 [[pI kx,pS nx,pI ix,pI qx,KX],[pI k,pS nm,pI i,pI q,KK]]) r5 ⟨h,ho,Qb hx hv,kM,tL⟩ ot)
     |(have _h9:aW (bN m2) (gr (.newL (nd 19 [_,_]))) l b o:=ho
       first
        |exact .mk (_,_,_,m2,nd 19 [_,_],19,0,0,⟨#[]⟩,.ro 5 [[pI kx,pS nx,pI ix,pI qx,KX],[pI k,pS nm,pI i,pI q,KK]]) r5 ⟨h,ho,Qb hx hv,kM,tL⟩ ot)
     |(have _h9:aW (bN m2) (gr (.chainL (nd 20 (_::_)))) l b o:=ho
       first
        |exact .wk (_,_,_,m2,nd 20 (_::_),20,0,0,⟨#[]⟩,.ro 5 R2) _ _ (a6 (k:=2) (j:=4) (l:=3) (n:=N2) rfl rfl rfl fA.le fA.take) r5 ⟨h,ho,GX hx fA,kM,tL⟩ ot
        |exact .wk (_,_,_,m2,nd 20 (_::_),20,0,0,⟨#[]⟩,.ro 5 R2) _ _ (a6 (k:=2) (j:=4) (l:=4) (n:=N2) rfl rfl rfl fA.le fA.take) r5 ⟨h,ho,GX hx fA,kM,tL⟩ ot
        |exact .wk (_,_,_,m2,nd 20 (_::_),20,0,0,⟨#[]⟩,.ro 5 R2) _ _ (a6 (k:=2) (j:=4) (l:=5) (n:=N2) rfl rfl rfl fA.le fA.take) r5 ⟨h,ho,GX hx fA,kM,tL⟩ ot)
     |(have _h9:aW (bN m2) (gr (.chainL (nd 21 (_::_)))) l b o:=ho
       first
        |exact .wk (_,_,_,m2,nd 21 (_::_),21,0,0,⟨#[]⟩,.ro 5 R2) _ _ (a6 (k:=2) (j:=4) (l:=3) (n:=N2) rfl rfl rfl fA.le fA.take) r5 ⟨h,ho,GX hx fA,kM,tL⟩
        |exact .wk (_,_,_,m2,nd 21 (_::_),21,0,0,⟨#[]⟩,.ro 5 R2) _ _ (a6 (k:=2) (j:=4) (l:=4) (n:=N2) rfl rfl rfl fA.le fA.take) r5 ⟨h,ho,GX hx fA,kM,tL⟩
        |exact .wk (_,_,_,m2,nd 21 (_::_),21,0,0,⟨#[]⟩,.ro 5 R2) _ _ (a6 (k:=2) (j:=4) (l:=5) (n:=N2) rfl rfl rfl fA.le fA.take) r5 ⟨h,ho,GX hx fA,kM,tL⟩)
     |exact .mk (_,_,_,m2,_,k,i,q,nm,KK) r5 ⟨h,ho,hv,kM,tL⟩)
  |(have _m:=VB
    refine xen gF ih h ho tM hE [pI kx,pS nx,pI ix,pI qx,KX] (fun R2 N2 l b a h ho hl fA hk=>?_) (fun ks R N R2 N2 l b a h ho hl Vz fA hk=>?_)
    case' refine_1=>refine .z [0] (hM _ _ _ _ _ hk) rfl rfl rfl ?_;cbv
    case' refine_2=>
     refine .z [0] (hM _ _ _ _ _ hk) rfl rfl rfl ?_;cbv;cbv at Vz)
  |(have _m:=VB;simp only[Vz];cbv)
  |(have _m:=VB;simp only[fA.add,fA.app];cbv)
  |(simp only[fN.a,fN.b,fN.c];cbv)
  |(have _m:=AU
    refine xE (F1 hE h hi) fun a1 r=>xE r fun K r=>xE r fun T r=>xE r fun y r=>?_
    have hw:=r.1;have hT:=r.2.2.1;have g:=r.2.2.2;clear r;simp only[hw];cbv;refine⟨g.1,_,g.2,?_⟩;cbv)
  |(simp only[ok];cbv)|(simp only[fL.b.1,fL.b.2.1,fL.b.2.2.1,fL.b.2.2.2];cbv)|(simp only[okx];cbv)|(simp only[ok2];cbv)|(simp only[ok3];cbv)|(simp only[ek];cbv)|(simp only[hw];cbv)|(simp only[fO.s1,fO.s2,fO.s3];cbv)|(simp only[fO.a2,fO.a3,fO.n2,fO.n3,fG.n1,fG.a1,fG.s0];cbv)|(refine⟨(fO.room _ _ _ aT aT),?_⟩;cbv)|(refine⟨(fO.pre _ _ rfl),?_⟩;cbv)|(simp only[l0];cbv)
  |(simp only[fA.add,fA.app,fA.sub];cbv)|(simp only[fC.add,fC.app,fC.sub];cbv)|(simp only[fF.app];cbv)|(simp only[fF.add];cbv)|(simp only[fD.app];cbv)|(simp only[fD.add];cbv)|(simp only[fC.add];cbv)|(simp only[fC.app];cbv)|(simp only[fB6];cbv)|(refine⟨fA.pre,fA.room,?_⟩;cbv)|(refine⟨fA.pre,?_⟩;cbv)|(refine⟨fA.room,?_⟩;cbv)|(refine⟨fB5,?_⟩;cbv)
  |exact tO
  |exact tT
  |(have _m:=ic;refine .inr (.z [2] (hM _ _ _ _ _ (HE _ rfl (aD rfl))) rfl rfl rfl ?_);cbv)
  |(have _m:=ic;refine .inr (.z [3] (hM _ _ _ _ _ (HE _ rfl (aD rfl))) rfl rfl rfl ?_);cbv)
  |(have _m:=ic;refine .inr (.z [4] (hM _ _ _ _ _ (HE _ rfl (aD rfl))) rfl rfl rfl ?_);cbv)
  |(have _m:=ic;refine .inr (.z [5] (hM _ _ _ _ _ (HE _ rfl (aD rfl))) rfl rfl rfl ?_);cbv)
  |(have _m:=ic;refine .inr (.z [6] (hM _ _ _ _ _ (HE _ rfl (aD rfl))) rfl rfl rfl ?_);cbv)
  |(have _m:=ic;refine .inr (.z [7] (hM _ _ _ _ _ (HE _ rfl (aD rfl))) rfl rfl rfl ?_);cbv)
  |(refine .z [] (hM _ _ _ _ _ (xb4 _)) rfl rfl rfl ?_;cbv)
  |(refine⟨_,hc _ _ _ (z64 _ (aD rfl)),?_⟩;cbv)
  |(refine⟨_,hc _ _ _ (z2h _),?_⟩;cbv)
  |(refine .inr (.z [2] (hM _ _ _ _ _ (xY _ rfl (aD rfl))) rfl rfl rfl ?_);cbv)
  |(refine .inr (.z [3] (hM _ _ _ _ _ (xY _ rfl (aD rfl))) rfl rfl rfl ?_);cbv)
  |(refine .inr (.z [4] (hM _ _ _ _ _ (xY _ rfl (aD rfl))) rfl rfl rfl ?_);cbv)
  |(refine .inr (.z [5] (hM _ _ _ _ _ (xY _ rfl (aD rfl))) rfl rfl rfl ?_);cbv)
  |(refine .inr (.z [6] (hM _ _ _ _ _ (xY _ rfl (aD rfl))) rfl rfl rfl ?_);cbv)
  |(refine .inr (.z [7] (hM _ _ _ _ _ (xY _ rfl (aD rfl))) rfl rfl rfl ?_);cbv)
  |(refine Qd h ho (fun l b a h ho hs hl hk=>?_)
    refine .z [0] (hM _ _ _ _ _ hk) rfl rfl rfl ?_;cbv)
  |(refine GY h ho (fun a h ho hs hb hk=>?_) (fun ho hk=>?_)<;>(refine .z [0] (hM _ _ _ _ _ hk) rfl rfl rfl ?_;cbv))
  |(refine sAt h (aD rfl) ho (fun ho hi hk hr=>?_) (fun ho hi hk hr=>?_)<;>(first|(refine .z [0] (hM _ _ _ _ _ hk) rfl rfl rfl ?_;cbv)|(refine⟨_,hc _ _ _ hr,?_⟩;cbv)))
  |(refine sKd h (aD rfl) ho (fun K ho hi ek hk hr=>?_) (fun K ho hi ek hk hr=>?_)<;>(first|(refine .z [0] (hM _ _ _ _ _ hk) rfl rfl rfl ?_;cbv)|(refine⟨_,hc _ _ _ hr,?_⟩;cbv)))
  |(refine xep h ho (fun ho hk hr=>?_) (fun ho hk hr=>?_)<;>(first|(refine .z [0] (hM _ _ _ _ _ hk) rfl rfl rfl ?_;cbv)|(refine⟨_,hc _ _ _ hr,?_⟩;cbv)))
  |(refine OG h ho (fun s T l b a h ho hT hs hl hk=>?_)
    (first|(refine .z [0] (hM _ _ _ _ _ hk) rfl rfl rfl ?_;cbv)|(refine Or.inl ?_;refine⟨.mk trivial,?_⟩;refine .mk [0] _ _ _ _ (hM _ _ _ _ _ hk) rfl rfl rfl rfl ?_;cbv))
    try (refine xE (oc hE g5 gz fT [pI 7,pS T,pI 0,pI 0,.v (.slice none 0 0)]) fun R2 r=>?_;have cS:=r.1;have fA:=r.2;clear r)
    try (refine xE (oc hE g5 gz fT [pI 40,pS T,pI 0,pI 0,.v (.slice none 0 0)]) fun R4 r=>?_;have KP:=r.1;have fD:=r.2;clear r))
  |(refine xE (bo ho (aI tM gF)) fun m2 r=>?_
    have kM:=r.1;have ho:=r.2;clear r;have hN3:=fT;refine .mk (_,_,m2,acc++[_],R2,N2) r5 ⟨h,ho,kM,tL,?_,by dsimp only;rw[<-cS,sE,g5];exact fT⟩ tL
    first|(rw[vg,g4,gR,gR,hv.row];exact cS)|(rw[vg,g4,gR,gR,dV,pA,rV,hT];exact cS))
  |(refine xE (bo ho (aI tM gF)) fun m2 r=>?_
    have kM:=r.1;have ho:=r.2;clear r
    first
     |exact .mk (_,_,_,m2,acc++[dV 40 s [x]],R5,N2) r5 ⟨h,ho,kM,tL,by simp only[vg,g4,gR,dV,pA,rV,hv.row,hT];exact UU,by dsimp only;rw[<-UU,sE,g5];exact fT⟩ tL
     |exact .mk (_,_,_,m2,acc++[dV 40 s []],R4,N2) r5 ⟨h,ho,kM,tL,by simp only[vg,g4,gR,dV,pA,rV,eK,hT,aM,bT];exact KP,by dsimp only;rw[<-KP,sE,g5];exact fT⟩ tL
     |exact .mk (_,_,_,m2,acc++[x],R2,N2) r5 ⟨h,ho,kM,tL,by rw[vg,g4,gR,gR,hv.row];exact cS,by dsimp only;rw[<-cS,sE,g5];exact fT⟩ tL)
  |(refine F6 h ho (fun s T l b a h ho hT hs hl hk=>?_)
    (first|(refine .z [0] (hM _ _ _ _ _ hk) rfl rfl rfl ?_;cbv)|(refine Or.inl ?_;refine⟨.mk trivial,?_⟩;refine .mk [0] _ _ _ _ (hM _ _ _ _ _ hk) rfl rfl rfl rfl ?_;cbv)))
  |exact .mk (_,_,false,m2,fR _ V [_,_],N,_,0,V,⟨#[]⟩,.ro 5 [[pI kx,pS nx,pI ix,pI qx,KX],[pI k,pS nm,pI i,pI q,KK]]) r5 ⟨h,ho,ON hx hv,tL,.inr ⟨jU,hN,fT,rfl,aS (dA (ux hs)) kM⟩⟩ tV
  |exact .mk (_,_,_,m2,fR _ V [_,_],0,_,0,V,⟨#[]⟩,.ro 5 [[pI kx,pS nx,pI ix,pI qx,KX],[pI k,pS nm,pI i,pI q,KK]]) r5 ⟨h,ho,ON hx hv,tL,.inl rfl⟩ tV
  |(refine BI h ho (aD rfl) (aD rfl) (aD rfl) (fun N a h ho hs hb jU hN fT hk=>?_) (fun ho hk=>?_)<;>(refine .z [0] (hM _ _ _ _ _ hk) rfl rfl rfl ?_;cbv)<;>(first|(have ek:=oN hE hN jU;refine xE (⟨_,rfl⟩:∃Q,N+100=Q) fun Q hQ=>?_;have hw:=Ex hE hN fT hQ)|(have ek:=o0 hE)))
  |(have ho:=F9 jU ho)
  |(have ho:=F8 ho)
  |(refine⟨_,hc _ _ _ (Wj hv.one hx.one _ _),?_⟩;cbv)
  |(try have Uy:=fv
    try have fv:=nK
    try have nK:=hv
    try have ok3:=ok2
    try have ok2:=ok
    refine F3 gF ih h ho ⟨tM,rfl,rfl,rfl,rfl⟩ (fun x l b a k i q nm KK h ho hl hv hk=>?_)
    (first|(refine .z [0] (hM _ _ _ _ _ hk) rfl rfl rfl ?_;cbv)|(refine Or.inl ?_;refine⟨.mk trivial,?_⟩;refine .mk [0] _ _ _ _ (hM _ _ _ _ _ hk) rfl rfl rfl rfl ?_;cbv))
    have ok:=hv.one;cbv at ok
    try (refine xE (oc hE g5 gz fT [pI k,pS nm,pI i,pI q,KK]) fun R2 r=>?_;have cS:=r.1;have fA:=r.2;clear r)
    try (refine xE (oc hE g5 gz fT [pI 27,pS ⟨#[]⟩,pI 0,pI 0,.ro 5 [[pI 32,pS ⟨#[]⟩,pI 0,pI 0,.ro 5 [[pI k,pS nm,pI i,pI q,KK]]]]]) fun R3 r=>?_;have qL:=r.1;have fC:=r.2;clear r)
    try (refine xE (oc hE g5 gz fT [pI 40,pS T,pI 0,pI 0,.ro 5 [[pI k,pS nm,pI i,pI q,KK]]]) fun R5 r=>?_;have UU:=r.1;have fF:=r.2;clear r))
  |(try have Uy:=fv
    try have fv:=nK
    try have nK:=hv
    try have ok3:=ok2
    try have ok2:=ok
    refine uj gF ih h ho ⟨tM,rfl,rfl,rfl,rfl⟩ (fun x l b a k i q nm KK h ho hl hv hk=>?_)
    (first|(refine .z [0] (hM _ _ _ _ _ hk) rfl rfl rfl ?_;cbv)|(refine Or.inl ?_;refine⟨.mk trivial,?_⟩;refine .mk [0] _ _ _ _ (hM _ _ _ _ _ hk) rfl rfl rfl rfl ?_;cbv))
    have ok:=hv.one;cbv at ok
    try (refine xE (oc hE g5 gz fT [pI k,pS nm,pI i,pI q,KK]) fun R2 r=>?_;have cS:=r.1;have fA:=r.2;clear r)
    try (refine xE (oc hE g5 gz fT [pI 27,pS ⟨#[]⟩,pI 0,pI 0,.ro 5 [[pI 32,pS ⟨#[]⟩,pI 0,pI 0,.ro 5 [[pI k,pS nm,pI i,pI q,KK]]]]]) fun R3 r=>?_;have qL:=r.1;have fC:=r.2;clear r)
    try (refine xE (oc hE g5 gz fT [pI 40,pS T,pI 0,pI 0,.ro 5 [[pI k,pS nm,pI i,pI q,KK]]]) fun R5 r=>?_;have UU:=r.1;have fF:=r.2;clear r))
  |(refine xem gF tM h ho (fun l b a h ho hl hk=>?_) (fun acc R N N2 l b a h ho hl g4 g5 gz fT hk=>?_)<;>(refine .z [0] (hM _ _ _ _ _ hk) rfl rfl rfl ?_;cbv))
  |(refine OD gF ih h ho tM (fun ks R l b a h ho hl hL hk=>?_)
    refine .z [0] (hM _ _ _ _ _ hk) rfl rfl rfl ?_;cbv)
  |(refine xeo gF ih h ho ⟨tM,rfl,rfl,rfl,rfl⟩ (fun hh=>by cases hh) (fun l b a h ho hl hk=>?_) (fun ks R l b a h ho hl hL hk=>?_)<;>(refine .z [0] (hM _ _ _ _ _ hk) rfl rfl rfl ?_;cbv))
  |(refine⟨.mk vR,?_⟩;cbv)
  |(refine OC gF ih h ho ⟨tM,rfl,rfl,rfl,rfl⟩ (fun k i q nm KK hv hk=>?_)
    refine .z [0] (hM _ _ _ _ _ hk) rfl rfl rfl ?_;cbv;have ok:=hv.one;cbv at ok
    try (refine xE (oc hE g5 gz fT [pI k,pS nm,pI i,pI q,KK]) fun R2 r=>?_;have cS:=r.1;have fA:=r.2;clear r)
    try (refine xE (oc hE g5 gz fT [pI 27,pS ⟨#[]⟩,pI 0,pI 0,.ro 5 [[pI 32,pS ⟨#[]⟩,pI 0,pI 0,.ro 5 [[pI k,pS nm,pI i,pI q,KK]]]]]) fun R3 r=>?_;have qL:=r.1;have fC:=r.2;clear r)
    try (refine xE (oc hE g5 gz fT [pI 40,pS T,pI 0,pI 0,.ro 5 [[pI k,pS nm,pI i,pI q,KK]]]) fun R5 r=>?_;have UU:=r.1;have fF:=r.2;clear r))
  |(refine xE (bo ho (aI tM gF)) fun m2 r=>?_;have kM:=r.1;have ho:=r.2;clear r)
  |(refine .mk _ _ (a6 (k:=6) (j:=4) (l:=7) (n:=1) rfl rfl rfl (nR _) rfl) ?_;cbv)
  |(refine .mk _ _ (a6 (k:=4) (j:=4) (l:=5) (n:=1) rfl rfl rfl (nR _) rfl) ?_;cbv)
  |(refine .mk _ _ (Wk.refl _ _) ?_;cbv)
  |(refine sKl hK ho (fun ho hi ek=>?_) (fun ho hi ek=>?_)<;>(simp only[ek];cbv))
  |(have ho:=F7 hK ho)
  |(refine Fa ho (fun ho ek=>?_) (fun ho ek=>?_)<;>(simp only[ek];cbv))
  |(refine OE hE h tP ho (fun a h ha ho hs hl=>?_);simp only[ha];cbv)
  |(refine xek hE h tP ho (fun a h ha ho hs hl=>?_);simp only[ha];cbv)
  |(refine xE (bE.tok0 h tP) fun K r=>xE r fun T r=>xE r fun y r=>?_
    have hK:=r.1;have hT:=r.2.1;have g:=r.2.2 E hE;clear r;refine⟨g.1,_,g.2,?_⟩;cbv)
  |(refine xE (G1 h hi hT) fun Q r=>?_;have hQ:=r.1;have hn:=r.2;clear r;refine⟨_,hc _ _ _ hn,?_⟩;cbv)
  |(refine Fb hE hN ho (fun ho hn ek=>?_) (fun ho hn ek=>?_)<;>(simp only[ek];cbv))
  |(have ho:=OI ho)
  |(have ho:=OJ ho)
  |(have ho:=OH ho)
  |(have ho:=F5 ho)
  |(refine Fd ho (fun ho hb=>?_) (fun ho hb=>?_)<;>(subst hb;cbv))
  |(refine And.intro ?_ ?_)
  |(refine Fc hE mY h ho (fun ho hl ek ek2=>?_) (fun ho hl ek ek2=>?_)<;>(first|(simp only[ek];cbv)|(simp only[hw];cbv)|(simp only[ek2];cbv))))):p:=hp
end Go.Proofs.YtjkcdcloomkooaaGreatDoor
