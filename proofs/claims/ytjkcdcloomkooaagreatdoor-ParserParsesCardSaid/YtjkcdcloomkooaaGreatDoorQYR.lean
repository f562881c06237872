/- Own work: walks and laws of the parser and its reference. -/
import Derived.Test.YtjkcdcloomkooaaGreatDoorQYW
set_option linter.unusedVariables false
set_option linter.unusedSimpArgs false
set_option linter.unusedSectionVars false
set_option maxHeartbeats 4000000
set_option maxRecDepth 100000
namespace Go.Proofs.YtjkcdcloomkooaaGreatDoor
open Go.RowKit
theorem Nq:∀cs:List PV,AV.toP.toPL (cs.map .p)=some cs
 |[]=>rfl
 |c::cs=>by rw[kJ,AV.toP.toPL,Nq cs];rfl
theorem fS.ro{P:Program}{G:World->Prop}{f:FuncId}{cs xs:List PV}{x:Value}{t:TypeId}(h:fS P G f (.rop cs::xs) (.v x)):jL P G f (.own 0 0::xs.map .p) [some (.box (cs.map .p) t none)] (.p (.v x)) [some (.box (cs.map .p) t none)]:=by
 refine⟨h.1,fun B w ι args tags cC hC hR hlen eG=>?_⟩
 match tags,cC with
 |[t0],_=>
  have VZ:∀(j:Nat)(a:PV)(v:Value),(PV.rop cs::xs)[j]?=some a->args[j]?=some v->cI w (fun _=>True) a v:=by
   intro j a v ha hv
   cases j with
   |zero=>
    cases ha
    exact O0 hR (eG 0 _ v rfl hv) (show PS _ (.own 0 0)=some (.rop cs) by
     show(match AV.toP.toPL (cs.map .p)with
      |some ps=>some (PV.rop ps)
      |none=>none)=some (.rop cs)
     rw[show AV.toP.toPL (cs.map .p)=some cs from Nq cs])
   |succ j=>
    have h1:xs[j]?=some a:=LN
    have:=eG (j+1) (.p a) v aX hv
    cases this with
    |p _ _ h=>exact h.keep (nR _) fun _ _ _=>⟨trivial,rfl⟩
  refine(h.2 w (fun _=>True) args hC.now (by simpa using hlen) VZ).mono fun e w' ⟨hg,he⟩=>?_
  obtain⟨v,rfl,hv⟩:=he.val rfl
  cases hv
  exact⟨ι,(hR.regrow hg (fun _ _ h=>h) fun b hb=>hR.fut b (aR hg.size hb)).1,_,rfl,.p _ _ (.v x)⟩
theorem nX {f : FuncId} {fn : Func} {c : Code} (hf : Tryz.prog.funcs[f]? = some fn) (hb : fn.body = some c) (hn : (fn.name == "runtime.NumGoroutine") = false) (kOf : Nat → Nat) (mOf : Nat → List Nat) (lo : Nat → Nat → Nat) (cV : yK fn.ntmps kOf mOf lo c = true) {xs : List AV} {b : Option cE} {r : AV} {H' : AH} (hl : decide (xs.length ≤ fn.ntmps) = true)
  (h:∀(t0:Nat)(P':Program)(G':World->Prop)(E:SO),(∀f l r,fS Tryz.prog G0 f l r->fS P' G' f l r)->(∀f xs H r H',jL Tryz.prog G0 f xs H r H'->jL P' G' f xs H r H')->E=bG->vX P' G' E cO kOf mOf lo c (fI E cO fn.results.toList [t0] r H') (xs++List.replicate (fn.ntmps-xs.length) (.p (.v undef))) (dE [t0] [b])):VM f xs [b] r H':=
 iD aU hf hb hn (oT hl) fun tags cC=>match tags,cC with
  |[t0],_=>aY.ofM aU mixed kOf mOf lo cV (fun E=>fI E cO fn.results.toList [t0] r H') fun P G E hc hM hE=>h t0 P G E hc hM hE
abbrev uc(LR:List (List PV))(a:Int)(b:Bool):List PV:=[.ro 3 LR,pI a,pB b]
abbrev dB(LR:List (List PV))(a:Int)(b:Bool):Option cE:=some (.box [.p (.ro 3 LR),.p (pI a),.p (pB b)] 46 none)
section
variable{n:Int}{toks:List Tk}{LR:List (List PV)}{a:Int}{l:Ts}
theorem z9q{k:Nat}(h:l[k]?=none)(w:Bs):aM l k w=false:=by
 unfold aM kd;rw[h];simp
theorem z9p{k:Nat}{t:Tk}(h:l[k]?=some t)(w:Bs):aM l k w=(decide (bL t.t=bL w)&&(decide (t.k=2)||decide (t.k=5))):=by
 unfold aM kd tx;rw[h]
 congr 1
 exact fX.2 ⟨aG bL,ov⟩
theorem bF.rd{E:SO}(hE:E=bG)(h:bF n toks LR a l){k:Nat}{z:Int}(hz:((k:Nat):Int)=z)(hk:k<=1000010):∃b M:Int,E.wadd .i64 a z=b/\E.ofN LR.length=M/\E.ple 0 b/\((l[k]?=none/\E.lti b M=false/\E.lei M b=true)\/∃t y,l[k]?=some t/\E.lti b M=true/\E.lei M b=false/\LR[E.nat b]?=some [pI t.k,pS (bL t.t),pI y]):=by
 have h0:=h.h0;have h1:=h.h1;have zF:=h.z;refine⟨a+z,((toks.length:Nat):Int),by rw[hE];exact jX oM oM,by rw[hE,h.len];rfl,by rw[hE];show 0<=a+z;omega,?_⟩
 cases ht:l[k]? with
 |none=>
  have qV:l.length<=k:=sI.1 ht;exact .inl ⟨rfl,by rw[hE];exact dF oM,by rw[hE];exact aA oM⟩
 |some t=>
  obtain⟨y,hg⟩:=h.get ht;have cQ:k<l.length:=(aC.1 ht).1;rw[hz]at hg;exact .inr ⟨t,y,rfl,by rw[hE];exact aA oM,by rw[hE];exact dF oM,by rw[hE];exact hg⟩
structure AtF(E:SO)(K:Int)(T W:ByteArray)(d5 d2 dT:Bool):Prop where
 h5:decide (K=5)=d5
 h2:decide (K=2)=d2
 eT:E.eq T W=dT
theorem tq(h:bF n toks LR a l){k:Nat}{z:Int}(hz:((k:Nat):Int)=z)(hk:k<=1000010)(w:Bs)(b:Bool):V0 46 [.rop (uc LR a b),pI z,pS (bL w)] (pB (aM l k w)):=by
 obtain⟨W,hW⟩:∃W,bL w=W:=⟨_,rfl⟩
 obtain⟨b0,M,ea,l0,p1,hh⟩:=h.rd rfl hz hk;clear hk hz
 rcases hh with⟨hn,d1,dx⟩|⟨t,y,ht,d1,dx,g1⟩<;>clear dx
 ·rw[z9q hn,hW];refine xA aU oF mixed (fun n=>match n with|1=>62|_=>0) Tryz.func46 rfl kR kR rfl fun P G E hc hE=>?_
  rw[<-hE]at ea l0 d1;clear hE hc h hn;cbv;cbv at l0;exact mV trivial
 ·rw[z9p ht,hW];obtain⟨T,hT⟩:∃x,bL t.t=x:=⟨_,rfl⟩
  obtain⟨K,hK⟩:∃x,t.k=x:=⟨_,rfl⟩
  rw[hT,hK]at g1 ⊢;obtain⟨d5,h5⟩:∃d,decide (K=5)=d:=⟨_,rfl⟩
  obtain⟨d2,h2⟩:∃d,decide (K=2)=d:=⟨_,rfl⟩
  obtain⟨dT,hd⟩:∃d,decide (T=W)=d:=⟨_,rfl⟩
  rw[h5,h2,hd];clear hT hK ht hW h;have mk:∀E:SO,E=bG->AtF E K T W d5 d2 dT:=fun E hE=>⟨h5,h2,by rw[hE];exact hd⟩
  clear hd h5 h2;obtain⟨q,hq⟩:∃q,(dT&&(d2||d5))=q:=⟨_,rfl⟩
  rw[hq]
  cases d5<;>cases d2<;>cases dT
  all_goals
   first|(obtain rfl:false=q:=hq)|(obtain rfl:true=q:=hq)
   refine xA aU oF mixed (fun n=>match n with|1=>62|_=>0) Tryz.func46 rfl kR kR rfl fun P G E hc hE=>?_
   have fA:=mk E hE;clear mk;rw[<-hE]at ea l0 d1 p1 g1;clear hE hc;cbv;cbv at l0;exact mV trivial
theorem A2(h:bF n toks LR a l){k:Nat}{z:Int}(hz:((k:Nat):Int)=z)(hk:k<=1000010)(b:Bool):V0 67 [.rop (uc LR a b),pI z] (pI (kd l k)):=by
 obtain⟨b0,M,ea,l0,p1,hh⟩:=h.rd rfl hz hk
 rcases hh with⟨hn,dx,d1⟩|⟨t,y,ht,dx,d1,g1⟩<;>clear dx
 ·rw[show kd l k=0 by unfold kd;rw[hn]]
  refine xA aU oF mixed (fun n=>match n with|1=>11|3=>10|_=>0) Tryz.func67 rfl kR kR rfl fun P G E hc hE=>?_
  rw[<-hE]at ea l0 d1;clear hE hc h hn;cbv;cbv at l0;exact mV trivial
 ·rw[show kd l k=t.k by unfold kd;rw[ht]]
  obtain⟨T,hT⟩:∃x,bL t.t=x:=⟨_,rfl⟩
  obtain⟨K,hK⟩:∃x,t.k=x:=⟨_,rfl⟩
  rw[hT,hK]at g1;rw[hK];refine xA aU oF mixed (fun n=>match n with|1=>11|3=>10|_=>0) Tryz.func67 rfl kR kR rfl fun P G E hc hE=>?_
  rw[<-hE]at ea l0 d1 p1 g1;clear hE hc h ht hT hK;cbv;cbv at l0;exact mV trivial
theorem FH(h:bF n toks LR a l)(k:Nat)(hk:k<=1000010)(w:Bs)(b:Bool):VM 46 [.own 0 0,.p (pI (k:Nat)),.p (pS (bL w))] [dB LR a b] (.p (pB (aM l k w))) [dB LR a b]:=(tq h rfl hk w b).ro
theorem DD(h:bF n toks LR a l)(k:Nat)(hk:k<=1000010)(b:Bool):VM 67 [.own 0 0,.p (pI (k:Nat))] [dB LR a b] (.p (pI (kd l k))) [dB LR a b]:=(A2 h rfl hk b).ro
theorem bF.inc{E:SO}(hE:E=bG)(h:bF n toks LR a l)(hl:0<l.length):∃b,bF n toks LR b (l.drop 1)/\E.wadd .i64 a 1=b/\E.wsub .i64 b 1=a:=by
 obtain⟨b,h1,h2,h3,h4⟩:=h.next hl;exact⟨b,h1,by rw[hE,<- h2];exact jX oM oM,by rw[hE,<- h2];show IntKind.i64.wrap (a+1-1)=a;rw[Int.add_sub_cancel];exact jX oM oM⟩
theorem Ri(h:bF n toks LR a l){w:Bs}(ht:aM l 0 w=true):∃a1,bF n toks LR a1 (l.drop 1)/\VM 42 [.own 0 0,.p (pS (bL w))] [dB LR a false] (.p (pB true)) [dB LR a1 false]:=by
 have hk:=FH h 0 aN w false
 rw[ht]at hk;obtain⟨a1,h1,e1,e2⟩:=h.inc rfl (nZ ht);refine⟨a1,h1,?_⟩;obtain⟨W,hW⟩:∃W,bL w=W:=⟨_,rfl⟩
 rw[hW]at hk ⊢;refine nX Tryz.func42 rfl kR (fun _=>0) (fun _=>[]) (fun _ _=>0) kR rfl fun t0 P G E hc hM hE=>?_
 replace hk:=hM _ _ _ _ _ hk;rw[<-hE]at e1;clear hc hM hE h h1 ht hW;cbv;refine .x hk ?_;cbv
 grind
theorem Rh(h:bF n toks LR a l){w:Bs}{b:Bool}(hb:b=true\/aM l 0 w=false):VM 42 [.own 0 0,.p (pS (bL w))] [dB LR a b] (.p (pB false)) [dB LR a b]:=by
 have hk:=FH h 0 aN w b
 obtain⟨W,hW⟩:∃W,bL w=W:=⟨_,rfl⟩
 cases b with
 |true=>
  refine nX Tryz.func42 rfl kR (fun _=>0) (fun _=>[]) (fun _ _=>0) kR rfl fun t0 P G E hc hM hE=>?_
  clear hc hM hE h hb hW hk;cbv;trivial
 |false=>
  rw[hb.resolve_left lC]at hk;refine nX Tryz.func42 rfl kR (fun _=>0) (fun _=>[]) (fun _ _=>0) kR rfl fun t0 P G E hc hM hE=>?_
  exact V6
theorem xcr(h:bF n toks LR a l){w:Bs}(ht:aM l 0 w=true):∃a1,bF n toks LR a1 (l.drop 1)/\VM 44 [.own 0 0,.p (pS (bL w))] [dB LR a false] (.p (.tup [])) [dB LR a1 false]:=by
 obtain⟨a1,h1,hk⟩:=Ri h ht;refine⟨a1,h1,?_⟩;obtain⟨W,hW⟩:∃W,bL w=W:=⟨_,rfl⟩
 refine nX Tryz.func44 rfl kR (fun _=>0) (fun _=>[]) (fun _ _=>0) kR rfl fun t0 P G E hc hM hE=>?_
 replace hk:=hM _ _ _ _ _ hk;clear hc hM hE h h1 ht hW;cbv;refine .x hk ?_;exact jm
theorem xcs(h:bF n toks LR a l){w:Bs}{b:Bool}(hb:b=true\/aM l 0 w=false):VM 44 [.own 0 0,.p (pS (bL w))] [dB LR a b] (.p (.tup [])) [dB LR a true]:=by
 have hk:=Rh h hb;obtain⟨W,hW⟩:∃W,bL w=W:=⟨_,rfl⟩
 refine nX Tryz.func44 rfl kR (fun _=>0) (fun _=>[]) (fun _ _=>0) kR rfl fun t0 P G E hc hM hE=>?_
 exact V6
theorem xct(h:bF n toks LR a l)(ht:kd l 0=1):∃a1,bF n toks LR a1 (l.drop 1)/\VM 69 [.own 0 0] [dB LR a false] (.p (pS (bL (tx l 0)))) [dB LR a1 false]:=by
 have hk:=DD h 0 aN false
 rw[ht]at hk;obtain⟨a1,h1,e1,e2⟩:=h.inc rfl (lO ht aN)
 refine⟨a1,h1,?_⟩;obtain⟨b0,M,ea,l0,p1,hh⟩:=h.rd (k:=0) rfl rfl aN
 rcases hh with⟨hn,_⟩|⟨t,y,f7,dx,dy,g1⟩
 ·unfold kd at ht;rw[hn]at ht;cases ht
 have e0:b0=a:=by rw[<-ea];show IntKind.i64.wrap (a+0)=a;have:=h.h0;have:=h.h1;have:=h.z;rw[Int.add_zero];exact jX oM oM
 rw[e0]at g1 p1;rw[show tx l 0=t.t by unfold tx;rw[f7]]
 generalize bL t.t=T at g1 ⊢;generalize t.k=K at g1;refine nX Tryz.func69 rfl kR (fun n=>match n with|5=>9|_=>0) (fun _=>[]) (fun _ _=>0) kR rfl fun t0 P G E hc hM hE=>?_
 replace hk:=hM _ _ _ _ _ hk;rw[<-hE]at e1 e2 p1 g1;clear hc hM hE h h1 ht f7 ea l0 e0;cbv;refine .x hk ?_;cbv;exact mV trivial
theorem xcu(h:bF n toks LR a l){b:Bool}(hb:b=true\/¬kd l 0=1):VM 69 [.own 0 0] [dB LR a b] (.p (pS ⟨#[]⟩)) [dB LR a true]:=by
 have hk:=DD h 0 aN b
 cases b with
 |true=>
  refine nX Tryz.func69 rfl kR (fun n=>match n with|5=>9|_=>0) (fun _=>[]) (fun _ _=>0) kR rfl fun t0 P G E hc hM hE=>?_
  clear hc hM hE h hb hk;cbv;trivial
 |false=>
  have ek:=dF (hb.resolve_left lC);generalize kd l 0=K at hk ek;refine nX Tryz.func69 rfl kR (fun n=>match n with|5=>9|_=>0) (fun _=>[]) (fun _ _=>0) kR rfl fun t0 P G E hc hM hE=>?_
  replace hk:=hM _ _ _ _ _ hk;clear hc hM hE h hb;cbv;refine .x hk ?_;exact jl
end
def eK(k:Int):Bool:=match k with
 |1|2|3|4|8|27|32|33|34|37|42=>true
 |_=>false
mutual
def pY:PT->List PV
 | .mk k nm i o ks=>[pI k,pS (bL nm),pI i,pI o,rV k ks]
def rV(k:Int):List PT->PV
 |[]=>if eK k=true then .ro 5 []else .v (.slice none 0 0)
 |x::ks=>.ro 5 (pY x::gZ ks)
def gZ:List PT->List (List PV)
 |[]=>[]
 |k::ks=>pY k::gZ ks
end
def px:List PT->PV
 |[]=>.v (.slice none 0 0)
 |x::ks=>.ro 5 (gZ (x::ks))
theorem wj:∀a b:List PT,gZ (a++b)=gZ a++gZ b
 |[],_=>by rfl
 |x::a,b=>by rw[qD,gZ,gZ,wj a b];rfl
theorem EB:∀a:List PT,(gZ a).length=a.length
 |[]=>by rfl
 |x::a=>by rw[gZ,qQ,qQ,EB a]
structure lX(x:PT)(k i o:Int)(nm:ByteArray)(K:PV):Prop where
 row:pY x=[pI k,pS nm,pI i,pI o,K]
 one:al (.p K)=true
 kind:x.kind=k
theorem z2t(k:Int)(ks:List PT):al (.p (rV k ks))=true:=by
 cases ks with
 |nil=>rw[rV];split<;>rfl
 |cons x ks=>rfl
theorem Bb(x:PT):∃k i o nm K,lX x k i o nm K:=by
 cases x with
 |mk k nm i o ks=>exact⟨k,i,o,bL nm,rV k ks,by rw[pY],z2t k ks,rfl⟩
theorem z8n(k:Int){R:List (List PV)}(hR:R.length<=1000):V0 17 [pI k,.ro 5 R] (.agg [pI k,pS ⟨#[]⟩,pI 0,pI 0,.ro 5 R]):=by
 refine eZ Tryz.func17 fun P G E hc hE=>?_
 clear hc;cbv;have fO:=iQ hE;subst hE
 cases R with
 |nil=>exact⟨nR 0,fO.room 0 0 64 aN aN,nR 0,rfl⟩
 |cons r R=>
  replace hR:R.length+1<=1000:=hR;refine⟨nR 0,fO.room 0 (R.length+1) 64 oM aN,?_,?_⟩
  ·show 0+(0+(R.length+1))<=([]++r::R).length;simp
  ·show PV.agg [_,_,_,_,.ro 5 ((([]++r::R).drop 0).take (0+(R.length+1)))]=_
   grind
theorem z3s(k:Int):V0 17 [pI k,.v (.slice none 0 0)] (.agg [pI k,pS ⟨#[]⟩,pI 0,pI 0,.ro 5 []]):=by
 refine eZ Tryz.func17 fun P G E hc hE=>?_
 clear hc;cbv;subst hE;exact⟨nR 0,⟨by omega,by omega⟩,nR 0,rfl⟩
def EN:List ByteArray:=(af.drop 1).map bL
theorem zy8:V0 104 [] (.ro 1 (ji EN)):=by
 refine eZ Tryz.func104 fun P G E hc hE=>?_
 have p1:E.pre 0 29 (ji EN):=by rw[hE];exact nR 29
 have t3:E.sub (ji EN) 0 29=ji EN:=fH
 exact Ce
theorem Rg(s:Bs)(fr cnt:Nat)(h1:1<=fr)(h2:fr+cnt<=30)(z1 z2:Int)(e1:((fr:Nat):Int)=z1)(e2:z1+((cnt:Nat):Int)=z2+1):V0 73 [pS (bL s),pI z1,pI z2] (pI (gF s fr cnt)):=by
 have ho:=zy8;obtain⟨R,hR⟩:∃R,ji EN=R:=⟨_,rfl⟩
 rw[hR]at ho;obtain⟨v,hv⟩:∃v,gF s fr cnt=v:=⟨_,rfl⟩
 rw[hv];obtain⟨T,hT⟩:∃T,bL s=T:=⟨_,rfl⟩
 rw[hT];obtain⟨μ,hμ⟩:∃μ:Int->Nat,∀x,μ x=(z2+1-x).toNat:=⟨_,fun _=>rfl⟩
 refine eZ Tryz.func73 fun P G E hc hE=>?_
 replace ho:=hc _ _ _ ho;clear hc;cbv;refine⟨_,ho,?_⟩;cbv;refine gV 24 [0,1,2,7,8] 0 (fun i:Int=>[.p (pS T),.p (pI z1),.p (pI z2),.p (.ro 1 R),.p (pI i)]) (fun _=>[]) (fun i=>∃m:Nat,z1+((m:Nat):Int)=i/\m<=cnt/\∀j,j<m->af[fr+j]?≠some s) μ z1 r5 ⟨0,by omega,aP _,fun j hj=>by omega⟩ ?_
 rintro i ⟨m,hm,BW,hn⟩
 replace hm:z1+((m:Nat):Int)=i:=hm;replace BW:m<=cnt:=BW;replace e1:((fr:Nat):Int)=z1:=e1;replace e2:z1+((cnt:Nat):Int)=z2+1:=e2;have t1:((fr:Nat):Int)+((m:Nat):Int)=i:=by rw[e1];exact hm
 have t2:i+((cnt:Nat):Int)=z2+1+((m:Nat):Int):=by rw[<-hm,<- e2];exact Int.add_right_comm _ _ _
 clear e1 e2
 rcases aW m cnt with cQ|qV
 ·have d1:E.lei i z2=true:=sN
  have hlen:af.length=30:=rfl;obtain⟨w,hw⟩:∃w,af[fr+m]?=some w:=⟨_,aB (by rw[hlen];omega)⟩
  obtain⟨TW,HW⟩:∃x,bL w=x:=⟨_,rfl⟩
  obtain⟨i2,nF⟩:∃x:Int,i+1=x:=⟨_,rfl⟩
  obtain⟨i0,iH⟩:∃x:Int,i-1=x:=⟨_,rfl⟩
  have ea:E.wadd .i64 i 1=i2:=FR
  have es:E.wsub .i64 i 1=i0:=by rw[hE,<- iH];exact jX oM oM
  have p0:E.ple 0 i0:=by rw[hE];show 0<=i0;omega
  have g1:R[E.nat i0]?=some [pS TW]:=by
   rw[hE,<- hR,<- HW];show(ji EN)[i0.toNat]?=_;unfold ji EN;rw[Dp,aI,dK,show 1+i0.toNat=fr+m by omega,hw]
   rfl
  rcases dV (s=w)with he|he
  ·have q1:E.eq TW T=true:=by rw[hE,<- HW,<- hT,he];exact aA rfl
   have sG:=Pn cQ (by rw[hw,he]) hn
   rw[hv,show((fr+m:Nat):Int)=i by omega]at sG
   subst sG;clear hE hw hlen hn hR;cbv
   repeat (first|(simp only[d1];try cbv)|(simp only[es];try cbv)|(refine⟨p0,_,g1,?_⟩;cbv)|(simp only[q1];try cbv))
   all_goals trivial
  ·have q1:E.eq TW T=false:=by rw[hE,<- HW,<- hT];exact dF fun e=>he (ov e).symm
   have hI:∃m:Nat,z1+((m:Nat):Int)=i2/\m<=cnt/\∀j,j<m->af[fr+j]?≠some s:=⟨m+1,by omega,cQ,fun j hj=>by
    rcases aW j m with h|h
    ·exact hn j h
    ·rw[show j=m by omega,hw]
     exact fun e=>he (bA e).symm⟩
   have nE:μ i2<μ i:=qg
   clear hE hμ hn hw hlen hR;cbv
   repeat (first|(simp only[d1];try cbv)|(simp only[es];try cbv)|(refine⟨p0,_,g1,?_⟩;cbv)|(simp only[q1];try cbv)|(simp only[ea];try cbv))
   exact .mk i2 r5 hI nE
 ·have d1:E.lei i z2=false:=sE
  have sG:=Pm (s:=s) (fr:=fr) (cnt:=cnt) fun j hj=>hn j oM
  rw[hv]at sG;subst sG;clear hE hR;cbv
  repeat (first|(simp only[d1];try cbv))
  all_goals trivial
section
variable{n:Int}{toks:List Tk}{LR:List (List PV)}{a:Int}{l:Ts}
theorem bF.tok(h:bF n toks LR a l){k:Nat}{z:Int}(hz:((k:Nat):Int)=z)(hl:k<l.length):∃K T y,kd l k=K/\bL (tx l k)=T/\∀E:SO,E=bG->E.ple 0 (a+z)/\LR[E.nat (a+z)]?=some [pI K,pS T,pI y]:=by
 have h0:=h.h0
 cases ht:l[k]? with
 |none=>grind
 |some t=>
  obtain⟨y,hg⟩:=h.get ht;rw[hz]at hg;exact⟨t.k,bL t.t,y,by unfold kd;rw[ht],by unfold tx;rw[ht],fun E hE=>⟨by rw[hE];show 0<=a+z;omega,by rw[hE];exact hg⟩⟩
theorem bF.tok0(h:bF n toks LR a l)(hl:0<l.length):∃K T y,kd l 0=K/\bL (tx l 0)=T/\∀E:SO,E=bG->E.ple 0 a/\LR[E.nat a]?=some [pI K,pS T,pI y]:=by
 have:=h.tok (k:=0) (z:=0) rfl hl
 simp_all
theorem xh4(h:bF n toks LR a l)(ht:kd l 0=1\/kd l 0=2):∃a1,bF n toks LR a1 (l.drop 1)/\VM 150 [.own 0 0] [dB LR a false] (.p (pS (bL (tx l 0)))) [dB LR a1 false]:=by
 have hk:=DD h 0 aN false
 have hl:0<l.length:=ht.elim (fun e=>lO e aN) fun e=>lO e aN
 obtain⟨a1,h1,e1,e2⟩:=h.inc rfl hl;refine⟨a1,h1,?_⟩;obtain⟨K,T,y,hK,hT,g⟩:=h.tok0 hl;rw[hK]at hk ht;rw[hT]
 rcases ht with rfl|rfl
 all_goals
  refine nX Tryz.func150 rfl kR (fun n=>match n with|5=>9|_=>0) (fun _=>[]) (fun _ _=>0) kR rfl fun t0 P G E hc hM hE=>?_
  replace hk:=hM _ _ _ _ _ hk;obtain⟨p1,g1⟩:=g E hE;rw[<-hE]at e1 e2;clear hc hM hE h h1 hK hT hl g;exact K8
theorem xh5(h:bF n toks LR a l){b:Bool}(hb:b=true\/¬(kd l 0=1\/kd l 0=2)):VM 150 [.own 0 0] [dB LR a b] (.p (pS ⟨#[]⟩)) [dB LR a true]:=by
 have hk:=DD h 0 aN b
 cases b with
 |true=>
  refine nX Tryz.func150 rfl kR (fun n=>match n with|5=>9|_=>0) (fun _=>[]) (fun _ _=>0) kR rfl fun t0 P G E hc hM hE=>?_
  clear hc hM hE h hb hk;cbv;trivial
 |false=>
  have hb:=hb.resolve_left lC;have e1:=dF fun e=>hb (.inl e)
  have e2:=dF fun e=>hb (.inr e)
  generalize kd l 0=K at hk e1 e2;refine nX Tryz.func150 rfl kR (fun n=>match n with|5=>9|_=>0) (fun _=>[]) (fun _ _=>0) kR rfl fun t0 P G E hc hM hE=>?_
  replace hk:=hM _ _ _ _ _ hk;clear hc hM hE h;cbv;refine .x hk ?_;cbv;refine mV ?_;refine .x hk ?_;exact jl
theorem xcp(h:bF n toks LR a l){fr cnt:Nat}(ht:kd l 0=5\/kd l 0=2)(hn:gF (tx l 0) fr cnt≠0)(h1:1<=fr)(h2:fr+cnt<=30){z1 z2:Int}(e1:((fr:Nat):Int)=z1)(e2:z1+((cnt:Nat):Int)=z2+1):∃a1,bF n toks LR a1 (l.drop 1)/\VM 45 [.own 0 0,.p (pI z1),.p (pI z2)] [dB LR a false] (.p (pI (gF (tx l 0) fr cnt))) [dB LR a1 false]:=by
 have hk:=DD h 0 aN false
 have ho:=Rg (tx l 0) fr cnt h1 h2 z1 z2 e1 e2;have hl:0<l.length:=ht.elim (fun e=>lO e aN) fun e=>lO e aN
 obtain⟨a1,h1,ea,es⟩:=h.inc rfl hl;clear es;refine⟨a1,h1,?_⟩;have hb:=Ec (tx l 0) fr cnt;obtain⟨K,T,y,hK,hT,g⟩:=h.tok0 hl;rw[hK]at hk ht;rw[hT]at ho;obtain⟨N,hN⟩:∃N,gF (tx l 0) fr cnt=N:=⟨_,rfl⟩
 rw[hN]at hn hb ho ⊢
 rcases ht with rfl|rfl
 all_goals
  refine nX Tryz.func45 rfl kR (fun n=>match n with|3=>13|_=>0) (fun _=>[]) (fun _ _=>0) kR rfl fun t0 P G E hc hM hE=>?_
  replace hk:=hM _ _ _ _ _ hk;replace ho:=hc _ _ _ ho;obtain⟨p1,g1⟩:=g E hE;have d1:E.lti 0 N=true:=sN
  rw[<-hE]at ea;clear hc hM hE h h1 hK hT hl g hn hb hN h2 e1 e2;exact K8
theorem xcq(h:bF n toks LR a l){fr cnt:Nat}{b:Bool}(hb:b=true\/¬((kd l 0=5\/kd l 0=2)/\gF (tx l 0) fr cnt≠0))(h1:1<=fr)(h2:fr+cnt<=30){z1 z2:Int}(e1:((fr:Nat):Int)=z1)(e2:z1+((cnt:Nat):Int)=z2+1):VM 45 [.own 0 0,.p (pI z1),.p (pI z2)] [dB LR a b] (.p (pI 0)) [dB LR a b]:=by
 have hk:=DD h 0 aN b
 have ho:=Rg (tx l 0) fr cnt h1 h2 z1 z2 e1 e2;clear h1 h2 e1 e2
 cases b with
 |true=>
  refine nX Tryz.func45 rfl kR (fun n=>match n with|3=>13|_=>0) (fun _=>[]) (fun _ _=>0) kR rfl fun t0 P G E hc hM hE=>?_
  clear hc hM hE h hb hk ho;cbv;trivial
 |false=>
  have hb:=hb.resolve_left lC
  rcases dV (kd l 0=5\/kd l 0=2)with ht|ht
  ·have hN:gF (tx l 0) fr cnt=0:=mJ.1 fun e=>hb ⟨ht,e⟩
   have hl:0<l.length:=ht.elim (fun e=>lO e aN) fun e=>lO e aN
   obtain⟨K,T,y,hK,hT,g⟩:=h.tok0 hl;rw[hK]at hk ht;rw[hT,hN]at ho
   rcases ht with rfl|rfl
   all_goals
    refine nX Tryz.func45 rfl kR (fun n=>match n with|3=>13|_=>0) (fun _=>[]) (fun _ _=>0) kR rfl fun t0 P G E hc hM hE=>?_
    replace hk:=hM _ _ _ _ _ hk;replace ho:=hc _ _ _ ho;obtain⟨p1,g1⟩:=g E hE;have d1:E.lti 0 0=false:=fH
    clear hc hM hE h hK hT hl g hb hN;exact K8
  ·have e1:=dF fun e=>ht (.inl e)
   have e2:=dF fun e=>ht (.inr e)
   generalize kd l 0=K at hk e1 e2;refine nX Tryz.func45 rfl kR (fun n=>match n with|3=>13|_=>0) (fun _=>[]) (fun _ _=>0) kR rfl fun t0 P G E hc hM hE=>?_
   replace hk:=hM _ _ _ _ _ hk;clear hc hM hE h ho;cbv;refine .x hk ?_;cbv;refine mV ?_;refine .x hk ?_;exact jl
end
theorem N6(a b:Bs):lE (a++b)=b.foldl (fun n c=>10*n+(c.toNat-48)) (lE a):=by unfold lE;rw[List.foldl_append]
theorem Sx:∀(b:Bs)(n:Nat),n<=b.foldl (fun n c=>10*n+(c.toNat-48)) n
 |[],n=>nR n
 |c::b,n=>by rw[va];have:=Sx b (10*n+(c.toNat-48));omega
structure L2(E:SO)(T:ByteArray)(N i i2 c d x y z:Int):Prop where
 sz:E.size T=N
 lt:E.lti i N=true
 p0:E.ple 0 i
 g:E.get T (E.nat i)=some c
 sb:E.wsub .u8 c 48=d
 cv:E.wrap .i64 d=d
 m:E.wmul .i64 x 10=y
 ad:E.wadd .i64 y d=z
 ai:E.wadd .i64 i 1=i2
theorem zvl{s:Bs}(hd:∀c∈s,eO c=true)(hv:lE s<9223372036854775808)(hz:s.length<=1000000):V0 164 [pS (bL s)] (.v (.int .i64 (lE s:Nat))):=by
 obtain⟨v,bc⟩:∃v:Int,((lE s:Nat):Int)=v:=⟨_,rfl⟩
 rw[bc];obtain⟨T,hT⟩:∃T,bL s=T:=⟨_,rfl⟩
 have bo:T.size=s.length:=by rw[<-hT];exact List.size_toArray
 rw[hT];obtain⟨N,hN⟩:∃N:Int,((s.length:Nat):Int)=N:=⟨_,rfl⟩
 obtain⟨μ,hμ⟩:∃μ:Int×Int->Nat,∀x,μ x=(N-x.1).toNat:=⟨_,fun _=>rfl⟩
 refine eZ Tryz.func164 fun P G E hc hE=>?_
 clear hc;have sz:E.size T=N:=by rw[hE,<- hN,<- bo];rfl
 cbv;refine gV 20 [0,3,4] 0 (fun x:Int×Int=>[.p (pS T),.p (.v (.int .i64 x.2)),.p (pI x.1)]) (fun _=>[]) (fun x=>∃m:Nat,((m:Nat):Int)=x.1/\m<=s.length/\((lE (s.take m):Nat):Int)=x.2) μ (0,0) r5 ⟨0,rfl,aP _,rfl⟩ ?_
 rintro⟨i,x⟩ ⟨m,hm,qJ,hx⟩
 replace hm:((m:Nat):Int)=i:=hm;replace hx:((lE (s.take m):Nat):Int)=x:=hx;replace hN:((s.length:Nat):Int)=N:=hN;replace bc:((lE s:Nat):Int)=v:=bc
 rcases aW m s.length with cQ|qV
 ·obtain⟨c,hc⟩:∃c,s[m]?=some c:=⟨_,aB cQ⟩
  have tK:=hd c (aH hc);have Mb:48<=c.toNat/\c.toNat<=57:=by
   have:=oT tK
   exact⟨nG.1 this.1,nG.1 this.2⟩
  have bf:s.take (m+1)=s.take m++[c]:=by rw[kn,hc];rfl
  have rQ:lE (s.take (m+1))=10*lE (s.take m)+(c.toNat-48):=by rw[bf,N6];rfl
  have hle:lE (s.take (m+1))<=lE s:=by
   have:=N6 (s.take (m+1)) (s.drop (m+1))
   rw[List.take_append_drop]at this;rw[this];exact Sx _ _
  have g:E.get T (E.nat i)=some ((c.toNat:Nat):Int):=by
   rw[hE,<- hT];show((s.toArray.toList[i.toNat]?).map fun b=>((b.toNat:Nat):Int))=_
   grind
  have hf:L2 E T N i (i+1) ((c.toNat:Nat):Int) (((c.toNat:Nat):Int)-48) x (x*10) (x*10+(((c.toNat:Nat):Int)-48)):=by
   refine⟨sz,?_,?_,g,?_,?_,?_,?_,?_⟩
   ·rw[hE];exact aA oM
   ·rw[hE];show 0<=i;omega
   ·rw[hE];show IntKind.u8.wrap (((c.toNat:Nat):Int)-48)=_;simp only[IntKind.wrap,IntKind.bits,IntKind.signed,cH,aK,bN];omega
   ·rw[hE];exact jX oM oM
   ·rw[hE];exact jX oM oM
   ·rw[hE];exact jX oM oM
   ·rw[hE];exact jX oM oM
  have hI:∃k:Nat,((k:Nat):Int)=i+1/\k<=s.length/\((lE (s.take k):Nat):Int)=x*10+(((c.toNat:Nat):Int)-48):=⟨m+1,by omega,cQ,by omega⟩
  have nE:μ (i+1,x*10+(((c.toNat:Nat):Int)-48))<μ (i,x):=aX
  generalize ((c.toNat:Nat):Int)=C at hf hI nE;generalize C-48=D at hf hI nE;generalize x*10+D=Z at hf hI nE;generalize x*10=Y at hf;generalize i+1=I at hf hI nE;clear hE hμ g rQ hle tK Mb hc bf cQ qJ hm hx hd hv hz sz bc hT bo hN;cbv;refine mV ?_;exact .mk (I,Z) r5 hI nE
 ·have e:s.take m=s:=iF qV;rw[e]at hx;have e2:x=v:=eC
  subst e2;have d1:E.lti i N=false:=sE
  clear hE hμ hd hv hz hT bo;cbv
  repeat (first|(simp only[sz];try cbv)|(simp only[d1];try cbv))
  all_goals trivial
section
variable{n:Int}{toks:List Tk}{LR:List (List PV)}{a:Int}{l:Ts}
def Ti(l:Ts)(i:Nat):Bool:=
 if kd l i=1 then aM l (i+1) pD
 else if aM l i iS then(if aM l (i+1) eQ then aM l (i+2) pD else ou l (l.length+1) (i+1))
 else false
theorem z6o(l:Ts):lc l=Ti l (if aM l 0 jI then 1 else 0):=rfl
structure Y5(E:SO)(i z1 z2:Int):Prop where
 a1:E.wadd .i64 i 1=z1
 a2:E.wadd .i64 i 2=z2
 b1:E.wadd .i64 z1 1=z2
theorem Ul{E:SO}(hE:E=bG){k:Nat}{i z1 z2:Int}(hk:((k:Nat):Int)=i)(hz:k<=1000003)(h1:i+1=z1)(h2:i+2=z2):Y5 E i z1 z2:=by
 refine⟨?_,?_,?_⟩<;>rw[hE]
 ·rw[<-h1];exact jX oM oM
 ·rw[<-h2];exact jX oM oM
 ·rw[<-h2,<- h1,show i+2=i+1+1 by omega];exact jX oM oM
theorem z6n(h:bF n toks LR a l)(b:Bool):V0 40 [.rop (uc LR a b)] (pB (lc l)):=by
 have cn:l.length<=1000000:=f6
 obtain⟨q,hq⟩:∃q,lc l=q:=⟨_,rfl⟩
 rw[hq];rw[z6o]at hq;have wT:=tq h (k:=0) (z:=0) rfl aN jI b
 obtain⟨i0,z0,w0,iH,ic,iL,np⟩:∃(i0:Nat)(z0:Int)(w0:Bool),(if aM l 0 jI then 1 else 0)=i0/\((i0:Nat):Int)=z0/\i0<=1/\aM l 0 jI=w0/\(w0=true/\z0=1\/w0=false/\z0=0):=by
  grind
 rw[iH]at hq;rw[np.1]at wT;obtain⟨_,np⟩:=np;obtain⟨z1,uZ⟩:∃z:Int,z0+1=z:=⟨_,rfl⟩
 obtain⟨z2,zF⟩:∃z:Int,z0+2=z:=⟨_,rfl⟩
 have bi:=A2 h (k:=i0) ic oM b
 have kU:=tq h (k:=i0+1) (z:=z1) oM oM pD b
 have xJ:=tq h (k:=i0) ic oM iS b
 have tD:=tq h (k:=i0+1) (z:=z1) oM oM eQ b
 have rU:=tq h (k:=i0+2) (z:=z2) oM oM pD b
 have hF:∀E:SO,E=bG->Y5 E z0 z1 z2:=fun E hE=>Ul hE ic oM uZ zF
 unfold Ti at hq
 by_cases c1:kd l i0=1
 ·rw[aF c1]at hq;rw[c1]at bi;rw[hq]at kU
  rcases np with⟨rfl,rfl⟩|⟨rfl,rfl⟩
  all_goals
   refine eZ Tryz.func40 fun P G E hc hE=>?_
   replace wT:=hc _ _ _ wT;replace bi:=hc _ _ _ bi;replace kU:=hc _ _ _ kU;have fA:=hF E hE;clear hc hE hF cn ic iH iL uZ zF c1 xJ tD rU hq h;exact jl
 ·rw[aD c1]at hq;have d1:=dF c1;obtain⟨K,hK⟩:∃K,kd l i0=K:=⟨_,rfl⟩
  rw[hK]at bi d1;clear hK c1
  cases c2:aM l i0 iS with
  |false=>
   rw[c2]at xJ hq;subst hq
   rcases np with⟨rfl,rfl⟩|⟨rfl,rfl⟩
   all_goals
    refine eZ Tryz.func40 fun P G E hc hE=>?_
    replace wT:=hc _ _ _ wT;replace bi:=hc _ _ _ bi;replace xJ:=hc _ _ _ xJ;clear hc hE hF cn ic iH iL uZ zF tD kU rU h c2;exact jl
  |true=>
   have nv:=nZ c2;rw[c2]at xJ hq;rw[aF rfl]at hq
   cases c3:aM l (i0+1) eQ with
   |true=>
    rw[c3]at tD hq;rw[aF rfl]at hq;rw[hq]at rU
    rcases np with⟨rfl,rfl⟩|⟨rfl,rfl⟩
    all_goals
     refine eZ Tryz.func40 fun P G E hc hE=>?_
     replace wT:=hc _ _ _ wT;replace bi:=hc _ _ _ bi;replace xJ:=hc _ _ _ xJ;replace tD:=hc _ _ _ tD;replace rU:=hc _ _ _ rU;have fA:=hF E hE;clear hc hE hF cn ic iH iL uZ zF h c2 c3 nv hq kU;exact jl
   |false=>
    rw[c3]at tD hq;rw[aD lC]at hq;obtain⟨μ,hμ⟩:∃μ:Int×Nat->Nat,∀x,μ x=l.length+3-x.2:=⟨_,fun _=>rfl⟩
    rcases np with⟨rfl,rfl⟩|⟨rfl,rfl⟩
    all_goals
     refine eZ Tryz.func40 fun P G E hc hE=>?_
     have oZ:=hc;replace wT:=hc _ _ _ wT;replace bi:=hc _ _ _ bi;replace xJ:=hc _ _ _ xJ;replace tD:=hc _ _ _ tD;have fA:=hF E hE;clear hc hF kU rU c2 c3;have jR:((i0+1:Nat):Int)=z1/\i0+1<=l.length/\∃m,l.length+1<=m+(i0+1)/\ou l m (i0+1)=q:=⟨by omega,by omega,l.length+1,by omega,hq⟩
     clear hq cn ic iH iL uZ zF;cbv;refine mV ?_;refine gV 46 [0,3] 0 (fun x:Int×Nat=>[.p (.rop (uc LR a b)),.p (pI x.1)]) (fun _=>[]) (fun x=>((x.2:Nat):Int)=x.1/\x.2<=l.length/\∃m,l.length+1<=m+x.2/\ou l m x.2=q) μ (z1,i0+1) r5 jR ?_
     clear wT bi xJ tD fA jR d1
     rintro⟨z,k⟩ ⟨g1,g2,m,g3,hq⟩
     simp only at g1 g2 g3 hq;have cn:l.length<=1000000:=f6
     obtain⟨m,rfl⟩:∃m',m=m'+1:=⟨m-1,by omega⟩
     rw[ou]at hq;obtain⟨y1,sF⟩:∃y:Int,z+1=y:=⟨_,rfl⟩
     obtain⟨y2,rO⟩:∃y:Int,z+2=y:=⟨_,rfl⟩
     have bi:=oZ _ _ _ (A2 h (k:=k) g1 oM b)
     have tD:=oZ _ _ _ (tq h (k:=k+1) (z:=y1) oM oM eQ b)
     have uy:=oZ _ _ _ (tq h (k:=k+2) (z:=y2) oM oM pD b)
     have fc:=oZ _ _ _ (tq h (k:=k+1) (z:=y1) oM oM sY b)
     have fA:=Ul hE g1 oM sF rO
     have g5:((k+2:Nat):Int)=y2:=eC
     rcases dV (kd l k=1)with c1|c1
     ·rw[aF c1]at hq;rw[c1]at bi
      rcases tW (aM l (k+1) eQ)with c2|c2
      ·rw[c2]at tD;rw[aF c2]at hq;rw[hq]at uy;clear oZ hE hμ g1 g2 g3 g5 fc c1 c2 hq h sF rO cn;exact jl
      ·rw[c2]at tD;rw[aD aX]at hq
       rcases tW (aM l (k+1) sY)with c3|c3
       ·have hp:=nZ c3;rw[c3]at fc;rw[aF c3]at hq;have hI:((k+2:Nat):Int)=y2/\k+2<=l.length/\∃m,l.length+1<=m+(k+2)/\ou l m (k+2)=q:=⟨g5,by omega,m,by omega,hq⟩
        have nE:μ (y2,k+2)<μ (z,k):=aX
        clear oZ hE hμ g1 g2 g3 g5 uy c1 c2 c3 hq hp h sF rO cn;cbv;refine mV ?_;exact .mk (y2,k+2) r5 hI nE
       ·rw[c3]at fc;rw[aD aX]at hq
        subst hq;clear oZ hE hμ g1 g2 g3 g5 uy c1 c2 c3 h sF rO cn;exact jl
     ·rw[aD c1]at hq;subst hq;have d1:=dF c1;obtain⟨K,hK⟩:∃K,kd l k=K:=⟨_,rfl⟩
      rw[hK]at bi d1;clear oZ hE hμ g1 g2 g3 g5 uy fc tD c1 hK h sF rO cn;exact jl
end
theorem u6(k:Int){R:List (List PV)}{N:Nat}(hN:R.length=N)(hR:N<=1000):VM 17 [.p (pI k),.osl 0 0 N] [some (.rows 5 R 25)] (.p (.agg [pI k,pS ⟨#[]⟩,pI 0,pI 0,.ro 5 R])) [some (.rows 5 R 25)]:=by
 refine nX Tryz.func17 rfl kR (fun _=>0) (fun _=>[]) (fun _ _=>0) kR rfl fun t0 P G E hc hM hE=>?_
 clear hc hM;cbv;have fO:=iQ hE;subst hE hN;have e:(R.drop 0).take R.length=R:=aX
 refine⟨by show 0+R.length<=R.length;omega,nR 0,fO.room 0 R.length 64 oM aN,?_,?_,rfl,trivial⟩
 ·show 0+(0+R.length)<=([]++(R.drop 0).take R.length).length
  grind
 ·show AV.p (PV.agg [_,_,_,_,.ro 5 ((([]++(R.drop 0).take R.length).drop 0).take (0+R.length))])=_
  grind
theorem IV(k:Int){R:List (List PV)}{N:Nat}(hN:R.length=N)(hR:N<=1000):VM 17 [.p (pI k),.osl 0 0 N] [some (.rows 5 R 25)] (.agg [.p (pI k),.p (pS ⟨#[]⟩),.p (pI 0),.p (pI 0),.osl 2 0 N]) [some (.rows 5 R 25),none,some (.rows 5 R 25)]:=by
 refine Ox aU Tryz.func17 rfl kR (oT kR) fun tags cC=>?_
 match tags,cC with
 |[t0],_=>
  refine aY.of aU mixed (fun _=>0) kR (fun E=>Gn E cO Tryz.f17.results.toList [t0] (.agg [.p (pI k),.p (pS ⟨#[]⟩),.p (pI 0),.p (pI 0),.osl 2 0 N]) [some (.rows 5 R 25),none,some (.rows 5 R 25)]) fun P G E hc hM hE=>?_
  clear hc hM;cbv;have fO:=iQ hE;subst hE hN;have e:(R.drop 0).take R.length=R:=aX
  refine⟨by show 0+R.length<=R.length;omega,nR 0,fO.room 0 R.length 64 oM aN,?_,⟨rfl,?_⟩,trivial⟩
  ·show AV.agg [_,_,_,_,.osl 2 0 (0+R.length)]=_;rw[cF]
  ·show some (cE.rows 5 ([]++(R.drop 0).take R.length) _)=_/\_
   grind
theorem xd2(k:Int):VM 17 [.p (pI k),.p (.v (.slice none 0 0))] [] (.agg [.p (pI k),.p (pS ⟨#[]⟩),.p (pI 0),.p (pI 0),.osl 1 0 0]) [none,some (.rows 5 [] 25)]:=by
 refine Ox aU Tryz.func17 rfl kR (oT kR) fun tags cC=>?_
 match tags,cC with
 |[],_=>
  refine aY.of aU mixed (fun _=>0) kR (fun E=>Gn E cO Tryz.f17.results.toList [] (.agg [.p (pI k),.p (pS ⟨#[]⟩),.p (pI 0),.p (pI 0),.osl 1 0 0]) [none,some (.rows 5 [] 25)]) fun P G E hc hM hE=>?_
  clear hc hM;cbv;have fO:=iQ hE;subst hE;exact⟨nR 0,fO.room 0 0 64 aN aN,rfl,⟨rfl,trivial⟩,trivial⟩
def RS.fid:RS->Option FuncId
 | .stms=>some 18
 | .stm=>some 47
 | .block=>some 70
 | .decls _=>some 74
 | .cond=>some 76
 | .loop=>some 77
 | .tryR=>some 78
 | .func _=>some 75
 | .names=>some 68
 | .arrow=>some 41
 | .assign=>some 16
 | .lv 0=>some 43
 | .lv 1=>some 71
 | .lv (k+2)=>if k<=4 then some 103 else none
 | .unary=>some 125
 | .list _=>some 151
 | .chain=>some 138
 | .prim=>some 149
 | .obj=>some 165
 | .field=>some 173
 |_=>none
def RS.args:RS->List AV
 | .decls k=>[.p (pI k)]
 | .func d=>[.p (pB d)]
 | .lv (k+2)=>[.p (pI (k:Nat))]
 | .list e=>[.p (pS (bL e))]
 |_=>[]
def RS.isL:RS->Bool
 | .stms|.stmsL _|.names|.namesL _|.list _|.listL _ _=>true
 |_=>false
def uM(o:RV×Ts×Bool):AV:=.p (.agg (pY o.1.n))
def QH(o:RV×Ts×Bool):AV:=.p (px o.1.s)
def EU(o:RV×Ts×Bool):AV:=.p (.ro 5 (gZ o.1.s))
def RS.val(s:RS)(o:RV×Ts×Bool):AV:=match s with
 | .stms=>EU o
 |s=>if s.isL then QH o else uM o
theorem H5{s:RS}{o:RV×Ts×Bool}(h:s.isL=false):s.val o=uM o:=by cases s<;>first|rfl|cases h
theorem xgn{s:RS}{o:RV×Ts×Bool}(h:s.isL=true)(h2:s ≠ .stms):s.val o=QH o:=by cases s<;>first|rfl|exact absurd rfl h2|cases h
def j5(toks:List Tk)(LR:List (List PV))(o:RV×Ts×Bool):AH:=[dB LR (((toks.length:Nat):Int)-((o.2.1.length:Nat):Int)) o.2.2]
def xe:RS->Bool->Bool
 | .names,_=>false
 | .stms,_|.stm,_|.block,_|.decls _,_|.list _,_|.assign,_|.unary,_=>true
 |_,b=>!b
def gQ(n:Int)(toks:List Tk)(LR:List (List PV))(s:RS)(l:Ts)(b:Bool):Prop:=xe s b=true->∀m,dU s l b<m->∀f,s.fid=some f->∀a,bF n toks LR a l->∀o,bX m s l b=o->VM f (.own 0 0::s.args) [dB LR a b] (s.val o) (j5 toks LR o)
structure Cn(M:Nat)(s:RS)(l:Ts)(b:Bool)(f:FuncId)(z:Bool)(az:List AV):Prop where
 m:dU s l b<M
 f:s.fid=some f
 nd:s.isL=z
 az:s.args=az
 ok:xe s b=true
theorem vv{s s':RS}{l l':Ts}{b b':Bool}(h:rμ l' b'<rμ l b):dU s' l' b'<dU s l b:=by
 cases b with
 |true=>rw[ud]at h;omega
 |false=>exact z7x h
theorem xcz{s s':RS}{l l':Ts}{b b':Bool}(hb:b=false)(h:rμ l' b'<=rμ l b)(hr:s'.rank<s.rank):dU s' l' b'<dU s l b:=by
 subst hb;exact A4 h hr
theorem xc1{s s':RS}{l l':Ts}{b b':Bool}(h:rμ l' b'=0\/rμ l' b'<rμ l b)(hb:s'.brk<s.brk):dU s' l' b'<dU s l b:=by
 rcases h with h|h
 ·cases b' with
  |false=>rw[tZ]at h;omega
  |true=>
   cases b with
   |true=>exact hb
   |false=>
    have:=NR s'
    show s'.brk<64*(l.length+1)+s.rank;omega
 ·exact vv h
theorem pc{s s':RS}{l l':Ts}{b b':Bool}(h:rμ l' b'<=rμ l b)(hr:s'.rank<=s.rank)(hb:s'.brk<=s.brk):dU s' l' b'<=dU s l b:=by
 have:=NR s'
 cases b' with
 |true=>
  cases b with
  |true=>exact hb
  |false=>show s'.brk<=64*(l.length+1)+s.rank;omega
 |false=>
  cases b with
  |true=>rw[ud,tZ]at h;omega
  |false=>rw[tZ,tZ]at h;show 64*(l'.length+1)+s'.rank<=64*(l.length+1)+s.rank;omega
theorem ZS(l:Ts)(b:Bool):rμ l b<=l.length+1:=by cases b<;>simp[rμ]
theorem DK{l:Ts}(k:Nat)(b:Bool)(h:0<l.length)(hk:0<k):rμ (l.drop k) b<rμ l b\/rμ (l.drop k) b=0:=by
 cases b with
 |true=>exact .inr rfl
 |false=>rw[tZ,tZ,zC];exact .inl oM
structure bC(R:RR)(p:RP)(l:Ts)(b:Bool)(o:RV×Ts×Bool):Prop where
 h:p.run R l b=o
theorem uX{n:Int}{toks:List Tk}{LR:List (List PV)}{s:RS}{l:Ts}{b:Bool}(k:xe s b=true->∀m,dU s l b<=m->∀f,s.fid=some f->∀a,bF n toks LR a l->∀o,bC (bX m) (gr s) l b o->∀rr,s.val o=rr->∀HH,j5 toks LR o=HH->∀M:Int,((toks.length:Nat):Int)=M->∀l0,l=l0->∀R0,rμ l b=R0->VM f (.own 0 0::s.args) [dB LR a b] rr HH):gQ n toks LR s l b:=fun hb m hm f hf a h o ho=>by
 obtain⟨m,rfl⟩:∃k,m=k+1:=⟨m-1,by omega⟩
 rw[IW]at ho;exact k hb m (kj hm) f hf a h o ⟨ho⟩ _ rfl _ rfl _ rfl _ rfl _ rfl
abbrev yN:=Int×Ts×Bool×Nat×PT×Int×Int×Int×Int×ByteArray×PV
abbrev MF:=Int×Ts×Bool×Nat×PT×Int×Int×Int×ByteArray×PV
abbrev BO:=Int×Ts×Bool×PT×Int×Int×Int×ByteArray×PV
abbrev GA:=Int×Ts×Nat×List PT×List (List PV)×Nat
abbrev VQ:=Int×Ts×Bool×Nat×List PT×List (List PV)×Nat
abbrev kv(LR:List (List PV))(t0:Nat)(a:Int)(b:Bool):Option cE:=some (.box [.p (.ro 3 LR),.p (pI a),.p (pB b)] 46 (some t0))
abbrev BC(k i o:Int)(s:ByteArray)(v:AV):Option cE:=some (.box [.p (pI k),.p (pS s),.p (pI i),.p (pI o),v] 25 none)
abbrev AX:Option cE:=BC 0 0 0 ⟨#[]⟩ (.p (.v (.slice none 0 0)))
abbrev LG(x:Int×Int×Int×ByteArray×PV):Option cE:=BC x.1 x.2.1 x.2.2.1 x.2.2.2.1 (.p x.2.2.2.2)
abbrev KO(v:PT)(x:Int×Int×Int×ByteArray×PV):Prop:=lX v x.1 x.2.1 x.2.2.1 x.2.2.2.1 x.2.2.2.2
abbrev nj(LR:List (List PV))(t0:Nat)(x:yN):AH:=[kv LR t0 x.1 x.2.2.1,AX,LG x.2.2.2.2.2.2]
abbrev ni(n:Int)(toks:List Tk)(LR:List (List PV))(o:RV×Ts×Bool)(R0 k:Nat)(x:yN):Prop:=bF n toks LR x.1 x.2.1/\bC (bX x.2.2.2.1) (KW k x.2.2.2.2.1 x.2.2.2.2.2.1) x.2.1 x.2.2.1 o/\KO x.2.2.2.2.1 x.2.2.2.2.2.2/\rμ x.2.1 x.2.2.1<=R0/\(x.2.2.2.2.2.1=0\/x.2.2.2.2.2.1≠0/\0<=x.2.2.2.2.2.1/\x.2.2.2.2.2.1<=30/\x.2.2.1=false/\dU (.lv k) x.2.1 false<=x.2.2.2.1)
abbrev Jg(LR:List (List PV))(t0:Nat)(x:MF):AH:=[kv LR t0 x.1 x.2.2.1,AX,LG x.2.2.2.2.2]
abbrev LK(n:Int)(toks:List Tk)(LR:List (List PV))(o:RV×Ts×Bool)(R0:Nat)(g:PT->RP)(s:PT->RS)(x:MF):Prop:=bF n toks LR x.1 x.2.1/\bC (bX x.2.2.2.1) (g x.2.2.2.2.1) x.2.1 x.2.2.1 o/\KO x.2.2.2.2.1 x.2.2.2.2.2/\dU (s x.2.2.2.2.1) x.2.1 x.2.2.1<=x.2.2.2.1/\rμ x.2.1 x.2.2.1<=R0
abbrev asI(n:Int)(toks:List Tk)(LR:List (List PV))(o:RV×Ts×Bool)(m R0:Nat)(g:PT->RP)(x:BO):Prop:=bF n toks LR x.1 x.2.1/\bC (bX m) (g x.2.2.2.1) x.2.1 x.2.2.1 o/\KO x.2.2.2.1 x.2.2.2.2/\rμ x.2.1 x.2.2.1<=R0
abbrev J2:List AV:=[.own 0 0,.own 1 0,.own 2 0]
abbrev J1(n:Int)(toks:List Tk)(LR:List (List PV))(o:RV×Ts×Bool)(L9:Nat)(g:List PT->RP)(s:List PT->RS)(x:GA):Prop:=bF n toks LR x.1 x.2.1/\bC (bX x.2.2.1) (g x.2.2.2.1) x.2.1 false o/\dU (s x.2.2.2.1) x.2.1 false<=x.2.2.1/\x.2.2.2.2.2+x.2.1.length<=L9/\gZ x.2.2.2.1=x.2.2.2.2.1/\x.2.2.2.2.1.length=x.2.2.2.2.2
abbrev Ug(n:Int)(toks:List Tk)(LR:List (List PV))(o:RV×Ts×Bool)(R0:Nat)(g:List PT->RP)(s:List PT->RS)(x:VQ):Prop:=bF n toks LR x.1 x.2.1/\bC (bX x.2.2.2.1) (g x.2.2.2.2.1) x.2.1 x.2.2.1 o/\dU (s x.2.2.2.2.1) x.2.1 x.2.2.1<=x.2.2.2.1/\x.2.2.2.2.2.2+rμ x.2.1 x.2.2.1<=R0/\gZ x.2.2.2.2.1=x.2.2.2.2.2.1/\x.2.2.2.2.2.1.length=x.2.2.2.2.2.2
section
variable{n:Int}{toks:List Tk}{LR:List (List PV)}{a:Int}{l:Ts}{b:Bool}{R:RR}{o:RV×Ts×Bool}{G:Prop}{M m:Nat}
theorem So(h:bF n toks LR a l){w:Bs}{k:RP}(ho:bC R (RP.need w k) l b o)
  (A:∀l1 b1 a1,bF n toks LR a1 l1->bC R k l1 b1 o->(rμ l1 b1<rμ l b\/rμ l1 b1=0)->rμ l1 b1<=rμ l b->VM 44 [.own 0 0,.p (pS (bL w))] [dB LR a b] (.p (.tup [])) [dB LR a1 b1]->G):G:=by
 obtain⟨ho⟩:=ho;rw[RP.run]at ho
 split at ho
 ·rename_i hc;obtain⟨a1,h1,hk⟩:=xcr h hc.2
  have:=DK 1 false (nZ hc.2) aN
  obtain⟨hb,_⟩:=hc;subst hb;have h2:rμ (l.drop 1) false<rμ l false:=this.elim id fun e=>by rw[tZ]at e;omega
  exact A _ _ a1 h1 ⟨ho⟩ (.inl h2) (dD h2) hk
 ·rename_i hc;refine A _ _ a h ⟨ho⟩ (.inr rfl) Jj (xcs h ?_)
  cases b with
  |true=>exact .inl rfl
  |false=>exact .inr (by cases hi:aM l 0 w with
   |true=>exact absurd ⟨rfl,hi⟩ hc
   |false=>rfl)
theorem IR(h:bF n toks LR a l){w:Bs}{x y:RP}(ho:bC R (RP.take w x y) l b o)
  (A:∀a1,bF n toks LR a1 (l.drop 1)->bC R x (l.drop 1) false o->rμ (l.drop 1) false<rμ l b->b=false->VM 42 [.own 0 0,.p (pS (bL w))] [dB LR a b] (.p (pB true)) [dB LR a1 false]->G)
  (B:bC R y l b o->VM 42 [.own 0 0,.p (pS (bL w))] [dB LR a b] (.p (pB false)) [dB LR a b]->G):G:=by
 obtain⟨ho⟩:=ho;rw[RP.run]at ho
 split at ho
 ·rename_i hc;obtain⟨a1,h1,hk⟩:=Ri h hc.2
  have:=DK 1 false (nZ hc.2) aN
  obtain⟨hb,_⟩:=hc;subst hb;exact A a1 h1 ⟨ho⟩ (this.elim id fun e=>by rw[tZ]at e;omega) rfl hk
 ·rename_i hc;refine B ⟨ho⟩ (Rh h ?_)
  cases b with
  |true=>exact .inl rfl
  |false=>exact .inr (by cases hi:aM l 0 w with
   |true=>exact absurd ⟨rfl,hi⟩ hc
   |false=>rfl)
theorem sAt(h:bF n toks LR a l){k:Nat}(hk:k<=1000){w:Bs}{x y:RP}(ho:bC R (RP.at_ k w x y) l b o)
  (A:bC R x l b o->aM l k w=true->VM 46 [.own 0 0,.p (pI (k:Nat)),.p (pS (bL w))] [dB LR a b] (.p (pB true)) [dB LR a b]->V0 46 [.rop (uc LR a b),pI (k:Nat),pS (bL w)] (pB true)->G)
  (B:bC R y l b o->aM l k w=false->VM 46 [.own 0 0,.p (pI (k:Nat)),.p (pS (bL w))] [dB LR a b] (.p (pB false)) [dB LR a b]->V0 46 [.rop (uc LR a b),pI (k:Nat),pS (bL w)] (pB false)->G):G:=by
 obtain⟨ho⟩:=ho;have hr:=tq h (k:=k) rfl oM w b
 have hm:=FH h k oM w b
 rw[RP.run]at ho
 cases hi:aM l k w with
 |true=>rw[hi]at ho hr hm;exact A ⟨ho⟩ hi hm hr
 |false=>rw[hi]at ho hr hm;exact B ⟨ho⟩ hi hm hr
theorem sKd(h:bF n toks LR a l){k:Nat}(hk:k<=1000){q:Int}{x y:RP}(ho:bC R (RP.kdI k q x y) l b o)
  (A:∀K,bC R x l b o->kd l k=q->decide (K=q)=true->VM 67 [.own 0 0,.p (pI (k:Nat))] [dB LR a b] (.p (pI K)) [dB LR a b]->V0 67 [.rop (uc LR a b),pI (k:Nat)] (pI K)->G)
  (B:∀K,bC R y l b o->kd l k≠q->decide (K=q)=false->VM 67 [.own 0 0,.p (pI (k:Nat))] [dB LR a b] (.p (pI K)) [dB LR a b]->V0 67 [.rop (uc LR a b),pI (k:Nat)] (pI K)->G):G:=by
 obtain⟨ho⟩:=ho;have hr:=A2 h (k:=k) rfl oM b
 have hm:=DD h k oM b
 rw[RP.run]at ho
 split at ho
 ·rename_i hc;exact A _ ⟨ho⟩ hc (aA hc) hm hr
 ·rename_i hc;exact B _ ⟨ho⟩ hc (dF hc) hm hr
theorem sKl{k:Nat}{K:Int}(hK:kd l k=K){q:Int}{x y:RP}(ho:bC R (RP.kdI k q x y) l b o)(A:bC R x l b o->kd l k=q->decide (K=q)=true->G)(B:bC R y l b o->kd l k≠q->decide (K=q)=false->G):G:=by
 obtain⟨ho⟩:=ho;subst hK;rw[RP.run]at ho
 split at ho
 ·rename_i hc;exact A ⟨ho⟩ hc (aA hc)
 ·rename_i hc;exact B ⟨ho⟩ hc (dF hc)
theorem xhf(h:bF n toks LR a l){x y:RP}(ho:bC R (RP.ahead x y) l b o)
  (A:bC R x l b o->VM 40 [.own 0 0] [dB LR a b] (.p (pB true)) [dB LR a b]->V0 40 [.rop (uc LR a b)] (pB true)->G)
  (B:bC R y l b o->VM 40 [.own 0 0] [dB LR a b] (.p (pB false)) [dB LR a b]->V0 40 [.rop (uc LR a b)] (pB false)->G):G:=by
 obtain⟨ho⟩:=ho;have hr:=z6n h b;rw[RP.run]at ho
 cases hi:lc l with
 |true=>rw[hi]at ho hr;exact A ⟨ho⟩ hr.ro hr
 |false=>rw[hi]at ho hr;exact B ⟨ho⟩ hr.ro hr
theorem RD(h:bF n toks LR a l){k:Bs->RP}(ho:bC R (RP.name k) l b o)
  (A:∀s T l1 b1 a1,bF n toks LR a1 l1->bC R (k s) l1 b1 o->bL s=T->(rμ l1 b1<rμ l b\/rμ l1 b1=0)->rμ l1 b1<=rμ l b->VM 69 [.own 0 0] [dB LR a b] (.p (pS T)) [dB LR a1 b1]->G):G:=by
 obtain⟨ho⟩:=ho;rw[RP.run]at ho
 split at ho
 ·rename_i hc;obtain⟨a1,h1,hk⟩:=xct h hc.2
  have:=DK 1 false (lO hc.2 aN) aN
  obtain⟨hb,_⟩:=hc;subst hb;have h2:rμ (l.drop 1) false<rμ l false:=this.elim id fun e=>by rw[tZ]at e;omega
  exact A _ _ _ _ a1 h1 ⟨ho⟩ rfl (.inl h2) (dD h2) hk
 ·rename_i hc;refine A _ _ _ _ a h ⟨ho⟩ rfl (.inr rfl) Jj (xcu h ?_)
  cases b with
  |true=>exact .inl rfl
  |false=>exact .inr fun e=>hc ⟨rfl,e⟩
theorem I1(h:bF n toks LR a l){k:Bs->RP}(ho:bC R (RP.key k) l b o)
  (A:∀s T l1 b1 a1,bF n toks LR a1 l1->bC R (k s) l1 b1 o->bL s=T->(rμ l1 b1<rμ l b\/rμ l1 b1=0)->rμ l1 b1<=rμ l b->VM 150 [.own 0 0] [dB LR a b] (.p (pS T)) [dB LR a1 b1]->G):G:=by
 obtain⟨ho⟩:=ho;rw[RP.run]at ho
 split at ho
 ·rename_i hc;obtain⟨a1,h1,hk⟩:=xh4 h hc.2
  have:=DK 1 false (hc.2.elim (fun e=>lO e aN) fun e=>lO e aN) aN
  obtain⟨hb,_⟩:=hc;subst hb;have h2:rμ (l.drop 1) false<rμ l false:=this.elim id fun e=>by rw[tZ]at e;omega
  exact A _ _ _ _ a1 h1 ⟨ho⟩ rfl (.inl h2) (dD h2) hk
 ·rename_i hc;refine A _ _ _ _ a h ⟨ho⟩ rfl (.inr rfl) Jj (xh5 h ?_)
  cases b with
  |true=>exact .inl rfl
  |false=>exact .inr fun e=>hc ⟨rfl,e⟩
theorem CU(h:bF n toks LR a l){fr cnt:Nat}{k:Int->RP}(ho:bC R (RP.oper fr cnt k) l b o)(h1:1<=fr)(h2:fr+cnt<=30)(h3:1<=cnt)
  (A:∀N a1,bF n toks LR a1 (l.drop 1)->bC R (k N) (l.drop 1) false o->rμ (l.drop 1) false<rμ l b->b=false->N≠0->0<=N->N<=30->VM 45 [.own 0 0,.p (pI (fr:Nat)),.p (pI (fr+cnt-1:Nat))] [dB LR a b] (.p (pI N)) [dB LR a1 false]->G)
  (B:bC R (k 0) l b o->VM 45 [.own 0 0,.p (pI (fr:Nat)),.p (pI (fr+cnt-1:Nat))] [dB LR a b] (.p (pI 0)) [dB LR a b]->G):G:=by
 obtain⟨ho⟩:=ho;have hb:=Ec (tx l 0) fr cnt;have e1:((fr:Nat):Int)=((fr:Nat):Int):=rfl;have e2:((fr:Nat):Int)+((cnt:Nat):Int)=((fr+cnt-1:Nat):Int)+1:=eC
 rw[RP.run]at ho
 split at ho
 ·rename_i hc;obtain⟨a1,g1,hk⟩:=xcp h hc.2.1 hc.2.2 h1 h2 e1 e2
  have:=DK 1 false (hc.2.1.elim (fun e=>lO e aN) fun e=>lO e aN) aN
  obtain⟨ip,wR,CB⟩:=hc;subst ip;exact A _ a1 g1 ⟨ho⟩ (this.elim id fun e=>by rw[tZ]at e;omega) rfl CB hb.1 oM hk
 ·rename_i hc;refine B ⟨ho⟩ (xcq h ?_ h1 h2 e1 e2)
  cases b with
  |true=>exact .inl rfl
  |false=>exact .inr fun e=>hc ⟨rfl,e⟩
theorem oN{E:SO}(hE:E=bG){N:Int}(h0:0<=N)(hn:N≠0):E.lti 0 N=true:=sN
theorem o0{E:SO}(hE:E=bG):E.lti 0 0=false:=fH
theorem I4{N:Int}{x y:RP}(hn:N≠0)(ho:bC R (if N=0 then x else y) l b o):bC R y l b o:=by rwa[aD hn]at ho
theorem I3{x y:RP}(ho:bC R (if(0:Int)=0 then x else y) l b o):bC R x l b o:=ho
theorem RK{x y:PT}{k i q k2 i2 q2 kk N:Int}{nm nm2:ByteArray}{K K2:PV}(hx:lX x k2 i2 q2 nm2 K2)(hv:lX y k i q nm K):lX (gC kk N [x,y]) kk 0 N ⟨#[]⟩ (.ro 5 [[pI k2,pS nm2,pI i2,pI q2,K2],[pI k,pS nm,pI i,pI q,K]]):=
 ⟨by simp only[gC,pY,rV,gZ,hx.row,hv.row];rfl,rfl,rfl⟩
theorem I6{E:SO}(hE:E=bG){N:Int}(hN:0<=N){x y:RP}(ho:bC R (if N=0 then x else y) l b o)(A:bC R x l b o->N=0->E.lti 0 N=false->G)(B:bC R y l b o->N≠0->E.lti 0 N=true->G):G:=by
 obtain⟨ho⟩:=ho
 split at ho
 ·rename_i hc;exact A ⟨ho⟩ hc sE
 ·rename_i hc;exact B ⟨ho⟩ hc sN
theorem I8{x y:RP}(ho:bC R (RP.bad x y) l b o)(A:bC R x l true o->b=true->G)(B:bC R y l false o->b=false->G):G:=by
 cases b with
 |true=>exact A ⟨ho.h⟩ rfl
 |false=>exact B ⟨ho.h⟩ rfl
theorem RF{x y:RP}(ho:bC R (RP.bad x y) l true o):bC R x l true o:=⟨ho.h⟩
theorem RG{x y:RP}(ho:bC R (RP.bad x y) l false o):bC R y l false o:=⟨ho.h⟩
theorem RE{x:RP}(ho:bC R (RP.fail x) l b o):bC R x l true o:=⟨ho.h⟩
theorem I0{k:Nat}{x:Bs->RP}(ho:bC R (RP.ptx k x) l b o):bC R (x (tx l k)) l b o:=⟨ho.h⟩
theorem Hz{v:RV}(ho:bC R (RP.ret v) l b o):(v,l,b)=o:=ho.h
theorem sTl{s:RS}(ho:bC R (RP.tail s) l b o):R s l b=o:=ho.h
theorem I7{E:SO}(hE:E=bG){M:Int}(lU:((toks.length:Nat):Int)=M)(h:bF n toks LR a l){x y:RP}(ho:bC R (RP.eof x y) l b o)(A:bC R x l b o->l=[]->E.lti a M=false->E.lei M a=true->G)(B:bC R y l b o->0<l.length->E.lti a M=true->E.lei M a=false->G):G:=by
 obtain⟨ho⟩:=ho;have h1:=h.h1;rw[RP.run]at ho
 split at ho
 ·rename_i hc;rw[hc]at h1;exact A ⟨ho⟩ hc (by rw[hE];exact dF (by simp at h1;omega)) (by rw[hE];exact aA (by simp at h1;omega))
 ·rename_i hc
  have:=aS.2 hc
  exact B ⟨ho⟩ this sN sE
theorem vk(hM:M<=m)(ih:∀s' l' b',dU s' l' b'<M->gQ n toks LR s' l' b')(h:bF n toks LR a l){s:RS}{k:PT->RP}(ho:bC (bX m) (RP.call s k) l b o){f:FuncId}{az:List AV}(H:Cn M s l b f false az)
  (A:∀x l1 b1 a1 k1 i q nm KK,bF n toks LR a1 l1->bC (bX m) (k x) l1 b1 o->rμ l1 b1<=rμ l b->lX x k1 i q nm KK->VM f (.own 0 0::az) [dB LR a b] (.p (.agg [pI k1,pS nm,pI i,pI q,KK])) [dB LR a1 b1]->G):G:=by
 obtain⟨ho⟩:=ho;obtain⟨h1,h2,h3,h4,h5⟩:=H;have hg:=ih s l b h1 h5 m oM f h2 a h _ rfl
 rw[H5 h3,h4]at hg;have he:=nA m s l b;obtain⟨k1,i,q,nm,KK,hv⟩:=Bb (bX m s l b).1.n;have pO:VM f (.own 0 0::az) [dB LR a b] (.p (.agg (pY (bX m s l b).1.n))) (j5 toks LR (bX m s l b)):=hg;rw[hv.row]at pO;exact A _ _ _ _ k1 i q nm KK (h.suf he.s) ⟨ho⟩ he.μ hv pO
theorem RA(hM:M<=m)(ih:∀s' l' b',dU s' l' b'<M->gQ n toks LR s' l' b')(h:bF n toks LR a l){s:RS}(ho:bC (bX m) (RP.tail s) l b o){f:FuncId}{az:List AV}(H:Cn M s l b f false az)
  (A:∀k1 i q nm KK,lX o.1.n k1 i q nm KK->VM f (.own 0 0::az) [dB LR a b] (.p (.agg [pI k1,pS nm,pI i,pI q,KK])) (j5 toks LR o)->G):G:=by
 obtain⟨ho⟩:=ho;obtain⟨h1,h2,h3,h4,h5⟩:=H;have hg:=ih s l b h1 h5 m oM f h2 a h _ ho
 rw[H5 h3,h4]at hg;obtain⟨k1,i,q,nm,KK,hv⟩:=Bb o.1.n;have pO:VM f (.own 0 0::az) [dB LR a b] (.p (.agg (pY o.1.n))) (j5 toks LR o):=hg;rw[hv.row]at pO;exact A k1 i q nm KK hv pO
theorem Hp{E:SO}(hE:E=bG){N Q:Int}(h0:0<=N)(h1:N<=30)(hQ:N+100=Q):E.wadd .i64 N 100=Q:=by rw[hE,<- hQ];exact jX oM oM
theorem I2{k:Nat}{K:Int}(hK:kd l k=K){x:Int->RP}(ho:bC R (RP.kdv k x) l b o):bC R (x K) l b o:=by subst hK;exact⟨ho.h⟩
theorem I5{N q:Int}{x y:RP}(ho:bC R (if N=q then x else y) l b o)(A:bC R x l b o->decide (N=q)=true->G)(B:bC R y l b o->decide (N=q)=false->G):G:=by
 split at ho
 ·rename_i hc;exact A ho (aA hc)
 ·rename_i hc;exact B ho (dF hc)
theorem RC{E:SO}(hE:E=bG)(h:bF n toks LR a l)(hl:0<l.length){x:RP}(ho:bC R (RP.skip 1 x) l b o)(A:∀a1,bF n toks LR a1 (l.drop 1)->E.wadd .i64 a 1=a1->bC R x (l.drop 1) b o->(rμ (l.drop 1) b<rμ l b\/rμ (l.drop 1) b=0)->rμ (l.drop 1) b<=rμ l b->G):G:=by
 obtain⟨a1,h1,e1,_⟩:=h.inc hE hl;have h2:=DK 1 b hl aN
 exact A a1 h1 e1 ⟨ho.h⟩ h2 (h2.elim dD fun e=>by rw[e];exact aP _)
theorem xha{E:SO}(hE:E=bG)(h:bF n toks LR a l)(hl:2<l.length){x:RP}(ho:bC R (RP.skip 3 x) l b o)(A:∀a1,bF n toks LR a1 (l.drop 3)->E.wadd .i64 a 3=a1->bC R x (l.drop 3) b o->(rμ (l.drop 3) b<rμ l b\/rμ (l.drop 3) b=0)->rμ (l.drop 3) b<=rμ l b->G):G:=by
 have h2:=DK (l:=l) 3 b oM aN
 have h0:=h.h0;have h3:=h.h1;have h4:=h.z;exact A (a+3) (h.drop 3 oM rfl) C4 ⟨ho.h⟩ h2 (h2.elim dD fun e=>by rw[e];exact aP _)
theorem rK9(ks:List PT):rV 9 ks=px ks:=by cases ks<;>simp[rV,px,gZ,eK]
theorem Ii(ks:List PT):rV 10 ks=px ks:=by cases ks<;>simp[rV,px,gZ,eK]
theorem Ih(ks:List PT):rV 27 ks=.ro 5 (gZ ks):=by cases ks<;>simp[rV,gZ,eK]
theorem xhe(hM:M<=m)(ih:∀s' l' b',dU s' l' b'<M->gQ n toks LR s' l' b')(h:bF n toks LR a l){s:RS}{k:List PT->RP}(ho:bC (bX m) (RP.calls s k) l b o){f:FuncId}{az:List AV}(H:Cn M s l b f true az)(hs:s ≠ .stms)
  (A:∀l1 b1 a1,bF n toks LR a1 l1->bC (bX m) (k []) l1 b1 o->rμ l1 b1<=rμ l b->VM f (.own 0 0::az) [dB LR a b] (.p (.v (.slice none 0 0))) [dB LR a1 b1]->G)
  (B:∀ks R l1 b1 a1,bF n toks LR a1 l1->bC (bX m) (k ks) l1 b1 o->rμ l1 b1<=rμ l b->px ks=.ro 5 R->VM f (.own 0 0::az) [dB LR a b] (.p (.ro 5 R)) [dB LR a1 b1]->G):G:=by
 obtain⟨h1,h2,h3,h4,h5⟩:=H;have hg:=ih s l b h1 h5 m oM f h2 a h _ rfl
 rw[xgn h3 hs,h4]at hg;have he:=nA m s l b;have pO:VM f (.own 0 0::az) [dB LR a b] (.p (px (bX m s l b).1.s)) (j5 toks LR (bX m s l b)):=hg;have tG:bC (bX m) (k (bX m s l b).1.s) (bX m s l b).2.1 (bX m s l b).2.2 o:=⟨ho.h⟩;generalize (bX m s l b).1.s=ks at pO tG
 cases ks with
 |nil=>exact A _ _ _ (h.suf he.s) tG he.μ pO
 |cons x ks=>exact B (x::ks) _ _ _ _ (h.suf he.s) tG he.μ rfl pO
theorem Iy(h:bF n toks LR a l)(hk:kd l 0=3){T:ByteArray}(hT:bL (tx l 0)=T):∃N:Int,((lE (tx l 0):Nat):Int)=N/\V0 164 [pS T] (.v (.int .i64 N)):=by
 obtain⟨t,ht⟩:∃t,l[0]?=some t:=⟨_,aB (lO hk aN)⟩
 have hm:t∈toks:=by rw[<-h.d]at ht;exact jE (aH ht)
 have e1:kd l 0=t.k:=by unfold kd;rw[ht]
 have e2:tx l 0=t.t:=by unfold tx;rw[ht]
 rw[e2]at hT ⊢;obtain⟨h1,_,h3⟩:=h.tn t hm (e1.symm.trans hk)
 have:=zvl h1 h3 (h.tz t hm)
 rw[hT]at this;exact⟨_,rfl,this⟩
theorem RB(hM:M<=m)(ih:∀s' l' b',dU s' l' b'<M->gQ n toks LR s' l' b')(h:bF n toks LR a l){k:List PT->RP}(ho:bC (bX m) (RP.calls .stms k) l b o)(hm:dU .stms l b<M)
  (A:∀ks R l1 b1 a1,bF n toks LR a1 l1->bC (bX m) (k ks) l1 b1 o->rμ l1 b1<=rμ l b->gZ ks=R->VM 18 [.own 0 0] [dB LR a b] (.p (.ro 5 R)) [dB LR a1 b1]->G):G:=by
 have hg:=ih .stms l b hm rfl m oM _ rfl a h _ rfl
 have he:=nA m .stms l b;exact A _ _ _ _ _ (h.suf he.s) ⟨ho.h⟩ he.μ rfl hg
theorem ca{s:RS}(ho:bC (bX m) (RP.tail s) l b o)(hm:dU s l b<m):∃m2,dU s l b<=m2/\bC (bX m2) (gr s) l b o:=by
 obtain⟨m2,rfl⟩:∃k,m=k+1:=⟨m-1,by omega⟩
 exact⟨m2,kj hm,⟨ho.h⟩⟩
theorem xc2{ks:List PT}(h:ks≠[]):px ks=.ro 5 (gZ ks):=by
 cases ks with
 |nil=>exact absurd rfl h
 |cons x ks=>rfl
theorem z7y:px []=.v (.slice none 0 0):=rfl
theorem z26(ks:List PT)(x:PT):px (ks++[x])=.ro 5 (gZ ks++[pY x]):=by
 rw[xc2 dL,wj,gZ,gZ]
theorem zzf(k:Int)(ks:List PT)(x:PT):rV k (ks++[x])=.ro 5 (gZ ks++[pY x]):=by
 cases ks with
 |nil=>rw[gZ];rfl
 |cons y ks=>rw[qD,rV,gZ,wj,gZ,gZ];rfl
theorem pq{E:SO}(hE:E=bG){R:List (List PV)}{N N2:Nat}(hN:R.length=N)(hz:N<=2000000)(fZ:N+1=N2)(row:List PV):∃R2,R++[row]=R2/\GB E R N row R2 N2:=⟨_,rfl,j4 hE hN hz rfl fZ⟩
def SL(o:RV×Ts×Bool):AV:=match o.1.s with
 |[]=>.p (.v (.slice none 0 0))
 |_::xs=>.osl 1 0 (xs.length+1)
def SM(toks:List Tk)(LR:List (List PV))(o:RV×Ts×Bool):AH:=match o.1.s with
 |[]=>j5 toks LR o
 |x::xs=>j5 toks LR o++[some (.rows 5 (gZ (x::xs)) 25)]
theorem xi4(l:Ts)(b:Bool):SL (.ls [],l,b)=.p (.v (.slice none 0 0)):=rfl
theorem xd4(l:Ts)(b:Bool):SM toks LR (.ls [],l,b)=j5 toks LR (.ls [],l,b):=rfl
theorem z7p(ks:List PT)(x:PT)(l:Ts)(b:Bool):SL (.ls (ks++[x]),l,b)=.osl 1 0 (ks.length+1):=by
 cases ks with
 |nil=>rfl
 |cons y ks=>show AV.osl 1 0 ((ks++[x]).length+1)=_;simp
theorem z8o(ks:List PT)(x:PT)(l:Ts)(b:Bool):SM toks LR (.ls (ks++[x]),l,b)=[dB LR (((toks.length:Nat):Int)-((l.length:Nat):Int)) b,some (.rows 5 (gZ ks++[pY x]) 25)]:=by
 have:gZ (ks++[x])=gZ ks++[pY x]:=by rw[wj,gZ,gZ]
 rw[<-this]
 cases ks with
 |nil=>rfl
 |cons y ks=>rfl
theorem E2{s s':RS}{l l':Ts}{b b':Bool}(h:rμ l' b'<=rμ l b)(hr:s'.rank<s.rank)(hb:s'.brk<s.brk):dU s' l' b'<dU s l b:=by
 have:=NR s'
 cases b with
 |true=>
  cases b' with
  |true=>exact hb
  |false=>rw[ud,tZ]at h;omega
 |false=>exact A4 h hr
theorem Hy(hM:M<=m)(ih:∀s' l' b',dU s' l' b'<M->gQ n toks LR s' l' b')(h:bF n toks LR a l){k:PT->RP}(ho:bC (bX m) (RP.call .stm k) l false o){f:FuncId}{az:List AV}(H:Cn M .stm l false f false az)
  (A:∀x l1 b1 a1 k1 i q nm KK,bF n toks LR a1 l1->bC (bX m) (k x) l1 b1 o->rμ l1 b1<rμ l false->lX x k1 i q nm KK->VM f (.own 0 0::az) [dB LR a false] (.p (.agg [pI k1,pS nm,pI i,pI q,KK])) [dB LR a1 b1]->G):G:=by
 have hm:=H.m;have h64:64<=dU .stm l false:=by show 64<=64*(l.length+1)+30;omega
 obtain⟨m',rfl⟩:∃k,m=k+2:=⟨m-2,by omega⟩
 have he:=z69 m' l false;refine vk hM ih h ho H fun x l1 b1 a1 k1 i q nm KK g1 g2 g3 g4 g5=>?_
 obtain⟨h1,h2,h3,h4,h5⟩:=H;have hg:=ih .stm l false h1 h5 (m'+2) oM f h2 a h _ rfl
 rw[H5 h3,h4]at hg;have Dd:=nA (m'+2) .stm l false;obtain⟨k1,i,q,nm,KK,hv⟩:=Bb (bX (m'+2) .stm l false).1.n;have pO:VM f (.own 0 0::az) [dB LR a false] (.p (.agg (pY (bX (m'+2) .stm l false).1.n))) (j5 toks LR (bX (m'+2) .stm l false)):=hg;rw[hv.row]at pO;refine A _ _ _ _ k1 i q nm KK (h.suf Dd.s) ⟨ho.h⟩ ?_ hv pO
 rcases he with he|he
 ·exact he
 ·rw[he,ud,tZ];omega
theorem Fs:∀(m:Nat)(acc:List PT)(l:Ts)(b:Bool),(bX m (.namesL acc) l b).1.s.length<=acc.length+l.length+1
 |0,acc,l,b=>aP _
 |m+1,acc,l,b=>by
  rw[IW];show((zr acc).run (bX m) l b).1.s.length<=_;unfold zr;simp only[RP.run]
  split
  ·split<;>(show acc.length<=_;omega)
  ·split
   ·rename_i hk;have h0:=lO hk.2 aN
    split
    ·rename_i hc;have h1:=nZ hc.2;rw[zC]at h1
     have:=Fs m (acc++[eD 7 (tx l 0) []]) ((l.drop 1).drop 1) false
     rw[sD,zC,zC]at this;simp only[qQ,bZ]at this;omega
    ·exact Ka
   ·split
    ·rename_i hc;cases hc.1
    ·exact Ka
theorem z3v(m:Nat)(l:Ts)(b:Bool):(bX m .names l b).1.s.length<=l.length+1:=by
 cases m with
 |zero=>exact aP _
 |succ m=>
  rw[IW];show((RP.need iS (.take eQ (.ret (.ls [])) (.tail (.namesL [])))).run (bX m) l b).1.s.length<=_;simp only[RP.run]
  split
  ·split
   ·exact aP _
   ·have:=Fs m [] (l.drop 1) false
    rw[zC]at this;exact Jp
  ·split
   ·rename_i hc;cases hc.1
   ·have:=Fs m [] l true
    exact Jp
theorem z0y{k i q k2 i2 q2:Int}{nm nm2:ByteArray}{K K2:PV}(ok:al (.p K)=true)(ok2:al (.p K2)=true)(kk N:Int):V0 72 [pI kk,pI N,.agg [pI k2,pS nm2,pI i2,pI q2,K2],.agg [pI k,pS nm,pI i,pI q,K]] (.agg [pI kk,pS ⟨#[]⟩,pI 0,pI N,.ro 5 [[pI k2,pS nm2,pI i2,pI q2,K2],[pI k,pS nm,pI i,pI q,K]]]):=by
 refine xR aU oF mixed (fun _=>0) Tryz.func72 rfl kR kR rfl fun P G E hc hM hE=>?_
 have fO:=iQ hE;clear hc hE;cbv at ok;cbv at ok2;cbv
 repeat (first|(simp only[ok];cbv)|(simp only[ok2];cbv)|(refine⟨fO.pre _ _ rfl,?_⟩;cbv)|(simp only[fO.s2];cbv)|(refine .inr (.z [2] (hM _ _ _ _ _ (u6 _ rfl (aE rfl))) rfl rfl rfl ?_);cbv)|(refine .inr (.z [3] (hM _ _ _ _ _ (u6 _ rfl (aE rfl))) rfl rfl rfl ?_);cbv))
 all_goals trivial
structure LvF(E:SO):Prop where
 a:∀i:Int,E.nat i=i.toNat
 b:E.wadd .i64 0 1=1/\E.wadd .i64 1 1=2/\E.wadd .i64 2 1=3/\E.wadd .i64 3 1=4
 c:E.ple 0 0
 d:E.ple 0 1
 e:E.ple 0 2
 f:E.ple 0 3
theorem LH{E:SO}(hE:E=bG):LvF E:=by subst hE;exact⟨fun _=>rfl,⟨rfl,rfl,rfl,rfl⟩,bT 0,(by decide:(0:Int)<=1),(by decide:(0:Int)<=2),(by decide:(0:Int)<=3)⟩
theorem bLn:bL []=⟨⟨[]⟩⟩:=rfl
structure Kv(E:SO):Prop where
 n1:E.addN 0 1=1
 a1:∀x:List PV,E.app [] 0 [x]=[x]
 s0:E.sub [] 0 0=[]
theorem wU{E:SO}(hE:E=bG):Kv E:=by subst hE;exact⟨rfl,fun _=>rfl,rfl⟩
theorem xhv:lX (nd 37 []) 37 0 0 ⟨#[]⟩ (.ro 5 []):=⟨by simp[nd,pY,rV,eK];rfl,rfl,rfl⟩
theorem xhw{x:PT}{k i q:Int}{nm:ByteArray}{K:PV}(hv:lX x k i q nm K):lX (nd 26 [x]) 26 0 0 ⟨#[]⟩ (.ro 5 [[pI k,pS nm,pI i,pI q,K]]):=⟨by simp only[nd,pY,rV,gZ,hv.row];rfl,rfl,rfl⟩
theorem Hw{E:SO}(hE:E=bG)(h:bF n toks LR a l){w:Bs}(hi:aM l 2 w=true):∃a1 K T y,E.wadd .i64 a 1=a1/\kd l 1=K/\bL (tx l 1)=T/\E.ple 0 a1/\LR[E.nat a1]?=some [pI K,pS T,pI y]:=by
 have hp:=nZ hi;obtain⟨K,T,y,h1,h2,g⟩:=h.tok (k:=1) (z:=1) rfl oM
 have h0:=h.h0;have h3:=h.h1;have h4:=h.z;exact⟨a+1,K,T,y,by rw[hE];exact jX oM oM,h1,h2,g E hE⟩
structure L0(E:SO):Prop where
 a:E.lti 0 0=false
 b:E.lti 0 1=true
 c:E.lti 0 2=true
theorem EX{E:SO}(hE:E=bG):L0 E:=by subst hE;exact⟨rfl,rfl,rfl⟩
theorem RO{x y z:PT}{k i q k2 i2 q2 k3 i3 q3:Int}{nm nm2 nm3:ByteArray}{K K2 K3:PV}(hx:lX x k3 i3 q3 nm3 K3)(hy:lX y k2 i2 q2 nm2 K2)(hz:lX z k i q nm K):lX (nd 15 [x,y,z]) 15 0 0 ⟨#[]⟩ (.ro 5 [[pI k3,pS nm3,pI i3,pI q3,K3],[pI k2,pS nm2,pI i2,pI q2,K2],[pI k,pS nm,pI i,pI q,K]]):=
 ⟨by simp only[nd,pY,rV,gZ,hx.row,hy.row,hz.row];rfl,rfl,rfl⟩
theorem xc0{s s':RS}{l l':Ts}{b':Bool}(h:rμ l' b'<=rμ l false)(hr:s'.rank<=s.rank):dU s' l' b'<=dU s l false:=by
 have:=NR s'
 cases b' with
 |true=>show s'.brk<=64*(l.length+1)+s.rank;omega
 |false=>rw[tZ,tZ]at h;show 64*(l'.length+1)+s'.rank<=64*(l.length+1)+s.rank;omega
theorem IP{x:PT}{s:Bs}{k i q:Int}{nm T:ByteArray}{K:PV}(hx:lX x k i q nm K)(hT:bL s=T):lX (eD 18 s [x]) 18 0 0 T (.ro 5 [[pI k,pS nm,pI i,pI q,K]]):=⟨by simp only[eD,pY,rV,gZ,hx.row,hT],rfl,rfl⟩
theorem Sp{x y:PT}{k i q k2 i2 q2:Int}{nm nm2:ByteArray}{K K2:PV}(hx:lX x k i q nm K)(hy:lX y k2 i2 q2 nm2 K2):lX (nd 19 [x,y]) 19 0 0 ⟨#[]⟩ (.ro 5 [[pI k,pS nm,pI i,pI q,K],[pI k2,pS nm2,pI i2,pI q2,K2]]):=⟨by simp only[nd,pY,rV,gZ,hx.row,hy.row];rfl,rfl,rfl⟩
structure Cs(E:SO)(r:List PV)(ks:List PT)(R:List (List PV))(M:Nat)(R2:List (List PV))(N2:Nat):Prop where
 pre:E.pre 0 1 [r]
 room:E.room 1 M 64
 add:E.addN 1 M=N2
 app:E.app [r] 1 R=R2
 le:N2<=R2.length
 take:R2.take N2=R2
 rr:gZ ks=R
 r2:r::R=R2
theorem IQ{x:PT}{kd:Int}{ks:List PT}{k i q:Int}{nm:ByteArray}{K:PV}{R R2:List (List PV)}{M N2:Nat}{E:SO}(hx:lX x k i q nm K)(h:Cs E [pI k,pS nm,pI i,pI q,K] ks R M R2 N2):lX (nd kd (x::ks)) kd 0 0 ⟨#[]⟩ (.ro 5 R2):=⟨by simp only[nd,pY,rV,hx.row,h.rr,h.r2];rfl,rfl,rfl⟩
theorem Of(e:Bs):∀(m:Nat)(acc:List PT)(l:Ts)(b:Bool),(bX m (.listL e acc) l b).1.s.length<=acc.length+l.length+1
 |0,acc,l,b=>aP _
 |m+1,acc,l,b=>by
  rw[IW];show((zh e acc).run (bX m) l b).1.s.length<=_;unfold zh;simp only[RP.run]
  split
  ·split<;>(show acc.length<=_;omega)
  ·have h1:=(nA m .assign l b).s.length_le
   split
   ·rename_i hc;have h2:=nZ hc.2
    have:=Of e m (acc++[(bX m .assign l b).1.n]) ((bX m .assign l b).2.1.drop 1) false
    rw[sD,zC]at this;simp only[qQ,bZ]at this;omega
   ·exact Ka
theorem z81(e:Bs)(m:Nat)(l:Ts)(b:Bool):(bX m (.list e) l b).1.s.length<=l.length+1:=by
 cases m with
 |zero=>exact aP _
 |succ m=>
  rw[IW];show((RP.take e (.ret (.ls [])) (.tail (.listL e []))).run (bX m) l b).1.s.length<=_;simp only[RP.run]
  split
  ·exact aP _
  ·have:=Of e m [] l b
   exact Jp
theorem xhd(hM:M<=m)(ih:∀s' l' b',dU s' l' b'<M->gQ n toks LR s' l' b')(h:bF n toks LR a l){e:Bs}{k:List PT->RP}(ho:bC (bX m) (RP.calls (.list e) k) l b o)(hm:dU (.list e) l b<M){E:SO}(hE:E=bG)(r:List PV)
  (A:∀R2 N2 l1 b1 a1,bF n toks LR a1 l1->bC (bX m) (k []) l1 b1 o->rμ l1 b1<=rμ l b->Cs E r [] [] 0 R2 N2->VM 151 [.own 0 0,.p (pS (bL e))] [dB LR a b] (.p (.v (.slice none 0 0))) [dB LR a1 b1]->G)
  (B:∀ks R N R2 N2 l1 b1 a1,bF n toks LR a1 l1->bC (bX m) (k ks) l1 b1 o->rμ l1 b1<=rμ l b->R.length=N->Cs E r ks R N R2 N2->VM 151 [.own 0 0,.p (pS (bL e))] [dB LR a b] (.p (.ro 5 R)) [dB LR a1 b1]->G):G:=by
 have hg:=ih (.list e) l b hm rfl m oM _ rfl a h _ rfl
 have he:=nA m (.list e) l b;have hn:=z81 e m l b;have hz:l.length<=1000000:=f6
 have pO:VM 151 [.own 0 0,.p (pS (bL e))] [dB LR a b] (.p (px (bX m (.list e) l b).1.s)) (j5 toks LR (bX m (.list e) l b)):=hg;have tG:bC (bX m) (k (bX m (.list e) l b).1.s) (bX m (.list e) l b).2.1 (bX m (.list e) l b).2.2 o:=⟨ho.h⟩;have so:∀ks:List PT,ks.length<=1000001->Cs E r ks (gZ ks) ks.length (r::gZ ks) (1+ks.length):=fun ks hk=>by
  subst hE;exact⟨nR 1,⟨by unfold maxLen;omega,by omega⟩,rfl,rfl,by simp[EB,Dn],by rw[iF (by simp[EB,Dn])],rfl,rfl⟩
 generalize (bX m (.list e) l b).1.s=ks at pO tG hn
 cases ks with
 |nil=>exact A _ _ _ _ _ (h.suf he.s) tG he.μ (so [] aN) pO
 |cons x ks=>exact B (x::ks) _ _ _ _ _ _ _ (h.suf he.s) tG he.μ (EB _) (so _ (by simp only[qQ]at hn ⊢;omega)) pO
end
theorem tO{p:Prop} (hp:p:=by
 have e0:=Hz ho;subst e0
 try simp only[uM,QH,EU,j5,RV.n,RV.s,h.place,nd,eD,gC,pY,rV,gZ,z7y,eK,qD,tB,eE,aK,bN]at dH mE
 try simp only[hv.row]at dH
 try simp only[hx.row]at dH
 try simp only[jY.row]at dH
 try simp only[zL.row]at dH
 try simp only[Ya.row]at dH
 try simp only[rK9,Ii,Ih,hL]at dH
 try simp only[xi4]at dH
 try simp only[z7p,hlen,fZ]at dH
 try simp only[xd4,j5,h.place]at mE
 try simp only[z8o,g4,h.place,pY,rV,eK,hT,cW,aK,bN]at mE
 try simp only[L7]at dH
 try simp only[z26]at dH
 try (simp only[zzf]at dH;try simp only[nd,eD,gC,pY,rV,gZ,eK,eE,aK,bN]at dH)
 try simp only[g4]at dH
 try simp only[hv.row]at dH
 try simp only[hT]at dH
 try simp only[cW]at dH
 try (simp only[bLn]at dH;simp only[qX]at dH)
 try simp only[MY]at dH
 try simp only[YJ]at dH
 try simp only[hQ]at dH
 subst dH mE;cbv
 repeat (first|(simp only[fA.sub,fA.add,fA.app];cbv)|(simp only[fC.sub,fC.add,fC.app];cbv)|(refine⟨fC.pre2,?_⟩;cbv)|(simp only[fF.sub];cbv)|(refine⟨fF.pre2,?_⟩;cbv)|(simp only[fD.sub];cbv)|(refine⟨fD.pre2,?_⟩;cbv)|(simp only[fB6];cbv)|(refine⟨fA.pre2,?_⟩;cbv)|(refine⟨fB5,?_⟩;cbv)|(simp only[ok];cbv)|(simp only[ok2];cbv)|(simp only[ok3];cbv)|(simp only[fO.s1,fO.s2,fO.s3,fO.a2,fO.a3,fO.n2,fO.n3,fG.n1,fG.a1,fG.s0];cbv)|(refine⟨(fO.pre _ _ rfl),?_⟩;cbv))
 all_goals trivial):p:=hp
theorem tT{p:Prop} (hp:p:=by
 have e1:=dH;simp only[uM,hv.row]at e1;have e2:=mE;simp only[j5]at e2;have e3:=sTl ho;subst e1 e2;cbv
 repeat (first|(simp only[ok];cbv))
 all_goals trivial):p:=hp
theorem tP{p:Prop}(hp:p:=by first|assumption|exact nZ hi|exact lO hi aN|omega|exact nZ (s:=yY) jO|exact nZ (s:=pZ) jO|fail):p:=hp
theorem tL{p:Prop}(hp:p:=by first|((try dsimp only);(try rw[hμ,hμ]);(try simp only[ud,tZ,zC]at *);omega)|fail):p:=hp
theorem tV{p:Prop} (hp:p:=by
 rw[hμ,hμ]
 dsimp only
 first|rw[aD kM,aD HV]|rw[aF rfl,aD HV]
 omega):p:=hp
theorem qa{p:Prop}(hp:p:=by first|((try dsimp only);rw[hμ,hμ];(try dsimp only);(try simp only[ud,tZ,zC]at *);omega)|fail):p:=hp
theorem tQ{p:Prop}(hp:p:=by first|((try simp only[ud,tZ,zC]at *);omega)|fail):p:=hp
theorem tM{p:Prop}(hp:p:=by first|(refine vv ?_;(try simp only[ud,tZ]at *);omega)|exact xc1 oM (oT rfl)|exact xcz rfl (by(try simp only[ud,tZ]at *);omega) (oT rfl)|fail):p:=hp
theorem rW{p:Prop} (hp:p:=by
 cbv
 (try cbv at l0)
 (try cbv at okx)
 (try cbv at ok)
 (try cbv at ok2)
 repeat' (first
  |(have _m:=CG;exact .mk (_,_,_,_,k,i,q,nm,KK) r5 ⟨h,ho,hv,tL⟩)
  |(have _m:=CG;exact .mk (_,_,_,_,37,0,0,⟨#[]⟩,.ro 5 []) r5 ⟨h,ho,xhv,tL⟩)
  |(have _m:=CG;exact .mk (_,_,_,_,26,0,0,⟨#[]⟩,.ro 5 [[pI k,pS nm,pI i,pI q,KK]]) r5 ⟨h,ho,xhw hv,tL⟩)
  |(have _m:=CG;exact .mk (_,_,_,_,15,0,0,⟨#[]⟩,.ro 5 [_,_,_]) r5 ⟨h,ho,RO zL jY hv,tL⟩)
  |(have _m:=YP
    refine xE (ca ho (aJ tM gL)) fun m2 r=>?_
    have kS:=r.1;have ho:=r.2;clear r
    first
     |(have _h9:bC (bX m2) (gr (.chainL (eD 18 _ [_]))) l b o:=ho
       first
        |exact .wk (_,_,_,m2,eD 18 _ [_],18,0,0,T,.ro 5 [[pI kx,pS nx,pI ix,pI qx,KX]]) _ _ (ar (k:=2) (j:=4) (l:=3) (n:=1) rfl rfl rfl (nR _) rfl) r5 ⟨h,ho,IP hx hT,kS,tL⟩ qa
        |exact .wk (_,_,_,m2,eD 18 _ [_],18,0,0,T,.ro 5 [[pI kx,pS nx,pI ix,pI qx,KX]]) _ _ (ar (k:=2) (j:=4) (l:=4) (n:=1) rfl rfl rfl (nR _) rfl) r5 ⟨h,ho,IP hx hT,kS,tL⟩ qa
        |exact .mk (_,_,_,m2,eD 18 _ [_],18,0,0,T,.ro 5 [[pI kx,pS nx,pI ix,pI qx,KX]]) r5 ⟨h,ho,IP hx hT,kS,tL⟩ qa)
     |(have _h9:bC (bX m2) (gr (.newL (eD 18 _ [_]))) l b o:=ho
       first
        |exact .wk (_,_,_,m2,eD 18 _ [_],18,0,0,T,.ro 5 [[pI kx,pS nx,pI ix,pI qx,KX]]) _ _ (ar (k:=2) (j:=4) (l:=3) (n:=1) rfl rfl rfl (nR _) rfl) r5 ⟨h,ho,IP hx hT,kS,tL⟩ qa
        |exact .wk (_,_,_,m2,eD 18 _ [_],18,0,0,T,.ro 5 [[pI kx,pS nx,pI ix,pI qx,KX]]) _ _ (ar (k:=2) (j:=4) (l:=4) (n:=1) rfl rfl rfl (nR _) rfl) r5 ⟨h,ho,IP hx hT,kS,tL⟩ qa
        |exact .mk (_,_,_,m2,eD 18 _ [_],18,0,0,T,.ro 5 [[pI kx,pS nx,pI ix,pI qx,KX]]) r5 ⟨h,ho,IP hx hT,kS,tL⟩ qa)
     |(have _h9:bC (bX m2) (gr (.chainL (nd 19 [_,_]))) l b o:=ho
       first
        |exact .mk (_,_,_,m2,nd 19 [_,_],19,0,0,⟨#[]⟩,.ro 5 [[pI kx,pS nx,pI ix,pI qx,KX],[pI k,pS nm,pI i,pI q,KK]]) r5 ⟨h,ho,Sp hx hv,kS,tL⟩ qa)
     |(have _h9:bC (bX m2) (gr (.newL (nd 19 [_,_]))) l b o:=ho
       first
        |exact .mk (_,_,_,m2,nd 19 [_,_],19,0,0,⟨#[]⟩,.ro 5 [[pI kx,pS nx,pI ix,pI qx,KX],[pI k,pS nm,pI i,pI q,KK]]) r5 ⟨h,ho,Sp hx hv,kS,tL⟩ qa)
     |(have _h9:bC (bX m2) (gr (.chainL (nd 20 (_::_)))) l b o:=ho
       first
        |exact .wk (_,_,_,m2,nd 20 (_::_),20,0,0,⟨#[]⟩,.ro 5 R2) _ _ (ar (k:=2) (j:=4) (l:=3) (n:=N2) rfl rfl rfl fA.le fA.take) r5 ⟨h,ho,IQ hx fA,kS,tL⟩ qa
        |exact .wk (_,_,_,m2,nd 20 (_::_),20,0,0,⟨#[]⟩,.ro 5 R2) _ _ (ar (k:=2) (j:=4) (l:=4) (n:=N2) rfl rfl rfl fA.le fA.take) r5 ⟨h,ho,IQ hx fA,kS,tL⟩ qa
        |exact .wk (_,_,_,m2,nd 20 (_::_),20,0,0,⟨#[]⟩,.ro 5 R2) _ _ (ar (k:=2) (j:=4) (l:=5) (n:=N2) rfl rfl rfl fA.le fA.take) r5 ⟨h,ho,IQ hx fA,kS,tL⟩ qa)
     |(have _h9:bC (bX m2) (gr (.chainL (nd 21 (_::_)))) l b o:=ho
       first
        |exact .wk (_,_,_,m2,nd 21 (_::_),21,0,0,⟨#[]⟩,.ro 5 R2) _ _ (ar (k:=2) (j:=4) (l:=3) (n:=N2) rfl rfl rfl fA.le fA.take) r5 ⟨h,ho,IQ hx fA,kS,tL⟩
        |exact .wk (_,_,_,m2,nd 21 (_::_),21,0,0,⟨#[]⟩,.ro 5 R2) _ _ (ar (k:=2) (j:=4) (l:=4) (n:=N2) rfl rfl rfl fA.le fA.take) r5 ⟨h,ho,IQ hx fA,kS,tL⟩
        |exact .wk (_,_,_,m2,nd 21 (_::_),21,0,0,⟨#[]⟩,.ro 5 R2) _ _ (ar (k:=2) (j:=4) (l:=5) (n:=N2) rfl rfl rfl fA.le fA.take) r5 ⟨h,ho,IQ hx fA,kS,tL⟩)
     |exact .mk (_,_,_,m2,_,k,i,q,nm,KK) r5 ⟨h,ho,hv,kS,tL⟩)
  |(have _m:=YP
    refine xhd gL ih h ho tM hE [pI kx,pS nx,pI ix,pI qx,KX] (fun R2 N2 l b a h ho hl fA hk=>?_) (fun ks R N R2 N2 l b a h ho hl Zd fA hk=>?_)
    case' refine_1=>refine .y hM hk ?_;cbv
    case' refine_2=>
     refine .y hM hk ?_;cbv;cbv at Zd)
  |(have _m:=YP;simp only[Zd];cbv)
  |(have _m:=YP;simp only[fA.add,fA.app];cbv)
  |(simp only[fN.a,fN.b,fN.c];cbv)
  |(have _m:=CG
    refine xE (Hw hE h hi) fun a1 r=>xE r fun K r=>xE r fun T r=>xE r fun y r=>?_
    have hw:=r.1;have hT:=r.2.2.1;have g:=r.2.2.2;clear r;simp only[hw];cbv;refine⟨g.1,_,g.2,?_⟩;cbv)
  |(simp only[ok];cbv)|(simp only[fL.b.1,fL.b.2.1,fL.b.2.2.1,fL.b.2.2.2];cbv)|(simp only[okx];cbv)|(simp only[ok2];cbv)|(simp only[ok3];cbv)|(simp only[ek];cbv)|(simp only[hw];cbv)|(simp only[fO.s1,fO.s2,fO.s3];cbv)|(simp only[fO.a2,fO.a3,fO.n2,fO.n3,fG.n1,fG.a1,fG.s0];cbv)|(refine⟨(fO.room _ _ _ aN aN),?_⟩;cbv)|(refine⟨(fO.pre _ _ rfl),?_⟩;cbv)|(simp only[l0];cbv)
  |(simp only[fA.add,fA.app,fA.sub];cbv)|(simp only[fC.add,fC.app,fC.sub];cbv)|(simp only[fF.app];cbv)|(simp only[fF.add];cbv)|(simp only[fD.app];cbv)|(simp only[fD.add];cbv)|(simp only[fC.add];cbv)|(simp only[fC.app];cbv)|(simp only[fB6];cbv)|(refine⟨fA.pre,fA.room,?_⟩;cbv)|(refine⟨fA.pre,?_⟩;cbv)|(refine⟨fA.room,?_⟩;cbv)|(refine⟨fB5,?_⟩;cbv)
  |exact tO
  |exact tT
  |(have _m:=iw;refine .inr (.z [2] (hM _ _ _ _ _ (IV _ rfl (aE rfl))) rfl rfl rfl ?_);cbv)
  |(have _m:=iw;refine .inr (.z [3] (hM _ _ _ _ _ (IV _ rfl (aE rfl))) rfl rfl rfl ?_);cbv)
  |(have _m:=iw;refine .inr (.z [4] (hM _ _ _ _ _ (IV _ rfl (aE rfl))) rfl rfl rfl ?_);cbv)
  |(have _m:=iw;refine .inr (.z [5] (hM _ _ _ _ _ (IV _ rfl (aE rfl))) rfl rfl rfl ?_);cbv)
  |(have _m:=iw;refine .inr (.z [6] (hM _ _ _ _ _ (IV _ rfl (aE rfl))) rfl rfl rfl ?_);cbv)
  |(have _m:=iw;refine .inr (.z [7] (hM _ _ _ _ _ (IV _ rfl (aE rfl))) rfl rfl rfl ?_);cbv)
  |(refine .z [] (hM _ _ _ _ _ (xd2 _)) rfl rfl rfl ?_;cbv)
  |(refine⟨_,hc _ _ _ (z8n _ (aE rfl)),?_⟩;cbv)
  |(refine⟨_,hc _ _ _ (z3s _),?_⟩;cbv)
  |(refine .inr (.z [2] (hM _ _ _ _ _ (u6 _ rfl (aE rfl))) rfl rfl rfl ?_);cbv)
  |(refine .inr (.z [3] (hM _ _ _ _ _ (u6 _ rfl (aE rfl))) rfl rfl rfl ?_);cbv)
  |(refine .inr (.z [4] (hM _ _ _ _ _ (u6 _ rfl (aE rfl))) rfl rfl rfl ?_);cbv)
  |(refine .inr (.z [5] (hM _ _ _ _ _ (u6 _ rfl (aE rfl))) rfl rfl rfl ?_);cbv)
  |(refine .inr (.z [6] (hM _ _ _ _ _ (u6 _ rfl (aE rfl))) rfl rfl rfl ?_);cbv)
  |(refine .inr (.z [7] (hM _ _ _ _ _ (u6 _ rfl (aE rfl))) rfl rfl rfl ?_);cbv)
  |(refine So h ho (fun l b a h ho hs hl hk=>?_)
    refine .y hM hk ?_;cbv)
  |(refine IR h ho (fun a h ho hs hb hk=>?_) (fun ho hk=>?_)<;>(refine .y hM hk ?_;cbv))
  |(refine sAt h (aE rfl) ho (fun ho hi hk hr=>?_) (fun ho hi hk hr=>?_)<;>(first|(refine .y hM hk ?_;cbv)|(refine⟨_,hc _ _ _ hr,?_⟩;cbv)))
  |(refine sKd h (aE rfl) ho (fun K ho hi ek hk hr=>?_) (fun K ho hi ek hk hr=>?_)<;>(first|(refine .y hM hk ?_;cbv)|(refine⟨_,hc _ _ _ hr,?_⟩;cbv)))
  |(refine xhf h ho (fun ho hk hr=>?_) (fun ho hk hr=>?_)<;>(first|(refine .y hM hk ?_;cbv)|(refine⟨_,hc _ _ _ hr,?_⟩;cbv)))
  |(refine RD h ho (fun s T l b a h ho hT hs hl hk=>?_)
    (first|(refine .y hM hk ?_;cbv)|(refine Or.inl ?_;refine⟨.mk trivial,?_⟩;refine .mk [0] _ _ _ _ (hM _ _ _ _ _ hk) rfl rfl rfl rfl ?_;cbv))
    try (refine xE (pq hE g5 gz fZ [pI 7,pS T,pI 0,pI 0,.v (.slice none 0 0)]) fun R2 r=>?_;have cW:=r.1;have fA:=r.2;clear r)
    try (refine xE (pq hE g5 gz fZ [pI 40,pS T,pI 0,pI 0,.v (.slice none 0 0)]) fun R4 r=>?_;have MY:=r.1;have fD:=r.2;clear r))
  |(refine xE (ca ho (aJ tM gL)) fun m2 r=>?_
    have kS:=r.1;have ho:=r.2;clear r;have hN3:=fZ;refine .mk (_,_,m2,acc++[_],R2,N2) r5 ⟨h,ho,kS,tL,?_,by dsimp only;rw[<-cW,sD,g5];exact fZ⟩ tL
    first|(rw[wj,g4,gZ,gZ,hv.row];exact cW)|(rw[wj,g4,gZ,gZ,eD,pY,rV,hT];exact cW))
  |(refine xE (ca ho (aJ tM gL)) fun m2 r=>?_
    have kS:=r.1;have ho:=r.2;clear r
    first
     |exact .mk (_,_,_,m2,acc++[eD 40 s [x]],R5,N2) r5 ⟨h,ho,kS,tL,by simp only[wj,g4,gZ,eD,pY,rV,hv.row,hT];exact YJ,by dsimp only;rw[<-YJ,sD,g5];exact fZ⟩ tL
     |exact .mk (_,_,_,m2,acc++[eD 40 s []],R4,N2) r5 ⟨h,ho,kS,tL,by simp only[wj,g4,gZ,eD,pY,rV,eK,hT,aK,bN];exact MY,by dsimp only;rw[<-MY,sD,g5];exact fZ⟩ tL
     |exact .mk (_,_,_,m2,acc++[x],R2,N2) r5 ⟨h,ho,kS,tL,by rw[wj,g4,gZ,gZ,hv.row];exact cW,by dsimp only;rw[<-cW,sD,g5];exact fZ⟩ tL)
  |(refine I1 h ho (fun s T l b a h ho hT hs hl hk=>?_)
    (first|(refine .y hM hk ?_;cbv)|(refine Or.inl ?_;refine⟨.mk trivial,?_⟩;refine .mk [0] _ _ _ _ (hM _ _ _ _ _ hk) rfl rfl rfl rfl ?_;cbv)))
  |exact .mk (_,_,false,m2,gC _ V [_,_],N,_,0,V,⟨#[]⟩,.ro 5 [[pI kx,pS nx,pI ix,pI qx,KX],[pI k,pS nm,pI i,pI q,KK]]) r5 ⟨h,ho,RK hx hv,tL,.inr ⟨kM,hN,fZ,rfl,aR (dD (vv hs)) kS⟩⟩ tV
  |exact .mk (_,_,_,m2,gC _ V [_,_],0,_,0,V,⟨#[]⟩,.ro 5 [[pI kx,pS nx,pI ix,pI qx,KX],[pI k,pS nm,pI i,pI q,KK]]) r5 ⟨h,ho,RK hx hv,tL,.inl rfl⟩ tV
  |(refine CU h ho (aE rfl) (aE rfl) (aE rfl) (fun N a h ho hs hb kM hN fZ hk=>?_) (fun ho hk=>?_)<;>(refine .y hM hk ?_;cbv)<;>(first|(have ek:=oN hE hN kM;refine xE (⟨_,rfl⟩:∃Q,N+100=Q) fun Q hQ=>?_;have hw:=Hp hE hN fZ hQ)|(have ek:=o0 hE)))
  |(have ho:=I4 kM ho)
  |(have ho:=I3 ho)
  |(refine⟨_,hc _ _ _ (z0y hv.one hx.one _ _),?_⟩;cbv)
  |(try have Ya:=zL
    try have zL:=jY
    try have jY:=hv
    try have ok3:=ok2
    try have ok2:=ok
    refine Hy gL ih h ho ⟨tM,rfl,rfl,rfl,rfl⟩ (fun x l b a k i q nm KK h ho hl hv hk=>?_)
    (first|(refine .y hM hk ?_;cbv)|(refine Or.inl ?_;refine⟨.mk trivial,?_⟩;refine .mk [0] _ _ _ _ (hM _ _ _ _ _ hk) rfl rfl rfl rfl ?_;cbv))
    have ok:=hv.one;cbv at ok
    try (refine xE (pq hE g5 gz fZ [pI k,pS nm,pI i,pI q,KK]) fun R2 r=>?_;have cW:=r.1;have fA:=r.2;clear r)
    try (refine xE (pq hE g5 gz fZ [pI 27,pS ⟨#[]⟩,pI 0,pI 0,.ro 5 [[pI 32,pS ⟨#[]⟩,pI 0,pI 0,.ro 5 [[pI k,pS nm,pI i,pI q,KK]]]]]) fun R3 r=>?_;have qX:=r.1;have fC:=r.2;clear r)
    try (refine xE (pq hE g5 gz fZ [pI 40,pS T,pI 0,pI 0,.ro 5 [[pI k,pS nm,pI i,pI q,KK]]]) fun R5 r=>?_;have YJ:=r.1;have fF:=r.2;clear r))
  |(try have Ya:=zL
    try have zL:=jY
    try have jY:=hv
    try have ok3:=ok2
    try have ok2:=ok
    refine vk gL ih h ho ⟨tM,rfl,rfl,rfl,rfl⟩ (fun x l b a k i q nm KK h ho hl hv hk=>?_)
    (first|(refine .y hM hk ?_;cbv)|(refine Or.inl ?_;refine⟨.mk trivial,?_⟩;refine .mk [0] _ _ _ _ (hM _ _ _ _ _ hk) rfl rfl rfl rfl ?_;cbv))
    have ok:=hv.one;cbv at ok
    try (refine xE (pq hE g5 gz fZ [pI k,pS nm,pI i,pI q,KK]) fun R2 r=>?_;have cW:=r.1;have fA:=r.2;clear r)
    try (refine xE (pq hE g5 gz fZ [pI 27,pS ⟨#[]⟩,pI 0,pI 0,.ro 5 [[pI 32,pS ⟨#[]⟩,pI 0,pI 0,.ro 5 [[pI k,pS nm,pI i,pI q,KK]]]]]) fun R3 r=>?_;have qX:=r.1;have fC:=r.2;clear r)
    try (refine xE (pq hE g5 gz fZ [pI 40,pS T,pI 0,pI 0,.ro 5 [[pI k,pS nm,pI i,pI q,KK]]]) fun R5 r=>?_;have YJ:=r.1;have fF:=r.2;clear r))
  |(refine xhc gL tM h ho (fun l b a h ho hl hk=>?_) (fun acc R N N2 l b a h ho hl g4 g5 gz fZ hk=>?_)<;>(refine .y hM hk ?_;cbv))
  |(refine RB gL ih h ho tM (fun ks R l b a h ho hl hL hk=>?_)
    refine .y hM hk ?_;cbv)
  |(refine xhe gL ih h ho ⟨tM,rfl,rfl,rfl,rfl⟩ (fun hh=>by cases hh) (fun l b a h ho hl hk=>?_) (fun ks R l b a h ho hl hL hk=>?_)<;>(refine .y hM hk ?_;cbv))
  |(refine⟨.mk wC,?_⟩;cbv)
  |(refine RA gL ih h ho ⟨tM,rfl,rfl,rfl,rfl⟩ (fun k i q nm KK hv hk=>?_)
    refine .y hM hk ?_;cbv;have ok:=hv.one;cbv at ok
    try (refine xE (pq hE g5 gz fZ [pI k,pS nm,pI i,pI q,KK]) fun R2 r=>?_;have cW:=r.1;have fA:=r.2;clear r)
    try (refine xE (pq hE g5 gz fZ [pI 27,pS ⟨#[]⟩,pI 0,pI 0,.ro 5 [[pI 32,pS ⟨#[]⟩,pI 0,pI 0,.ro 5 [[pI k,pS nm,pI i,pI q,KK]]]]]) fun R3 r=>?_;have qX:=r.1;have fC:=r.2;clear r)
    try (refine xE (pq hE g5 gz fZ [pI 40,pS T,pI 0,pI 0,.ro 5 [[pI k,pS nm,pI i,pI q,KK]]]) fun R5 r=>?_;have YJ:=r.1;have fF:=r.2;clear r))
  |(refine xE (ca ho (aJ tM gL)) fun m2 r=>?_;have kS:=r.1;have ho:=r.2;clear r)
  |(refine .mk _ _ (ar (k:=6) (j:=4) (l:=7) (n:=1) rfl rfl rfl (nR _) rfl) ?_;cbv)
  |(refine .mk _ _ (ar (k:=4) (j:=4) (l:=5) (n:=1) rfl rfl rfl (nR _) rfl) ?_;cbv)
  |(refine .mk _ _ (Wk.refl _ _) ?_;cbv)
  |(refine sKl hK ho (fun ho hi ek=>?_) (fun ho hi ek=>?_)<;>(simp only[ek];cbv))
  |(have ho:=I2 hK ho)
  |(refine I5 ho (fun ho ek=>?_) (fun ho ek=>?_)<;>(simp only[ek];cbv))
  |(refine RC hE h tP ho (fun a h ha ho hs hl=>?_);simp only[ha];cbv)
  |(refine xha hE h tP ho (fun a h ha ho hs hl=>?_);simp only[ha];cbv)
  |(refine xE (bF.tok0 h tP) fun K r=>xE r fun T r=>xE r fun y r=>?_
    have hK:=r.1;have hT:=r.2.1;have g:=r.2.2 E hE;clear r;refine⟨g.1,_,g.2,?_⟩;cbv)
  |(refine xE (Iy h hi hT) fun Q r=>?_;have hQ:=r.1;have hn:=r.2;clear r;refine⟨_,hc _ _ _ hn,?_⟩;cbv)
  |(refine I6 hE hN ho (fun ho hn ek=>?_) (fun ho hn ek=>?_)<;>(simp only[ek];cbv))
  |(have ho:=RF ho)
  |(have ho:=RG ho)
  |(have ho:=RE ho)
  |(have ho:=I0 ho)
  |(refine I8 ho (fun ho hb=>?_) (fun ho hb=>?_)<;>(subst hb;cbv))
  |(refine And.intro ?_ ?_)
  |(refine I7 hE lU h ho (fun ho hl ek ek2=>?_) (fun ho hl ek ek2=>?_)<;>(first|(simp only[ek];cbv)|(simp only[hw];cbv)|(simp only[ek2];cbv))))):p:=hp
end Go.Proofs.YtjkcdcloomkooaaGreatDoor
