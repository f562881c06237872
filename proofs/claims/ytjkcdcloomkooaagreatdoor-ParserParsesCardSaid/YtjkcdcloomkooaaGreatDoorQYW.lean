/- Own work: walks and laws of the parser and its reference. -/
import Derived.Test.YtjkcdcloomkooaaGreatDoorQYM
set_option linter.unusedVariables false
set_option linter.unusedSimpArgs false
set_option linter.unusedSectionVars false
set_option maxHeartbeats 8000000
set_option maxRecDepth 100000
namespace Go.Proofs.YtjkcdcloomkooaaGreatDoor
open Go.RowKit
mutual
def gO:PT->List PV
 | .mk k nm i o ks=>[pI k,pS (bL nm),pI i,pI o,mM ks]
def mM:List PT->PV
 |[]=>.v (.slice none 0 0)
 |k::ks=>.ro 5 (gO k::eU ks)
def eU:List PT->List (List PV)
 |[]=>[]
 |k::ks=>gO k::eU ks
end
theorem pj:∀a b:List PT,eU (a++b)=eU a++eU b
 |[],_=>by rfl
 |x::a,b=>by rw[qD,eU,eU,pj a b];rfl
theorem wh:∀a:List PT,(eU a).length=a.length
 |[]=>by rfl
 |x::a=>by rw[eU,qQ,qQ,wh a]
def er(t:Tk):Tk:=⟨t.k,t.t,0⟩
structure bF(n:Int)(toks:List Tk)(LR:List (List PV))(a:Int)(l:Ts):Prop where
 h0:0<=a
 h1:a+((l.length:Nat):Int)=((toks.length:Nat):Int)
 d:toks.drop a.toNat=l
 r:∃ts:List Tk,ts.map er=toks/\kY n ts=LR
 z:toks.length<=1000000
 tz:∀t∈toks,t.t.length<=1000000
 tn:∀t∈toks,t.k=3->(∀c∈t.t,eO c=true)/\t.t≠[]/\lE t.t<9223372036854775808
theorem bF.drop{n:Int}{toks:List Tk}{LR:List (List PV)}{a b:Int}{l:Ts}(h:bF n toks LR a l)(k:Nat)(hk:k<=l.length)(hb:a+(k:Nat)=b):bF n toks LR b (l.drop k):=by
 have h0:=h.h0;have h1:=h.h1;refine⟨by omega,by grind,?_,h.r,h.z,h.tz,h.tn⟩
 rw[<-h.d,zD,show b.toNat=a.toNat+k by omega]
theorem bF.get{n:Int}{toks:List Tk}{LR:List (List PV)}{a:Int}{l:Ts}(h:bF n toks LR a l){k:Nat}{t:Tk}(ht:l[k]?=some t):∃z:Int,LR[(a+(k:Nat)).toNat]?=some [pI t.k,pS (bL t.t),pI z]:=by
 have h0:=h.h0;obtain⟨ts,h1,h2⟩:=h.r;rw[<-h.d,dK,<- h1,aI]at ht;rw[<-h2];unfold kY;rw[aI,show(a+(k:Nat)).toNat=a.toNat+k by omega]
 cases hx:ts[a.toNat+k]? with
 |none=>rw[hx]at ht;cases ht
 |some x=>
  rw[hx]at ht
  cases ht
  exact⟨n-(x.rem:Nat),rfl⟩
theorem bF.len{n:Int}{toks:List Tk}{LR:List (List PV)}{a:Int}{l:Ts}(h:bF n toks LR a l):LR.length=toks.length:=by obtain⟨ts,h1,h2⟩:=h.r;rw[<-h1,<- h2,wu,nk]
abbrev aZ(LR:List (List PV))(a:Int)(c:Cx):Option cE:=some (.box [.p (.ro 3 LR),.p (pI a),.p (pB c.fn),.p (pB c.lp),.p (pB c.gn),.p (pB c.as_)] 39 none)
def mN:List PanicEntry:=[{ v:=.iface 56 (.agg #[]),recovered:=false }]
section
variable{n:Int}{toks:List Tk}{LR:List (List PV)}{a:Int}{l:Ts}
theorem ZA(h:bF n toks LR a l)(k:Nat)(hk:k<=1000000)(c:Cx):∃z:Int,VM 30 [.own 0 0,.p (pI (k:Nat))] [aZ LR a c] (.p (.agg [pI (kd l k),pS (bL (tx l k)),pI z])) [aZ LR a c]:=by
 have hl:=h.len;have h0:=h.h0;have h1:=h.h1;have hz:=h.z;obtain⟨m,hm⟩:∃m:Int,((toks.length:Nat):Int)=m:=⟨_,rfl⟩
 obtain⟨kk,fb⟩:∃x:Int,((k:Nat):Int)=x:=⟨_,rfl⟩
 obtain⟨b,hb⟩:∃x:Int,a+kk=x:=⟨_,rfl⟩
 obtain⟨fn,lp,gn,as_⟩:=c;rw[fb]
 cases ht:l[k]? with
 |some t=>
  obtain⟨z,hg⟩:=h.get ht;have cQ:k<l.length:=(aC.1 ht).1;have e1:kd l k=t.k:=by unfold kd;rw[ht]
  have e2:tx l k=t.t:=by unfold tx;rw[ht]
  rw[e1,e2];rw[fb,hb]at hg;refine⟨z,?_⟩;generalize bL t.t=T at hg ⊢;generalize t.k=K at hg ⊢;refine iD aU (f:=30) Tryz.func30 rfl kR (oT kR) fun tags cC=>?_
  match tags,cC with
  |[t0],_=>
   refine aY.of aU mixed (fun n=>match n with|1=>11|2=>10|_=>0) kR (fun E=>fI E cO Tryz.f30.results.toList [t0] (.p (.agg [pI K,pS T,pI z])) [aZ LR a ⟨fn,lp,gn,as_⟩]) fun P G E hc hM hE=>?_
   have l0:E.ofN LR.length=m:=by rw[hE,hl];exact hm
   have ea:E.wadd .i64 a kk=b:=UX
   have d1:E.lti b m=true:=sN
   have p1:E.ple 0 b:=by rw[hE];show 0<=b;omega
   have g1:LR[E.nat b]?=some [pI K,pS T,pI z]:=by rw[hE];exact hg
   clear hE hc hM hm fb hb hl h0 h1 hz h ht hg cQ e1 e2 hk;cbv at l0;cbv
   repeat (first|(simp only[ea];try cbv)|(simp only[l0];try cbv)|(simp only[d1];try cbv)|(refine⟨p1,_,g1,?_⟩;cbv))
   all_goals trivial
 |none=>
  have qV:l.length<=k:=sI.1 ht;have e1:kd l k=0:=by unfold kd;rw[ht]
  have e2:tx l k=[]:=by unfold tx;rw[ht]
  rw[e1,e2];refine⟨0,?_⟩;show VM 30 [.own 0 0,.p (pI kk)] [aZ LR a ⟨fn,lp,gn,as_⟩] (.p (.agg [pI 0,pS ⟨#[]⟩,pI 0])) [aZ LR a ⟨fn,lp,gn,as_⟩];refine iD aU (f:=30) Tryz.func30 rfl kR (oT kR) fun tags cC=>?_
  match tags,cC with
  |[t0],_=>
   refine aY.of aU mixed (fun n=>match n with|1=>11|2=>10|_=>0) kR (fun E=>fI E cO Tryz.f30.results.toList [t0] (.p (.agg [pI 0,pS ⟨#[]⟩,pI 0])) [aZ LR a ⟨fn,lp,gn,as_⟩]) fun P G E hc hM hE=>?_
   have l0:E.ofN LR.length=m:=by rw[hE,hl];exact hm
   have ea:E.wadd .i64 a kk=b:=UX
   have d1:E.lti b m=false:=sE
   clear hE hc hM hm fb hb hl h0 h1 hz h ht qV e1 e2 hk;cbv at l0;cbv
   repeat (first|(simp only[ea];try cbv)|(simp only[l0];try cbv)|(simp only[d1];try cbv))
   all_goals trivial
theorem EY(h:bF n toks LR a l)(k:Nat)(hk:k<=1000000)(s:ByteArray)(c:Cx):VM 31 [.own 0 0,.p (pI (k:Nat)),.p (pS s)] [aZ LR a c] (.p (pB (aM l k s.data.toList))) [aZ LR a c]:=by
 obtain⟨z,hp⟩:=ZA h k hk c;obtain⟨kk,fb⟩:∃x:Int,((k:Nat):Int)=x:=⟨_,rfl⟩
 have hb:aM l k s.data.toList=(decide (bL (tx l k)=s)&&(decide (kd l k=2)||decide (kd l k=5))):=by
  unfold aM
  congr 1
  refine fX.2 ⟨fun e=>yZ (by rw[e];unfold bL;simp),fun e=>by rw[<-e];unfold bL;simp⟩
 rw[hb];clear hb;generalize bL (tx l k)=T at hp ⊢;generalize kd l k=K at hp ⊢;obtain⟨fn,lp,gn,as_⟩:=c;obtain⟨q,hq⟩:∃q,(decide (T=s)&&(decide (K=2)||decide (K=5)))=q:=⟨_,rfl⟩
 rw[hq];refine iD aU (f:=31) Tryz.func31 rfl kR (oT kR) fun tags cC=>?_
 match tags,cC with
 |[t0],_=>
  refine aY.of aU mixed (fun _=>0) kR (fun E=>fI E cO Tryz.f31.results.toList [t0] (.p (pB q)) [aZ LR a ⟨fn,lp,gn,as_⟩]) fun P G E hc hM hE=>?_
  replace hp:=hM _ _ _ _ _ hp;have ee:E.eq T s=decide (T=s):=fH
  clear hE hc hM h hk fb;cbv;refine .x hp ?_;cbv;simp only[ee];refine oE (dV (T=s)) (fun h1=>?_) (fun h1=>?_)
  ·have x1:decide (T=s)=true:=aA h1;rw[x1,bO]at hq;simp only[x1];cbv;refine oE (dV (K=2)) (fun h2=>?_) (fun h2=>?_)
   ·have x2:decide (K=2)=true:=aA h2;rw[x2,dP]at hq;subst hq;simp only[x2];cbv;all_goals trivial
   ·have x2:decide (K=2)=false:=dF h2;rw[x2,bI]at hq;simp only[x2];cbv
    grind
  ·have x1:decide (T=s)=false:=dF h1;rw[x1,cH]at hq;subst hq;simp only[x1];cbv;all_goals trivial
end
section
variable{n:Int}{toks:List Tk}{LR:List (List PV)}{a:Int}{l:Ts}
theorem isO(h:bF n toks LR a l)(k:Nat)(hk:k<=1000000)(s:ByteArray)(c:Cx):(aM l k s.data.toList=true/\VM 31 [.own 0 0,.p (pI (k:Nat)),.p (pS s)] [aZ LR a c] (.p (pB true)) [aZ LR a c])\/(aM l k s.data.toList=false/\VM 31 [.own 0 0,.p (pI (k:Nat)),.p (pS s)] [aZ LR a c] (.p (pB false)) [aZ LR a c]):=by
 have hi:=EY h k hk s c
 cases hb:aM l k s.data.toList with
 |true=>grind
 |false=>grind
theorem vo(LR:List (List PV))(a:Int)(c:Cx):VM 29 [.own 0 0] [aZ LR a c] (.p (.pan mN)) [none]:=by
 refine iD aU (f:=29) Tryz.func29 rfl kR (oT kR) fun tags cC=>?_
 match tags,cC with
 |[t0],_=>
  refine aY.of aU mixed (fun _=>0) kR (fun E=>fI E cO Tryz.f29.results.toList [t0] (.p (.pan mN)) [none]) fun P G E hc hM hE=>?_
  clear hE hc hM;cbv;all_goals trivial
theorem take_t(h:bF n toks LR a l)(s:ByteArray)(c:Cx)(hs:aM l 0 s.data.toList=true){b:Int}(hb:a+1=b):VM 37 [.own 0 0,.p (pS s)] [aZ LR a c] (.p (pB true)) [aZ LR b c]:=by
 have hi:=EY h 0 (aP _) s c;rw[hs]at hi;have h0:=h.h0;have h1:=h.h1;have hz:=h.z;have ha:a<=1000000:=eC
 obtain⟨fn,lp,gn,as_⟩:=c;refine iD aU (f:=37) Tryz.func37 rfl kR (oT kR) fun tags cC=>?_
 match tags,cC with
 |[t0],_=>
  refine aY.of aU mixed (fun _=>0) kR (fun E=>fI E cO Tryz.f37.results.toList [t0] (.p (pB true)) [aZ LR b ⟨fn,lp,gn,as_⟩]) fun P G E hc hM hE=>?_
  replace hi:=hM _ _ _ _ _ hi;have ea:E.wadd .i64 a 1=b:=UX
  clear hE hc hM h hs hb h0 h1 hz ha;cbv;refine .x hi ?_;cbv
  grind
theorem take_f(h:bF n toks LR a l)(s:ByteArray)(c:Cx)(hs:aM l 0 s.data.toList=false):VM 37 [.own 0 0,.p (pS s)] [aZ LR a c] (.p (pB false)) [aZ LR a c]:=by
 have hi:=EY h 0 (aP _) s c;rw[hs]at hi;obtain⟨fn,lp,gn,as_⟩:=c;refine iD aU (f:=37) Tryz.func37 rfl kR (oT kR) fun tags cC=>?_
 match tags,cC with
 |[t0],_=>
  refine aY.of aU mixed (fun _=>0) kR (fun E=>fI E cO Tryz.f37.results.toList [t0] (.p (pB false)) [aZ LR a ⟨fn,lp,gn,as_⟩]) fun P G E hc hM hE=>?_
  replace hi:=hM _ _ _ _ _ hi;clear hE hc hM h hs;cbv;refine .x hi ?_;cbv;all_goals trivial
theorem QV(h:bF n toks LR a l)(s:ByteArray)(c:Cx):(aM l 0 s.data.toList=true/\VM 37 [.own 0 0,.p (pS s)] [aZ LR a c] (.p (pB true)) [aZ LR (a+1) c])\/(aM l 0 s.data.toList=false/\VM 37 [.own 0 0,.p (pS s)] [aZ LR a c] (.p (pB false)) [aZ LR a c]):=by
 cases hb:aM l 0 s.data.toList with
 |true=>exact .inl ⟨rfl,take_t h s c hb rfl⟩
 |false=>exact .inr ⟨rfl,take_f h s c hb⟩
theorem xi5(h:bF n toks LR a l)(s:ByteArray)(c:Cx)(hs:aM l 0 s.data.toList=true){b:Int}(hb:a+1=b):VM 33 [.own 0 0,.p (pS s)] [aZ LR a c] (.p (.tup [])) [aZ LR b c]:=by
 have hi:=take_t h s c hs hb;obtain⟨fn,lp,gn,as_⟩:=c;refine iD aU (f:=33) Tryz.func33 rfl kR (oT kR) fun tags cC=>?_
 match tags,cC with
 |[t0],_=>
  refine aY.of aU mixed (fun _=>0) kR (fun E=>fI E cO Tryz.f33.results.toList [t0] (.p (.tup [])) [aZ LR b ⟨fn,lp,gn,as_⟩]) fun P G E hc hM hE=>?_
  replace hi:=hM _ _ _ _ _ hi;clear hE hc hM h hs hb;cbv;refine .x hi ?_;cbv;all_goals trivial
theorem xi6(h:bF n toks LR a l)(s:ByteArray)(c:Cx)(hs:aM l 0 s.data.toList=false):VM 33 [.own 0 0,.p (pS s)] [aZ LR a c] (.p (.pan mN)) [none]:=by
 have hi:=take_f h s c hs;have hf:=vo LR a c;refine iD aU (f:=33) Tryz.func33 rfl kR (oT kR) fun tags cC=>?_
 match tags,cC with
 |[t0],_=>
  refine aY.of aU mixed (fun _=>0) kR (fun E=>fI E cO Tryz.f33.results.toList [t0] (.p (.pan mN)) [none]) fun P G E hc hM hE=>?_
  replace hi:=hM _ _ _ _ _ hi;replace hf:=hM _ _ _ _ _ hf;clear hE hc hM h hs;cbv;refine .x hi ?_;cbv;refine .x hf ?_;cbv;all_goals trivial
theorem SP(h:bF n toks LR a l)(s:ByteArray)(c:Cx):(aM l 0 s.data.toList=true/\VM 33 [.own 0 0,.p (pS s)] [aZ LR a c] (.p (.tup [])) [aZ LR (a+1) c])\/(aM l 0 s.data.toList=false/\VM 33 [.own 0 0,.p (pS s)] [aZ LR a c] (.p (.pan mN)) [none]):=by
 cases hb:aM l 0 s.data.toList with
 |true=>exact .inl ⟨rfl,xi5 h s c hb rfl⟩
 |false=>exact .inr ⟨rfl,xi6 h s c hb⟩
theorem SS(h:bF n toks LR a l)(c:Cx):(kd l 0=1/\VM 57 [.own 0 0] [aZ LR a c] (.p (pS (bL (tx l 0)))) [aZ LR (a+1) c])\/(¬kd l 0=1/\VM 57 [.own 0 0] [aZ LR a c] (.p (.pan mN)) [none]):=by
 obtain⟨z,hp⟩:=ZA h 0 (aP _) c;have hf:=vo LR a c;have h0:=h.h0;have h1:=h.h1;have hz:=h.z;have ha:a<=1000000:=eC
 obtain⟨b,hb⟩:∃b,a+1=b:=⟨_,rfl⟩
 rw[hb];obtain⟨fn,lp,gn,as_⟩:=c;obtain⟨T,hT⟩:∃T,bL (tx l 0)=T:=⟨_,rfl⟩
 rw[hT]at hp ⊢
 by_cases hk:kd l 0=1
 ·refine .inl ⟨hk,?_⟩;rw[hk]at hp;refine iD aU (f:=57) Tryz.func57 rfl kR (oT kR) fun tags cC=>?_
  match tags,cC with
  |[t0],_=>
   refine aY.of aU mixed (fun _=>0) kR (fun E=>fI E cO Tryz.f57.results.toList [t0] (.p (pS T)) [aZ LR b ⟨fn,lp,gn,as_⟩]) fun P G E hc hM hE=>?_
   replace hp:=hM _ _ _ _ _ hp;have ea:E.wadd .i64 a 1=b:=UX
   clear hE hc hM h hb h0 h1 hz ha hf hk hT;cbv;refine .x hp ?_;cbv
   grind
 ·refine .inr ⟨hk,?_⟩;have dk:decide (kd l 0=1)=false:=dF hk;generalize kd l 0=K at hp dk;refine iD aU (f:=57) Tryz.func57 rfl kR (oT kR) fun tags cC=>?_
  match tags,cC with
  |[t0],_=>
   refine aY.of aU mixed (fun _=>0) kR (fun E=>fI E cO Tryz.f57.results.toList [t0] (.p (.pan mN)) [none]) fun P G E hc hM hE=>?_
   replace hp:=hM _ _ _ _ _ hp;replace hf:=hM _ _ _ _ _ hf;clear hE hc hM h hb h0 h1 hz ha hk hT;cbv;refine .x hp ?_;cbv;simp only[dk];cbv;refine .x hf ?_;cbv;all_goals trivial
end
abbrev MP(f:FuncId)(l:List AV)(H:AH)(r:AV)(K:AH):Prop:=ML f l H r K
def iO:Option (Rv×Ts)->AV
 |none=>.p (.pan mN)
 |some (.nd x,_)=>.p (.agg (gO x))
 |some (.nb x b,_)=>.p (.tup [.agg (gO x),pB b])
 |some (.ls ks,_)=>.p (mM ks)
def iG(toks:List Tk)(LR:List (List PV))(c:Cx):Option (Rv×Ts)->AH
 |none=>[none]
 |some (_,l)=>[aZ LR (((toks.length:Nat):Int)-((l.length:Nat):Int)) c]
def Sy.fid:Sy->Option FuncId
 | .stmt _ _=>some 13
 | .keyw _ _=>some 38
 | .condn _ _=>some 60
 | .inner _ _=>some 61
 | .body _ _=>some 62
 | .loops _ _=>some 63
 | .tryS _ _=>some 64
 | .decl _ (_::_)=>some 32
 | .block _ _=>some 36
 | .func _ _ _=>some 35
 | .arrow _ _=>some 51
 | .assign _ _=>some 25
 | .cond _ _=>some 52
 | .opnd k _ _=>if k<=6 then some 91 else none
 | .unary _ _=>some 111
 | .postf _ _=>some 127
 | .link _ _ _=>some 153
 | .chain _ _=>some 139
 | .list2 _ _ _=>some 154
 | .prim _ _=>some 152
 | .fields _ _=>some 166
 | .field _ _=>some 174
 |_=>none
def Sy.args:Sy->List AV
 | .func d _ _=>[.p (pB d)]
 | .opnd k _ _=>[.p (pI (k:Nat))]
 | .link x _ _=>[.p (.agg (gO x))]
 | .list2 e _ _=>[.p (pS (bL e))]
 |_=>[]
def Sy.c:Sy->Cx
 | .stmt c _|.keyw c _|.condn c _|.inner c _|.body c _|.loops c _|.tryS c _|.decl c _|.declL _ _ c _|.block c _|.blockL _ c _|.func _ c _|.arrow c _|.assign c _|.cond c _|.opnd _ c _|.opndL _ _ c _|.unary c _|.postf c _|.link _ c _|.chain c _|.chainN _ c _|.chainL _ c _|.list2 _ c _|.list2L _ _ c _|.prim c _|.fields c _|.fieldsL _ c _|.field c _=>c
def iI(n:Int)(toks:List Tk)(LR:List (List PV))(s:Sy):Prop:=∀f,s.fid=some f->∀a,bF n toks LR a s.l->∀o,ev s=some o->MP f (.own 0 0::s.args) [aZ LR a s.c] (iO o) (iG toks LR s.c o)
theorem Jb{c:Cx}{l:Ts}{w:Bs}(h:aM l 0 w=true):(Sy.decl c l).fid=some 32:=by
 cases l with
 |nil=>cases nZ h
 |cons x l=>rfl
section
variable{n:Int}{toks:List Tk}{LR:List (List PV)}{a:Int}{l:Ts}
theorem bF.suf(h:bF n toks LR a l){l':Ts}(hs:l' <:+ l):bF n toks LR (((toks.length:Nat):Int)-((l'.length:Nat):Int)) l':=by
 have h0:=h.h0;have hl:=lM hs;have ht:l' <:+ toks:=hs.trans (by rw[<-h.d];exact bJ _ _)
 have uH:=lM ht;refine⟨by omega,by omega,?_,h.r,h.z,h.tz,h.tn⟩
 rw[show(((toks.length:Nat):Int)-((l'.length:Nat):Int)).toNat=toks.length-l'.length by omega]
 exact(List.suffix_iff_eq_drop.1 ht).symm
theorem bF.place(h:bF n toks LR a l):((toks.length:Nat):Int)-((l.length:Nat):Int)=a:=by have:=h.h1;omega
structure jC(x:PT)(k i o:Int)(nm:ByteArray)(K:PV):Prop where
 row:gO x=[pI k,pS nm,pI i,pI o,K]
 one:al (.p K)=true
 kind:x.kind=k
theorem Ej(ks:List PT):al (.p (mM ks))=true:=by
 cases ks with
 |nil=>rfl
 |cons k ks=>rfl
theorem zp(x:PT):∃k i o nm K,jC x k i o nm K:=by
 cases x with
 |mk k nm i o ks=>exact⟨k,i,o,bL nm,mM ks,by rw[gO],Ej ks,rfl⟩
theorem iI.nd{s:Sy}(hG:iI n toks LR s){f:FuncId}(hf:s.fid=some f)(rP:s.shape=.nd)(h:bF n toks LR a s.l):
  (ev s=some none/\MP f (.own 0 0::s.args) [aZ LR a s.c] (.p (.pan mN)) [none])\/∃x l' b k i o nm K,ev s=some (some (.nd x,l'))/\bF n toks LR b l'/\jC x k i o nm K/\(s.lax=false->l'.length<s.l.length)/\MP f (.own 0 0::s.args) [aZ LR a s.c] (.p (.agg [pI k,pS nm,pI i,pI o,K])) [aZ LR b s.c]:=by
 obtain⟨o,ho,hp⟩:=JK s;have hm:=hG f hf a h o ho
 match o,ho,hp,hm with
 |none,ho,_,hm=>exact .inl ⟨ho,hm⟩
 |some (v,l'),ho,hp,hm=>
  have hq:=hp v l' rfl;have h1:=hq.1;rw[rP]at h1
  cases v with
  |nd x=>
   obtain⟨k,i,o,nm,K,hv⟩:=zp x;have kS:MP f (.own 0 0::s.args) [aZ LR a s.c] (.p (.agg (gO x))) (iG toks LR s.c (some (.nd x,l'))):=hm;rw[hv.row]at kS;exact .inr ⟨x,l',_,k,i,o,nm,K,ho,h.suf hq.2.1,hv,fun e=>(hq.2.2 e rfl).2,kS⟩
  |nb x b=>cases h1
  |ls x=>cases h1
theorem iI.nb{s:Sy}(hG:iI n toks LR s){f:FuncId}(hf:s.fid=some f)(rP:s.shape=.nb)(h:bF n toks LR a s.l):
  (ev s=some none/\MP f (.own 0 0::s.args) [aZ LR a s.c] (.p (.pan mN)) [none])\/∃x q l' b k i o nm K,ev s=some (some (.nb x q,l'))/\bF n toks LR b l'/\jC x k i o nm K/\(l'.length<=s.l.length/\(s.lax=false->q=true->l'.length<s.l.length))/\MP f (.own 0 0::s.args) [aZ LR a s.c] (.p (.tup [.agg [pI k,pS nm,pI i,pI o,K],pB q])) [aZ LR b s.c]:=by
 obtain⟨o,ho,hp⟩:=JK s;have hm:=hG f hf a h o ho
 match o,ho,hp,hm with
 |none,ho,_,hm=>exact .inl ⟨ho,hm⟩
 |some (v,l'),ho,hp,hm=>
  have hq:=hp v l' rfl;have h1:=hq.1;rw[rP]at h1
  cases v with
  |nb x b=>
   obtain⟨k,i,o,nm,K,hv⟩:=zp x;have kS:MP f (.own 0 0::s.args) [aZ LR a s.c] (.p (.tup [.agg (gO x),pB b])) (iG toks LR s.c (some (.nb x b,l'))):=hm;rw[hv.row]at kS;exact .inr ⟨x,b,l',_,k,i,o,nm,K,ho,h.suf hq.2.1,hv,⟨uC.len hq.2.1,fun e e2=>(hq.2.2 e e2).2⟩,kS⟩
  |nd x=>cases h1
  |ls x=>cases h1
theorem iI.ls{s:Sy}(hG:iI n toks LR s){f:FuncId}(hf:s.fid=some f)(rP:s.shape=.ls)(h:bF n toks LR a s.l):
  (ev s=some none/\MP f (.own 0 0::s.args) [aZ LR a s.c] (.p (.pan mN)) [none])\/∃ks l' b,ev s=some (some (.ls ks,l'))/\bF n toks LR b l'/\(s.lax=false->l'.length<s.l.length)/\MP f (.own 0 0::s.args) [aZ LR a s.c] (.p (mM ks)) [aZ LR b s.c]:=by
 obtain⟨o,ho,hp⟩:=JK s;have hm:=hG f hf a h o ho
 match o,ho,hp,hm with
 |none,ho,_,hm=>exact .inl ⟨ho,hm⟩
 |some (v,l'),ho,hp,hm=>
  have hq:=hp v l' rfl;have h1:=hq.1;rw[rP]at h1
  cases v with
  |ls x=>exact .inr ⟨x,l',_,ho,h.suf hq.2.1,fun e=>(hq.2.2 e rfl).2,hm⟩
  |nd x=>cases h1
  |nb x b=>cases h1
theorem EP(w:Bs):(bL w).data.toList=w:=LO
theorem Sm(h:bF n toks LR a l)(w:Bs)(c:Cx):(∃b,aM l 0 w=true/\bF n toks LR b (l.drop 1)/\MP 33 [.own 0 0,.p (pS (bL w))] [aZ LR a c] (.p (.tup [])) [aZ LR b c])\/(aM l 0 w=false/\MP 33 [.own 0 0,.p (pS (bL w))] [aZ LR a c] (.p (.pan mN)) [none]):=by
 have:=SP h (bL w) c
 exact W3
theorem xgq(h:bF n toks LR a l)(w:Bs)(c:Cx):(∃b,aM l 0 w=true/\bF n toks LR b (l.drop 1)/\MP 37 [.own 0 0,.p (pS (bL w))] [aZ LR a c] (.p (pB true)) [aZ LR b c])\/(aM l 0 w=false/\MP 37 [.own 0 0,.p (pS (bL w))] [aZ LR a c] (.p (pB false)) [aZ LR a c]):=by
 have:=QV h (bL w) c
 exact W3
theorem pt(h:bF n toks LR a l)(k:Nat)(hk:k<=1000000)(w:Bs)(c:Cx):(aM l k w=true/\MP 31 [.own 0 0,.p (pI (k:Nat)),.p (pS (bL w))] [aZ LR a c] (.p (pB true)) [aZ LR a c])\/(aM l k w=false/\MP 31 [.own 0 0,.p (pI (k:Nat)),.p (pS (bL w))] [aZ LR a c] (.p (pB false)) [aZ LR a c]):=by
 have:=isO h k hk (bL w) c
 rw[EP]at this
 rcases this with⟨h1,h2⟩|⟨h1,h2⟩
 ·exact .inl ⟨h1,wB h2⟩
 ·exact .inr ⟨h1,wB h2⟩
theorem Sl(h:bF n toks LR a l)(c:Cx):(∃b,kd l 0=1/\bF n toks LR b (l.drop 1)/\MP 57 [.own 0 0] [aZ LR a c] (.p (pS (bL (tx l 0)))) [aZ LR b c])\/(¬kd l 0=1/\MP 57 [.own 0 0] [aZ LR a c] (.p (.pan mN)) [none]):=by
 rcases SS h c with⟨h1,h2⟩|⟨h1,h2⟩
 ·exact .inl ⟨_,h1,h.drop 1 (lO h1 aN) rfl,wB h2⟩
 ·exact .inr ⟨h1,wB h2⟩
theorem bF.next(h:bF n toks LR a l)(hl:0<l.length):∃b,bF n toks LR b (l.drop 1)/\a+1=b/\0<=a/\a<=1000000:=⟨a+1,h.drop 1 hl rfl,rfl,h.h0,by have:=h.h1;have:=h.z;omega⟩
end
theorem sC{α:Type}{x:α}{l:Ts}{o:Option (α×Ts)}(h:bY x l=some o):o=some (x,l):=by cases h;rfl
theorem zj{α:Type}{o:Option (α×Ts)}(h:(rK:Re α)=some o):o=none:=by cases h;rfl
theorem zu{E:SO}(hE:E=bG){a b:Int}(h0:0<=a)(h1:a<=1000000)(h:a+1=b):E.wadd .i64 a 1=b:=by rw[hE,<- h];exact jX oM oM
section
variable{n:Int}{toks:List Tk}{LR:List (List PV)}{a:Int}{l:Ts}{β:Type}{o:Option (β×Ts)}
theorem mr(h:bF n toks LR a l)(w:Bs)(c:Cx){K:Ts->Re β}(ho:fV w l K=some o):
  (∃b,bF n toks LR b (l.drop 1)/\K (l.drop 1)=some o/\(l.drop 1).length<l.length/\aM l 0 w=true/\MP 33 [.own 0 0,.p (pS (bL w))] [aZ LR a c] (.p (.tup [])) [aZ LR b c])\/(o=none/\MP 33 [.own 0 0,.p (pS (bL w))] [aZ LR a c] (.p (.pan mN)) [none]):=by
 unfold fV at ho
 rcases Sm h w c with⟨b,h1,h2,h3⟩|⟨h1,h2⟩
 ·rw[aF h1]at ho
  have:=nZ h1
  exact .inl ⟨b,h2,ho,by grind,h1,h3⟩
 ·rw[aD aX]at ho
  exact .inr ⟨zj ho,h2⟩
theorem IB(h:bF n toks LR a l)(c:Cx){K:Bs->Ts->Re β}(ho:rC l K=some o):
  (∃b T,bF n toks LR b (l.drop 1)/\K (tx l 0) (l.drop 1)=some o/\(l.drop 1).length<l.length/\bL (tx l 0)=T/\MP 57 [.own 0 0] [aZ LR a c] (.p (pS T)) [aZ LR b c])\/(o=none/\MP 57 [.own 0 0] [aZ LR a c] (.p (.pan mN)) [none]):=by
 unfold rC at ho
 rcases Sl h c with⟨b,h1,h2,h3⟩|⟨h1,h2⟩
 ·rw[aF h1]at ho
  have:=lO h1 aN
  exact .inl ⟨b,_,h2,ho,by grind,rfl,h3⟩
 ·rw[aD h1]at ho;exact .inr ⟨zj ho,h2⟩
theorem xO(h:bF n toks LR a l)(w:Bs)(c:Cx){X Y:Re β}(ho:(if aM l 0 w then X else Y)=some o):
  (∃b,bF n toks LR b (l.drop 1)/\X=some o/\(l.drop 1).length<l.length/\aM l 0 w=true/\MP 37 [.own 0 0,.p (pS (bL w))] [aZ LR a c] (.p (pB true)) [aZ LR b c])\/(Y=some o/\aM l 0 w=false/\MP 37 [.own 0 0,.p (pS (bL w))] [aZ LR a c] (.p (pB false)) [aZ LR a c]):=by
 rcases xgq h w c with⟨b,h1,h2,h3⟩|⟨h1,h2⟩
 ·rw[aF h1]at ho
  have:=nZ h1
  exact .inl ⟨b,h2,ho,by grind,h1,h3⟩
 ·rw[aD aX]at ho
  exact .inr ⟨ho,h1,h2⟩
theorem TC(h:bF n toks LR a l)(k:Nat)(hk:k<=1000000)(w:Bs)(c:Cx){X Y:Re β}(ho:(if aM l k w then X else Y)=some o):
  (X=some o/\aM l k w=true/\k<l.length/\MP 31 [.own 0 0,.p (pI (k:Nat)),.p (pS (bL w))] [aZ LR a c] (.p (pB true)) [aZ LR a c])\/(Y=some o/\aM l k w=false/\MP 31 [.own 0 0,.p (pI (k:Nat)),.p (pS (bL w))] [aZ LR a c] (.p (pB false)) [aZ LR a c]):=by
 rcases pt h k hk w c with⟨h1,h2⟩|⟨h1,h2⟩
 ·rw[aF h1]at ho;exact .inl ⟨ho,h1,nZ h1,h2⟩
 ·rw[aD aX]at ho
  exact .inr ⟨ho,h1,h2⟩
theorem TD(h:bF n toks LR a l)(w v:Bs)(c:Cx){X Y:Re β}(ho:(if aM l 0 w||aM l 0 v then X else Y)=some o):
  (X=some o/\aM l 0 w=true/\MP 31 [.own 0 0,.p (pI ((0:Nat):Nat)),.p (pS (bL w))] [aZ LR a c] (.p (pB true)) [aZ LR a c])\/(X=some o/\aM l 0 w=false/\aM l 0 v=true/\MP 31 [.own 0 0,.p (pI ((0:Nat):Nat)),.p (pS (bL w))] [aZ LR a c] (.p (pB false)) [aZ LR a c]/\MP 31 [.own 0 0,.p (pI ((0:Nat):Nat)),.p (pS (bL v))] [aZ LR a c] (.p (pB true)) [aZ LR a c]) ∨
  (Y=some o/\aM l 0 w=false/\aM l 0 v=false/\MP 31 [.own 0 0,.p (pI ((0:Nat):Nat)),.p (pS (bL w))] [aZ LR a c] (.p (pB false)) [aZ LR a c]/\MP 31 [.own 0 0,.p (pI ((0:Nat):Nat)),.p (pS (bL v))] [aZ LR a c] (.p (pB false)) [aZ LR a c]):=by
 rcases pt h 0 (aP _) w c with⟨h1,h2⟩|⟨h1,h2⟩
 ·rw[h1]at ho;exact .inl ⟨ho,h1,h2⟩
 ·rcases pt h 0 (aP _) v c with⟨h3,h4⟩|⟨h3,h4⟩
  ·rw[h1,h3]at ho;exact .inr (.inl ⟨ho,h1,h3,h2,h4⟩)
  ·rw[h1,h3]at ho;exact .inr (.inr ⟨ho,h1,h3,h2,h4⟩)
theorem SN(h:bF n toks LR a l)(w:Bs)(c:Cx)(hs:aM l 0 w=true):∃b,bF n toks LR b (l.drop 1)/\MP 33 [.own 0 0,.p (pS (bL w))] [aZ LR a c] (.p (.tup [])) [aZ LR b c]:=by
 rcases Sm h w c with⟨b,h1,h2,h3⟩|⟨h1,h2⟩
 ·exact⟨b,h2,h3⟩
 ·rw[hs]at h1;cases h1
theorem z9r(l:Ts)(k j:Nat)(w:Bs):aM (l.drop k) j w=aM l (k+j) w:=by
 unfold aM tx kd;rw[dK]
theorem R1(l:Ts)(k j:Nat):kd (l.drop k) j=kd l (k+j):=by unfold kd;rw[dK]
theorem Rs(l:Ts)(k j:Nat):tx (l.drop k) j=tx l (k+j):=by unfold tx;rw[dK]
structure Kw(E:SO):Prop where
 pre:∀(k:Nat)(rs:List (List PV)),rs.length=k->E.pre 0 k rs
 s1:∀x:List PV,E.sub [x] 0 1=[x]
 s2:∀x y:List PV,E.sub [x,y] 0 2=[x,y]
 s3:∀x y z:List PV,E.sub [x,y,z] 0 3=[x,y,z]
 a2:∀x y:List PV,E.app [x] 1 [y]=[x,y]
 a3:∀x y z:List PV,E.app [x,y] 2 [z]=[x,y,z]
 n2:E.addN 1 1=2
 n3:E.addN 2 1=3
 room:∀k m b:Nat,k+m<=100000->b<=1000->E.room k m b
theorem iQ{E:SO}(hE:E=bG):Kw E:=by
 subst hE;exact⟨fun k rs h=>by show 0+k<=rs.length;omega,fun _=>rfl,fun _ _=>rfl,fun _ _ _=>rfl,fun _ _=>rfl,fun _ _ _=>rfl,rfl,rfl,fun k m b h1 h2=>⟨by unfold maxLen;omega,by
  have:(k+m)*b<=100000*1000:=Nat.mul_le_mul h1 h2
  omega⟩⟩
theorem kt{p:Prop} [Decidable p] {X Y:Re β} (ho:(if p then X else Y)=some o):(p/\X=some o)\/(¬p/\Y=some o):=by
 grind
theorem Hd{p:Bool}{X Y:Re β}(ho:(if p then X else Y)=some o):(X=some o/\p=true)\/(Y=some o/\p=false):=by
 grind
variable{s:Sy}
theorem yM(hG:iI n toks LR s){f:FuncId}(hf:s.fid=some f)(rP:s.shape=.nd)(hx:s.lax=false){L:Ts}(hl:s.l=L){c:Cx}(cy:s.c=c){az:List AV}(ir:s.args=az)(h:bF n toks LR a L){K:PT->Ts->Re β}(ho:ndR (ev s) K=some o):
  (∃x l' b k i q nm KK,bF n toks LR b l'/\K x l'=some o/\l'.length<L.length/\jC x k i q nm KK/\MP f (.own 0 0::az) [aZ LR a c] (.p (.agg [pI k,pS nm,pI i,pI q,KK])) [aZ LR b c])\/(o=none/\MP f (.own 0 0::az) [aZ LR a c] (.p (.pan mN)) [none]):=by
 subst hl cy ir
 rcases hG.nd hf rP h with⟨h1,h2⟩|⟨x,l',b,k,i,q,nm,KK,h1,h2,h3,h4,h5⟩
 ·unfold ndR bnd at ho;rw[h1]at ho;simp only[bQ]at ho;exact .inr ⟨ho.symm,h2⟩
 ·unfold ndR bnd at ho;rw[h1]at ho;exact .inl ⟨x,l',b,k,i,q,nm,KK,h2,ho,h4 hx,h3,h5⟩
theorem J0(hG:iI n toks LR s){f:FuncId}(hf:s.fid=some f)(rP:s.shape=.nb)(hx:s.lax=false){L:Ts}(hl:s.l=L){c:Cx}(cy:s.c=c){az:List AV}(ir:s.args=az)(h:bF n toks LR a L){K:PT->Bool->Ts->Re β}(ho:nbR (ev s) K=some o):
  (∃x p l' b k i q nm KK,bF n toks LR b l'/\K x p l'=some o/\(l'.length<=L.length/\(p=true->l'.length<L.length))/\jC x k i q nm KK/\MP f (.own 0 0::az) [aZ LR a c] (.p (.tup [.agg [pI k,pS nm,pI i,pI q,KK],pB p])) [aZ LR b c])\/(o=none/\MP f (.own 0 0::az) [aZ LR a c] (.p (.pan mN)) [none]):=by
 subst hl cy ir
 rcases hG.nb hf rP h with⟨h1,h2⟩|⟨x,p,l',b,k,i,q,nm,KK,h1,h2,h3,h4,h5⟩
 ·unfold nbR bnd at ho;rw[h1]at ho;simp only[bQ]at ho;exact .inr ⟨ho.symm,h2⟩
 ·unfold nbR bnd at ho;rw[h1]at ho;exact .inl ⟨x,p,l',b,k,i,q,nm,KK,h2,ho,⟨h4.1,h4.2 hx⟩,h3,h5⟩
theorem Ue(hG:iI n toks LR s){f:FuncId}(hf:s.fid=some f)(rP:s.shape=.ls)(hx:s.lax=false){L:Ts}(hl:s.l=L){c:Cx}(cy:s.c=c){az:List AV}(ir:s.args=az)(h:bF n toks LR a L){K:List PT->Ts->Re β}(ho:lsR (ev s) K=some o):
  (∃ks l' b,bF n toks LR b l'/\K ks l'=some o/\l'.length<L.length/\MP f (.own 0 0::az) [aZ LR a c] (.p (mM ks)) [aZ LR b c])\/(o=none/\MP f (.own 0 0::az) [aZ LR a c] (.p (.pan mN)) [none]):=by
 subst hl cy ir
 rcases hG.ls hf rP h with⟨h1,h2⟩|⟨x,l',b,h1,h2,h4,h5⟩
 ·unfold lsR bnd at ho;rw[h1]at ho;simp only[bQ]at ho;exact .inr ⟨ho.symm,h2⟩
 ·unfold lsR bnd at ho;rw[h1]at ho;exact .inl ⟨x,l',b,h2,ho,h4 hx,h5⟩
theorem Ba{o:Option (Rv×Ts)}(hG:iI n toks LR s){f:FuncId}(hf:s.fid=some f)(rP:s.shape=.nd){L:Ts}(hl:s.l=L){c:Cx}(cy:s.c=c){az:List AV}(ir:s.args=az)(h:bF n toks LR a L)(ho:ev s=some o):
  (∃x l' b k i q nm KK,bF n toks LR b l'/\o=some (.nd x,l')/\jC x k i q nm KK/\MP f (.own 0 0::az) [aZ LR a c] (.p (.agg [pI k,pS nm,pI i,pI q,KK])) [aZ LR b c])\/(o=none/\MP f (.own 0 0::az) [aZ LR a c] (.p (.pan mN)) [none]):=by
 subst hl cy ir
 rcases hG.nd hf rP h with⟨h1,h2⟩|⟨x,l',b,k,i,q,nm,KK,h1,h2,h3,h4,h5⟩
 ·rw[h1]at ho;exact .inr ⟨(bA ho).symm,h2⟩
 ·rw[h1]at ho;exact .inl ⟨x,l',b,k,i,q,nm,KK,h2,(bA ho).symm,h3,h5⟩
end
def ji(l:List ByteArray):List (List PV):=l.map fun s=>[pS s]
def EW:List ByteArray:=af.map bL
theorem zp2:V0 112 [] (.ro 1 (ji EW)):=by
 refine eZ Tryz.func112 fun P G E hc hE=>?_
 have p1:E.pre 0 30 (ji EW):=by rw[hE];exact nR 30
 have t3:E.sub (ji EW) 0 30=ji EW:=fH
 exact Ce
theorem zru(k:Nat)(h1:1<=k)(h2:k<=29){w:Bs}(hw:af[k]?=some w):V0 92 [pI (k:Nat)] (pS (bL w)):=by
 have ho:=zp2;obtain⟨z,hz⟩:∃z:Int,((k:Nat):Int)=z:=⟨_,rfl⟩
 rw[hz];obtain⟨T,hT⟩:∃T,bL w=T:=⟨_,rfl⟩
 rw[hT];obtain⟨R,hR⟩:∃R,ji EW=R:=⟨_,rfl⟩
 rw[hR]at ho;refine eZ Tryz.func92 fun P G E hc hE=>?_
 replace ho:=hc _ _ _ ho;have d1:E.lti z 1=false:=sE
 have d2:E.lti 29 z=false:=sE
 have p0:E.ple 0 z:=by rw[hE];show 0<=z;omega
 have g1:R[E.nat z]?=some [pS T]:=by
  rw[hE,<- hR,<- hT];show(ji EW)[z.toNat]?=_;rw[show z.toNat=k by omega]
  unfold ji EW;rw[Dp,aI,hw];rfl
 clear hE hc hz hT hR hw h1 h2;cbv
 repeat (first|(simp only[d1];cbv)|(simp only[d2];cbv)|(refine⟨_,ho,?_⟩;cbv)|(refine⟨p0,_,g1,?_⟩;cbv))
 all_goals trivial
theorem Pn{s:Bs}{fr cnt m:Nat}(hm:m<cnt)(he:af[fr+m]?=some s)(hn:∀j,j<m->af[fr+j]?≠some s):gF s fr cnt=((fr+m:Nat):Int):=by
 unfold gF
 have:(List.range cnt).find? (fun j=>decide (af[fr+j]?=some s))=some m:=by
  simp_all
 rw[this]
theorem Pm{s:Bs}{fr cnt:Nat}(hn:∀j,j<cnt->af[fr+j]?≠some s):gF s fr cnt=0:=by
 unfold gF
 grind
theorem ov{a b:Bs}(h:bL a=bL b):a=b:=by have:=aG (fun x=>x.data.toList) h;simpa [bL]using this
theorem Ec(s:Bs)(fr cnt:Nat):0<=gF s fr cnt/\gF s fr cnt<=((fr+cnt:Nat):Int):=by
 unfold gF
 grind
theorem z96(s:Bs)(fr cnt:Nat)(h1:1<=fr)(h2:fr+cnt<=30)(z1 z2:Int)(e1:((fr:Nat):Int)=z1)(e2:z1+((cnt:Nat):Int)=z2+1):V0 53 [pS (bL s),pI z1,pI z2] (pI (gF s fr cnt)):=by
 have nD:=fun(k:Nat)(h1:1<=k)(h2:k<=29)(w:Bs)(hw:af[k]?=some w)=>zru k h1 h2 hw
 obtain⟨v,hv⟩:∃v,gF s fr cnt=v:=⟨_,rfl⟩
 rw[hv];obtain⟨T,hT⟩:∃T,bL s=T:=⟨_,rfl⟩
 rw[hT];obtain⟨μ,hμ⟩:∃μ:Int->Nat,∀x,μ x=(z2+1-x).toNat:=⟨_,fun _=>rfl⟩
 refine eZ Tryz.func53 fun P G E hc hE=>?_
 have oZ:=hc;clear hc;cbv;refine gV 19 [0,1,2,7] 0 (fun i:Int=>[.p (pS T),.p (pI z1),.p (pI z2),.p (pI i)]) (fun _=>[]) (fun i=>∃m:Nat,z1+((m:Nat):Int)=i/\m<=cnt/\∀j,j<m->af[fr+j]?≠some s) μ z1 r5 ⟨0,by omega,aP _,fun j hj=>by omega⟩ ?_
 rintro i ⟨m,hm,BW,hn⟩
 replace hm:z1+((m:Nat):Int)=i:=hm;replace BW:m<=cnt:=BW;replace e1:((fr:Nat):Int)=z1:=e1;replace e2:z1+((cnt:Nat):Int)=z2+1:=e2;have t1:((fr:Nat):Int)+((m:Nat):Int)=i:=by rw[e1];exact hm
 have t2:i+((cnt:Nat):Int)=z2+1+((m:Nat):Int):=eC
 clear e1 e2
 rcases aW m cnt with cQ|qV
 ·have d1:E.lei i z2=true:=sN
  have hlen:af.length=30:=rfl;obtain⟨w,hw⟩:∃w,af[fr+m]?=some w:=⟨_,aB oM⟩
  have ho:V0 92 [pI ((fr+m:Nat):Int)] (pS (bL w)):=nD (fr+m) oM oM w hw
  rw[show((fr+m:Nat):Int)=i by omega]at ho
  obtain⟨TW,HW⟩:∃x,bL w=x:=⟨_,rfl⟩
  rw[HW]at ho;replace ho:=oZ _ _ _ ho;obtain⟨i2,nF⟩:∃x:Int,i+1=x:=⟨_,rfl⟩
  have ea:E.wadd .i64 i 1=i2:=FR
  rcases dV (w=s)with he|he
  ·have q1:E.eq TW T=true:=by rw[hE,<- HW,<- hT,he];exact aA rfl
   have sG:=Pn cQ (by rw[hw,he]) hn
   rw[hv,show((fr+m:Nat):Int)=i by omega]at sG
   subst sG;clear hE nD oZ;cbv
   repeat (first|(simp only[d1];cbv)|(refine⟨_,ho,?_⟩;cbv)|(simp only[q1];cbv))
   all_goals trivial
  ·have q1:E.eq TW T=false:=by rw[hE,<- HW,<- hT];exact dF fun e=>he (ov e)
   have hI:∃m:Nat,z1+((m:Nat):Int)=i2/\m<=cnt/\∀j,j<m->af[fr+j]?≠some s:=⟨m+1,by omega,cQ,fun j hj=>by
    grind⟩
   have nE:μ i2<μ i:=qg
   clear hE nD oZ hμ hn hw hlen;cbv;refine mV ?_;exact .mk i2 r5 hI nE
 ·have d1:E.lei i z2=false:=sE
  have sG:=Pm (s:=s) (fr:=fr) (cnt:=cnt) fun j hj=>hn j oM
  rw[hv]at sG;subst sG;clear hE nD;cbv;simp only[d1];exact jm
theorem zyv(x:PT){k i q:Int}{nm:ByteArray}{KK:PV}(h:jC x k i q nm KK):V0 54 [.agg [pI k,pS nm,pI i,pI q,KK]] (pB (fy x)):=by
 unfold fy;rw[h.kind];have o1:=h.one;obtain⟨v,hv⟩:∃v,(decide (k=7)||(decide (k=18)||decide (k=19)))=v:=⟨_,rfl⟩
 rw[hv];refine eZ Tryz.func54 fun P G E hc hE=>?_
 clear hc hE h;cbv at o1
 rcases dV (k=7)with h1|h1
 ·have d1:decide (k=7)=true:=aA h1;rw[d1,dP]at hv;subst hv;cbv
  repeat (first|(simp only[o1];cbv)|(simp only[d1];cbv))
  all_goals trivial
 ·have d1:decide (k=7)=false:=dF h1;rw[d1,bI]at hv
  rcases dV (k=18)with h2|h2
  ·have d2:decide (k=18)=true:=aA h2;rw[d2,dP]at hv;subst hv;exact Vh
  ·have d2:decide (k=18)=false:=dF h2;rw[d2,bI]at hv;subst hv;obtain⟨d3,h3⟩:∃d3,decide (k=19)=d3:=⟨_,rfl⟩
   exact Vh
theorem Fg(o:Int):V0 59 [pI o] (.agg [pB (pE o).fn,pB (pE o).lp,pB (pE o).gn,pB (pE o).as_]):=by
 unfold pE;obtain⟨v,hv⟩:∃v,(decide (o=4)||decide (o=5))=v:=⟨_,rfl⟩
 refine eZ Tryz.func59 fun P G E hc hE=>?_
 clear hc hE
 rcases dV (o=4)with h2|h2
 ·have d2:decide (o=4)=true:=aA h2;rw[d2,dP]at hv;subst hv;obtain⟨d3,h3⟩:∃d3,decide (o=3)=d3:=⟨_,rfl⟩
  cbv;simp only[d2];exact jm
 ·have d2:decide (o=4)=false:=dF h2;rw[d2,bI]at hv;obtain⟨d3,h3⟩:∃d3,decide (o=3)=d3:=⟨_,rfl⟩
  subst hv;obtain⟨d5,h5⟩:∃d5,decide (o=5)=d5:=⟨_,rfl⟩
  cbv;simp only[d2];exact jm
section
variable{n:Int}{toks:List Tk}{LR:List (List PV)}{a:Int}{l:Ts}
theorem z0l(h:bF n toks LR a l)(c:Cx):MP 34 [.own 0 0] [aZ LR a c] (.p (pB (sM l))) [aZ LR a c]:=by
 obtain⟨q,hq⟩:∃q,sM l=q:=⟨_,rfl⟩
 rw[hq];unfold sM at hq;refine iD aU (f:=34) Tryz.func34 rfl kR (oT kR) fun tags cC=>?_
 match tags,cC with
 |[t0],_=>
  refine aY.of aU mixed (fun _=>0) kR (fun E=>fI E cO Tryz.f34.results.toList [t0] (.p (pB q)) [aZ LR a c]) fun P G E hc hM hE=>?_
  clear hc hE;cbv;refine oE (pt h 0 (aP _) yY c) (fun k1=>?_) (fun k1=>?_)
  case' refine_1=>
   refine .y hM k1.2 ?_;rw[k1.1,dP]at hq;subst hq;cbv;all_goals trivial
  refine .y hM k1.2 ?_;rw[k1.1,bI]at hq;cbv;refine oE (pt h 0 (aP _) pZ c) (fun k1=>?_) (fun k1=>?_)
  case' refine_1=>
   refine .y hM k1.2 ?_;rw[k1.1,dP]at hq;subst hq;cbv;all_goals trivial
  refine .y hM k1.2 ?_;rw[k1.1,bI]at hq;cbv;refine oE (pt h 0 (aP _) uN c) (fun k1=>?_) (fun k1=>?_)
  case' refine_1=>
   refine .y hM k1.2 ?_;rw[k1.1,dP]at hq;subst hq;cbv;all_goals trivial
  refine .y hM k1.2 ?_;rw[k1.1,bI]at hq;cbv;refine oE (pt h 0 (aP _) jI c) (fun k1=>?_) (fun k1=>?_)
  case' refine_2=>
   refine .y hM k1.2 ?_;rw[k1.1,cH]at hq;subst hq;cbv;all_goals trivial
  refine .y hM k1.2 ?_;rw[k1.1,bO]at hq;cbv;refine oE (pt h 1 aN uN c) (fun k1=>?_) (fun k1=>?_)
  case' refine_1=>
   refine .y hM k1.2 ?_;rw[k1.1]at hq;subst hq;cbv;all_goals trivial
  refine .y hM k1.2 ?_;rw[k1.1]at hq;subst hq;cbv;all_goals trivial
theorem B3(h:bF n toks LR a l)(k:Nat)(hk:k<=1000000)(c:Cx):∃K T z,kd l k=K/\bL (tx l k)=T/\MP 30 [.own 0 0,.p (pI (k:Nat))] [aZ LR a c] (.p (.agg [pI K,pS T,pI z])) [aZ LR a c]:=by
 obtain⟨z,hz⟩:=ZA h k hk c;exact⟨_,_,z,rfl,rfl,wB hz⟩
theorem PI(s:Bs){T:ByteArray}(hT:bL s=T)(fr cnt:Nat)(h1:1<=fr)(h2:fr+cnt<=30)(z1 z2:Int)(e1:((fr:Nat):Int)=z1)(e2:z1+((cnt:Nat):Int)=z2+1):∃F,gF s fr cnt=F/\RL 53 [pS T,pI z1,pI z2] (pI F):=
 ⟨_,rfl,hT ▸ nK (z96 s fr cnt h1 h2 z1 z2 e1 e2)⟩
theorem SH{β:Type}{o:Option (β×Ts)}{p q:Prop} [Decidable p] [Decidable q] {X Y:Re β} (ho:(if decide p||decide q then X else Y)=some o):(X=some o/\p)\/(X=some o/\¬p/\q)\/(Y=some o/\¬p/\¬q):=by
 grind
theorem Iq{β:Type}{o:Option (β×Ts)}{p q:Prop} [Decidable p] [Decidable q] {X Y:Re β} (ho:(if p\/q then X else Y)=some o):(X=some o/\p)\/(X=some o/\¬p/\q)\/(Y=some o/\¬p/\¬q):=by
 grind
theorem UN{β:Type}{o:Option (β×Ts)}{p q r:Prop} [Decidable p] [Decidable q] [Decidable r] {X Y:Re β} (ho:(if p/\¬q/\¬r then X else Y)=some o):(Y=some o/\¬p)\/(Y=some o/\p/\q)\/(Y=some o/\p/\¬q/\r)\/(X=some o/\p/\¬q/\¬r):=by
 grind
theorem PZ(h:bF n toks LR a l)(k:Nat)(hk:k<=1000000)(w:Bs)(c:Cx)(hs:aM l k w=true):MP 31 [.own 0 0,.p (pI (k:Nat)),.p (pS (bL w))] [aZ LR a c] (.p (pB true)) [aZ LR a c]:=by
 rcases pt h k hk w c with⟨_,h2⟩|⟨h1,_⟩
 ·exact h2
 ·rw[hs]at h1;cases h1
theorem PY(h:bF n toks LR a l)(k:Nat)(hk:k<=1000000)(w:Bs)(c:Cx)(hs:aM l k w=false):MP 31 [.own 0 0,.p (pI (k:Nat)),.p (pS (bL w))] [aZ LR a c] (.p (pB false)) [aZ LR a c]:=by
 rcases pt h k hk w c with⟨h1,_⟩|⟨_,h2⟩
 ·rw[hs]at h1;cases h1
 ·exact h2
theorem T7{l:Ts}{k:Nat}{w v:Bs}(h:aM l k w=true)(hv:w≠v):aM l k v=false:=by
 unfold aM at h ⊢
 grind
theorem TZ{β:Type}{o:Option (β×Ts)}(h:bF n toks LR a l)(c:Cx){X Y:Re β}(ho:(if sM l then X else Y)=some o):
  (X=some o/\sM l=true/\MP 34 [.own 0 0] [aZ LR a c] (.p (pB true)) [aZ LR a c])\/(Y=some o/\sM l=false/\MP 34 [.own 0 0] [aZ LR a c] (.p (pB false)) [aZ LR a c]):=by
 have hd:=z0l h c
 cases hb:sM l with
 |true=>rw[hb]at hd ho;exact .inl ⟨ho,rfl,hd⟩
 |false=>rw[hb]at hd ho;exact .inr ⟨ho,rfl,hd⟩
end
theorem DY{acc:List PT}{x:PT}{R R2:List (List PV)}{row:List PV}(h:eU acc=R)(hx:gO x=row)(h2:R++[row]=R2):mM (acc++[x])=.ro 5 R2:=by
 subst h hx h2;rw[<-show eU (acc++[x])=eU acc++[gO x] by rw[pj,eU,eU]]
 cases acc with
 |nil=>simp only[tB,mM,eU]
 |cons y ys=>simp only[qD,mM,eU]
structure GB(E:SO)(R:List (List PV))(N:Nat)(row:List PV)(R2:List (List PV))(N2:Nat):Prop where
 pre:E.pre 0 N R
 room:E.room N 1 64
 add:E.addN N 1=N2
 app:E.app R N [row]=R2
 pre2:E.pre 0 N2 R2
 sub:E.sub R2 0 N2=R2
 p1:E.pre 0 1 [row]
 s1:E.sub [row] 0 1=[row]
theorem j4{E:SO}(hE:E=bG){R:List (List PV)}{N:Nat}{row:List PV}{R2:List (List PV)}{N2:Nat}(hN:R.length=N)(hz:N<=2000000)(h2:R++[row]=R2)(fZ:N+1=N2):GB E R N row R2 N2:=by
 subst hE h2 fZ hN;refine⟨by show 0+R.length<=R.length;omega,⟨by unfold maxLen;omega,by omega⟩,rfl,?_,?_,?_,nR 1,rfl⟩
 ·show R.take R.length++[row]=_;rw[lz]
 ·show 0+(R.length+1)<=(R++[row]).length;grind
 ·show((R++[row]).drop 0).take (R.length+1)=_;grind
section
variable{n:Int}{toks:List Tk}{LR:List (List PV)}{l:Ts}
theorem Zp{c:Cx}{e:Bs}(ih:∀s':Sy,s'.meas<(Sy.list2 e c l).meas->iI n toks LR s'):iI n toks LR (.list2 e c l):=by
 intro f hf a h o ho
 cases hf
 rw[mU]at ho;change vz ev e c l=some o at ho;unfold vz at ho;change bF n toks LR a l at h;show MP _ (.own 0 0::[.p (pS (bL e))]) [aZ LR a c] (iO o) (iG toks LR c o);obtain⟨μ,hμ⟩:∃μ:Int×Ts×List PT×List (List PV)×Nat->Nat,∀x,μ x=x.2.1.length:=⟨_,fun _=>rfl⟩
 have hz:=h.z;have cn:l.length<=1000000:=FU
 refine iD aU (f:=154) Tryz.func154 rfl kR (oT kR) fun tags cC=>?_
 match tags,cC with
 |[t0],_=>
  refine aY.ofM aU mixed (fun _=>0) (fun _=>[]) (fun _ _=>0) kR (fun E=>fI E cO Tryz.f154.results.toList [t0] (iO o) (iG toks LR c o)) fun P G E hc hM hE=>?_
  cbv;refine oE (xO h e c ho) (fun k1=>xE k1 fun bk1 k1=>?_) (fun k1=>?_)
  case' refine_1=>
   refine .y hM (k1.2.2.2.2) ?_;cbv;have e0:=sC (k1.2.1);subst e0;simp only[k1.1.place,mM];all_goals trivial
  refine .y hM (k1.2.2) ?_;cbv;refine iU.wk (DL (d:=5) 5 25 rfl) ?_;refine gV 20 [0,1,5] 2 (fun x:Int×Ts×List PT×List (List PV)×Nat=>[.own 0 0,.p (pS (bL e)),.osl 1 0 x.2.2.2.2]) (fun x=>[some (.box [.p (.ro 3 LR),.p (pI x.1),.p (pB c.fn),.p (pB c.lp),.p (pB c.gn),.p (pB c.as_)] 39 (some t0)),some (.rows 5 x.2.2.2.1 25)])
   (fun x=>bF n toks LR x.1 x.2.1/\ev (.list2L e x.2.2.1 c x.2.1)=some o/\x.2.2.2.2+x.2.1.length<=l.length/\eU x.2.2.1=x.2.2.2.1/\x.2.2.2.1.length=x.2.2.2.2) μ (a,l,[],[],0) r5 ⟨h,k1.1,by simp,by rw[eU],rfl⟩ ?_
  rintro⟨a1,l1,acc,R,N⟩ ⟨g1,g2,g3,g4,g5⟩
  simp only at g1 g2 g3 g4 g5;rw[mU]at g2;replace g2:wm ev e acc c l1=some o:=g2;unfold wm at g2;cbv;refine oE (yM (L:=l1) (c:=c) (ih (.assign c l1) xT) rfl rfl rfl rfl rfl rfl g1 g2) (fun k2=>xE k2 fun xk2 k2=>xE k2 fun lk2 k2=>xE k2 fun bk2 k2=>xE k2 fun q1k2 k2=>xE k2 fun q2k2 k2=>xE k2 fun q3k2 k2=>xE k2 fun q4k2 k2=>xE k2 fun q5k2 k2=>?_) (fun k2=>?_)
  case' refine_2=>
   refine .y hM (k2.2) ?_;cbv;have e0:=k2.1;subst e0;all_goals trivial
  refine .y hM (k2.2.2.2.2) ?_;have ok2:=k2.2.2.2.1.one;cbv at ok2;refine xE (⟨_,rfl⟩:∃R2,R++[[pI q1k2,pS q4k2,pI q2k2,pI q3k2,q5k2]]=R2) fun R2 cW=>?_
  refine xE (⟨_,rfl⟩:∃N2,N+1=N2) fun N2 fZ=>?_
  have fA:=j4 hE g5 oM cW fZ
  have fA1:=fA.pre;have fA2:=fA.room;have fA3:=fA.add;have fA4:=fA.app;have fA5:=fA.pre2;have fA6:=fA.sub;have fA7:=fA.p1;have fA8:=fA.s1;cbv;refine mV ?_;refine oE (xO k2.1 e c k2.2.1) (fun k3=>xE k3 fun bk3 k3=>?_) (fun k3=>?_)
  case' refine_1=>
   refine .y hM (k3.2.2.2.2) ?_;cbv;have e0:=sC (k3.2.1);subst e0;have hK:=DY g4 k2.2.2.2.1.row cW;simp only[k3.1.place,hK];cbv
   repeat (first|(refine⟨fA5,?_⟩;cbv)|(simp only[fA6];cbv))
   all_goals trivial
  refine .y hM (k3.2.2) ?_;cbv;refine oE (mr k2.1 sY c k3.1) (fun k4=>xE k4 fun bk4 k4=>?_) (fun k4=>?_)
  case' refine_2=>
   refine .y hM (k4.2) ?_;cbv;have e0:=k4.1;subst e0;all_goals trivial
  refine .y hM (k4.2.2.2.2) ?_;cbv;exact .mk (bk4,List.drop 1 lk2,acc++[xk2],R2,N2) r5 ⟨k4.1,k4.2.1,by grind,by rw[pj,g4,eU,eU,k2.2.2.2.1.row];exact cW,by grind⟩ aX
theorem zwi{c:Cx}(ih:∀s':Sy,s'.meas<(Sy.fields c l).meas->iI n toks LR s'):iI n toks LR (.fields c l):=by
 intro f hf a h o ho
 cases hf
 rw[mU]at ho;change DT ev c l=some o at ho;unfold DT at ho;change bF n toks LR a l at h;show MP _ (.own 0 0::[]) [aZ LR a c] (iO o) (iG toks LR c o);obtain⟨μ,hμ⟩:∃μ:Int×Ts×List PT×List (List PV)×Nat->Nat,∀x,μ x=x.2.1.length:=⟨_,fun _=>rfl⟩
 have hz:=h.z;have cn:l.length<=1000000:=FU
 refine iD aU (f:=166) Tryz.func166 rfl kR (oT kR) fun tags cC=>?_
 match tags,cC with
 |[t0],_=>
  refine aY.ofM aU mixed (fun _=>0) (fun _=>[]) (fun _ _=>0) kR (fun E=>fI E cO Tryz.f166.results.toList [t0] (iO o) (iG toks LR c o)) fun P G E hc hM hE=>?_
  cbv;refine oE (xO h sK c ho) (fun k1=>xE k1 fun bk1 k1=>?_) (fun k1=>?_)
  case' refine_1=>
   refine .y hM (k1.2.2.2.2) ?_;cbv;have e0:=sC (k1.2.1);subst e0;simp only[k1.1.place,mM];all_goals trivial
  refine .y hM (k1.2.2) ?_;cbv;refine iU.wk (DL (d:=3) 5 25 rfl) ?_;refine gV 16 [0,3] 2 (fun x:Int×Ts×List PT×List (List PV)×Nat=>[.own 0 0,.osl 1 0 x.2.2.2.2]) (fun x=>[some (.box [.p (.ro 3 LR),.p (pI x.1),.p (pB c.fn),.p (pB c.lp),.p (pB c.gn),.p (pB c.as_)] 39 (some t0)),some (.rows 5 x.2.2.2.1 25)])
   (fun x=>bF n toks LR x.1 x.2.1/\ev (.fieldsL x.2.2.1 c x.2.1)=some o/\x.2.2.2.2+x.2.1.length<=l.length/\eU x.2.2.1=x.2.2.2.1/\x.2.2.2.1.length=x.2.2.2.2) μ (a,l,[],[],0) r5 ⟨h,k1.1,by simp,by rw[eU],rfl⟩ ?_
  rintro⟨a1,l1,acc,R,N⟩ ⟨g1,g2,g3,g4,g5⟩
  simp only at g1 g2 g3 g4 g5;rw[mU]at g2;replace g2:DV ev acc c l1=some o:=g2;unfold DV at g2;cbv;refine oE (yM (L:=l1) (c:=c) (ih (.field c l1) xT) rfl rfl rfl rfl rfl rfl g1 g2) (fun k2=>xE k2 fun xk2 k2=>xE k2 fun lk2 k2=>xE k2 fun bk2 k2=>xE k2 fun q1k2 k2=>xE k2 fun q2k2 k2=>xE k2 fun q3k2 k2=>xE k2 fun q4k2 k2=>xE k2 fun q5k2 k2=>?_) (fun k2=>?_)
  case' refine_2=>
   refine .y hM (k2.2) ?_;cbv;have e0:=k2.1;subst e0;all_goals trivial
  refine .y hM (k2.2.2.2.2) ?_;have ok2:=k2.2.2.2.1.one;cbv at ok2;refine xE (⟨_,rfl⟩:∃R2,R++[[pI q1k2,pS q4k2,pI q2k2,pI q3k2,q5k2]]=R2) fun R2 cW=>?_
  refine xE (⟨_,rfl⟩:∃N2,N+1=N2) fun N2 fZ=>?_
  have fA:=j4 hE g5 oM cW fZ
  have fA1:=fA.pre;have fA2:=fA.room;have fA3:=fA.add;have fA4:=fA.app;have fA5:=fA.pre2;have fA6:=fA.sub;have fA7:=fA.p1;have fA8:=fA.s1;cbv;refine mV ?_;refine oE (xO k2.1 sK c k2.2.1) (fun k3=>xE k3 fun bk3 k3=>?_) (fun k3=>?_)
  case' refine_1=>
   refine .y hM (k3.2.2.2.2) ?_;cbv;have e0:=sC (k3.2.1);subst e0;have hK:=DY g4 k2.2.2.2.1.row cW;simp only[k3.1.place,hK];cbv
   repeat (first|(refine⟨fA5,?_⟩;cbv)|(simp only[fA6];cbv))
   all_goals trivial
  refine .y hM (k3.2.2) ?_;cbv;refine oE (mr k2.1 sY c k3.1) (fun k4=>xE k4 fun bk4 k4=>?_) (fun k4=>?_)
  case' refine_2=>
   refine .y hM (k4.2) ?_;cbv;have e0:=k4.1;subst e0;all_goals trivial
  refine .y hM (k4.2.2.2.2) ?_;cbv;exact .mk (bk4,List.drop 1 lk2,acc++[xk2],R2,N2) r5 ⟨k4.1,k4.2.1,by grind,by rw[pj,g4,eU,eU,k2.2.2.2.1.row];exact cW,by grind⟩ aX
end
section
variable{n:Int}{toks:List Tk}{LR:List (List PV)}{a:Int}{l:Ts}
theorem BE(h:bF n toks LR a l)(k:Nat)(z:Int)(hz:((k:Nat):Int)=z)(hk:k<=1000000)(w:Bs)(c:Cx):(aM l k w=true/\MP 31 [.own 0 0,.p (pI z),.p (pS (bL w))] [aZ LR a c] (.p (pB true)) [aZ LR a c])\/(aM l k w=false/\MP 31 [.own 0 0,.p (pI z),.p (pS (bL w))] [aZ LR a c] (.p (pB false)) [aZ LR a c]):=by
 subst hz;exact pt h k hk w c
theorem Hk(h:bF n toks LR a l)(k:Nat)(z:Int)(hz:((k:Nat):Int)=z)(hk:k<=1000000)(c:Cx):(∃T zz,kd l k=1/\MP 30 [.own 0 0,.p (pI z)] [aZ LR a c] (.p (.agg [pI 1,pS T,pI zz])) [aZ LR a c])\/∃K T zz,¬kd l k=1/\decide (K=1)=false/\MP 30 [.own 0 0,.p (pI z)] [aZ LR a c] (.p (.agg [pI K,pS T,pI zz])) [aZ LR a c]:=by
 subst hz;obtain⟨zz,hm⟩:=ZA h k hk c
 by_cases h1:kd l k=1
 ·rw[h1]at hm;exact .inl ⟨_,_,h1,wB hm⟩
 ·exact .inr ⟨kd l k,_,_,h1,dF h1,wB hm⟩
def Dt(l:Ts)(i:Nat):Nat:=
 if kd l i=1 then(if aM l (i+1) pD then i+1 else 0)
 else if aM l i iS then(match ph l (l.length+1) (i+1)with
  |some n=>if aM l n eQ&&aM l (n+1) pD then n+1 else 0
  |none=>0)
 else 0
theorem z04(l:Ts):je l=Dt l (if aM l 0 jI then 1 else 0):=rfl
theorem PU{E:SO}(hE:E=bG){k:Nat}{z z2:Int}(hz:((k:Nat):Int)=z)(hk:k<=1000002)(h2:z+1=z2):E.wadd .i64 z 1=z2:=by rw[hE,<- h2];exact jX oM oM
theorem xak(h:bF n toks LR a l)(c:Cx):MP 50 [.own 0 0] [aZ LR a c] (.p (pI ((je l:Nat):Int))) [aZ LR a c]:=by
 have cn:l.length<=1000000:=f6
 rw[z04];obtain⟨i0,iH⟩:∃i0,(if aM l 0 jI then 1 else 0)=i0:=⟨_,rfl⟩
 rw[iH];have iL:i0<=1:=aX
 obtain⟨Q,hQ⟩:∃Q:Int,((Dt l i0:Nat):Int)=Q:=⟨_,rfl⟩
 rw[hQ];obtain⟨μ,hμ⟩:∃μ:Int×Nat->Nat,∀x,μ x=l.length+3-x.2:=⟨_,fun _=>rfl⟩
 refine iD aU (f:=50) Tryz.func50 rfl kR (oT kR) fun tags cC=>?_
 match tags,cC with
 |[t0],_=>
  refine aY.cutK 3 52 [0,3] 1 (fun z:Int=>[.own 0 0,.p (pI z)]) (fun _=>[some (.box [.p (.ro 3 LR),.p (pI a),.p (pB c.fn),.p (pB c.lp),.p (pB c.gn),.p (pB c.as_)] 39 (some t0))]) (fun z=>((i0:Nat):Int)=z) aU mixed (fun _=>0) (fun E=>fI E cO Tryz.f50.results.toList [t0] (.p (pI Q)) [aZ LR a c]) kR ?_ ?_
  ·intro P G E hc hM hE;clear hc hE;cbv;refine oE (BE h 0 0 rfl (aP _) jI c) (fun k1=>?_) (fun k1=>?_)
   case' refine_1=>
    refine .y hM k1.2 ?_;rw[k1.1]at iH;subst iH;cbv;exact .mk 1 r5 rfl
   refine .y hM k1.2 ?_;rw[k1.1]at iH;subst iH;cbv;exact .mk 0 r5 rfl
  intro z hz;replace hz:((i0:Nat):Int)=z:=hz;obtain⟨z2,zF⟩:∃z2:Int,z+1=z2:=⟨_,rfl⟩
  unfold Dt at hQ;refine aY.of aU mixed (fun _=>0) kR (fun E=>fI E cO Tryz.f50.results.toList [t0] (.p (pI Q)) [aZ LR a c]) fun P G E hc hM hE=>?_
  have ea:=PU hE hz oM zF
  have kpk:=Hk h i0 z hz oM c
  have kis:=BE h (i0+1) z2 oM oM pD c
  have klp:=BE h i0 z hz oM iS c
  cbv;refine oE kpk (fun k1=>xE k1 fun T1 k1=>xE k1 fun zz1 k1=>?_) (fun k1=>xE k1 fun K1 k1=>xE k1 fun T1 k1=>xE k1 fun zz1 k1=>?_)
  case' refine_1=>
   rw[aF k1.1]at hQ;refine .y hM k1.2 ?_;cbv;simp only[ea];cbv;refine oE kis (fun k2=>?_) (fun k2=>?_)
   case' refine_1=>
    rw[aF k2.1]at hQ;refine .y hM k2.2 ?_;have hQ1:((i0+1:Nat):Int)=Q:=hQ;have uZ:((i0:Nat):Int)=z:=hz;have BP:z+1=z2:=zF;have e0:z2=Q:=eC
    subst e0;cbv
    grind
   rw[aD aX]at hQ
   refine .y hM k2.2 ?_;subst hQ;cbv;all_goals trivial
  rw[aD k1.1]at hQ;refine .y hM k1.2.2 ?_;have ek1:=k1.2.1;cbv;simp only[ek1];cbv;refine oE klp (fun k2=>?_) (fun k2=>?_)
  case' refine_2=>
   rw[aD aX]at hQ
   refine .y hM k2.2 ?_;subst hQ;cbv;all_goals trivial
  rw[aF k2.1]at hQ;have nv:=nZ k2.1;refine .y hM k2.2 ?_;cbv;simp only[ea];cbv;have uZ:((i0:Nat):Int)=z:=hz;have BP:z+1=z2:=zF;refine gV 52 [0,3] 1 (fun x:Int×Nat=>[.own 0 0,.p (pI x.1)]) (fun _=>[some (.box [.p (.ro 3 LR),.p (pI a),.p (pB c.fn),.p (pB c.lp),.p (pB c.gn),.p (pB c.as_)] 39 (some t0))])
   (fun x=>((x.2:Nat):Int)=x.1/\x.2<=l.length/\∃m,l.length+1<=m+x.2/\(((match ph l m x.2 with
    |some n=>if aM l n eQ&&aM l (n+1) pD then n+1 else 0
    |none=>0):Nat):Int)=Q) μ (z2,i0+1) r5 ⟨by omega,by omega,l.length+1,by omega,hQ⟩ ?_
  clear hQ
  rintro⟨z5,k⟩ ⟨g1,g2,m,g3,hQ⟩
  simp only at g1 g2 g3 hQ;obtain⟨m,rfl⟩:∃m',m=m'+1:=⟨m-1,by omega⟩
  rw[ph]at hQ;obtain⟨z6,hz6⟩:∃y:Int,z5+1=y:=⟨_,rfl⟩
  obtain⟨z7,hz7⟩:∃y:Int,z6+1=y:=⟨_,rfl⟩
  have e6:=PU hE g1 oM hz6
  have g6:((k+1:Nat):Int)=z6:=eC
  have e7:=PU hE g6 oM hz7
  have g7:((k+2:Nat):Int)=z7:=eC
  have kpk:=Hk h k z5 g1 oM c
  have nE:=hμ;clear klp kis;cbv;refine oE kpk (fun k1=>xE k1 fun T1 k1=>xE k1 fun zz1 k1=>?_) (fun k1=>xE k1 fun K1 k1=>xE k1 fun T1 k1=>xE k1 fun zz1 k1=>?_)
  case' refine_2=>
   rw[aD k1.1]at hQ;have dh:=hQ;simp only at dh;refine .y hM k1.2.2 ?_;have ek1:=k1.2.1;cbv;simp only[ek1];cbv;refine xE (⟨_,rfl⟩:∃y:Int,z5+1=y) fun y9 L8=>?_
   have VU:((k:Nat):Int)=z5:=g1;have ea9:=PU hE VU oM L8
   refine oE (BE h (k) z5 VU oM eQ c) (fun k7=>?_) (fun k7=>?_)
   case' refine_2=>
    rw[k7.1,cH]at dh;refine .y hM k7.2 ?_;have e0:0=Q:=dh;subst e0;cbv;all_goals trivial
   have hp7:=nZ k7.1;rw[k7.1,bO]at dh;refine .y hM k7.2 ?_;cbv;simp only[ea9];cbv;refine oE (BE h (k+1) y9 aX oM pD c) (fun k8=>?_) (fun k8=>?_)
   case' refine_2=>
    rw[aD aX]at dh
    refine .y hM k8.2 ?_;have e0:0=Q:=dh;subst e0;cbv;all_goals trivial
   rw[aF k8.1]at dh;refine .y hM k8.2 ?_;have hQ9:((k+1:Nat):Int)=Q:=dh;have e0:y9=Q:=eC
   subst e0;cbv
   grind
  rw[aF k1.1]at hQ;have gD:=lO k1.1 aN
  refine .y hM k1.2 ?_;cbv;simp only[e6];cbv;refine oE (BE h (k+1) z6 g6 oM sY c) (fun k2=>?_) (fun k2=>?_)
  case' refine_2=>
   rw[aD aX]at hQ
   have dh:=hQ;simp only at dh;refine .y hM k2.2 ?_;cbv;refine xE (⟨_,rfl⟩:∃y:Int,z6+1=y) fun y9 L8=>?_
   have VU:((k+1:Nat):Int)=z6:=g6;have ea9:=PU hE VU oM L8
   refine oE (BE h (k+1) z6 VU oM eQ c) (fun k7=>?_) (fun k7=>?_)
   case' refine_2=>
    rw[k7.1,cH]at dh;refine .y hM k7.2 ?_;have e0:0=Q:=dh;subst e0;cbv;all_goals trivial
   have hp7:=nZ k7.1;rw[k7.1,bO]at dh;refine .y hM k7.2 ?_;cbv;simp only[ea9];cbv;refine oE (BE h (k+1+1) y9 aX oM pD c) (fun k8=>?_) (fun k8=>?_)
   case' refine_2=>
    rw[aD aX]at dh
    refine .y hM k8.2 ?_;have e0:0=Q:=dh;subst e0;cbv;all_goals trivial
   rw[aF k8.1]at dh;refine .y hM k8.2 ?_;have hQ9:((k+1+1:Nat):Int)=Q:=dh;have e0:y9=Q:=aX
   subst e0;cbv
   grind
  rw[aF k2.1]at hQ;have BU:=nZ k2.1;refine .y hM k2.2 ?_;cbv;simp only[e7];cbv;refine oE (Hk h (k+2) z7 g7 oM c) (fun k3=>xE k3 fun T3 k3=>xE k3 fun zz3 k3=>?_) (fun k3=>xE k3 fun K3 k3=>xE k3 fun T3 k3=>xE k3 fun zz3 k3=>?_)
  case' refine_2=>
   rw[aD k3.1]at hQ;have e0:0=Q:=hQ;refine .y hM k3.2.2 ?_;have ek3:=k3.2.1;subst e0;cbv
   repeat (simp only[ek3];cbv)
   all_goals trivial
  rw[aF k3.1]at hQ;have hp3:=lO k3.1 aN
  refine .y hM k3.2 ?_;cbv;exact .mk (z7,k+2) r5 ⟨g7,by omega,m,by omega,hQ⟩ aX
theorem Jh{β:Type}{o:Option (β×Ts)}(h:bF n toks LR a l)(c:Cx){X Y:Re β}(ho:(if 0<je l then X else Y)=some o):
  (∃Q:Int,X=some o/\0<Q/\MP 50 [.own 0 0] [aZ LR a c] (.p (pI Q)) [aZ LR a c])\/∃Q:Int,Y=some o/\¬0<Q/\MP 50 [.own 0 0] [aZ LR a c] (.p (pI Q)) [aZ LR a c]:=by
 have hm:=xak h c
 by_cases hb:0<je l
 ·rw[aF hb]at ho;exact .inl ⟨_,ho,by omega,hm⟩
 ·rw[aD hb]at ho;exact .inr ⟨_,ho,by omega,hm⟩
end
end Go.Proofs.YtjkcdcloomkooaaGreatDoor
