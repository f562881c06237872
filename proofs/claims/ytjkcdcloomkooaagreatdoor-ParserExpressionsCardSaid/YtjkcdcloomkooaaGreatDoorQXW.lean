/- Own work: walks and laws of the parser and its reference. -/
import Derived.Test.YtjkcdcloomkooaaGreatDoorQXM
set_option linter.unusedVariables false
set_option linter.unusedSimpArgs false
set_option linter.unusedSectionVars false
set_option maxHeartbeats 8000000
set_option maxRecDepth 100000
namespace Go.Proofs.YtjkcdcloomkooaaGreatDoor
open Go.RowKit
mutual
def gM:PT->List PV
 | .mk k nm i o ks=>[pI k,pS (bL nm),pI i,pI o,mS ks]
def mS:List PT->PV
 |[]=>.v (.slice none 0 0)
 |k::ks=>.ro 5 (gM k::eO ks)
def eO:List PT->List (List PV)
 |[]=>[]
 |k::ks=>gM k::eO ks
end
theorem o9:∀a b:List PT,eO (a++b)=eO a++eO b
 |[],_=>by rfl
 |x::a,b=>by rw[pD,eO,eO,o9 a b];rfl
theorem vd:∀a:List PT,(eO a).length=a.length
 |[]=>by rfl
 |x::a=>by rw[eO,qD,qD,vd a]
def er(t:Tk):Tk:=⟨t.k,t.t,0⟩
structure bE(n:Int)(toks:List Tk)(LR:List (List PV))(a:Int)(l:Ts):Prop where
 h0:0<=a
 h1:a+((l.length:Nat):Int)=((toks.length:Nat):Int)
 d:toks.drop a.toNat=l
 r:∃ts:List Tk,ts.map er=toks/\lF n ts=LR
 z:toks.length<=1000000
 tz:∀t∈toks,t.t.length<=1000000
 tn:∀t∈toks,t.k=3->(∀c∈t.t,eH c=true)/\t.t≠[]/\lC t.t<9223372036854775808
theorem bE.drop{n:Int}{toks:List Tk}{LR:List (List PV)}{a b:Int}{l:Ts}(h:bE n toks LR a l)(k:Nat)(hk:k<=l.length)(hb:a+(k:Nat)=b):bE n toks LR b (l.drop k):=by
 have h0:=h.h0;have h1:=h.h1;refine⟨by omega,by grind,?_,h.r,h.z,h.tz,h.tn⟩
 rw[<-h.d,yS,show b.toNat=a.toNat+k by omega]
theorem bE.get{n:Int}{toks:List Tk}{LR:List (List PV)}{a:Int}{l:Ts}(h:bE n toks LR a l){k:Nat}{t:Tk}(ht:l[k]?=some t):∃z:Int,LR[(a+(k:Nat)).toNat]?=some [pI t.k,pS (bL t.t),pI z]:=by
 have h0:=h.h0;obtain⟨ts,h1,h2⟩:=h.r;rw[<-h.d,dI,<- h1,aH]at ht;rw[<-h2];unfold lF;rw[aH,show(a+(k:Nat)).toNat=a.toNat+k by omega]
 cases hx:ts[a.toNat+k]? with
 |none=>rw[hx]at ht;cases ht
 |some x=>
  rw[hx]at ht
  cases ht
  exact⟨n-(x.rem:Nat),rfl⟩
theorem bE.len{n:Int}{toks:List Tk}{LR:List (List PV)}{a:Int}{l:Ts}(h:bE n toks LR a l):LR.length=toks.length:=by obtain⟨ts,h1,h2⟩:=h.r;rw[<-h1,<- h2,vh,tc]
abbrev aX(LR:List (List PV))(a:Int)(c:Cx):Option cH:=some (.box [.p (.ro 3 LR),.p (pI a),.p (pB c.fn),.p (pB c.lp),.p (pB c.gn),.p (pB c.as_)] 39 none)
def lO:List PanicEntry:=[{ v:=.iface 56 (.agg #[]),recovered:=false }]
section
variable{n:Int}{toks:List Tk}{LR:List (List PV)}{a:Int}{l:Ts}
theorem VK(h:bE n toks LR a l)(k:Nat)(hk:k<=1000000)(c:Cx):∃z:Int,VM 30 [.own 0 0,.p (pI (k:Nat))] [aX LR a c] (.p (.agg [pI (kd l k),pS (bL (tx l k)),pI z])) [aX LR a c]:=by
 have hl:=h.len;have h0:=h.h0;have h1:=h.h1;have hz:=h.z;obtain⟨m,hm⟩:∃m:Int,((toks.length:Nat):Int)=m:=⟨_,rfl⟩
 obtain⟨kk,ll⟩:∃x:Int,((k:Nat):Int)=x:=⟨_,rfl⟩
 obtain⟨b,hb⟩:∃x:Int,a+kk=x:=⟨_,rfl⟩
 obtain⟨fn,lp,gn,as_⟩:=c;rw[ll]
 cases ht:l[k]? with
 |some t=>
  obtain⟨z,hg⟩:=h.get ht;have cJ:k<l.length:=(aC.1 ht).1;have e1:kd l k=t.k:=by unfold kd;rw[ht]
  have e2:tx l k=t.t:=by unfold tx;rw[ht]
  rw[e1,e2];rw[ll,hb]at hg;refine⟨z,?_⟩;generalize bL t.t=T at hg ⊢;generalize t.k=K at hg ⊢;refine gS aN (f:=30) Tryz.func30 rfl kR (oT kR) fun tags bS=>?_
  match tags,bS with
  |[t0],_=>
   refine aY.of aN mixed (fun n=>match n with|1=>11|2=>10|_=>0) kR (fun E=>eU E cK Tryz.f30.results.toList [t0] (.p (.agg [pI K,pS T,pI z])) [aX LR a ⟨fn,lp,gn,as_⟩]) fun P G E hc hM hE=>?_
   have l0:E.ofN LR.length=m:=by rw[hE,hl];exact hm
   have ea:E.wadd .i64 a kk=b:=RG
   have d1:E.lti b m=true:=sF
   have p1:E.ple 0 b:=by rw[hE];show 0<=b;omega
   have g1:LR[E.nat b]?=some [pI K,pS T,pI z]:=by rw[hE];exact hg
   clear hE hc hM hm ll hb hl h0 h1 hz h ht hg cJ e1 e2 hk;cbv at l0;cbv
   repeat (first|(simp only[ea];try cbv)|(simp only[l0];try cbv)|(simp only[d1];try cbv)|(refine⟨p1,_,g1,?_⟩;cbv))
   all_goals trivial
 |none=>
  have qJ:l.length<=k:=rS.1 ht;have e1:kd l k=0:=by unfold kd;rw[ht]
  have e2:tx l k=[]:=by unfold tx;rw[ht]
  rw[e1,e2];refine⟨0,?_⟩;show VM 30 [.own 0 0,.p (pI kk)] [aX LR a ⟨fn,lp,gn,as_⟩] (.p (.agg [pI 0,pS ⟨#[]⟩,pI 0])) [aX LR a ⟨fn,lp,gn,as_⟩];refine gS aN (f:=30) Tryz.func30 rfl kR (oT kR) fun tags bS=>?_
  match tags,bS with
  |[t0],_=>
   refine aY.of aN mixed (fun n=>match n with|1=>11|2=>10|_=>0) kR (fun E=>eU E cK Tryz.f30.results.toList [t0] (.p (.agg [pI 0,pS ⟨#[]⟩,pI 0])) [aX LR a ⟨fn,lp,gn,as_⟩]) fun P G E hc hM hE=>?_
   have l0:E.ofN LR.length=m:=by rw[hE,hl];exact hm
   have ea:E.wadd .i64 a kk=b:=RG
   have d1:E.lti b m=false:=sS
   clear hE hc hM hm ll hb hl h0 h1 hz h ht qJ e1 e2 hk;cbv at l0;cbv
   repeat (first|(simp only[ea];try cbv)|(simp only[l0];try cbv)|(simp only[d1];try cbv))
   all_goals trivial
theorem DN(h:bE n toks LR a l)(k:Nat)(hk:k<=1000000)(s:ByteArray)(c:Cx):VM 31 [.own 0 0,.p (pI (k:Nat)),.p (pS s)] [aX LR a c] (.p (pB (aL l k s.data.toList))) [aX LR a c]:=by
 obtain⟨z,hp⟩:=VK h k hk c;obtain⟨kk,ll⟩:∃x:Int,((k:Nat):Int)=x:=⟨_,rfl⟩
 have hb:aL l k s.data.toList=(decide (bL (tx l k)=s)&&(decide (kd l k=2)||decide (kd l k=5))):=by
  unfold aL
  congr 1
  refine fM.2 ⟨fun e=>yN (by rw[e];unfold bL;simp),fun e=>by rw[<-e];unfold bL;simp⟩
 rw[hb];clear hb;generalize bL (tx l k)=T at hp ⊢;generalize kd l k=K at hp ⊢;obtain⟨fn,lp,gn,as_⟩:=c;obtain⟨q,hq⟩:∃q,(decide (T=s)&&(decide (K=2)||decide (K=5)))=q:=⟨_,rfl⟩
 rw[hq];refine gS aN (f:=31) Tryz.func31 rfl kR (oT kR) fun tags bS=>?_
 match tags,bS with
 |[t0],_=>
  refine aY.of aN mixed (fun _=>0) kR (fun E=>eU E cK Tryz.f31.results.toList [t0] (.p (pB q)) [aX LR a ⟨fn,lp,gn,as_⟩]) fun P G E hc hM hE=>?_
  replace hp:=hM _ _ _ _ _ hp;have ee:E.eq T s=decide (T=s):=fS
  clear hE hc hM h hk ll;cbv;refine .mk _ _ (Wk.refl _ _) [0] _ _ _ _ hp rfl rfl rfl ?_;cbv;simp only[ee];refine oE (dP (T=s)) (fun h1=>?_) (fun h1=>?_)
  ·have x1:decide (T=s)=true:=aA h1;rw[x1,bP]at hq;simp only[x1];cbv;refine oE (dP (K=2)) (fun h2=>?_) (fun h2=>?_)
   ·have x2:decide (K=2)=true:=aA h2;rw[x2,dK]at hq;subst hq;simp only[x2];cbv;all_goals trivial
   ·have x2:decide (K=2)=false:=dF h2;rw[x2,bI]at hq;simp only[x2];cbv
    grind
  ·have x1:decide (T=s)=false:=dF h1;rw[x1,cD]at hq;subst hq;simp only[x1];cbv;all_goals trivial
end
section
variable{n:Int}{toks:List Tk}{LR:List (List PV)}{a:Int}{l:Ts}
theorem isO(h:bE n toks LR a l)(k:Nat)(hk:k<=1000000)(s:ByteArray)(c:Cx):(aL l k s.data.toList=true/\VM 31 [.own 0 0,.p (pI (k:Nat)),.p (pS s)] [aX LR a c] (.p (pB true)) [aX LR a c])\/(aL l k s.data.toList=false/\VM 31 [.own 0 0,.p (pI (k:Nat)),.p (pS s)] [aX LR a c] (.p (pB false)) [aX LR a c]):=by
 have hi:=DN h k hk s c
 cases hb:aL l k s.data.toList with
 |true=>grind
 |false=>grind
theorem um(LR:List (List PV))(a:Int)(c:Cx):VM 29 [.own 0 0] [aX LR a c] (.p (.pan lO)) [none]:=by
 refine gS aN (f:=29) Tryz.func29 rfl kR (oT kR) fun tags bS=>?_
 match tags,bS with
 |[t0],_=>
  refine aY.of aN mixed (fun _=>0) kR (fun E=>eU E cK Tryz.f29.results.toList [t0] (.p (.pan lO)) [none]) fun P G E hc hM hE=>?_
  clear hE hc hM;cbv;all_goals trivial
theorem take_t(h:bE n toks LR a l)(s:ByteArray)(c:Cx)(hs:aL l 0 s.data.toList=true){b:Int}(hb:a+1=b):VM 37 [.own 0 0,.p (pS s)] [aX LR a c] (.p (pB true)) [aX LR b c]:=by
 have hi:=DN h 0 (aP _) s c;rw[hs]at hi;have h0:=h.h0;have h1:=h.h1;have hz:=h.z;have ha:a<=1000000:=dU
 obtain⟨fn,lp,gn,as_⟩:=c;refine gS aN (f:=37) Tryz.func37 rfl kR (oT kR) fun tags bS=>?_
 match tags,bS with
 |[t0],_=>
  refine aY.of aN mixed (fun _=>0) kR (fun E=>eU E cK Tryz.f37.results.toList [t0] (.p (pB true)) [aX LR b ⟨fn,lp,gn,as_⟩]) fun P G E hc hM hE=>?_
  replace hi:=hM _ _ _ _ _ hi;have ea:E.wadd .i64 a 1=b:=RG
  clear hE hc hM h hs hb h0 h1 hz ha;cbv;refine .mk _ _ (Wk.refl _ _) [0] _ _ _ _ hi rfl rfl rfl ?_;cbv
  grind
theorem take_f(h:bE n toks LR a l)(s:ByteArray)(c:Cx)(hs:aL l 0 s.data.toList=false):VM 37 [.own 0 0,.p (pS s)] [aX LR a c] (.p (pB false)) [aX LR a c]:=by
 have hi:=DN h 0 (aP _) s c;rw[hs]at hi;obtain⟨fn,lp,gn,as_⟩:=c;refine gS aN (f:=37) Tryz.func37 rfl kR (oT kR) fun tags bS=>?_
 match tags,bS with
 |[t0],_=>
  refine aY.of aN mixed (fun _=>0) kR (fun E=>eU E cK Tryz.f37.results.toList [t0] (.p (pB false)) [aX LR a ⟨fn,lp,gn,as_⟩]) fun P G E hc hM hE=>?_
  replace hi:=hM _ _ _ _ _ hi;clear hE hc hM h hs;cbv;refine .mk _ _ (Wk.refl _ _) [0] _ _ _ _ hi rfl rfl rfl ?_;cbv;all_goals trivial
theorem NY(h:bE n toks LR a l)(s:ByteArray)(c:Cx):(aL l 0 s.data.toList=true/\VM 37 [.own 0 0,.p (pS s)] [aX LR a c] (.p (pB true)) [aX LR (a+1) c])\/(aL l 0 s.data.toList=false/\VM 37 [.own 0 0,.p (pS s)] [aX LR a c] (.p (pB false)) [aX LR a c]):=by
 cases hb:aL l 0 s.data.toList with
 |true=>exact .inl ⟨rfl,take_t h s c hb rfl⟩
 |false=>exact .inr ⟨rfl,take_f h s c hb⟩
theorem xgb(h:bE n toks LR a l)(s:ByteArray)(c:Cx)(hs:aL l 0 s.data.toList=true){b:Int}(hb:a+1=b):VM 33 [.own 0 0,.p (pS s)] [aX LR a c] (.p (.tup [])) [aX LR b c]:=by
 have hi:=take_t h s c hs hb;obtain⟨fn,lp,gn,as_⟩:=c;refine gS aN (f:=33) Tryz.func33 rfl kR (oT kR) fun tags bS=>?_
 match tags,bS with
 |[t0],_=>
  refine aY.of aN mixed (fun _=>0) kR (fun E=>eU E cK Tryz.f33.results.toList [t0] (.p (.tup [])) [aX LR b ⟨fn,lp,gn,as_⟩]) fun P G E hc hM hE=>?_
  replace hi:=hM _ _ _ _ _ hi;clear hE hc hM h hs hb;cbv;refine .mk _ _ (Wk.refl _ _) [0] _ _ _ _ hi rfl rfl rfl ?_;cbv;all_goals trivial
theorem xgc(h:bE n toks LR a l)(s:ByteArray)(c:Cx)(hs:aL l 0 s.data.toList=false):VM 33 [.own 0 0,.p (pS s)] [aX LR a c] (.p (.pan lO)) [none]:=by
 have hi:=take_f h s c hs;have hf:=um LR a c;refine gS aN (f:=33) Tryz.func33 rfl kR (oT kR) fun tags bS=>?_
 match tags,bS with
 |[t0],_=>
  refine aY.of aN mixed (fun _=>0) kR (fun E=>eU E cK Tryz.f33.results.toList [t0] (.p (.pan lO)) [none]) fun P G E hc hM hE=>?_
  replace hi:=hM _ _ _ _ _ hi;replace hf:=hM _ _ _ _ _ hf;clear hE hc hM h hs;cbv;refine .mk _ _ (Wk.refl _ _) [0] _ _ _ _ hi rfl rfl rfl ?_;cbv;refine .mk _ _ (Wk.refl _ _) [0] _ _ _ _ hf rfl rfl rfl ?_;cbv;all_goals trivial
theorem PH(h:bE n toks LR a l)(s:ByteArray)(c:Cx):(aL l 0 s.data.toList=true/\VM 33 [.own 0 0,.p (pS s)] [aX LR a c] (.p (.tup [])) [aX LR (a+1) c])\/(aL l 0 s.data.toList=false/\VM 33 [.own 0 0,.p (pS s)] [aX LR a c] (.p (.pan lO)) [none]):=by
 cases hb:aL l 0 s.data.toList with
 |true=>exact .inl ⟨rfl,xgb h s c hb rfl⟩
 |false=>exact .inr ⟨rfl,xgc h s c hb⟩
theorem PK(h:bE n toks LR a l)(c:Cx):(kd l 0=1/\VM 57 [.own 0 0] [aX LR a c] (.p (pS (bL (tx l 0)))) [aX LR (a+1) c])\/(¬kd l 0=1/\VM 57 [.own 0 0] [aX LR a c] (.p (.pan lO)) [none]):=by
 obtain⟨z,hp⟩:=VK h 0 (aP _) c;have hf:=um LR a c;have h0:=h.h0;have h1:=h.h1;have hz:=h.z;have ha:a<=1000000:=dU
 obtain⟨b,hb⟩:∃b,a+1=b:=⟨_,rfl⟩
 rw[hb];obtain⟨fn,lp,gn,as_⟩:=c;obtain⟨T,hT⟩:∃T,bL (tx l 0)=T:=⟨_,rfl⟩
 rw[hT]at hp ⊢
 by_cases hk:kd l 0=1
 ·refine .inl ⟨hk,?_⟩;rw[hk]at hp;refine gS aN (f:=57) Tryz.func57 rfl kR (oT kR) fun tags bS=>?_
  match tags,bS with
  |[t0],_=>
   refine aY.of aN mixed (fun _=>0) kR (fun E=>eU E cK Tryz.f57.results.toList [t0] (.p (pS T)) [aX LR b ⟨fn,lp,gn,as_⟩]) fun P G E hc hM hE=>?_
   replace hp:=hM _ _ _ _ _ hp;have ea:E.wadd .i64 a 1=b:=RG
   clear hE hc hM h hb h0 h1 hz ha hf hk hT;cbv;refine .mk _ _ (Wk.refl _ _) [0] _ _ _ _ hp rfl rfl rfl ?_;cbv
   grind
 ·refine .inr ⟨hk,?_⟩;have dk:decide (kd l 0=1)=false:=dF hk;generalize kd l 0=K at hp dk;refine gS aN (f:=57) Tryz.func57 rfl kR (oT kR) fun tags bS=>?_
  match tags,bS with
  |[t0],_=>
   refine aY.of aN mixed (fun _=>0) kR (fun E=>eU E cK Tryz.f57.results.toList [t0] (.p (.pan lO)) [none]) fun P G E hc hM hE=>?_
   replace hp:=hM _ _ _ _ _ hp;replace hf:=hM _ _ _ _ _ hf;clear hE hc hM h hb h0 h1 hz ha hk hT;cbv;refine .mk _ _ (Wk.refl _ _) [0] _ _ _ _ hp rfl rfl rfl ?_;cbv;simp only[dk];cbv;refine .mk _ _ (Wk.refl _ _) [0] _ _ _ _ hf rfl rfl rfl ?_;cbv;all_goals trivial
end
abbrev MP(f:FuncId)(l:List AV)(H:AH)(r:AV)(K:AH):Prop:=ML f l H r K
def iL:Option (Rv×Ts)->AV
 |none=>.p (.pan lO)
 |some (.nd x,_)=>.p (.agg (gM x))
 |some (.nb x b,_)=>.p (.tup [.agg (gM x),pB b])
 |some (.ls ks,_)=>.p (mS ks)
def iE(toks:List Tk)(LR:List (List PV))(c:Cx):Option (Rv×Ts)->AH
 |none=>[none]
 |some (_,l)=>[aX LR (((toks.length:Nat):Int)-((l.length:Nat):Int)) c]
def Sy.fid:Sy->Option FuncId
 | .stmt _ _=>some 13
 | .keyw _ _=>some 38
 | .condn _ _=>some 60
 | .inner _ _=>some 61
 | .body _ _=>some 62
 | .loops _ _=>some 63
 | .tryS _ _=>some 64
 | .decl _ (_::_)=>some 32
 | .block _ _=>some 36
 | .func _ _ _=>some 35
 | .arrow _ _=>some 51
 | .assign _ _=>some 25
 | .cond _ _=>some 52
 | .opnd k _ _=>if k<=6 then some 91 else none
 | .unary _ _=>some 111
 | .postf _ _=>some 127
 | .link _ _ _=>some 153
 | .chain _ _=>some 139
 | .list2 _ _ _=>some 154
 | .prim _ _=>some 152
 | .fields _ _=>some 166
 | .field _ _=>some 174
 |_=>none
def Sy.args:Sy->List AV
 | .func d _ _=>[.p (pB d)]
 | .opnd k _ _=>[.p (pI (k:Nat))]
 | .link x _ _=>[.p (.agg (gM x))]
 | .list2 e _ _=>[.p (pS (bL e))]
 |_=>[]
def Sy.c:Sy->Cx
 | .stmt c _|.keyw c _|.condn c _|.inner c _|.body c _|.loops c _|.tryS c _|.decl c _|.declL _ _ c _|.block c _|.blockL _ c _|.func _ c _|.arrow c _|.assign c _|.cond c _|.opnd _ c _|.opndL _ _ c _|.unary c _|.postf c _|.link _ c _|.chain c _|.chainN _ c _|.chainL _ c _|.list2 _ c _|.list2L _ _ c _|.prim c _|.fields c _|.fieldsL _ c _|.field c _=>c
def iD(n:Int)(toks:List Tk)(LR:List (List PV))(s:Sy):Prop:=∀f,s.fid=some f->∀a,bE n toks LR a s.l->∀o,ev s=some o->MP f (.own 0 0::s.args) [aX LR a s.c] (iL o) (iE toks LR s.c o)
theorem Gb{c:Cx}{l:Ts}{w:Bs}(h:aL l 0 w=true):(Sy.decl c l).fid=some 32:=by
 cases l with
 |nil=>cases nH h
 |cons x l=>rfl
section
variable{n:Int}{toks:List Tk}{LR:List (List PV)}{a:Int}{l:Ts}
theorem bE.suf(h:bE n toks LR a l){l':Ts}(hs:l' <:+ l):bE n toks LR (((toks.length:Nat):Int)-((l'.length:Nat):Int)) l':=by
 have h0:=h.h0;have hl:=lN hs;have ht:l' <:+ toks:=hs.trans (by rw[<-h.d];exact cW _ _)
 have tW:=lN ht;refine⟨by omega,by omega,?_,h.r,h.z,h.tz,h.tn⟩
 rw[show(((toks.length:Nat):Int)-((l'.length:Nat):Int)).toNat=toks.length-l'.length by omega]
 exact(List.suffix_iff_eq_drop.1 ht).symm
theorem bE.place(h:bE n toks LR a l):((toks.length:Nat):Int)-((l.length:Nat):Int)=a:=by have:=h.h1;omega
structure iX(x:PT)(k i o:Int)(nm:ByteArray)(K:PV):Prop where
 row:gM x=[pI k,pS nm,pI i,pI o,K]
 one:yM (.p K)=true
 kind:x.kind=k
theorem C4(ks:List PT):yM (.p (mS ks))=true:=by
 cases ks with
 |nil=>rfl
 |cons k ks=>rfl
theorem BP(x:PT):∃k i o nm K,iX x k i o nm K:=by
 cases x with
 |mk k nm i o ks=>exact⟨k,i,o,bL nm,mS ks,by rw[gM],C4 ks,rfl⟩
theorem iD.nd{s:Sy}(hG:iD n toks LR s){f:FuncId}(hf:s.fid=some f)(pH:s.shape=.nd)(h:bE n toks LR a s.l):
  (ev s=some none/\MP f (.own 0 0::s.args) [aX LR a s.c] (.p (.pan lO)) [none])\/∃x l' b k i o nm K,ev s=some (some (.nd x,l'))/\bE n toks LR b l'/\iX x k i o nm K/\(s.lax=false->l'.length<s.l.length)/\MP f (.own 0 0::s.args) [aX LR a s.c] (.p (.agg [pI k,pS nm,pI i,pI o,K])) [aX LR b s.c]:=by
 obtain⟨o,ho,hp⟩:=yl s;have hm:=hG f hf a h o ho
 match o,ho,hp,hm with
 |none,ho,_,hm=>exact .inl ⟨ho,hm⟩
 |some (v,l'),ho,hp,hm=>
  have hq:=hp v l' rfl;have h1:=hq.1;rw[pH]at h1
  cases v with
  |nd x=>
   obtain⟨k,i,o,nm,K,hv⟩:=BP x;have kM:MP f (.own 0 0::s.args) [aX LR a s.c] (.p (.agg (gM x))) (iE toks LR s.c (some (.nd x,l'))):=hm;rw[hv.row]at kM;exact .inr ⟨x,l',_,k,i,o,nm,K,ho,h.suf hq.2.1,hv,fun e=>(hq.2.2 e rfl).2,kM⟩
  |nb x b=>cases h1
  |ls x=>cases h1
theorem iD.nb{s:Sy}(hG:iD n toks LR s){f:FuncId}(hf:s.fid=some f)(pH:s.shape=.nb)(h:bE n toks LR a s.l):
  (ev s=some none/\MP f (.own 0 0::s.args) [aX LR a s.c] (.p (.pan lO)) [none])\/∃x q l' b k i o nm K,ev s=some (some (.nb x q,l'))/\bE n toks LR b l'/\iX x k i o nm K/\(l'.length<=s.l.length/\(s.lax=false->q=true->l'.length<s.l.length))/\MP f (.own 0 0::s.args) [aX LR a s.c] (.p (.tup [.agg [pI k,pS nm,pI i,pI o,K],pB q])) [aX LR b s.c]:=by
 obtain⟨o,ho,hp⟩:=yl s;have hm:=hG f hf a h o ho
 match o,ho,hp,hm with
 |none,ho,_,hm=>exact .inl ⟨ho,hm⟩
 |some (v,l'),ho,hp,hm=>
  have hq:=hp v l' rfl;have h1:=hq.1;rw[pH]at h1
  cases v with
  |nb x b=>
   obtain⟨k,i,o,nm,K,hv⟩:=BP x;have kM:MP f (.own 0 0::s.args) [aX LR a s.c] (.p (.tup [.agg (gM x),pB b])) (iE toks LR s.c (some (.nb x b,l'))):=hm;rw[hv.row]at kM;exact .inr ⟨x,b,l',_,k,i,o,nm,K,ho,h.suf hq.2.1,hv,⟨fY.len hq.2.1,fun e e2=>(hq.2.2 e e2).2⟩,kM⟩
  |nd x=>cases h1
  |ls x=>cases h1
theorem iD.ls{s:Sy}(hG:iD n toks LR s){f:FuncId}(hf:s.fid=some f)(pH:s.shape=.ls)(h:bE n toks LR a s.l):
  (ev s=some none/\MP f (.own 0 0::s.args) [aX LR a s.c] (.p (.pan lO)) [none])\/∃ks l' b,ev s=some (some (.ls ks,l'))/\bE n toks LR b l'/\(s.lax=false->l'.length<s.l.length)/\MP f (.own 0 0::s.args) [aX LR a s.c] (.p (mS ks)) [aX LR b s.c]:=by
 obtain⟨o,ho,hp⟩:=yl s;have hm:=hG f hf a h o ho
 match o,ho,hp,hm with
 |none,ho,_,hm=>exact .inl ⟨ho,hm⟩
 |some (v,l'),ho,hp,hm=>
  have hq:=hp v l' rfl;have h1:=hq.1;rw[pH]at h1
  cases v with
  |ls x=>exact .inr ⟨x,l',_,ho,h.suf hq.2.1,fun e=>(hq.2.2 e rfl).2,hm⟩
  |nd x=>cases h1
  |nb x b=>cases h1
theorem CS(w:Bs):(bL w).data.toList=w:=JK
theorem Q6(h:bE n toks LR a l)(w:Bs)(c:Cx):(∃b,aL l 0 w=true/\bE n toks LR b (l.drop 1)/\MP 33 [.own 0 0,.p (pS (bL w))] [aX LR a c] (.p (.tup [])) [aX LR b c])\/(aL l 0 w=false/\MP 33 [.own 0 0,.p (pS (bL w))] [aX LR a c] (.p (.pan lO)) [none]):=by
 have:=PH h (bL w) c
 exact Sp
theorem xd9(h:bE n toks LR a l)(w:Bs)(c:Cx):(∃b,aL l 0 w=true/\bE n toks LR b (l.drop 1)/\MP 37 [.own 0 0,.p (pS (bL w))] [aX LR a c] (.p (pB true)) [aX LR b c])\/(aL l 0 w=false/\MP 37 [.own 0 0,.p (pS (bL w))] [aX LR a c] (.p (pB false)) [aX LR a c]):=by
 have:=NY h (bL w) c
 exact Sp
theorem og(h:bE n toks LR a l)(k:Nat)(hk:k<=1000000)(w:Bs)(c:Cx):(aL l k w=true/\MP 31 [.own 0 0,.p (pI (k:Nat)),.p (pS (bL w))] [aX LR a c] (.p (pB true)) [aX LR a c])\/(aL l k w=false/\MP 31 [.own 0 0,.p (pI (k:Nat)),.p (pS (bL w))] [aX LR a c] (.p (pB false)) [aX LR a c]):=by
 have:=isO h k hk (bL w) c
 rw[CS]at this
 rcases this with⟨h1,h2⟩|⟨h1,h2⟩
 ·exact .inl ⟨h1,vQ h2⟩
 ·exact .inr ⟨h1,vQ h2⟩
theorem Q5(h:bE n toks LR a l)(c:Cx):(∃b,kd l 0=1/\bE n toks LR b (l.drop 1)/\MP 57 [.own 0 0] [aX LR a c] (.p (pS (bL (tx l 0)))) [aX LR b c])\/(¬kd l 0=1/\MP 57 [.own 0 0] [aX LR a c] (.p (.pan lO)) [none]):=by
 rcases PK h c with⟨h1,h2⟩|⟨h1,h2⟩
 ·exact .inl ⟨_,h1,h.drop 1 (kJ h1 aT) rfl,vQ h2⟩
 ·exact .inr ⟨h1,vQ h2⟩
theorem bE.next(h:bE n toks LR a l)(hl:0<l.length):∃b,bE n toks LR b (l.drop 1)/\a+1=b/\0<=a/\a<=1000000:=⟨a+1,h.drop 1 hl rfl,rfl,h.h0,by have:=h.h1;have:=h.z;omega⟩
end
theorem rP{α:Type}{x:α}{l:Ts}{o:Option (α×Ts)}(h:bR x l=some o):o=some (x,l):=by cases h;rfl
theorem yd{α:Type}{o:Option (α×Ts)}(h:(qY:Re α)=some o):o=none:=by cases h;rfl
theorem yj{E:SO}(hE:E=bK){a b:Int}(h0:0<=a)(h1:a<=1000000)(h:a+1=b):E.wadd .i64 a 1=b:=by rw[hE,<- h];exact jX oM oM
section
variable{n:Int}{toks:List Tk}{LR:List (List PV)}{a:Int}{l:Ts}{β:Type}{o:Option (β×Ts)}
theorem m6(h:bE n toks LR a l)(w:Bs)(c:Cx){K:Ts->Re β}(ho:eZ w l K=some o):
  (∃b,bE n toks LR b (l.drop 1)/\K (l.drop 1)=some o/\(l.drop 1).length<l.length/\aL l 0 w=true/\MP 33 [.own 0 0,.p (pS (bL w))] [aX LR a c] (.p (.tup [])) [aX LR b c])\/(o=none/\MP 33 [.own 0 0,.p (pS (bL w))] [aX LR a c] (.p (.pan lO)) [none]):=by
 unfold eZ at ho
 rcases Q6 h w c with⟨b,h1,h2,h3⟩|⟨h1,h2⟩
 ·rw[aF h1]at ho
  have:=nH h1
  exact .inl ⟨b,h2,ho,by grind,h1,h3⟩
 ·rw[aE aZ]at ho
  exact .inr ⟨yd ho,h2⟩
theorem GN(h:bE n toks LR a l)(c:Cx){K:Bs->Ts->Re β}(ho:pZ l K=some o):
  (∃b T,bE n toks LR b (l.drop 1)/\K (tx l 0) (l.drop 1)=some o/\(l.drop 1).length<l.length/\bL (tx l 0)=T/\MP 57 [.own 0 0] [aX LR a c] (.p (pS T)) [aX LR b c])\/(o=none/\MP 57 [.own 0 0] [aX LR a c] (.p (.pan lO)) [none]):=by
 unfold pZ at ho
 rcases Q5 h c with⟨b,h1,h2,h3⟩|⟨h1,h2⟩
 ·rw[aF h1]at ho
  have:=kJ h1 aT
  exact .inl ⟨b,_,h2,ho,by grind,rfl,h3⟩
 ·rw[aE h1]at ho;exact .inr ⟨yd ho,h2⟩
theorem xC(h:bE n toks LR a l)(w:Bs)(c:Cx){X Y:Re β}(ho:(if aL l 0 w then X else Y)=some o):
  (∃b,bE n toks LR b (l.drop 1)/\X=some o/\(l.drop 1).length<l.length/\aL l 0 w=true/\MP 37 [.own 0 0,.p (pS (bL w))] [aX LR a c] (.p (pB true)) [aX LR b c])\/(Y=some o/\aL l 0 w=false/\MP 37 [.own 0 0,.p (pS (bL w))] [aX LR a c] (.p (pB false)) [aX LR a c]):=by
 rcases xd9 h w c with⟨b,h1,h2,h3⟩|⟨h1,h2⟩
 ·rw[aF h1]at ho
  have:=nH h1
  exact .inl ⟨b,h2,ho,by grind,h1,h3⟩
 ·rw[aE aZ]at ho
  exact .inr ⟨ho,h1,h2⟩
theorem PR(h:bE n toks LR a l)(k:Nat)(hk:k<=1000000)(w:Bs)(c:Cx){X Y:Re β}(ho:(if aL l k w then X else Y)=some o):
  (X=some o/\aL l k w=true/\k<l.length/\MP 31 [.own 0 0,.p (pI (k:Nat)),.p (pS (bL w))] [aX LR a c] (.p (pB true)) [aX LR a c])\/(Y=some o/\aL l k w=false/\MP 31 [.own 0 0,.p (pI (k:Nat)),.p (pS (bL w))] [aX LR a c] (.p (pB false)) [aX LR a c]):=by
 rcases og h k hk w c with⟨h1,h2⟩|⟨h1,h2⟩
 ·rw[aF h1]at ho;exact .inl ⟨ho,h1,nH h1,h2⟩
 ·rw[aE aZ]at ho
  exact .inr ⟨ho,h1,h2⟩
theorem PS(h:bE n toks LR a l)(w v:Bs)(c:Cx){X Y:Re β}(ho:(if aL l 0 w||aL l 0 v then X else Y)=some o):
  (X=some o/\aL l 0 w=true/\MP 31 [.own 0 0,.p (pI ((0:Nat):Nat)),.p (pS (bL w))] [aX LR a c] (.p (pB true)) [aX LR a c])\/(X=some o/\aL l 0 w=false/\aL l 0 v=true/\MP 31 [.own 0 0,.p (pI ((0:Nat):Nat)),.p (pS (bL w))] [aX LR a c] (.p (pB false)) [aX LR a c]/\MP 31 [.own 0 0,.p (pI ((0:Nat):Nat)),.p (pS (bL v))] [aX LR a c] (.p (pB true)) [aX LR a c]) ∨
  (Y=some o/\aL l 0 w=false/\aL l 0 v=false/\MP 31 [.own 0 0,.p (pI ((0:Nat):Nat)),.p (pS (bL w))] [aX LR a c] (.p (pB false)) [aX LR a c]/\MP 31 [.own 0 0,.p (pI ((0:Nat):Nat)),.p (pS (bL v))] [aX LR a c] (.p (pB false)) [aX LR a c]):=by
 rcases og h 0 (aP _) w c with⟨h1,h2⟩|⟨h1,h2⟩
 ·rw[h1]at ho;exact .inl ⟨ho,h1,h2⟩
 ·rcases og h 0 (aP _) v c with⟨h3,h4⟩|⟨h3,h4⟩
  ·rw[h1,h3]at ho;exact .inr (.inl ⟨ho,h1,h3,h2,h4⟩)
  ·rw[h1,h3]at ho;exact .inr (.inr ⟨ho,h1,h3,h2,h4⟩)
theorem PG(h:bE n toks LR a l)(w:Bs)(c:Cx)(hs:aL l 0 w=true):∃b,bE n toks LR b (l.drop 1)/\MP 33 [.own 0 0,.p (pS (bL w))] [aX LR a c] (.p (.tup [])) [aX LR b c]:=by
 rcases Q6 h w c with⟨b,h1,h2,h3⟩|⟨h1,h2⟩
 ·exact⟨b,h2,h3⟩
 ·rw[hs]at h1;cases h1
theorem z7x(l:Ts)(k j:Nat)(w:Bs):aL (l.drop k) j w=aL l (k+j) w:=by
 unfold aL tx kd;rw[dI]
theorem Oz(l:Ts)(k j:Nat):kd (l.drop k) j=kd l (k+j):=by unfold kd;rw[dI]
theorem Pe(l:Ts)(k j:Nat):tx (l.drop k) j=tx l (k+j):=by unfold tx;rw[dI]
structure Hy(E:SO):Prop where
 pre:∀(k:Nat)(rs:List (List PV)),rs.length=k->E.pre 0 k rs
 s1:∀x:List PV,E.sub [x] 0 1=[x]
 s2:∀x y:List PV,E.sub [x,y] 0 2=[x,y]
 s3:∀x y z:List PV,E.sub [x,y,z] 0 3=[x,y,z]
 a2:∀x y:List PV,E.app [x] 1 [y]=[x,y]
 a3:∀x y z:List PV,E.app [x,y] 2 [z]=[x,y,z]
 n2:E.addN 1 1=2
 n3:E.addN 2 1=3
 room:∀k m b:Nat,k+m<=100000->b<=1000->E.room k m b
theorem gX{E:SO}(hE:E=bK):Hy E:=by
 subst hE;exact⟨fun k rs h=>by show 0+k<=rs.length;omega,fun _=>rfl,fun _ _=>rfl,fun _ _ _=>rfl,fun _ _=>rfl,fun _ _ _=>rfl,rfl,rfl,fun k m b h1 h2=>⟨by unfold maxLen;omega,by
  have:(k+m)*b<=100000*1000:=Nat.mul_le_mul h1 h2
  omega⟩⟩
theorem jz{p:Prop} [Decidable p] {X Y:Re β} (ho:(if p then X else Y)=some o):(p/\X=some o)\/(¬p/\Y=some o):=by
 grind
theorem El{p:Bool}{X Y:Re β}(ho:(if p then X else Y)=some o):(X=some o/\p=true)\/(Y=some o/\p=false):=by
 grind
variable{s:Sy}
theorem yE(hG:iD n toks LR s){f:FuncId}(hf:s.fid=some f)(pH:s.shape=.nd)(hx:s.lax=false){L:Ts}(hl:s.l=L){c:Cx}(ck:s.c=c){az:List AV}(i8:s.args=az)(h:bE n toks LR a L){K:PT->Ts->Re β}(ho:ndR (ev s) K=some o):
  (∃x l' b k i q nm KK,bE n toks LR b l'/\K x l'=some o/\l'.length<L.length/\iX x k i q nm KK/\MP f (.own 0 0::az) [aX LR a c] (.p (.agg [pI k,pS nm,pI i,pI q,KK])) [aX LR b c])\/(o=none/\MP f (.own 0 0::az) [aX LR a c] (.p (.pan lO)) [none]):=by
 subst hl ck i8
 rcases hG.nd hf pH h with⟨h1,h2⟩|⟨x,l',b,k,i,q,nm,KK,h1,h2,h3,h4,h5⟩
 ·unfold ndR bnd at ho;rw[h1]at ho;simp only[bV]at ho;exact .inr ⟨ho.symm,h2⟩
 ·unfold ndR bnd at ho;rw[h1]at ho;exact .inl ⟨x,l',b,k,i,q,nm,KK,h2,ho,h4 hx,h3,h5⟩
theorem G3(hG:iD n toks LR s){f:FuncId}(hf:s.fid=some f)(pH:s.shape=.nb)(hx:s.lax=false){L:Ts}(hl:s.l=L){c:Cx}(ck:s.c=c){az:List AV}(i8:s.args=az)(h:bE n toks LR a L){K:PT->Bool->Ts->Re β}(ho:nbR (ev s) K=some o):
  (∃x p l' b k i q nm KK,bE n toks LR b l'/\K x p l'=some o/\(l'.length<=L.length/\(p=true->l'.length<L.length))/\iX x k i q nm KK/\MP f (.own 0 0::az) [aX LR a c] (.p (.tup [.agg [pI k,pS nm,pI i,pI q,KK],pB p])) [aX LR b c])\/(o=none/\MP f (.own 0 0::az) [aX LR a c] (.p (.pan lO)) [none]):=by
 subst hl ck i8
 rcases hG.nb hf pH h with⟨h1,h2⟩|⟨x,p,l',b,k,i,q,nm,KK,h1,h2,h3,h4,h5⟩
 ·unfold nbR bnd at ho;rw[h1]at ho;simp only[bV]at ho;exact .inr ⟨ho.symm,h2⟩
 ·unfold nbR bnd at ho;rw[h1]at ho;exact .inl ⟨x,p,l',b,k,i,q,nm,KK,h2,ho,⟨h4.1,h4.2 hx⟩,h3,h5⟩
theorem Qt(hG:iD n toks LR s){f:FuncId}(hf:s.fid=some f)(pH:s.shape=.ls)(hx:s.lax=false){L:Ts}(hl:s.l=L){c:Cx}(ck:s.c=c){az:List AV}(i8:s.args=az)(h:bE n toks LR a L){K:List PT->Ts->Re β}(ho:lsR (ev s) K=some o):
  (∃ks l' b,bE n toks LR b l'/\K ks l'=some o/\l'.length<L.length/\MP f (.own 0 0::az) [aX LR a c] (.p (mS ks)) [aX LR b c])\/(o=none/\MP f (.own 0 0::az) [aX LR a c] (.p (.pan lO)) [none]):=by
 subst hl ck i8
 rcases hG.ls hf pH h with⟨h1,h2⟩|⟨x,l',b,h1,h2,h4,h5⟩
 ·unfold lsR bnd at ho;rw[h1]at ho;simp only[bV]at ho;exact .inr ⟨ho.symm,h2⟩
 ·unfold lsR bnd at ho;rw[h1]at ho;exact .inl ⟨x,l',b,h2,ho,h4 hx,h5⟩
theorem YO{o:Option (Rv×Ts)}(hG:iD n toks LR s){f:FuncId}(hf:s.fid=some f)(pH:s.shape=.nd){L:Ts}(hl:s.l=L){c:Cx}(ck:s.c=c){az:List AV}(i8:s.args=az)(h:bE n toks LR a L)(ho:ev s=some o):
  (∃x l' b k i q nm KK,bE n toks LR b l'/\o=some (.nd x,l')/\iX x k i q nm KK/\MP f (.own 0 0::az) [aX LR a c] (.p (.agg [pI k,pS nm,pI i,pI q,KK])) [aX LR b c])\/(o=none/\MP f (.own 0 0::az) [aX LR a c] (.p (.pan lO)) [none]):=by
 subst hl ck i8
 rcases hG.nd hf pH h with⟨h1,h2⟩|⟨x,l',b,k,i,q,nm,KK,h1,h2,h3,h4,h5⟩
 ·rw[h1]at ho;exact .inr ⟨(bA ho).symm,h2⟩
 ·rw[h1]at ho;exact .inl ⟨x,l',b,k,i,q,nm,KK,h2,(bA ho).symm,h3,h5⟩
end
def j4(l:List ByteArray):List (List PV):=l.map fun s=>[pS s]
def DJ:List ByteArray:=zQ.map bL
theorem zpf:V0 112 [] (.ro 1 (j4 DJ)):=by
 refine dE aN dO mixed (fun _=>0) Tryz.func112 rfl kR kR rfl fun P G E hc hE=>?_
 have p1:E.pre 0 30 (j4 DJ):=by rw[hE];exact nR 30
 have t3:E.sub (j4 DJ) 0 30=j4 DJ:=fS
 exact A5
theorem zq2(k:Nat)(h1:1<=k)(h2:k<=29){w:Bs}(hw:zQ[k]?=some w):V0 92 [pI (k:Nat)] (pS (bL w)):=by
 have ho:=zpf;obtain⟨z,hz⟩:∃z:Int,((k:Nat):Int)=z:=⟨_,rfl⟩
 rw[hz];obtain⟨T,hT⟩:∃T,bL w=T:=⟨_,rfl⟩
 rw[hT];obtain⟨R,hR⟩:∃R,j4 DJ=R:=⟨_,rfl⟩
 rw[hR]at ho;refine dE aN dO mixed (fun _=>0) Tryz.func92 rfl kR kR rfl fun P G E hc hE=>?_
 replace ho:=hc _ _ _ ho;have d1:E.lti z 1=false:=sS
 have d2:E.lti 29 z=false:=sS
 have p0:E.ple 0 z:=by rw[hE];show 0<=z;omega
 have g1:R[E.nat z]?=some [pS T]:=by
  rw[hE,<- hR,<- hT];show(j4 DJ)[z.toNat]?=_;rw[show z.toNat=k by omega]
  unfold j4 DJ;rw[Bb,aH,hw];rfl
 clear hE hc hz hT hR hw h1 h2;cbv
 repeat (first|(simp only[d1];cbv)|(simp only[d2];cbv)|(refine⟨_,ho,?_⟩;cbv)|(refine⟨p0,_,g1,?_⟩;cbv))
 all_goals trivial
theorem M4{s:Bs}{fr cnt m:Nat}(hm:m<cnt)(he:zQ[fr+m]?=some s)(hn:∀j,j<m->zQ[fr+j]?≠some s):gN s fr cnt=((fr+m:Nat):Int):=by
 unfold gN
 have:(List.range cnt).find? (fun j=>decide (zQ[fr+j]?=some s))=some m:=by
  simp_all
 rw[this]
theorem M3{s:Bs}{fr cnt:Nat}(hn:∀j,j<cnt->zQ[fr+j]?≠some s):gN s fr cnt=0:=by
 unfold gN
 grind
theorem yg{a b:Bs}(h:bL a=bL b):a=b:=by have:=aG (fun x=>x.data.toList) h;simpa [bL]using this
theorem C2(s:Bs)(fr cnt:Nat):0<=gN s fr cnt/\gN s fr cnt<=((fr+cnt:Nat):Int):=by
 unfold gN
 grind
theorem z8f(s:Bs)(fr cnt:Nat)(h1:1<=fr)(h2:fr+cnt<=30)(z1 z2:Int)(e1:((fr:Nat):Int)=z1)(e2:z1+((cnt:Nat):Int)=z2+1):V0 53 [pS (bL s),pI z1,pI z2] (pI (gN s fr cnt)):=by
 have nT:=fun(k:Nat)(h1:1<=k)(h2:k<=29)(w:Bs)(hw:zQ[k]?=some w)=>zq2 k h1 h2 hw
 obtain⟨v,hv⟩:∃v,gN s fr cnt=v:=⟨_,rfl⟩
 rw[hv];obtain⟨T,hT⟩:∃T,bL s=T:=⟨_,rfl⟩
 rw[hT];obtain⟨μ,hμ⟩:∃μ:Int->Nat,∀x,μ x=(z2+1-x).toNat:=⟨_,fun _=>rfl⟩
 refine dE aN dO mixed (fun _=>0) Tryz.func53 rfl kR kR rfl fun P G E hc hE=>?_
 have oJ:=hc;clear hc;cbv;refine gU 19 [0,1,2,7] 0 (fun i:Int=>[.p (pS T),.p (pI z1),.p (pI z2),.p (pI i)]) (fun _=>[]) (fun i=>∃m:Nat,z1+((m:Nat):Int)=i/\m<=cnt/\∀j,j<m->zQ[fr+j]?≠some s) μ z1 r5 ⟨0,by omega,aP _,fun j hj=>by omega⟩ ?_
 rintro i ⟨m,hm,AK,hn⟩
 replace hm:z1+((m:Nat):Int)=i:=hm;replace AK:m<=cnt:=AK;replace e1:((fr:Nat):Int)=z1:=e1;replace e2:z1+((cnt:Nat):Int)=z2+1:=e2;have t1:((fr:Nat):Int)+((m:Nat):Int)=i:=by rw[e1];exact hm
 have t2:i+((cnt:Nat):Int)=z2+1+((m:Nat):Int):=dU
 clear e1 e2
 rcases bB m cnt with cJ|qJ
 ·have d1:E.lei i z2=true:=sF
  have hlen:zQ.length=30:=rfl;obtain⟨w,hw⟩:∃w,zQ[fr+m]?=some w:=⟨_,aB oM⟩
  have ho:V0 92 [pI ((fr+m:Nat):Int)] (pS (bL w)):=nT (fr+m) oM oM w hw
  rw[show((fr+m:Nat):Int)=i by omega]at ho
  obtain⟨TW,GD⟩:∃x,bL w=x:=⟨_,rfl⟩
  rw[GD]at ho;replace ho:=oJ _ _ _ ho;obtain⟨i2,mX⟩:∃x:Int,i+1=x:=⟨_,rfl⟩
  have ea:E.wadd .i64 i 1=i2:=EH
  rcases dP (w=s)with he|he
  ·have q1:E.eq TW T=true:=by rw[hE,<- GD,<- hT,he];exact aA rfl
   have rQ:=M4 cJ (by rw[hw,he]) hn
   rw[hv,show((fr+m:Nat):Int)=i by omega]at rQ
   subst rQ;clear hE nT oJ;cbv
   repeat (first|(simp only[d1];cbv)|(refine⟨_,ho,?_⟩;cbv)|(simp only[q1];cbv))
   all_goals trivial
  ·have q1:E.eq TW T=false:=by rw[hE,<- GD,<- hT];exact dF fun e=>he (yg e)
   have hI:∃m:Nat,z1+((m:Nat):Int)=i2/\m<=cnt/\∀j,j<m->zQ[fr+j]?≠some s:=⟨m+1,by omega,cJ,fun j hj=>by
    grind⟩
   have oU:μ i2<μ i:=pb
   clear hE nT oJ hμ hn hw hlen;cbv;refine mT ?_;exact .mk i2 r5 hI oU
 ·have d1:E.lei i z2=false:=sS
  have rQ:=M3 (s:=s) (fr:=fr) (cnt:=cnt) fun j hj=>hn j oM
  rw[hv]at rQ;subst rQ;clear hE nT;cbv;simp only[d1];exact j7
theorem Y0(x:PT){k i q:Int}{nm:ByteArray}{KK:PV}(h:iX x k i q nm KK):V0 54 [.agg [pI k,pS nm,pI i,pI q,KK]] (pB (mb x)):=by
 unfold mb;rw[h.kind];have o1:=h.one;obtain⟨v,hv⟩:∃v,(decide (k=7)||(decide (k=18)||decide (k=19)))=v:=⟨_,rfl⟩
 rw[hv];refine dE aN dO mixed (fun _=>0) Tryz.func54 rfl kR kR rfl fun P G E hc hE=>?_
 clear hc hE h;cbv at o1
 rcases dP (k=7)with h1|h1
 ·have d1:decide (k=7)=true:=aA h1;rw[d1,dK]at hv;subst hv;cbv
  repeat (first|(simp only[o1];cbv)|(simp only[d1];cbv))
  all_goals trivial
 ·have d1:decide (k=7)=false:=dF h1;rw[d1,bI]at hv
  rcases dP (k=18)with h2|h2
  ·have d2:decide (k=18)=true:=aA h2;rw[d2,dK]at hv;subst hv;exact S4
  ·have d2:decide (k=18)=false:=dF h2;rw[d2,bI]at hv;subst hv;obtain⟨d3,h3⟩:∃d3,decide (k=19)=d3:=⟨_,rfl⟩
   exact S4
theorem Mg(o:Int):V0 59 [pI o] (.agg [pB (nV o).fn,pB (nV o).lp,pB (nV o).gn,pB (nV o).as_]):=by
 unfold nV;obtain⟨v,hv⟩:∃v,(decide (o=4)||decide (o=5))=v:=⟨_,rfl⟩
 refine dE aN dO mixed (fun _=>0) Tryz.func59 rfl kR kR rfl fun P G E hc hE=>?_
 clear hc hE
 rcases dP (o=4)with h2|h2
 ·have d2:decide (o=4)=true:=aA h2;rw[d2,dK]at hv;subst hv;obtain⟨d3,h3⟩:∃d3,decide (o=3)=d3:=⟨_,rfl⟩
  cbv;simp only[d2];exact j7
 ·have d2:decide (o=4)=false:=dF h2;rw[d2,bI]at hv;obtain⟨d3,h3⟩:∃d3,decide (o=3)=d3:=⟨_,rfl⟩
  subst hv;obtain⟨d5,h5⟩:∃d5,decide (o=5)=d5:=⟨_,rfl⟩
  cbv;simp only[d2];exact j7
section
variable{n:Int}{toks:List Tk}{LR:List (List PV)}{a:Int}{l:Ts}
theorem Ww(h:bE n toks LR a l)(c:Cx):MP 34 [.own 0 0] [aX LR a c] (.p (pB (tJ l))) [aX LR a c]:=by
 obtain⟨q,hq⟩:∃q,tJ l=q:=⟨_,rfl⟩
 rw[hq];unfold tJ at hq;refine gS aN (f:=34) Tryz.func34 rfl kR (oT kR) fun tags bS=>?_
 match tags,bS with
 |[t0],_=>
  refine aY.of aN mixed (fun _=>0) kR (fun E=>eU E cK Tryz.f34.results.toList [t0] (.p (pB q)) [aX LR a c]) fun P G E hc hM hE=>?_
  clear hc hE;cbv;refine oE (og h 0 (aP _) bi c) (fun k1=>?_) (fun k1=>?_)
  case' refine_1=>
   refine .z [0] (hM _ _ _ _ _ k1.2) rfl rfl rfl ?_;rw[k1.1,dK]at hq;subst hq;cbv;all_goals trivial
  refine .z [0] (hM _ _ _ _ _ k1.2) rfl rfl rfl ?_;rw[k1.1,bI]at hq;cbv;refine oE (og h 0 (aP _) qC c) (fun k1=>?_) (fun k1=>?_)
  case' refine_1=>
   refine .z [0] (hM _ _ _ _ _ k1.2) rfl rfl rfl ?_;rw[k1.1,dK]at hq;subst hq;cbv;all_goals trivial
  refine .z [0] (hM _ _ _ _ _ k1.2) rfl rfl rfl ?_;rw[k1.1,bI]at hq;cbv;refine oE (og h 0 (aP _) vA c) (fun k1=>?_) (fun k1=>?_)
  case' refine_1=>
   refine .z [0] (hM _ _ _ _ _ k1.2) rfl rfl rfl ?_;rw[k1.1,dK]at hq;subst hq;cbv;all_goals trivial
  refine .z [0] (hM _ _ _ _ _ k1.2) rfl rfl rfl ?_;rw[k1.1,bI]at hq;cbv;refine oE (og h 0 (aP _) iW c) (fun k1=>?_) (fun k1=>?_)
  case' refine_2=>
   refine .z [0] (hM _ _ _ _ _ k1.2) rfl rfl rfl ?_;rw[k1.1,cD]at hq;subst hq;cbv;all_goals trivial
  refine .z [0] (hM _ _ _ _ _ k1.2) rfl rfl rfl ?_;rw[k1.1,bP]at hq;cbv;refine oE (og h 1 aT vA c) (fun k1=>?_) (fun k1=>?_)
  case' refine_1=>
   refine .z [0] (hM _ _ _ _ _ k1.2) rfl rfl rfl ?_;rw[k1.1]at hq;subst hq;cbv;all_goals trivial
  refine .z [0] (hM _ _ _ _ _ k1.2) rfl rfl rfl ?_;rw[k1.1]at hq;subst hq;cbv;all_goals trivial
theorem YH(h:bE n toks LR a l)(k:Nat)(hk:k<=1000000)(c:Cx):∃K T z,kd l k=K/\bL (tx l k)=T/\MP 30 [.own 0 0,.p (pI (k:Nat))] [aX LR a c] (.p (.agg [pI K,pS T,pI z])) [aX LR a c]:=by
 obtain⟨z,hz⟩:=VK h k hk c;exact⟨_,_,z,rfl,rfl,vQ hz⟩
theorem MW(s:Bs){T:ByteArray}(hT:bL s=T)(fr cnt:Nat)(h1:1<=fr)(h2:fr+cnt<=30)(z1 z2:Int)(e1:((fr:Nat):Int)=z1)(e2:z1+((cnt:Nat):Int)=z2+1):∃F,gN s fr cnt=F/\RL 53 [pS T,pI z1,pI z2] (pI F):=
 ⟨_,rfl,hT ▸ sD (z8f s fr cnt h1 h2 z1 z2 e1 e2)⟩
theorem PE{β:Type}{o:Option (β×Ts)}{p q:Prop} [Decidable p] [Decidable q] {X Y:Re β} (ho:(if decide p||decide q then X else Y)=some o):(X=some o/\p)\/(X=some o/\¬p/\q)\/(Y=some o/\¬p/\¬q):=by
 grind
theorem Ft{β:Type}{o:Option (β×Ts)}{p q:Prop} [Decidable p] [Decidable q] {X Y:Re β} (ho:(if p\/q then X else Y)=some o):(X=some o/\p)\/(X=some o/\¬p/\q)\/(Y=some o/\¬p/\¬q):=by
 grind
theorem QW{β:Type}{o:Option (β×Ts)}{p q r:Prop} [Decidable p] [Decidable q] [Decidable r] {X Y:Re β} (ho:(if p/\¬q/\¬r then X else Y)=some o):(Y=some o/\¬p)\/(Y=some o/\p/\q)\/(Y=some o/\p/\¬q/\r)\/(X=some o/\p/\¬q/\¬r):=by
 grind
theorem NP(h:bE n toks LR a l)(k:Nat)(hk:k<=1000000)(w:Bs)(c:Cx)(hs:aL l k w=true):MP 31 [.own 0 0,.p (pI (k:Nat)),.p (pS (bL w))] [aX LR a c] (.p (pB true)) [aX LR a c]:=by
 rcases og h k hk w c with⟨_,h2⟩|⟨h1,_⟩
 ·exact h2
 ·rw[hs]at h1;cases h1
theorem NS(h:bE n toks LR a l)(k:Nat)(hk:k<=1000000)(w:Bs)(c:Cx)(hs:aL l k w=false):MP 31 [.own 0 0,.p (pI (k:Nat)),.p (pS (bL w))] [aX LR a c] (.p (pB false)) [aX LR a c]:=by
 rcases og h k hk w c with⟨h1,_⟩|⟨_,h2⟩
 ·rw[hs]at h1;cases h1
 ·exact h2
theorem Nv{l:Ts}{k:Nat}{w v:Bs}(h:aL l k w=true)(hv:w≠v):aL l k v=false:=by
 unfold aL at h ⊢
 grind
theorem QI{β:Type}{o:Option (β×Ts)}(h:bE n toks LR a l)(c:Cx){X Y:Re β}(ho:(if tJ l then X else Y)=some o):
  (X=some o/\tJ l=true/\MP 34 [.own 0 0] [aX LR a c] (.p (pB true)) [aX LR a c])\/(Y=some o/\tJ l=false/\MP 34 [.own 0 0] [aX LR a c] (.p (pB false)) [aX LR a c]):=by
 have hd:=Ww h c
 cases hb:tJ l with
 |true=>rw[hb]at hd ho;exact .inl ⟨ho,rfl,hd⟩
 |false=>rw[hb]at hd ho;exact .inr ⟨ho,rfl,hd⟩
end
theorem CI{acc:List PT}{x:PT}{R R2:List (List PV)}{row:List PV}(h:eO acc=R)(hx:gM x=row)(h2:R++[row]=R2):mS (acc++[x])=.ro 5 R2:=by
 subst h hx h2;rw[<-show eO (acc++[x])=eO acc++[gM x] by rw[o9,eO,eO]]
 cases acc with
 |nil=>simp only[sR,mS,eO]
 |cons y ys=>simp only[pD,mS,eO]
structure EN(E:SO)(R:List (List PV))(N:Nat)(row:List PV)(R2:List (List PV))(N2:Nat):Prop where
 pre:E.pre 0 N R
 room:E.room N 1 64
 add:E.addN N 1=N2
 app:E.app R N [row]=R2
 pre2:E.pre 0 N2 R2
 sub:E.sub R2 0 N2=R2
 p1:E.pre 0 1 [row]
 s1:E.sub [row] 0 1=[row]
theorem ig{E:SO}(hE:E=bK){R:List (List PV)}{N:Nat}{row:List PV}{R2:List (List PV)}{N2:Nat}(hN:R.length=N)(hz:N<=2000000)(h2:R++[row]=R2)(fT:N+1=N2):EN E R N row R2 N2:=by
 subst hE h2 fT hN;refine⟨by show 0+R.length<=R.length;omega,⟨by unfold maxLen;omega,by omega⟩,rfl,?_,?_,?_,nR 1,rfl⟩
 ·show R.take R.length++[row]=_;rw[l7]
 ·show 0+(R.length+1)<=(R++[row]).length;grind
 ·show((R++[row]).drop 0).take (R.length+1)=_;grind
section
variable{n:Int}{toks:List Tk}{LR:List (List PV)}{l:Ts}
theorem Xb{c:Cx}{e:Bs}(ih:∀s':Sy,s'.meas<(Sy.list2 e c l).meas->iD n toks LR s'):iD n toks LR (.list2 e c l):=by
 intro f hf a h o ho
 cases hf
 rw[qA]at ho;change s9 ev e c l=some o at ho;unfold s9 at ho;change bE n toks LR a l at h;show MP _ (.own 0 0::[.p (pS (bL e))]) [aX LR a c] (iL o) (iE toks LR c o);obtain⟨μ,hμ⟩:∃μ:Int×Ts×List PT×List (List PV)×Nat->Nat,∀x,μ x=x.2.1.length:=⟨_,fun _=>rfl⟩
 have hz:=h.z;have ca:l.length<=1000000:=EF
 refine gS aN (f:=154) Tryz.func154 rfl kR (oT kR) fun tags bS=>?_
 match tags,bS with
 |[t0],_=>
  refine aY.ofM aN mixed (fun _=>0) (fun _=>[]) (fun _ _=>0) kR (fun E=>eU E cK Tryz.f154.results.toList [t0] (iL o) (iE toks LR c o)) fun P G E hc hM hE=>?_
  cbv;refine oE (xC h e c ho) (fun k1=>xE k1 fun bk1 k1=>?_) (fun k1=>?_)
  case' refine_1=>
   refine .z [0] (hM _ _ _ _ _ (k1.2.2.2.2)) rfl rfl rfl ?_;cbv;have e0:=rP (k1.2.1);subst e0;simp only[k1.1.place,mS];all_goals trivial
  refine .z [0] (hM _ _ _ _ _ (k1.2.2)) rfl rfl rfl ?_;cbv;refine iO.wk (BZ (d:=5) 5 25 rfl) ?_;refine gU 20 [0,1,5] 2 (fun x:Int×Ts×List PT×List (List PV)×Nat=>[.own 0 0,.p (pS (bL e)),.osl 1 0 x.2.2.2.2]) (fun x=>[some (.box [.p (.ro 3 LR),.p (pI x.1),.p (pB c.fn),.p (pB c.lp),.p (pB c.gn),.p (pB c.as_)] 39 (some t0)),some (.rows 5 x.2.2.2.1 25)])
   (fun x=>bE n toks LR x.1 x.2.1/\ev (.list2L e x.2.2.1 c x.2.1)=some o/\x.2.2.2.2+x.2.1.length<=l.length/\eO x.2.2.1=x.2.2.2.1/\x.2.2.2.1.length=x.2.2.2.2) μ (a,l,[],[],0) r5 ⟨h,k1.1,by simp,by rw[eO],rfl⟩ ?_
  rintro⟨a1,l1,acc,R,N⟩ ⟨g1,g2,g3,g4,g5⟩
  simp only at g1 g2 g3 g4 g5;rw[qA]at g2;replace g2:sj ev e acc c l1=some o:=g2;unfold sj at g2;cbv;refine oE (yE (L:=l1) (c:=c) (ih (.assign c l1) xJ) rfl rfl rfl rfl rfl rfl g1 g2) (fun k2=>xE k2 fun xk2 k2=>xE k2 fun lk2 k2=>xE k2 fun bk2 k2=>xE k2 fun q1k2 k2=>xE k2 fun q2k2 k2=>xE k2 fun q3k2 k2=>xE k2 fun q4k2 k2=>xE k2 fun q5k2 k2=>?_) (fun k2=>?_)
  case' refine_2=>
   refine .z [0] (hM _ _ _ _ _ (k2.2)) rfl rfl rfl ?_;cbv;have e0:=k2.1;subst e0;all_goals trivial
  refine .z [0] (hM _ _ _ _ _ (k2.2.2.2.2)) rfl rfl rfl ?_;have ok2:=k2.2.2.2.1.one;cbv at ok2;refine xE (⟨_,rfl⟩:∃R2,R++[[pI q1k2,pS q4k2,pI q2k2,pI q3k2,q5k2]]=R2) fun R2 cS=>?_
  refine xE (⟨_,rfl⟩:∃N2,N+1=N2) fun N2 fT=>?_
  have fA:=ig hE g5 oM cS fT
  have fA1:=fA.pre;have fA2:=fA.room;have fA3:=fA.add;have fA4:=fA.app;have fA5:=fA.pre2;have fA6:=fA.sub;have fA7:=fA.p1;have fA8:=fA.s1;cbv;refine mT ?_;refine oE (xC k2.1 e c k2.2.1) (fun k3=>xE k3 fun bk3 k3=>?_) (fun k3=>?_)
  case' refine_1=>
   refine .z [0] (hM _ _ _ _ _ (k3.2.2.2.2)) rfl rfl rfl ?_;cbv;have e0:=rP (k3.2.1);subst e0;have hK:=CI g4 k2.2.2.2.1.row cS;simp only[k3.1.place,hK];cbv
   repeat (first|(refine⟨fA5,?_⟩;cbv)|(simp only[fA6];cbv))
   all_goals trivial
  refine .z [0] (hM _ _ _ _ _ (k3.2.2)) rfl rfl rfl ?_;cbv;refine oE (m6 k2.1 rY c k3.1) (fun k4=>xE k4 fun bk4 k4=>?_) (fun k4=>?_)
  case' refine_2=>
   refine .z [0] (hM _ _ _ _ _ (k4.2)) rfl rfl rfl ?_;cbv;have e0:=k4.1;subst e0;all_goals trivial
  refine .z [0] (hM _ _ _ _ _ (k4.2.2.2.2)) rfl rfl rfl ?_;cbv;exact .mk (bk4,List.drop 1 lk2,acc++[xk2],R2,N2) r5 ⟨k4.1,k4.2.1,by grind,by rw[o9,g4,eO,eO,k2.2.2.2.1.row];exact cS,by grind⟩ aZ
theorem Yn{c:Cx}(ih:∀s':Sy,s'.meas<(Sy.fields c l).meas->iD n toks LR s'):iD n toks LR (.fields c l):=by
 intro f hf a h o ho
 cases hf
 rw[qA]at ho;change yy ev c l=some o at ho;unfold yy at ho;change bE n toks LR a l at h;show MP _ (.own 0 0::[]) [aX LR a c] (iL o) (iE toks LR c o);obtain⟨μ,hμ⟩:∃μ:Int×Ts×List PT×List (List PV)×Nat->Nat,∀x,μ x=x.2.1.length:=⟨_,fun _=>rfl⟩
 have hz:=h.z;have ca:l.length<=1000000:=EF
 refine gS aN (f:=166) Tryz.func166 rfl kR (oT kR) fun tags bS=>?_
 match tags,bS with
 |[t0],_=>
  refine aY.ofM aN mixed (fun _=>0) (fun _=>[]) (fun _ _=>0) kR (fun E=>eU E cK Tryz.f166.results.toList [t0] (iL o) (iE toks LR c o)) fun P G E hc hM hE=>?_
  cbv;refine oE (xC h uC c ho) (fun k1=>xE k1 fun bk1 k1=>?_) (fun k1=>?_)
  case' refine_1=>
   refine .z [0] (hM _ _ _ _ _ (k1.2.2.2.2)) rfl rfl rfl ?_;cbv;have e0:=rP (k1.2.1);subst e0;simp only[k1.1.place,mS];all_goals trivial
  refine .z [0] (hM _ _ _ _ _ (k1.2.2)) rfl rfl rfl ?_;cbv;refine iO.wk (BZ (d:=3) 5 25 rfl) ?_;refine gU 16 [0,3] 2 (fun x:Int×Ts×List PT×List (List PV)×Nat=>[.own 0 0,.osl 1 0 x.2.2.2.2]) (fun x=>[some (.box [.p (.ro 3 LR),.p (pI x.1),.p (pB c.fn),.p (pB c.lp),.p (pB c.gn),.p (pB c.as_)] 39 (some t0)),some (.rows 5 x.2.2.2.1 25)])
   (fun x=>bE n toks LR x.1 x.2.1/\ev (.fieldsL x.2.2.1 c x.2.1)=some o/\x.2.2.2.2+x.2.1.length<=l.length/\eO x.2.2.1=x.2.2.2.1/\x.2.2.2.1.length=x.2.2.2.2) μ (a,l,[],[],0) r5 ⟨h,k1.1,by simp,by rw[eO],rfl⟩ ?_
  rintro⟨a1,l1,acc,R,N⟩ ⟨g1,g2,g3,g4,g5⟩
  simp only at g1 g2 g3 g4 g5;rw[qA]at g2;replace g2:ze ev acc c l1=some o:=g2;unfold ze at g2;cbv;refine oE (yE (L:=l1) (c:=c) (ih (.field c l1) xJ) rfl rfl rfl rfl rfl rfl g1 g2) (fun k2=>xE k2 fun xk2 k2=>xE k2 fun lk2 k2=>xE k2 fun bk2 k2=>xE k2 fun q1k2 k2=>xE k2 fun q2k2 k2=>xE k2 fun q3k2 k2=>xE k2 fun q4k2 k2=>xE k2 fun q5k2 k2=>?_) (fun k2=>?_)
  case' refine_2=>
   refine .z [0] (hM _ _ _ _ _ (k2.2)) rfl rfl rfl ?_;cbv;have e0:=k2.1;subst e0;all_goals trivial
  refine .z [0] (hM _ _ _ _ _ (k2.2.2.2.2)) rfl rfl rfl ?_;have ok2:=k2.2.2.2.1.one;cbv at ok2;refine xE (⟨_,rfl⟩:∃R2,R++[[pI q1k2,pS q4k2,pI q2k2,pI q3k2,q5k2]]=R2) fun R2 cS=>?_
  refine xE (⟨_,rfl⟩:∃N2,N+1=N2) fun N2 fT=>?_
  have fA:=ig hE g5 oM cS fT
  have fA1:=fA.pre;have fA2:=fA.room;have fA3:=fA.add;have fA4:=fA.app;have fA5:=fA.pre2;have fA6:=fA.sub;have fA7:=fA.p1;have fA8:=fA.s1;cbv;refine mT ?_;refine oE (xC k2.1 uC c k2.2.1) (fun k3=>xE k3 fun bk3 k3=>?_) (fun k3=>?_)
  case' refine_1=>
   refine .z [0] (hM _ _ _ _ _ (k3.2.2.2.2)) rfl rfl rfl ?_;cbv;have e0:=rP (k3.2.1);subst e0;have hK:=CI g4 k2.2.2.2.1.row cS;simp only[k3.1.place,hK];cbv
   repeat (first|(refine⟨fA5,?_⟩;cbv)|(simp only[fA6];cbv))
   all_goals trivial
  refine .z [0] (hM _ _ _ _ _ (k3.2.2)) rfl rfl rfl ?_;cbv;refine oE (m6 k2.1 rY c k3.1) (fun k4=>xE k4 fun bk4 k4=>?_) (fun k4=>?_)
  case' refine_2=>
   refine .z [0] (hM _ _ _ _ _ (k4.2)) rfl rfl rfl ?_;cbv;have e0:=k4.1;subst e0;all_goals trivial
  refine .z [0] (hM _ _ _ _ _ (k4.2.2.2.2)) rfl rfl rfl ?_;cbv;exact .mk (bk4,List.drop 1 lk2,acc++[xk2],R2,N2) r5 ⟨k4.1,k4.2.1,by grind,by rw[o9,g4,eO,eO,k2.2.2.2.1.row];exact cS,by grind⟩ aZ
end
section
variable{n:Int}{toks:List Tk}{LR:List (List PV)}{a:Int}{l:Ts}
theorem zn(h:bE n toks LR a l)(k:Nat)(z:Int)(hz:((k:Nat):Int)=z)(hk:k<=1000000)(w:Bs)(c:Cx):(aL l k w=true/\MP 31 [.own 0 0,.p (pI z),.p (pS (bL w))] [aX LR a c] (.p (pB true)) [aX LR a c])\/(aL l k w=false/\MP 31 [.own 0 0,.p (pI z),.p (pS (bL w))] [aX LR a c] (.p (pB false)) [aX LR a c]):=by
 subst hz;exact og h k hk w c
theorem Er(h:bE n toks LR a l)(k:Nat)(z:Int)(hz:((k:Nat):Int)=z)(hk:k<=1000000)(c:Cx):(∃T zz,kd l k=1/\MP 30 [.own 0 0,.p (pI z)] [aX LR a c] (.p (.agg [pI 1,pS T,pI zz])) [aX LR a c])\/∃K T zz,¬kd l k=1/\decide (K=1)=false/\MP 30 [.own 0 0,.p (pI z)] [aX LR a c] (.p (.agg [pI K,pS T,pI zz])) [aX LR a c]:=by
 subst hz;obtain⟨zz,hm⟩:=VK h k hk c
 by_cases h1:kd l k=1
 ·rw[h1]at hm;exact .inl ⟨_,_,h1,vQ hm⟩
 ·exact .inr ⟨kd l k,_,_,h1,dF h1,vQ hm⟩
def Bf(l:Ts)(i:Nat):Nat:=
 if kd l i=1 then(if aL l (i+1) qX then i+1 else 0)
 else if aL l i jD then(match ve l (l.length+1) (i+1)with
  |some n=>if aL l n eG&&aL l (n+1) qX then n+1 else 0
  |none=>0)
 else 0
theorem Wc(l:Ts):oa l=Bf l (if aL l 0 iW then 1 else 0):=rfl
theorem NJ{E:SO}(hE:E=bK){k:Nat}{z z2:Int}(hz:((k:Nat):Int)=z)(hk:k<=1000002)(h2:z+1=z2):E.wadd .i64 z 1=z2:=by rw[hE,<- h2];exact jX oM oM
theorem z8r(h:bE n toks LR a l)(c:Cx):MP 50 [.own 0 0] [aX LR a c] (.p (pI ((oa l:Nat):Int))) [aX LR a c]:=by
 have ca:l.length<=1000000:=dm
 rw[Wc];obtain⟨i0,iF⟩:∃i0,(if aL l 0 iW then 1 else 0)=i0:=⟨_,rfl⟩
 rw[iF];have iI:i0<=1:=aZ
 obtain⟨Q,hQ⟩:∃Q:Int,((Bf l i0:Nat):Int)=Q:=⟨_,rfl⟩
 rw[hQ];obtain⟨μ,hμ⟩:∃μ:Int×Nat->Nat,∀x,μ x=l.length+3-x.2:=⟨_,fun _=>rfl⟩
 refine gS aN (f:=50) Tryz.func50 rfl kR (oT kR) fun tags bS=>?_
 match tags,bS with
 |[t0],_=>
  refine aY.cutK 3 52 [0,3] 1 (fun z:Int=>[.own 0 0,.p (pI z)]) (fun _=>[some (.box [.p (.ro 3 LR),.p (pI a),.p (pB c.fn),.p (pB c.lp),.p (pB c.gn),.p (pB c.as_)] 39 (some t0))]) (fun z=>((i0:Nat):Int)=z) aN mixed (fun _=>0) (fun E=>eU E cK Tryz.f50.results.toList [t0] (.p (pI Q)) [aX LR a c]) kR ?_ ?_
  ·intro P G E hc hM hE;clear hc hE;cbv;refine oE (zn h 0 0 rfl (aP _) iW c) (fun k1=>?_) (fun k1=>?_)
   case' refine_1=>
    refine .z [0] (hM _ _ _ _ _ k1.2) rfl rfl rfl ?_;rw[k1.1]at iF;subst iF;cbv;exact .mk 1 r5 rfl
   refine .z [0] (hM _ _ _ _ _ k1.2) rfl rfl rfl ?_;rw[k1.1]at iF;subst iF;cbv;exact .mk 0 r5 rfl
  intro z hz;replace hz:((i0:Nat):Int)=z:=hz;obtain⟨z2,dr⟩:∃z2:Int,z+1=z2:=⟨_,rfl⟩
  unfold Bf at hQ;refine aY.of aN mixed (fun _=>0) kR (fun E=>eU E cK Tryz.f50.results.toList [t0] (.p (pI Q)) [aX LR a c]) fun P G E hc hM hE=>?_
  have ea:=NJ hE hz oM dr
  have kpk:=Er h i0 z hz oM c
  have kis:=zn h (i0+1) z2 oM oM qX c
  have klp:=zn h i0 z hz oM jD c
  cbv;refine oE kpk (fun k1=>xE k1 fun T1 k1=>xE k1 fun zz1 k1=>?_) (fun k1=>xE k1 fun K1 k1=>xE k1 fun T1 k1=>xE k1 fun zz1 k1=>?_)
  case' refine_1=>
   rw[aF k1.1]at hQ;refine .z [0] (hM _ _ _ _ _ k1.2) rfl rfl rfl ?_;cbv;simp only[ea];cbv;refine oE kis (fun k2=>?_) (fun k2=>?_)
   case' refine_1=>
    rw[aF k2.1]at hQ;refine .z [0] (hM _ _ _ _ _ k2.2) rfl rfl rfl ?_;have hQ1:((i0+1:Nat):Int)=Q:=hQ;have uR:((i0:Nat):Int)=z:=hz;have AA:z+1=z2:=dr;have e0:z2=Q:=dU
    subst e0;cbv
    grind
   rw[aE aZ]at hQ
   refine .z [0] (hM _ _ _ _ _ k2.2) rfl rfl rfl ?_;subst hQ;cbv;all_goals trivial
  rw[aE k1.1]at hQ;refine .z [0] (hM _ _ _ _ _ k1.2.2) rfl rfl rfl ?_;have ek1:=k1.2.1;cbv;simp only[ek1];cbv;refine oE klp (fun k2=>?_) (fun k2=>?_)
  case' refine_2=>
   rw[aE aZ]at hQ
   refine .z [0] (hM _ _ _ _ _ k2.2) rfl rfl rfl ?_;subst hQ;cbv;all_goals trivial
  rw[aF k2.1]at hQ;have n5:=nH k2.1;refine .z [0] (hM _ _ _ _ _ k2.2) rfl rfl rfl ?_;cbv;simp only[ea];cbv;have uR:((i0:Nat):Int)=z:=hz;have AA:z+1=z2:=dr;refine gU 52 [0,3] 1 (fun x:Int×Nat=>[.own 0 0,.p (pI x.1)]) (fun _=>[some (.box [.p (.ro 3 LR),.p (pI a),.p (pB c.fn),.p (pB c.lp),.p (pB c.gn),.p (pB c.as_)] 39 (some t0))])
   (fun x=>((x.2:Nat):Int)=x.1/\x.2<=l.length/\∃m,l.length+1<=m+x.2/\(((match ve l m x.2 with
    |some n=>if aL l n eG&&aL l (n+1) qX then n+1 else 0
    |none=>0):Nat):Int)=Q) μ (z2,i0+1) r5 ⟨by omega,by omega,l.length+1,by omega,hQ⟩ ?_
  clear hQ
  rintro⟨z5,k⟩ ⟨g1,g2,m,g3,hQ⟩
  simp only at g1 g2 g3 hQ;obtain⟨m,rfl⟩:∃m',m=m'+1:=⟨m-1,by omega⟩
  rw[ve]at hQ;obtain⟨z6,hz6⟩:∃y:Int,z5+1=y:=⟨_,rfl⟩
  obtain⟨z7,hz7⟩:∃y:Int,z6+1=y:=⟨_,rfl⟩
  have e6:=NJ hE g1 oM hz6
  have g6:((k+1:Nat):Int)=z6:=dU
  have e7:=NJ hE g6 oM hz7
  have g7:((k+2:Nat):Int)=z7:=dU
  have kpk:=Er h k z5 g1 oM c
  have oU:=hμ;clear klp kis;cbv;refine oE kpk (fun k1=>xE k1 fun T1 k1=>xE k1 fun zz1 k1=>?_) (fun k1=>xE k1 fun K1 k1=>xE k1 fun T1 k1=>xE k1 fun zz1 k1=>?_)
  case' refine_2=>
   rw[aE k1.1]at hQ;have cr:=hQ;simp only at cr;refine .z [0] (hM _ _ _ _ _ k1.2.2) rfl rfl rfl ?_;have ek1:=k1.2.1;cbv;simp only[ek1];cbv;refine xE (⟨_,rfl⟩:∃y:Int,z5+1=y) fun y9 I9=>?_
   have SD:((k:Nat):Int)=z5:=g1;have ea9:=NJ hE SD oM I9
   refine oE (zn h (k) z5 SD oM eG c) (fun k7=>?_) (fun k7=>?_)
   case' refine_2=>
    rw[k7.1,cD]at cr;refine .z [0] (hM _ _ _ _ _ k7.2) rfl rfl rfl ?_;have e0:0=Q:=cr;subst e0;cbv;all_goals trivial
   have hp7:=nH k7.1;rw[k7.1,bP]at cr;refine .z [0] (hM _ _ _ _ _ k7.2) rfl rfl rfl ?_;cbv;simp only[ea9];cbv;refine oE (zn h (k+1) y9 aZ oM qX c) (fun k8=>?_) (fun k8=>?_)
   case' refine_2=>
    rw[aE aZ]at cr
    refine .z [0] (hM _ _ _ _ _ k8.2) rfl rfl rfl ?_;have e0:0=Q:=cr;subst e0;cbv;all_goals trivial
   rw[aF k8.1]at cr;refine .z [0] (hM _ _ _ _ _ k8.2) rfl rfl rfl ?_;have hQ9:((k+1:Nat):Int)=Q:=cr;have e0:y9=Q:=dU
   subst e0;cbv
   grind
  rw[aF k1.1]at hQ;have fW:=kJ k1.1 aT
  refine .z [0] (hM _ _ _ _ _ k1.2) rfl rfl rfl ?_;cbv;simp only[e6];cbv;refine oE (zn h (k+1) z6 g6 oM rY c) (fun k2=>?_) (fun k2=>?_)
  case' refine_2=>
   rw[aE aZ]at hQ
   have cr:=hQ;simp only at cr;refine .z [0] (hM _ _ _ _ _ k2.2) rfl rfl rfl ?_;cbv;refine xE (⟨_,rfl⟩:∃y:Int,z6+1=y) fun y9 I9=>?_
   have SD:((k+1:Nat):Int)=z6:=g6;have ea9:=NJ hE SD oM I9
   refine oE (zn h (k+1) z6 SD oM eG c) (fun k7=>?_) (fun k7=>?_)
   case' refine_2=>
    rw[k7.1,cD]at cr;refine .z [0] (hM _ _ _ _ _ k7.2) rfl rfl rfl ?_;have e0:0=Q:=cr;subst e0;cbv;all_goals trivial
   have hp7:=nH k7.1;rw[k7.1,bP]at cr;refine .z [0] (hM _ _ _ _ _ k7.2) rfl rfl rfl ?_;cbv;simp only[ea9];cbv;refine oE (zn h (k+1+1) y9 aZ oM qX c) (fun k8=>?_) (fun k8=>?_)
   case' refine_2=>
    rw[aE aZ]at cr
    refine .z [0] (hM _ _ _ _ _ k8.2) rfl rfl rfl ?_;have e0:0=Q:=cr;subst e0;cbv;all_goals trivial
   rw[aF k8.1]at cr;refine .z [0] (hM _ _ _ _ _ k8.2) rfl rfl rfl ?_;have hQ9:((k+1+1:Nat):Int)=Q:=cr;have e0:y9=Q:=aZ
   subst e0;cbv
   grind
  rw[aF k2.1]at hQ;have AG:=nH k2.1;refine .z [0] (hM _ _ _ _ _ k2.2) rfl rfl rfl ?_;cbv;simp only[e7];cbv;refine oE (Er h (k+2) z7 g7 oM c) (fun k3=>xE k3 fun T3 k3=>xE k3 fun zz3 k3=>?_) (fun k3=>xE k3 fun K3 k3=>xE k3 fun T3 k3=>xE k3 fun zz3 k3=>?_)
  case' refine_2=>
   rw[aE k3.1]at hQ;have e0:0=Q:=hQ;refine .z [0] (hM _ _ _ _ _ k3.2.2) rfl rfl rfl ?_;have ek3:=k3.2.1;subst e0;cbv
   repeat (simp only[ek3];cbv)
   all_goals trivial
  rw[aF k3.1]at hQ;have hp3:=kJ k3.1 aT
  refine .z [0] (hM _ _ _ _ _ k3.2) rfl rfl rfl ?_;cbv;exact .mk (z7,k+2) r5 ⟨g7,by omega,m,by omega,hQ⟩ aZ
theorem Gh{β:Type}{o:Option (β×Ts)}(h:bE n toks LR a l)(c:Cx){X Y:Re β}(ho:(if 0<oa l then X else Y)=some o):
  (∃Q:Int,X=some o/\0<Q/\MP 50 [.own 0 0] [aX LR a c] (.p (pI Q)) [aX LR a c])\/∃Q:Int,Y=some o/\¬0<Q/\MP 50 [.own 0 0] [aX LR a c] (.p (pI Q)) [aX LR a c]:=by
 have hm:=z8r h c
 by_cases hb:0<oa l
 ·rw[aF hb]at ho;exact .inl ⟨_,ho,by omega,hm⟩
 ·rw[aE hb]at ho;exact .inr ⟨_,ho,by omega,hm⟩
end
end Go.Proofs.YtjkcdcloomkooaaGreatDoor
