/- Own work: the parser's reader in memory: peek,is,take,need,name,zbj. -/
import Derived.Test.YtcfecmeocimclaaGreatDoorYAA0
import Derived.Test.YtcfecmeocimclaaGreatDoorYALC2
import Derived.Test.YtcfecmeocimclaaGreatDoorYAGX
import Derived.Test.YtcfecmeocimclaaGreatDoorYAGN
import Derived.Test.YtcfecmeocimclaaGreatDoorYALB4
namespace Go.Proofs.YtcfecmeocimclaaGreatDoor
set_option linter.unusedSimpArgs false
set_option linter.unusedSectionVars false
set_option maxRecDepth 100000
open Go.RowKit
mutual
def za8:PT->List PV
 | .mk k nm i o ks=>[pI k,pS (bL nm),pI i,pI o,zao ks]
def zao:List PT->PV
 | []=>.v (.slice none 0 0)
 | k :: ks=>.ro 5 (za8 k :: zae ks)
def zae:List PT->List (List PV)
 | []=>[]
 | k :: ks=>za8 k :: zae ks
end
theorem zc0:∀ a b:List PT,zae (a++b)=zae a++zae b
 | [],_=>by rw [zae];rfl
 | x :: a,b=>by rw [lCA,zae,zae,zc0 a b];rfl
theorem zep:∀ a:List PT,(zae a).length=a.length
 | []=>by rw [zae];rfl
 | x :: a=>by rw [zae,lLC,lLC,zep a]
def er (t:Tk):Tk:=⟨t.k,t.t,0⟩
structure AtP (n:Int) (toks:List Tk) (LR:List (List PV)) (a:Int) (l:Ts):Prop where
 h0:0<=a
 h1:a + ((l.length:Nat):Int)=((toks.length:Nat):Int)
 d:toks.drop a.toNat=l
 r:∃ ts:List Tk,ts.map er=toks/\zbr n ts=LR
 z:toks.length<=1000000
 tz:∀ t ∈ toks,t.t.length<=1000000
 tn:∀ t ∈ toks,t.k=3->(∀ c ∈ t.t,dgt c=true)/\t.t ≠ []/\zj2 t.t < 9223372036854775808
theorem AtP.drop {n:Int} {toks:List Tk} {LR:List (List PV)} {a b:Int} {l:Ts} (h:AtP n toks LR a l) (k:Nat) (hk:k<=l.length) (hb:a + (k:Nat)=b):AtP n toks LR b (l.drop k):=by
 have h0:=h.h0;have h1:=h.h1;refine ⟨by omega,by rw [lLD];omega,?_,h.r,h.z,h.tz,h.tn⟩
 rw [<-h.d,lDD,show b.toNat=a.toNat + k by omega]
theorem AtP.get {n:Int} {toks:List Tk} {LR:List (List PV)} {a:Int} {l:Ts} (h:AtP n toks LR a l) {k:Nat} {t:Tk} (ht:l[k]?=some t):∃ z:Int,LR[(a + (k:Nat)).toNat]?=some [pI t.k,pS (bL t.t),pI z]:=by
 have h0:=h.h0;obtain ⟨ts,h1,h2⟩:=h.r;rw [<-h.d,List.getElem?_drop,<- h1,List.getElem?_map] at ht;rw [<-h2];unfold zbr;rw [List.getElem?_map,show (a + (k:Nat)).toNat=a.toNat + k by omega]
 cases hx:ts[a.toNat + k]? with
 | none=>rw [hx] at ht;cases ht
 | some x =>
  rw [hx] at ht
  cases ht
  exact ⟨n - (x.rem:Nat),rfl⟩
theorem AtP.len {n:Int} {toks:List Tk} {LR:List (List PV)} {a:Int} {l:Ts} (h:AtP n toks LR a l):LR.length=toks.length:=by obtain ⟨ts,h1,h2⟩:=h.r;rw [<-h1,<- h2,zd7,lLM]
abbrev rdr (LR:List (List PV)) (a:Int) (c:Cx):Option ABlk:=some (.box [.p (.ro 3 LR),.p (pI a),.p (pB c.fn),.p (pB c.lp),.p (pB c.gn),.p (pB c.as_)] 50 none)
def zcf:List PanicEntry:=[{ v:=.iface 71 (.agg #[]),recovered:=false }]
section
variable {n:Int} {toks:List Tk} {LR:List (List PV)} {a:Int} {l:Ts}
set_option maxHeartbeats 2000000 in
theorem zte (h:AtP n toks LR a l) (k:Nat) (hk:k<=1000000) (c:Cx):∃ z:Int,VM 36 [.own 0 0,.p (pI (k:Nat))] [rdr LR a c] (.p (.agg [pI (kd l k),pS (bL (tx l k)),pI z])) [rdr LR a c]:=by
 have hl:=h.len;have h0:=h.h0;have h1:=h.h1;have hz:=h.z;obtain ⟨m,hm⟩:∃ m:Int,((toks.length:Nat):Int)=m:=⟨_,rfl⟩
 obtain ⟨kk,hkk⟩:∃ x:Int,((k:Nat):Int)=x:=⟨_,rfl⟩
 obtain ⟨b,hb⟩:∃ x:Int,a + kk=x:=⟨_,rfl⟩
 obtain ⟨fn,lp,gn,as_⟩:=c;rw [hkk]
 cases ht:l[k]? with
 | some t =>
  obtain ⟨z,hg⟩:=h.get ht;have hlt:k < l.length:=(List.getElem?_eq_some_iff.1 ht).1;have e1:kd l k=t.k:=by unfold kd;rw [ht]
  have e2:tx l k=t.t:=by unfold tx;rw [ht]
  rw [e1,e2];rw [hkk,hb] at hg;refine ⟨z,?_⟩;generalize bL t.t=T at hg ⊢;generalize t.k=K at hg ⊢;refine zad zaa (f:=36) Tryz.func36 rfl (by kernel_rfl) (oT (by kernel_rfl)) fun tags htl=>?_
  match tags,htl with
  | [t0],_ =>
   refine Seg.of zaa mixed (fun n=>match n with|1=>11|2=>10|_=>0) (by kernel_rfl) (fun E=>za0 E tyT Tryz.f36.results.toList [t0] (.p (.agg [pI K,pS T,pI z])) [rdr LR a ⟨fn,lp,gn,as_⟩]) fun P G E hc hM hE=>?_
   have l0:E.ofN LR.length=m:=by rw [hE,hl];exact hm
   have ea:E.wadd .i64 a kk=b:=by rw [hE,<- hb];exact zaf (by omega) (by omega)
   have d1:E.lti b m=true:=by rw [hE];exact dT (by omega)
   have p1:E.ple 0 b:=by rw [hE];show 0<=b;omega
   have g1:LR[E.nat b]?=some [pI K,pS T,pI z]:=by rw [hE];exact hg
   clear hE hc hM hm hkk hb hl h0 h1 hz h ht hg hlt e1 e2 hk;cbv at l0;cbv
   repeat (first|(simp only [ea];cbv)|simp only [ea]|(simp only [l0];cbv)|simp only [l0]|(simp only [d1];cbv)|simp only [d1]|(refine ⟨p1,_,g1,?_⟩;cbv))
   all_goals trivial
 | none =>
  have hge:l.length<=k:=List.getElem?_eq_none_iff.1 ht;have e1:kd l k=0:=by unfold kd;rw [ht]
  have e2:tx l k=[]:=by unfold tx;rw [ht]
  rw [e1,e2];refine ⟨0,?_⟩;show VM 36 [.own 0 0,.p (pI kk)] [rdr LR a ⟨fn,lp,gn,as_⟩] (.p (.agg [pI 0,pS ⟨#[]⟩,pI 0])) [rdr LR a ⟨fn,lp,gn,as_⟩];refine zad zaa (f:=36) Tryz.func36 rfl (by kernel_rfl) (oT (by kernel_rfl)) fun tags htl=>?_
  match tags,htl with
  | [t0],_ =>
   refine Seg.of zaa mixed (fun n=>match n with|1=>11|2=>10|_=>0) (by kernel_rfl) (fun E=>za0 E tyT Tryz.f36.results.toList [t0] (.p (.agg [pI 0,pS ⟨#[]⟩,pI 0])) [rdr LR a ⟨fn,lp,gn,as_⟩]) fun P G E hc hM hE=>?_
   have l0:E.ofN LR.length=m:=by rw [hE,hl];exact hm
   have ea:E.wadd .i64 a kk=b:=by rw [hE,<- hb];exact zaf (by omega) (by omega)
   have d1:E.lti b m=false:=by rw [hE];exact dF (by omega)
   clear hE hc hM hm hkk hb hl h0 h1 hz h ht hge e1 e2 hk;cbv at l0;cbv
   repeat (first|(simp only [ea];cbv)|simp only [ea]|(simp only [l0];cbv)|simp only [l0]|(simp only [d1];cbv)|simp only [d1])
   all_goals trivial
set_option maxHeartbeats 2000000 in
theorem is_m (h:AtP n toks LR a l) (k:Nat) (hk:k<=1000000) (s:ByteArray) (c:Cx):VM 37 [.own 0 0,.p (pI (k:Nat)),.p (pS s)] [rdr LR a c] (.p (pB (isT l k s.data.toList))) [rdr LR a c]:=by
 obtain ⟨z,hp⟩:=zte h k hk c;obtain ⟨kk,hkk⟩:∃ x:Int,((k:Nat):Int)=x:=⟨_,rfl⟩
 rw [hkk] at hp ⊢;have hb:isT l k s.data.toList=(decide (bL (tx l k)=s) && (decide (kd l k=2) || decide (kd l k=5))):=by
  unfold isT
  congr 1
  refine decide_eq_decide.2 ⟨fun e=>zij (by rw [e];unfold bL;simp),fun e=>by rw [<-e];unfold bL;simp⟩
 rw [hb];clear hb;generalize bL (tx l k)=T at hp ⊢;generalize kd l k=K at hp ⊢;obtain ⟨fn,lp,gn,as_⟩:=c;obtain ⟨q,hq⟩:∃ q,(decide (T=s) && (decide (K=2) || decide (K=5)))=q:=⟨_,rfl⟩
 rw [hq];refine zad zaa (f:=37) Tryz.func37 rfl (by kernel_rfl) (oT (by kernel_rfl)) fun tags htl=>?_
 match tags,htl with
 | [t0],_ =>
  refine Seg.of zaa mixed (fun _=>0) (by kernel_rfl) (fun E=>za0 E tyT Tryz.f37.results.toList [t0] (.p (pB q)) [rdr LR a ⟨fn,lp,gn,as_⟩]) fun P G E hc hM hE=>?_
  replace hp:=hM _ _ _ _ _ hp;have ee:E.eq T s=decide (T=s):=by rw [hE];rfl
  clear hE hc hM h hk hkk;cbv;refine .mk _ _ (Wk.refl _ _) [0] _ _ _ _ hp rfl rfl rfl ?_;cbv;simp only [ee];refine oE (cEm (T=s)) (fun h1=>?_) (fun h1=>?_)
  ·have x1:decide (T=s)=true:=dT h1;rw [x1,Bool.true_and] at hq;simp only [x1];cbv;refine oE (cEm (K=2)) (fun h2=>?_) (fun h2=>?_)
   ·have x2:decide (K=2)=true:=dT h2;rw [x2,Bool.true_or] at hq;subst hq;simp only [x2];cbv;all_goals trivial
   ·have x2:decide (K=2)=false:=dF h2;rw [x2,Bool.false_or] at hq;simp only [x2];cbv;subst hq;exact ⟨rfl,trivial⟩
  ·have x1:decide (T=s)=false:=dF h1;rw [x1,Bool.false_and] at hq;subst hq;simp only [x1];cbv;all_goals trivial
end
/- Own work: the parser's reader: fail,take,need,name,zbj. -/
section
variable {n:Int} {toks:List Tk} {LR:List (List PV)} {a:Int} {l:Ts}
theorem isO (h:AtP n toks LR a l) (k:Nat) (hk:k<=1000000) (s:ByteArray) (c:Cx):(isT l k s.data.toList=true/\VM 37 [.own 0 0,.p (pI (k:Nat)),.p (pS s)] [rdr LR a c] (.p (pB true)) [rdr LR a c])\/(isT l k s.data.toList=false/\VM 37 [.own 0 0,.p (pI (k:Nat)),.p (pS s)] [rdr LR a c] (.p (pB false)) [rdr LR a c]):=by
 have hi:=is_m h k hk s c
 cases hb:isT l k s.data.toList with
 | true=>rw [hb] at hi;exact .inl ⟨rfl,hi⟩
 | false=>rw [hb] at hi;exact .inr ⟨rfl,hi⟩
theorem zch (LR:List (List PV)) (a:Int) (c:Cx):VM 35 [.own 0 0] [rdr LR a c] (.p (.pan zcf)) [none]:=by
 obtain ⟨fn,lp,gn,as_⟩:=c;refine zad zaa (f:=35) Tryz.func35 rfl (by kernel_rfl) (oT (by kernel_rfl)) fun tags htl=>?_
 match tags,htl with
 | [t0],_ =>
  refine Seg.of zaa mixed (fun _=>0) (by kernel_rfl) (fun E=>za0 E tyT Tryz.f35.results.toList [t0] (.p (.pan zcf)) [none]) fun P G E hc hM hE=>?_
  clear hE hc hM;cbv;all_goals trivial
theorem z2d (h:AtP n toks LR a l) (s:ByteArray) (c:Cx) (hs:isT l 0 s.data.toList=true) {b:Int} (hb:a + 1=b):VM 43 [.own 0 0,.p (pS s)] [rdr LR a c] (.p (pB true)) [rdr LR b c]:=by
 have hi:=is_m h 0 (Nat.zero_le _) s c;rw [hs] at hi;have h0:=h.h0;have h1:=h.h1;have hz:=h.z;have ha:a<=1000000:=by omega
 obtain ⟨fn,lp,gn,as_⟩:=c;refine zad zaa (f:=43) Tryz.func43 rfl (by kernel_rfl) (oT (by kernel_rfl)) fun tags htl=>?_
 match tags,htl with
 | [t0],_ =>
  refine Seg.of zaa mixed (fun _=>0) (by kernel_rfl) (fun E=>za0 E tyT Tryz.f43.results.toList [t0] (.p (pB true)) [rdr LR b ⟨fn,lp,gn,as_⟩]) fun P G E hc hM hE=>?_
  replace hi:=hM _ _ _ _ _ hi;have ea:E.wadd .i64 a 1=b:=by rw [hE,<- hb];exact zaf (by omega) (by omega)
  clear hE hc hM h hs hb h0 h1 hz ha;cbv;refine .mk _ _ (Wk.refl _ _) [0] _ _ _ _ hi rfl rfl rfl ?_;cbv;simp only [ea];cbv;all_goals trivial
theorem z2e (h:AtP n toks LR a l) (s:ByteArray) (c:Cx) (hs:isT l 0 s.data.toList=false):VM 43 [.own 0 0,.p (pS s)] [rdr LR a c] (.p (pB false)) [rdr LR a c]:=by
 have hi:=is_m h 0 (Nat.zero_le _) s c;rw [hs] at hi;obtain ⟨fn,lp,gn,as_⟩:=c;refine zad zaa (f:=43) Tryz.func43 rfl (by kernel_rfl) (oT (by kernel_rfl)) fun tags htl=>?_
 match tags,htl with
 | [t0],_ =>
  refine Seg.of zaa mixed (fun _=>0) (by kernel_rfl) (fun E=>za0 E tyT Tryz.f43.results.toList [t0] (.p (pB false)) [rdr LR a ⟨fn,lp,gn,as_⟩]) fun P G E hc hM hE=>?_
  replace hi:=hM _ _ _ _ _ hi;clear hE hc hM h hs;cbv;refine .mk _ _ (Wk.refl _ _) [0] _ _ _ _ hi rfl rfl rfl ?_;cbv;all_goals trivial
theorem takeO (h:AtP n toks LR a l) (s:ByteArray) (c:Cx):(isT l 0 s.data.toList=true/\VM 43 [.own 0 0,.p (pS s)] [rdr LR a c] (.p (pB true)) [rdr LR (a + 1) c])\/(isT l 0 s.data.toList=false/\VM 43 [.own 0 0,.p (pS s)] [rdr LR a c] (.p (pB false)) [rdr LR a c]):=by
 cases hb:isT l 0 s.data.toList with
 | true=>exact .inl ⟨rfl,z2d h s c hb rfl⟩
 | false=>exact .inr ⟨rfl,z2e h s c hb⟩
theorem z7c (h:AtP n toks LR a l) (s:ByteArray) (c:Cx) (hs:isT l 0 s.data.toList=true) {b:Int} (hb:a + 1=b):VM 39 [.own 0 0,.p (pS s)] [rdr LR a c] (.p (.tup [])) [rdr LR b c]:=by
 have hi:=z2d h s c hs hb;obtain ⟨fn,lp,gn,as_⟩:=c;refine zad zaa (f:=39) Tryz.func39 rfl (by kernel_rfl) (oT (by kernel_rfl)) fun tags htl=>?_
 match tags,htl with
 | [t0],_ =>
  refine Seg.of zaa mixed (fun _=>0) (by kernel_rfl) (fun E=>za0 E tyT Tryz.f39.results.toList [t0] (.p (.tup [])) [rdr LR b ⟨fn,lp,gn,as_⟩]) fun P G E hc hM hE=>?_
  replace hi:=hM _ _ _ _ _ hi;clear hE hc hM h hs hb;cbv;refine .mk _ _ (Wk.refl _ _) [0] _ _ _ _ hi rfl rfl rfl ?_;cbv;all_goals trivial
theorem z7d (h:AtP n toks LR a l) (s:ByteArray) (c:Cx) (hs:isT l 0 s.data.toList=false):VM 39 [.own 0 0,.p (pS s)] [rdr LR a c] (.p (.pan zcf)) [none]:=by
 have hi:=z2e h s c hs;have hf:=zch LR a c;obtain ⟨fn,lp,gn,as_⟩:=c;refine zad zaa (f:=39) Tryz.func39 rfl (by kernel_rfl) (oT (by kernel_rfl)) fun tags htl=>?_
 match tags,htl with
 | [t0],_ =>
  refine Seg.of zaa mixed (fun _=>0) (by kernel_rfl) (fun E=>za0 E tyT Tryz.f39.results.toList [t0] (.p (.pan zcf)) [none]) fun P G E hc hM hE=>?_
  replace hi:=hM _ _ _ _ _ hi;replace hf:=hM _ _ _ _ _ hf;clear hE hc hM h hs;cbv;refine .mk _ _ (Wk.refl _ _) [0] _ _ _ _ hi rfl rfl rfl ?_;cbv;refine .mk _ _ (Wk.refl _ _) [0] _ _ _ _ hf rfl rfl rfl ?_;cbv;all_goals trivial
theorem needO (h:AtP n toks LR a l) (s:ByteArray) (c:Cx):(isT l 0 s.data.toList=true/\VM 39 [.own 0 0,.p (pS s)] [rdr LR a c] (.p (.tup [])) [rdr LR (a + 1) c])\/(isT l 0 s.data.toList=false/\VM 39 [.own 0 0,.p (pS s)] [rdr LR a c] (.p (.pan zcf)) [none]):=by
 cases hb:isT l 0 s.data.toList with
 | true=>exact .inl ⟨rfl,z7c h s c hb rfl⟩
 | false=>exact .inr ⟨rfl,z7d h s c hb⟩
theorem nameO (h:AtP n toks LR a l) (c:Cx):(kd l 0=1/\VM 62 [.own 0 0] [rdr LR a c] (.p (pS (bL (tx l 0)))) [rdr LR (a + 1) c])\/(¬ kd l 0=1/\VM 62 [.own 0 0] [rdr LR a c] (.p (.pan zcf)) [none]):=by
 obtain ⟨z,hp⟩:=zte h 0 (Nat.zero_le _) c;have hf:=zch LR a c;have h0:=h.h0;have h1:=h.h1;have hz:=h.z;have ha:a<=1000000:=by omega
 obtain ⟨b,hb⟩:∃ b,a + 1=b:=⟨_,rfl⟩
 rw [hb];obtain ⟨fn,lp,gn,as_⟩:=c;obtain ⟨T,hT⟩:∃ T,bL (tx l 0)=T:=⟨_,rfl⟩
 rw [hT] at hp ⊢
 by_cases hk:kd l 0=1
 ·refine .inl ⟨hk,?_⟩;rw [hk] at hp;refine zad zaa (f:=62) Tryz.func62 rfl (by kernel_rfl) (oT (by kernel_rfl)) fun tags htl=>?_
  match tags,htl with
  | [t0],_ =>
   refine Seg.of zaa mixed (fun _=>0) (by kernel_rfl) (fun E=>za0 E tyT Tryz.f62.results.toList [t0] (.p (pS T)) [rdr LR b ⟨fn,lp,gn,as_⟩]) fun P G E hc hM hE=>?_
   replace hp:=hM _ _ _ _ _ hp;have ea:E.wadd .i64 a 1=b:=by rw [hE,<- hb];exact zaf (by omega) (by omega)
   clear hE hc hM h hb h0 h1 hz ha hf hk hT;cbv;refine .mk _ _ (Wk.refl _ _) [0] _ _ _ _ hp rfl rfl rfl ?_;cbv;simp only [ea];cbv;all_goals trivial
 ·refine .inr ⟨hk,?_⟩;have dk:decide (kd l 0=1)=false:=dF hk;generalize kd l 0=K at hp dk;refine zad zaa (f:=62) Tryz.func62 rfl (by kernel_rfl) (oT (by kernel_rfl)) fun tags htl=>?_
  match tags,htl with
  | [t0],_ =>
   refine Seg.of zaa mixed (fun _=>0) (by kernel_rfl) (fun E=>za0 E tyT Tryz.f62.results.toList [t0] (.p (.pan zcf)) [none]) fun P G E hc hM hE=>?_
   replace hp:=hM _ _ _ _ _ hp;replace hf:=hM _ _ _ _ _ hf;clear hE hc hM h hb h0 h1 hz ha hk hT;cbv;refine .mk _ _ (Wk.refl _ _) [0] _ _ _ _ hp rfl rfl rfl ?_;cbv;simp only [dk];cbv;refine .mk _ _ (Wk.refl _ _) [0] _ _ _ _ hf rfl rfl rfl ?_;cbv;all_goals trivial
end
/- Own work: the functions of the parser as contracts over what they make of a list of tokens. -/
abbrev MP (f:FuncId) (l:List AV) (H:AH) (r:AV) (K:AH):Prop:=ML f l H r K
def rOf:Option (Rv × Ts)->AV
 | none=>.p (.pan zcf)
 | some (.nd x,_)=>.p (.agg (za8 x))
 | some (.nb x b,_)=>.p (.tup [.agg (za8 x),pB b])
 | some (.ls ks,_)=>.p (zao ks)
def hOf (toks:List Tk) (LR:List (List PV)) (c:Cx):Option (Rv × Ts)->AH
 | none=>[none]
 | some (_,l)=>[rdr LR (((toks.length:Nat):Int) - ((l.length:Nat):Int)) c]
def Sy.fid:Sy->Option FuncId
 | .stmt _ _=>some 20
 | .keyw _ _=>some 44
 | .condn _ _=>some 65
 | .inner _ _=>some 66
 | .body _ _=>some 67
 | .loops _ _=>some 68
 | .tryS _ _=>some 69
 | .decl _ (_ :: _)=>some 38
 | .block _ _=>some 42
 | .func _ _ _=>some 41
 | .arrow _ _=>some 46
 | .assign _ _=>some 22
 | .cond _ _=>some 47
 | .opnd k _ _=>if k<=6 then some 70 else none
 | .unary _ _=>some 90
 | .postf _ _=>some 108
 | .link _ _ _=>some 132
 | .chain _ _=>some 118
 | .list2 _ _ _=>some 133
 | .prim _ _=>some 131
 | .fields _ _=>some 147
 | .field _ _=>some 156
 | _=>none
def Sy.args:Sy->List AV
 | .func d _ _=>[.p (pB d)]
 | .opnd k _ _=>[.p (pI (k:Nat))]
 | .link x _ _=>[.p (.agg (za8 x))]
 | .list2 e _ _=>[.p (pS (bL e))]
 | _=>[]
def Sy.c:Sy->Cx
 | .stmt c _|.keyw c _|.condn c _|.inner c _|.body c _|.loops c _|.tryS c _|.decl c _|.declL _ _ c _|.block c _|.blockL _ c _|.func _ c _|.arrow c _|.assign c _|.cond c _|.opnd _ c _|.opndL _ _ c _|.unary c _|.postf c _|.link _ c _|.chain c _|.chainN _ c _|.chainL _ c _|.list2 _ c _|.list2L _ _ c _|.prim c _|.fields c _|.fieldsL _ c _|.field c _=>c
def zd0 (n:Int) (toks:List Tk) (LR:List (List PV)) (s:Sy):Prop:=∀ f,s.fid=some f->∀ a,AtP n toks LR a s.l->∀ o,ev s=some o->MP f (.own 0 0 :: s.args) [rdr LR a s.c] (rOf o) (hOf toks LR s.c o)
theorem fidD {c:Cx} {l:Ts} {w:Bs} (h:isT l 0 w=true):(Sy.decl c l).fid=some 38:=by
 cases l with
 | nil=>cases zag h
 | cons x l=>rfl
section
variable {n:Int} {toks:List Tk} {LR:List (List PV)} {a:Int} {l:Ts}
theorem AtP.suf (h:AtP n toks LR a l) {l':Ts} (hs:l' <:+ l):AtP n toks LR (((toks.length:Nat):Int) - ((l'.length:Nat):Int)) l':=by
 have h1:=h.h1;have h0:=h.h0;have hl:=List.IsSuffix.length_le hs;have ht:l' <:+ toks:=hs.trans (by rw [<-h.d];exact List.drop_suffix _ _)
 have hl2:=List.IsSuffix.length_le ht;refine ⟨by omega,by omega,?_,h.r,h.z,h.tz,h.tn⟩
 rw [show (((toks.length:Nat):Int) - ((l'.length:Nat):Int)).toNat=toks.length - l'.length by omega]
 exact (List.suffix_iff_eq_drop.1 ht).symm
theorem AtP.place (h:AtP n toks LR a l):((toks.length:Nat):Int) - ((l.length:Nat):Int)=a:=by have:=h.h1;omega
structure NodeV (x:PT) (k i o:Int) (nm:ByteArray) (K:PV):Prop where
 row:za8 x=[pI k,pS nm,pI i,pI o,K]
 one:zjg (.p K)=true
 kind:x.kind=k
theorem zov (ks:List PT):zjg (.p (zao ks))=true:=by
 cases ks with
 | nil=>rw [zao];rfl
 | cons k ks=>rw [zao];rfl
theorem zih (x:PT):∃ k i o nm K,NodeV x k i o nm K:=by
 cases x with
 | mk k nm i o ks=>exact ⟨k,i,o,bL nm,zao ks,by rw [za8],zov ks,rfl⟩
theorem zd0.nd {s:Sy} (hG:zd0 n toks LR s) {f:FuncId} (hf:s.fid=some f) (hsh:s.shape=.nd) (h:AtP n toks LR a s.l) :
  (ev s=some none/\MP f (.own 0 0 :: s.args) [rdr LR a s.c] (.p (.pan zcf)) [none])\/∃ x l' b k i o nm K,ev s=some (some (.nd x,l'))/\AtP n toks LR b l'/\NodeV x k i o nm K/\(s.lax=false->l'.length < s.l.length)/\MP f (.own 0 0 :: s.args) [rdr LR a s.c] (.p (.agg [pI k,pS nm,pI i,pI o,K])) [rdr LR b s.c]:=by
 obtain ⟨o,ho,hp⟩:=zmn s;have hm:=hG f hf a h o ho
 match o,ho,hp,hm with
 | none,ho,_,hm=>exact .inl ⟨ho,hm⟩
 | some (v,l'),ho,hp,hm =>
  have hq:=hp v l' rfl;have h1:=hq.1;rw [hsh] at h1
  cases v with
  | nd x =>
   obtain ⟨k,i,o,nm,K,hv⟩:=zih x;have hm2:MP f (.own 0 0 :: s.args) [rdr LR a s.c] (.p (.agg (za8 x))) (hOf toks LR s.c (some (.nd x,l'))):=hm;rw [hv.row] at hm2;exact .inr ⟨x,l',_,k,i,o,nm,K,ho,h.suf hq.2.1,hv,fun e=>(hq.2.2 e rfl).2,hm2⟩
  | nb x b=>cases h1
  | ls x=>cases h1
theorem zd0.nb {s:Sy} (hG:zd0 n toks LR s) {f:FuncId} (hf:s.fid=some f) (hsh:s.shape=.nb) (h:AtP n toks LR a s.l) :
  (ev s=some none/\MP f (.own 0 0 :: s.args) [rdr LR a s.c] (.p (.pan zcf)) [none])\/∃ x q l' b k i o nm K,ev s=some (some (.nb x q,l'))/\AtP n toks LR b l'/\NodeV x k i o nm K/\(l'.length<=s.l.length/\(s.lax=false->q=true->l'.length < s.l.length))/\MP f (.own 0 0 :: s.args) [rdr LR a s.c] (.p (.tup [.agg [pI k,pS nm,pI i,pI o,K],pB q])) [rdr LR b s.c]:=by
 obtain ⟨o,ho,hp⟩:=zmn s;have hm:=hG f hf a h o ho
 match o,ho,hp,hm with
 | none,ho,_,hm=>exact .inl ⟨ho,hm⟩
 | some (v,l'),ho,hp,hm =>
  have hq:=hp v l' rfl;have h1:=hq.1;rw [hsh] at h1
  cases v with
  | nb x b =>
   obtain ⟨k,i,o,nm,K,hv⟩:=zih x;have hm2:MP f (.own 0 0 :: s.args) [rdr LR a s.c] (.p (.tup [.agg (za8 x),pB b])) (hOf toks LR s.c (some (.nb x b,l'))):=hm;rw [hv.row] at hm2;exact .inr ⟨x,b,l',_,k,i,o,nm,K,ho,h.suf hq.2.1,hv,⟨Leq.len hq.2.1,fun e e2=>(hq.2.2 e e2).2⟩,hm2⟩
  | nd x=>cases h1
  | ls x=>cases h1
theorem zd0.ls {s:Sy} (hG:zd0 n toks LR s) {f:FuncId} (hf:s.fid=some f) (hsh:s.shape=.ls) (h:AtP n toks LR a s.l) :
  (ev s=some none/\MP f (.own 0 0 :: s.args) [rdr LR a s.c] (.p (.pan zcf)) [none])\/∃ ks l' b,ev s=some (some (.ls ks,l'))/\AtP n toks LR b l'/\(s.lax=false->l'.length < s.l.length)/\MP f (.own 0 0 :: s.args) [rdr LR a s.c] (.p (zao ks)) [rdr LR b s.c]:=by
 obtain ⟨o,ho,hp⟩:=zmn s;have hm:=hG f hf a h o ho
 match o,ho,hp,hm with
 | none,ho,_,hm=>exact .inl ⟨ho,hm⟩
 | some (v,l'),ho,hp,hm =>
  have hq:=hp v l' rfl;have h1:=hq.1;rw [hsh] at h1
  cases v with
  | ls x=>exact .inr ⟨x,l',_,ho,h.suf hq.2.1,fun e=>(hq.2.2 e rfl).2,hm⟩
  | nd x=>cases h1
  | nb x b=>cases h1
theorem z3l (w:Bs):(bL w).data.toList=w:=by unfold bL;simp
theorem z7e (h:AtP n toks LR a l) (w:Bs) (c:Cx):(∃ b,isT l 0 w=true/\AtP n toks LR b (l.drop 1)/\MP 39 [.own 0 0,.p (pS (bL w))] [rdr LR a c] (.p (.tup [])) [rdr LR b c])\/(isT l 0 w=false/\MP 39 [.own 0 0,.p (pS (bL w))] [rdr LR a c] (.p (.pan zcf)) [none]):=by
 have:=needO h (bL w) c
 rw [z3l] at this
 rcases this with ⟨h1,h2⟩|⟨h1,h2⟩
 ·exact .inl ⟨_,h1,h.drop 1 (zag h1) rfl,upM h2⟩
 ·exact .inr ⟨h1,upM h2⟩
theorem z6j (h:AtP n toks LR a l) (w:Bs) (c:Cx):(∃ b,isT l 0 w=true/\AtP n toks LR b (l.drop 1)/\MP 43 [.own 0 0,.p (pS (bL w))] [rdr LR a c] (.p (pB true)) [rdr LR b c])\/(isT l 0 w=false/\MP 43 [.own 0 0,.p (pS (bL w))] [rdr LR a c] (.p (pB false)) [rdr LR a c]):=by
 have:=takeO h (bL w) c
 rw [z3l] at this
 rcases this with ⟨h1,h2⟩|⟨h1,h2⟩
 ·exact .inl ⟨_,h1,h.drop 1 (zag h1) rfl,upM h2⟩
 ·exact .inr ⟨h1,upM h2⟩
theorem zx9 (h:AtP n toks LR a l) (k:Nat) (hk:k<=1000000) (w:Bs) (c:Cx):(isT l k w=true/\MP 37 [.own 0 0,.p (pI (k:Nat)),.p (pS (bL w))] [rdr LR a c] (.p (pB true)) [rdr LR a c])\/(isT l k w=false/\MP 37 [.own 0 0,.p (pI (k:Nat)),.p (pS (bL w))] [rdr LR a c] (.p (pB false)) [rdr LR a c]):=by
 have:=isO h k hk (bL w) c
 rw [z3l] at this
 rcases this with ⟨h1,h2⟩|⟨h1,h2⟩
 ·exact .inl ⟨h1,upM h2⟩
 ·exact .inr ⟨h1,upM h2⟩
theorem z7f (h:AtP n toks LR a l) (c:Cx):(∃ b,kd l 0=1/\AtP n toks LR b (l.drop 1)/\MP 62 [.own 0 0] [rdr LR a c] (.p (pS (bL (tx l 0)))) [rdr LR b c])\/(¬ kd l 0=1/\MP 62 [.own 0 0] [rdr LR a c] (.p (.pan zcf)) [none]):=by
 rcases nameO h c with ⟨h1,h2⟩|⟨h1,h2⟩
 ·exact .inl ⟨_,h1,h.drop 1 (zaw h1 (by decide)) rfl,upM h2⟩
 ·exact .inr ⟨h1,upM h2⟩
theorem AtP.next (h:AtP n toks LR a l) (hl:0 < l.length):∃ b,AtP n toks LR b (l.drop 1)/\a + 1=b/\0<=a/\a<=1000000:=⟨a + 1,h.drop 1 hl rfl,rfl,h.h0,by have:=h.h1;have:=h.z;omega⟩
end
/- Own work: the steps of the parser's functions,as they are taken in a walk: what is left of the plain parser,and the contract of the call. -/
theorem okE {α:Type} {x:α} {l:Ts} {o:Option (α × Ts)} (h:okR x l=some o):o=some (x,l):=by cases h;rfl
theorem zey {α:Type} {o:Option (α × Ts)} (h:(zdh:Re α)=some o):o=none:=by cases h;rfl
theorem zcg {E:SO} (hE:E=zas) {a b:Int} (h0:0<=a) (h1:a<=1000000) (h:a + 1=b):E.wadd .i64 a 1=b:=by rw [hE,<- h];exact zaf (by omega) (by omega)
section
variable {n:Int} {toks:List Tk} {LR:List (List PV)} {a:Int} {l:Ts} {β:Type} {o:Option (β × Ts)}
theorem zc1 (h:AtP n toks LR a l) (w:Bs) (c:Cx) {K:Ts->Re β} (ho:zap w l K=some o) :
  (∃ b,AtP n toks LR b (l.drop 1)/\K (l.drop 1)=some o/\(l.drop 1).length < l.length/\isT l 0 w=true/\MP 39 [.own 0 0,.p (pS (bL w))] [rdr LR a c] (.p (.tup [])) [rdr LR b c])\/(o=none/\MP 39 [.own 0 0,.p (pS (bL w))] [rdr LR a c] (.p (.pan zcf)) [none]):=by
 unfold zap at ho
 rcases z7e h w c with ⟨b,h1,h2,h3⟩|⟨h1,h2⟩
 ·rw [if_pos h1] at ho
  have:=zag h1
  exact .inl ⟨b,h2,ho,by rw [lLD];omega,h1,h3⟩
 ·rw [if_neg (by rw [h1];exact Bool.false_ne_true)] at ho
  exact .inr ⟨zey ho,h2⟩
theorem zuz (h:AtP n toks LR a l) (c:Cx) {K:Bs->Ts->Re β} (ho:zb3 l K=some o) :
  (∃ b T,AtP n toks LR b (l.drop 1)/\K (tx l 0) (l.drop 1)=some o/\(l.drop 1).length < l.length/\bL (tx l 0)=T/\MP 62 [.own 0 0] [rdr LR a c] (.p (pS T)) [rdr LR b c])\/(o=none/\MP 62 [.own 0 0] [rdr LR a c] (.p (.pan zcf)) [none]):=by
 unfold zb3 at ho
 rcases z7f h c with ⟨b,h1,h2,h3⟩|⟨h1,h2⟩
 ·rw [if_pos h1] at ho
  have:=zaw h1 (by decide)
  exact .inl ⟨b,_,h2,ho,by rw [lLD];omega,rfl,h3⟩
 ·rw [if_neg h1] at ho;exact .inr ⟨zey ho,h2⟩
theorem zcm (h:AtP n toks LR a l) (w:Bs) (c:Cx) {X Y:Re β} (ho:(if isT l 0 w then X else Y)=some o) :
  (∃ b,AtP n toks LR b (l.drop 1)/\X=some o/\(l.drop 1).length < l.length/\isT l 0 w=true/\MP 43 [.own 0 0,.p (pS (bL w))] [rdr LR a c] (.p (pB true)) [rdr LR b c])\/(Y=some o/\isT l 0 w=false/\MP 43 [.own 0 0,.p (pS (bL w))] [rdr LR a c] (.p (pB false)) [rdr LR a c]):=by
 rcases z6j h w c with ⟨b,h1,h2,h3⟩|⟨h1,h2⟩
 ·rw [if_pos h1] at ho
  have:=zag h1
  exact .inl ⟨b,h2,ho,by rw [lLD];omega,h1,h3⟩
 ·rw [if_neg (by rw [h1];exact Bool.false_ne_true)] at ho
  exact .inr ⟨ho,h1,h2⟩
theorem isS (h:AtP n toks LR a l) (k:Nat) (hk:k<=1000000) (w:Bs) (c:Cx) {X Y:Re β} (ho:(if isT l k w then X else Y)=some o) :
  (X=some o/\isT l k w=true/\k < l.length/\MP 37 [.own 0 0,.p (pI (k:Nat)),.p (pS (bL w))] [rdr LR a c] (.p (pB true)) [rdr LR a c])\/(Y=some o/\isT l k w=false/\MP 37 [.own 0 0,.p (pI (k:Nat)),.p (pS (bL w))] [rdr LR a c] (.p (pB false)) [rdr LR a c]):=by
 rcases zx9 h k hk w c with ⟨h1,h2⟩|⟨h1,h2⟩
 ·rw [if_pos h1] at ho;exact .inl ⟨ho,h1,zag h1,h2⟩
 ·rw [if_neg (by rw [h1];exact Bool.false_ne_true)] at ho
  exact .inr ⟨ho,h1,h2⟩
theorem isOr (h:AtP n toks LR a l) (w v:Bs) (c:Cx) {X Y:Re β} (ho:(if isT l 0 w || isT l 0 v then X else Y)=some o) :
  (X=some o/\isT l 0 w=true/\MP 37 [.own 0 0,.p (pI ((0:Nat):Nat)),.p (pS (bL w))] [rdr LR a c] (.p (pB true)) [rdr LR a c])\/(X=some o/\isT l 0 w=false/\isT l 0 v=true/\MP 37 [.own 0 0,.p (pI ((0:Nat):Nat)),.p (pS (bL w))] [rdr LR a c] (.p (pB false)) [rdr LR a c]/\MP 37 [.own 0 0,.p (pI ((0:Nat):Nat)),.p (pS (bL v))] [rdr LR a c] (.p (pB true)) [rdr LR a c]) ∨
  (Y=some o/\isT l 0 w=false/\isT l 0 v=false/\MP 37 [.own 0 0,.p (pI ((0:Nat):Nat)),.p (pS (bL w))] [rdr LR a c] (.p (pB false)) [rdr LR a c]/\MP 37 [.own 0 0,.p (pI ((0:Nat):Nat)),.p (pS (bL v))] [rdr LR a c] (.p (pB false)) [rdr LR a c]):=by
 rcases zx9 h 0 (Nat.zero_le _) w c with ⟨h1,h2⟩|⟨h1,h2⟩
 ·rw [h1] at ho;exact .inl ⟨ho,h1,h2⟩
 ·rcases zx9 h 0 (Nat.zero_le _) v c with ⟨h3,h4⟩|⟨h3,h4⟩
  ·rw [h1,h3] at ho;exact .inr (.inl ⟨ho,h1,h3,h2,h4⟩)
  ·rw [h1,h3] at ho;exact .inr (.inr ⟨ho,h1,h3,h2,h4⟩)
theorem needT (h:AtP n toks LR a l) (w:Bs) (c:Cx) (hs:isT l 0 w=true):∃ b,AtP n toks LR b (l.drop 1)/\MP 39 [.own 0 0,.p (pS (bL w))] [rdr LR a c] (.p (.tup [])) [rdr LR b c]:=by
 rcases z7e h w c with ⟨b,h1,h2,h3⟩|⟨h1,h2⟩
 ·exact ⟨b,h2,h3⟩
 ·rw [hs] at h1;cases h1
theorem zox (l:Ts) (k j:Nat) (w:Bs):isT (l.drop k) j w=isT l (k + j) w:=by
 unfold isT tx kd;rw [List.getElem?_drop]
theorem zr6 (l:Ts) (k j:Nat):kd (l.drop k) j=kd l (k + j):=by unfold kd;rw [List.getElem?_drop]
theorem zrg (l:Ts) (k j:Nat):tx (l.drop k) j=tx l (k + j):=by unfold tx;rw [List.getElem?_drop]
structure OwnF (E:SO):Prop where
 pre:∀ (k:Nat) (rs:List (List PV)),rs.length=k->E.pre 0 k rs
 s1:∀ x:List PV,E.sub [x] 0 1=[x]
 s2:∀ x y:List PV,E.sub [x,y] 0 2=[x,y]
 s3:∀ x y z:List PV,E.sub [x,y,z] 0 3=[x,y,z]
 a2:∀ x y:List PV,E.app [x] 1 [y]=[x,y]
 a3:∀ x y z:List PV,E.app [x,y] 2 [z]=[x,y,z]
 n2:E.addN 1 1=2
 n3:E.addN 2 1=3
 room:∀ k m b:Nat,k + m<=100000->b<=1000->E.room k m b
theorem zje {E:SO} (hE:E=zas):OwnF E:=by
 subst hE;exact ⟨fun k rs h=>by show 0 + k<=rs.length;omega,fun _=>rfl,fun _ _=>rfl,fun _ _ _=>rfl,fun _ _=>rfl,fun _ _ _=>rfl,rfl,rfl,fun k m b h1 h2=>⟨by unfold maxLen;omega,by
  have:(k + m) * b<=100000 * 1000:=Nat.mul_le_mul h1 h2
  omega⟩⟩
theorem zm2 {p:Prop} [Decidable p] {X Y:Re β} (ho:(if p then X else Y)=some o):(p/\X=some o)\/(¬ p/\Y=some o):=by
 by_cases h:p
 ·rw [if_pos h] at ho;exact .inl ⟨h,ho⟩
 ·rw [if_neg h] at ho;exact .inr ⟨h,ho⟩
theorem zkn {p:Bool} {X Y:Re β} (ho:(if p then X else Y)=some o):(X=some o/\p=true)\/(Y=some o/\p=false):=by
 cases p with
 | true=>exact .inl ⟨ho,rfl⟩
 | false=>exact .inr ⟨ho,rfl⟩
variable {s:Sy}
theorem ndS (hG:zd0 n toks LR s) {f:FuncId} (hf:s.fid=some f) (hsh:s.shape=.nd) (hx:s.lax=false) {L:Ts} (hl:s.l=L) {c:Cx} (hcx:s.c=c) {az:List AV} (has:s.args=az) (h:AtP n toks LR a L) {K:PT->Ts->Re β} (ho:ndR (ev s) K=some o) :
  (∃ x l' b k i q nm KK,AtP n toks LR b l'/\K x l'=some o/\l'.length < L.length/\NodeV x k i q nm KK/\MP f (.own 0 0 :: az) [rdr LR a c] (.p (.agg [pI k,pS nm,pI i,pI q,KK])) [rdr LR b c])\/(o=none/\MP f (.own 0 0 :: az) [rdr LR a c] (.p (.pan zcf)) [none]):=by
 subst hl hcx has
 rcases hG.nd hf hsh h with ⟨h1,h2⟩|⟨x,l',b,k,i,q,nm,KK,h1,h2,h3,h4,h5⟩
 ·unfold ndR bnd at ho;rw [h1] at ho;simp only [Option.some.injEq] at ho;exact .inr ⟨ho.symm,h2⟩
 ·unfold ndR bnd at ho;rw [h1] at ho;exact .inl ⟨x,l',b,k,i,q,nm,KK,h2,ho,h4 hx,h3,h5⟩
theorem nbS (hG:zd0 n toks LR s) {f:FuncId} (hf:s.fid=some f) (hsh:s.shape=.nb) (hx:s.lax=false) {L:Ts} (hl:s.l=L) {c:Cx} (hcx:s.c=c) {az:List AV} (has:s.args=az) (h:AtP n toks LR a L) {K:PT->Bool->Ts->Re β} (ho:nbR (ev s) K=some o) :
  (∃ x p l' b k i q nm KK,AtP n toks LR b l'/\K x p l'=some o/\(l'.length<=L.length/\(p=true->l'.length < L.length))/\NodeV x k i q nm KK/\MP f (.own 0 0 :: az) [rdr LR a c] (.p (.tup [.agg [pI k,pS nm,pI i,pI q,KK],pB p])) [rdr LR b c])\/(o=none/\MP f (.own 0 0 :: az) [rdr LR a c] (.p (.pan zcf)) [none]):=by
 subst hl hcx has
 rcases hG.nb hf hsh h with ⟨h1,h2⟩|⟨x,p,l',b,k,i,q,nm,KK,h1,h2,h3,h4,h5⟩
 ·unfold nbR bnd at ho;rw [h1] at ho;simp only [Option.some.injEq] at ho;exact .inr ⟨ho.symm,h2⟩
 ·unfold nbR bnd at ho;rw [h1] at ho;exact .inl ⟨x,p,l',b,k,i,q,nm,KK,h2,ho,⟨h4.1,h4.2 hx⟩,h3,h5⟩
theorem lsS (hG:zd0 n toks LR s) {f:FuncId} (hf:s.fid=some f) (hsh:s.shape=.ls) (hx:s.lax=false) {L:Ts} (hl:s.l=L) {c:Cx} (hcx:s.c=c) {az:List AV} (has:s.args=az) (h:AtP n toks LR a L) {K:List PT->Ts->Re β} (ho:lsR (ev s) K=some o) :
  (∃ ks l' b,AtP n toks LR b l'/\K ks l'=some o/\l'.length < L.length/\MP f (.own 0 0 :: az) [rdr LR a c] (.p (zao ks)) [rdr LR b c])\/(o=none/\MP f (.own 0 0 :: az) [rdr LR a c] (.p (.pan zcf)) [none]):=by
 subst hl hcx has
 rcases hG.ls hf hsh h with ⟨h1,h2⟩|⟨x,l',b,h1,h2,h4,h5⟩
 ·unfold lsR bnd at ho;rw [h1] at ho;simp only [Option.some.injEq] at ho;exact .inr ⟨ho.symm,h2⟩
 ·unfold lsR bnd at ho;rw [h1] at ho;exact .inl ⟨x,l',b,h2,ho,h4 hx,h5⟩
theorem zlw {o:Option (Rv × Ts)} (hG:zd0 n toks LR s) {f:FuncId} (hf:s.fid=some f) (hsh:s.shape=.nd) {L:Ts} (hl:s.l=L) {c:Cx} (hcx:s.c=c) {az:List AV} (has:s.args=az) (h:AtP n toks LR a L) (ho:ev s=some o) :
  (∃ x l' b k i q nm KK,AtP n toks LR b l'/\o=some (.nd x,l')/\NodeV x k i q nm KK/\MP f (.own 0 0 :: az) [rdr LR a c] (.p (.agg [pI k,pS nm,pI i,pI q,KK])) [rdr LR b c])\/(o=none/\MP f (.own 0 0 :: az) [rdr LR a c] (.p (.pan zcf)) [none]):=by
 subst hl hcx has
 rcases hG.nd hf hsh h with ⟨h1,h2⟩|⟨x,l',b,k,i,q,nm,KK,h1,h2,h3,h4,h5⟩
 ·rw [h1] at ho;exact .inr ⟨(Option.some.inj ho).symm,h2⟩
 ·rw [h1] at ho;exact .inl ⟨x,l',b,k,i,q,nm,KK,h2,(Option.some.inj ho).symm,h3,h5⟩
end
end Go.Proofs.YtcfecmeocimclaaGreatDoor
