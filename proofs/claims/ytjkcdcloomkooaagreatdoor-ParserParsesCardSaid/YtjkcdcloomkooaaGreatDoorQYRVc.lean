/- Own work: Valid of a well-formed tree. -/
import Derived.Test.YtjkcdcloomkooaaGreatDoorQYRVa
import Derived.Test.YtjkcdcloomkooaaGreatDoorQYRVb
set_option linter.unusedVariables false
set_option linter.unusedSimpArgs false
set_option linter.unusedSectionVars false
set_option maxHeartbeats 8000000
set_option maxRecDepth 100000
namespace Go.Proofs.YtjkcdcloomkooaaGreatDoor
open Go.RowKit
theorem Eh{c:Cx}:∀{l:List PT}{x:PT},dW c l=true->x∈l->bE c x=true
 |[],_,_,h=>by cases h
 |y::l,x,hs,h=>by
  rw[dW,gK]at hs
  rcases dX.1 h with rfl|h
  ·exact hs.1
  ·exact Eh hs.2 h
theorem pd{c:Cx}{k i o:Int}{nm:Bs}{ks:List PT}(h1:¬(k=33\/k=34))(h2:¬(k=28\/k=29\/k=30\/k=31))(h:bE c (.mk k nm i o ks)=true):jM c k o ks=true/\∀y∈ks,bE (if k=11 then pE o else c) y=true:=by
 rw[bE,aD h1,aD h2,gK]at h;exact⟨h.1,fun y hy=>Eh h.2 hy⟩
theorem vJ{c:Cx}{k i o:Int}{nm:Bs}{ks:List PT}(h1:¬(k=33\/k=34))(h2:¬(k=28\/k=29\/k=30\/k=31))(h3:k≠11)(h:bE c (.mk k nm i o ks)=true):∀y∈ks,bE c y=true:=by
 have:=(pd h1 h2 h).2
 rwa[aD h3]at this
abbrev IE(d:Nat):Prop:=∀(x:PT)(c:Cx),gP x<=d->Fm .e x->oV x->bE c x=true->RL 82 [.agg (bU x),cR c] (pB true)
abbrev IS(d:Nat):Prop:=∀(x:PT)(c:Cx),gP x<=d->Fm .s x->oV x->bE c x=true->RL 49 [.agg (bU x),cR c] (pB true)
section
variable{d:Nat}{k i o:Int}{nm:Bs}{ks:List PT}{c:Cx}
theorem qN(hd:gP (.mk k nm i o ks)<=d+1){y:PT}(hy:y∈ks):gP y<=d:=by rw[gP]at hd;have:=DU hy;omega
theorem ND{y z:PT}(h:gP y<=d)(hz:z∈y.kids):gP z<=d:=by
 cases y with
 |mk a b e f ks=>rw[gP]at h;have:=DU (show z∈ks from hz);omega
theorem nO(hs:oV (.mk k nm i o ks)){y:PT}(hy:y∈ks):oV y:=by exact JG hs.2.2 hy
theorem CW(hs:oV (.mk k nm i o ks)):ks.length<=2000000:=by exact hs.2.1
theorem zm(is:IS d){b:PT}(hb:Fm .b b)(hd:gP b<=d+1)(hs:oV b)(hr:bE c b=true):RL 109 [.agg (bU b),cR c] (pB true):=by
 have gE:=hb
 cases hb with
 | @blk nm i o ks uI=>exact z6d gE (CW hs) fun y hy=>is y c (qN hd hy) (uI y hy) (nO hs hy) (vJ aN aN aN hr y hy)
theorem tr(ie:IE d)(hf:∀y∈ks,Fm .e y)(hd:gP (.mk k nm i o ks)<=d+1)(hs:oV (.mk k nm i o ks))(hr:∀y∈ks,bE c y=true):RL 88 [.ro 5 (bW ks),cR c] (pB true):=
 OK (CW hs) (fun y hy=>ie y c (qN hd hy) (hf y hy) (nO hs hy) (hr y hy)) rfl
theorem S8(is:IS d)(hf:Fm .e (.mk 11 nm i o ks))(hd:gP (.mk 11 nm i o ks)<=d+1)(hs:oV (.mk 11 nm i o ks))(hr:bE c (.mk 11 nm i o ks)=true):RL 90 [.agg (bU (.mk 11 nm i o ks))] (pB true):=by
 cases hf with
 | @fn _ _ _ ps b hp hb h1 h2 hn=>
  obtain⟨hh,hk⟩:=pd aN aN hr
  have jJ:oU (oR ps)=true:=by
   have:jM c 11 o (ps++[b])=oU (oR (ps++[b]).dropLast):=rfl
   grind
  have Mg:b∈ps++[b]:=dL
  have hz:=CW hs;rw[sD]at hz;exact xfb hp h1 h2 hn jJ oM (zm is hb (fK (qN hd Mg)) (nO hs Mg) (hk b Mg))
 |leaf hk=>omega
theorem QL(ie:IE d)(is:IS d){x:PT}(hd:gP x<=d+1)(hf:Fm .e x)(hs:oV x)(hr:bE c x=true):RL 82 [.agg (bU x),cR c] (pB true):=by
 have hf0:=hf
 cases hf with
 |int h=>exact xkj h
 |text h=>exact xfe (Tt h rfl)
 |ident h=>exact TQ (AJ h.1 h.2 (.inl rfl) rfl)
 |arr h=>exact xko (tr ie h hd hs (vJ aN aN aN hr))
 | @obj nm i o ks h=>
  have hk:=vJ aN aN aN hr
  refine xkg (z0h (CW hs) h (fun y hy z hz=>?_) rfl)
  have sF:=qN hd hy;have rO:=nO hs hy;have jn:=hk y hy
  cases h y hy with
  | @fld nm i o x hn hx=>exact ie z c (ND sF hz) (by rcases eV.1 hz with rfl;exact hx) (nO rO hz) (vJ aN aN aN jn z hz)
  | @cmp nm i o x y hx Cu=>exact ie z c (ND sF hz) (by rcases dX.1 hz with rfl|hz;exact hx;grind) (nO rO hz) (vJ aN aN aN jn z hz)
 |fn _ _ _ _ _=>exact TU (S8 is hf0 hd hs hr)
 | @un nm i o x hx h1 h2=>
  obtain⟨hh,hk⟩:=pd aN aN hr
  refine TP h1 h2 (ie x c (qN hd dL) hx (nO hs dL) (hk x dL)) ?_
  have:jM c 12 o [x]=(!(decide (o=5))||(decide (x.kind=18)||decide (x.kind=19))):=rfl
  grind
 | @bin nm i o x y hx hy h1 h2=>exact xkl h1 h2 (tr ie (fx hx (fx hy zo)) hd hs (vJ aN aN aN hr))
 | @log nm i o x y hx hy h1 h2=>exact xki h1 h2 (tr ie (fx hx (fx hy zo)) hd hs (vJ aN aN aN hr))
 | @cond nm i o x y z hx hy hz=>exact xfg (tr ie (fx hx (fx hy (fx hz zo))) hd hs (vJ aN aN aN hr))
 | @asg nm i o x y hx hy h1 h2=>
  obtain⟨hh,hk⟩:=pd aN aN hr
  have ht:=nK (Pv x);rw[show fy x=true from hh]at ht;exact xkn h1 h2 ht (tr ie (fx hx (fx hy zo)) hd hs (vJ aN aN aN hr))
 | @upd nm i o x hx h1=>
  obtain⟨hh,hk⟩:=pd aN aN hr
  have ht:=nK (Pv x);rw[show fy x=true from hh]at ht;exact xkf h1 ht (ie x c (qN hd dL) hx (nO hs dL) (hk x dL))
 | @mem nm i o x hx hn=>
  obtain⟨q,hq,h1,h2⟩:=hn;exact xkh (AJ h1 h2 (hq.imp id fun e=>⟨e,rfl⟩) rfl) (ie x c (qN hd dL) hx (nO hs dL) (vJ aN aN aN hr x dL))
 | @idx nm i o x y hx hy=>exact xkk (tr ie (fx hx (fx hy zo)) hd hs (vJ aN aN aN hr))
 | @call nm i o x ks hx hy=>exact Qx (.inl rfl) (bK _ _) (tr ie (fx hx hy) hd hs (vJ aN aN aN hr))
 | @new nm i o x ks hx hy=>exact Qx (.inr rfl) (bK _ _) (tr ie (fx hx hy) hd hs (vJ aN aN aN hr))
 | @yld nm i o x hx=>
  obtain⟨hh,hk⟩:=pd aN aN hr
  exact xke hh (ie x c (qN hd dL) hx (nO hs dL) (hk x dL))
 | @awt nm i o x hx=>
  obtain⟨hh,hk⟩:=pd aN aN hr
  exact xkm hh (ie x c (qN hd dL) hx (nO hs dL) (hk x dL))
 |leaf h=>exact xff h
theorem QM(ie:IE d){x:PT}(hd:gP x<=d+1)(hf:Fm .dc x)(hs:oV x)(hr:bE c x=true):RL 49 [.agg (bU x),cR c] (pB true):=by
 cases hf with
 | @dcl k nm i o ks hk dN h=>
  obtain⟨hh,fb⟩:=pd oM oM hr
  rw[aD oM]at fb
  refine QZ hk (z5z hk dN h (fun e y hy=>?_) (CW hs) fun y hy z hz=>?_)
  ·subst e;have e2:jM c 25 o ks=ks.all fun x=>!x.kids.isEmpty:=rfl
   grind
  ·have sF:=qN hd hy;have rO:=nO hs hy;have jn:=fb y hy
   cases h y hy with
   |d0 hn=>cases hz
   | @d1 nm i o x hn hx=>exact ie z c (ND sF hz) (by rcases eV.1 hz with rfl;exact hx) (nO rO hz) (vJ aN aN aN jn z hz)
end
section
variable{d:Nat}{k i o:Int}{nm:Bs}{ks:List PT}{c:Cx}{a x y f s t:PT}
theorem Hr(h:bE c (.mk 28 nm i o [a,x])=true):bE c a=true/\oD x=false/\bE c x=true:=by
 simp[bE,tX]at h;exact h
theorem Hq(h:bE c (.mk 28 nm i o [a,x,y])=true):lN x=false/\bE c a=true/\oD x=false/\bE c x=true/\oD y=false/\bE c y=true:=by
 simp[bE,tX,IY]at h;exact h
theorem U4(hk:k=29\/k=31)(h:bE c (.mk k nm i o [a,x])=true):bE c a=true/\oD x=false/\bE { c with lp:=true } x=true:=by
 rcases hk with rfl|rfl
 all_goals
  simp[bE,tX]at h;exact h
theorem xcl(h:bE c (.mk 30 nm i o [f,s,t,x])=true):bE c f=true/\bE c s=true/\bE c t=true/\oD x=false/\bE { c with lp:=true } x=true:=by
 simp[bE,tX]at h;exact h
theorem Fm.ne37(h:Fm .e x):x.kind≠37:=by
 cases h with
 |leaf hk=>simp only[PT.kind];omega
 |_=>simp[PT.kind]
theorem S7(ie:IE d)(hf:Fm .eo s)(hd:gP s<=d)(hs:oV s)(hr:bE c s=true):∃es,RL 86 [.agg (bU s)] (pB es)/\(es=false->RL 82 [.agg (bU s),cR c] (pB true)):=by
 cases hf with
 |eo0=>exact⟨true,nK Qv,nofun⟩
 |eo1 h=>exact⟨false,nK (Dv h.ne37),fun _=>ie s c hd h hs hr⟩
theorem TN(is:IS d)(hf:Fm .fi f)(hd:gP f<=d)(hs:oV f)(hr:bE c f=true):RL 85 [.agg (bU f),cR c] (pB true):=by
 refine z5h hf fun hk=>?_
 cases hf with
 |fi0=>exact absurd rfl hk
 |fi1 h=>exact is f c hd (.sd h) hs hr
 |fi2 h=>exact is _ c hd (.sx h) hs hr
theorem QK(ie:IE d)(is:IS d)(hd:gP x<=d+1)(hf:Fm .s x)(hs:oV x)(hr:bE c x=true):RL 49 [.agg (bU x),cR c] (pB true):=by
 cases hf with
 | @sx nm i o x hx=>exact Sw (.inl rfl) (ie x c (qN hd dL) hx (nO hs dL) (vJ aN aN aN hr x dL))
 | @st nm i o x hx=>exact Sw (.inr rfl) (ie x c (qN hd dL) hx (nO hs dL) (vJ aN aN aN hr x dL))
 | @if2 nm i o a x ha hx=>
  obtain⟨h1,h2,h3⟩:=Hr hr;exact xgz (ie a c (qN hd dL) ha (nO hs dL) h1) (KD h2 (is x c (qN hd dL) hx (nO hs dL) h3))
 | @if3 nm i o a x y ha hx hy=>
  obtain⟨h0,h1,h2,h3,h4,h5⟩:=Hq hr;have nD:=nK (Oh _ x (nR _) hx);rw[h0]at nD;exact xgy (ie a c (qN hd dL) ha (nO hs dL) h1) (KD h2 (is x c (qN hd dL) hx (nO hs dL) h3)) nD (KD h4 (is y c (qN hd dL) hy (nO hs dL) h5))
 | @whl nm i o a x ha hx=>
  obtain⟨h1,h2,h3⟩:=U4 (.inl rfl) hr;exact xgw (ie a c (qN hd dL) ha (nO hs dL) h1) (KD h2 (is x _ (qN hd dL) hx (nO hs dL) h3))
 | @fof nm i o a x hn ho ha hx=>
  obtain⟨h1,h2,h3⟩:=U4 (.inr rfl) hr;exact xg1 ho (AJ hn.1 hn.2 (.inl rfl) rfl) (ie a c (qN hd dL) ha (nO hs dL) h1) (KD h2 (is x _ (qN hd dL) hx (nO hs dL) h3))
 | @for_ nm i o f s t x h1 h2 h3 h4=>
  obtain⟨w1,w2,w3,w4,w5⟩:=xcl hr;obtain⟨es,e1,e2⟩:=S7 ie h2 (qN hd dL) (nO hs dL) w2
  obtain⟨et,e3,e4⟩:=S7 ie h3 (qN hd dL) (nO hs dL) w3
  exact xg0 (TN is h1 (qN hd dL) (nO hs dL) w1) e1 e2 e3 e4 (KD w4 (is x _ (qN hd dL) h4 (nO hs dL) w5))
 |ret0=>exact To (pd aN aN hr).1 (aP _) (tr ie zo hd hs (vJ aN aN aN hr))
 |ret1 hx=>exact To (pd aN aN hr).1 (nR _) (tr ie (fx hx zo) hd hs (vJ aN aN aN hr))
 |brk hk=>
  rw[bE,aF hk]at hr;exact xg4 hk hr
 |emp=>exact xg3
 |tr1 h=>
  have:=(pd aN aN hr).1
  cases this
 | @trc nm i o a x ha hx=>
  have hk:=vJ aN aN aN hr
  have wE:=qN hd (show x∈[a,x] by simp)
  have xG:=nO hs (show x∈[a,x] by simp)
  have Lc:=hk x dL
  cases hx with
  | @cat nm i o b hn hb=>exact H7 (Ss hn (zm is ha (fK (qN hd dL)) (nO hs dL) (hk a dL)) (zm is hb (fK (ND wE LM)) (nO xG dL) (vJ aN aN aN Lc b dL)) (.inl rfl))
 | @trf nm i o a f ha hf=>
  have hk:=vJ aN aN aN hr
  exact H7 (QN (by cases hf;rfl) (zm is ha (fK (qN hd dL)) (nO hs dL) (hk a dL)) (zm is hf (fK (qN hd dL)) (nO hs dL) (hk f dL)))
 | @tr3 nm i o a x f ha hx hf=>
  have hk:=vJ aN aN aN hr
  have wE:=qN hd (show x∈[a,x,f] by simp)
  have xG:=nO hs (show x∈[a,x,f] by simp)
  have Lc:=hk x dL
  cases hx with
  | @cat nm i o b hn hb=>exact H7 (Ss hn (zm is ha (fK (qN hd dL)) (nO hs dL) (hk a dL)) (zm is hb (fK (ND wE LM)) (nO xG dL) (vJ aN aN aN Lc b dL)) (.inr ⟨f,rfl,zm is hf (fK (qN hd dL)) (nO hs dL) (hk f dL)⟩))
 |sb h=>
  cases h with
  | @blk nm i o ks hk=>exact xg5 (F0 (CW hs) (fun y hy=>is y c (qN hd hy) (hk y hy) (nO hs hy) (vJ aN aN aN hr y hy)) rfl)
 |sd h=>exact QM ie hd h hs hr
 |sf h hn h2 h5=>exact QY hn h2 h5 (S8 is h hd hs hr)
theorem NV:∀d:Nat,IE d/\IS d
 |0=>⟨fun x c h=>by have:=AB x;omega,fun x c h=>by have:=AB x;omega⟩
 |d+1=>⟨fun x c hd hf hs hr=>QL (NV d).1 (NV d).2 hd hf hs hr,fun x c hd hf hs hr=>QK (NV d).1 (NV d).2 hd hf hs hr⟩
end
theorem xb9{ks:List PT}(hf:∀x∈ks,Fm .s x)(hs:oV (nd 42 ks))(hd:gP (nd 42 ks)<=512)(hr:dW lW ks=true):RL 9 [.agg (gO (nd 42 ks))] (pB true):=by
 have h1:=nK (OY _ (nd 42 ks) 512 (nR _) hs.wid aN)
 rw[aA (show((gP (nd 42 ks):Nat):Int)<=512 by omega)]at h1
 have h2:RL 23 [mM ks,cR lW] (pB true):=(F0 (CW hs) (fun y hy=>(NV 512).2 y lW (Nat.le_of_succ_le (by unfold nd at hd;rw[gP]at hd;have:=DU hy;omega)) (hf y hy) (nO hs hy) (Eh hr hy)) rfl).lo (.cons (Se ks (Hi ks)) (.refl _))
 unfold nd at h1 ⊢;rw[gO]at h1 ⊢;obtain⟨K,hK⟩:∃K,mM ks=K:=⟨_,rfl⟩
 rw[hK]at h1 h2 ⊢;have ok:al (.p K)=true:=by
  obtain⟨k,i,q,nm,K2,hv⟩:=zp (.mk 42 [] 0 0 ks)
  have:=hv.row
  rw[gO,hK]at this
  injection this with _ this
  injection this with _ this
  injection this with _ this
  injection this with _ this
  injection this with this _
  rw[this];exact hv.one
 obtain⟨T,hT⟩:∃T,bL ([]:Bs)=T:=⟨_,rfl⟩
 rw[hT]at h1 ⊢;unfold lW at h2;refine zA (fun _ _=>0) mA Tryz.func9 rfl kR rfl kR fun P G E hc hE=>?_
 replace h1:=hc _ _ _ h1;replace h2:=hc _ _ _ h2;clear hc hE hK hT;cbv;cbv at ok;cbv
 repeat (first|(simp only[ok];try cbv)|(refine⟨_,h1,?_⟩;cbv)|(refine⟨_,h2,?_⟩;cbv))
end Go.Proofs.YtjkcdcloomkooaaGreatDoor
