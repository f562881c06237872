/- Own work: walks and laws of the parser and its reference. -/
import Derived.Test.YtjkcdcloomkooaaGreatDoorQXX
import Derived.Tactics
import Derived.Tactics2
import Derived.Defers
import Derived.Recover
import Derived.WalkKit
set_option linter.unusedVariables false
set_option linter.unusedSimpArgs false
set_option linter.unusedSectionVars false
set_option maxHeartbeats 4000000
set_option maxRecDepth 100000
namespace Go.Proofs.YtjkcdcloomkooaaGreatDoor
open Go.RowKit
def zm(cs:List AV)(x y:AV)(t1 t2 t3:Option Nat)(K:AH):AH:=some (.box cs 25 t1)::some (.box [x] 3 t2)::some (.box [y] 26 t3)::K
abbrev zN:List AV:=[.p (pI 0),.p (pS ⟨#[]⟩),.p (pI 0),.p (pI 0),.p (.v (.slice none 0 0))]
abbrev zP:PV:=.agg [pI 0,pS ⟨#[]⟩,pI 0,pI 0,.v (.slice none 0 0)]
section
variable{P:Program}{ops:Array Oper}{Q:Exit->Act->World->Prop}{a:Act}{w w':World}{rest:List Oper}{o:Oper}
theorem sm{v:Value}(hw:Region.wanted o (yielded ops a.tmps)=true)(he:(execOp a.eval o).run P w=.ok (.value v) w')(h:wpList P ops Q rest (a.put o.dst v) w'):wpList P ops Q (o::rest) a w:=by
 exact H9
theorem xcd(hw:Region.wanted o (yielded ops a.tmps)=true)(he:(execOp a.eval o).run P w=.ok .skip w')(h:wpList P ops Q rest (a.put o.dst undef) w'):wpList P ops Q (o::rest) a w:=by
 exact H9
theorem z7h{d:Deferred}(hw:Region.wanted o (yielded ops a.tmps)=true)(he:(execOp a.eval o).run P w=.ok (.defer d) w')(h:wpList P ops Q rest ({ a with defers:=d::a.defers }.put o.dst undef) w'):wpList P ops Q (o::rest) a w:=by
 exact H9
end
theorem Mw{o:Oper}(h:o.guard=none)(y:Nat->Option Bool):Region.wanted o y=true:=by unfold Region.wanted;rw[h]
abbrev mi(c d e:Nat):Array Value:=#[.pointer (some ⟨c,0,none⟩),.pointer (some ⟨d,0,none⟩),.pointer (some ⟨e,0,none⟩)]
theorem Wp(c d e:Nat)(w:World):CallsD Tryz.prog 28 (mi c d e) .returning w fun e u' w'=>e=.returned (.tuple #[])/\u'=.returning/\w'=w:=by
 have eA:∀w:World,(binOp BinOp.neq 20 .nilIface .nilIface).run Tryz.prog w=.ok (.bool false) w:=fun _=>by kernel_rfl
 refine callsD_of_wpS Tryz.func28 rfl fun c₀ cs hu=>?_
 apply wpS_seq;apply wpS_region;simp[wpOpsS,go_sem,recoverD,hu,Tryz.ntmps28,Exit.thenS];apply wpS_seq;apply wpS_region;simp[wpOpsS,go_sem,eA,Exit.thenS];refine wpS_cond (t:=false) (by simp[Act.eval,Array.replicate]) ?_
 refine wpS_of_wp (wp_skip ?_)
 cases c₀
 simp_all[bodyPostS,results,Tryz.results28]
theorem eQ.ds{w0:cF}{B:Nat->Prop}{w:World}{ι:Pl}{H:AH}(h:eQ w0 B w ι H)(ds:List Deferred):eQ ⟨w0.w,w0.X,ds,w0.pin⟩ B w ι H:=
 ⟨⟨h.gr.os,h.gr.tape,h.gr.output,h.gr.size,h.gr.block⟩,h.fut,h.len,h.blk,h.inj⟩
theorem ul{w0:cF}{B:Nat->Prop}{w:World}{ι:Pl}{H:AH}(h:eQ w0 B w ι H){k c:Nat}{cs:List AV}{t:TypeId}(hk:H[k]?=some (some (.box cs t (some c)))):∃s,ι[k]?=some (some c,s):=by
 obtain⟨⟨c',s⟩,hp⟩:∃x,ι[k]?=some x:=⟨_,aB (by rw[h.len];grind)⟩
 obtain⟨⟨_,h1⟩,_⟩:=(h.blk k _ _ _ hk hp).2
 grind
theorem z4m{w0:cF}{B:Nat->Prop}{w:World}{ι:Pl}{c d e:Nat}{a0 a1 a2 a3 a4 x y:AV}(gJ:∀b,w0.own b->B b)(hR:eQ w0 B w ι (zm [a0,a1,a2,a3,a4] x y (some c) (some d) (some e) [none])):
  CallsD Tryz.prog 28 (mi c d e) (.panicking lO) w fun ex u' w'=>ex=.returned (.tuple #[])/\settle u'=.returning ∧
   ∃ι',eQ w0 B w' ι' (zm zN (.p (pI 0)) (.p (pI 4)) (some c) (some d) (some e) [none]):=by
 have eA:∀w:World,(binOp BinOp.neq 20 (.iface 56 (.agg #[])) .nilIface).run Tryz.prog w=.ok (.bool true) w:=fun _=>by kernel_rfl
 refine callsD_of_wpS Tryz.func28 rfl fun c₀ cs hu=>?_
 apply wpS_seq;apply wpS_region;simp[wpOpsS,go_sem,recoverD,hu,lO,Tryz.ntmps28,Exit.thenS];apply wpS_seq;apply wpS_region;simp[wpOpsS,go_sem,eA,Exit.thenS];refine wpS_cond (t:=true) (by simp[Act.eval,Array.replicate]) ?_
 refine wpS_of_wp ?_;refine wp_seq ?_;refine wp_seq ?_;refine wp_region_list ?_;refine sm (v:=.iface 56 (.agg #[])) (w':=w) kR kR ?_
 refine sm (v:=.tuple #[.agg #[],.bool true]) (w':=w) kR kR ?_
 refine sm (v:=.tuple #[.agg #[],.bool true]) (w':=w) kR kR ?_
 refine sm (v:=.agg #[]) (w':=w) kR kR ?_
 refine sm (v:=.bool true) (w':=w) kR kR ?_
 refine sm (v:=.pointer (some ⟨w.heap.size,0,none⟩)) (w':=w.alloc (.cells #[] 56)) kR kR ?_
 refine xcd (w':=w.alloc (.cells #[] 56)) kR kR ?_
 refine sm (v:=.bool true) (w':=w.alloc (.cells #[] 56)) kR kR ?_
 refine wp_seq ?_;refine wp_region_list ?_;refine sm (v:=.bool true) (w':=w.alloc (.cells #[] 56)) kR kR ?_
 refine sm (v:=.bool false) (w':=w.alloc (.cells #[] 56)) kR kR ?_
 refine wp_cond (t:=false) kR ?_
 simp only[aM,bT];refine wp_skip ?_;have uX:Gr w (w.alloc (.cells #[] 56)):=(Below.refl _ w).alloc (nR _) _;have oK:=(hR.grow uX).ds [];obtain⟨s1,i1⟩:=ul oK (k:=0) rfl;obtain⟨s2,i2⟩:=ul oK (k:=1) rfl;obtain⟨s3,i3⟩:=ul oK (k:=2) rfl;generalize w.alloc (.cells #[] 56)=W at oK ⊢;have cS:=oK.pin (fun _=>none)
 suffices hS:∀A:Act,A.defers=[]->A.tmps.size=18->A.tmps[0]?=some (.pointer (some ⟨c,0,none⟩))->A.tmps[1]?=some (.pointer (some ⟨d,0,none⟩))->A.tmps[2]?=some (.pointer (some ⟨e,0,none⟩))->St ⟨w0.w,w0.X,[],fun _=>none⟩ B 18 ([.own 0 0,.own 1 0,.own 2 0]++List.replicate 15 .junk) (zm [a0,a1,a2,a3,a4] x y (some c) (some d) (some e) [none]) A W by
  refine wp_mono (o4 (w0:=⟨w0.w,w0.X,[],fun _=>none⟩) (G:=G0) (B:=B) (nt:=18) aN (fun w' _=>trivial) gJ mixed (fun _=>0) _ (iv (fun _=>rfl) _) kR (fun ex env H=>ex=.normal/\H=zm zN (.p (pI 0)) (.p (pI 4)) (some c) (some d) (some e) [none]) ([.own 0 0,.own 1 0,.own 2 0]++List.replicate 15 .junk) (zm [a0,a1,a2,a3,a4] x y (some c) (some d) (some e) [none]) _ W ?_ (hS _ kR kR kR kR kR)) ?_
  ·cbv
  ·rintro ex a2 w2 ⟨env2,H2,⟨rfl,rfl⟩,u7⟩
   obtain⟨ι2,cS,ct⟩:=u7.rep;have zE:=u7.defers;refine⟨zE,.panicking [{ v:=.iface 56 (.agg #[]),recovered:=true }],rfl,.tuple #[],by simp[results,Tryz.results28],rfl,rfl,ι2,?_⟩
   exact(cS.ds w0.ds).pin w0.pin
 intro A hA1 W6 h0 h1 h2;refine⟨hA1,W6,(fun t v h=>by cases h),ι,cS,?_,fun t z v hz hv=>?_⟩
 ·rw[W6];rfl
 ·match t,hz,hv with
  |0,hz,hv=>rw[h0]at hv;cases hz;cases hv;exact .own _ _ _ _ i1
  |1,hz,hv=>rw[h1]at hv;cases hz;cases hv;exact .own _ _ _ _ i2
  |2,hz,hv=>rw[h2]at hv;cases hz;cases hv;exact .own _ _ _ _ i3
  |t+3,hz,hv=>
   have pi:(List.replicate 15 AV.junk)[t]?=some z:=hz
   have:z=.junk:=by
    grind
   subst this;exact .junk v
theorem eQ.tag{w0:cF}{B:Nat->Prop}{w:World}{ι:Pl}{H:AH}(h:eQ w0 B w ι H){k c:Nat}{s:Nat×Nat}{cs:List AV}{t:TypeId}(hk:H[k]?=some (some (.box cs t none)))(hi:ι[k]?=some (some c,s)):
  eQ w0 B w ι (H.set k (some (.box cs t (some c))))/\bQ none w ι (Rd B ι H) w ι (Rd B ι (H.set k (some (.box cs t (some c))))):=by
 have lI:=(aC.1 hk).1;have hS:∀i b,(H.set k (some (.box cs t (some c))))[i]?=some (some b)->∃b',H[i]?=some (some b'):=fun i b hb=>by
  rw[bX]at hb
  split at hb
  ·rename_i e;subst e;exact⟨_,hk⟩
  ·exact⟨_,hb⟩
 have iH:bQ none w ι (Rd B ι H) w ι (Rd B ι (H.set k (some (.box cs t (some c))))):=⟨nR _,fun b hb _=>⟨⟨hb.1,fun⟨i,b',s',h1,h2⟩=>by
  obtain⟨b0,h0⟩:=hS i b' h1;exact hb.2 ⟨i,b0,s',h0,h2⟩⟩,rfl⟩,fun _ _ _ _ h=>h⟩
 refine⟨⟨h.gr,h.fut,by simp[h.len],fun i b c' s' h1 h2=>?_,fun i j b b' c' s1 s2 h1 h2 h3 h4=>?_⟩,iH⟩
 ·by_cases e:i=k
  ·subst e;rw[mD lI]at h1
   cases h1
   rw[hi]at h2
   cases h2
   obtain⟨g1,⟨g2,_⟩,g3⟩:=h.blk i _ _ _ hk hi;refine⟨g1,⟨g2,fun n e=>by cases e;rfl⟩,?_⟩
   obtain⟨c'',arr,e,e1,e2,e3⟩:=g3;exact⟨c'',arr,e,e1,e2,fun j a ha=>by
    obtain⟨v,hv,vW,hr⟩:=e3 j a ha;exact⟨v,hv,vW,hr.keep0 iH⟩⟩
  ·rw[nU (iQ e)]at h1;exact⟨(h.blk i b c' s' h1 h2).1,(h.blk i b c' s' h1 h2).2.keep0 iH fun _ _=>rfl⟩
 ·obtain⟨b0,g1⟩:=hS i b h1;obtain⟨b1,g2⟩:=hS j b' h2;exact h.inj i j b0 b1 c' s1 s2 g1 g2 h3 h4
theorem Mo{P:Program}{G:World->Prop}{T:TT}{nt:Nat}(hT:gY P T)(hm:P.follows .mixedOrders=true){kOf:Nat->Nat}{mOf:Nat->List Nat}{lo:Nat->Nat->Nat}{w0:cF}{B:Nat->Prop}(hG:∀w,tR w0 w->G w)(hB:∀b,w0.own b->B b){R:List AV->AH->Prop}{Q:Exit->List AV->AH->Prop}{F:Exit->Act->World->Prop}(hF:∀e a w,e ≠ .normal->rT w0 B nt Q e a w->F e a w):∀(k:Nat)(c:Code),fg w0 c->yB nt kOf mOf lo (wO k c)=true->(∀env H a w,R env H->St w0 B nt env H a w->(kf k c).wp P F a w) →
  ∀(env:List AV)(H:AH)(a:Act)(w:World),vN P G bK T kOf mOf lo (wO k c) (nB R Q) env H->St w0 B nt env H a w->c.wp P F a w
 |0,c,_,_,hR,env,H,a,w,h,hS=>hR env H a w h hS
 |k+1,c,fW,cU,hR,env,H,a,w,h,hS=>by
  cases c with
  |seq x y=>
   simp only[wO,yB,gH]at cU;refine wp_seq (wp_mono (sq hT hG hB hm kOf mOf lo x fW.1 cU.1 _ env H a w h hS) ?_)
   rintro e a w ⟨env,H,h,hS⟩
   cases e with
   |normal=>exact Mo hT hm hG hB hF k y fW.2 cU.2 hR env H a w h hS
   |_=>exact hF _ a w jT ⟨env,H,h,hS⟩
  |_=>exact False.elim h
inductive SB(c d e:Nat):AH->Prop
 |mk (a0 a1 a2 a3 a4 x y:AV):SB c d e (zm [a0,a1,a2,a3,a4] x y (some c) (some d) (some e) [none])
def Qp(E:SO)(c d g:Nat)(r:PV)(e:Exit)(env:List AV)(H:AH):Prop:=
 match e with
 | .ret=>jF E cK Tryz.f11.results.toList r .ret env H
 | .normal=>jF E cK Tryz.f11.results.toList r .ret env H
 | .panic ch=>ch=lO/\r=.tup [zP,pI 0,pI 4]/\env.getD 4 .junk=.own 0 0/\env.getD 5 .junk=.own 1 0/\env.getD 6 .junk=.own 2 0/\SB c d g H
 |_=>False
def JF(c d e:Nat):Deferred:=⟨.fn (.func 28) (mi c d e),#[]⟩
abbrev DI(g:FuncId)(p:PV):List AV:=[.p (.v (.func (.func g) #[] #[])),.own 0 0,.own 1 0,.own 2 0,.p p]
abbrev vu(c d e:Option Nat):AH:=zm zN (.p (pI 0)) (.p (pI 0)) c d e []
theorem Bv{w:World}{ι:Pl}{R:Nat->Prop}{k c:Nat}{s:Nat×Nat}{v:Value}(h:dD w ι R (.own k 0) v)(hi:ι[k]?=some (some c,s)):v=.pointer (some ⟨c,0,none⟩):=by
 cases h with
 |own _ _ c' s' h=>grind
theorem Cb{w:World}{ι:Pl}{R:Nat->Prop}{k:Nat}{v:Value}(h:dD w ι R (.own k 0) v):∃c s,v=.pointer (some ⟨c,0,none⟩)/\ι[k]?=some (some c,s):=by
 cases h with
 |own _ _ c s h=>grind
theorem Xn{g:FuncId}{s p r:PV}{HI:Prop}(kOf:Nat->Nat)(mOf:Nat->List Nat)(lo:Nat->Nat->Nat){c0 rest:Code}{rid:Nat}{o1 o2:Oper}(hb:Tryz.f11.body=some c0)(ht:kf 4 c0=.seq (.region rid #[o1,o2] false) rest)
  (ao:o1.op=.makeFunc (.func 28) #[] #[.tmp 4,.tmp 5,.tmp 6]) (nF:o1.dst=some 23) (J7:o1.guard=none) (vZ:o2.op=.defer { callee:=.value (.tmp 23),args:=#[],argTypes:=#[] }) (zE:o2.dst=none) (oV:o2.guard=none)
  (tu:yB 47 kOf mOf lo (wO 4 c0)=true) (yZ:yB 47 kOf mOf lo rest=true)
  (h0:∀(P':Program)(G':World->Prop)(E:SO),(∀f l r,fX Tryz.prog GL f l r->fX P' G' f l r)->E=bK →
   vN P' G' E cK kOf mOf lo (wO 4 c0) (nB (lZ 47 [1,4,5,6,7] 3 (fun _:Unit=>DI g p) (fun _=>vu none none none) fun _=>HI) (jF E cK Tryz.f11.results.toList r)) (.p s :: .p (.v (.func (.func g) #[] #[]))::List.replicate 45 (.p (.v undef))) [])
  (h1:HI->∀(P':Program)(G':World->Prop)(E:SO),(∀f l r,fX Tryz.prog GL f l r->fX P' G' f l r)->(∀f xs H r H',jP Tryz.prog GL f xs H r H'->jP P' G' f xs H r H')->E=bK->∀t1 t2 t3:Nat,
   vN P' G' E cK kOf mOf lo rest (Qp E t1 t2 t3 r) ((qN [1,4,5,6,7] (DI g p) 47 0).set 23 .junk) (vu (some t1) (some t2) (some t3))):RL 11 [s,.v (.func (.func g) #[] #[])] r:=by
 refine⟨za Tryz.func11 hb kR,fun w B args hG hlen dW=>?_⟩
 refine calls_of_wp_defers Tryz.func11 hb ?_;have gJ:∀b,(cF.of w).own b->B b\/w.heap.size<=b:=fun b hb=>hb.elim (fun h=>h.elim) .inr
 have hS:St (cF.of w) (fun b=>B b\/w.heap.size<=b) 47 (.p s :: .p (.v (.func (.func g) #[] #[]))::List.replicate 45 (.p (.v undef))) [] { tmps:=args.toArray++Array.replicate (47-args.toArray.size) undef,defers:=[] } w:=by
  refine⟨rfl,?_,(fun t v h=>by cases h),[],⟨.of (Gr.refl _),fun b hb=>.inr hb,rfl,fun k b c s h1=>by simp at h1,fun k l b b' c s s' h1=>by simp at h1⟩,?_⟩
  ·grind
  ·have:=MG (w:=w) (ι:=[]) (R:=Rd (fun b=>B b\/w.heap.size<=b) [] []) (args:=args) (nt:=47) (show([AV.p s,AV.p (.v (.func (.func g) #[] #[]))]:List AV).length<=47 by simp) (by simpa using hlen) fun j x v ha hv=>by
    have hk:∀z:PV,cE w (fun b=>B b) z v->dD w [] (Rd (fun b=>B b\/w.heap.size<=b) [] []) (.p z) v:=fun z hz=>.p _ _ (hz.keep (nR _) fun b hb _=>⟨⟨.inl hb,by
     rintro⟨k,b',s,h1,_⟩
     simp at h1⟩,rfl⟩)
    grind
   exact pc
 have rf:∀w',tR (cF.of w) w'->GL w':=fun w' hg=>kH _ _ hg.gr hG
 have fin0:∀(a2:Act)(w2:World)(ι2:Pl)(env:List AV)(H:AH)(w0:cF),w0.w=w->(∀b,w0.own b->B b\/w.heap.size<=b)->Gr w w2->eQ w0 (fun b=>B b\/w.heap.size<=b) w2 ι2 H->nJ w2 ι2 (Rd (fun b=>B b\/w.heap.size<=b) ι2 H) env a2.tmps->jF bK cK Tryz.f11.results.toList r .ret env H->∃v,(results Tryz.f11 a2.tmps).run Tryz.prog w2=.ok v w2/\Gr w w2/\oe w2 (fun b=>B b\/w.heap.size<=b) r (.returned v):=by
  intro a2 w2 ι2 env H w0 _ m5 uX cS ct h;obtain⟨x,v,hx,dN,hv⟩:=IJ (K:=fun a=>bu bK H a fun p=>p=r) aN cS ct h
  obtain⟨p,rfl,hp⟩:=IA cS m5 x v _ hx hv;exact⟨v,dN,uX,.ret hp⟩
 refine Mo (w0:=cF.of w) (nt:=47) aN mixed rf gJ (Q:=jF bK cK Tryz.f11.results.toList r) ?_ 4 c0 (iv (fun _=>rfl) _) tu ?_ _ _ _ w (h0 Tryz.prog GL bK (fun _ _ _ h=>h) rfl) hS
 ·rintro e a2 w2 he ⟨env,H,hQ,n9⟩
  obtain⟨ι2,cS,ct⟩:=n9.rep;have uX:Gr w w2:=cS.gr.gr
  cases e with
  |ret=>
   obtain⟨v,h1,h2⟩:=fin0 a2 w2 ι2 env H _ rfl gJ uX cS ct hQ;show Leaves _ _ _ _ a2.defers .returning w2;rw[n9.defers];exact⟨v,h1,h2⟩
  |normal=>exact absurd rfl he
  |exit id=>cases hQ
  |goto l=>cases hQ
  |panic ch=>
   show Leaves _ _ _ _ a2.defers (.panicking ch) w2;rw[n9.defers];have hr:r=.pan ch:=hQ;subst hr;exact⟨uX,rfl⟩
  |outgrown=>cases hQ
 intro env1 H1 a1 w1 Jc eh;obtain⟨hHI,Jn⟩:HI/\St (cF.of w) (fun b=>B b\/w.heap.size<=b) 47 (qN [1,4,5,6,7] (DI g p) 47 0) (vu none none none) a1 w1:=by
  obtain⟨ι,hR,hE⟩:=eh.rep
  cases Jc with
  |mk y hh hI=>exact⟨hI,eh.defers,eh.size,eh.pin,hh.wk _ _ w1 ι a1.tmps gJ hR hE⟩
  |wk y env2 H2 hw hh hI=>exact⟨hI,eh.defers,eh.size,eh.pin,(hw.trans hh.wk) _ _ w1 ι a1.tmps gJ hR hE⟩
 obtain⟨ι,hR,hE⟩:=Jn.rep;rw[ht];obtain⟨c,sc,v4,i1⟩:=Cb (hE.eval (.tmp 4));obtain⟨d,sd,v5,i2⟩:=Cb (hE.eval (.tmp 5));obtain⟨e,se,v6,i3⟩:=Cb (hE.eval (.tmp 6));obtain⟨hRa,hka⟩:=hR.tag (k:=0) rfl i1;obtain⟨rc,FM⟩:=hRa.tag (k:=1) rfl i2;obtain⟨r9,hkc⟩:=rc.tag (k:=2) rfl i3;have J4:bQ none w1 ι (Rd (fun b=>B b\/w.heap.size<=b) ι (vu none none none)) w1 ι (Rd (fun b=>B b\/w.heap.size<=b) ι (vu (some c) (some d) (some e))):=⟨nR _,fun b hb hl=>⟨(hkc.read b (FM.read b (hka.read b hb hl).1 hl).1 hl).1,rfl⟩,fun _ _ _ _ h=>h⟩
 have hmf:∀(fn:Go.Fn)(first cap:Array Value)(w:World),(Instr.makeFunc fn first cap).run Tryz.prog w=.ok (.func fn first cap) w:=fun _ _ _ _=>rfl
 refine wp_seq (wp_region_list ?_);refine sm (v:=.func (.func 28) #[] (mi c d e)) (w':=w1) (Mw J7 _) (by simp[execOp,ao,v4,v5,v6,hmf]) ?_
 rw[nF];have dM:a1.tmps.size=47:=Jn.size;have h9:(a1.put (some 23) (.func (.func 28) #[] (mi c d e))).eval (.tmp 23)=.func (.func 28) #[] (mi c d e):=by
  simp[Act.eval,Act.put,fH,dM]
 refine z7h (d:=JF c d e) (w':=w1) (Mw oV _) (by simp[execOp,vZ,resolve,h9,Deferred.ofValue,JF]) ?_
 rw[zE];have Iq:=hE.put (d:=some 23) (a:=a1) (x:=.junk) (v:=.func (.func 28) #[] (mi c d e)) J4 (.junk _);have u7:St ⟨w,fun _=>False,[JF c d e],fun _=>none⟩ (fun b=>B b\/w.heap.size<=b) 47 ((qN [1,4,5,6,7] (DI g p) 47 0).set 23 .junk) (vu (some c) (some d) (some e))
  (Act.put { a1.put (some 23) (.func (.func 28) #[] (mi c d e))with defers:=JF c d e::a1.defers } none undef) w1:=
  ⟨by have:=Jn.defers;rw[this];rfl,by simpa [Act.put]using dM,(fun t v h=>by cases h),ι,r9.ds _,Iq⟩
 have m5:∀b,(cF.mk w (fun _=>False) [JF c d e] fun _=>none).own b->B b\/w.heap.size<=b:=gJ
 refine wp_mono (sq (w0:=⟨w,fun _=>False,[JF c d e],fun _=>none⟩) aN (fun w' hg=>kH _ _ ⟨hg.os,hg.tape,hg.output,hg.size,fun k hk=>hg.block k hk id⟩ hG) m5 mixed kOf mOf lo rest (iv (fun _=>rfl) _) yZ _ _ _ _ w1 (h1 hHI Tryz.prog GL bK (fun _ _ _ h=>h) (fun _ _ _ _ _ h=>h) rfl c d e) u7) ?_
 rintro ex a2 w2 ⟨env,H,hQ,n9⟩
 obtain⟨ι2,cS,ct⟩:=n9.rep;have hinv:∀w2,(invoke (.fn (.func 28) (mi c d e)) #[]).run Tryz.prog w2=.ok (.enter 28 (mi c d e)) w2:=fun w2=>by
  simp[invoke,Ea Tryz.func28 kR kR]
 have uX:Gr w w2:=⟨cS.gr.os,cS.gr.tape,cS.gr.output,cS.gr.size,fun k hk=>cS.gr.block k hk id⟩
 have fin:jF bK cK Tryz.f11.results.toList r .ret env H->Leaves Tryz.prog Tryz.f11 a2.tmps (fun e w'=>Gr w w'/\oe w' (fun b=>B b\/w.heap.size<=b) r e) a2.defers .returning w2:=by
  intro h;rw[n9.defers];refine leaves_cons (f:=28) (args:=mi c d e) jT (hinv w2) ?_
  refine(Wp c d e w2).mono ?_
  rintro e u' w' ⟨rfl,rfl,rfl⟩
  exact fin0 a2 w' ι2 env H _ rfl m5 uX cS ct h
 cases ex with
 |ret=>exact fin hQ
 |normal=>exact fin hQ
 |exit id=>cases hQ
 |goto l=>cases hQ
 |panic ch=>
  obtain⟨rfl,rfl,q2,q3,q4,⟨a0,a1,a2',a3,a4,x,y⟩⟩:=hQ;obtain⟨s1,j1⟩:=ul cS (k:=0) rfl;obtain⟨s2,j2⟩:=ul cS (k:=1) rfl;obtain⟨s3,j3⟩:=ul cS (k:=2) rfl;have t4:a2.eval (.tmp 4)=.pointer (some ⟨c,0,none⟩):=Bv (by have h:=ct.eval (.tmp 4);have e:bO env (.tmp 4)=.own 0 0:=q2;rw[e]at h;exact h) j1
  have t5:a2.eval (.tmp 5)=.pointer (some ⟨d,0,none⟩):=Bv (by have h:=ct.eval (.tmp 5);have e:bO env (.tmp 5)=.own 1 0:=q3;rw[e]at h;exact h) j2
  have t6:a2.eval (.tmp 6)=.pointer (some ⟨e,0,none⟩):=Bv (by have h:=ct.eval (.tmp 6);have e':bO env (.tmp 6)=.own 2 0:=q4;rw[e']at h;exact h) j3
  show Leaves Tryz.prog Tryz.f11 a2.tmps _ a2.defers (.panicking lO) w2;rw[n9.defers];refine leaves_cons (f:=28) (args:=mi c d e) jT (hinv w2) ?_
  refine(z4m m5 cS).mono ?_
  rintro ex u' w' ⟨rfl,hu,ι3,qL⟩
  simp only;rw[hu];obtain⟨s1,k1⟩:=ul qL (k:=0) rfl;obtain⟨s2,k2⟩:=ul qL (k:=1) rfl;obtain⟨s3,k3⟩:=ul qL (k:=2) rfl;have J6:Gr w w':=⟨qL.gr.os,qL.gr.tape,qL.gr.output,qL.gr.size,fun k hk=>qL.gr.block k hk id⟩
  refine fin0 a2 w' ι3 ([.junk,.junk,.junk,.junk,.own 0 0,.own 1 0,.own 2 0]++List.replicate 40 .junk) _ _ rfl m5 J6 qL ⟨?_,fun t z v hz hv=>?_⟩ ?_
  ·rw[n9.size];rfl
  ·match t,hz with
   |0,hz=>cases hz;exact .junk _
   |1,hz=>cases hz;exact .junk _
   |2,hz=>cases hz;exact .junk _
   |3,hz=>cases hz;exact .junk _
   |4,hz=>
    cases hz
    have:a2.eval (.tmp 4)=v:=Gq
    rw[<-this,t4];exact .own _ _ _ _ k1
   |5,hz=>
    cases hz
    have:a2.eval (.tmp 5)=v:=Gq
    rw[<-this,t5];exact .own _ _ _ _ k2
   |6,hz=>
    cases hz
    have:a2.eval (.tmp 6)=v:=Gq
    rw[<-this,t6];exact .own _ _ _ _ k3
   |t+7,hz=>
    have pi:(List.replicate 40 AV.junk)[t]?=some z:=hz
    have:z=.junk:=by
     grind
    subst this;exact .junk v
  ·cbv
 |outgrown=>cases hQ
theorem Cn(q:UInt8):∀(n:Nat)(l t r:Bs),yK uB q n l=some (t,r)->t.length+4*r.length<=4*l.length
 |0,_,_,_,h=>by cases h
 |n+1,[],_,_,h=>by cases h
 |n+1,c::l,t,r,h=>by
  rw[yK]at h
  split at h
  ·grind
  ·split at h
   ·cases h
   ·split at h
    ·cases he:jR uB l with
     |none=>rw[he]at h;cases h
     |some p=>
      rw[he]at h;simp only[B7]at h;obtain⟨z,hz,h2⟩:=h
      cases h2
      have h3:=Cn q n p.2 z.1 z.2 hz;have h4:=Eb (t:=p.1) (r:=p.2) he;have h5:=HK uB he
      grind
    ·simp only[B7]at h;obtain⟨z,hz,h2⟩:=h
     cases h2
     have h3:=Cn q n l z.1 z.2 hz
     grind
theorem z5m{l t r:Bs}{k:Int}(h:jQ uB gD l=.ok k t r):t.length<=16*l.length:=by
 cases l with
 |nil=>cases h
 |cons c l=>
  rcases dP (k=4)with hk|hk
  ·subst hk;rw[jQ]at h
   split at h
   ·grind
   ·split at h
    ·unfold rJ at h
     grind
    ·split at h
     ·cases hl:lit uB c l with
      |none=>rw[hl]at h;cases h
      |some z=>
       rw[hl]at h
       cases h
       have h1:=Cn c l.length l z.1 z.2 hl;have h2:=Nl z.1
       grind
     grind
  ·have h1:=aG List.length (Yb uB gD h hk)
   grind
theorem Kb:∀(n:Nat)(l:Bs){ts:List Tk}{er:Option (Nat×Int)},qW uB gD n l=(ts,er)->ts.length<=l.length
 |0,_,_,_,h=>by cases h;exact aP _
 |n+1,l,ts,er,h=>by
  have hle:=HG l;rw[qW]at h
  split at h
  ·grind
  ·split at h
   ·grind
   ·split at h
    ·grind
    ·rename_i k t r ht
     cases h
     have h2:=HF uB gD ht;have h1:=Kb n r (ts:=(qW uB gD n r).1) (er:=(qW uB gD n r).2) rfl
     grind
theorem Km{p:UInt8->Bool}:∀(l:Bs),∀c∈l.takeWhile p,p c=true
 |[],c,h=>by cases h
 |x::l,c,h=>by
  rw[List.takeWhile_cons]at h
  split at h
  ·rename_i hp
   rcases fJ.1 h with rfl|h
   ·exact hp
   ·exact Km l c h
  ·cases h
theorem xgx{w:Bs}(h:mh w=true):brk w=0:=by
 have key:∀w∈YZ,brk w=0:=aT
 unfold mh at h;obtain⟨v,hv,he⟩:=fQ.1 h;have e:v=w:=RB
 exact e ▸ key v hv
structure RZ(t:Tk)(L:Nat):Prop where
 z:t.t.length<=16*L
 n:t.k=3->(∀c∈t.t,eH c=true)/\t.t≠[]/\lC t.t<9223372036854775808
 k:YS t
theorem RZ.le{t:Tk}{L M:Nat}(h:RZ t L)(hl:L<=M):RZ t M:=⟨by have:=h.z;omega,h.n,h.k⟩
theorem NW{l t r:Bs}{k:Int}{m:Nat}(h:jQ uB gD l=.ok k t r):RZ ⟨k,t,m⟩ l.length:=by
 refine⟨z5m h,fun hk=>?_,fun hk=>?_⟩
 ·cases l with
  |nil=>cases h
  |cons c l=>
   rw[jQ]at h
   split at h
   ·grind
   ·split at h
    ·rename_i hd;unfold rJ at h
     split at h
     ·cases h
     ·split at h
      ·cases h
      ·split at h
       ·cases h
       ·injection h with h1 h2 h3
        subst h2;refine⟨Km _,?_,by simp only;omega⟩
        simp_all
    grind
 ·subst hk
  cases l with
  |nil=>cases h
  |cons c l=>
   rw[jQ]at h
   split at h
   ·injection h with h1 h2 h3
    subst h2
    split at h1
    ·rename_i hw;exact xgx hw
    omega
   ·split at h
    ·unfold rJ at h
     grind
    grind
theorem P6:∀(n:Nat)(l:Bs){ts:List Tk}{er:Option (Nat×Int)},qW uB gD n l=(ts,er)->∀x∈ts,RZ x l.length
 |0,_,_,_,h,x,hx=>by cases h;cases hx
 |n+1,l,ts,er,h,x,hx=>by
  have hle:=HG l;rw[qW]at h
  split at h
  ·cases h;cases hx
  ·split at h
   ·cases h;cases hx
   ·split at h
    ·cases h;cases hx
    ·rename_i k t r ht
     cases h
     have h2:=HF uB gD ht
     rcases fJ.1 hx with rfl|hx
     ·exact(NW ht).le hle
     ·exact(P6 n r (ts:=(qW uB gD n r).1) (er:=(qW uB gD n r).2) rfl x hx).le oM
theorem C6{l:Bs}{ts:List Tk}{e:Option (Nat×Int)}(h:mO l=(ts,e)):ts.length<=l.length:=Kb _ _ (show qW uB gD (l.length+1) l=_ from h)
theorem Kj{l:Bs}{n:Int}{ts:List Tk}{e:Option (Nat×Int)}(h:mO l=(ts,e))(hl:l.length<=60000):bE n (ts.map er) (lF n ts) 0 (ts.map er):=by
 have hf:=P6 _ _ (show qW uB gD (l.length+1) l=_ from h);have hc:=C6 h;refine⟨by omega,by omega,rfl,⟨ts,rfl,rfl⟩,by grind,fun t ht=>?_,fun t ht=>?_⟩
 ·obtain⟨x,hx,rfl⟩:=iB.1 ht;show x.t.length<=1000000
  have:=(hf x hx).z
  omega
 ·obtain⟨x,hx,rfl⟩:=iB.1 ht;exact(hf x hx).n
section
variable{n:Int}{toks:List Tk}{LR:List (List PV)}{l:Ts}
theorem xc5{a b:Int}{k i q:Int}{nm:ByteArray}{K:PV}(hK:yM (.p K)=true)(h:MP 25 [.own 0 0] [aX LR a jC] (.p (.agg [pI k,pS nm,pI i,pI q,K])) [aX LR b jC]):
  MP 24 [.own 0 0] [aX LR a jC] (.p (.agg [pI k,pS nm,pI i,pI q,K])) [aX LR b jC]:=by
 refine gS aN (f:=24) Tryz.func24 rfl kR (oT kR) fun tags bS=>?_
 match tags,bS with
 |[t0],_=>
  refine aY.of aN mixed (fun _=>0) kR (fun E=>eU E cK Tryz.f24.results.toList [t0] (.p (.agg [pI k,pS nm,pI i,pI q,K])) [aX LR b jC]) fun P G E hc hM hE=>?_
  cbv at hK;cbv;refine .z [0] (hM _ _ _ _ _ h) rfl rfl rfl ?_;cbv;simp only[hK];cbv;all_goals trivial
theorem z8h{a:Int}(h:MP 25 [.own 0 0] [aX LR a jC] (.p (.pan lO)) [none]):
  MP 24 [.own 0 0] [aX LR a jC] (.p (.pan lO)) [none]:=by
 refine gS aN (f:=24) Tryz.func24 rfl kR (oT kR) fun tags bS=>?_
 match tags,bS with
 |[t0],_=>
  refine aY.of aN mixed (fun _=>0) kR (fun E=>eU E cK Tryz.f24.results.toList [t0] (.p (.pan lO)) [none]) fun P G E hc hM hE=>?_
  cbv;refine .z [0] (hM _ _ _ _ _ h) rfl rfl rfl ?_;cbv;all_goals trivial
structure I6(g:FuncId)(LR:List (List PV))(toks:List Tk)(o:Option (PT×Nat)):Prop where
 bad:o=none->MP g [.own 0 0] [aX LR 0 jC] (.p (.pan lO)) [none]
 good:∀x m,o=some (x,m)->∃k i q nm K,iX x k i q nm K/\jO x/\m<=toks.length/\MP g [.own 0 0] [aX LR 0 jC] (.p (.agg [pI k,pS nm,pI i,pI q,K])) [aX LR (((toks.length:Nat):Int)-(m:Nat)) jC]
def j5(l:Ts):Option (PT×Nat):=match ev (.assign jC l)with
 |some (some (.nd x,l'))=>some (x,l'.length)
 |_=>none
def DF(l:Ts):Option (PT×Nat):=(GZ l).map fun ks=>(nd 42 ks,0)
theorem z8g(h:bE n toks LR 0 toks):I6 24 LR toks (j5 toks):=by
 have hl:toks.length<=1000000:=h.z
 rcases iD.nd (C3 _ (.assign jC toks) (oy _)) rfl rfl h with⟨h1,h2⟩|⟨x,l',b,k,i,q,nm,KK,h1,h2,h3,h4,h5⟩
 ·have e:j5 toks=none:=by unfold j5;rw[h1]
  rw[e];exact⟨fun _=>z8h h2,fun _ _ h=>by cases h⟩
 ·have e:j5 toks=some (x,l'.length):=by unfold j5;rw[h1]
  rw[e];refine⟨fun h=>(by cases h),fun y m h'=>?_⟩
  cases h'
  refine⟨k,i,q,nm,KK,h3,?_,by have:=h2.h1;have:=h2.h0;omega,?_⟩
  ·exact Bt _ (.assign jC toks) (oy _) ⟨hl,trivial⟩ _ _ h1
  ·rw[h2.place];exact xc5 h3.one h5
theorem xal(h:bE n toks LR 0 toks):I6 12 LR toks (DF toks):=by
 have hm:=z5v h;have hz:=h.z;unfold DF
 cases hs:GZ toks with
 |none=>
  rw[hs]at hm;exact⟨fun _=>hm,fun _ _ h=>by cases h⟩
 |some ks=>
  rw[hs]at hm;refine⟨fun h=>(by cases h),fun y m h'=>?_⟩
  cases h'
  have hw:=Pg _ [] toks (by trivial) (by simpa using hz) (show fk (toks.length+1) [] toks=some ks from hs)
  obtain⟨k,i,q,nm,K,hv⟩:=BP (nd 42 ks);refine⟨k,i,q,nm,K,hv,kj oM hw.1,aP _,?_⟩
  have kM:MP 12 [.own 0 0] [aX LR 0 jC] (.p (.agg (gM (nd 42 ks)))) [aX LR ((toks.length:Nat):Int) jC]:=hm;rw[hv.row]at kM;rw[show((toks.length:Nat):Int)-((0:Nat):Int)=((toks.length:Nat):Int) by omega]
  exact kM
end
def tH(x:PT)(at_ e:Int):PV:=.tup [.agg (gM x),pI at_,pI e]
def tK:PT:=.mk 0 [] 0 0 []
theorem LL(at_ e:Int):tH tK at_ e=.tup [zP,pI at_,pI e]:=by unfold tH tK;rfl
def kP(n:Nat):Nat:=match n with
 |9=>9
 |_=>0
def lP(n:Nat):Nat->Nat:=match n with
 |3=>fun _=>1
 |_=>fun _=>0
theorem Di{g:FuncId}{s p r:PV}{HI:Prop}
  (h0:∀(P':Program)(G':World->Prop)(E:SO),(∀f l r,fX Tryz.prog GL f l r->fX P' G' f l r)->E=bK →
   vN P' G' E cK kP (fun _=>[]) lP (wO 4 (Tryz.f11.body.getD .skip)) (nB (lZ 47 [1,4,5,6,7] 3 (fun _:Unit=>DI g p) (fun _=>vu none none none) fun _=>HI) (jF E cK Tryz.f11.results.toList r)) (.p s :: .p (.v (.func (.func g) #[] #[]))::List.replicate 45 (.p (.v undef))) [])
  (h1:HI->∀(P':Program)(G':World->Prop)(E:SO),(∀f l r,fX Tryz.prog GL f l r->fX P' G' f l r)->(∀f xs H r H',jP Tryz.prog GL f xs H r H'->jP P' G' f xs H r H')->E=bK->∀t1 t2 t3:Nat,
   vN P' G' E cK kP (fun _=>[]) lP (kf 5 (Tryz.f11.body.getD .skip)) (Qp E t1 t2 t3 r) ((qN [1,4,5,6,7] (DI g p) 47 0).set 23 .junk) (vu (some t1) (some t2) (some t3))):RL 11 [s,.v (.func (.func g) #[] #[])] r:=
 Xn kP (fun _=>[]) lP rfl rfl rfl rfl rfl rfl rfl rfl kR kR h0 h1
section
variable{g:FuncId}{s:ByteArray}(hs:s.size<=60000)
include hs
theorem z17{ts:List Tk}{m:Nat}{e:Int}(h:mO s.data.toList=(ts,some (m,e))):RL 11 [pS s,.v (.func (.func g) #[] #[])] (tH tK ((s.size:Nat)-(m:Nat)) e):=by
 have hl:=VX s oM
 rw[WQ h]at hl;have he:e≠0:=LI _ _ m e (aG Prod.snd h);rw[LL];obtain⟨q,hq⟩:∃x:Int,((s.size:Nat):Int)-(m:Nat)=x:=⟨_,rfl⟩
 rw[hq]at hl ⊢;refine Di (p:=.v undef) (HI:=False) (fun P G E hc hE=>?_) (fun h=>h.elim)
 have l0:=hc _ _ _ hl;have d1:decide (e=0)=false:=dF he;clear hE hc hl h hq hs;cbv;refine⟨_,l0,?_⟩;cbv;simp only[d1];cbv
 grind
theorem Yy{ts:List Tk}(h:mO s.data.toList=(ts,none))(hq:uO 0 ts=true):RL 11 [pS s,.v (.func (.func g) #[] #[])] (tH tK 0 5):=by
 have hl:=VX s oM
 have hz:ts.length<=1000000:=R6
 have hw:=sD (Mm (s.size:Nat) ts hz);rw[HM h]at hl;rw[hq]at hw;rw[LL];obtain⟨LR,tB⟩:∃x,lF (s.size:Nat) ts=x:=⟨_,rfl⟩
 rw[tB]at hl hw;refine Di (p:=.v undef) (HI:=False) (fun P G E hc hE=>?_) (fun h=>h.elim)
 have l0:=hc _ _ _ hl;have l1:=hc _ _ _ hw;clear hE hc hl hw h hq hs hz;cbv;refine⟨_,l0,?_⟩;cbv;refine⟨_,l1,?_⟩;cbv
theorem XI{r:PV}{ts:List Tk}(h:mO s.data.toList=(ts,none))(hq:uO 0 ts=false) (h1:∀(P':Program)(G':World->Prop)(E:SO),(∀f l r,fX Tryz.prog GL f l r->fX P' G' f l r)->(∀f xs H r H',jP Tryz.prog GL f xs H r H'->jP P' G' f xs H r H')->E=bK->∀(t1 t2 t3:Nat)(Q:Exit->List AV->AH->Prop),(∀env H,jF E cK Tryz.f11.results.toList r .ret env H->Q .ret env H) →
   (∀env a0 a1 a2 a3 a4 x y,r=.tup [zP,pI 0,pI 4]->env.getD 4 .junk=.own 0 0->env.getD 5 .junk=.own 1 0->env.getD 6 .junk=.own 2 0->Q (.panic lO) env (zm [a0,a1,a2,a3,a4] x y (some t1) (some t2) (some t3) [none])) →
   vN P' G' E cK kP (fun _=>[]) lP (kf 5 (Tryz.f11.body.getD .skip)) Q ((qN [1,4,5,6,7] (DI g (.ro 3 (lF (s.size:Nat) ts))) 47 0).set 23 .junk) (vu (some t1) (some t2) (some t3))):
  RL 11 [pS s,.v (.func (.func g) #[] #[])] r:=by
 have hl:=VX s oM
 have hz:ts.length<=1000000:=R6
 have hw:=sD (Mm (s.size:Nat) ts hz);rw[HM h]at hl;rw[hq]at hw;obtain⟨LR,tB⟩:∃x,lF (s.size:Nat) ts=x:=⟨_,rfl⟩
 rw[tB]at hl hw h1;refine Di (p:=.ro 3 LR) (HI:=True) (fun P G E hc hE=>?_) (fun _ P G E hc hM hE t1 t2 t3=>h1 P G E hc hM hE t1 t2 t3 _ (fun env H hr=>hr) (fun env a0 a1 a2 a3 a4 x y hr e1 e2 e3=>⟨rfl,hr,e1,e2,e3,.mk ..⟩))
 have l0:=hc _ _ _ hl;have l1:=hc _ _ _ hw;clear hE hc hl hw h hq hs hz h1 tB;cbv;refine⟨_,l0,?_⟩;cbv;refine⟨_,l1,?_⟩;cbv;exact .mk () r5 trivial
theorem z16{n:Int}{ts:List Tk}(hn:n=(s.size:Nat))(h:mO s.data.toList=(ts,none))(hq:uO 0 ts=false)(hg:MP g [.own 0 0] [aX (lF n ts) 0 jC] (.p (.pan lO)) [none]):RL 11 [pS s,.v (.func (.func g) #[] #[])] (tH tK 0 4):=by
 subst hn;rw[LL];refine XI hs h hq fun P G E hc hM hE t1 t2 t3 Q q1 q2=>?_
 replace hg:=hM _ _ _ _ _ hg;obtain⟨LR,tB⟩:∃x,lF (s.size:Nat) ts=x:=⟨_,rfl⟩
 rw[tB]at hg ⊢;clear hE hc hM h hq hs tB;cbv;refine .mk _ _ (Wk.refl _ _) [3] _ _ _ _ hg rfl rfl rfl ?_;cbv;exact q2 _ _ _ _ _ _ _ _ rfl rfl rfl rfl
section
variable{ts:List Tk}{a k i q:Int}{nm:ByteArray}{K:PV}(h:mO s.data.toList=(ts,none))(hq:uO 0 ts=false)(hK:yM (.p K)=true)
 (hg:MP g [.own 0 0] [aX (lF (s.size:Nat) ts) 0 jC] (.p (.agg [pI k,pS nm,pI i,pI q,K])) [aX (lF (s.size:Nat) ts) a jC])
include h hq hK hg
theorem Xm(hl:a<((ts.length:Nat):Int)):RL 11 [pS s,.v (.func (.func g) #[] #[])] (tH tK 0 4):=by
 rw[LL];refine XI hs h hq fun P G E hc hM hE t1 t2 t3 Q q1 q2=>?_
 replace hg:=hM _ _ _ _ _ hg;have hf:=hM _ _ _ _ _ (vQ (um (lF (s.size:Nat) ts) a jC));have cJ:E.lti a (E.ofN (lF (s.size:Nat) ts).length)=true:=by rw[hE,vh];exact aA hl
 obtain⟨LR,tB⟩:∃x,lF (s.size:Nat) ts=x:=⟨_,rfl⟩
 rw[tB]at hg hf cJ ⊢;clear hE hc hM h hq hs tB hl;cbv at hK;cbv at cJ;cbv;refine .mk _ _ (Wk.refl _ _) [3] _ _ _ _ hg rfl rfl rfl ?_;cbv;refine mT ?_;refine .mk _ _ (Wk.refl _ _) [3] _ _ _ _ hf rfl rfl rfl ?_;cbv;exact q2 _ _ _ _ _ _ _ _ rfl rfl rfl rfl
variable{x:PT}(hx:gM x=[pI k,pS nm,pI i,pI q,K])(hw:jO x)(hl:a=((ts.length:Nat):Int))
include hx hw hl
theorem Xk(hd:512<jN x):RL 11 [pS s,.v (.func (.func g) #[] #[])] (tH tK 0 5):=by
 rw[LL];have pH:=sD (XX (jN x) x 512 (nR _) hw aT)
 rw[hx,dF (show ¬((jN x:Nat):Int)<=512 by omega)]at pH
 refine XI hs h hq fun P G E hc hM hE t1 t2 t3 Q q1 q2=>?_
 replace hg:=hM _ _ _ _ _ hg;replace pH:=hc _ _ _ pH;have cJ:E.lti a (E.ofN (lF (s.size:Nat) ts).length)=false:=Rf
 obtain⟨LR,tB⟩:∃x,lF (s.size:Nat) ts=x:=⟨_,rfl⟩
 rw[tB]at hg cJ ⊢;clear hE hc hM h hq hs tB hl hx hw hd;cbv at hK;cbv at cJ;cbv;refine .mk _ _ (Wk.refl _ _) [3] _ _ _ _ hg rfl rfl rfl ?_;cbv;refine mT ?_;refine⟨_,pH,?_⟩;cbv;refine q1 _ _ ?_;cbv
theorem Xl(hd:jN x<=512):RL 11 [pS s,.v (.func (.func g) #[] #[])] (tH x 0 0):=by
 unfold tH;have pH:=sD (XX (jN x) x 512 (nR _) hw aT)
 rw[hx,aA (show((jN x:Nat):Int)<=512 by omega)]at pH
 rw[hx];refine XI hs h hq fun P G E hc hM hE t1 t2 t3 Q q1 q2=>?_
 replace hg:=hM _ _ _ _ _ hg;replace pH:=hc _ _ _ pH;have cJ:E.lti a (E.ofN (lF (s.size:Nat) ts).length)=false:=Rf
 obtain⟨LR,tB⟩:∃x,lF (s.size:Nat) ts=x:=⟨_,rfl⟩
 rw[tB]at hg cJ ⊢;clear hE hc hM h hq hs tB hl hx hw hd;cbv at hK;cbv at cJ;cbv;refine .mk _ _ (Wk.refl _ _) [3] _ _ _ _ hg rfl rfl rfl ?_;cbv;refine mT ?_;refine⟨_,pH,?_⟩;cbv;simp only[hK];cbv;refine q1 _ _ ?_;cbv
end
end
def im(cl:Ts->Option (PT×Nat))(s:ByteArray):PV:=match mO s.data.toList with
 |(_,some p)=>tH tK ((s.size:Nat)-(p.1:Nat)) p.2
 |(ts,none)=>if uO 0 ts=true then tH tK 0 5 else(match cl (ts.map er)with
  |none=>tH tK 0 4
  |some (x,m)=>if m≠0 then tH tK 0 4 else if 512<jN x then tH tK 0 5 else tH x 0 0)
theorem Lh{g:FuncId}{s:ByteArray}{cl:Ts->Option (PT×Nat)}(hs:s.size<=60000)(eD:∀(ts:Ts)(LR:List (List PV)),bE (s.size:Nat) ts LR 0 ts->I6 g LR ts (cl ts)):RL 11 [pS s,.v (.func (.func g) #[] #[])] (im cl s):=by
 unfold im
 cases h:mO s.data.toList with
 |mk ts e=>
  cases e with
  |some p=>exact z17 hs h
  |none=>
   have mQ:=Kj (n:=(s.size:Nat)) h bw
   simp only
   cases hq:uO 0 ts with
   |true=>exact Yy hs h hq
   |false=>
    have hO:=eD _ _ mQ;simp only[aM,bT]
    cases hc:cl (ts.map er)with
    |none=>exact z16 hs rfl h hq (hO.bad hc)
    |some xm=>
     obtain⟨x,m⟩:=xm;obtain⟨k,i,q,nm,K,hv,hw,hm,hg⟩:=hO.good x m hc;rw[tc]at hm hg;simp only
     by_cases h0:m=0
     ·subst h0;rw[aE jT]
      have hl:((ts.length:Nat):Int)-((0:Nat):Int)=((ts.length:Nat):Int):=dU
      by_cases hd:512<jN x
      ·rw[aF hd];exact Xk hs h hq hv.one hg hv.row hw hl hd
      ·rw[aE hd];exact Xl hs h hq hv.one hg hv.row hw hl oM
     ·rw[aF h0];exact Xm hs h hq hv.one hg oM
theorem P5(x:PT)(a e:Int):∃k i q nm K,yM (.p K)=true/\tH x a e=.tup [.agg [pI k,pS nm,pI i,pI q,K],pI a,pI e]:=by
 obtain⟨k,i,q,nm,K,hv⟩:=BP x;exact⟨k,i,q,nm,K,hv.one,by unfold tH;rw[hv.row]⟩
theorem M7(cl:Ts->Option (PT×Nat))(s:ByteArray):∃x a e,im cl s=tH x a e:=by
 unfold im
 split
 ·grind
 ·split
  ·grind
  ·split
   ·grind
   ·split
    ·grind
    ·split<;>exact⟨_,_,_,rfl⟩
theorem z47(s:ByteArray)(hs:s.size<=60000):RL 6 [pS s] (im DF s):=by
 have hp:=Lh hs (g:=12) (cl:=DF) fun ts LR h=>xal h
 obtain⟨x,a,e,hx⟩:=M7 DF s;obtain⟨k,i,q,nm,K,hK,ho⟩:=P5 x a e;rw[hx,ho]at hp ⊢;refine ir aN kH mixed (fun _=>0) Tryz.func6 rfl kR kR rfl fun P G E hc hM hE=>?_
 exact S9
theorem z8s(s:ByteArray)(hs:s.size<=60000):RL 10 [pS s] (im j5 s):=by
 have hp:=Lh hs (g:=24) (cl:=j5) fun ts LR h=>z8g h
 obtain⟨x,a,e,hx⟩:=M7 j5 s;obtain⟨k,i,q,nm,K,hK,ho⟩:=P5 x a e;rw[hx,ho]at hp ⊢;refine ir aN kH mixed (fun _=>0) Tryz.func10 rfl kR kR rfl fun P G E hc hM hE=>?_
 exact S9
def sA:ByteArray:=⟨#[108,101,116,32,97,32,61,32,49,59]⟩
def tA:List Tk:=[⟨2,[108,101,116],10⟩,⟨1,[97],6⟩,⟨5,[61],4⟩,⟨3,[49],2⟩,⟨5,[59],1⟩]
theorem G5:mO sA.data.toList=(tA,none):=cI
def Qs:PT:=.mk 5 [] 1 0 []
def Qr:PT:=.mk 40 [97] 0 0 [Qs]
def JB:PT:=.mk 24 [] 0 0 [Qr]
theorem Fq:im DF sA=tH (nd 42 [JB]) 0 0:=by
 unfold im DF;rw[G5];rfl
abbrev JA:List PV:=[pI 5,pS ⟨#[]⟩,pI 1,pI 0,.v (.slice none 0 0)]
abbrev OU:List PV:=[pI 40,pS ⟨#[97]⟩,pI 0,pI 0,.ro 5 [JA]]
abbrev vr:List PV:=[pI 24,pS ⟨#[]⟩,pI 0,pI 0,.ro 5 [OU]]
abbrev Qn:List PV:=[pI 42,pS ⟨#[]⟩,pI 0,pI 0,.ro 5 [vr]]
theorem OO:gM (nd 42 [JB])=Qn:=by
 unfold JB Qr Qs nd;rfl
abbrev cP:PV:=.agg [pB false,pB false,pB false,pB false]
theorem yn (lo : Nat → Nat → Nat) {G : World → Prop} (hG : ∀ w w', Gr w w' → G w → G w') {f : FuncId} {fn : Func} {c : Code} (hf : Tryz.prog.funcs[f]? = some fn) (hb : fn.body = some c) (hn : (fn.name == "runtime.NumGoroutine") = false) {l : List PV} {r : PV} (hl : decide (l.length ≤ fn.ntmps) = true) (cU : yB fn.ntmps (fun _ => 0) (fun _ => []) lo c = true)
  (h:∀(P':Program)(G':World->Prop)(E:SO),(∀f l r,fX Tryz.prog G f l r->fX P' G' f l r)->E=bK->vN P' G' E cK (fun _=>0) (fun _=>[]) lo c (jF E cK fn.results.toList r) (l.map .p++List.replicate (fn.ntmps-l.length) (.p (.v undef))) []):fX Tryz.prog G f l r:=
 zZ aN hG hf hb hn (oT hl) (aY.ofM aN mixed (fun _=>0) (fun _=>[]) lo cU (fun E=>jF E cK fn.results.toList r) fun P G E hc _ hE=>h P G E hc hE)
theorem QE:RL 82 [.agg JA,cP] (pB true):=by
 refine yn (fun n i=>match n,i with|22,0=>1|32,0=>1|34,0=>1|41,0=>1|43,0=>1|_,_=>0) kH Tryz.func82 rfl kR rfl kR fun P G E hc hE=>?_
 clear hc;have z0:E.ofN 0=0:=fS
 have z1:E.lei 0 1=true:=fS
 cbv;exact la
structure FzA(E:SO):Prop where
 z0:E.ofN 1=1
 z1:E.lti 0 1=true
 z2:E.lti 1 1=false
 z3:E.wadd .i64 0 1=1
 z4:E.ple 0 0
 z5:E.nat 0=0
theorem PZ{E:SO}(hE:E=bK):FzA E:=by subst hE;exact⟨rfl,rfl,rfl,rfl,bU 0,rfl⟩
theorem xhd:RL 88 [.ro 5 [JA],cP] (pB true):=by
 refine yn (fun _ _=>0) kH Tryz.func88 rfl kR rfl kR fun P G E hc hE=>?_
 have h1:=hc _ _ _ QE;clear hc;obtain⟨z0,z1,z2,z3,z4,z5⟩:=PZ hE;have r0:([JA]:List (List PV))[E.nat 0]?=some JA:=by rw[z5];rfl
 cbv;cbv;simp only[z0];cbv;refine gU 18 [3,4,7,8,9] 1 (fun x:Bool=>[.own 0 0,.p (pB false),.p (.ro 5 [JA]),.p (pI 1),.p (pI (match x with|false=>0|true=>1))]) (fun _=>[some (.box [.p (pB false),.p (pB false),.p (pB false),.p (pB false)] 37 none)]) (fun _=>True) (fun x=>match x with|false=>1|true=>0) false r5 trivial ?_
 exact Te
def iA:ByteArray:=⟨#[97]⟩
theorem G4:mO iA.data.toList=([⟨1,[97],1⟩],none):=cI
theorem xg4:RL 87 [pS ⟨#[97]⟩,pB false] (pB true):=by
 have hl:=VX iA aT
 rw[HM G4]at hl;refine yn (fun _ _=>0) kH Tryz.func87 rfl kR rfl kR fun P G E hc hE=>?_
 have h1:fX P G 26 [pS ⟨#[97]⟩] (.tup [.ro 3 [[pI 1,pS ⟨#[97]⟩,pI 0]],pI 0,pI 0]):=hc _ _ _ hl;clear hc hl;obtain⟨z0,z1,z2,z3,z4,z5⟩:=PZ hE;have r0:([[pI 1,pS ⟨#[97]⟩,pI 0]]:List (List PV))[E.nat 0]?=some [pI 1,pS ⟨#[97]⟩,pI 0]:=by rw[z5];rfl
 have e0:E.eq ⟨#[97]⟩ ⟨#[97]⟩=true:=by rw[hE];exact aA (rfl:(⟨#[97]⟩:ByteArray)=⟨#[97]⟩)
 cbv at e0;cbv;exact la
theorem QK:RL 81 [.agg vr,cP] (pB true):=by
 refine yn (fun _ _=>0) kH Tryz.func81 rfl kR rfl kR fun P G E hc hE=>?_
 have h1:=hc _ _ _ xhd;have h2:=hc _ _ _ xg4;clear hc;obtain⟨z0,z1,z2,z3,z4,z5⟩:=PZ hE;have r0:([OU]:List (List PV))[E.nat 0]?=some OU:=by rw[z5];rfl
 cbv;cbv;simp only[z0];cbv;refine gU 52 [2,3,4,8,9,10] 2 (fun x:Bool=>[.own 0 0,.own 1 0,.p (pB false),.p (.ro 5 [OU]),.p (pI 1),.p (pI (match x with|false=>0|true=>1))]) (fun _=>[some (.box [.p (pI 24),.p (pS ⟨#[]⟩),.p (pI 0),.p (pI 0),.p (.ro 5 [OU])] 25 none),some (.box [.p (pB false),.p (pB false),.p (pB false),.p (pB false)] 37 none)]) (fun _=>True) (fun x=>match x with|false=>1|true=>0) false r5 trivial ?_
 intro x _
 cases x with
 |false=>
  cbv;refine mT ?_;exact .mk true r5 trivial aT
 |true=>
  exact la
theorem OA:RL 49 [.agg vr,cP] (pB true):=by
 refine yn (fun n i=>match n,i with|10,0=>1|14,0=>1|16,0=>1|18,0=>1|20,0=>1|22,0=>1|_,_=>0) kH Tryz.func49 rfl kR rfl kR fun P G E hc hE=>?_
 have h1:=hc _ _ _ QK;clear hc;cbv;cbv;refine⟨_,h1,?_⟩;cbv
theorem xed:RL 23 [.ro 5 [vr],cP] (pB true):=by
 refine yn (fun _ _=>0) kH Tryz.func23 rfl kR rfl kR fun P G E hc hE=>?_
 have h1:=hc _ _ _ OA;clear hc;obtain⟨z0,z1,z2,z3,z4,z5⟩:=PZ hE;have r0:([vr]:List (List PV))[E.nat 0]?=some vr:=by rw[z5];rfl
 cbv;cbv;simp only[z0];cbv;refine gU 18 [3,4,7,8,9] 1 (fun x:Bool=>[.own 0 0,.p (pB false),.p (.ro 5 [vr]),.p (pI 1),.p (pI (match x with|false=>0|true=>1))]) (fun _=>[some (.box [.p (pB false),.p (pB false),.p (pB false),.p (pB false)] 37 none)]) (fun _=>True) (fun x=>match x with|false=>1|true=>0) false r5 trivial ?_
 exact Te
theorem xd6:RL 9 [.agg Qn] (pB true):=by
 have hw:jO (nd 42 [JB]):=by
  exact xX (xX (xX xW))
 have hs:=sD (XX 4 (nd 42 [JB]) 512 aT hw aT)
 rw[OO,show decide (((jN (nd 42 [JB]):Nat):Int)<=512)=true by decide]at hs
 refine yn (fun _ _=>0) kH Tryz.func9 rfl kR rfl kR fun P G E hc hE=>?_
 have h1:=hc _ _ _ hs;have h2:=hc _ _ _ xed;clear hc hs hw;cbv;exact la
theorem L7:RL 5 [] (pB true):=by
 have hp:=z47 sA aT
 rw[Fq]at hp;unfold tH at hp;rw[OO]at hp;refine yn (fun _ _=>0) kH Tryz.func5 rfl kR rfl kR fun P G E hc hE=>?_
 have h1:=hc _ _ _ hp;have h2:=hc _ _ _ xd6;clear hc hp;obtain⟨z0,z1,z2,z3,z4,z5⟩:=PZ hE;have r0:([vr]:List (List PV))[E.nat 0]?=some vr:=by rw[z5];rfl
 cbv;exact la
end Go.Proofs.YtjkcdcloomkooaaGreatDoor
