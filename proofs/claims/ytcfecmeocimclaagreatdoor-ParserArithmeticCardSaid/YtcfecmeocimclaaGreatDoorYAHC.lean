/- Own work: the rule for the parser's parse: three results in variables,a deferred zfy that ends fail's panic,and the body,which is walked over data. -/
import Derived.Test.YtcfecmeocimclaaGreatDoorYAA0
import Derived.Test.YtcfecmeocimclaaGreatDoorYAPWP
import Derived.Test.YtcfecmeocimclaaGreatDoorYAHI
import Derived.Tactics
import Derived.Tactics2
import Derived.Defers
import Derived.Recover
import Derived.WalkKit
namespace Go.Proofs.YtcfecmeocimclaaGreatDoor
set_option linter.unusedSimpArgs false
set_option linter.unusedSectionVars false
set_option maxRecDepth 100000
open Go.RowKit
def pzH (cs:List AV) (x y:AV) (t1 t2 t3:Option Nat) (K:AH):AH:=some (.box cs 27 t1) :: some (.box [x] 3 t2) :: some (.box [y] 24 t3) :: K
abbrev zN:List AV:=[.p (pI 0),.p (pS ⟨#[]⟩),.p (pI 0),.p (pI 0),.p (.v (.slice none 0 0))]
abbrev zP:PV:=.agg [pI 0,pS ⟨#[]⟩,pI 0,pI 0,.v (.slice none 0 0)]
section
variable {P:Program} {ops:Array Oper} {Q:Exit->Act->World->Prop} {a:Act} {w w':World} {rest:List Oper} {o:Oper}
theorem zej {v:Value} (hw:Region.wanted o (yielded ops a.tmps)=true) (he:(execOp a.eval o).run P w=.ok (.value v) w') (h:wpList P ops Q rest (a.put o.dst v) w'):wpList P ops Q (o :: rest) a w:=by
 unfold wpList;rw [if_pos hw];refine .inl ?_;unfold Oper.wp;rw [he];exact h
theorem z4s (hw:Region.wanted o (yielded ops a.tmps)=true) (he:(execOp a.eval o).run P w=.ok .skip w') (h:wpList P ops Q rest (a.put o.dst undef) w'):wpList P ops Q (o :: rest) a w:=by
 unfold wpList;rw [if_pos hw];refine .inl ?_;unfold Oper.wp;rw [he];exact h
theorem z01 {d:Deferred} (hw:Region.wanted o (yielded ops a.tmps)=true) (he:(execOp a.eval o).run P w=.ok (.defer d) w') (h:wpList P ops Q rest ({ a with defers:=d :: a.defers }.put o.dst undef) w'):wpList P ops Q (o :: rest) a w:=by
 unfold wpList;rw [if_pos hw];refine .inl ?_;unfold Oper.wp;rw [he];exact h
end
theorem zlu {o:Oper} (h:o.guard=none) (y:Nat->Option Bool):Region.wanted o y=true:=by unfold Region.wanted;rw [h]
abbrev zv5 (c d e:Nat):Array Value:=#[.pointer (some ⟨c,0,none⟩),.pointer (some ⟨d,0,none⟩),.pointer (some ⟨e,0,none⟩)]
theorem zvm (c d e:Nat) (w:World):CallsD Tryz.prog 34 (zv5 c d e) .returning w fun e u' w'=>e=.returned (.tuple #[])/\u'=.returning/\w'=w:=by
 have hne:∀ w:World,(binOp BinOp.neq 20 .nilIface .nilIface).run Tryz.prog w=.ok (.bool false) w:=fun _=>by kernel_rfl
 refine callsD_of_wpS Tryz.func34 rfl fun c₀ cs hu=>?_
 apply wpS_seq;apply wpS_region;simp [wpOpsS,go_sem,recoverD,hu,Tryz.ntmps34,Exit.thenS];apply wpS_seq;apply wpS_region;simp [wpOpsS,go_sem,hne,Exit.thenS];refine wpS_cond (t:=false) (by simp [Act.eval,Array.replicate]) ?_
 simp only [Bool.false_eq_true,if_false];refine wpS_of_wp (wp_skip ?_)
 cases c₀
 simp_all [bodyPostS,results,Tryz.results34]
theorem Rel.ds {w0:Base} {B:Nat->Prop} {w:World} {ι:Pl} {H:AH} (h:Rel w0 B w ι H) (ds:List Deferred):Rel ⟨w0.w,w0.X,ds,w0.pin⟩ B w ι H :=
 ⟨⟨h.gr.os,h.gr.tape,h.gr.output,h.gr.size,h.gr.block⟩,h.fut,h.len,h.blk,h.inj⟩
theorem zjv {w0:Base} {B:Nat->Prop} {w:World} {ι:Pl} {H:AH} (h:Rel w0 B w ι H) {k c:Nat} {cs:List AV} {t:TypeId} (hk:H[k]?=some (some (.box cs t (some c)))):∃ s,ι[k]?=some (some c,s):=by
 obtain ⟨⟨c',s⟩,hp⟩:∃ x,ι[k]?=some x:=⟨_,List.getElem?_eq_getElem (by rw [h.len];exact (List.getElem?_eq_some_iff.1 hk).1)⟩
 obtain ⟨⟨_,h1⟩,_⟩:=(h.blk k _ _ _ hk hp).2;exact ⟨s,by rw [hp,h1 c rfl]⟩
set_option maxHeartbeats 1000000 in
theorem zy4 {w0:Base} {B:Nat->Prop} {w:World} {ι:Pl} {c d e:Nat} {a0 a1 a2 a3 a4 x y:AV} (hB0:∀ b,w0.own b->B b) (hR:Rel w0 B w ι (pzH [a0,a1,a2,a3,a4] x y (some c) (some d) (some e) [none])) :
  CallsD Tryz.prog 34 (zv5 c d e) (.panicking zcf) w fun ex u' w'=>ex=.returned (.tuple #[])/\settle u'=.returning ∧
   ∃ ι',Rel w0 B w' ι' (pzH zN (.p (pI 0)) (.p (pI 4)) (some c) (some d) (some e) [none]):=by
 have hne:∀ w:World,(binOp BinOp.neq 20 (.iface 71 (.agg #[])) .nilIface).run Tryz.prog w=.ok (.bool true) w:=fun _=>by kernel_rfl
 refine callsD_of_wpS Tryz.func34 rfl fun c₀ cs hu=>?_
 apply wpS_seq;apply wpS_region;simp [wpOpsS,go_sem,recoverD,hu,zcf,Tryz.ntmps34,Exit.thenS];apply wpS_seq;apply wpS_region;simp [wpOpsS,go_sem,hne,Exit.thenS];refine wpS_cond (t:=true) (by simp [Act.eval,Array.replicate]) ?_
 simp only [if_true];refine wpS_of_wp ?_;refine wp_seq ?_;refine wp_seq ?_;refine wp_region_list ?_;refine zej (v:=.iface 71 (.agg #[])) (w':=w) (by kernel_rfl) (by kernel_rfl) ?_
 refine zej (v:=.tuple #[.agg #[],.bool true]) (w':=w) (by kernel_rfl) (by kernel_rfl) ?_
 refine zej (v:=.tuple #[.agg #[],.bool true]) (w':=w) (by kernel_rfl) (by kernel_rfl) ?_
 refine zej (v:=.agg #[]) (w':=w) (by kernel_rfl) (by kernel_rfl) ?_
 refine zej (v:=.bool true) (w':=w) (by kernel_rfl) (by kernel_rfl) ?_
 refine zej (v:=.pointer (some ⟨w.heap.size,0,none⟩)) (w':=w.alloc (.cells #[] 71)) (by kernel_rfl) (by kernel_rfl) ?_
 refine z4s (w':=w.alloc (.cells #[] 71)) (by kernel_rfl) (by kernel_rfl) ?_
 refine zej (v:=.bool true) (w':=w.alloc (.cells #[] 71)) (by kernel_rfl) (by kernel_rfl) ?_
 refine wp_seq ?_;refine wp_region_list ?_;refine zej (v:=.bool true) (w':=w.alloc (.cells #[] 71)) (by kernel_rfl) (by kernel_rfl) ?_
 refine zej (v:=.bool false) (w':=w.alloc (.cells #[] 71)) (by kernel_rfl) (by kernel_rfl) ?_
 refine wp_cond (t:=false) (by kernel_rfl) ?_
 simp only [Bool.false_eq_true,if_false];refine wp_skip ?_;have hgr:Gr w (w.alloc (.cells #[] 71)):=(Below.refl _ w).alloc (nR _) _;have hR1:=(hR.grow hgr).ds [];obtain ⟨s1,i1⟩:=zjv hR1 (k:=0) rfl;obtain ⟨s2,i2⟩:=zjv hR1 (k:=1) rfl;obtain ⟨s3,i3⟩:=zjv hR1 (k:=2) rfl;generalize w.alloc (.cells #[] 71)=W at hR1 ⊢;have hR2:=hR1.pin (fun _=>none)
 suffices hS:∀ A:Act,A.defers=[]->A.tmps.size=18->A.tmps[0]?=some (.pointer (some ⟨c,0,none⟩))->A.tmps[1]?=some (.pointer (some ⟨d,0,none⟩))->A.tmps[2]?=some (.pointer (some ⟨e,0,none⟩))->St ⟨w0.w,w0.X,[],fun _=>none⟩ B 18 ([.own 0 0,.own 1 0,.own 2 0]++List.replicate 15 .junk) (pzH [a0,a1,a2,a3,a4] x y (some c) (some d) (some e) [none]) A W by
  refine wp_mono (zck (w0:=⟨w0.w,w0.X,[],fun _=>none⟩) (G:=G0) (B:=B) (nt:=18) zaa (fun w' _=>trivial) hB0 mixed (fun _=>0) _ (zb6 (fun _=>rfl) _) (by kernel_rfl) (fun ex env H=>ex=.normal/\H=pzH zN (.p (pI 0)) (.p (pI 4)) (some c) (some d) (some e) [none]) ([.own 0 0,.own 1 0,.own 2 0]++List.replicate 15 .junk) (pzH [a0,a1,a2,a3,a4] x y (some c) (some d) (some e) [none]) _ W ?_ (hS _ (by kernel_rfl) (by kernel_rfl) (by kernel_rfl) (by kernel_rfl) (by kernel_rfl))) ?_
  ·cbv
  ·rintro ex a2 w2 ⟨env2,H2,⟨rfl,rfl⟩,hS2⟩
   obtain ⟨ι2,hR2,hE2⟩:=hS2.rep;have hd2:=hS2.defers;refine ⟨hd2,.panicking [{ v:=.iface 71 (.agg #[]),recovered:=true }],rfl,.tuple #[],by simp [results,Tryz.results34],rfl,rfl,ι2,?_⟩
   exact (hR2.ds w0.ds).pin w0.pin
 intro A hA1 hA2 h0 h1 h2;refine ⟨hA1,hA2,(fun t v h=>by cases h),ι,hR2,?_,fun t z v hz hv=>?_⟩
 ·rw [hA2];rfl
 ·match t,hz,hv with
  | 0,hz,hv=>rw [h0] at hv;cases hz;cases hv;exact .own _ _ _ _ i1
  | 1,hz,hv=>rw [h1] at hv;cases hz;cases hv;exact .own _ _ _ _ i2
  | 2,hz,hv=>rw [h2] at hv;cases hz;cases hv;exact .own _ _ _ _ i3
  | t + 3,hz,hv =>
   have hz':(List.replicate 15 AV.junk)[t]?=some z:=hz
   have:z=.junk:=by
    rw [List.getElem?_replicate] at hz'
    split at hz' <;> simp_all
   subst this;exact .junk v
theorem Rel.tag {w0:Base} {B:Nat->Prop} {w:World} {ι:Pl} {H:AH} (h:Rel w0 B w ι H) {k c:Nat} {s:Nat × Nat} {cs:List AV} {t:TypeId} (hk:H[k]?=some (some (.box cs t none))) (hi:ι[k]?=some (some c,s)) :
  Rel w0 B w ι (H.set k (some (.box cs t (some c))))/\Keeps none w ι (Rd B ι H) w ι (Rd B ι (H.set k (some (.box cs t (some c))))):=by
 have hkl:=(List.getElem?_eq_some_iff.1 hk).1;have hS:∀ i b,(H.set k (some (.box cs t (some c))))[i]?=some (some b)->∃ b',H[i]?=some (some b'):=fun i b hb=>by
  rw [List.getElem?_set] at hb
  split at hb
  ·rename_i e;subst e;exact ⟨_,hk⟩
  ·exact ⟨_,hb⟩
 have hkp:Keeps none w ι (Rd B ι H) w ι (Rd B ι (H.set k (some (.box cs t (some c))))):=⟨nR _,fun b hb _=>⟨⟨hb.1,fun ⟨i,b',s',h1,h2⟩=>by
  obtain ⟨b0,h0⟩:=hS i b' h1;exact hb.2 ⟨i,b0,s',h0,h2⟩⟩,rfl⟩,fun _ _ _ _ h=>h⟩
 refine ⟨⟨h.gr,h.fut,by simp [h.len],fun i b c' s' h1 h2=>?_,fun i j b b' c' s1 s2 h1 h2 h3 h4=>?_⟩,hkp⟩
 ·by_cases e:i=k
  ·subst e;rw [List.getElem?_set_self hkl] at h1
   cases h1
   rw [hi] at h2
   cases h2
   obtain ⟨g1,⟨g2,_⟩,g3⟩:=h.blk i _ _ _ hk hi;refine ⟨g1,⟨g2,fun n e=>by cases e;rfl⟩,?_⟩
   obtain ⟨c'',arr,e,e1,e2,e3⟩:=g3;exact ⟨c'',arr,e,e1,e2,fun j a ha=>by
    obtain ⟨v,hv,hv1,hr⟩:=e3 j a ha;exact ⟨v,hv,hv1,hr.keep0 hkp⟩⟩
  ·rw [List.getElem?_set_ne (Ne.symm e)] at h1;exact ⟨(h.blk i b c' s' h1 h2).1,(h.blk i b c' s' h1 h2).2.keep0 hkp fun _ _=>rfl⟩
 ·obtain ⟨b0,g1⟩:=hS i b h1;obtain ⟨b1,g2⟩:=hS j b' h2;exact h.inj i j b0 b1 c' s1 s2 g1 g2 h3 h4
theorem zmk {P:Program} {G:World->Prop} {T:TT} {nt:Nat} (hT:TOk P T) (hm:P.follows .mixedOrders=true) {kOf:Nat->Nat} {mOf:Nat->List Nat} {lo:Nat->Nat->Nat} {w0:Base} {B:Nat->Prop} (hG:∀ w,GrX w0 w->G w) (hB:∀ b,w0.own b->B b) {R:List AV->AH->Prop} {Q:Exit->List AV->AH->Prop} {F:Exit->Act->World->Prop} (hF:∀ e a w,e ≠ .normal->zj4 w0 B nt Q e a w->F e a w):∀ (k:Nat) (c:Code),zq8 w0 c->zb9 nt kOf mOf lo (ze3 k c)=true->(∀ env H a w,R env H->St w0 B nt env H a w->(zlb k c).wp P F a w) →
  ∀ (env:List AV) (H:AH) (a:Act) (w:World),zld P G zas T kOf mOf lo (ze3 k c) (zce R Q) env H->St w0 B nt env H a w->c.wp P F a w
 | 0,c,_,_,hR,env,H,a,w,h,hS=>hR env H a w h hS
 | k + 1,c,hpk,hok,hR,env,H,a,w,h,hS=>by
  cases c with
  | seq x y =>
   simp only [ze3,zb9,bAT] at hok;unfold ze3 zld at h;refine wp_seq (wp_mono (zcl hT hG hB hm kOf mOf lo x hpk.1 hok.1 _ env H a w h hS) ?_)
   rintro e a w ⟨env,H,h,hS⟩
   cases e with
   | normal=>exact zmk hT hm hG hB hF k y hpk.2 hok.2 hR env H a w h hS
   | _=>exact hF _ a w (by simp) ⟨env,H,h,hS⟩
  | _=>exact False.elim h
inductive PanH (c d e:Nat):AH->Prop
 | mk (a0 a1 a2 a3 a4 x y:AV):PanH c d e (pzH [a0,a1,a2,a3,a4] x y (some c) (some d) (some e) [none])
def paQ (E:SO) (c d g:Nat) (r:PV) (e:Exit) (env:List AV) (H:AH):Prop :=
 match e with
 | .ret=>zfm E tyT Tryz.f18.results.toList r .ret env H
 | .normal=>zfm E tyT Tryz.f18.results.toList r .ret env H
 | .panic ch=>ch=zcf/\r=.tup [zP,pI 0,pI 4]/\env.getD 4 .junk=.own 0 0/\env.getD 5 .junk=.own 1 0/\env.getD 6 .junk=.own 2 0/\PanH c d g H
 | _=>False
def dfr (c d e:Nat):Deferred:=⟨.fn (.func 34) (zv5 c d e),#[]⟩
abbrev paS (g:FuncId) (p:PV):List AV:=[.p (.v (.func (.func g) #[] #[])),.own 0 0,.own 1 0,.own 2 0,.p p]
abbrev paH (c d e:Option Nat):AH:=pzH zN (.p (pI 0)) (.p (pI 0)) c d e []
theorem zru {w:World} {ι:Pl} {R:Nat->Prop} {k c:Nat} {s:Nat × Nat} {v:Value} (h:Rep w ι R (.own k 0) v) (hi:ι[k]?=some (some c,s)):v=.pointer (some ⟨c,0,none⟩):=by
 cases h with
 | own _ _ c' s' h=>rw [hi] at h;cases h;rfl
theorem zoj {w:World} {ι:Pl} {R:Nat->Prop} {k:Nat} {v:Value} (h:Rep w ι R (.own k 0) v):∃ c s,v=.pointer (some ⟨c,0,none⟩)/\ι[k]?=some (some c,s):=by
 cases h with
 | own _ _ c s h=>exact ⟨c,s,rfl,h⟩
set_option maxHeartbeats 2000000 in
theorem zuq {g:FuncId} {s p r:PV} {HI:Prop} (kOf:Nat->Nat) (mOf:Nat->List Nat) (lo:Nat->Nat->Nat) {c0 rest:Code} {rid:Nat} {o1 o2:Oper} (hb:Tryz.f18.body=some c0) (ht:zlb 4 c0=.seq (.region rid #[o1,o2] false) rest)
  (ho1:o1.op=.makeFunc (.func 34) #[] #[.tmp 4,.tmp 5,.tmp 6]) (hd1:o1.dst=some 23) (hg1:o1.guard=none) (ho2:o2.op=.defer { callee:=.value (.tmp 23),args:=#[],argTypes:=#[] }) (hd2:o2.dst=none) (hg2:o2.guard=none)
  (hk0:zb9 47 kOf mOf lo (ze3 4 c0)=true) (hk1:zb9 47 kOf mOf lo rest=true)
  (h0:∀ (P':Program) (G':World->Prop) (E:SO),(∀ f l r,Ret Tryz.prog GL f l r->Ret P' G' f l r)->E=zas →
   zld P' G' E tyT kOf mOf lo (ze3 4 c0) (zce (CutIs 47 [1,4,5,6,7] 3 (fun _:Unit=>paS g p) (fun _=>paH none none none) fun _=>HI) (zfm E tyT Tryz.f18.results.toList r)) (.p s :: .p (.v (.func (.func g) #[] #[])) :: List.replicate 45 (.p (.v undef))) [])
  (h1:HI->∀ (P':Program) (G':World->Prop) (E:SO),(∀ f l r,Ret Tryz.prog GL f l r->Ret P' G' f l r)->(∀ f xs H r H',zd4 Tryz.prog GL f xs H r H'->zd4 P' G' f xs H r H')->E=zas->∀ t1 t2 t3:Nat,
   zld P' G' E tyT kOf mOf lo rest (paQ E t1 t2 t3 r) ((zbf [1,4,5,6,7] (paS g p) 47 0).set 23 .junk) (paH (some t1) (some t2) (some t3))):RL 18 [s,.v (.func (.func g) #[] #[])] r:=by
 refine ⟨zdv Tryz.func18 hb (by kernel_rfl),fun w B args hG hlen hargs=>?_⟩
 refine calls_of_wp_defers Tryz.func18 hb ?_;have hB0:∀ b,(Base.of w).own b->B b\/w.heap.size<=b:=fun b hb=>hb.elim (fun h=>h.elim) .inr
 have hS:St (Base.of w) (fun b=>B b\/w.heap.size<=b) 47 (.p s :: .p (.v (.func (.func g) #[] #[])) :: List.replicate 45 (.p (.v undef))) [] { tmps:=args.toArray++Array.replicate (47 - args.toArray.size) undef,defers:=[] } w:=by
  refine ⟨rfl,?_,(fun t v h=>by cases h),[],⟨.of (Gr.refl _),fun b hb=>.inr hb,rfl,fun k b c s h1=>by simp at h1,fun k l b b' c s s' h1=>by simp at h1⟩,?_⟩
  ·have:args.length=2:=by simpa using hlen.symm
   simp [this]
  ·have:=ze6 (w:=w) (ι:=[]) (R:=Rd (fun b=>B b\/w.heap.size<=b) [] []) (args:=args) (nt:=47) (show ([AV.p s,AV.p (.v (.func (.func g) #[] #[]))]:List AV).length<=47 by simp) (by simpa using hlen) fun j x v ha hv=>by
    have hk:∀ z:PV,RepP w (fun b=>B b) z v->Rep w [] (Rd (fun b=>B b\/w.heap.size<=b) [] []) (.p z) v:=fun z hz=>.p _ _ (hz.keep (nR _) fun b hb _=>⟨⟨.inl hb,by
     rintro ⟨k,b',s,h1,_⟩
     simp at h1⟩,rfl⟩)
    match j,ha with
    | 0,ha=>cases ha;exact hk _ (hargs 0 _ v rfl hv)
    | 1,ha=>cases ha;exact hk _ (hargs 1 _ v rfl hv)
    | j + 2,ha=>simp at ha
   simpa using this
 have hGw:∀ w',GrX (Base.of w) w'->GL w':=fun w' hg=>zbu _ _ hg.gr hG
 have fin0:∀ (a2:Act) (w2:World) (ι2:Pl) (env:List AV) (H:AH) (w0:Base),w0.w=w->(∀ b,w0.own b->B b\/w.heap.size<=b)->Gr w w2->Rel w0 (fun b=>B b\/w.heap.size<=b) w2 ι2 H->RepE w2 ι2 (Rd (fun b=>B b\/w.heap.size<=b) ι2 H) env a2.tmps->zfm zas tyT Tryz.f18.results.toList r .ret env H->∃ v,(results Tryz.f18 a2.tmps).run Tryz.prog w2=.ok v w2/\Gr w w2/\zzq w2 (fun b=>B b\/w.heap.size<=b) r (.returned v):=by
  intro a2 w2 ι2 env H w0 _ hB0' hgr hR2 hE2 h;obtain ⟨x,v,hx,hrun,hv⟩:=zc9 (K:=fun a=>frz zas H a fun p=>p=r) zaa hR2 hE2 h
  obtain ⟨p,rfl,hp⟩:=zge hR2 hB0' x v _ hx hv;exact ⟨v,hrun,hgr,.ret hp⟩
 refine zmk (w0:=Base.of w) (nt:=47) zaa mixed hGw hB0 (Q:=zfm zas tyT Tryz.f18.results.toList r) ?_ 4 c0 (zb6 (fun _=>rfl) _) hk0 ?_ _ _ _ w (h0 Tryz.prog GL zas (fun _ _ _ h=>h) rfl) hS
 ·rintro e a2 w2 he ⟨env,H,hQ,hS3⟩
  obtain ⟨ι2,hR2,hE2⟩:=hS3.rep;have hgr:Gr w w2:=hR2.gr.gr
  cases e with
  | ret =>
   obtain ⟨v,h1,h2⟩:=fin0 a2 w2 ι2 env H _ rfl hB0 hgr hR2 hE2 hQ;show Leaves _ _ _ _ a2.defers .returning w2;rw [hS3.defers];exact ⟨v,h1,h2⟩
  | normal=>exact absurd rfl he
  | exit id=>cases hQ
  | goto l=>cases hQ
  | panic ch =>
   show Leaves _ _ _ _ a2.defers (.panicking ch) w2;rw [hS3.defers];have hr:r=.pan ch:=hQ;subst hr;exact ⟨hgr,rfl⟩
  | outgrown=>cases hQ
 intro env1 H1 a1 w1 hcut hS1;obtain ⟨hHI,hSw⟩:HI/\St (Base.of w) (fun b=>B b\/w.heap.size<=b) 47 (zbf [1,4,5,6,7] (paS g p) 47 0) (paH none none none) a1 w1:=by
  obtain ⟨ι,hR,hE⟩:=hS1.rep
  cases hcut with
  | mk y hh hI=>exact ⟨hI,hS1.defers,hS1.size,hS1.pin,hh.wk _ _ w1 ι a1.tmps hB0 hR hE⟩
  | wk y env2 H2 hw hh hI=>exact ⟨hI,hS1.defers,hS1.size,hS1.pin,(hw.trans hh.wk) _ _ w1 ι a1.tmps hB0 hR hE⟩
 obtain ⟨ι,hR,hE⟩:=hSw.rep;rw [ht];obtain ⟨c,sc,v4,i1⟩:=zoj (hE.eval (.tmp 4));obtain ⟨d,sd,v5,i2⟩:=zoj (hE.eval (.tmp 5));obtain ⟨e,se,v6,i3⟩:=zoj (hE.eval (.tmp 6));obtain ⟨hRa,hka⟩:=hR.tag (k:=0) rfl i1;obtain ⟨hRb,hkb⟩:=hRa.tag (k:=1) rfl i2;obtain ⟨hRc,hkc⟩:=hRb.tag (k:=2) rfl i3;have hkab:Keeps none w1 ι (Rd (fun b=>B b\/w.heap.size<=b) ι (paH none none none)) w1 ι (Rd (fun b=>B b\/w.heap.size<=b) ι (paH (some c) (some d) (some e))):=⟨nR _,fun b hb hl=>⟨(hkc.read b (hkb.read b (hka.read b hb hl).1 hl).1 hl).1,rfl⟩,fun _ _ _ _ h=>h⟩
 have hmf:∀ (fn:Go.Fn) (first cap:Array Value) (w:World),(Instr.makeFunc fn first cap).run Tryz.prog w=.ok (.func fn first cap) w:=fun _ _ _ _=>rfl
 refine wp_seq (wp_region_list ?_);refine zej (v:=.func (.func 34) #[] (zv5 c d e)) (w':=w1) (zlu hg1 _) (by simp [execOp,ho1,v4,v5,v6,hmf]) ?_
 rw [hd1];have hsz:a1.tmps.size=47:=hSw.size;have h9:(a1.put (some 23) (.func (.func 34) #[] (zv5 c d e))).eval (.tmp 23)=.func (.func 34) #[] (zv5 c d e):=by
  simp [Act.eval,Act.put,Array.getD_eq_getD_getElem?,hsz]
 refine z01 (d:=dfr c d e) (w':=w1) (zlu hg2 _) (by simp [execOp,ho2,resolve,h9,Deferred.ofValue,dfr]) ?_
 rw [hd2];have hpm:=hE.put (d:=some 23) (a:=a1) (x:=.junk) (v:=.func (.func 34) #[] (zv5 c d e)) hkab (.junk _);have hS2:St ⟨w,fun _=>False,[dfr c d e],fun _=>none⟩ (fun b=>B b\/w.heap.size<=b) 47 ((zbf [1,4,5,6,7] (paS g p) 47 0).set 23 .junk) (paH (some c) (some d) (some e))
  (Act.put { a1.put (some 23) (.func (.func 34) #[] (zv5 c d e)) with defers:=dfr c d e :: a1.defers } none undef) w1 :=
  ⟨by have:=hSw.defers;show _ :: a1.defers=_;rw [this];rfl,by simpa [Act.put] using hsz,(fun t v h=>by cases h),ι,hRc.ds _,hpm⟩
 change Code.wp Tryz.prog rest _ _ w1;have hB0':∀ b,(Base.mk w (fun _=>False) [dfr c d e] fun _=>none).own b->B b\/w.heap.size<=b:=hB0
 refine wp_mono (zcl (w0:=⟨w,fun _=>False,[dfr c d e],fun _=>none⟩) zaa (fun w' hg=>zbu _ _ ⟨hg.os,hg.tape,hg.output,hg.size,fun k hk=>hg.block k hk id⟩ hG) hB0' mixed kOf mOf lo rest (zb6 (fun _=>rfl) _) hk1 _ _ _ _ w1 (h1 hHI Tryz.prog GL zas (fun _ _ _ h=>h) (fun _ _ _ _ _ h=>h) rfl c d e) hS2) ?_
 rintro ex a2 w2 ⟨env,H,hQ,hS3⟩
 obtain ⟨ι2,hR2,hE2⟩:=hS3.rep;have hinv:∀ w2,(invoke (.fn (.func 34) (zv5 c d e)) #[]).run Tryz.prog w2=.ok (.enter 34 (zv5 c d e)) w2:=fun w2=>by
  simp [invoke,zyp Tryz.func34 (by kernel_rfl) (by kernel_rfl)]
 have hgr:Gr w w2:=⟨hR2.gr.os,hR2.gr.tape,hR2.gr.output,hR2.gr.size,fun k hk=>hR2.gr.block k hk id⟩
 have fin:zfm zas tyT Tryz.f18.results.toList r .ret env H->Leaves Tryz.prog Tryz.f18 a2.tmps (fun e w'=>Gr w w'/\zzq w' (fun b=>B b\/w.heap.size<=b) r e) a2.defers .returning w2:=by
  intro h;rw [hS3.defers];refine leaves_cons (f:=34) (args:=zv5 c d e) (by simp) (hinv w2) ?_
  refine (zvm c d e w2).mono ?_
  rintro e u' w' ⟨rfl,rfl,rfl⟩
  exact fin0 a2 w' ι2 env H _ rfl hB0' hgr hR2 hE2 h
 cases ex with
 | ret=>exact fin hQ
 | normal=>exact fin hQ
 | exit id=>cases hQ
 | goto l=>cases hQ
 | panic ch =>
  obtain ⟨rfl,rfl,q2,q3,q4,⟨a0,a1,a2',a3,a4,x,y⟩⟩:=hQ;obtain ⟨s1,j1⟩:=zjv hR2 (k:=0) rfl;obtain ⟨s2,j2⟩:=zjv hR2 (k:=1) rfl;obtain ⟨s3,j3⟩:=zjv hR2 (k:=2) rfl;have t4:a2.eval (.tmp 4)=.pointer (some ⟨c,0,none⟩):=zru (by have h:=hE2.eval (.tmp 4);have e:aev env (.tmp 4)=.own 0 0:=q2;rw [e] at h;exact h) j1
  have t5:a2.eval (.tmp 5)=.pointer (some ⟨d,0,none⟩):=zru (by have h:=hE2.eval (.tmp 5);have e:aev env (.tmp 5)=.own 1 0:=q3;rw [e] at h;exact h) j2
  have t6:a2.eval (.tmp 6)=.pointer (some ⟨e,0,none⟩):=zru (by have h:=hE2.eval (.tmp 6);have e':aev env (.tmp 6)=.own 2 0:=q4;rw [e'] at h;exact h) j3
  show Leaves Tryz.prog Tryz.f18 a2.tmps _ a2.defers (.panicking zcf) w2;rw [hS3.defers];refine leaves_cons (f:=34) (args:=zv5 c d e) (by simp) (hinv w2) ?_
  refine (zy4 hB0' hR2).mono ?_
  rintro ex u' w' ⟨rfl,hu,ι3,hR3⟩
  simp only;rw [hu];obtain ⟨s1,k1⟩:=zjv hR3 (k:=0) rfl;obtain ⟨s2,k2⟩:=zjv hR3 (k:=1) rfl;obtain ⟨s3,k3⟩:=zjv hR3 (k:=2) rfl;have hgr3:Gr w w':=⟨hR3.gr.os,hR3.gr.tape,hR3.gr.output,hR3.gr.size,fun k hk=>hR3.gr.block k hk id⟩
  refine fin0 a2 w' ι3 ([.junk,.junk,.junk,.junk,.own 0 0,.own 1 0,.own 2 0]++List.replicate 40 .junk) _ _ rfl hB0' hgr3 hR3 ⟨?_,fun t z v hz hv=>?_⟩ ?_
  ·rw [hS3.size];rfl
  ·match t,hz with
   | 0,hz=>cases hz;exact .junk _
   | 1,hz=>cases hz;exact .junk _
   | 2,hz=>cases hz;exact .junk _
   | 3,hz=>cases hz;exact .junk _
   | 4,hz =>
    cases hz
    have:a2.eval (.tmp 4)=v:=by simp [Act.eval,Array.getD_eq_getD_getElem?,hv]
    rw [<-this,t4];exact .own _ _ _ _ k1
   | 5,hz =>
    cases hz
    have:a2.eval (.tmp 5)=v:=by simp [Act.eval,Array.getD_eq_getD_getElem?,hv]
    rw [<-this,t5];exact .own _ _ _ _ k2
   | 6,hz =>
    cases hz
    have:a2.eval (.tmp 6)=v:=by simp [Act.eval,Array.getD_eq_getD_getElem?,hv]
    rw [<-this,t6];exact .own _ _ _ _ k3
   | t + 7,hz =>
    have hz':(List.replicate 40 AV.junk)[t]?=some z:=hz
    have:z=.junk:=by
     rw [List.getElem?_replicate] at hz'
     split at hz' <;> simp_all
    subst this;exact .junk v
  ·cbv
 | outgrown=>cases hQ
/- Own work: what is known of the lexer's tokens where the parser begins;the zfy of Expression. -/
theorem zmd (q:UInt8):∀ (n:Nat) (l t r:Bs),zon uB q n l=some (t,r)->t.length + 4 * r.length<=4 * l.length
 | 0,_,_,_,h=>by cases h
 | n + 1,[],_,_,h=>by cases h
 | n + 1,c :: l,t,r,h=>by
  rw [zon] at h
  split at h
  ·cases h;simp only [List.length_nil,lLC];omega
  ·split at h
   ·cases h
   ·split at h
    ·cases he:zf0 uB l with
     | none=>rw [he] at h;cases h
     | some p =>
      rw [he] at h;simp only [Option.map_eq_some_iff] at h;obtain ⟨z,hz,h2⟩:=h
      cases h2
      have h3:=zmd q n p.2 z.1 z.2 hz;have h4:=z3e (t:=p.1) (r:=p.2) he;have h5:=zmo uB he;simp only [lLA,lLC];omega
    ·simp only [Option.map_eq_some_iff] at h;obtain ⟨z,hz,h2⟩:=h
     cases h2
     have h3:=zmd q n l z.1 z.2 hz;simp only [lLC];omega
theorem zz8 {l t r:Bs} {k:Int} (h:zeu uB zah l=.ok k t r):t.length<=16 * l.length:=by
 cases l with
 | nil=>cases h
 | cons c l =>
  rcases cEm (k=4) with hk|hk
  ·subst hk;rw [zeu] at h
   split at h
   ·rename_i hl
    injection h with h1 h2 h3
    split at h1 <;> exact absurd h1 (by decide)
   ·split at h
    ·unfold zj1 at h
     split at h
     ·cases h
     ·split at h
      ·cases h
      ·split at h
       ·cases h
       ·injection h with h1 h2 h3
        exact absurd h1 (by decide)
    ·split at h
     ·cases hl:lit uB c l with
      | none=>rw [hl] at h;cases h
      | some z =>
       rw [hl] at h
       cases h
       have h1:=zmd c l.length l z.1 z.2 hl;have h2:=zhk z.1;simp only [lLC];omega
     ·cases ho:opL (c :: l) with
      | none=>rw [ho] at h;cases h
      | some w =>
       rw [ho] at h
       injection h with h1 h2 h3
       exact absurd h1 (by decide)
  ·have h1:=congrArg List.length (zs0 uB zah h hk);rw [lLA] at h1;omega
theorem ztr:∀ (n:Nat) (l:Bs) {ts:List Tk} {er:Option (Nat × Int)},zk0 uB zah n l=(ts,er)->ts.length<=l.length
 | 0,_,_,_,h=>by cases h;exact Nat.zero_le _
 | n + 1,l,ts,er,h=>by
  have hle:=zl0 l;rw [zk0] at h
  split at h
  ·cases h;exact Nat.zero_le _
  ·split at h
   ·cases h;exact Nat.zero_le _
   ·split at h
    ·cases h;exact Nat.zero_le _
    ·rename_i k t r ht
     cases h
     have h2:=znj uB zah ht;have h1:=ztr n r (ts:=(zk0 uB zah n r).1) (er:=(zk0 uB zah n r).2) rfl;simp only [lLC];omega
theorem zs2 {p:UInt8->Bool}:∀ (l:Bs),∀ c ∈ l.takeWhile p,p c=true
 | [],c,h=>by cases h
 | x :: l,c,h=>by
  rw [List.takeWhile_cons] at h
  split at h
  ·rename_i hp
   rcases List.mem_cons.1 h with rfl|h
   ·exact hp
   ·exact zs2 l c h
  ·cases h
theorem z74 {w:Bs} (h:z3a w=true):brk w=0:=by
 have key:∀ w ∈ kwL,brk w=0:=by decide
 unfold z3a at h;obtain ⟨v,hv,he⟩:=List.any_eq_true.1 h;have e:v=w:=by simpa using he
 exact e ▸ key v hv
structure TkF (t:Tk) (L:Nat):Prop where
 z:t.t.length<=16 * L
 n:t.k=3->(∀ c ∈ t.t,dgt c=true)/\t.t ≠ []/\zj2 t.t < 9223372036854775808
 k:z58 t
theorem TkF.le {t:Tk} {L M:Nat} (h:TkF t L) (hl:L<=M):TkF t M:=⟨by have:=h.z;omega,h.n,h.k⟩
theorem tok_f {l t r:Bs} {k:Int} {m:Nat} (h:zeu uB zah l=.ok k t r):TkF ⟨k,t,m⟩ l.length:=by
 refine ⟨zz8 h,fun hk=>?_,fun hk=>?_⟩
 ·simp only at hk
  cases l with
  | nil=>cases h
  | cons c l =>
   rw [zeu] at h
   split at h
   ·injection h with h1 h2 h3
    subst hk
    split at h1 <;> exact absurd h1 (by decide)
   ·split at h
    ·rename_i hd;unfold zj1 at h
     split at h
     ·cases h
     ·split at h
      ·cases h
      ·split at h
       ·cases h
       ·rename_i hn
        injection h with h1 h2 h3
        subst h2;refine ⟨zs2 _,?_,by simp only;omega⟩
        rw [List.takeWhile_cons,if_pos hd];exact List.cons_ne_nil _ _
    ·split at h
     ·cases hl:lit uB c l with
      | none=>rw [hl] at h;cases h
      | some z =>
       rw [hl] at h
       injection h with h1 h2 h3
       subst hk;exact absurd h1 (by decide)
     ·cases ho:opL (c :: l) with
      | none=>rw [ho] at h;cases h
      | some w =>
       rw [ho] at h
       injection h with h1 h2 h3
       subst hk;exact absurd h1 (by decide)
 ·simp only at hk;subst hk
  cases l with
  | nil=>cases h
  | cons c l =>
   rw [zeu] at h
   split at h
   ·injection h with h1 h2 h3
    subst h2
    split at h1
    ·rename_i hw;exact z74 hw
    ·exact absurd h1 (by decide)
   ·split at h
    ·unfold zj1 at h
     split at h
     ·cases h
     ·split at h
      ·cases h
      ·split at h
       ·cases h
       ·injection h with h1 h2 h3
        exact absurd h1 (by decide)
    ·split at h
     ·cases hl:lit uB c l with
      | none=>rw [hl] at h;cases h
      | some z =>
       rw [hl] at h
       injection h with h1 h2 h3
       exact absurd h1 (by decide)
     ·cases ho:opL (c :: l) with
      | none=>rw [ho] at h;cases h
      | some w =>
       rw [ho] at h
       injection h with h1 h2 h3
       exact absurd h1 (by decide)
theorem zxy:∀ (n:Nat) (l:Bs) {ts:List Tk} {er:Option (Nat × Int)},zk0 uB zah n l=(ts,er)->∀ x ∈ ts,TkF x l.length
 | 0,_,_,_,h,x,hx=>by cases h;cases hx
 | n + 1,l,ts,er,h,x,hx=>by
  have hle:=zl0 l;rw [zk0] at h
  split at h
  ·cases h;cases hx
  ·split at h
   ·cases h;cases hx
   ·split at h
    ·cases h;cases hx
    ·rename_i k t r ht
     cases h
     have h2:=znj uB zah ht
     rcases List.mem_cons.1 hx with rfl|hx
     ·exact (tok_f ht).le hle
     ·exact (zxy n r (ts:=(zk0 uB zah n r).1) (er:=(zk0 uB zah n r).2) rfl x hx).le (by omega)
theorem zr4 {l:Bs} {ts:List Tk} {e:Option (Nat × Int)} (h:zec l=(ts,e)):ts.length<=l.length:=ztr _ _ (show zk0 uB zah (l.length + 1) l=_ from h)
theorem z0a {l:Bs} {n:Int} {ts:List Tk} {e:Option (Nat × Int)} (h:zec l=(ts,e)) (hl:l.length<=60000):AtP n (ts.map er) (zbr n ts) 0 (ts.map er):=by
 have hf:=zxy _ _ (show zk0 uB zah (l.length + 1) l=_ from h);have hc:=zr4 h;refine ⟨by omega,by omega,rfl,⟨ts,rfl,rfl⟩,by rw [lLM];omega,fun t ht=>?_,fun t ht=>?_⟩
 ·obtain ⟨x,hx,rfl⟩:=List.mem_map.1 ht;show x.t.length<=1000000
  have:=(hf x hx).z
  omega
 ·obtain ⟨x,hx,rfl⟩:=List.mem_map.1 ht;exact (hf x hx).n
section
variable {n:Int} {toks:List Tk} {LR:List (List PV)} {l:Ts}
theorem z5j {a b:Int} {k i q:Int} {nm:ByteArray} {K:PV} (hK:zjg (.p K)=true) (h:MP 22 [.own 0 0] [rdr LR a cx0] (.p (.agg [pI k,pS nm,pI i,pI q,K])) [rdr LR b cx0]) :
  MP 21 [.own 0 0] [rdr LR a cx0] (.p (.agg [pI k,pS nm,pI i,pI q,K])) [rdr LR b cx0]:=by
 refine zad zaa (f:=21) Tryz.func21 rfl (by kernel_rfl) (oT (by kernel_rfl)) fun tags htl=>?_
 match tags,htl with
 | [t0],_ =>
  refine Seg.of zaa mixed (fun _=>0) (by kernel_rfl) (fun E=>za0 E tyT Tryz.f21.results.toList [t0] (.p (.agg [pI k,pS nm,pI i,pI q,K])) [rdr LR b cx0]) fun P G E hc hM hE=>?_
  cbv at hK;cbv;refine .z [0] (hM _ _ _ _ _ h) rfl rfl rfl ?_;cbv;simp only [hK];cbv;all_goals trivial
theorem z1p {a:Int} (h:MP 22 [.own 0 0] [rdr LR a cx0] (.p (.pan zcf)) [none]) :
  MP 21 [.own 0 0] [rdr LR a cx0] (.p (.pan zcf)) [none]:=by
 refine zad zaa (f:=21) Tryz.func21 rfl (by kernel_rfl) (oT (by kernel_rfl)) fun tags htl=>?_
 match tags,htl with
 | [t0],_ =>
  refine Seg.of zaa mixed (fun _=>0) (by kernel_rfl) (fun E=>za0 E tyT Tryz.f21.results.toList [t0] (.p (.pan zcf)) [none]) fun P G E hc hM hE=>?_
  cbv;refine .z [0] (hM _ _ _ _ _ h) rfl rfl rfl ?_;cbv;all_goals trivial
structure ClO (g:FuncId) (LR:List (List PV)) (toks:List Tk) (o:Option (PT × Nat)):Prop where
 bad:o=none->MP g [.own 0 0] [rdr LR 0 cx0] (.p (.pan zcf)) [none]
 good:∀ x m,o=some (x,m)->∃ k i q nm K,NodeV x k i q nm K/\zfz x/\m<=toks.length/\MP g [.own 0 0] [rdr LR 0 cx0] (.p (.agg [pI k,pS nm,pI i,pI q,K])) [rdr LR (((toks.length:Nat):Int) - (m:Nat)) cx0]
def exP (l:Ts):Option (PT × Nat):=match ev (.assign cx0 l) with
 | some (some (.nd x,l'))=>some (x,l'.length)
 | _=>none
def scO (l:Ts):Option (PT × Nat):=(zpn l).map fun ks=>(nd 42 ks,0)
theorem z1o (h:AtP n toks LR 0 toks):ClO 21 LR toks (exP toks):=by
 have hl:toks.length<=1000000:=h.z
 rcases zd0.nd (zo1 _ (.assign cx0 toks) (nLS _)) rfl rfl h with ⟨h1,h2⟩|⟨x,l',b,k,i,q,nm,KK,h1,h2,h3,h4,h5⟩
 ·have e:exP toks=none:=by unfold exP;rw [h1]
  rw [e];exact ⟨fun _=>z1p h2,fun _ _ h=>by cases h⟩
 ·have e:exP toks=some (x,l'.length):=by unfold exP;rw [h1]
  rw [e];refine ⟨fun h=>(by cases h),fun y m h'=>?_⟩
  cases h'
  refine ⟨k,i,q,nm,KK,h3,?_,by have:=h2.h1;have:=h2.h0;omega,?_⟩
  ·exact zre _ (.assign cx0 toks) (nLS _) ⟨hl,trivial⟩ _ _ h1
  ·rw [h2.place];exact z5j h3.one h5
theorem z35 (h:AtP n toks LR 0 toks):ClO 19 LR toks (scO toks):=by
 have hm:=z0g h;have hz:=h.z;unfold scO
 cases hs:zpn toks with
 | none =>
  rw [hs] at hm;exact ⟨fun _=>hm,fun _ _ h=>by cases h⟩
 | some ks =>
  rw [hs] at hm;refine ⟨fun h=>(by cases h),fun y m h'=>?_⟩
  cases h'
  have hw:=zwa _ [] toks (by trivial) (by simpa using hz) (show zif (toks.length + 1) [] toks=some ks from hs)
  obtain ⟨k,i,q,nm,K,hv⟩:=zih (nd 42 ks);refine ⟨k,i,q,nm,K,hv,zf1 (by omega) hw.1,Nat.zero_le _,?_⟩
  have hm2:MP 19 [.own 0 0] [rdr LR 0 cx0] (.p (.agg (za8 (nd 42 ks)))) [rdr LR ((toks.length:Nat):Int) cx0]:=hm;rw [hv.row] at hm2;rw [show ((toks.length:Nat):Int) - ((0:Nat):Int)=((toks.length:Nat):Int) by omega]
  exact hm2
end
/- Own work: what the parser's parse returns. -/
def zg6 (x:PT) (at_ e:Int):PV:=.tup [.agg (za8 x),pI at_,pI e]
def ptZ:PT:=.mk 0 [] 0 0 []
theorem zl7 (at_ e:Int):zg6 ptZ at_ e=.tup [zP,pI at_,pI e]:=by unfold zg6 ptZ;rw [za8,zao];rfl
def kP (n:Nat):Nat:=match n with
 | 9=>9
 | _=>0
def lP (n:Nat):Nat->Nat:=match n with
 | 3=>fun _=>1
 | _=>fun _=>0
theorem zir {g:FuncId} {s p r:PV} {HI:Prop}
  (h0:∀ (P':Program) (G':World->Prop) (E:SO),(∀ f l r,Ret Tryz.prog GL f l r->Ret P' G' f l r)->E=zas →
   zld P' G' E tyT kP (fun _=>[]) lP (ze3 4 (Tryz.f18.body.getD .skip)) (zce (CutIs 47 [1,4,5,6,7] 3 (fun _:Unit=>paS g p) (fun _=>paH none none none) fun _=>HI) (zfm E tyT Tryz.f18.results.toList r)) (.p s :: .p (.v (.func (.func g) #[] #[])) :: List.replicate 45 (.p (.v undef))) [])
  (h1:HI->∀ (P':Program) (G':World->Prop) (E:SO),(∀ f l r,Ret Tryz.prog GL f l r->Ret P' G' f l r)->(∀ f xs H r H',zd4 Tryz.prog GL f xs H r H'->zd4 P' G' f xs H r H')->E=zas->∀ t1 t2 t3:Nat,
   zld P' G' E tyT kP (fun _=>[]) lP (zlb 5 (Tryz.f18.body.getD .skip)) (paQ E t1 t2 t3 r) ((zbf [1,4,5,6,7] (paS g p) 47 0).set 23 .junk) (paH (some t1) (some t2) (some t3))):RL 18 [s,.v (.func (.func g) #[] #[])] r :=
 zuq kP (fun _=>[]) lP rfl rfl rfl rfl rfl rfl rfl rfl (by kernel_rfl) (by kernel_rfl) h0 h1
section
variable {g:FuncId} {s:ByteArray} (hs:s.size<=60000)
include hs
theorem zxa {ts:List Tk} {m:Nat} {e:Int} (h:zec s.data.toList=(ts,some (m,e))):RL 18 [pS s,.v (.func (.func g) #[] #[])] (zg6 ptZ ((s.size:Nat) - (m:Nat)) e):=by
 have hl:=zop s (by omega)
 rw [ztq h] at hl;have he:e ≠ 0:=zmg _ _ m e (congrArg Prod.snd h);rw [zl7];obtain ⟨q,hq⟩:∃ x:Int,((s.size:Nat):Int) - (m:Nat)=x:=⟨_,rfl⟩
 rw [hq] at hl ⊢;refine zir (p:=.v undef) (HI:=False) (fun P G E hc hE=>?_) (fun h=>h.elim)
 have l0:=hc _ _ _ hl;have d1:decide (e=0)=false:=dF he;clear hE hc hl h hq hs;cbv;refine ⟨_,l0,?_⟩;cbv;simp only [d1];cbv
 repeat' (first|exact trivial|refine ⟨?_,?_⟩)
theorem zrs {ts:List Tk} (h:zec s.data.toList=(ts,none)) (hq:za3 0 ts=true):RL 18 [pS s,.v (.func (.func g) #[] #[])] (zg6 ptZ 0 5):=by
 have hl:=zop s (by omega)
 have hz:ts.length<=1000000:=by have:=zr4 h;have:s.data.toList.length=s.size:=rfl;omega
 have hw:=upL (zmt (s.size:Nat) ts hz);rw [zoq h] at hl;rw [hq] at hw;rw [zl7];obtain ⟨LR,hLR⟩:∃ x,zbr (s.size:Nat) ts=x:=⟨_,rfl⟩
 rw [hLR] at hl hw;refine zir (p:=.v undef) (HI:=False) (fun P G E hc hE=>?_) (fun h=>h.elim)
 have l0:=hc _ _ _ hl;have l1:=hc _ _ _ hw;clear hE hc hl hw h hq hs hz;cbv;refine ⟨_,l0,?_⟩;cbv;refine ⟨_,l1,?_⟩;cbv
theorem zjc {r:PV} {ts:List Tk} (h:zec s.data.toList=(ts,none)) (hq:za3 0 ts=false) (h1:∀ (P':Program) (G':World->Prop) (E:SO),(∀ f l r,Ret Tryz.prog GL f l r->Ret P' G' f l r)->(∀ f xs H r H',zd4 Tryz.prog GL f xs H r H'->zd4 P' G' f xs H r H')->E=zas->∀ (t1 t2 t3:Nat) (Q:Exit->List AV->AH->Prop),(∀ env H,zfm E tyT Tryz.f18.results.toList r .ret env H->Q .ret env H) →
   (∀ env a0 a1 a2 a3 a4 x y,r=.tup [zP,pI 0,pI 4]->env.getD 4 .junk=.own 0 0->env.getD 5 .junk=.own 1 0->env.getD 6 .junk=.own 2 0->Q (.panic zcf) env (pzH [a0,a1,a2,a3,a4] x y (some t1) (some t2) (some t3) [none])) →
   zld P' G' E tyT kP (fun _=>[]) lP (zlb 5 (Tryz.f18.body.getD .skip)) Q ((zbf [1,4,5,6,7] (paS g (.ro 3 (zbr (s.size:Nat) ts))) 47 0).set 23 .junk) (paH (some t1) (some t2) (some t3))) :
  RL 18 [pS s,.v (.func (.func g) #[] #[])] r:=by
 have hl:=zop s (by omega)
 have hz:ts.length<=1000000:=by have:=zr4 h;have:s.data.toList.length=s.size:=rfl;omega
 have hw:=upL (zmt (s.size:Nat) ts hz);rw [zoq h] at hl;rw [hq] at hw;obtain ⟨LR,hLR⟩:∃ x,zbr (s.size:Nat) ts=x:=⟨_,rfl⟩
 rw [hLR] at hl hw h1;refine zir (p:=.ro 3 LR) (HI:=True) (fun P G E hc hE=>?_) (fun _ P G E hc hM hE t1 t2 t3=>h1 P G E hc hM hE t1 t2 t3 _ (fun env H hr=>hr) (fun env a0 a1 a2 a3 a4 x y hr e1 e2 e3=>⟨rfl,hr,e1,e2,e3,.mk ..⟩))
 have l0:=hc _ _ _ hl;have l1:=hc _ _ _ hw;clear hE hc hl hw h hq hs hz h1 hLR;cbv;refine ⟨_,l0,?_⟩;cbv;refine ⟨_,l1,?_⟩;cbv;exact .mk () ⟨rfl,rfl,rfl,rfl,rfl⟩ trivial
theorem zw9 {n:Int} {ts:List Tk} (hn:n=(s.size:Nat)) (h:zec s.data.toList=(ts,none)) (hq:za3 0 ts=false) (hg:MP g [.own 0 0] [rdr (zbr n ts) 0 cx0] (.p (.pan zcf)) [none]):RL 18 [pS s,.v (.func (.func g) #[] #[])] (zg6 ptZ 0 4):=by
 subst hn;rw [zl7];refine zjc hs h hq fun P G E hc hM hE t1 t2 t3 Q q1 q2=>?_
 replace hg:=hM _ _ _ _ _ hg;obtain ⟨LR,hLR⟩:∃ x,zbr (s.size:Nat) ts=x:=⟨_,rfl⟩
 rw [hLR] at hg ⊢;clear hE hc hM h hq hs hLR;cbv;refine .mk _ _ (Wk.refl _ _) [3] _ _ _ _ hg rfl rfl rfl ?_;cbv;exact q2 _ _ _ _ _ _ _ _ rfl rfl rfl rfl
section
variable {ts:List Tk} {a k i q:Int} {nm:ByteArray} {K:PV} (h:zec s.data.toList=(ts,none)) (hq:za3 0 ts=false) (hK:zjg (.p K)=true)
 (hg:MP g [.own 0 0] [rdr (zbr (s.size:Nat) ts) 0 cx0] (.p (.agg [pI k,pS nm,pI i,pI q,K])) [rdr (zbr (s.size:Nat) ts) a cx0])
include h hq hK hg
theorem zur (hl:a < ((ts.length:Nat):Int)):RL 18 [pS s,.v (.func (.func g) #[] #[])] (zg6 ptZ 0 4):=by
 rw [zl7];refine zjc hs h hq fun P G E hc hM hE t1 t2 t3 Q q1 q2=>?_
 replace hg:=hM _ _ _ _ _ hg;have hf:=hM _ _ _ _ _ (upM (zch (zbr (s.size:Nat) ts) a cx0));have hlt:E.lti a (E.ofN (zbr (s.size:Nat) ts).length)=true:=by rw [hE,zd7];exact dT hl
 obtain ⟨LR,hLR⟩:∃ x,zbr (s.size:Nat) ts=x:=⟨_,rfl⟩
 rw [hLR] at hg hf hlt ⊢;clear hE hc hM h hq hs hLR hl;cbv at hK;cbv at hlt;cbv;refine .mk _ _ (Wk.refl _ _) [3] _ _ _ _ hg rfl rfl rfl ?_;cbv
 repeat (first|(simp only [hK];cbv)|(simp only [hlt];cbv))
 refine .mk _ _ (Wk.refl _ _) [3] _ _ _ _ hf rfl rfl rfl ?_;cbv;exact q2 _ _ _ _ _ _ _ _ rfl rfl rfl rfl
variable {x:PT} (hx:za8 x=[pI k,pS nm,pI i,pI q,K]) (hw:zfz x) (hl:a=((ts.length:Nat):Int))
include hx hw hl
theorem zut (hd:512 < zek x):RL 18 [pS s,.v (.func (.func g) #[] #[])] (zg6 ptZ 0 5):=by
 rw [zl7];have hsh:=upL (zgi (zek x) x 512 (nR _) hw (by decide))
 rw [hx,dF (show ¬ ((zek x:Nat):Int)<=512 by omega)] at hsh
 refine zjc hs h hq fun P G E hc hM hE t1 t2 t3 Q q1 q2=>?_
 replace hg:=hM _ _ _ _ _ hg;replace hsh:=hc _ _ _ hsh;have hlt:E.lti a (E.ofN (zbr (s.size:Nat) ts).length)=false:=by rw [hE,zd7];exact dF (show ¬ a < ((ts.length:Nat):Int) by omega)
 obtain ⟨LR,hLR⟩:∃ x,zbr (s.size:Nat) ts=x:=⟨_,rfl⟩
 rw [hLR] at hg hlt ⊢;clear hE hc hM h hq hs hLR hl hx hw hd;cbv at hK;cbv at hlt;cbv;refine .mk _ _ (Wk.refl _ _) [3] _ _ _ _ hg rfl rfl rfl ?_;cbv
 repeat (first|(simp only [hK];cbv)|(simp only [hlt];cbv))
 refine ⟨_,hsh,?_⟩;cbv;refine q1 _ _ ?_;cbv
theorem zus (hd:zek x<=512):RL 18 [pS s,.v (.func (.func g) #[] #[])] (zg6 x 0 0):=by
 unfold zg6;have hsh:=upL (zgi (zek x) x 512 (nR _) hw (by decide))
 rw [hx,dT (show ((zek x:Nat):Int)<=512 by omega)] at hsh
 rw [hx];refine zjc hs h hq fun P G E hc hM hE t1 t2 t3 Q q1 q2=>?_
 replace hg:=hM _ _ _ _ _ hg;replace hsh:=hc _ _ _ hsh;have hlt:E.lti a (E.ofN (zbr (s.size:Nat) ts).length)=false:=by rw [hE,zd7];exact dF (show ¬ a < ((ts.length:Nat):Int) by omega)
 obtain ⟨LR,hLR⟩:∃ x,zbr (s.size:Nat) ts=x:=⟨_,rfl⟩
 rw [hLR] at hg hlt ⊢;clear hE hc hM h hq hs hLR hl hx hw hd;cbv at hK;cbv at hlt;cbv;refine .mk _ _ (Wk.refl _ _) [3] _ _ _ _ hg rfl rfl rfl ?_;cbv
 repeat (first|(simp only [hK];cbv)|(simp only [hlt];cbv))
 refine ⟨_,hsh,?_⟩;cbv;simp only [hK];cbv;refine q1 _ _ ?_;cbv
end
end
def zcj (cl:Ts->Option (PT × Nat)) (s:ByteArray):PV:=match zec s.data.toList with
 | (_,some p)=>zg6 ptZ ((s.size:Nat) - (p.1:Nat)) p.2
 | (ts,none)=>if za3 0 ts=true then zg6 ptZ 0 5 else (match cl (ts.map er) with
  | none=>zg6 ptZ 0 4
  | some (x,m)=>if m ≠ 0 then zg6 ptZ 0 4 else if 512 < zek x then zg6 ptZ 0 5 else zg6 x 0 0)
theorem zp9 {g:FuncId} {s:ByteArray} {cl:Ts->Option (PT × Nat)} (hs:s.size<=60000) (hcl:∀ (ts:Ts) (LR:List (List PV)),AtP (s.size:Nat) ts LR 0 ts->ClO g LR ts (cl ts)):RL 18 [pS s,.v (.func (.func g) #[] #[])] (zcj cl s):=by
 unfold zcj
 cases h:zec s.data.toList with
 | mk ts e =>
  cases e with
  | some p=>exact zxa hs h
  | none =>
   have hat:=z0a (n:=(s.size:Nat)) h (by show s.size<=60000;omega)
   simp only
   cases hq:za3 0 ts with
   | true=>exact zrs hs h hq
   | false =>
    have hO:=hcl _ _ hat;simp only [Bool.false_eq_true,if_false]
    cases hc:cl (ts.map er) with
    | none=>exact zw9 hs rfl h hq (hO.bad hc)
    | some xm =>
     obtain ⟨x,m⟩:=xm;obtain ⟨k,i,q,nm,K,hv,hw,hm,hg⟩:=hO.good x m hc;rw [lLM] at hm hg;simp only
     by_cases h0:m=0
     ·subst h0;rw [if_neg (by simp)]
      have hl:((ts.length:Nat):Int) - ((0:Nat):Int)=((ts.length:Nat):Int):=by omega
      by_cases hd:512 < zek x
      ·rw [if_pos hd];exact zut hs h hq hv.one hg hv.row hw hl hd
      ·rw [if_neg hd];exact zus hs h hq hv.one hg hv.row hw hl (by omega)
     ·rw [if_pos h0];exact zur hs h hq hv.one hg (by omega)
/- Own work: Parse,Expression,and what awake asks. -/
theorem zxd (x:PT) (a e:Int):∃ k i q nm K,zjg (.p K)=true/\zg6 x a e=.tup [.agg [pI k,pS nm,pI i,pI q,K],pI a,pI e]:=by
 obtain ⟨k,i,q,nm,K,hv⟩:=zih x;exact ⟨k,i,q,nm,K,hv.one,by unfold zg6;rw [hv.row]⟩
theorem znq (cl:Ts->Option (PT × Nat)) (s:ByteArray):∃ x a e,zcj cl s=zg6 x a e:=by
 unfold zcj
 split
 ·exact ⟨_,_,_,rfl⟩
 ·split
  ·exact ⟨_,_,_,rfl⟩
  ·split
   ·exact ⟨_,_,_,rfl⟩
   ·split
    ·exact ⟨_,_,_,rfl⟩
    ·split <;> exact ⟨_,_,_,rfl⟩
theorem zzo (s:ByteArray) (hs:s.size<=60000):RL 10 [pS s] (zcj scO s):=by
 have hp:=zp9 hs (g:=19) (cl:=scO) fun ts LR h=>z35 h
 obtain ⟨x,a,e,hx⟩:=znq scO s;obtain ⟨k,i,q,nm,K,hK,ho⟩:=zxd x a e;rw [hx,ho] at hp ⊢;refine zfb zaa zbu mixed (fun _=>0) Tryz.func10 rfl (by kernel_rfl) (by kernel_rfl) rfl fun P G E hc hM hE=>?_
 replace hp:=hc _ _ _ hp;clear hc hM hE hx ho hs;cbv at hK;cbv;refine ⟨_,hp,?_⟩;cbv;simp only [hK];cbv
theorem z15 (s:ByteArray) (hs:s.size<=60000):RL 11 [pS s] (zcj exP s):=by
 have hp:=zp9 hs (g:=21) (cl:=exP) fun ts LR h=>z1o h
 obtain ⟨x,a,e,hx⟩:=znq exP s;obtain ⟨k,i,q,nm,K,hK,ho⟩:=zxd x a e;rw [hx,ho] at hp ⊢;refine zfb zaa zbu mixed (fun _=>0) Tryz.func11 rfl (by kernel_rfl) (by kernel_rfl) rfl fun P G E hc hM hE=>?_
 replace hp:=hc _ _ _ hp;clear hc hM hE hx ho hs;cbv at hK;cbv;refine ⟨_,hp,?_⟩;cbv;simp only [hK];cbv
def sA:ByteArray:=⟨#[108,101,116,32,97,32,61,32,49,59]⟩
def tA:List Tk:=[⟨2,[108,101,116],10⟩,⟨1,[97],6⟩,⟨5,[61],4⟩,⟨3,[49],2⟩,⟨5,[59],1⟩]
theorem lexA:zec sA.data.toList=(tA,none):=by kernel_rfl
theorem crA:za3 0 tA=false:=by kernel_rfl
def pA0:PT:=.mk 5 [] 1 0 []
def pA1:PT:=.mk 40 [97] 0 0 [pA0]
def pA2:PT:=.mk 24 [] 0 0 [pA1]
theorem scA:zpn (tA.map er)=some [pA2]:=by kernel_rfl
theorem parA:zcj scO sA=zg6 (nd 42 [pA2]) 0 0:=by
 unfold zcj scO;rw [lexA];simp only [crA,scA,Option.map_some];rfl
abbrev rA0:List PV:=[pI 5,pS ⟨#[]⟩,pI 1,pI 0,.v (.slice none 0 0)]
abbrev rA1:List PV:=[pI 40,pS ⟨#[97]⟩,pI 0,pI 0,.ro 5 [rA0]]
abbrev rA2:List PV:=[pI 24,pS ⟨#[]⟩,pI 0,pI 0,.ro 5 [rA1]]
abbrev rA3:List PV:=[pI 42,pS ⟨#[]⟩,pI 0,pI 0,.ro 5 [rA2]]
theorem rowA:za8 (nd 42 [pA2])=rA3:=by
 unfold pA2 pA1 pA0 nd;simp only [za8,zao,zae];rfl
abbrev cP:PV:=.agg [pB false,pB false,pB false,pB false]
theorem zhj {G : World → Prop} (hG : ∀ w w', Gr w w' → G w → G w') {f : FuncId} {fn : Func} {c : Code} (hf : Tryz.prog.funcs[f]? = some fn) (hb : fn.body = some c) (hn : (fn.name == "runtime.NumGoroutine") = false) {l : List PV} {r : PV} (hl : decide (l.length ≤ fn.ntmps) = true) (hok : zb9 fn.ntmps (fun _ => 0) (fun _ => []) (fun _ _ => 1) c = true)
  (h:∀ (P':Program) (G':World->Prop) (E:SO),(∀ f l r,Ret Tryz.prog G f l r->Ret P' G' f l r)->E=zas->zld P' G' E tyT (fun _=>0) (fun _=>[]) (fun _ _=>1) c (zfm E tyT fn.results.toList r) (l.map .p++List.replicate (fn.ntmps - l.length) (.p (.v undef))) []):Ret Tryz.prog G f l r :=
 zew zaa hG hf hb hn (oT hl) (Seg.ofM zaa mixed (fun _=>0) (fun _=>[]) (fun _ _=>1) hok (fun E=>zfm E tyT fn.results.toList r) fun P G E hc _ hE=>h P G E hc hE)
theorem exprA:RL 77 [.agg rA0,cP] (pB true):=by
 refine zhj zbu Tryz.func77 rfl (by kernel_rfl) rfl (by kernel_rfl) fun P G E hc hE=>?_
 clear hc;have z0:E.ofN 0=0:=by rw [hE];rfl
 have z1:E.lei 0 1=true:=by rw [hE];rfl
 cbv;cbv
 repeat (first|(simp only [z0];cbv)|simp only [z1])
structure FzA (E:SO):Prop where
 z0:E.ofN 1=1
 z1:E.lti 0 1=true
 z2:E.lti 1 1=false
 z3:E.wadd .i64 0 1=1
 z4:E.ple 0 0
 z5:E.nat 0=0
theorem fzA {E:SO} (hE:E=zas):FzA E:=by subst hE;exact ⟨rfl,rfl,rfl,rfl,Int.le_refl 0,rfl⟩
theorem z8g:RL 83 [.ro 5 [rA0],cP] (pB true):=by
 refine zhj zbu Tryz.func83 rfl (by kernel_rfl) rfl (by kernel_rfl) fun P G E hc hE=>?_
 have h1:=hc _ _ _ exprA;clear hc;obtain ⟨z0,z1,z2,z3,z4,z5⟩:=fzA hE;have r0:([rA0]:List (List PV))[E.nat 0]?=some rA0:=by rw [z5];rfl
 cbv;cbv;simp only [z0];cbv;refine zbs 18 [3,4,7,8,9] 1 (fun x:Bool=>[.own 0 0,.p (pB false),.p (.ro 5 [rA0]),.p (pI 1),.p (pI (match x with|false=>0|true=>1))]) (fun _=>[some (.box [.p (pB false),.p (pB false),.p (pB false),.p (pB false)] 48 none)]) (fun _=>True) (fun x=>match x with|false=>1|true=>0) false ⟨rfl,rfl,rfl,rfl,rfl⟩ trivial ?_
 intro x _
 cases x with
 | false =>
  cbv
  repeat (first|(simp only [z1];cbv)|(refine ⟨z4,_,r0,?_⟩;cbv)|(refine ⟨_,h1,?_⟩;cbv)|(simp only [z3];cbv))
  exact .mk true ⟨rfl,rfl,rfl,rfl,rfl⟩ trivial (by decide)
 | true =>
  cbv;simp only [z2];cbv
def iA:ByteArray:=⟨#[97]⟩
theorem lexI:zec iA.data.toList=([⟨1,[97],1⟩],none):=by kernel_rfl
theorem z78:RL 82 [pS ⟨#[97]⟩,pB false] (pB true):=by
 have hl:=zop iA (by decide)
 rw [zoq lexI] at hl;refine zhj zbu Tryz.func82 rfl (by kernel_rfl) rfl (by kernel_rfl) fun P G E hc hE=>?_
 have h1:Ret P G 32 [pS ⟨#[97]⟩] (.tup [.ro 3 [[pI 1,pS ⟨#[97]⟩,pI 0]],pI 0,pI 0]):=hc _ _ _ hl;clear hc hl;obtain ⟨z0,z1,z2,z3,z4,z5⟩:=fzA hE;have r0:([[pI 1,pS ⟨#[97]⟩,pI 0]]:List (List PV))[E.nat 0]?=some [pI 1,pS ⟨#[97]⟩,pI 0]:=by rw [z5];rfl
 have e0:E.eq ⟨#[97]⟩ ⟨#[97]⟩=true:=by rw [hE];exact dT (rfl:(⟨#[97]⟩:ByteArray)=⟨#[97]⟩)
 cbv at e0;cbv;cbv
 repeat (first|(refine ⟨_,h1,?_⟩;cbv)|(simp only [z0];cbv)|(refine ⟨z4,_,r0,?_⟩;cbv)|(simp only [e0];cbv))
theorem declA:RL 76 [.agg rA2,cP] (pB true):=by
 refine zhj zbu Tryz.func76 rfl (by kernel_rfl) rfl (by kernel_rfl) fun P G E hc hE=>?_
 have h1:=hc _ _ _ z8g;have h2:=hc _ _ _ z78;clear hc;obtain ⟨z0,z1,z2,z3,z4,z5⟩:=fzA hE;have r0:([rA1]:List (List PV))[E.nat 0]?=some rA1:=by rw [z5];rfl
 cbv;cbv;simp only [z0];cbv;refine zbs 52 [2,3,4,8,9,10] 2 (fun x:Bool=>[.own 0 0,.own 1 0,.p (pB false),.p (.ro 5 [rA1]),.p (pI 1),.p (pI (match x with|false=>0|true=>1))]) (fun _=>[some (.box [.p (pI 24),.p (pS ⟨#[]⟩),.p (pI 0),.p (pI 0),.p (.ro 5 [rA1])] 27 none),some (.box [.p (pB false),.p (pB false),.p (pB false),.p (pB false)] 48 none)]) (fun _=>True) (fun x=>match x with|false=>1|true=>0) false ⟨rfl,rfl,rfl,rfl,rfl⟩ trivial ?_
 intro x _
 cases x with
 | false =>
  cbv
  repeat (first|(simp only [z1];cbv)|(refine ⟨z4,_,r0,?_⟩;cbv)|(refine ⟨_,h2,?_⟩;cbv)|(simp only [z0];cbv)|(simp only [z2];cbv)|(refine ⟨_,h1,?_⟩;cbv)|(simp only [z3];cbv))
  exact .mk true ⟨rfl,rfl,rfl,rfl,rfl⟩ trivial (by decide)
 | true =>
  cbv
  repeat (first|(simp only [z2];cbv)|(simp only [z0];cbv)|simp only [z1])
theorem stmtA:RL 59 [.agg rA2,cP] (pB true):=by
 refine zhj zbu Tryz.func59 rfl (by kernel_rfl) rfl (by kernel_rfl) fun P G E hc hE=>?_
 have h1:=hc _ _ _ declA;clear hc;cbv;cbv;refine ⟨_,h1,?_⟩;cbv
theorem z6k:RL 31 [.ro 5 [rA2],cP] (pB true):=by
 refine zhj zbu Tryz.func31 rfl (by kernel_rfl) rfl (by kernel_rfl) fun P G E hc hE=>?_
 have h1:=hc _ _ _ stmtA;clear hc;obtain ⟨z0,z1,z2,z3,z4,z5⟩:=fzA hE;have r0:([rA2]:List (List PV))[E.nat 0]?=some rA2:=by rw [z5];rfl
 cbv;cbv;simp only [z0];cbv;refine zbs 18 [3,4,7,8,9] 1 (fun x:Bool=>[.own 0 0,.p (pB false),.p (.ro 5 [rA2]),.p (pI 1),.p (pI (match x with|false=>0|true=>1))]) (fun _=>[some (.box [.p (pB false),.p (pB false),.p (pB false),.p (pB false)] 48 none)]) (fun _=>True) (fun x=>match x with|false=>1|true=>0) false ⟨rfl,rfl,rfl,rfl,rfl⟩ trivial ?_
 intro x _
 cases x with
 | false =>
  cbv
  repeat (first|(simp only [z1];cbv)|(refine ⟨z4,_,r0,?_⟩;cbv)|(refine ⟨_,h1,?_⟩;cbv)|(simp only [z3];cbv))
  exact .mk true ⟨rfl,rfl,rfl,rfl,rfl⟩ trivial (by decide)
 | true =>
  cbv;simp only [z2];cbv
theorem z6h:RL 17 [.agg rA3] (pB true):=by
 have hw:zfz (nd 42 [pA2]):=by
  unfold pA2 pA1 pA0 nd;exact zf2 (zf2 (zf2 znc))
 have hs:=upL (zgi 4 (nd 42 [pA2]) 512 (by decide) hw (by decide))
 rw [rowA,show decide (((zek (nd 42 [pA2]):Nat):Int)<=512)=true by decide] at hs
 refine zhj zbu Tryz.func17 rfl (by kernel_rfl) rfl (by kernel_rfl) fun P G E hc hE=>?_
 have h1:=hc _ _ _ hs;have h2:=hc _ _ _ z6k;clear hc hs hw;cbv;cbv
 repeat (first|(refine ⟨_,h1,?_⟩;cbv)|(refine ⟨_,h2,?_⟩;cbv))
theorem zzb:RL 9 [] (pB true):=by
 have hp:=zzo sA (by decide)
 rw [parA] at hp;unfold zg6 at hp;rw [rowA] at hp;refine zhj zbu Tryz.func9 rfl (by kernel_rfl) rfl (by kernel_rfl) fun P G E hc hE=>?_
 have h1:=hc _ _ _ hp;have h2:=hc _ _ _ z6h;clear hc hp;obtain ⟨z0,z1,z2,z3,z4,z5⟩:=fzA hE;have r0:([rA2]:List (List PV))[E.nat 0]?=some rA2:=by rw [z5];rfl
 cbv;cbv
 repeat (first|(refine ⟨_,h1,?_⟩;cbv)|(simp only [z0];cbv)|(refine ⟨z4,_,r0,?_⟩;cbv)|(refine ⟨_,h2,?_⟩;cbv))
end Go.Proofs.YtcfecmeocimclaaGreatDoor
