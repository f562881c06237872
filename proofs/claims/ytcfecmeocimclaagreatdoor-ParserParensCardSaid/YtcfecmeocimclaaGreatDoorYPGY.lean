/- Own work,plain: what the parser makes of a list is what it makes of it with more behind,if it stops ahead of its end,or if what is behind begins with a closing parenthesis. -/
import Derived.Test.YtcfecmeocimclaaGreatDoorYPA0
import Derived.Test.YtcfecmeocimclaaGreatDoorYPGX
namespace Go.Proofs.YtcfecmeocimclaaGreatDoor
set_option linter.unusedSimpArgs false
set_option linter.unusedVariables false
def Ext {α:Type} (z l:Ts) (x x':Re α):Prop:=∀ a l1,x=some (some (a,l1))->l1 <:+ l/\(l1 ≠ []\/isT z 0 zam=true->x'=some (some (a,l1++z)))
section
variable {α β:Type} {z l:Ts}
theorem Ext.fail {x':Re α}:Ext z l zeb x':=fun _ _ h=>by cases h
theorem Ext.ok {a:α} {l1:Ts} (h:l1 <:+ l):Ext z l (okR a l1) (okR a (l1++z)):=fun _ _ e=>by cases e;exact ⟨h,fun _=>rfl⟩
theorem Ext.suf {l':Ts} {x x':Re α} (h:Ext z l' x x') (hl:l' <:+ l):Ext z l x x':=fun a l1 e=>⟨(h a l1 e).1.trans hl,(h a l1 e).2⟩
theorem Ext.bnd {x x':Re α} {k k':α->Ts->Re β} (h:Ext z l x x') (hk:∀ a l1,x=some (some (a,l1))->l1 <:+ l->Ext z l1 (k a l1) (k' a (l1++z))):Ext z l (bnd x k) (bnd x' k'):=fun b l2 e=>by
 cases hx:x with
 | none=>rw [hx] at e;cases e
 | some o =>
  cases o with
  | none=>rw [hx] at e;cases e
  | some p =>
   obtain ⟨a,l1⟩:=p;rw [hx] at e;obtain ⟨h1,h2⟩:=h a l1 hx;obtain ⟨h3,h4⟩:=hk a l1 hx h1 b l2 e;refine ⟨h3.trans h1,fun hw=>?_⟩
   have h5:=h2 (hw.imp (fun h6 h7=>by subst h7;exact h6 (List.suffix_nil.1 h3)) id)
   rw [h5];exact h4 hw
theorem Ext.nd {x x':Re Rv} {k k':PT->Ts->Re β} (h:Ext z l x x') (hk:∀ n l1,x=some (some (.nd n,l1))->l1 <:+ l->Ext z l1 (k n l1) (k' n (l1++z))):Ext z l (ndR x k) (ndR x' k'):=.bnd h fun v l1 h0 h1=>by
 cases v with
 | nd n=>exact hk n l1 h0 h1
 | nb n b=>exact fun _ _ e=>by cases e
 | ls n=>exact fun _ _ e=>by cases e
theorem Ext.nb {x x':Re Rv} {k k':PT->Bool->Ts->Re β} (h:Ext z l x x') (hk:∀ n b l1,x=some (some (.nb n b,l1))->l1 <:+ l->Ext z l1 (k n b l1) (k' n b (l1++z))):Ext z l (nbR x k) (nbR x' k'):=.bnd h fun v l1 h0 h1=>by
 cases v with
 | nb n b=>exact hk n b l1 h0 h1
 | nd n=>exact fun _ _ e=>by cases e
 | ls n=>exact fun _ _ e=>by cases e
theorem Ext.ls {x x':Re Rv} {k k':List PT->Ts->Re β} (h:Ext z l x x') (hk:∀ n l1,x=some (some (.ls n,l1))->l1 <:+ l->Ext z l1 (k n l1) (k' n (l1++z))):Ext z l (lsR x k) (lsR x' k'):=.bnd h fun v l1 h0 h1=>by
 cases v with
 | ls n=>exact hk n l1 h0 h1
 | nb n b=>exact fun _ _ e=>by cases e
 | nd n=>exact fun _ _ e=>by cases e
theorem Ext.ite {c c':Prop} [Decidable c] [Decidable c'] {x y x' y':Re α} (h1:c->c'->Ext z l x x') (h2:¬ c->¬ c'->Ext z l y y') (h3:c->¬ c'->Ext z l x y') (h4:¬ c->c'->Ext z l y x'):Ext z l (if c then x else y) (if c' then x' else y'):=by
 by_cases hc:c
 ·by_cases hc':c'
  ·rw [if_pos hc,if_pos hc'];exact h1 hc hc'
  ·rw [if_pos hc,if_neg hc'];exact h3 hc hc'
 ·by_cases hc':c'
  ·rw [if_neg hc,if_pos hc'];exact h4 hc hc'
  ·rw [if_neg hc,if_neg hc'];exact h2 hc hc'
theorem Ext.drop {k:Nat} (h:k<=l.length):(l++z).drop k=l.drop k++z:=List.drop_append_of_le_length h
theorem Ext.none {x x':Re α} (hz:isT z 0 zam=false) (h:∀ a l1,x=some (some (a,l1))->l1=[]):Ext z l x x':=fun a l1 e=>by
 have:=h a l1 e
 subst this;exact ⟨List.nil_suffix,fun hw=>by rcases hw with hw|hw <;> first|exact absurd rfl hw|(rw [hz] at hw;cases hw)⟩
theorem Ext.ends {x x':Re α} {y:Re α} (hz:isT z 0 zam=false) (h:Ext z [] x y):Ext z l x x':=.none hz fun a l1 e=>List.suffix_nil.1 (h a l1 e).1
theorem Ext.iff {c c':Prop} [Decidable c] [Decidable c'] {x y x' y':Re α} (hc:l ≠ []\/isT z 0 zam=true->(c ↔ c')) (hn:¬ (l ≠ []\/isT z 0 zam=true)->¬ c) (h1:c->Ext z l x x') (h2:Ext z l y y'):Ext z l (if c then x else y) (if c' then x' else y'):=by
 by_cases hw:l ≠ []\/isT z 0 zam=true
 ·exact .ite (fun h _=>h1 h) (fun _ _=>h2) (fun h h'=>absurd ((hc hw).1 h) h') fun h h'=>absurd ((hc hw).2 h') h
 ·have hl:l=[]:=Classical.byContradiction fun h=>hw (.inl h)
  have hz:isT z 0 zam=false:=by
   cases e:isT z 0 zam with
   | false=>rfl
   | true=>exact absurd (.inr e) hw
  subst hl;exact .ite (fun h _=>h1 h) (fun _ _=>h2) (fun h _=>absurd h (hn hw)) fun h _=>.ends hz h2
theorem zbu {l:Ts} (h:l ≠ []):0 < l.length:=List.length_pos_iff.2 h
theorem za5 (n:Nat) (s:Bs):isT [] n s=false:=by unfold isT kd tx;simp
theorem zgs (n:Nat):kd [] n=0:=by unfold kd;simp
theorem Ext.is {s:Bs} (hs:s ≠ zam) {x y x' y':Re α} (h1:isT l 0 s=true->Ext z l x x') (h2:Ext z l y y'):Ext z l (if isT l 0 s then x else y) (if isT (l++z) 0 s then x' else y'):=by
 refine .iff (fun hw=>?_) (fun hw=>?_) h1 h2
 ·by_cases hl:l=[]
  ·subst hl;rw [za5,lNA,zgf (hw.resolve_left fun h=>h rfl) (Ne.symm hs)]
  ·rw [za9 (zbu hl)]
 ·have:l=[]:=Classical.byContradiction fun h=>hw (.inl h)
  subst this;rw [za5];exact Bool.false_ne_true
theorem z5 {z:Ts} (h:isT z 0 zam=true):(kd z 0=2\/kd z 0=5)/\tx z 0=zam:=⟨zje h,zh8 h⟩
theorem Ext.need {s:Bs} {k k':Ts->Re α} (hk:isT l 0 s=true->Ext z (l.drop 1) (k (l.drop 1)) (k' (l.drop 1++z))):Ext z l (zap s l k) (zap s (l++z) k'):=by
 unfold zap
 by_cases h:isT l 0 s=true
 ·have hp:=zaf h;rw [if_pos h,if_pos (by rw [za9 hp];exact h),Ext.drop (by omega)]
  exact (hk h).suf (List.drop_suffix _ _)
 ·rw [if_neg h];exact .fail
theorem Ext.name {k k':Bs->Ts->Re α} (hk:kd l 0=1->Ext z (l.drop 1) (k (tx l 0) (l.drop 1)) (k' (tx l 0) (l.drop 1++z))):Ext z l (zb1 l k) (zb1 (l++z) k'):=by
 unfold zb1
 by_cases h:Go.Proofs.YtcfecmeocimclaaGreatDoor.kd l 0=1
 ·have hp:=zaw h (by decide)
  rw [if_pos h,if_pos (by rw [zlg hp];exact h),ztr hp,Ext.drop (by omega)]
  exact (hk h).suf (List.drop_suffix _ _)
 ·rw [if_neg h];exact .fail
theorem Ext.isF {s:Bs} {x y x' y':Re α} (h1:isT l 0 s=true->Ext z l x x') (h2:Ext z l y y') (h3:l=[]->∀ r,y ≠ some (some r)):Ext z l (if isT l 0 s then x else y) (if isT (l++z) 0 s then x' else y'):=by
 by_cases hl:l=[]
 ·subst hl;rw [za5];exact fun a l1 e=>absurd e (h3 rfl _)
 ·rw [za9 (zbu hl)]
  split
  ·rename_i h;exact h1 h
  ·exact h2
theorem Ext.if' {c:Prop} [Decidable c] {x y x' y':Re α} (h1:c->Ext z l x x') (h2:¬ c->Ext z l y y'):Ext z l (if c then x else y) (if c then x' else y'):=by
 split
 ·exact h1 (by assumption)
 ·exact h2 (by assumption)
end
def Sy.put:Sy->Ts->Sy
 | .stmt c _,l=>.stmt c l
 | .keyw c _,l=>.keyw c l
 | .condn c _,l=>.condn c l
 | .inner c _,l=>.inner c l
 | .body c _,l=>.body c l
 | .loops c _,l=>.loops c l
 | .tryS c _,l=>.tryS c l
 | .decl c _,l=>.decl c l
 | .declL k a c _,l=>.declL k a c l
 | .block c _,l=>.block c l
 | .blockL a c _,l=>.blockL a c l
 | .func d c _,l=>.func d c l
 | .arrow c _,l=>.arrow c l
 | .assign c _,l=>.assign c l
 | .cond c _,l=>.cond c l
 | .opnd k c _,l=>.opnd k c l
 | .opndL k n c _,l=>.opndL k n c l
 | .unary c _,l=>.unary c l
 | .postf c _,l=>.postf c l
 | .link n c _,l=>.link n c l
 | .chain c _,l=>.chain c l
 | .chainN n c _,l=>.chainN n c l
 | .chainL n c _,l=>.chainL n c l
 | .list2 e c _,l=>.list2 e c l
 | .list2L e a c _,l=>.list2L e a c l
 | .prim c _,l=>.prim c l
 | .fields c _,l=>.fields c l
 | .fieldsL a c _,l=>.fieldsL a c l
 | .field c _,l=>.field c l
def zc2 {α:Type} (x:Re α):Prop:=∀ r,x ≠ some (some r)
theorem z0k {α:Type} {P:α->Ts->Prop} {x:Re α} (h:Tot P x) (hp:∀ a l,¬ P a l):zc2 x:=fun r e=>by
 obtain ⟨o,ho,hP⟩:=h;rw [ho] at e
 cases e
 exact hp _ _ (hP _ _ rfl)
theorem zb5 (s:Sy) (hl:s.l=[]) (hx:s.lax=false) (hs:s.shape ≠ .nb):zc2 (ev s):=z0k (zmd s) fun v l ⟨h1,h2,h3⟩=>by
 have:=h3 hx (by
  cases v with
  | nb n b=>exact absurd h1.symm hs
  | nd n=>rfl
  | ls n=>rfl)
 rw [hl] at this
 have:=this.2
 simp at this
theorem zc2.nd {β:Type} {x:Re Rv} {k:PT->Ts->Re β} (h:zc2 x):zc2 (ndR x k):=fun r e=>by
 unfold ndR bnd at e
 split at e
 ·cases e
 ·cases e
 ·exact h _ rfl
theorem zc2.nd2 {β:Type} {x:Re Rv} {k:PT->Ts->Re β} (h:∀ n l,x=some (some (.nd n,l))->zc2 (k n l)):zc2 (ndR x k):=fun r e=>by
 unfold ndR bnd at e
 split at e
 ·cases e
 ·cases e
 ·rename_i v l
  cases v with
  | nd n=>exact h n l rfl _ e
  | nb n b=>cases e
  | ls n=>cases e
theorem zc2.ls {β:Type} {x:Re Rv} {k:List PT->Ts->Re β} (h:zc2 x):zc2 (lsR x k):=fun r e=>by
 unfold lsR bnd at e
 split at e
 ·cases e
 ·cases e
 ·exact h _ rfl
theorem zc2.fail {α:Type}:zc2 (zeb:Re α):=fun r e=>by cases e
theorem zc2.need {β:Type} {s:Bs} {l:Ts} {k:Ts->Re β} (h:isT l 0 s=false):zc2 (zap s l k):=by
 unfold zap;rw [if_neg (by rw [h];exact Bool.false_ne_true)]
 exact .fail
theorem zc2.bnd {α β:Type} {x:Re α} {k:α->Ts->Re β} (h:zc2 x):zc2 (bnd x k):=fun r e=>by
 unfold Go.Proofs.YtcfecmeocimclaaGreatDoor.bnd at e
 split at e
 ·cases e
 ·cases e
 ·exact h _ rfl
theorem zc2.ite {α:Type} {c:Prop} [Decidable c] {x y:Re α} (h1:c->zc2 x) (h2:¬ c->zc2 y):zc2 (if c then x else y):=by
 split
 ·exact h1 (by assumption)
 ·exact h2 (by assumption)
theorem zjj {c:Cx} {l:Ts} (hp:zc2 (ev (.prim c l))) (ha:zbh l=0) (hy:isT l 0 zpc=false) (hn:isT l 0 z4c=false) (hb:zes l=false):zc2 (ev (.assign c l)):=by
 have h1:zc2 (ev (.chain c l)):=by
  rw [zac];show zc2 (zdk ev c l);unfold zdk;rw [hn];exact .nd hp
 have h2:zc2 (ev (.postf c l)):=by
  rw [zac];exact zc2.nd h1
 have h3:zc2 (ev (.unary c l)):=by
  rw [zac];show zc2 (zdi ev c l);unfold zdi;unfold zes at hb;refine .ite (fun h5=>?_) fun _=>h2
  rw [h5,Bool.true_and] at hb;simp only [Bool.or_eq_false_iff,decide_eq_false_iff_not,Classical.not_not] at hb;rw [if_neg hb.1,if_neg (by rw [Classical.not_not];exact hb.2.1),if_pos hb.2.2]
  exact h2
 have h4:∀ (j k:Nat),k + j=6->zc2 (ev (.opnd k c l)):=by
  intro j
  induction j with
  | zero =>
   intro k hk;rw [zac];show zc2 (ze3 ev k c l);unfold ze3;rw [if_pos (by omega)]
   exact h3
  | succ j ih =>
   intro k hk;rw [zac];show zc2 (ze3 ev k c l);unfold ze3;rw [if_neg (by omega)]
   exact .nd (ih (k + 1) (by omega))
 rw [zac];show zc2 (zch ev c l);unfold zch;rw [if_neg (by omega),hy,if_neg (by decide)]
 refine .nd ?_;rw [zac];exact zc2.nd (h4 6 0 rfl)
theorem znn {c:Cx} {l:Ts} (h:isT l 0 zas=true) (h1:isT l 1 za4=false) (ha:zbh l=0):zc2 (ev (.assign c l)):=by
 have hk:=zje h;have ht:=zh8 h;have hw:∀ s:Bs,zas ≠ s->isT l 0 s=false:=fun s hs=>zgf h hs
 refine zjj ?_ ha (hw _ (by decide)) (hw _ (by decide)) ?_
 ·rw [zac];show zc2 (zdj ev c l);unfold zdj;rw [if_neg (by rcases hk with e|e <;> (rw [e];decide)),if_neg (by rcases hk with e|e <;> (rw [e];decide)),if_neg (by rcases hk with e|e <;> (rw [e];decide))]
  rw [hw zkk (by decide),hw zpg (by decide),hw zpd (by decide),hw zkl (by decide),hw zpe (by decide),hw zbm (by decide),hw zm3 (by decide),hw zgy (by decide),h]
  refine .ite (fun h=>by cases h) fun _=>.ite (fun h=>by cases h) fun _=>.ite (fun h=>by cases h) fun _=>.ite (fun h=>by cases h) fun _=>.ite (fun h=>by cases h) fun _=>.ite (fun h=>by cases h) fun _=>.ite (fun h=>by cases h) fun _=>.ite (fun h=>by cases h) fun _=>.ite (fun _=>?_) fun _=>.fail
  rw [zac];show zc2 (zew ev false c l);unfold zew;simp only [h,if_true];exact .need (by rw [zmz];exact h1)
 ·unfold zes;rw [ht]
  rcases hk with e|e <;> (rw [e];decide)
end Go.Proofs.YtcfecmeocimclaaGreatDoor

/- Own work,plain: the parser looks no further than it must: more behind changes nothing. -/
namespace Go.Proofs.YtcfecmeocimclaaGreatDoor
set_option linter.unusedSimpArgs false
set_option linter.unusedVariables false
theorem dp {l z:Ts} (h:0 < l.length):(l++z).drop 1=l.drop 1++z:=Ext.drop h
theorem dp2 {l z:Ts} (h:1 < l.length):(l++z).drop 2=l.drop 2++z:=Ext.drop h
theorem zdr {α:Type} {z l:Ts} {x x':Re α} (h:zc2 x):Ext z l x x':=fun a l1 e=>absurd e (h _)
theorem ztg {l z:Ts} (hp:0 < l.length) (h:isT l 0 zas=true->1 < l.length):zbt (l++z)=zbt l:=by
 unfold zbt;rw [za9 hp,za9 hp,za9 hp,za9 hp]
 cases ha:isT l 0 zas with
 | false=>rw [Bool.false_and,Bool.false_and]
 | true=>rw [za9 (h ha)]
theorem zgt {l:Ts} {n:Nat} {s:Bs} (h:l.length<=n):isT l n s=false:=by
 cases e:isT l n s with
 | false=>rfl
 | true=>have:=zaf e;omega
theorem z5s {l:Ts} {n:Nat} (h:l.length<=n):kd l n=0:=by
 unfold kd;rw [List.getElem?_eq_none h]
theorem zva {l:Ts} (h:l.length<=1) (ha:isT l 0 zas=true):zbh l=0:=by
 unfold zbh;rw [ha,if_pos rfl,z5s h,if_neg (by decide),zgt h]
 rfl
theorem zof {c:Cx} {l:Ts} (h:∀ w,w ∈ [wIf,zse,wFor,znq,zph,zdh,zsf,wTry]->isT l 0 w=false):ev (.keyw c l)=okR (.nb (nd 0 []) false) l:=by
 rw [zac];show zf1 ev c l=_;unfold zf1;rw [h wIf (by simp),h zse (by simp),h wFor (by simp),h znq (by simp),h zph (by simp),h zdh (by simp),h zsf (by simp),h wTry (by simp)]
 rfl
theorem zji {c:Cx} {l:Ts} (h:l.length<=1) (ha:isT l 0 zas=true):zc2 (ev (.stmt c l)):=by
 have hw:∀ s:Bs,zas ≠ s->isT l 0 s=false:=fun s hs=>zgf ha hs
 have hd:zc2 (zhc ev c l):=zc2.nd (znn ha (zgt h) (zva h ha));rw [zac];show zc2 (zff ev c l);unfold zff;rw [show zbt l=false by unfold zbt;rw [hw zfe (by decide),hw zay (by decide),hw za4 (by decide),zgt h,Bool.and_false];rfl]
 rw [hw zfe (by decide),hw zay (by decide),hw zgy (by decide),hw zbr (by decide)]
 refine .ite (fun h=>by cases h) fun _=>.ite (fun h=>by cases h) fun _=>.ite (fun h=>by cases h) fun _=>.ite (fun h=>by cases h) fun _=>.ite (fun _=>?_) fun _=>hd
 rw [zof fun w hm=>hw w fun e=>by subst e;exact absurd hm (by decide)]
 exact hd
theorem zcb {s:Sy} {v:Rv} {l:Ts} (h:ev s=some (some (v,l))):s.post v l:=by
 obtain ⟨o,ho,hp⟩:=zmd s;rw [ho] at h
 cases h
 exact hp _ _ rfl
section
variable {z:Ts} {m:Nat} (hR:∀ s:Sy,s.meas < m->Ext z s.l (ev s) (ev (s.put (s.l++z))))
include hR
theorem tE {s:Sy} (hs:s.meas<=m) (s':Sy) (h:Leq s.l s'.l) (hr:s'.rank < s.rank):Ext z s.l (ev s') (ev (s'.put (s'.l++z))):=(hR s' (zaj hs h hr)).suf h
theorem nE {s:Sy} (hs:s.meas<=m) (s':Sy) (h:Leq s.l s'.l) (hr:s'.rank < s.rank) (hx:s'.lax=false) {β:Type} {k k':PT->Ts->Re β} (hk:∀ n l1,Les s.l l1->Ext z l1 (k n l1) (k' n (l1++z))):Ext z s.l (ndR (ev s') k) (ndR (ev (s'.put (s'.l++z))) k') :=
 Ext.suf (.nd (hR s' (zaj hs h hr)) fun n l1 e hl=>hk n l1 (h.trans' ((zcb e).2.2 hx rfl))) h
theorem bE {s:Sy} (hs:s.meas<=m) (s':Sy) (h:Leq s.l s'.l) (hr:s'.rank < s.rank) (hx:s'.lax=false) {β:Type} {k k':PT->Bool->Ts->Re β} (hk:∀ n b l1,PB s.l b l1->Ext z l1 (k n b l1) (k' n b (l1++z))):Ext z s.l (nbR (ev s') k) (nbR (ev (s'.put (s'.l++z))) k') :=
 Ext.suf (.nb (hR s' (zaj hs h hr)) fun n b l1 e hl=>hk n b l1 ⟨h.trans hl,fun hb=>h.trans' ((zcb e).2.2 hx hb)⟩) h
end
theorem z1v {l z:Ts}:∀ (m n k m':Nat),m<=m'->zdy l m n=some k->k < l.length->zdy (l++z) m' n=some k
 | 0,_,_,_,_,h,_=>by cases h
 | m + 1,n,k,0,hm,h,hk=>by omega
 | m + 1,n,k,m' + 1,hm,h,hk=>by
  rw [zdy] at h ⊢
  by_cases h1:kd l n=1
  ·have p1:=zaw h1 (by decide)
   rw [if_pos h1] at h;rw [zlg p1,if_pos h1]
   cases h2:isT l (n + 1) zci with
   | true =>
    have p2:=zaf h2;rw [h2,if_pos rfl] at h;rw [za9 p2,h2,if_pos rfl]
    by_cases h3:kd l (n + 2)=1
    ·have p3:=zaw h3 (by decide)
     rw [if_pos h3] at h;rw [zlg p3,if_pos h3];exact z1v m (n + 2) k m' (by omega) h hk
    ·rw [if_neg h3] at h;cases h
   | false =>
    rw [h2,if_neg (by decide)] at h
    cases h
    rw [za9 hk,h2,if_neg (by decide)]
  ·rw [if_neg h1] at h
   cases h
   rw [zlg hk,if_neg h1]
theorem zjo (l:Ts):∃ n0,n0=(if isT l 0 zas then 1 else 0)/\zbh l=(if kd l n0=1 then (if isT l (n0 + 1) ze0 then n0 + 1 else 0) else if isT l n0 zbm then (match zdy l (l.length + 1) (n0 + 1) with
  | some n=>if isT l n zam && isT l (n + 1) ze0 then n + 1 else 0
  | none=>0) else 0):=⟨_,rfl,rfl⟩
theorem zqf {l:Ts} (hA:isT l 0 zas=false):zbh l=(if kd l 0=1 then (if isT l 1 ze0 then 1 else 0) else if isT l 0 zbm then (match zdy l (l.length + 1) 1 with
  | some n=>if isT l n zam && isT l (n + 1) ze0 then n + 1 else 0
  | none=>0) else 0):=by
 obtain ⟨n0,e0,ha⟩:=zjo l;rw [hA,if_neg (by decide)] at e0
 subst e0;exact ha
theorem z3s:zbh []=0:=by rw [zqf (za5 _ _),zgs,za5];rfl
theorem arr_z {l z:Ts} (h:0 < zbh l):zbh (l++z)=zbh l:=by
 obtain ⟨n0,e0,ha⟩:=zjo l;obtain ⟨n1,e1,hb⟩:=zjo (l++z);have hp:0 < l.length:=by
  cases l with
  | nil=>rw [z3s] at h;cases h
  | cons x l=>exact Nat.succ_pos _
 rw [ha] at h;have e:n1=n0:=by rw [e1,e0,za9 hp]
 subst e;rw [ha,hb]
 by_cases h1:kd l n1=1
 ·rw [if_pos h1] at h;rw [if_pos h1,zlg (zaw h1 (by decide)),if_pos h1]
  cases h2:isT l (n1 + 1) ze0 with
  | true=>rw [za9 (zaf h2),h2]
  | false=>rw [h2] at h;simp at h
 ·rw [if_neg h1] at h
  cases h2:isT l n1 zbm with
  | false=>rw [h2] at h;simp at h
  | true =>
   have p2:=zaf h2;rw [h2,if_pos rfl] at h;rw [if_neg h1,zlg p2,if_neg h1,za9 p2,h2,if_pos rfl,if_pos rfl]
   cases h3:zdy l (l.length + 1) (n1 + 1) with
   | none=>rw [h3] at h;simp at h
   | some k =>
    rw [h3] at h
    cases h4:(isT l k zam && isT l (k + 1) ze0) with
    | false=>simp only [h4] at h;simp at h
    | true =>
     rw [bAT] at h4;rw [z1v (z:=z) (l.length + 1) (n1 + 1) k ((l++z).length + 1) (by rw [lLA];omega) h3 (zaf h4.1)]
     simp only [h4.1,h4.2,za9 (zaf h4.1),za9 (zaf h4.2)]
theorem zhy {c:Cx} {l:Ts} (h0:isT l 0 zbm=true) (h:∀ n r,ev (.assign c (l.drop 1))=some (some (.nd n,r))->isT r 0 zam=false) (ha:zbh l=0):zc2 (ev (.assign c l)):=by
 have hk:=zje h0;have hw:∀ s:Bs,zbm ≠ s->isT l 0 s=false:=fun s hs=>zgf h0 hs
 refine zjj ?_ ha (hw _ (by decide)) (hw _ (by decide)) ?_
 ·rw [zac];show zc2 (zdj ev c l);unfold zdj;rw [if_neg (by rcases hk with e|e <;> (rw [e];decide)),if_neg (by rcases hk with e|e <;> (rw [e];decide)),if_neg (by rcases hk with e|e <;> (rw [e];decide))]
  rw [hw zkk (by decide),hw zpg (by decide),hw zpd (by decide),hw zkl (by decide),hw zpe (by decide),h0]
  refine .ite (fun h=>by cases h) fun _=>.ite (fun h=>by cases h) fun _=>.ite (fun h=>by cases h) fun _=>.ite (fun h=>by cases h) fun _=>.ite (fun h=>by cases h) fun _=>.ite (fun _=>?_) fun h=>absurd rfl h
  exact .nd2 fun n r e=>.need (h n r e)
 ·unfold zes;rw [zh8 h0]
  rcases hk with e|e <;> (rw [e];decide)
theorem zqa {c:Cx} {l:Ts} (h0:isT l 0 zam=true):zc2 (ev (.assign c l)):=by
 have hk:=zje h0;have hw:∀ s:Bs,zam ≠ s->isT l 0 s=false:=fun s hs=>zgf h0 hs
 refine zjj ?_ ?_ (hw _ (by decide)) (hw _ (by decide)) ?_
 ·rw [zac];show zc2 (zdj ev c l);unfold zdj;rw [if_neg (by rcases hk with e|e <;> (rw [e];decide)),if_neg (by rcases hk with e|e <;> (rw [e];decide)),if_neg (by rcases hk with e|e <;> (rw [e];decide))]
  rw [hw zkk (by decide),hw zpg (by decide),hw zpd (by decide),hw zkl (by decide),hw zpe (by decide),hw zbm (by decide),hw zm3 (by decide),hw zgy (by decide),hw za4 (by decide),hw zas (by decide)]
  exact .fail
 ·rw [zqf (hw zas (by decide)),if_neg (by rcases hk with e|e <;> (rw [e];decide)),hw zbm (by decide)]
  rfl
 ·unfold zes;rw [zh8 h0]
  rcases hk with e|e <;> (rw [e];decide)
theorem zha {c:Cx} {l:Ts} (h:kd l 0=1) (hs:Stop (l.drop 1)):ev (.assign c l)=some (some (.nd (ndN 7 (tx l 0) []),l.drop 1)):=by
 have hn:∀ s,isT l 0 s=false:=fun s=>isT_k (by rw [h];decide) (by rw [h];decide)
 refine zri (zj4 (z2r h) (hn _) ?_ hs) hs ?_ (hn _)
 ·unfold zes;rw [h];rfl
 ·rw [zqf (hn zas),if_pos h]
  have:=hs.arr
  rw [zmz] at this;rw [this];rfl
theorem z3t {c:Cx} {l z:Ts} (h0:zbh l=0) (h:0 < zbh (l++z)) {a:Rv} {l1:Ts} (he:ev (.assign c l)=some (some (a,l1))):l1=[]/\isT z 0 zam=false:=by
 have dead:zc2 (ev (.assign c l))->l1=[]/\isT z 0 zam=false:=fun hd=>absurd he (hd _)
 have hz:∀ {n:Nat},isT (l++z) n ze0=true->isT l n ze0=false->l.length=n->isT z 0 zam=false:=fun {n} h1 h2 h3=>by
  have:isT z 0 ze0=true:=by
   have e:(l++z)[n]?=z[0]?:=by rw [List.getElem?_append_right (by omega),show n - l.length=0 by omega]
   unfold isT kd tx at h1 ⊢;rw [e] at h1;exact h1
  exact zgf this (by decide)
 obtain ⟨n1,e1,hb⟩:=zjo (l++z);obtain ⟨n0,e0,ha⟩:=zjo l;rw [hb] at h;rw [ha] at h0
 by_cases hl:l=[]
 ·exact dead (zb5 (.assign c l) hl rfl fun e=>by cases e)
 have hp:=zbu hl;have e:n1=n0:=by rw [e1,e0,za9 hp]
 subst e
 cases hA:isT l 0 zas with
 | true =>
  rw [hA,if_pos rfl] at e0;subst e0;refine dead (znn hA ?_ (by rw [ha];exact h0))
  cases hf:isT l 1 za4 with
  | false=>rfl
  | true =>
   have p:=zaf hf;have hk:=zje hf;rw [zlg p,if_neg (by rcases hk with e|e <;> (rw [e];decide)),za9 p,zgf hf (by decide)] at h
   simp at h
 | false =>
  rw [hA,if_neg (by decide)] at e0
  subst e0
  by_cases h1:kd l 0=1
  ·rw [zlg hp,if_pos h1] at h;rw [if_pos h1] at h0;have g1:isT (l++z) 1 ze0=true:=by
    cases e:isT (l++z) 1 ze0 with
    | true=>rfl
    | false=>rw [e] at h;simp at h
   have g2:isT l 1 ze0=false:=by
    cases e:isT l 1 ze0 with
    | false=>rfl
    | true=>rw [e] at h0;simp at h0
   have g3:l.length=1:=by
    rcases Nat.lt_or_ge 1 l.length with g|g
    ·rw [za9 g,g2] at g1;cases g1
    ·omega
   have hd:l.drop 1=[]:=List.drop_eq_nil_of_le (by omega)
   rw [zha h1 (by rw [hd];exact ziu),hd] at he
   cases he
   exact ⟨rfl,hz g1 g2 g3⟩
  ·rw [zlg hp,if_neg h1,za9 hp] at h;rw [if_neg h1] at h0
   cases h2:isT l 0 zbm with
   | false=>rw [h2] at h;simp at h
   | true =>
    rw [h2,if_pos rfl] at h h0;have hA0:zbh l=0:=by rw [ha,if_neg h1,h2,if_pos rfl];exact h0
    have e2:(0:Nat) + 1=1:=rfl;rw [e2] at h h0
    by_cases hl1:l.length=1
    ·exact dead (zhy h2 (fun n r e=>absurd e (zb5 (.assign c (l.drop 1)) (List.drop_eq_nil_of_le (by omega)) rfl (fun e=>by cases e) _)) hA0)
    have p1:1 < l.length:=by omega
    rw [zdy] at h h0;rw [zlg p1] at h
    by_cases h3:kd l 1=1
    ·rw [if_pos h3] at h h0;have hk1:kd (l.drop 1) 0=1:=by rw [kd_d];exact h3
     by_cases hl2:l.length=2
     ·have hd:(l.drop 1).drop 1=[]:=List.drop_eq_nil_of_le (by rw [lLD];omega)
      refine dead (zhy h2 (fun n r e=>?_) hA0)
      rw [zha hk1 (by rw [hd];exact ziu),hd] at e
      cases e
      exact za5 _ _
     have p2:2 < l.length:=by omega
     rw [za9 p2] at h
     cases h4:isT l 2 zci with
     | true =>
      have hc:isT ((l.drop 1).drop 1) 0 zci=true:=by rw [lDD,zmz];exact h4
      refine dead (zhy h2 (fun n r e=>?_) hA0)
      rw [zha hk1 (znw hc (by decide))] at e
      cases e
      exact zgf hc (by decide)
     | false =>
      rw [h4,if_neg (by decide)] at h h0
      simp only at h h0;rw [za9 p2] at h
      cases h5:isT l 2 zam with
      | false=>rw [h5] at h;simp at h
      | true =>
       rw [h5,Bool.true_and] at h h0;have g1:isT (l++z) 3 ze0=true:=by
        cases e:isT (l++z) 3 ze0 with
        | true=>rfl
        | false=>rw [e] at h;simp at h
       have g2:isT l 3 ze0=false:=by
        cases e:isT l 3 ze0 with
        | false=>rfl
        | true=>rw [e] at h0;simp at h0
       have g3:l.length=3:=by
        rcases Nat.lt_or_ge 3 l.length with g|g
        ·rw [za9 g,g2] at g1;cases g1
        ·omega
       have hr:isT ((l.drop 1).drop 1) 0 zam=true:=by rw [lDD,zmz];exact h5
       have hp1:=zs7 h2 (zha (c:=c) hk1 (znw hr (by decide))) hr
       have hd:((l.drop 1).drop 1).drop 1=[]:=List.drop_eq_nil_of_le (by simp;omega)
       rw [hd] at hp1;have hw:∀ s:Bs,zbm ≠ s->isT l 0 s=false:=fun s hs=>zgf h2 hs
       have hpre:zes l=false:=by
        unfold zes;rw [zh8 h2]
        rcases zje h2 with e|e <;> (rw [e];decide)
       have:=zri (zj4 hp1 (hw _ (by decide)) hpre ziu) ziu hA0 (hw _ (by decide))
       unfold Mk at this;rw [this] at he
       cases he
       exact ⟨rfl,hz g1 g2 g3⟩
    ·rw [if_neg h3] at h h0;simp only at h h0;rw [za9 p1] at h
     cases h5:isT l 1 zam with
     | false=>rw [h5] at h;simp at h
     | true =>
      refine dead (zhy h2 (fun n r e=>?_) hA0)
      exact absurd e (zqa (by rw [zmz];exact h5) _)
end Go.Proofs.YtcfecmeocimclaaGreatDoor

/- Own work,plain: each symbol looks no further than it must. -/
namespace Go.Proofs.YtcfecmeocimclaaGreatDoor
set_option linter.unusedSimpArgs false
set_option linter.unusedVariables false
theorem zdt {l z:Ts} {s:Sy} (hl:s.l=l) (h:Ext z l (zmv ev s) (zmv ev (s.put (l++z)))):Ext z l (ev s) (ev (s.put (l++z))):=by rw [zac s,zac (s.put _)];exact h
theorem sr {l:Ts}:l <:+ l:=List.suffix_refl l
theorem sd {l:Ts} {k:Nat}:l.drop k <:+ l:=List.drop_suffix k l
theorem zum:∀ k:Nat,zb8 zam (zyh k).1 (zyh k).2=0
 | 0=>by decide
 | 1=>by decide
 | 2=>by decide
 | 3=>by decide
 | 4=>by decide
 | _ + 5=>(by decide:zb8 zam 8 3=0)
theorem Ext.op {z l:Ts} {fr cnt:Nat} (h0:zb8 zam fr cnt=0) {x x' y y':Re Rv} (hx:l ≠ []->kd l 0=5->Ext z l x x') (hy:Ext z l y y') :
  Ext z l (if kd l 0=5 then (if zb8 (tx l 0) fr cnt=0 then y else x) else y) (if kd (l++z) 0=5 then (if zb8 (tx (l++z) 0) fr cnt=0 then y' else x') else y'):=by
 by_cases hl:l=[]
 ·subst hl;rw [zgs,if_neg (by decide)]
  by_cases hz:isT z 0 zam=true
  ·rw [lNA,(z5 hz).2,h0,if_pos rfl]
   split
   ·exact hy
   ·exact hy
  ·exact .ends (by simpa using hz) hy
 ·rw [zlg (zbu hl),ztr (zbu hl)];exact .if' (fun h=>.if' (fun _=>hy) fun _=>hx hl h) fun _=>hy
theorem Ext.op2 {z l:Ts} {fr cnt:Nat} (h0:zb8 zam fr cnt=0) {x x' y y':Re Rv} (hx:l ≠ []->Ext z l x x') (hy:Ext z l y y') :
  Ext z l (if decide (kd l 0=5) || decide (kd l 0=2) then (if zb8 (tx l 0) fr cnt=0 then y else x) else y) (if decide (kd (l++z) 0=5) || decide (kd (l++z) 0=2) then (if zb8 (tx (l++z) 0) fr cnt=0 then y' else x') else y'):=by
 by_cases hl:l=[]
 ·subst hl;rw [zgs,if_neg (by decide)]
  by_cases hz:isT z 0 zam=true
  ·rw [lNA,(z5 hz).2,h0,if_pos rfl]
   split
   ·exact hy
   ·exact hy
  ·exact .ends (by simpa using hz) hy
 ·rw [zlg (zbu hl),ztr (zbu hl)];exact .if' (fun h=>.if' (fun _=>hy) fun _=>hx hl) fun _=>hy
theorem ztb {z:Ts}:∀ (n:Nat) (acc:List PT) (l:Ts) (n':Nat),l.length < n->(l++z).length < n'->Ext z l (zcw n acc l) (zcw n' acc (l++z))
 | 0,_,_,_,h,_=>by omega
 | n + 1,_,_,0,_,h=>by omega
 | n + 1,acc,l,n' + 1,h,h'=>by
  rw [zcw,zcw];refine .name fun hk=>.isF (fun h1=>.if' (fun _=>?_) fun _=>.fail) (.need fun h1=>?_) fun e r=>zc2.need (by rw [e];exact za5 _ _) r
  ·rw [dp (zaf h1)];exact .ok sd
  ·have h2:=(d1 h1).2;have h3:=(zav (zaw hk (by decide)) 1 (nR 1) (nR 1)).2
   rw [lLA] at h';exact ztb n _ _ n' (by omega) (by rw [lLA];omega)
theorem zw2 {z l:Ts}:Ext z l (zax l) (zax (l++z)):=by
 unfold zax;refine .need fun h=>.isF (fun h1=>?_) (ztb _ _ _ _ (nLS _) (nLS _)) fun e r=>?_
 ·rw [dp (zaf h1)];exact .ok sd
 ·rw [e,zcw];unfold zb1;rw [zgs,if_neg (by decide)]
  exact fun e=>by cases e
theorem sO {l l1 l2:Ts} (h:Leq l l1) (h2:Leq l1 l2):Leq l l2:=h.trans h2
section
variable {z:Ts} {m:Nat} (hR:∀ s:Sy,s.meas < m->Ext z s.l (ev s) (ev (s.put (s.l++z))))
include hR
theorem nX (s':Sy) (h:s'.meas < m) {β:Type} {k k':PT->Ts->Re β} (hk:∀ n l1,Leq s'.l l1->Ext z l1 (k n l1) (k' n (l1++z))):Ext z s'.l (ndR (ev s') k) (ndR (ev (s'.put (s'.l++z))) k'):=.nd (hR s' h) fun n l1 _ hl=>hk n l1 hl
theorem lX (s':Sy) (h:s'.meas < m) {β:Type} {k k':List PT->Ts->Re β} (hk:∀ n l1,Leq s'.l l1->Ext z l1 (k n l1) (k' n (l1++z))):Ext z s'.l (lsR (ev s') k) (lsR (ev (s'.put (s'.l++z))) k'):=.ls (hR s' h) fun n l1 _ hl=>hk n l1 hl
theorem nD {l:Ts} (hp:0 < l.length) (s':Sy) (hl:s'.l=l.drop 1) (h:s'.meas < m) {β:Type} {k k':PT->Ts->Re β} (hk:∀ n l1,Leq s'.l l1->Ext z l1 (k n l1) (k' n (l1++z))):Ext z l (ndR (ev s') k) (ndR (ev (s'.put ((l++z).drop 1))) k'):=by
 rw [dp hp,<- hl];exact (nX hR s' h hk).suf (by rw [hl];exact sd)
theorem lD {l:Ts} (hp:0 < l.length) (s':Sy) (hl:s'.l=l.drop 1) (h:s'.meas < m) {β:Type} {k k':List PT->Ts->Re β} (hk:∀ n l1,Leq s'.l l1->Ext z l1 (k n l1) (k' n (l1++z))):Ext z l (lsR (ev s') k) (lsR (ev (s'.put ((l++z).drop 1))) k'):=by
 rw [dp hp,<- hl];exact (lX hR s' h hk).suf (by rw [hl];exact sd)
theorem tD {l:Ts} (hp:0 < l.length) (s':Sy) (hl:s'.l=l.drop 1) (h:s'.meas < m):Ext z l (ev s') (ev (s'.put ((l++z).drop 1))):=by
 rw [dp hp,<- hl];exact (hR s' h).suf (by rw [hl];exact sd)
omit hR in
theorem oD {l:Ts} (hp:0 < l.length) {α:Type} {a:α}:Ext z l (okR a (l.drop 1)) (okR a ((l++z).drop 1)):=by
 rw [dp hp];exact .ok sd
omit hR in
theorem mL {s:Sy} (hs:s.meas<=m) {l:Ts} (h:Les s.l l) (s':Sy) (h':Leq l s'.l):s'.meas < m:=zab hs (h.trans h') (zah _)
theorem z1k (c:Cx) (l:Ts) (h:(Sy.assign c l).meas < m):Ext z l (zhc ev c l) (zhc ev c (l++z)):=nX hR (.assign c l) h fun n l1 _=>.need fun _=>.ok sr
theorem z5h (c:Cx) (l:Ts) (hs:(Sy.stmt c l).meas<=m) (hp:0 < l.length):Ext z l (ev (.stmt c l)) (ev (.stmt c (l++z))):=by
 by_cases hA:isT l 0 zas=true->1 < l.length
 ·refine zdt (s:=.stmt c l) rfl ?_;show Ext z l (zff ev c l) (zff ev c (l++z));unfold zff;simp only [za9 hp,zlg hp,ztg hp hA];refine .if' (fun _=>nX hR (.decl c l) (zaj hs .rfl (oT rfl)) fun n l1 _=>.need fun _=>.ok sr) fun _=>.if' (fun _=>tE hR hs (.func true c l) .rfl (oT rfl)) fun _=>.if' (fun _=>tE hR hs (.block c l) .rfl (oT rfl)) fun _=>.if' (fun _=>oD hp) fun _=>.if' (fun _=>?_) fun _=>z1k hR c l (zaj hs .rfl (oT rfl))
  exact .nb (hR (.keyw c l) (zaj hs .rfl (oT rfl))) fun n b l1 _ hl=>.if' (fun _=>.ok sr) fun _=>z1k hR c l1 (zaj hs hl (oT rfl))
 ·rw [Classical.not_imp] at hA;exact zdr (zji (by omega) hA.1)
theorem z5l (c:Cx) (l:Ts) (hs:(Sy.keyw c l).meas<=m):Ext z l (ev (.keyw c l)) (ev (.keyw c (l++z))):=by
 by_cases hl:l=[]
 ·subst hl;rw [zof fun w _=>za5 _ _]
  by_cases hz:isT z 0 zam=true
  ·rw [lNA,zof fun w hm=>zgf hz fun e=>by subst e;exact absurd hm (by decide)]
   exact .ok sr
  ·exact .none (by simpa using hz) fun a l1 e=>by cases e;rfl
 ·have hp:=zbu hl;refine zdt (s:=.keyw c l) rfl ?_;show Ext z l (zf1 ev c l) (zf1 ev c (l++z));unfold zf1;simp only [za9 hp];refine .if' (fun h=>?_) fun _=>.if' (fun h=>?_) fun _=>.if' (fun h=>?_) fun _=>.if' (fun h=>?_) fun _=>.if' (fun h=>?_) fun _=>.if' (fun h=>?_) fun _=>.if' (fun h=>?_) fun _=>.ok sr
  ·refine nD hR hp (.condn c _) rfl (zab hs (d1 h) (zah _)) fun e l1 h1=>nX hR (.inner c l1) (mL hs (d1 h) _ h1) fun a l2 h2=>.is (by decide) (fun h3=>?_) (.ok sr)
   exact nD hR (zaf h3) (.inner c _) rfl (mL hs (d1 h) _ ((sO h1 h2).trans sd)) fun b l3 _=>.ok sr
  ·exact nD hR hp (.condn c _) rfl (zab hs (d1 h) (zah _)) fun e l1 h1=>nX hR (.body c l1) (mL hs (d1 h) _ h1) fun a l2 h2=>.ok sr
  ·exact nD hR hp (.loops c _) rfl (zab hs (d1 h) (zah _)) fun e l1 h1=>.ok sr
  ·refine .if' (fun _=>?_) fun _=>.fail
   by_cases h1:1 < l.length
   ·rw [za9 h1,dp2 h1];exact .if' (fun _=>.ok sd) fun _=>nD hR hp (.assign c _) rfl (zab hs (d1 h) (zah _)) fun n l1 _=>.need fun _=>.ok sr
   ·rw [if_neg (by rw [zgt (by omega)];decide)]
    exact zdr (.nd (zb5 (.assign c _) (List.drop_eq_nil_of_le (by omega)) rfl fun e=>by cases e))
  ·refine .if' (fun _=>?_) fun _=>.fail
   rw [dp hp];exact Ext.suf (.need fun _=>.ok sr) sd
  ·exact nD hR hp (.assign c _) rfl (zab hs (d1 h) (zah _)) fun n l1 _=>.need fun _=>.ok sr
  ·exact nD hR hp (.tryS c _) rfl (zab hs (d1 h) (zah _)) fun e l1 h1=>.ok sr
theorem z3a (c:Cx) (l:Ts) (hs:(Sy.condn c l).meas<=m):Ext z l (ev (.condn c l)) (ev (.condn c (l++z))):=by
 refine zdt (s:=.condn c l) rfl ?_;show Ext z l (ze6 ev c l) (ze6 ev c (l++z));unfold ze6;exact .need fun h=>nX hR (.assign c _) (zab hs (d1 h) (zah _)) fun n l1 _=>.need fun _=>.ok sr
theorem z27 (c:Cx) (l:Ts) (hs:(Sy.inner c l).meas<=m) (hp:0 < l.length):Ext z l (ev (.inner c l)) (ev (.inner c (l++z))):=by
 refine zdt (s:=.inner c l) rfl ?_;show Ext z l (zd2 ev c l) (zd2 ev c (l++z));unfold zd2
 by_cases hA:isT l 0 zas=true->1 < l.length
 ·simp only [ztg hp hA];exact .if' (fun _=>.fail) fun _=>tE hR hs (.stmt c l) .rfl (oT rfl)
 ·rw [Classical.not_imp] at hA;refine zdr (.ite (fun _=>.fail) fun _=>zji (by omega) hA.1)
theorem zod {s:Sy} (hs:s.meas<=m) (c:Cx) (a:PT) (l:Ts) (hl:Les s.l l):Ext z l (zbk ev c a l) (zbk ev c a (l++z)):=by
 unfold zbk;have third:∀ (b:PT) (l2:Ts),Les s.l l2->Ext z l2 (zap zbr l2 fun l3 =>
   if isT l3 0 zam then ndR (ev (.body c (l3.drop 1))) fun s l5=>okR (Rv.nd (nd 30 [a,b,nd 37 [],s])) l5
   else ndR (ev (.assign c l3)) fun d l4=>zap zam l4 fun l5=>ndR (ev (.body c l5)) fun s l6=>okR (Rv.nd (nd 30 [a,b,d,s])) l6) (zap zbr (l2++z) fun l3 =>
   if isT l3 0 zam then ndR (ev (.body c (l3.drop 1))) fun s l5=>okR (Rv.nd (nd 30 [a,b,nd 37 [],s])) l5
   else ndR (ev (.assign c l3)) fun d l4=>zap zam l4 fun l5=>ndR (ev (.body c l5)) fun s l6=>okR (Rv.nd (nd 30 [a,b,d,s])) l6):=fun b l2 h2 =>
  .need fun _=>.isF (fun h3=>nD hR (zaf h3) (.body c _) rfl (mL hs h2 _ (Leq.trans sd sd)) fun _ _ _=>.ok sr)
   (nX hR (.assign c _) (mL hs h2 _ sd) fun d l4 h4=>.need fun _=>nX hR (.body c _) (mL hs h2 _ (Leq.trans (Leq.trans sd h4) sd)) fun _ _ _=>.ok sr)
   fun e r=>zc2.nd (zb5 (.assign c _) e rfl fun e=>by cases e) r
 exact .need fun _=>.is (by decide) (fun _=>third _ _ (hl.trans sd)) (nX hR (.assign c _) (mL hs hl _ sd) fun b l2 h2=>third b l2 (hl.trans (Leq.trans sd h2)))
theorem z25 (c:Cx) (l:Ts) (hs:(Sy.loops c l).meas<=m):Ext z l (ev (.loops c l)) (ev (.loops c (l++z))):=by
 refine zdt (s:=.loops c l) rfl ?_;show Ext z l (zd1 ev c l) (zd1 ev c (l++z));unfold zd1;refine .need fun h=>?_
 have h0:=d1 h;generalize l.drop 1=l0 at h0 ⊢;have low:Ext z l0 (if isT l0 0 zfe || isT l0 0 zay then ndR (ev (.decl c l0)) fun n l1=>zbk ev c n l1 else if isT l0 0 zbr then zbk ev c (nd 37 []) l0 else ndR (ev (.assign c l0)) fun n l1=>zbk ev c (nd 26 [n]) l1)
   (if isT (l0++z) 0 zfe || isT (l0++z) 0 zay then ndR (ev (.decl c (l0++z))) fun n l1=>zbk ev c n l1 else if isT (l0++z) 0 zbr then zbk ev c (nd 37 []) (l0++z) else ndR (ev (.assign c (l0++z))) fun n l1=>zbk ev c (nd 26 [n]) l1):=by
  by_cases hl:l0=[]
  ·refine zdr ?_;rw [hl,za5,za5,za5];exact .ite (fun h=>by cases h) fun _=>.ite (fun h=>by cases h) fun _=>.nd (zb5 (.assign c []) rfl rfl fun e=>by cases e)
  ·simp only [za9 (zbu hl)];exact .if' (fun _=>nX hR (.decl c l0) (mL hs h0 _ .rfl) fun n l1 h1=>zod hR hs _ _ _ (h0.trans h1)) fun _=>.if' (fun _=>zod hR hs _ _ _ h0) fun _=>nX hR (.assign c l0) (mL hs h0 _ .rfl) fun n l1 h1=>zod hR hs _ _ _ (h0.trans h1)
 by_cases h3:2 < l0.length
 ·have hp:0 < l0.length:=by omega
  rw [za9 hp,za9 hp,zlg (show 1 < l0.length by omega),za9 h3] at *
  refine .if' (fun _=>?_) fun _=>low
  rw [Ext.drop (show 3<=l0.length by omega),ztr (show 1 < l0.length by omega)]
  exact Ext.suf (nX hR (.assign c _) (mL hs h0 _ sd) fun e l1 h1=>.need fun _=>nX hR (.body c _) (mL hs h0 _ (Leq.trans (Leq.trans sd h1) sd)) fun _ _ _=>.ok sr) sd
 ·have hx:¬ ((isT l0 0 zfe || isT l0 0 zay) && (decide (kd l0 1=1) && isT l0 2 wOf))=true:=by
   rw [zgt (show l0.length<=2 by omega),Bool.and_false,Bool.and_false];decide
  rw [if_neg hx]
  cases hw:(isT l0 0 zfe || isT l0 0 zay) with
  | true =>
   refine zdr ?_;rw [if_pos rfl];refine .nd2 fun n l1 e=>?_
   rw [zac] at e;have h5:=(zcb (s:=.declL (if isT l0 0 zay then 25 else 24) [] c (l0.drop 1)) e).2.2 rfl rfl
   have h6:l1.length < (l0.drop 1).length:=h5.2;rw [lLD] at h6;unfold zbk;exact .need (zgt (by omega))
  | false =>
   rw [hw] at low
   by_cases hl:l0=[]
   ·refine zdr ?_;rw [hl,za5];exact .ite (fun h=>by cases h) fun _=>.ite (fun h=>by cases h) fun _=>.nd (zb5 (.assign c []) rfl rfl fun e=>by cases e)
   ·have hp:=zbu hl;have hw':(isT (l0++z) 0 zfe || isT (l0++z) 0 zay)=false:=by rw [za9 hp,za9 hp];exact hw
    rw [hw'] at low ⊢;rw [Bool.false_and];exact low
theorem zoc {s:Sy} (hs:s.meas<=m) (c:Cx) (ks:List PT) (l:Ts) (hl:Les s.l l):Ext z l (zcy ev c ks l) (zcy ev c ks (l++z)):=by
 unfold zcy;exact .is (by decide) (fun h=>nD hR (zaf h) (.block c _) rfl (mL hs hl _ sd) fun _ _ _=>.ok sr) (.if' (fun _=>.fail) fun _=>.ok sr)
theorem l_try (c:Cx) (l:Ts) (hs:(Sy.tryS c l).meas<=m):Ext z l (ev (.tryS c l)) (ev (.tryS c (l++z))):=by
 refine zdt (s:=.tryS c l) rfl ?_;show Ext z l (zo6 ev c l) (zo6 ev c (l++z));unfold zo6;refine nE hR hs (.block c l) .rfl (oT rfl) rfl fun a l1 h1=>.is (by decide) (fun h2=>?_) (zoc hR hs _ _ _ h1)
 have hp:=zaf h2
 by_cases h3:1 < l1.length
 ·rw [za9 h3];refine .if' (fun _=>?_) fun _=>nD hR hp (.block c _) rfl (mL hs h1 _ sd) fun b l2 h4=>zoc hR hs _ _ _ (h1.trans (Leq.trans sd h4))
  rw [dp2 h3];exact Ext.suf (.name fun _=>.need fun _=>nX hR (.block c _) (mL hs h1 _ (Leq.trans (Leq.trans sd sd) sd)) fun b l4 h4=>zoc hR hs _ _ _ (h1.trans (Leq.trans (Leq.trans (Leq.trans sd sd) sd) h4))) sd
 ·rw [if_neg (by rw [zgt (by omega)];decide)]
  exact zdr (.nd (zb5 (.block c _) (List.drop_eq_nil_of_le (by omega)) rfl fun e=>by cases e))
theorem z5n (c:Cx) (l:Ts) (hs:(Sy.decl c l).meas<=m) (hp:0 < l.length):Ext z l (ev (.decl c l)) (ev (.decl c (l++z))):=by
 refine zdt (s:=.decl c l) rfl ?_;show Ext z l (zny ev c l) (zny ev c (l++z));unfold zny;rw [za9 hp];exact tD hR hp (.declL _ [] c _) rfl (zab hs (zav hp 1 (nR 1) (nR 1)) (zah _))
theorem z29 (k:Int) (acc:List PT) (c:Cx) (l:Ts) (hs:(Sy.declL k acc c l).meas<=m):Ext z l (ev (.declL k acc c l)) (ev (.declL k acc c (l++z))):=by
 refine zdt (s:=.declL k acc c l) rfl ?_;show Ext z l (ze5 ev k acc c l) (ze5 ev k acc c (l++z));unfold ze5;refine .name fun hk=>?_
 have h0:Les l (l.drop 1):=zav (zaw hk (by decide)) 1 (nR 1) (nR 1)
 have next:∀ (d:PT) (l2:Ts),Les l l2->Ext z l2 (if isT l2 0 zci then ev (.declL k (acc++[d]) c (l2.drop 1)) else okR (Rv.nd (nd k (acc++[d]))) l2) (if isT (l2++z) 0 zci then ev (.declL k (acc++[d]) c ((l2++z).drop 1)) else okR (Rv.nd (nd k (acc++[d]))) (l2++z)):=fun d l2 h2 =>
  .is (by decide) (fun h3=>tD hR (zaf h3) (.declL k _ c _) rfl (mL hs h2 _ sd)) (.ok sr)
 exact .is (by decide) (fun h1=>nD hR (zaf h1) (.assign c _) rfl (mL hs h0 _ sd) fun e l2 h2=>next _ _ (h0.trans (Leq.trans sd h2))) (.if' (fun _=>.fail) fun _=>next _ _ h0)
theorem z3c (c:Cx) (l:Ts) (hs:(Sy.block c l).meas<=m):Ext z l (ev (.block c l)) (ev (.block c (l++z))):=by
 refine zdt (s:=.block c l) rfl ?_;show Ext z l (zd3 ev c l) (zd3 ev c (l++z));unfold zd3;exact .need fun h=>hR (.blockL [] c _) (zab hs (d1 h) (zah _))
theorem zzy (acc:List PT) (c:Cx) (l:Ts) (hs:(Sy.blockL acc c l).meas<=m) (hp:0 < l.length):Ext z l (ev (.blockL acc c l)) (ev (.blockL acc c (l++z))):=by
 refine zdt (s:=.blockL acc c l) rfl ?_;show Ext z l (zca ev acc c l) (zca ev acc c (l++z));unfold zca;rw [za9 hp,if_neg (List.length_pos_iff.1 hp),if_neg (List.append_ne_nil_of_left_ne_nil (List.length_pos_iff.1 hp) _)];exact .if' (fun _=>oD hp) fun _=>nE hR hs (.stmt c l) .rfl (oT rfl) rfl fun n l1 h1=>hR (.blockL _ c l1) (zab hs h1 (zah _))
theorem z5m (d:Bool) (c:Cx) (l:Ts) (hs:(Sy.func d c l).meas<=m) (hp:0 < l.length):Ext z l (ev (.func d c l)) (ev (.func d c (l++z))):=by
 refine zdt (s:=.func d c l) rfl ?_;show Ext z l (zew ev d c l) (zew ev d c (l++z));have f3:∀ (o:Int) (nm:Bs) (l3:Ts),Les l l3->Ext z l3 (bnd (zax l3) fun ps l4=>ndR (ev (.block (zai o) l4)) fun b l5=>okR (Rv.nd (.mk 11 nm 0 o (ps++[b]))) l5) (bnd (zax (l3++z)) fun ps l4=>ndR (ev (.block (zai o) l4)) fun b l5=>okR (Rv.nd (.mk 11 nm 0 o (ps++[b]))) l5):=fun o nm l3 h3 =>
  .bnd zw2 fun ps l4 _ h4=>nX hR (.block _ l4) (mL hs h3 _ h4) fun _ _ _=>.ok sr
 have f2:∀ (o:Int) (l2:Ts),Les l l2->Ext z l2 (if d || decide (kd l2 0=1) then zb1 l2 fun nm l3=>bnd (zax l3) fun ps l4=>ndR (ev (.block (zai o) l4)) fun b l5=>okR (Rv.nd (.mk 11 nm 0 o (ps++[b]))) l5 else bnd (zax l2) fun ps l4=>ndR (ev (.block (zai o) l4)) fun b l5=>okR (Rv.nd (.mk 11 [] 0 o (ps++[b]))) l5)
   (if d || decide (kd (l2++z) 0=1) then zb1 (l2++z) fun nm l3=>bnd (zax l3) fun ps l4=>ndR (ev (.block (zai o) l4)) fun b l5=>okR (Rv.nd (.mk 11 nm 0 o (ps++[b]))) l5 else bnd (zax (l2++z)) fun ps l4=>ndR (ev (.block (zai o) l4)) fun b l5=>okR (Rv.nd (.mk 11 [] 0 o (ps++[b]))) l5):=fun o l2 h2=>by
  by_cases hl:l2=[]
  ·subst hl;refine zdr (.ite (fun _=>?_) fun _=>.bnd ?_)
   ·unfold zb1;rw [zgs,if_neg (by decide)];exact .fail
   ·unfold zax;exact .need (za5 _ _)
  ·rw [zlg (zbu hl)];exact .if' (fun _=>.name fun hk=>f3 _ _ _ (h2.trans sd)) fun _=>f3 _ _ _ h2
 have f1:∀ (o0:Int) (l0:Ts),Leq l l0->Ext z l0 (zap za4 l0 fun l1=>if d || decide (kd (if decide (o0=1) && isT l1 0 zbx then l1.drop 1 else l1) 0=1) then zb1 (if decide (o0=1) && isT l1 0 zbx then l1.drop 1 else l1) fun nm l3=>bnd (zax l3) fun ps l4=>ndR (ev (.block (zai (if decide (o0=1) && isT l1 0 zbx then 3 else o0)) l4)) fun b l5=>okR (Rv.nd (.mk 11 nm 0 (if decide (o0=1) && isT l1 0 zbx then 3 else o0) (ps++[b]))) l5 else bnd (zax (if decide (o0=1) && isT l1 0 zbx then l1.drop 1 else l1)) fun ps l4=>ndR (ev (.block (zai (if decide (o0=1) && isT l1 0 zbx then 3 else o0)) l4)) fun b l5=>okR (Rv.nd (.mk 11 [] 0 (if decide (o0=1) && isT l1 0 zbx then 3 else o0) (ps++[b]))) l5)
   (zap za4 (l0++z) fun l1=>if d || decide (kd (if decide (o0=1) && isT l1 0 zbx then l1.drop 1 else l1) 0=1) then zb1 (if decide (o0=1) && isT l1 0 zbx then l1.drop 1 else l1) fun nm l3=>bnd (zax l3) fun ps l4=>ndR (ev (.block (zai (if decide (o0=1) && isT l1 0 zbx then 3 else o0)) l4)) fun b l5=>okR (Rv.nd (.mk 11 nm 0 (if decide (o0=1) && isT l1 0 zbx then 3 else o0) (ps++[b]))) l5 else bnd (zax (if decide (o0=1) && isT l1 0 zbx then l1.drop 1 else l1)) fun ps l4=>ndR (ev (.block (zai (if decide (o0=1) && isT l1 0 zbx then 3 else o0)) l4)) fun b l5=>okR (Rv.nd (.mk 11 [] 0 (if decide (o0=1) && isT l1 0 zbx then 3 else o0) (ps++[b]))) l5):=fun o0 l0 h0=>by
  refine .need fun hf=>?_
  have h1:Les l (l0.drop 1):=h0.trans' (d1 hf);generalize l0.drop 1=l1 at h1 ⊢
  by_cases hl:l1=[]
  ·subst hl;rw [za5,Bool.and_false];refine zdr (.ite (fun _=>?_) fun _=>.bnd ?_)
   ·unfold zb1;rw [if_neg (by rw [if_neg (by decide),zgs];decide)];exact .fail
   ·unfold zax;exact .need (za5 _ _)
  ·rw [za9 (zbu hl)]
   cases hc:(decide (o0=1) && isT l1 0 zbx) with
   | true =>
    simp only [if_true,dp (zbu hl)];exact (f2 3 _ (h1.trans sd)).suf sd
   | false=>exact f2 o0 _ h1
 unfold zew;rw [za9 hp]
 cases ha:isT l 0 zas with
 | true =>
  simp only [if_true,dp hp];exact (f1 4 _ sd).suf sd
 | false=>exact f1 1 _ .rfl
theorem z3d (c:Cx) (l:Ts) (hs:(Sy.arrow c l).meas<=m) (hp:0 < l.length):Ext z l (ev (.arrow c l)) (ev (.arrow c (l++z))):=by
 refine zdt (s:=.arrow c l) rfl ?_;show Ext z l (zdl ev c l) (zdl ev c (l++z));have f2:∀ (o:Int) (ps:List PT) (l1:Ts),Les l l1->Ext z l1 (zap ze0 l1 fun l2 =>
  if isT l2 0 zgy then ndR (ev (.block (zai o) l2)) fun b l3=>okR (Rv.nd (ndO 11 o (ps++[b]))) l3
  else ndR (ev (.assign (zai o) l2)) fun n l3=>okR (Rv.nd (ndO 11 o (ps++[nd 27 [nd 32 [n]]]))) l3) (zap ze0 (l1++z) fun l2 =>
  if isT l2 0 zgy then ndR (ev (.block (zai o) l2)) fun b l3=>okR (Rv.nd (ndO 11 o (ps++[b]))) l3
  else ndR (ev (.assign (zai o) l2)) fun n l3=>okR (Rv.nd (ndO 11 o (ps++[nd 27 [nd 32 [n]]]))) l3):=fun o ps l1 h1 =>
  .need fun _=>.is (by decide) (fun _=>nX hR (.block _ _) (mL hs h1 _ sd) fun _ _ _=>.ok sr) (nX hR (.assign _ _) (mL hs h1 _ sd) fun _ _ _=>.ok sr)
 have f1:∀ (o:Int) (l0:Ts),Leq l l0->Ext z l0 (if isT l0 0 zbm then bnd (zax l0) fun ps l1=>zap ze0 l1 fun l2 =>
  if isT l2 0 zgy then ndR (ev (.block (zai o) l2)) fun b l3=>okR (Rv.nd (ndO 11 o (ps++[b]))) l3
  else ndR (ev (.assign (zai o) l2)) fun n l3=>okR (Rv.nd (ndO 11 o (ps++[nd 27 [nd 32 [n]]]))) l3 else zb1 l0 fun s l1=>zap ze0 l1 fun l2 =>
  if isT l2 0 zgy then ndR (ev (.block (zai o) l2)) fun b l3=>okR (Rv.nd (ndO 11 o ([ndN 7 s []]++[b]))) l3
  else ndR (ev (.assign (zai o) l2)) fun n l3=>okR (Rv.nd (ndO 11 o ([ndN 7 s []]++[nd 27 [nd 32 [n]]]))) l3) (if isT (l0++z) 0 zbm then bnd (zax (l0++z)) fun ps l1=>zap ze0 l1 fun l2 =>
  if isT l2 0 zgy then ndR (ev (.block (zai o) l2)) fun b l3=>okR (Rv.nd (ndO 11 o (ps++[b]))) l3
  else ndR (ev (.assign (zai o) l2)) fun n l3=>okR (Rv.nd (ndO 11 o (ps++[nd 27 [nd 32 [n]]]))) l3 else zb1 (l0++z) fun s l1=>zap ze0 l1 fun l2 =>
  if isT l2 0 zgy then ndR (ev (.block (zai o) l2)) fun b l3=>okR (Rv.nd (ndO 11 o ([ndN 7 s []]++[b]))) l3
  else ndR (ev (.assign (zai o) l2)) fun n l3=>okR (Rv.nd (ndO 11 o ([ndN 7 s []]++[nd 27 [nd 32 [n]]]))) l3):=fun o l0 h0=>by
  by_cases hl:l0=[]
  ·subst hl;rw [za5];refine zdr (.ite (fun h=>by cases h) fun _=>?_)
   unfold zb1;rw [zgs,if_neg (by decide)];exact .fail
  ·rw [za9 (zbu hl)];refine .if' (fun h=>?_) fun _=>.name fun hk=>f2 _ _ _ (h0.trans' (zav (zaw hk (by decide)) 1 (nR 1) (nR 1)))
   refine .bnd zw2 fun ps l1 e _=>f2 _ _ _ (h0.trans' ?_)
   obtain ⟨o',ho,hP⟩:=zcv l0;rw [e] at ho
   cases ho
   exact hP _ _ rfl
 unfold zdl;rw [za9 hp]
 cases ha:isT l 0 zas with
 | true =>
  simp only [if_true,dp hp];exact (f1 5 _ sd).suf sd
 | false=>exact f1 2 _ .rfl
theorem zzz (c:Cx) (l:Ts) (hs:(Sy.assign c l).meas<=m) (hp:0 < l.length):Ext z l (ev (.assign c l)) (ev (.assign c (l++z))):=by
 by_cases hb:zbh l=0/\0 < zbh (l++z)
 ·intro a l1 e;obtain ⟨h1,h2⟩:=z3t hb.1 hb.2 e;subst h1;exact ⟨List.nil_suffix,fun hw=>by rcases hw with hw|hw <;> first|exact absurd rfl hw|(rw [h2] at hw;cases hw)⟩
 have ha:zbh (l++z)=zbh l:=by
  by_cases h:0 < zbh l
  ·exact arr_z h
  ·have:¬ 0 < zbh (l++z):=fun h2=>hb ⟨by omega,h2⟩
   omega
 refine zdt (s:=.assign c l) rfl ?_;show Ext z l (zch ev c l) (zch ev c (l++z));unfold zch;rw [ha,za9 hp];refine .if' (fun _=>tE hR hs (.arrow c l) .rfl (oT rfl)) fun _=>.if' (fun h=>.if' (fun _=>nD hR hp (.assign c _) rfl (zab hs (d1 h) (zah _)) fun _ _ _=>.ok sr) fun _=>.fail) fun _=>?_
 refine nE hR hs (.cond c l) .rfl (oT rfl) rfl fun n l1 h1=>.op (by decide) (fun hl h5=>?_) (.ok sr)
 rw [ztr (zbu hl)];exact .if' (fun _=>nD hR (zbu hl) (.assign c _) rfl (mL hs h1 _ sd) fun _ _ _=>.ok sr) fun _=>.fail
theorem z5o (c:Cx) (l:Ts) (hs:(Sy.cond c l).meas<=m):Ext z l (ev (.cond c l)) (ev (.cond c (l++z))):=by
 refine zdt (s:=.cond c l) rfl ?_;show Ext z l (zg3 ev c l) (zg3 ev c (l++z));unfold zg3;exact nE hR hs (.opnd 0 c l) .rfl (oT rfl) rfl fun n l1 h1=>.is (by decide) (fun h=>nD hR (zaf h) (.assign c _) rfl (mL hs h1 _ sd) fun a l2 h2=>.need fun _=>nX hR (.assign c _) (mL hs h1 _ (Leq.trans (Leq.trans sd h2) sd)) fun _ _ _=>.ok sr) (.ok sr)
theorem z5j (k:Nat) (c:Cx) (l:Ts) (hs:(Sy.opnd k c l).meas<=m):Ext z l (ev (.opnd k c l)) (ev (.opnd k c (l++z))):=by
 refine zdt (s:=.opnd k c l) rfl ?_;show Ext z l (ze3 ev k c l) (ze3 ev k c (l++z));unfold ze3;have r1:(Sy.unary c l).rank < (Sy.opnd k c l).rank:=by
  show 12 < if k<=6 then 26 - 2 * k else 14
  split <;> omega
 refine .if' (fun _=>tE hR hs (.unary c l) .rfl r1) fun h=>nE hR hs (.opnd (k + 1) c l) .rfl ?_ rfl fun n l1 h1=>hR (.opndL k n c l1) (zab hs h1 (zah _))
 show (if k + 1<=6 then 26 - 2 * (k + 1) else 14) < if k<=6 then 26 - 2 * k else 14
 rw [if_pos (by omega),if_pos (by omega)]
 omega
theorem z24 (k:Nat) (n:PT) (c:Cx) (l:Ts) (hs:(Sy.opndL k n c l).meas<=m):Ext z l (ev (.opndL k n c l)) (ev (.opndL k n c (l++z))):=by
 refine zdt (s:=.opndL k n c l) rfl ?_;show Ext z l (zei ev k n c l) (zei ev k n c (l++z));unfold zei;refine .op2 (zum k) (fun hl=>?_) (.ok sr)
 have hp:=zbu hl;have h0:Les l (l.drop 1):=zav hp 1 (nR 1) (nR 1);rw [ztr hp];exact nD hR hp (.opnd (k + 1) c _) rfl (zab hs h0 (zah _)) fun x l1 h1=>hR (.opndL k _ c l1) (mL hs h0 _ h1)
theorem z22 (c:Cx) (l:Ts) (hs:(Sy.unary c l).meas<=m) (hp:0 < l.length):Ext z l (ev (.unary c l)) (ev (.unary c (l++z))):=by
 refine zdt (s:=.unary c l) rfl ?_;show Ext z l (zdi ev c l) (zdi ev c (l++z));unfold zdi;rw [zlg hp,ztr hp];have hm:=zab (s':=.unary c (l.drop 1)) hs (zav hp 1 (nR 1) (nR 1)) (zah _);refine .if' (fun h=>?_) fun _=>tE hR hs (.postf c l) .rfl (oT rfl)
 refine .if' (fun _=>.if' (fun _=>nD hR hp (.unary c _) rfl hm fun _ _ _=>.ok sr) fun _=>.fail) fun _=>.if' (fun _=>nD hR hp (.unary c _) rfl hm fun _ _ _=>.if' (fun _=>.ok sr) fun _=>.fail) fun _=>.if' (fun _=>tE hR hs (.postf c l) .rfl (oT rfl)) fun _=>nD hR hp (.unary c _) rfl hm fun _ _ _=>.if' (fun _=>.fail) fun _=>.ok sr
theorem z23 (c:Cx) (l:Ts) (hs:(Sy.postf c l).meas<=m):Ext z l (ev (.postf c l)) (ev (.postf c (l++z))):=by
 refine zdt (s:=.postf c l) rfl ?_;show Ext z l (zeh ev c l) (zeh ev c (l++z));unfold zeh;refine nE hR hs (.chain c l) .rfl (oT rfl) rfl fun n l1 h1=>.op (by decide) (fun hl _=>?_) (.ok sr)
 rw [ztr (zbu hl)];exact .if' (fun _=>oD (zbu hl)) fun _=>.fail
theorem z5k (n:PT) (c:Cx) (l:Ts) (hs:(Sy.link n c l).meas<=m):Ext z l (ev (.link n c l)) (ev (.link n c (l++z))):=by
 refine zdt (s:=.link n c l) rfl ?_;show Ext z l (zg2 ev n c l) (zg2 ev n c (l++z));unfold zg2;refine .is (by decide) (fun h=>?_) (.is (by decide) (fun h=>nD hR (zaf h) (.assign c _) rfl (zab hs (d1 h) (zah _)) fun _ _ _=>.need fun _=>.ok sr) (.ok sr))
 by_cases h1:1 < l.length
 ·rw [zlg h1,ztr h1,dp2 h1];exact .if' (fun _=>.ok sd) fun _=>.fail
 ·rw [if_neg (by rw [z5s (by omega)];decide)]
  exact .fail
theorem z3b (c:Cx) (l:Ts) (hs:(Sy.chain c l).meas<=m) (hp:0 < l.length):Ext z l (ev (.chain c l)) (ev (.chain c (l++z))):=by
 refine zdt (s:=.chain c l) rfl ?_;show Ext z l (zdk ev c l) (zdk ev c (l++z));unfold zdk;rw [za9 hp];exact .if' (fun h=>nD hR hp (.prim c _) rfl (zab hs (d1 h) (zah _)) fun n l1 h1=>hR (.chainN n c l1) (mL hs (d1 h) _ h1)) fun _=>nE hR hs (.prim c l) .rfl (oT rfl) rfl fun n l1 h1=>hR (.chainL n c l1) (zab hs h1 (zah _))
theorem zzw (n:PT) (c:Cx) (l:Ts) (hs:(Sy.chainN n c l).meas<=m):Ext z l (ev (.chainN n c l)) (ev (.chainN n c (l++z))):=by
 refine zdt (s:=.chainN n c l) rfl ?_;show Ext z l (zc7 ev n c l) (zc7 ev n c (l++z));unfold zc7;exact bE hR hs (.link n c l) .rfl (oT rfl) rfl fun x b l1 h1=>.if' (fun hb=>hR (.chainN x c l1) (zab hs (h1.2 hb) (zah _))) fun _=>.need fun h=>lX hR (.list2 zam c _) (zab hs (h1.1.trans' (d1 h)) (zah _)) fun as l2 h2=>hR (.chainL _ c l2) (mL hs (h1.1.trans' (d1 h)) _ h2)
theorem zzx (n:PT) (c:Cx) (l:Ts) (hs:(Sy.chainL n c l).meas<=m):Ext z l (ev (.chainL n c l)) (ev (.chainL n c (l++z))):=by
 refine zdt (s:=.chainL n c l) rfl ?_;show Ext z l (zcp ev n c l) (zcp ev n c (l++z));unfold zcp;exact bE hR hs (.link n c l) .rfl (oT rfl) rfl fun x b l1 h1=>.if' (fun hb=>hR (.chainL x c l1) (zab hs (h1.2 hb) (zah _))) fun _=>.is (by decide) (fun h=>lD hR (zaf h) (.list2 zam c _) rfl (zab hs (h1.1.trans' (d1 h)) (zah _)) fun as l2 h2=>hR (.chainL _ c l2) (mL hs (h1.1.trans' (d1 h)) _ h2)) (.ok sr)
theorem z26 (e:Bs) (c:Cx) (l:Ts) (hs:(Sy.list2 e c l).meas<=m) (hp:0 < l.length):Ext z l (ev (.list2 e c l)) (ev (.list2 e c (l++z))):=by
 refine zdt (s:=.list2 e c l) rfl ?_;show Ext z l (zej ev e c l) (zej ev e c (l++z));unfold zej;rw [za9 hp];exact .if' (fun _=>oD hp) fun _=>tE hR hs (.list2L e [] c l) .rfl (oT rfl)
theorem zzu (e:Bs) (acc:List PT) (c:Cx) (l:Ts) (hs:(Sy.list2L e acc c l).meas<=m):Ext z l (ev (.list2L e acc c l)) (ev (.list2L e acc c (l++z))):=by
 refine zdt (s:=.list2L e acc c l) rfl ?_;show Ext z l (zco ev e acc c l) (zco ev e acc c (l++z));unfold zco;exact nE hR hs (.assign c l) .rfl (oT rfl) rfl fun n l1 h1=>.isF (fun h=>oD (zaf h)) (.need fun h=>hR (.list2L e _ c _) (mL hs h1 _ sd)) fun e r=>zc2.need (by rw [e];exact za5 _ _) r
theorem z5i (c:Cx) (l:Ts) (hs:(Sy.prim c l).meas<=m) (hp:0 < l.length):Ext z l (ev (.prim c l)) (ev (.prim c (l++z))):=by
 refine zdt (s:=.prim c l) rfl ?_;show Ext z l (zdj ev c l) (zdj ev c (l++z));unfold zdj;simp only [za9 hp,zlg hp,ztr hp];refine .if' (fun _=>oD hp) fun _=>.if' (fun _=>oD hp) fun _=>.if' (fun _=>oD hp) fun _=>.if' (fun _=>oD hp) fun _=>.if' (fun _=>oD hp) fun _=>.if' (fun _=>oD hp) fun _=>.if' (fun _=>oD hp) fun _=>.if' (fun _=>oD hp) fun _=>.if' (fun h=>?_) fun _=>.if' (fun h=>?_) fun _=>.if' (fun h=>?_) fun _=>.if' (fun _=>tE hR hs (.func false c l) .rfl (oT rfl)) fun _=>.fail
 ·exact nD hR hp (.assign c _) rfl (zab hs (d1 h) (zah _)) fun _ _ _=>.need fun _=>.ok sr
 ·exact lD hR hp (.list2 zo4 c _) rfl (zab hs (d1 h) (zah _)) fun _ _ _=>.ok sr
 ·exact lD hR hp (.fields c _) rfl (zab hs (d1 h) (zah _)) fun _ _ _=>.ok sr
theorem zzv (c:Cx) (l:Ts) (hs:(Sy.fields c l).meas<=m) (hp:0 < l.length):Ext z l (ev (.fields c l)) (ev (.fields c (l++z))):=by
 refine zdt (s:=.fields c l) rfl ?_;show Ext z l (zc6 ev c l) (zc6 ev c (l++z));unfold zc6;rw [za9 hp];exact .if' (fun _=>oD hp) fun _=>tE hR hs (.fieldsL [] c l) .rfl (oT rfl)
theorem zw3 (acc:List PT) (c:Cx) (l:Ts) (hs:(Sy.fieldsL acc c l).meas<=m):Ext z l (ev (.fieldsL acc c l)) (ev (.fieldsL acc c (l++z))):=by
 refine zdt (s:=.fieldsL acc c l) rfl ?_;show Ext z l (zcg ev acc c l) (zcg ev acc c (l++z));unfold zcg;exact nE hR hs (.field c l) .rfl (oT rfl) rfl fun n l1 h1=>.isF (fun h=>oD (zaf h)) (.need fun h=>hR (.fieldsL _ c _) (mL hs h1 _ sd)) fun e r=>zc2.need (by rw [e];exact za5 _ _) r
theorem z28 (c:Cx) (l:Ts) (hs:(Sy.field c l).meas<=m) (hp:0 < l.length):Ext z l (ev (.field c l)) (ev (.field c (l++z))):=by
 refine zdt (s:=.field c l) rfl ?_;show Ext z l (ze4 ev c l) (ze4 ev c (l++z));unfold ze4;simp only [za9 hp,zlg hp,ztr hp];have h0:Les l (l.drop 1):=zav hp 1 (nR 1) (nR 1);refine .if' (fun h=>nD hR hp (.assign c _) rfl (zab hs h0 (zah _)) fun k l1 h1=>.need fun _=>.need fun _=>nX hR (.assign c _) (mL hs h0 _ (Leq.trans (Leq.trans h1 sd) sd)) fun _ _ _=>.ok sr) fun _=>.if' (fun _=>.fail) fun _=>?_
 by_cases h1:1 < l.length
 ·rw [za9 h1,dp2 h1];refine .if' (fun _=>?_) fun _=>.if' (fun _=>oD hp) fun _=>.fail
  exact Ext.suf (nX hR (.assign c _) (zab hs (zav h1 2 (by decide) (nR 2)) (zah _)) fun _ _ _=>.ok sr) sd
 ·have hl:l.drop 1=[]:=List.drop_eq_nil_of_le (by omega)
  rw [if_neg (by rw [zgt (by omega)];decide)]
  by_cases hz:isT z 0 zam=true
  ·have:isT (l++z) 1 zh5=false:=by
    have e:(l++z)[1]?=z[0]?:=by rw [List.getElem?_append_right (by omega),show 1 - l.length=0 by omega]
    have:=zgf hz (show zam ≠ zh5 by decide)
    unfold isT kd tx at this ⊢;rw [e];exact this
   simp only [this,Bool.false_eq_true,if_false];exact .if' (fun _=>oD hp) fun _=>.fail
  ·refine .none (by simpa using hz) fun a l1 e=>?_
   split at e
   ·cases e;exact hl
   ·cases e
end
theorem loc {z:Ts}:∀ (m:Nat) (s:Sy),s.meas < m->Ext z s.l (ev s) (ev (s.put (s.l++z)))
 | 0,_,h=>by omega
 | m + 1,s,h=>by
  have hR:∀ s:Sy,s.meas < m->Ext z s.l (ev s) (ev (s.put (s.l++z))):=fun s h=>loc m s h
  have hs:s.meas<=m:=by omega
  have nil:s.lax=false->s.shape ≠ .nb->(0 < s.l.length->Ext z s.l (ev s) (ev (s.put (s.l++z))))->Ext z s.l (ev s) (ev (s.put (s.l++z))):=fun h1 h2 h3=>by
   by_cases hl:s.l=[]
   ·exact zdr (zb5 s hl h1 h2)
   ·exact h3 (zbu hl)
  cases s with
  | stmt c l=>exact nil rfl (fun e=>by cases e) (z5h hR c l hs)
  | keyw c l=>exact z5l hR c l hs
  | condn c l=>exact z3a hR c l hs
  | inner c l=>exact nil rfl (fun e=>by cases e) (z27 hR c l hs)
  | body c l =>
   refine zdt (s:=.body c l) rfl ?_;exact tE hR hs (.inner { c with lp:=true } l) .rfl (oT rfl)
  | loops c l=>exact z25 hR c l hs
  | tryS c l=>exact l_try hR c l hs
  | decl c l=>exact nil rfl (fun e=>by cases e) (z5n hR c l hs)
  | declL k a c l=>exact z29 hR k a c l hs
  | block c l=>exact z3c hR c l hs
  | blockL a c l=>exact nil rfl (fun e=>by cases e) (zzy hR a c l hs)
  | func d c l=>exact nil rfl (fun e=>by cases e) (z5m hR d c l hs)
  | arrow c l=>exact nil rfl (fun e=>by cases e) (z3d hR c l hs)
  | assign c l=>exact nil rfl (fun e=>by cases e) (zzz hR c l hs)
  | cond c l=>exact z5o hR c l hs
  | opnd k c l=>exact z5j hR k c l hs
  | opndL k n c l=>exact z24 hR k n c l hs
  | unary c l=>exact nil rfl (fun e=>by cases e) (z22 hR c l hs)
  | postf c l=>exact z23 hR c l hs
  | link n c l=>exact z5k hR n c l hs
  | chain c l=>exact nil rfl (fun e=>by cases e) (z3b hR c l hs)
  | chainN n c l=>exact zzw hR n c l hs
  | chainL n c l=>exact zzx hR n c l hs
  | list2 e c l=>exact nil rfl (fun e=>by cases e) (z26 hR e c l hs)
  | list2L e a c l=>exact zzu hR e a c l hs
  | prim c l=>exact nil rfl (fun e=>by cases e) (z5i hR c l hs)
  | fields c l=>exact nil rfl (fun e=>by cases e) (zzv hR c l hs)
  | fieldsL a c l=>exact zw3 hR a c l hs
  | field c l=>exact nil rfl (fun e=>by cases e) (z28 hR c l hs)
theorem zxg {z l1:Ts} {s:Sy} {v:Rv} (h:ev s=some (some (v,l1))) (hl:l1 ≠ []\/isT z 0 zam=true):ev (s.put (s.l++z))=some (some (v,l1++z)):=(loc (s.meas + 1) s (nLS _) v l1 h).2 hl
end Go.Proofs.YtcfecmeocimclaaGreatDoor
