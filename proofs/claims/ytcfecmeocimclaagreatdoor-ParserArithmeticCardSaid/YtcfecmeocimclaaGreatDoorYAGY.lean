/- Own work,plain: what the parser makes of a list is what it makes of it with more behind,if it stops ahead of its end,or if what is behind begins with a closing parenthesis. -/
import Derived.Test.YtcfecmeocimclaaGreatDoorYAA0
import Derived.Test.YtcfecmeocimclaaGreatDoorYAGX
namespace Go.Proofs.YtcfecmeocimclaaGreatDoor
set_option linter.unusedSimpArgs false
set_option linter.unusedVariables false
set_option linter.unusedSectionVars false
def Ext {α:Type} (z l:Ts) (x x':Re α):Prop:=∀ a l1,x=some (some (a,l1))->l1 <:+ l/\(l1 ≠ []\/isT z 0 zan=true->x'=some (some (a,l1++z)))
section
variable {α β:Type} {z l:Ts}
theorem Ext.fail {x':Re α}:Ext z l zdh x':=fun _ _ h=>by cases h
theorem Ext.ok {a:α} {l1:Ts} (h:l1 <:+ l):Ext z l (okR a l1) (okR a (l1++z)):=fun _ _ e=>by cases e;exact ⟨h,fun _=>rfl⟩
theorem Ext.suf {l':Ts} {x x':Re α} (h:Ext z l' x x') (hl:l' <:+ l):Ext z l x x':=fun a l1 e=>⟨(h a l1 e).1.trans hl,(h a l1 e).2⟩
theorem Ext.bnd {x x':Re α} {k k':α->Ts->Re β} (h:Ext z l x x') (hk:∀ a l1,x=some (some (a,l1))->l1 <:+ l->Ext z l1 (k a l1) (k' a (l1++z))):Ext z l (bnd x k) (bnd x' k'):=fun b l2 e=>by
 cases hx:x with
 | none=>rw [hx] at e;cases e
 | some o =>
  cases o with
  | none=>rw [hx] at e;cases e
  | some p =>
   obtain ⟨a,l1⟩:=p;rw [hx] at e;obtain ⟨h1,h2⟩:=h a l1 hx;obtain ⟨h3,h4⟩:=hk a l1 hx h1 b l2 e;refine ⟨h3.trans h1,fun hw=>?_⟩
   have h5:=h2 (hw.imp (fun h6 h7=>by subst h7;exact h6 (List.suffix_nil.1 h3)) id)
   rw [h5];exact h4 hw
theorem Ext.nd {x x':Re Rv} {k k':PT->Ts->Re β} (h:Ext z l x x') (hk:∀ n l1,x=some (some (.nd n,l1))->l1 <:+ l->Ext z l1 (k n l1) (k' n (l1++z))):Ext z l (ndR x k) (ndR x' k'):=.bnd h fun v l1 h0 h1=>by
 cases v with
 | nd n=>exact hk n l1 h0 h1
 | nb n b=>exact fun _ _ e=>by cases e
 | ls n=>exact fun _ _ e=>by cases e
theorem Ext.nb {x x':Re Rv} {k k':PT->Bool->Ts->Re β} (h:Ext z l x x') (hk:∀ n b l1,x=some (some (.nb n b,l1))->l1 <:+ l->Ext z l1 (k n b l1) (k' n b (l1++z))):Ext z l (nbR x k) (nbR x' k'):=.bnd h fun v l1 h0 h1=>by
 cases v with
 | nb n b=>exact hk n b l1 h0 h1
 | nd n=>exact fun _ _ e=>by cases e
 | ls n=>exact fun _ _ e=>by cases e
theorem Ext.ls {x x':Re Rv} {k k':List PT->Ts->Re β} (h:Ext z l x x') (hk:∀ n l1,x=some (some (.ls n,l1))->l1 <:+ l->Ext z l1 (k n l1) (k' n (l1++z))):Ext z l (lsR x k) (lsR x' k'):=.bnd h fun v l1 h0 h1=>by
 cases v with
 | ls n=>exact hk n l1 h0 h1
 | nb n b=>exact fun _ _ e=>by cases e
 | nd n=>exact fun _ _ e=>by cases e
theorem Ext.ite {c c':Prop} [Decidable c] [Decidable c'] {x y x' y':Re α} (h1:c->c'->Ext z l x x') (h2:¬ c->¬ c'->Ext z l y y') (h3:c->¬ c'->Ext z l x y') (h4:¬ c->c'->Ext z l y x'):Ext z l (if c then x else y) (if c' then x' else y'):=by
 by_cases hc:c
 ·by_cases hc':c'
  ·rw [if_pos hc,if_pos hc'];exact h1 hc hc'
  ·rw [if_pos hc,if_neg hc'];exact h3 hc hc'
 ·by_cases hc':c'
  ·rw [if_neg hc,if_pos hc'];exact h4 hc hc'
  ·rw [if_neg hc,if_neg hc'];exact h2 hc hc'
theorem Ext.drop {k:Nat} (h:k<=l.length):(l++z).drop k=l.drop k++z:=List.drop_append_of_le_length h
theorem Ext.none {x x':Re α} (hz:isT z 0 zan=false) (h:∀ a l1,x=some (some (a,l1))->l1=[]):Ext z l x x':=fun a l1 e=>by
 have:=h a l1 e
 subst this;exact ⟨List.nil_suffix,fun hw=>by rcases hw with hw|hw <;> first|exact absurd rfl hw|(rw [hz] at hw;cases hw)⟩
theorem Ext.ends {x x':Re α} {y:Re α} (hz:isT z 0 zan=false) (h:Ext z [] x y):Ext z l x x':=.none hz fun a l1 e=>List.suffix_nil.1 (h a l1 e).1
theorem Ext.iff {c c':Prop} [Decidable c] [Decidable c'] {x y x' y':Re α} (hc:l ≠ []\/isT z 0 zan=true->(c ↔ c')) (hn:¬ (l ≠ []\/isT z 0 zan=true)->¬ c) (h1:c->Ext z l x x') (h2:Ext z l y y'):Ext z l (if c then x else y) (if c' then x' else y'):=by
 by_cases hw:l ≠ []\/isT z 0 zan=true
 ·exact .ite (fun h _=>h1 h) (fun _ _=>h2) (fun h h'=>absurd ((hc hw).1 h) h') fun h h'=>absurd ((hc hw).2 h') h
 ·have hl:l=[]:=Classical.byContradiction fun h=>hw (.inl h)
  have hz:isT z 0 zan=false:=by
   cases e:isT z 0 zan with
   | false=>rfl
   | true=>exact absurd (.inr e) hw
  subst hl;exact .ite (fun h _=>h1 h) (fun _ _=>h2) (fun h _=>absurd h (hn hw)) fun h _=>.ends hz h2
theorem zbv {l:Ts} (h:l ≠ []):0 < l.length:=List.length_pos_iff.2 h
theorem za6 (n:Nat) (s:Bs):isT [] n s=false:=by unfold isT kd tx;simp
theorem zg0 (n:Nat):kd [] n=0:=by unfold kd;simp
theorem Ext.is {s:Bs} (hs:s ≠ zan) {x y x' y':Re α} (h1:isT l 0 s=true->Ext z l x x') (h2:Ext z l y y'):Ext z l (if isT l 0 s then x else y) (if isT (l++z) 0 s then x' else y'):=by
 refine .iff (fun hw=>?_) (fun hw=>?_) h1 h2
 ·by_cases hl:l=[]
  ·subst hl;rw [za6,lNA,zg7 (hw.resolve_left fun h=>h rfl) (Ne.symm hs)]
  ·rw [zbd (zbv hl)]
 ·have:l=[]:=Classical.byContradiction fun h=>hw (.inl h)
  subst this;rw [za6];exact Bool.false_ne_true
theorem z5 {z:Ts} (h:isT z 0 zan=true):(kd z 0=2\/kd z 0=5)/\tx z 0=zan:=⟨zjm h,zii h⟩
theorem Ext.need {s:Bs} {k k':Ts->Re α} (hk:isT l 0 s=true->Ext z (l.drop 1) (k (l.drop 1)) (k' (l.drop 1++z))):Ext z l (zap s l k) (zap s (l++z) k'):=by
 unfold zap
 by_cases h:isT l 0 s=true
 ·have hp:=zag h;rw [if_pos h,if_pos (by rw [zbd hp];exact h),Ext.drop (by omega)]
  exact (hk h).suf (List.drop_suffix _ _)
 ·rw [if_neg h];exact .fail
theorem Ext.name {k k':Bs->Ts->Re α} (hk:kd l 0=1->Ext z (l.drop 1) (k (tx l 0) (l.drop 1)) (k' (tx l 0) (l.drop 1++z))):Ext z l (zb3 l k) (zb3 (l++z) k'):=by
 unfold zb3
 by_cases h:Go.Proofs.YtcfecmeocimclaaGreatDoor.kd l 0=1
 ·have hp:=zaw h (by decide)
  rw [if_pos h,if_pos (by rw [zlo hp];exact h),zuh hp,Ext.drop (by omega)]
  exact (hk h).suf (List.drop_suffix _ _)
 ·rw [if_neg h];exact .fail
theorem Ext.if' {c:Prop} [Decidable c] {x y x' y':Re α} (h1:c->Ext z l x x') (h2:¬ c->Ext z l y y'):Ext z l (if c then x else y) (if c then x' else y'):=by
 split
 ·exact h1 (by assumption)
 ·exact h2 (by assumption)
end
def Sy.put:Sy->Ts->Sy
 | .stmt c _,l=>.stmt c l
 | .keyw c _,l=>.keyw c l
 | .condn c _,l=>.condn c l
 | .inner c _,l=>.inner c l
 | .body c _,l=>.body c l
 | .loops c _,l=>.loops c l
 | .tryS c _,l=>.tryS c l
 | .decl c _,l=>.decl c l
 | .declL k a c _,l=>.declL k a c l
 | .block c _,l=>.block c l
 | .blockL a c _,l=>.blockL a c l
 | .func d c _,l=>.func d c l
 | .arrow c _,l=>.arrow c l
 | .assign c _,l=>.assign c l
 | .cond c _,l=>.cond c l
 | .opnd k c _,l=>.opnd k c l
 | .opndL k n c _,l=>.opndL k n c l
 | .unary c _,l=>.unary c l
 | .postf c _,l=>.postf c l
 | .link n c _,l=>.link n c l
 | .chain c _,l=>.chain c l
 | .chainN n c _,l=>.chainN n c l
 | .chainL n c _,l=>.chainL n c l
 | .list2 e c _,l=>.list2 e c l
 | .list2L e a c _,l=>.list2L e a c l
 | .prim c _,l=>.prim c l
 | .fields c _,l=>.fields c l
 | .fieldsL a c _,l=>.fieldsL a c l
 | .field c _,l=>.field c l
def zc3 {α:Type} (x:Re α):Prop:=∀ r,x ≠ some (some r)
theorem zc3.nd {β:Type} {x:Re Rv} {k:PT->Ts->Re β} (h:zc3 x):zc3 (ndR x k):=fun r e=>by
 unfold ndR bnd at e
 split at e
 ·cases e
 ·cases e
 ·exact h _ rfl
theorem zc3.ls {β:Type} {x:Re Rv} {k:List PT->Ts->Re β} (h:zc3 x):zc3 (lsR x k):=fun r e=>by
 unfold lsR bnd at e
 split at e
 ·cases e
 ·cases e
 ·exact h _ rfl
theorem zc3.fail {α:Type}:zc3 (zdh:Re α):=fun r e=>by cases e
theorem zc3.need {β:Type} {s:Bs} {l:Ts} {k:Ts->Re β} (h:isT l 0 s=false):zc3 (zap s l k):=by
 unfold zap;rw [if_neg (by rw [h];exact Bool.false_ne_true)]
 exact .fail
theorem zc3.bnd {α β:Type} {x:Re α} {k:α->Ts->Re β} (h:zc3 x):zc3 (bnd x k):=fun r e=>by
 unfold Go.Proofs.YtcfecmeocimclaaGreatDoor.bnd at e
 split at e
 ·cases e
 ·cases e
 ·exact h _ rfl
theorem zc3.ite {α:Type} {c:Prop} [Decidable c] {x y:Re α} (h1:c->zc3 x) (h2:¬ c->zc3 y):zc3 (if c then x else y):=by
 split
 ·exact h1 (by assumption)
 ·exact h2 (by assumption)
/- Own work,plain: the parser looks no further than it must: more behind changes nothing. -/
theorem dp {l z:Ts} (h:0 < l.length):(l++z).drop 1=l.drop 1++z:=Ext.drop h
theorem zcc {s:Sy} {v:Rv} {l:Ts} (h:ev s=some (some (v,l))):s.post v l:=by
 obtain ⟨o,ho,hp⟩:=zmn s;rw [ho] at h
 cases h
 exact hp _ _ rfl
section
variable {z:Ts} {m:Nat} (hR:∀ s:Sy,s.meas < m->Ext z s.l (ev s) (ev (s.put (s.l++z))))
include hR
end
theorem zjx (l:Ts):∃ n0,n0=(if isT l 0 zat then 1 else 0)/\zbh l=(if kd l n0=1 then (if isT l (n0 + 1) zf3 then n0 + 1 else 0) else if isT l n0 zbm then (match zef l (l.length + 1) (n0 + 1) with
  | some n=>if isT l n zan && isT l (n + 1) zf3 then n + 1 else 0
  | none=>0) else 0):=⟨_,rfl,rfl⟩
theorem zk7 {l:Ts} (hA:isT l 0 zat=false):zbh l=(if kd l 0=1 then (if isT l 1 zf3 then 1 else 0) else if isT l 0 zbm then (match zef l (l.length + 1) 1 with
  | some n=>if isT l n zan && isT l (n + 1) zf3 then n + 1 else 0
  | none=>0) else 0):=by
 obtain ⟨n0,e0,ha⟩:=zjx l;rw [hA,if_neg (by decide)] at e0
 subst e0;exact ha
/- Own work,plain: each symbol looks no further than it must. -/
theorem sd {l:Ts} {k:Nat}:l.drop k <:+ l:=List.drop_suffix k l
theorem Ext.op {z l:Ts} {fr cnt:Nat} (h0:zbz zan fr cnt=0) {x x' y y':Re Rv} (hx:l ≠ []->kd l 0=5->Ext z l x x') (hy:Ext z l y y') :
  Ext z l (if kd l 0=5 then (if zbz (tx l 0) fr cnt=0 then y else x) else y) (if kd (l++z) 0=5 then (if zbz (tx (l++z) 0) fr cnt=0 then y' else x') else y'):=by
 by_cases hl:l=[]
 ·subst hl;rw [zg0,if_neg (by decide)]
  by_cases hz:isT z 0 zan=true
  ·rw [lNA,(z5 hz).2,h0,if_pos rfl]
   split
   ·exact hy
   ·exact hy
  ·exact .ends (by simpa using hz) hy
 ·rw [zlo (zbv hl),zuh (zbv hl)];exact .if' (fun h=>.if' (fun _=>hy) fun _=>hx hl h) fun _=>hy
theorem Ext.op2 {z l:Ts} {fr cnt:Nat} (h0:zbz zan fr cnt=0) {x x' y y':Re Rv} (hx:l ≠ []->Ext z l x x') (hy:Ext z l y y') :
  Ext z l (if decide (kd l 0=5) || decide (kd l 0=2) then (if zbz (tx l 0) fr cnt=0 then y else x) else y) (if decide (kd (l++z) 0=5) || decide (kd (l++z) 0=2) then (if zbz (tx (l++z) 0) fr cnt=0 then y' else x') else y'):=by
 by_cases hl:l=[]
 ·subst hl;rw [zg0,if_neg (by decide)]
  by_cases hz:isT z 0 zan=true
  ·rw [lNA,(z5 hz).2,h0,if_pos rfl]
   split
   ·exact hy
   ·exact hy
  ·exact .ends (by simpa using hz) hy
 ·rw [zlo (zbv hl),zuh (zbv hl)];exact .if' (fun h=>.if' (fun _=>hy) fun _=>hx hl) fun _=>hy
theorem sO {l l1 l2:Ts} (h:Leq l l1) (h2:Leq l1 l2):Leq l l2:=h.trans h2
section
variable {z:Ts} {m:Nat} (hR:∀ s:Sy,s.meas < m->Ext z s.l (ev s) (ev (s.put (s.l++z))))
include hR
omit hR in
theorem mL {s:Sy} (hs:s.meas<=m) {l:Ts} (h:Les s.l l) (s':Sy) (h':Leq l s'.l):s'.meas < m:=zab hs (h.trans h') (zai _)
end
end Go.Proofs.YtcfecmeocimclaaGreatDoor
