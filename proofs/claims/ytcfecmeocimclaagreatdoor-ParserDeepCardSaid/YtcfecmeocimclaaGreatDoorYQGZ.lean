/- Own work,plain: what the parser takes has its brackets closed. -/
import Derived.Test.YtcfecmeocimclaaGreatDoorYQA0
import Derived.Test.YtcfecmeocimclaaGreatDoorYQGY
namespace Go.Proofs.YtcfecmeocimclaaGreatDoor
set_option linter.unusedSectionVars false
set_option linter.unusedSimpArgs false
set_option linter.unusedVariables false
def brk (s:Bs):Nat:=if s=zbo\/s=zn4\/s=zg9 then 1 else if s=zan\/s=zqa\/s=ztr then 2 else 0
def tkB (t:Tk):Nat:=if t.k=5 then brk t.t else 0
def zqe:Nat->Ts->Nat
 | n,[]=>n
 | n,t :: l=>zqe (match tkB t with|0=>n|1=>n + 1|_=>n - 1) l
def za4:Nat->Ts->Bool
 | _,[]=>false
 | n,t :: l=>match tkB t with
  | 0=>za4 n l
  | 1=>if 128 < n + 1 then true else za4 (n + 1) l
  | _=>za4 (n - 1) l
theorem zpz:∀ (n:Nat) (a b:Ts),zqe n (a++b)=zqe (zqe n a) b
 | n,[],b=>rfl
 | n,t :: a,b=>by rw [lCA,zqe,zqe,zpz]
def z5t (t:Tk):Prop:=t.k=2->brk t.t=0
def Bst (b c:Nat) (l l1:Ts):Prop:=∃ d,l=d++l1/\∀ n,zqe (n + b) d=n + c
theorem Bst.rfl {b:Nat} {l:Ts}:Bst b b l l:=⟨[],Eq.refl l,fun _=>Eq.refl _⟩
theorem Bst.trans {b c e:Nat} {l l1 l2:Ts} (h:Bst b c l l1) (h':Bst c e l1 l2):Bst b e l l2:=by
 obtain ⟨d,h1,h2⟩:=h;obtain ⟨d',h3,h4⟩:=h';exact ⟨d++d',by rw [h1,h3,List.append_assoc],fun n=>by rw [zpz,h2,h4]⟩
theorem Bst.up {b c:Nat} {l l1:Ts} (k:Nat) (h:Bst b c l l1):Bst (b + k) (c + k) l l1:=by
 obtain ⟨d,h1,h2⟩:=h;exact ⟨d,h1,fun n=>by rw [show n + (b + k)=n + k + b by omega,h2];omega⟩
theorem Bst.tok {l:Ts} {t:Tk} (h:l[0]?=some t) (b:Nat) (hb:tkB t=2->0 < b):Bst b (match tkB t with|0=>b|1=>b + 1|_=>b - 1) l (l.drop 1):=by
 cases l with
 | nil=>cases h
 | cons x l =>
  cases h
  refine ⟨[t],Eq.refl _,fun n=>?_⟩
  have hle:tkB t<=2:=by unfold tkB brk;split <;> (try split) <;> (try split) <;> omega
  rw [zqe,zqe]
  rcases (show tkB t=0\/tkB t=1\/tkB t=2 by omega) with e|e|e
  ·simp only [e]
  ·simp only [e];omega
  ·have:=hb e
   simp only [e];omega
theorem zs0 {l:Ts} {s:Bs} (h:isT l 0 s=true) (hT:∀ t ∈ l,z5t t):∃ t,l[0]?=some t/\tkB t=brk s:=by
 have hp:=zag h;have hk:=zjw h;have ht:=zil h;refine ⟨l[0],List.getElem?_eq_getElem hp,?_⟩;have hm:=hT l[0] (List.getElem_mem hp);unfold kd at hk;unfold tx at ht;rw [List.getElem?_eq_getElem hp] at hk ht;simp only at hk ht;unfold tkB
 rcases hk with e|e
 ·rw [if_neg (by rw [e];decide),<- ht]
  exact (hm e).symm
 ·rw [if_pos e,ht]
def Bl {α:Type} (b c:Nat) (l:Ts) (x:Re α):Prop:=(∀ t ∈ l,z5t t)->∀ a l1,x=some (some (a,l1))->Bst b c l l1
section
variable {α β:Type} {b c e:Nat} {l:Ts}
theorem Bl.fail:Bl b c l (zdv:Re α):=fun _ _ _ h=>by cases h
theorem Bl.ok {a:α}:Bl b b l (okR a l):=fun _ _ _ h=>by cases h;exact .rfl
theorem Bl.pre {l1:Ts} {x:Re α} (h:(∀ t ∈ l,z5t t)->Bst b e l l1) (hx:Bl e c l1 x):Bl b c l x:=fun hT a l2 he=>by
 have h1:=h hT;obtain ⟨d,hd,_⟩:=id h1;exact h1.trans (hx (fun t ht=>hT t (by rw [hd];exact List.mem_append_right _ ht)) a l2 he)
theorem Bl.bnd {x:Re α} {k:α->Ts->Re β} (h:Bl b e l x) (hk:∀ a l1,x=some (some (a,l1))->Bl e c l1 (k a l1)):Bl b c l (bnd x k):=fun hT a l2 he=>by
 cases hx:x with
 | none=>rw [hx] at he;cases he
 | some o =>
  cases o with
  | none=>rw [hx] at he;cases he
  | some p =>
   obtain ⟨a1,l1⟩:=p;rw [hx] at he;exact Bl.pre (fun hT=>h hT a1 l1 hx) (hk a1 l1 hx) hT a l2 he
theorem Bl.nd {x:Re Rv} {k:PT->Ts->Re β} (h:Bl b e l x) (hk:∀ n l1,x=some (some (.nd n,l1))->Bl e c l1 (k n l1)):Bl b c l (ndR x k):=.bnd h fun v l1 h0=>by
 cases v with
 | nd n=>exact hk n l1 h0
 | nb n b=>exact fun _ _ _ e=>by cases e
 | ls n=>exact fun _ _ _ e=>by cases e
theorem Bl.nb {x:Re Rv} {k:PT->Bool->Ts->Re β} (h:Bl b e l x) (hk:∀ n q l1,x=some (some (.nb n q,l1))->Bl e c l1 (k n q l1)):Bl b c l (nbR x k):=.bnd h fun v l1 h0=>by
 cases v with
 | nb n q=>exact hk n q l1 h0
 | nd n=>exact fun _ _ _ e=>by cases e
 | ls n=>exact fun _ _ _ e=>by cases e
theorem Bl.ls {x:Re Rv} {k:List PT->Ts->Re β} (h:Bl b e l x) (hk:∀ n l1,x=some (some (.ls n,l1))->Bl e c l1 (k n l1)):Bl b c l (lsR x k):=.bnd h fun v l1 h0=>by
 cases v with
 | ls n=>exact hk n l1 h0
 | nb n b=>exact fun _ _ _ e=>by cases e
 | nd n=>exact fun _ _ _ e=>by cases e
theorem Bl.ite {p:Prop} [Decidable p] {x y:Re α} (h1:p->Bl b c l x) (h2:¬ p->Bl b c l y):Bl b c l (if p then x else y):=by
 split
 ·exact h1 (by assumption)
 ·exact h2 (by assumption)
theorem Bl.w0 {s:Bs} {x:Re α} (h:isT l 0 s=true) (hs:brk s=0) (hx:Bl b c (l.drop 1) x):Bl b c l x:=.pre (fun hT=>by
 obtain ⟨t,h1,h2⟩:=zs0 h hT
 have:=Bst.tok h1 b (by rw [h2,hs];intro e;cases e)
 rw [h2,hs] at this;exact this) hx
theorem Bl.n0 {s:Bs} {k:Ts->Re α} (hs:brk s=0) (hx:isT l 0 s=true->Bl b c (l.drop 1) (k (l.drop 1))):Bl b c l (zaq s l k):=.ite (fun h=>.w0 h hs (hx h)) fun _=>.fail
theorem Bl.k0 {x:Re α} (h:kd l 0 ≠ 5\/brk (tx l 0)=0) (hx:Bl b c (l.drop 1) x):Bl b c l x:=.pre (fun hT=>by
 cases l with
 | nil=>exact .rfl
 | cons t l =>
  have h2:tkB t=0:=by
   unfold tkB
   rcases h with h|h
   ·exact if_neg h
   ·split
    ·exact h
    ·exact Eq.refl _
  have:=Bst.tok (l:=t :: l) (Eq.refl _) b (by rw [h2];intro e;cases e)
  rw [h2] at this;exact this) hx
theorem Bl.name {k:Bs->Ts->Re α} (hx:kd l 0=1->Bl b c (l.drop 1) (k (tx l 0) (l.drop 1))):Bl b c l (zb3 l k):=.ite (fun h=>.k0 (.inl (by rw [h];decide)) (hx h)) fun _=>.fail
end
def Sy.ob:Sy->Nat
 | .blockL _ _ _|.list2 _ _ _|.list2L _ _ _ _|.fields _ _|.fieldsL _ _ _=>1
 | _=>0
def Sy.eok:Sy->Prop
 | .list2 e _ _|.list2L e _ _ _=>brk e=2
 | .decl _ l=>brk (tx l 0)=0
 | _=>True
section
variable {m:Nat} (hB:∀ s:Sy,s.meas < m->s.eok->Bl s.ob 0 s.l (ev s))
include hB
end
end Go.Proofs.YtcfecmeocimclaaGreatDoor

/- Own work,plain: two scripts,one behind the other. -/
namespace Go.Proofs.YtcfecmeocimclaaGreatDoor
set_option linter.unusedSimpArgs false
set_option linter.unusedVariables false
def Exc {α:Type} (z:Ts) (x x':Re α):Prop:=∀ a l1,x=some (some (a,l1))->x'=some (some (a,l1++z))
section
variable {α β:Type} {z l:Ts}
theorem Exc.fail {x':Re α}:Exc z zdv x':=fun _ _ h=>by cases h
theorem Exc.ok {a:α} {l1:Ts}:Exc z (okR a l1) (okR a (l1++z)):=fun _ _ e=>by cases e;rfl
theorem Exc.bnd {x x':Re α} {k k':α->Ts->Re β} (h:Exc z x x') (hk:∀ a l1,x=some (some (a,l1))->Exc z (k a l1) (k' a (l1++z))):Exc z (bnd x k) (bnd x' k'):=fun b l2 e=>by
 cases hx:x with
 | none=>rw [hx] at e;cases e
 | some o =>
  cases o with
  | none=>rw [hx] at e;cases e
  | some p =>
   obtain ⟨a,l1⟩:=p;rw [hx] at e;rw [h a l1 hx];exact hk a l1 hx b l2 e
theorem Exc.nd {x x':Re Rv} {k k':PT->Ts->Re β} (h:Exc z x x') (hk:∀ n l1,x=some (some (.nd n,l1))->Exc z (k n l1) (k' n (l1++z))):Exc z (ndR x k) (ndR x' k'):=.bnd h fun v l1 h0=>by
 cases v with
 | nd n=>exact hk n l1 h0
 | nb n b=>exact fun _ _ e=>by cases e
 | ls n=>exact fun _ _ e=>by cases e
theorem Exc.nb {x x':Re Rv} {k k':PT->Bool->Ts->Re β} (h:Exc z x x') (hk:∀ n b l1,x=some (some (.nb n b,l1))->Exc z (k n b l1) (k' n b (l1++z))):Exc z (nbR x k) (nbR x' k'):=.bnd h fun v l1 h0=>by
 cases v with
 | nb n b=>exact hk n b l1 h0
 | nd n=>exact fun _ _ e=>by cases e
 | ls n=>exact fun _ _ e=>by cases e
theorem Exc.ite {c:Prop} [Decidable c] {x y x' y':Re α} (h1:c->Exc z x x') (h2:¬ c->Exc z y y'):Exc z (if c then x else y) (if c then x' else y'):=by
 split
 ·exact h1 (by assumption)
 ·exact h2 (by assumption)
theorem Exc.need {s:Bs} {k k':Ts->Re α} (hk:isT l 0 s=true->Exc z (k (l.drop 1)) (k' (l.drop 1++z))):Exc z (zaq s l k) (zaq s (l++z) k'):=by
 unfold zaq
 by_cases h:isT l 0 s=true
 ·have hp:=zag h;rw [if_pos h,if_pos (by rw [zbf hp];exact h),dp hp]
  exact hk h
 ·rw [if_neg h];exact .fail
theorem Exc.name {k k':Bs->Ts->Re α} (hk:kd l 0=1->Exc z (k (tx l 0) (l.drop 1)) (k' (tx l 0) (l.drop 1++z))):Exc z (zb3 l k) (zb3 (l++z) k'):=by
 unfold zb3
 by_cases h:kd l 0=1
 ·have hp:=zaw h (by decide)
  rw [if_pos h,if_pos (by rw [zl4 hp];exact h),zu7 hp,dp hp]
  exact hk h
 ·rw [if_neg h];exact .fail
theorem Exc.is {s:Bs} (hz:isT z 0 s=false) {x y x' y':Re α} (h1:isT l 0 s=true->Exc z x x') (h2:Exc z y y'):Exc z (if isT l 0 s then x else y) (if isT (l++z) 0 s then x' else y'):=by
 by_cases hl:l=[]
 ·subst hl;rw [za6,lNA,hz];exact h2
 ·rw [zbf (zbv hl)];exact .ite h1 fun _=>h2
end
structure NoGo (z:Ts):Prop where
 e:isT z 0 zu5=false
 c:isT z 0 zn5=false
 f:isT z 0 zfo=false
def Sy.stm:Sy->Bool
 | .stmt _ _|.keyw _ _|.inner _ _|.body _ _|.loops _ _|.tryS _ _|.block _ _|.blockL _ _ _|.func _ _ _=>true
 | _=>false
section
variable {z:Ts} {m:Nat} (hC:∀ s:Sy,s.meas < m->s.stm=true->s.l ≠ []->Exc z (ev s) (ev (s.put (s.l++z))))
end
def cx0:Cx:=⟨false,false,false,false⟩
def zij:Nat->List PT->Ts->Option (List PT)
 | 0,_,_=>none
 | n + 1,acc,l=>if l=[] then some acc else match ev (.stmt cx0 l) with
  | some (some (.nd x,l1))=>zij n (acc++[x]) l1
  | _=>none
def zqb (l:Ts):Option (List PT):=zij (l.length + 1) [] l
end Go.Proofs.YtcfecmeocimclaaGreatDoor

/- Own work,plain: the nodes that the parser makes have few parts. -/
namespace Go.Proofs.YtcfecmeocimclaaGreatDoor
set_option linter.unusedSimpArgs false
set_option linter.unusedVariables false
mutual
def zex:PT->Prop
 | .mk _ _ _ _ ks=>ks.length<=2000000/\ze2 ks
def ze2:List PT->Prop
 | []=>True
 | k :: ks=>zex k/\ze2 ks
end
theorem zel:∀ {a b:List PT},ze2 a->ze2 b->ze2 (a++b)
 | [],_,_,h=>h
 | x :: a,b,h,h'=>by
  rw [ze2] at h;rw [lCA,ze2];exact ⟨h.1,zel h.2 h'⟩
theorem zqh {x:PT} (h:zex x):ze2 [x]:=by rw [ze2,ze2];exact ⟨h,trivial⟩
theorem zfm {k i o:Int} {nm:Bs} {ks:List PT} (h:ks.length<=2000000) (h':ze2 ks):zex (.mk k nm i o ks):=by rw [zex];exact ⟨h,h'⟩
theorem zn0 {k i o:Int} {nm:Bs}:zex (.mk k nm i o []):=zfm (Nat.zero_le _) (by rw [ze2];trivial)
theorem zf2 {k i o:Int} {nm:Bs} {x:PT} (h:zex x):zex (.mk k nm i o [x]):=zfm (show 1<=2000000 by decide) (zqh h)
theorem zsa {k i o:Int} {nm:Bs} {x y:PT} (h:zex x) (h2:zex y):zex (.mk k nm i o [x,y]):=zfm (show 2<=2000000 by decide) (by rw [ze2];exact ⟨h,zqh h2⟩)
theorem z5x {k i o:Int} {nm:Bs} {x y z:PT} (h:zex x) (h2:zex y) (h3:zex z):zex (.mk k nm i o [x,y,z]):=zfm (show 3<=2000000 by decide) (by rw [ze2,ze2];exact ⟨h,h2,zqh h3⟩)
theorem z5w {k i o:Int} {nm:Bs} {x y z v:PT} (h:zex x) (h2:zex y) (h3:zex z) (h4:zex v):zex (.mk k nm i o [x,y,z,v]):=zfm (show 4<=2000000 by decide) (by rw [ze2,ze2,ze2];exact ⟨h,h2,h3,zqh h4⟩)
theorem zwz {k i o:Int} {nm:Bs} {ks:List PT} {x:PT} (h:ze2 ks) (hl:ks.length<=1000000) (h2:zex x):zex (.mk k nm i o (ks++[x])):=zfm (by rw [lLA];show ks.length + 1<=2000000;omega) (zel h (zqh h2))
def Rv.wd:Rv->Prop
 | .nd n=>zex n
 | .nb n _=>zex n
 | .ls ks=>ze2 ks/\ks.length<=1000000
def Sy.wpre (s:Sy):Prop:=s.l.length<=1000000/\match s with
 | .declL _ acc _ l|.blockL acc _ l|.list2L _ acc _ l|.fieldsL acc _ l=>ze2 acc/\acc.length + l.length<=1000000
 | .opndL _ n _ _|.link n _ _|.chainN n _ _|.chainL n _ _=>zex n
 | _=>True
def Wd {α:Type} (P:α->Ts->Prop) (x:Re α):Prop:=∀ a l,x=some (some (a,l))->P a l
section
variable {α β:Type} {P:α->Ts->Prop} {l:Ts}
theorem Wd.fail:Wd P zdv:=fun _ _ h=>by cases h
theorem Wd.ok {a:α} (h:P a l):Wd P (okR a l):=fun _ _ e=>by cases e;exact h
theorem Wd.bnd {Q:β->Ts->Prop} {x:Re β} {k:β->Ts->Re α} (h:Wd Q x) (hk:∀ b l1,Q b l1->Wd P (k b l1)):Wd P (bnd x k):=fun a l2 he=>by
 cases hx:x with
 | none=>rw [hx] at he;cases he
 | some o =>
  cases o with
  | none=>rw [hx] at he;cases he
  | some p =>
   rw [hx] at he;exact hk p.1 p.2 (h _ _ hx) a l2 he
theorem Wd.ite {c:Prop} [Decidable c] {x y:Re α} (h1:c->Wd P x) (h2:¬ c->Wd P y):Wd P (if c then x else y):=by
 split
 ·exact h1 (by assumption)
 ·exact h2 (by assumption)
theorem Wd.need {s:Bs} {k:Ts->Re α} (h:isT l 0 s=true->Wd P (k (l.drop 1))):Wd P (zaq s l k):=.ite h fun _=>.fail
theorem Wd.name {k:Bs->Ts->Re α} (h:kd l 0=1->Wd P (k (tx l 0) (l.drop 1))):Wd P (zb3 l k):=.ite h fun _=>.fail
end
abbrev WdV (x:Re Rv):Prop:=Wd (fun v _=>v.wd) x
theorem okN {n:PT} {l:Ts} (h:zex n):WdV (okR (.nd n) l):=Wd.ok (P:=fun (v:Rv) _=>v.wd) h
theorem okB {n:PT} {b:Bool} {l:Ts} (h:zex n):WdV (okR (.nb n b) l):=Wd.ok (P:=fun (v:Rv) _=>v.wd) h
theorem okL {n:List PT} {l:Ts} (h:ze2 n/\n.length<=1000000):WdV (okR (.ls n) l):=Wd.ok (P:=fun (v:Rv) _=>v.wd) h
theorem ztp:∀ (n:Nat) (acc:List PT) (l:Ts),ze2 acc->acc.length + l.length<=1000000->Wd (fun ps l'=>ze2 ps/\ps.length + l'.length<=1000000) (zcy n acc l)
 | 0,_,_,_,_=>fun _ _ e=>by cases e
 | n + 1,acc,l,h,hl=>by
  rw [zcy];have h7:∀ s:Bs,ze2 (acc++[ndN 7 s []]):=fun s=>zel h (zqh zn0)
  refine .name fun hk=>?_
  have hp:=zaw hk (by decide)
  refine .ite (fun h1=>.ite (fun _=>.ok ⟨h7 _,?_⟩) fun _=>.fail) fun _=>.need fun h1=>ztp n _ _ (h7 _) ?_
  ·simp only [lLA,lLD,lLS];omega
  ·simp only [lLA,lLD,lLS];omega
theorem zw1 {l:Ts} (hl:l.length<=1000000):Wd (fun ps l'=>ze2 ps/\ps.length + l'.length<=1000000) (zay l):=by
 unfold zay;refine .need fun h=>.ite (fun _=>.ok ⟨by rw [ze2];trivial,?_⟩) fun _=>ztp _ _ _ (by rw [ze2];trivial) ?_
 ·simp only [List.length_nil,lLD];omega
 ·simp only [List.length_nil,lLD];omega
section
variable {m:Nat} (hW:∀ s:Sy,s.meas < m->s.wpre->WdV (ev s))
include hW
theorem wN (s':Sy) (h:s'.meas < m) (hp:s'.wpre) {k:PT->Ts->Re Rv} (hk:∀ n l1,zex n->Leq s'.l l1->WdV (k n l1)):WdV (ndR (ev s') k):=by
 refine .bnd (Q:=fun v l1=>v.wd/\Leq s'.l l1) (fun v l e=>⟨hW s' h hp v l e,(zcd e).2.1⟩) fun v l1 ⟨h1,h2⟩=>?_
 cases v with
 | nd n=>exact hk n l1 h1 h2
 | nb n b=>exact fun _ _ e=>by cases e
 | ls n=>exact fun _ _ e=>by cases e
theorem wE {s:Sy} (hs:s.meas<=m) (s':Sy) (h:Leq s.l s'.l) (hr:s'.rank < s.rank) (hx:s'.lax=false) (hp:s'.wpre) {k:PT->Ts->Re Rv} (hk:∀ n l1,zex n->Les s.l l1->WdV (k n l1)):WdV (ndR (ev s') k):=by
 refine .bnd (Q:=fun v l1=>v.wd/\s'.post v l1) (fun v l e=>⟨hW s' (zak hs h hr) hp v l e,zcd e⟩) fun v l1 ⟨h1,h2⟩=>?_
 cases v with
 | nd n=>exact hk n l1 h1 (h.trans' (h2.2.2 hx rfl))
 | nb n b=>exact fun _ _ e=>by cases e
 | ls n=>exact fun _ _ e=>by cases e
theorem wL (s':Sy) (h:s'.meas < m) (hp:s'.wpre) {k:List PT->Ts->Re Rv} (hk:∀ n l1,ze2 n->n.length<=1000000->Leq s'.l l1->WdV (k n l1)):WdV (lsR (ev s') k):=by
 refine .bnd (Q:=fun v l1=>v.wd/\Leq s'.l l1) (fun v l e=>⟨hW s' h hp v l e,(zcd e).2.1⟩) fun v l1 ⟨h1,h2⟩=>?_
 cases v with
 | ls n=>exact hk n l1 h1.1 h1.2 h2
 | nb n b=>exact fun _ _ e=>by cases e
 | nd n=>exact fun _ _ e=>by cases e
theorem wB {s:Sy} (hs:s.meas<=m) (s':Sy) (h:Leq s.l s'.l) (hr:s'.rank < s.rank) (hx:s'.lax=false) (hp:s'.wpre) {k:PT->Bool->Ts->Re Rv} (hk:∀ n b l1,zex n->PB s.l b l1->WdV (k n b l1)):WdV (nbR (ev s') k):=by
 refine .bnd (Q:=fun v l1=>v.wd/\s'.post v l1) (fun v l e=>⟨hW s' (zak hs h hr) hp v l e,zcd e⟩) fun v l1 ⟨h1,h2⟩=>?_
 cases v with
 | nb n b=>exact hk n b l1 h1 ⟨h.trans h2.2.1,fun hb=>h.trans' (h2.2.2 hx hb)⟩
 | nd n=>exact fun _ _ e=>by cases e
 | ls n=>exact fun _ _ e=>by cases e
theorem z17 (c:Cx) (l:Ts) (h:(Sy.assign c l).meas < m) (hl:l.length<=1000000):WdV (zgu ev c l):=wN hW (.assign c l) h ⟨hl,trivial⟩ fun n l1 hn _=>.need fun _=>okN (zf2 hn)
theorem z5y (s:Sy) (hs:s.meas<=m) (hp:s.wpre):WdV (znq ev s):=by
 have hl:=hp.1;have ml:∀ {l:Ts},Les s.l l->∀ (s':Sy),Leq l s'.l->s'.meas < m:=fun h s' h'=>mL hs h s' h'
 have ln:∀ {l:Ts},Leq s.l l->l.length<=1000000:=fun h=>Nat.le_trans h.len hl
 have fe:∀ (c:Cx) (a:PT) (l:Ts),zex a->Les s.l l->WdV (zbn ev c a l):=fun c a l ha h=>by
  unfold zbn;have third:∀ (b:PT) (l2:Ts),zex b->Les s.l l2->WdV (zaq zbp l2 fun l3 =>
   if isT l3 0 zan then ndR (ev (.body c (l3.drop 1))) fun s l5=>okR (Rv.nd (nd 30 [a,b,nd 37 [],s])) l5
   else ndR (ev (.assign c l3)) fun d l4=>zaq zan l4 fun l5=>ndR (ev (.body c l5)) fun s l6=>okR (Rv.nd (nd 30 [a,b,d,s])) l6):=fun b l2 hb h2 =>
   .need fun _=>.ite (fun _=>wN hW (.body c _) (ml h2 _ (Leq.trans sd sd)) ⟨ln (h2.leq.trans (Leq.trans sd sd)),trivial⟩ fun x _ hx _=>okN (z5w ha hb zn0 hx)) fun _=>wN hW (.assign c _) (ml h2 _ sd) ⟨ln (h2.leq.trans sd),trivial⟩ fun d l4 hd h4=>.need fun _=>wN hW (.body c _) (ml h2 _ (Leq.trans (Leq.trans sd h4) sd)) ⟨ln (h2.leq.trans (Leq.trans (Leq.trans sd h4) sd)),trivial⟩ fun x _ hx _=>okN (z5w ha hb hd hx)
  exact .need fun _=>.ite (fun _=>third _ _ zn0 (h.trans sd)) fun _=>wN hW (.assign c _) (ml h _ sd) ⟨ln (h.leq.trans sd),trivial⟩ fun b l2 hb h2=>third b l2 hb (h.trans (Leq.trans sd h2))
 have te:∀ (c:Cx) (ks:List PT) (l:Ts),ze2 ks->ks.length<=2->Les s.l l->WdV (zc1 ev c ks l):=fun c ks l hk h2 h=>by
  unfold zc1;exact .ite (fun _=>wN hW (.block c _) (ml h _ sd) ⟨ln (h.leq.trans sd),trivial⟩ fun x _ hx _=>okN (zwz hk (by omega) hx)) fun _=>.ite (fun _=>.fail) fun _=>okN (zfm (by omega) hk)
 cases s with
 | stmt c l =>
  show WdV (ze5 ev c l);unfold ze5;exact .ite (fun _=>wN hW (.decl c l) (zak hs .rfl (oT rfl)) ⟨hl,trivial⟩ fun n l1 hn _=>.need fun _=>okN hn) fun _=>.ite (fun _=>hW (.func true c l) (zak hs .rfl (oT rfl)) ⟨hl,trivial⟩) fun _=>.ite (fun _=>hW (.block c l) (zak hs .rfl (oT rfl)) ⟨hl,trivial⟩) fun _=>.ite (fun _=>okN zn0) fun _ =>
   .ite (fun _=>wB hW hs (.keyw c l) .rfl (oT rfl) rfl ⟨hl,trivial⟩ fun n b l1 hn h1=>.ite (fun _=>okN hn) fun _=>z17 hW c l1 (zak hs h1.1 (oT rfl)) (ln h1.1)) fun _=>z17 hW c l (zak hs .rfl (oT rfl)) hl
 | keyw c l =>
  show WdV (zf9 ev c l);unfold zf9;refine .ite (fun h=>?_) fun _=>.ite (fun h=>?_) fun _=>.ite (fun h=>?_) fun _=>.ite (fun h=>?_) fun _=>.ite (fun h=>?_) fun _=>.ite (fun h=>?_) fun _=>.ite (fun h=>?_) fun _=>okB zn0
  ·exact wN hW (.condn c _) (zab hs (d1 h) (zai _)) ⟨ln sd,trivial⟩ fun e l1 he h1=>wN hW (.inner c l1) (mL hs (d1 h) _ h1) ⟨ln (Leq.trans sd h1),trivial⟩ fun a l2 ha h2=>.ite (fun h3=>wN hW (.inner c _) (mL hs (d1 h) _ ((sO h1 h2).trans sd)) ⟨ln (Leq.trans sd ((sO h1 h2).trans sd)),trivial⟩ fun x _ hx _=>okB (z5x he ha hx)) fun _=>okB (zsa he ha)
  ·exact wN hW (.condn c _) (zab hs (d1 h) (zai _)) ⟨ln sd,trivial⟩ fun e l1 he h1=>wN hW (.body c l1) (mL hs (d1 h) _ h1) ⟨ln (Leq.trans sd h1),trivial⟩ fun a l2 ha h2=>okB (zsa he ha)
  ·exact wN hW (.loops c _) (zab hs (d1 h) (zai _)) ⟨ln sd,trivial⟩ fun e l1 he h1=>okB he
  ·exact .ite (fun _=>.ite (fun _=>okB zn0) fun _=>wN hW (.assign c _) (zab hs (d1 h) (zai _)) ⟨ln sd,trivial⟩ fun n l1 hn _=>.need fun _=>okB (zf2 hn)) fun _=>.fail
  ·exact .ite (fun _=>.need fun _=>okB zn0) fun _=>.fail
  ·exact wN hW (.assign c _) (zab hs (d1 h) (zai _)) ⟨ln sd,trivial⟩ fun n l1 hn _=>.need fun _=>okB (zf2 hn)
  ·exact wN hW (.tryS c _) (zab hs (d1 h) (zai _)) ⟨ln sd,trivial⟩ fun e l1 he h1=>okB he
 | condn c l =>
  show WdV (zfe ev c l);unfold zfe;exact .need fun h=>wN hW (.assign c _) (zab hs (d1 h) (zai _)) ⟨ln sd,trivial⟩ fun n l1 hn _=>.need fun _=>okN hn
 | inner c l =>
  show WdV (zd7 ev c l);unfold zd7;exact .ite (fun _=>.fail) fun _=>hW (.stmt c l) (zak hs .rfl (oT rfl)) ⟨hl,trivial⟩
 | body c l=>exact hW (.inner { c with lp:=true } l) (zak hs .rfl (oT rfl)) ⟨hl,trivial⟩
 | loops c l =>
  show WdV (zd6 ev c l);unfold zd6;refine .need fun h=>?_
  have h0:=d1 h;generalize l.drop 1=l0 at h0 ⊢;exact .ite (fun _=>wN hW (.assign c _) (mL hs h0 _ sd) ⟨ln (h0.leq.trans sd),trivial⟩ fun e l1 he h1=>.need fun _=>wN hW (.body c _) (mL hs h0 _ (Leq.trans (Leq.trans sd h1) sd)) ⟨ln (h0.leq.trans (Leq.trans (Leq.trans sd h1) sd)),trivial⟩ fun x _ hx _=>okN (zsa he hx)) fun _ =>
   .ite (fun _=>wN hW (.decl c l0) (mL hs h0 _ .rfl) ⟨ln h0.leq,trivial⟩ fun n l1 hn h1=>fe _ _ _ hn (h0.trans h1)) fun _=>.ite (fun _=>fe _ _ _ zn0 h0) fun _=>wN hW (.assign c l0) (mL hs h0 _ .rfl) ⟨ln h0.leq,trivial⟩ fun n l1 hn h1=>fe _ _ _ (zf2 hn) (h0.trans h1)
 | tryS c l =>
  show WdV (zqc ev c l);unfold zqc;exact wE hW hs (.block c l) .rfl (oT rfl) rfl ⟨hl,trivial⟩ fun a l1 ha h1=>.ite (fun _=>.ite (fun _=>.name fun _=>.need fun _=>wN hW (.block c _) (mL hs h1 _ (Leq.trans (Leq.trans sd sd) sd)) ⟨ln (h1.leq.trans (Leq.trans (Leq.trans sd sd) sd)),trivial⟩ fun b l4 hb h4=>te _ _ _ (by rw [ze2];exact ⟨ha,zqh (zf2 hb)⟩) (nR 2) (h1.trans (Leq.trans (Leq.trans (Leq.trans sd sd) sd) h4))) fun _=>wN hW (.block c _) (mL hs h1 _ sd) ⟨ln (h1.leq.trans sd),trivial⟩ fun b l2 hb h4=>te _ _ _ (by rw [ze2];exact ⟨ha,zqh (zf2 hb)⟩) (nR 2) (h1.trans (Leq.trans sd h4))) fun _=>te _ _ _ (zqh ha) (show 1<=2 by decide) h1
 | decl c l=>exact hW (.declL (if isT l 0 zax then 25 else 24) [] c (l.drop 1)) (zak hs sd (oT rfl)) ⟨ln sd,by rw [ze2];trivial,by show 0 + (l.drop 1).length<=1000000;have:=ln (l:=l.drop 1) sd;omega⟩
 | declL k acc c l =>
  show WdV (zfd ev k acc c l);unfold zfd;obtain ⟨_,h2,h3⟩:=hp;change acc.length + l.length<=1000000 at h3;refine .name fun hk=>?_
  have h0:Les l (l.drop 1):=zav (zaw hk (by decide)) 1 (nR 1) (nR 1)
  have next:∀ (d:PT) (l2:Ts),zex d->Les l l2->WdV (if isT l2 0 zcx then ev (.declL k (acc++[d]) c (l2.drop 1)) else okR (Rv.nd (nd k (acc++[d]))) l2):=fun d l2 hd h4 =>
   .ite (fun h5=>hW (.declL k _ c _) (mL hs h4 _ sd) ⟨ln (h4.leq.trans sd),zel h2 (zqh hd),by have:=h4.2;simp only [lLA,lLD,lLS];omega⟩) fun _=>okN (zwz h2 (by omega) hd)
  exact .ite (fun h1=>wN hW (.assign c _) (mL hs h0 _ sd) ⟨ln (h0.leq.trans sd),trivial⟩ fun e l2 he h4=>next _ _ (zf2 he) (h0.trans (Leq.trans sd h4))) fun _=>.ite (fun _=>.fail) fun _=>next _ _ zn0 h0
 | block c l =>
  show WdV (zd8 ev c l);unfold zd8;exact .need fun h=>hW (.blockL [] c _) (zab hs (d1 h) (zai _)) ⟨ln sd,by rw [ze2];trivial,by show 0 + (l.drop 1).length<=1000000;have:=ln (l:=l.drop 1) sd;omega⟩
 | blockL acc c l =>
  show WdV (zcc ev acc c l);unfold zcc;obtain ⟨_,h2,h3⟩:=hp;change acc.length + l.length<=1000000 at h3;exact .ite (fun _=>okN (zfm (by omega) h2)) fun _=>.ite (fun _=>.fail) fun _=>wE hW hs (.stmt c l) .rfl (oT rfl) rfl ⟨hl,trivial⟩ fun n l1 hn h1=>hW (.blockL _ c l1) (zab hs h1 (zai _)) ⟨ln h1.leq,zel h2 (zqh hn),by have:l1.length < l.length:=h1.2;show (acc++[n]).length + l1.length<=1000000;simp only [lLA,lLS];omega⟩
 | func d c l =>
  show WdV (ze6 ev d c l);have f3:∀ (o:Int) (nm:Bs) (l3:Ts),Les l l3->WdV (bnd (zay l3) fun ps l4=>ndR (ev (.block (zaj o) l4)) fun b l5=>okR (Rv.nd (.mk 11 nm 0 o (ps++[b]))) l5):=fun o nm l3 h3 =>
   .bnd (Q:=fun ps l'=>(ze2 ps/\ps.length + l'.length<=1000000)/\Leq l3 l') (fun ps l' e=>⟨zw1 (ln h3.leq) ps l' e,by
    obtain ⟨o',ho,hP⟩:=zcw l3;rw [e] at ho
    cases ho
    exact (hP _ _ rfl).1⟩) fun ps l4 ⟨h4,h5⟩=>wN hW (.block _ l4) (mL hs h3 _ h5) ⟨ln (h3.leq.trans h5),trivial⟩ fun b _ hb _=>okN (zwz h4.1 (by omega) hb)
  have f2:∀ (o:Int) (l2:Ts),Les l l2->WdV (if d || decide (kd l2 0=1) then zb3 l2 fun nm l3=>bnd (zay l3) fun ps l4=>ndR (ev (.block (zaj o) l4)) fun b l5=>okR (Rv.nd (.mk 11 nm 0 o (ps++[b]))) l5 else bnd (zay l2) fun ps l4=>ndR (ev (.block (zaj o) l4)) fun b l5=>okR (Rv.nd (.mk 11 [] 0 o (ps++[b]))) l5):=fun o l2 h2 =>
   .ite (fun _=>.name fun _=>f3 _ _ _ (h2.trans sd)) fun _=>f3 _ _ _ h2
  unfold ze6;refine .need fun hf=>?_
  have h1:Les l ((if isT l 0 zas=true then l.drop 1 else l).drop 1):=by
   have:Leq l (if isT l 0 zas=true then l.drop 1 else l):=by split <;> first|exact sd|exact .rfl
   exact this.trans' (d1 hf)
  generalize (if isT l 0 zas=true then l.drop 1 else l).drop 1=l1 at h1 ⊢
  refine f2 _ _ (h1.trans ?_);generalize (decide ((if isT l 0 zas=true then (4:Int) else 1)=1) && isT l1 0 zby)=q
  cases q with
  | true=>exact sd
  | false=>exact .rfl
 | arrow c l =>
  show WdV (zdq ev c l);have f2:∀ (o:Int) (ps:List PT) (l1:Ts),ze2 ps->ps.length<=1000000->Les l l1->WdV (zaq zf3 l1 fun l2 =>
   if isT l2 0 zg9 then ndR (ev (.block (zaj o) l2)) fun b l3=>okR (Rv.nd (ndO 11 o (ps++[b]))) l3
   else ndR (ev (.assign (zaj o) l2)) fun n l3=>okR (Rv.nd (ndO 11 o (ps++[nd 27 [nd 32 [n]]]))) l3):=fun o ps l1 h4 h5 h1 =>
   .need fun _=>.ite (fun _=>wN hW (.block _ _) (mL hs h1 _ sd) ⟨ln (h1.leq.trans sd),trivial⟩ fun b _ hb _=>okN (zwz h4 h5 hb)) fun _=>wN hW (.assign _ _) (mL hs h1 _ sd) ⟨ln (h1.leq.trans sd),trivial⟩ fun b _ hb _=>okN (zwz h4 h5 (zf2 (zf2 hb)))
  unfold zdq;have h0:Leq l (if isT l 0 zas=true then l.drop 1 else l):=by split <;> first|exact sd|exact .rfl
  generalize (if isT l 0 zas=true then l.drop 1 else l)=l0 at h0 ⊢
  exact .ite (fun _=>.bnd (Q:=fun ps l'=>(ze2 ps/\ps.length + l'.length<=1000000)/\Les l0 l') (fun ps l' e=>⟨zw1 (ln h0) ps l' e,by
    obtain ⟨o',ho,hP⟩:=zcw l0;rw [e] at ho
    cases ho
    exact hP _ _ rfl⟩) fun ps l1 ⟨h4,h5⟩=>f2 _ _ _ h4.1 (by omega) (h0.trans' h5)) fun _=>.name fun hk=>f2 _ _ _ (zqh zn0) (show 1<=1000000 by decide) (h0.trans' (zav (zaw hk (by decide)) 1 (nR 1) (nR 1)))
 | assign c l =>
  show WdV (zb8 ev c l);unfold zb8;refine .ite (fun _=>hW (.arrow c l) (zak hs .rfl (oT rfl)) ⟨hl,trivial⟩) fun _=>.ite (fun h=>.ite (fun _=>wN hW (.assign c _) (zab hs (d1 h) (zai _)) ⟨ln sd,trivial⟩ fun n _ hn _=>okN (zf2 hn)) fun _=>.fail) fun _=>?_
  exact wE hW hs (.cond c l) .rfl (oT rfl) rfl ⟨hl,trivial⟩ fun n l1 hn h1=>.ite (fun _=>.ite (fun _=>okN hn) fun _=>.ite (fun _=>wN hW (.assign c _) (mL hs h1 _ sd) ⟨ln (h1.leq.trans sd),trivial⟩ fun x _ hx _=>okN (zsa hn hx)) fun _=>.fail) fun _=>okN hn
 | cond c l =>
  show WdV (zhj ev c l);unfold zhj;exact wE hW hs (.opnd 0 c l) .rfl (oT rfl) rfl ⟨hl,trivial⟩ fun n l1 hn h1=>.ite (fun h=>wN hW (.assign c _) (mL hs h1 _ sd) ⟨ln (h1.leq.trans sd),trivial⟩ fun a l2 ha h2=>.need fun _=>wN hW (.assign c _) (mL hs h1 _ (Leq.trans (Leq.trans sd h2) sd)) ⟨ln (h1.leq.trans (Leq.trans (Leq.trans sd h2) sd)),trivial⟩ fun b _ hb _=>okN (z5x hn ha hb)) fun _=>okN hn
 | opnd k c l =>
  show WdV (zfb ev k c l);unfold zfb;have r1:(Sy.unary c l).rank < (Sy.opnd k c l).rank:=by
   show 12 < if k<=6 then 26 - 2 * k else 14
   split <;> omega
  refine .ite (fun _=>hW (.unary c l) (zak hs .rfl r1) ⟨hl,trivial⟩) fun h=>wE hW hs (.opnd (k + 1) c l) .rfl ?_ rfl ⟨hl,trivial⟩ fun n l1 hn h1=>hW (.opndL k n c l1) (zab hs h1 (zai _)) ⟨ln h1.leq,hn⟩
  show (if k + 1<=6 then 26 - 2 * (k + 1) else 14) < if k<=6 then 26 - 2 * k else 14
  rw [if_pos (by omega),if_pos (by omega)]
  omega
 | opndL k n c l =>
  show WdV (zep ev k n c l);unfold zep;have hn:zex n:=hp.2;refine .ite (fun h=>.ite (fun _=>okN hn) fun hf=>?_) fun _=>okN hn
  have hp:0 < l.length:=by
   cases l with
   | nil=>exact absurd h (by decide)
   | cons x l=>exact Nat.succ_pos _
  have h0:Les l (l.drop 1):=zav hp 1 (nR 1) (nR 1);exact wN hW (.opnd (k + 1) c _) (zab hs h0 (zai _)) ⟨ln sd,trivial⟩ fun x l1 hx h1=>hW (.opndL k _ c l1) (mL hs h0 _ h1) ⟨ln (Leq.trans sd h1),zsa hn hx⟩
 | unary c l =>
  show WdV (zdn ev c l);unfold zdn;refine .ite (fun h=>?_) fun _=>hW (.postf c l) (zak hs .rfl (oT rfl)) ⟨hl,trivial⟩
  have hp:0 < l.length:=by
   cases l with
   | nil=>exact absurd h (by decide)
   | cons x l=>exact Nat.succ_pos _
  have hm:=zab (s':=.unary c (l.drop 1)) hs (zav hp 1 (nR 1) (nR 1)) (zai _);exact .ite (fun _=>.ite (fun _=>wN hW (.unary c _) hm ⟨ln sd,trivial⟩ fun x _ hx _=>okN (zf2 hx)) fun _=>.fail) fun _=>.ite (fun _=>wN hW (.unary c _) hm ⟨ln sd,trivial⟩ fun x _ hx _=>.ite (fun _=>okN (zf2 hx)) fun _=>.fail) fun _=>.ite (fun _=>hW (.postf c l) (zak hs .rfl (oT rfl)) ⟨hl,trivial⟩) fun _=>wN hW (.unary c _) hm ⟨ln sd,trivial⟩ fun x _ hx _=>.ite (fun _=>.fail) fun _=>okN (zf2 hx)
 | postf c l =>
  show WdV (zeo ev c l);unfold zeo;exact wE hW hs (.chain c l) .rfl (oT rfl) rfl ⟨hl,trivial⟩ fun n l1 hn h1=>.ite (fun _=>.ite (fun _=>okN hn) fun _=>.ite (fun _=>okN (zf2 hn)) fun _=>.fail) fun _=>okN hn
 | link n c l =>
  show WdV (zhi ev n c l);unfold zhi;have hn:zex n:=hp.2;exact .ite (fun _=>.ite (fun _=>okB (zf2 hn)) fun _=>.fail) fun _=>.ite (fun h=>wN hW (.assign c _) (zab hs (d1 h) (zai _)) ⟨ln sd,trivial⟩ fun x _ hx _=>.need fun _=>okB (zsa hn hx)) fun _=>okB hn
 | chain c l =>
  show WdV (zdp ev c l);unfold zdp;exact .ite (fun h=>wN hW (.prim c _) (zab hs (d1 h) (zai _)) ⟨ln sd,trivial⟩ fun n l1 hn h1=>hW (.chainN n c l1) (mL hs (d1 h) _ h1) ⟨ln (Leq.trans sd h1),hn⟩) fun _=>wE hW hs (.prim c l) .rfl (oT rfl) rfl ⟨hl,trivial⟩ fun n l1 hn h1=>hW (.chainL n c l1) (zab hs h1 (zai _)) ⟨ln h1.leq,hn⟩
 | chainN n c l =>
  show WdV (zdb ev n c l);unfold zdb;have hn:zex n:=hp.2;exact wB hW hs (.link n c l) .rfl (oT rfl) rfl ⟨hl,hn⟩ fun x b l1 hx h1=>.ite (fun hb=>hW (.chainN x c l1) (zab hs (h1.2 hb) (zai _)) ⟨ln h1.1,hx⟩) fun _=>.need fun h=>wL hW (.list2 zan c _) (zab hs (h1.1.trans' (d1 h)) (zai _)) ⟨ln (h1.1.trans sd),trivial⟩ fun qs l2 hq hq2 h2=>hW (.chainL _ c l2) (mL hs (h1.1.trans' (d1 h)) _ h2) ⟨ln (h1.1.trans (Leq.trans sd h2)),zfm (by rw [lLC];omega) (by rw [ze2];exact ⟨hx,hq⟩)⟩
 | chainL n c l =>
  show WdV (zco ev n c l);unfold zco;have hn:zex n:=hp.2;exact wB hW hs (.link n c l) .rfl (oT rfl) rfl ⟨hl,hn⟩ fun x b l1 hx h1=>.ite (fun hb=>hW (.chainL x c l1) (zab hs (h1.2 hb) (zai _)) ⟨ln h1.1,hx⟩) fun _=>.ite (fun h=>wL hW (.list2 zan c _) (zab hs (h1.1.trans' (d1 h)) (zai _)) ⟨ln (h1.1.trans sd),trivial⟩ fun qs l2 hq hq2 h2=>hW (.chainL _ c l2) (mL hs (h1.1.trans' (d1 h)) _ h2) ⟨ln (h1.1.trans (Leq.trans sd h2)),zfm (by rw [lLC];omega) (by rw [ze2];exact ⟨hn,hq⟩)⟩) fun _=>okN hn
 | list2 e c l =>
  show WdV (zeq ev e c l);unfold zeq;exact .ite (fun _=>okL ⟨by rw [ze2];trivial,Nat.zero_le _⟩) fun _=>hW (.list2L e [] c l) (zak hs .rfl (oT rfl)) ⟨hl,by rw [ze2];trivial,by show 0 + l.length<=1000000;have:l.length<=1000000:=hl;omega⟩
 | list2L e acc c l =>
  show WdV (zcn ev e acc c l);unfold zcn;obtain ⟨_,h2,h3⟩:=hp;change acc.length + l.length<=1000000 at h3;exact wE hW hs (.assign c l) .rfl (oT rfl) rfl ⟨hl,trivial⟩ fun n l1 hn h1=>by
   have h4:l1.length < l.length:=h1.2;exact .ite (fun _=>okL ⟨zel h2 (zqh hn),by simp only [lLA,lLS];omega⟩) fun _=>.need fun _=>hW (.list2L e _ c _) (mL hs h1 _ sd) ⟨ln (h1.leq.trans sd),zel h2 (zqh hn),by show (acc++[n]).length + (l1.drop 1).length<=1000000;simp only [lLA,lLS,lLD];omega⟩
 | prim c l =>
  show WdV (zdo ev c l);unfold zdo;exact .ite (fun _=>okN zn0) fun _=>.ite (fun _=>okN zn0) fun _=>.ite (fun _=>okN zn0) fun _=>.ite (fun _=>okN zn0) fun _=>.ite (fun _=>okN zn0) fun _=>.ite (fun _=>okN zn0) fun _=>.ite (fun _=>okN zn0) fun _=>.ite (fun _=>okN zn0) fun _ =>
   .ite (fun h=>wN hW (.assign c _) (zab hs (d1 h) (zai _)) ⟨ln sd,trivial⟩ fun x _ hx _=>.need fun _=>okN hx) fun _=>.ite (fun h=>wL hW (.list2 zqa c _) (zab hs (d1 h) (zai _)) ⟨ln sd,trivial⟩ fun q _ hq hq2 _=>okN (zfm (by omega) hq)) fun _=>.ite (fun h=>wL hW (.fields c _) (zab hs (d1 h) (zai _)) ⟨ln sd,trivial⟩ fun q _ hq hq2 _=>okN (zfm (by omega) hq)) fun _=>.ite (fun _=>hW (.func false c l) (zak hs .rfl (oT rfl)) ⟨hl,trivial⟩) fun _=>.fail
 | fields c l =>
  show WdV (zda ev c l);unfold zda;exact .ite (fun _=>okL ⟨by rw [ze2];trivial,Nat.zero_le _⟩) fun _=>hW (.fieldsL [] c l) (zak hs .rfl (oT rfl)) ⟨hl,by rw [ze2];trivial,by show 0 + l.length<=1000000;have:l.length<=1000000:=hl;omega⟩
 | fieldsL acc c l =>
  show WdV (zci ev acc c l);unfold zci;obtain ⟨_,h2,h3⟩:=hp;change acc.length + l.length<=1000000 at h3;exact wE hW hs (.field c l) .rfl (oT rfl) rfl ⟨hl,trivial⟩ fun n l1 hn h1=>by
   have h4:l1.length < l.length:=h1.2;exact .ite (fun _=>okL ⟨zel h2 (zqh hn),by simp only [lLA,lLS];omega⟩) fun _=>.need fun _=>hW (.fieldsL _ c _) (mL hs h1 _ sd) ⟨ln (h1.leq.trans sd),zel h2 (zqh hn),by show (acc++[n]).length + (l1.drop 1).length<=1000000;simp only [lLA,lLS,lLD];omega⟩
 | field c l =>
  show WdV (zfc ev c l);unfold zfc;exact .ite (fun h=>wN hW (.assign c _) (zab hs (d1 h) (zai _)) ⟨ln sd,trivial⟩ fun k l1 hk h1=>.need fun _=>.need fun _=>wN hW (.assign c _) (mL hs (d1 h) _ (Leq.trans (Leq.trans h1 sd) sd)) ⟨ln (Leq.trans sd (Leq.trans (Leq.trans h1 sd) sd)),trivial⟩ fun x _ hx _=>okN (zsa hk hx)) fun _=>.ite (fun _=>.fail) fun _=>.ite (fun h=>wN hW (.assign c _) (zab hs (zav (zag h) 2 (by decide) (nR 2)) (zai _)) ⟨ln sd,trivial⟩ fun x _ hx _=>okN (zf2 hx)) fun _=>.ite (fun _=>okN (zf2 zn0)) fun _=>.fail
end
theorem zr9:∀ (m:Nat) (s:Sy),s.meas < m->s.wpre->WdV (ev s)
 | 0,_,h,_=>by omega
 | m + 1,s,h,hp=>by
  rw [zad];exact z5y (fun s h hp=>zr9 m s h hp) s (by omega) hp
theorem zwy:∀ (n:Nat) (acc:List PT) (l:Ts) {ks:List PT},ze2 acc->acc.length + l.length<=1000000->zij n acc l=some ks->ze2 ks/\ks.length<=1000000
 | 0,_,_,_,_,_,h=>by cases h
 | n + 1,acc,l,ks,ha,hl,h=>by
  rw [zij] at h
  by_cases hn:l=[]
  ·rw [if_pos hn] at h
   cases h
   exact ⟨ha,by omega⟩
  ·rw [if_neg hn] at h
   split at h
   ·rename_i x l1 e;have h1:Les l l1:=(zcd e).2.2 rfl rfl;have h2:=h1.2;exact zwy n _ l1 (zel ha (zqh (zr9 _ (.stmt cx0 l) (nLS _) ⟨by show l.length<=1000000;omega,trivial⟩ _ _ e))) (by simp only [lLA,lLS];omega) h
   ·cases h
end Go.Proofs.YtcfecmeocimclaaGreatDoor
