/- Own work,plain: what the parser takes has its brackets closed. -/
import Derived.Test.YtcfecmeocimclaaGreatDoorYAA0
import Derived.Test.YtcfecmeocimclaaGreatDoorYAGY
namespace Go.Proofs.YtcfecmeocimclaaGreatDoor
set_option linter.unusedSimpArgs false
set_option linter.unusedVariables false
set_option linter.unusedSectionVars false
def brk (s:Bs):Nat:=if s=zbm\/s=zng\/s=zg3 then 1 else if s=zan\/s=zpm\/s=zsz then 2 else 0
def tkB (t:Tk):Nat:=if t.k=5 then brk t.t else 0
def zpq:Nat->Ts->Nat
 | n,[]=>n
 | n,t :: l=>zpq (match tkB t with|0=>n|1=>n + 1|_=>n - 1) l
def za3:Nat->Ts->Bool
 | _,[]=>false
 | n,t :: l=>match tkB t with
  | 0=>za3 n l
  | 1=>if 128 < n + 1 then true else za3 (n + 1) l
  | _=>za3 (n - 1) l
theorem zpb:∀ (n:Nat) (a b:Ts),zpq n (a++b)=zpq (zpq n a) b
 | n,[],b=>rfl
 | n,t :: a,b=>by rw [lCA,zpq,zpq,zpb]
def z58 (t:Tk):Prop:=t.k=2->brk t.t=0
def Bst (b c:Nat) (l l1:Ts):Prop:=∃ d,l=d++l1/\∀ n,zpq (n + b) d=n + c
theorem Bst.rfl {b:Nat} {l:Ts}:Bst b b l l:=⟨[],Eq.refl l,fun _=>Eq.refl _⟩
theorem Bst.trans {b c e:Nat} {l l1 l2:Ts} (h:Bst b c l l1) (h':Bst c e l1 l2):Bst b e l l2:=by
 obtain ⟨d,h1,h2⟩:=h;obtain ⟨d',h3,h4⟩:=h';exact ⟨d++d',by rw [h1,h3,List.append_assoc],fun n=>by rw [zpb,h2,h4]⟩
theorem Bst.up {b c:Nat} {l l1:Ts} (k:Nat) (h:Bst b c l l1):Bst (b + k) (c + k) l l1:=by
 obtain ⟨d,h1,h2⟩:=h;exact ⟨d,h1,fun n=>by rw [show n + (b + k)=n + k + b by omega,h2];omega⟩
theorem Bst.tok {l:Ts} {t:Tk} (h:l[0]?=some t) (b:Nat) (hb:tkB t=2->0 < b):Bst b (match tkB t with|0=>b|1=>b + 1|_=>b - 1) l (l.drop 1):=by
 cases l with
 | nil=>cases h
 | cons x l =>
  cases h
  refine ⟨[t],Eq.refl _,fun n=>?_⟩
  have hle:tkB t<=2:=by unfold tkB brk;split <;> (try split) <;> (try split) <;> omega
  rw [zpq,zpq]
  rcases (show tkB t=0\/tkB t=1\/tkB t=2 by omega) with e|e|e
  ·simp only [e]
  ·simp only [e];omega
  ·have:=hb e
   simp only [e];omega
theorem zr7 {l:Ts} {s:Bs} (h:isT l 0 s=true) (hT:∀ t ∈ l,z58 t):∃ t,l[0]?=some t/\tkB t=brk s:=by
 have hp:=zag h;have hk:=zjm h;have ht:=zii h;refine ⟨l[0],List.getElem?_eq_getElem hp,?_⟩;have hm:=hT l[0] (List.getElem_mem hp);unfold kd at hk;unfold tx at ht;rw [List.getElem?_eq_getElem hp] at hk ht;simp only at hk ht;unfold tkB
 rcases hk with e|e
 ·rw [if_neg (by rw [e];decide),<- ht]
  exact (hm e).symm
 ·rw [if_pos e,ht]
def Bl {α:Type} (b c:Nat) (l:Ts) (x:Re α):Prop:=(∀ t ∈ l,z58 t)->∀ a l1,x=some (some (a,l1))->Bst b c l l1
section
variable {α β:Type} {b c e:Nat} {l:Ts}
theorem Bl.fail:Bl b c l (zdh:Re α):=fun _ _ _ h=>by cases h
theorem Bl.ok {a:α}:Bl b b l (okR a l):=fun _ _ _ h=>by cases h;exact .rfl
theorem Bl.pre {l1:Ts} {x:Re α} (h:(∀ t ∈ l,z58 t)->Bst b e l l1) (hx:Bl e c l1 x):Bl b c l x:=fun hT a l2 he=>by
 have h1:=h hT;obtain ⟨d,hd,_⟩:=id h1;exact h1.trans (hx (fun t ht=>hT t (by rw [hd];exact List.mem_append_right _ ht)) a l2 he)
theorem Bl.bnd {x:Re α} {k:α->Ts->Re β} (h:Bl b e l x) (hk:∀ a l1,x=some (some (a,l1))->Bl e c l1 (k a l1)):Bl b c l (bnd x k):=fun hT a l2 he=>by
 cases hx:x with
 | none=>rw [hx] at he;cases he
 | some o =>
  cases o with
  | none=>rw [hx] at he;cases he
  | some p =>
   obtain ⟨a1,l1⟩:=p;rw [hx] at he;exact Bl.pre (fun hT=>h hT a1 l1 hx) (hk a1 l1 hx) hT a l2 he
theorem Bl.nd {x:Re Rv} {k:PT->Ts->Re β} (h:Bl b e l x) (hk:∀ n l1,x=some (some (.nd n,l1))->Bl e c l1 (k n l1)):Bl b c l (ndR x k):=.bnd h fun v l1 h0=>by
 cases v with
 | nd n=>exact hk n l1 h0
 | nb n b=>exact fun _ _ _ e=>by cases e
 | ls n=>exact fun _ _ _ e=>by cases e
theorem Bl.nb {x:Re Rv} {k:PT->Bool->Ts->Re β} (h:Bl b e l x) (hk:∀ n q l1,x=some (some (.nb n q,l1))->Bl e c l1 (k n q l1)):Bl b c l (nbR x k):=.bnd h fun v l1 h0=>by
 cases v with
 | nb n q=>exact hk n q l1 h0
 | nd n=>exact fun _ _ _ e=>by cases e
 | ls n=>exact fun _ _ _ e=>by cases e
theorem Bl.ls {x:Re Rv} {k:List PT->Ts->Re β} (h:Bl b e l x) (hk:∀ n l1,x=some (some (.ls n,l1))->Bl e c l1 (k n l1)):Bl b c l (lsR x k):=.bnd h fun v l1 h0=>by
 cases v with
 | ls n=>exact hk n l1 h0
 | nb n b=>exact fun _ _ _ e=>by cases e
 | nd n=>exact fun _ _ _ e=>by cases e
theorem Bl.ite {p:Prop} [Decidable p] {x y:Re α} (h1:p->Bl b c l x) (h2:¬ p->Bl b c l y):Bl b c l (if p then x else y):=by
 split
 ·exact h1 (by assumption)
 ·exact h2 (by assumption)
theorem Bl.w0 {s:Bs} {x:Re α} (h:isT l 0 s=true) (hs:brk s=0) (hx:Bl b c (l.drop 1) x):Bl b c l x:=.pre (fun hT=>by
 obtain ⟨t,h1,h2⟩:=zr7 h hT
 have:=Bst.tok h1 b (by rw [h2,hs];intro e;cases e)
 rw [h2,hs] at this;exact this) hx
theorem Bl.n0 {s:Bs} {k:Ts->Re α} (hs:brk s=0) (hx:isT l 0 s=true->Bl b c (l.drop 1) (k (l.drop 1))):Bl b c l (zap s l k):=.ite (fun h=>.w0 h hs (hx h)) fun _=>.fail
theorem Bl.k0 {x:Re α} (h:kd l 0 ≠ 5\/brk (tx l 0)=0) (hx:Bl b c (l.drop 1) x):Bl b c l x:=.pre (fun hT=>by
 cases l with
 | nil=>exact .rfl
 | cons t l =>
  have h2:tkB t=0:=by
   unfold tkB
   rcases h with h|h
   ·exact if_neg h
   ·split
    ·exact h
    ·exact Eq.refl _
  have:=Bst.tok (l:=t :: l) (Eq.refl _) b (by rw [h2];intro e;cases e)
  rw [h2] at this;exact this) hx
theorem Bl.name {k:Bs->Ts->Re α} (hx:kd l 0=1->Bl b c (l.drop 1) (k (tx l 0) (l.drop 1))):Bl b c l (zb3 l k):=.ite (fun h=>.k0 (.inl (by rw [h];decide)) (hx h)) fun _=>.fail
end
def Sy.ob:Sy->Nat
 | .blockL _ _ _|.list2 _ _ _|.list2L _ _ _ _|.fields _ _|.fieldsL _ _ _=>1
 | _=>0
def Sy.eok:Sy->Prop
 | .list2 e _ _|.list2L e _ _ _=>brk e=2
 | .decl _ l=>brk (tx l 0)=0
 | _=>True
section
variable {m:Nat} (hB:∀ s:Sy,s.meas < m->s.eok->Bl s.ob 0 s.l (ev s))
include hB
end
/- Own work,plain: two scripts,one behind the other. -/
def Exc {α:Type} (z:Ts) (x x':Re α):Prop:=∀ a l1,x=some (some (a,l1))->x'=some (some (a,l1++z))
section
variable {α β:Type} {z l:Ts}
theorem Exc.fail {x':Re α}:Exc z zdh x':=fun _ _ h=>by cases h
theorem Exc.ok {a:α} {l1:Ts}:Exc z (okR a l1) (okR a (l1++z)):=fun _ _ e=>by cases e;rfl
theorem Exc.bnd {x x':Re α} {k k':α->Ts->Re β} (h:Exc z x x') (hk:∀ a l1,x=some (some (a,l1))->Exc z (k a l1) (k' a (l1++z))):Exc z (bnd x k) (bnd x' k'):=fun b l2 e=>by
 cases hx:x with
 | none=>rw [hx] at e;cases e
 | some o =>
  cases o with
  | none=>rw [hx] at e;cases e
  | some p =>
   obtain ⟨a,l1⟩:=p;rw [hx] at e;rw [h a l1 hx];exact hk a l1 hx b l2 e
theorem Exc.nd {x x':Re Rv} {k k':PT->Ts->Re β} (h:Exc z x x') (hk:∀ n l1,x=some (some (.nd n,l1))->Exc z (k n l1) (k' n (l1++z))):Exc z (ndR x k) (ndR x' k'):=.bnd h fun v l1 h0=>by
 cases v with
 | nd n=>exact hk n l1 h0
 | nb n b=>exact fun _ _ e=>by cases e
 | ls n=>exact fun _ _ e=>by cases e
theorem Exc.nb {x x':Re Rv} {k k':PT->Bool->Ts->Re β} (h:Exc z x x') (hk:∀ n b l1,x=some (some (.nb n b,l1))->Exc z (k n b l1) (k' n b (l1++z))):Exc z (nbR x k) (nbR x' k'):=.bnd h fun v l1 h0=>by
 cases v with
 | nb n b=>exact hk n b l1 h0
 | nd n=>exact fun _ _ e=>by cases e
 | ls n=>exact fun _ _ e=>by cases e
theorem Exc.ite {c:Prop} [Decidable c] {x y x' y':Re α} (h1:c->Exc z x x') (h2:¬ c->Exc z y y'):Exc z (if c then x else y) (if c then x' else y'):=by
 split
 ·exact h1 (by assumption)
 ·exact h2 (by assumption)
theorem Exc.need {s:Bs} {k k':Ts->Re α} (hk:isT l 0 s=true->Exc z (k (l.drop 1)) (k' (l.drop 1++z))):Exc z (zap s l k) (zap s (l++z) k'):=by
 unfold zap
 by_cases h:isT l 0 s=true
 ·have hp:=zag h;rw [if_pos h,if_pos (by rw [zbd hp];exact h),dp hp]
  exact hk h
 ·rw [if_neg h];exact .fail
theorem Exc.name {k k':Bs->Ts->Re α} (hk:kd l 0=1->Exc z (k (tx l 0) (l.drop 1)) (k' (tx l 0) (l.drop 1++z))):Exc z (zb3 l k) (zb3 (l++z) k'):=by
 unfold zb3
 by_cases h:kd l 0=1
 ·have hp:=zaw h (by decide)
  rw [if_pos h,if_pos (by rw [zlo hp];exact h),zuh hp,dp hp]
  exact hk h
 ·rw [if_neg h];exact .fail
theorem Exc.is {s:Bs} (hz:isT z 0 s=false) {x y x' y':Re α} (h1:isT l 0 s=true->Exc z x x') (h2:Exc z y y'):Exc z (if isT l 0 s then x else y) (if isT (l++z) 0 s then x' else y'):=by
 by_cases hl:l=[]
 ·subst hl;rw [za6,lNA,hz];exact h2
 ·rw [zbd (zbv hl)];exact .ite h1 fun _=>h2
end
structure NoGo (z:Ts):Prop where
 e:isT z 0 zuf=false
 c:isT z 0 znh=false
 f:isT z 0 zfj=false
def Sy.stm:Sy->Bool
 | .stmt _ _|.keyw _ _|.inner _ _|.body _ _|.loops _ _|.tryS _ _|.block _ _|.blockL _ _ _|.func _ _ _=>true
 | _=>false
section
variable {z:Ts} {m:Nat} (hC:∀ s:Sy,s.meas < m->s.stm=true->s.l ≠ []->Exc z (ev s) (ev (s.put (s.l++z))))
end
def cx0:Cx:=⟨false,false,false,false⟩
def zif:Nat->List PT->Ts->Option (List PT)
 | 0,_,_=>none
 | n + 1,acc,l=>if l=[] then some acc else match ev (.stmt cx0 l) with
  | some (some (.nd x,l1))=>zif n (acc++[x]) l1
  | _=>none
def zpn (l:Ts):Option (List PT):=zif (l.length + 1) [] l
/- Own work,plain: the nodes that the parser makes have few parts. -/
mutual
def zfz:PT->Prop
 | .mk _ _ _ _ ks=>ks.length<=2000000/\ze5 ks
def ze5:List PT->Prop
 | []=>True
 | k :: ks=>zfz k/\ze5 ks
end
theorem zeh:∀ {a b:List PT},ze5 a->ze5 b->ze5 (a++b)
 | [],_,_,h=>h
 | x :: a,b,h,h'=>by
  rw [ze5] at h;rw [lCA,ze5];exact ⟨h.1,zeh h.2 h'⟩
theorem zpt {x:PT} (h:zfz x):ze5 [x]:=by rw [ze5,ze5];exact ⟨h,trivial⟩
theorem zf1 {k i o:Int} {nm:Bs} {ks:List PT} (h:ks.length<=2000000) (h':ze5 ks):zfz (.mk k nm i o ks):=by rw [zfz];exact ⟨h,h'⟩
theorem znc {k i o:Int} {nm:Bs}:zfz (.mk k nm i o []):=zf1 (Nat.zero_le _) (by rw [ze5];trivial)
theorem zf2 {k i o:Int} {nm:Bs} {x:PT} (h:zfz x):zfz (.mk k nm i o [x]):=zf1 (show 1<=2000000 by decide) (zpt h)
theorem zrf {k i o:Int} {nm:Bs} {x y:PT} (h:zfz x) (h2:zfz y):zfz (.mk k nm i o [x,y]):=zf1 (show 2<=2000000 by decide) (by rw [ze5];exact ⟨h,zpt h2⟩)
theorem z6e {k i o:Int} {nm:Bs} {x y z:PT} (h:zfz x) (h2:zfz y) (h3:zfz z):zfz (.mk k nm i o [x,y,z]):=zf1 (show 3<=2000000 by decide) (by rw [ze5,ze5];exact ⟨h,h2,zpt h3⟩)
theorem z6d {k i o:Int} {nm:Bs} {x y z v:PT} (h:zfz x) (h2:zfz y) (h3:zfz z) (h4:zfz v):zfz (.mk k nm i o [x,y,z,v]):=zf1 (show 4<=2000000 by decide) (by rw [ze5,ze5,ze5];exact ⟨h,h2,h3,zpt h4⟩)
theorem zwb {k i o:Int} {nm:Bs} {ks:List PT} {x:PT} (h:ze5 ks) (hl:ks.length<=1000000) (h2:zfz x):zfz (.mk k nm i o (ks++[x])):=zf1 (by rw [lLA];show ks.length + 1<=2000000;omega) (zeh h (zpt h2))
def Rv.wd:Rv->Prop
 | .nd n=>zfz n
 | .nb n _=>zfz n
 | .ls ks=>ze5 ks/\ks.length<=1000000
def Sy.wpre (s:Sy):Prop:=s.l.length<=1000000/\match s with
 | .declL _ acc _ l|.blockL acc _ l|.list2L _ acc _ l|.fieldsL acc _ l=>ze5 acc/\acc.length + l.length<=1000000
 | .opndL _ n _ _|.link n _ _|.chainN n _ _|.chainL n _ _=>zfz n
 | _=>True
def Wd {α:Type} (P:α->Ts->Prop) (x:Re α):Prop:=∀ a l,x=some (some (a,l))->P a l
section
variable {α β:Type} {P:α->Ts->Prop} {l:Ts}
theorem Wd.fail:Wd P zdh:=fun _ _ h=>by cases h
theorem Wd.ok {a:α} (h:P a l):Wd P (okR a l):=fun _ _ e=>by cases e;exact h
theorem Wd.bnd {Q:β->Ts->Prop} {x:Re β} {k:β->Ts->Re α} (h:Wd Q x) (hk:∀ b l1,Q b l1->Wd P (k b l1)):Wd P (bnd x k):=fun a l2 he=>by
 cases hx:x with
 | none=>rw [hx] at he;cases he
 | some o =>
  cases o with
  | none=>rw [hx] at he;cases he
  | some p =>
   rw [hx] at he;exact hk p.1 p.2 (h _ _ hx) a l2 he
theorem Wd.ite {c:Prop} [Decidable c] {x y:Re α} (h1:c->Wd P x) (h2:¬ c->Wd P y):Wd P (if c then x else y):=by
 split
 ·exact h1 (by assumption)
 ·exact h2 (by assumption)
theorem Wd.need {s:Bs} {k:Ts->Re α} (h:isT l 0 s=true->Wd P (k (l.drop 1))):Wd P (zap s l k):=.ite h fun _=>.fail
theorem Wd.name {k:Bs->Ts->Re α} (h:kd l 0=1->Wd P (k (tx l 0) (l.drop 1))):Wd P (zb3 l k):=.ite h fun _=>.fail
end
abbrev WdV (x:Re Rv):Prop:=Wd (fun v _=>v.wd) x
theorem okN {n:PT} {l:Ts} (h:zfz n):WdV (okR (.nd n) l):=Wd.ok (P:=fun (v:Rv) _=>v.wd) h
theorem okB {n:PT} {b:Bool} {l:Ts} (h:zfz n):WdV (okR (.nb n b) l):=Wd.ok (P:=fun (v:Rv) _=>v.wd) h
theorem okL {n:List PT} {l:Ts} (h:ze5 n/\n.length<=1000000):WdV (okR (.ls n) l):=Wd.ok (P:=fun (v:Rv) _=>v.wd) h
theorem zsx:∀ (n:Nat) (acc:List PT) (l:Ts),ze5 acc->acc.length + l.length<=1000000->Wd (fun ps l'=>ze5 ps/\ps.length + l'.length<=1000000) (zcw n acc l)
 | 0,_,_,_,_=>fun _ _ e=>by cases e
 | n + 1,acc,l,h,hl=>by
  rw [zcw];have h7:∀ s:Bs,ze5 (acc++[ndN 7 s []]):=fun s=>zeh h (zpt znc)
  refine .name fun hk=>?_
  have hp:=zaw hk (by decide)
  refine .ite (fun h1=>.ite (fun _=>.ok ⟨h7 _,?_⟩) fun _=>.fail) fun _=>.need fun h1=>zsx n _ _ (h7 _) ?_
  ·simp only [lLA,lLD,lLS];omega
  ·simp only [lLA,lLD,lLS];omega
theorem zwe {l:Ts} (hl:l.length<=1000000):Wd (fun ps l'=>ze5 ps/\ps.length + l'.length<=1000000) (zay l):=by
 unfold zay;refine .need fun h=>.ite (fun _=>.ok ⟨by rw [ze5];trivial,?_⟩) fun _=>zsx _ _ _ (by rw [ze5];trivial) ?_
 ·simp only [List.length_nil,lLD];omega
 ·simp only [List.length_nil,lLD];omega
section
variable {m:Nat} (hW:∀ s:Sy,s.meas < m->s.wpre->WdV (ev s))
include hW
theorem wN (s':Sy) (h:s'.meas < m) (hp:s'.wpre) {k:PT->Ts->Re Rv} (hk:∀ n l1,zfz n->Leq s'.l l1->WdV (k n l1)):WdV (ndR (ev s') k):=by
 refine .bnd (Q:=fun v l1=>v.wd/\Leq s'.l l1) (fun v l e=>⟨hW s' h hp v l e,(zcc e).2.1⟩) fun v l1 ⟨h1,h2⟩=>?_
 cases v with
 | nd n=>exact hk n l1 h1 h2
 | nb n b=>exact fun _ _ e=>by cases e
 | ls n=>exact fun _ _ e=>by cases e
theorem wE {s:Sy} (hs:s.meas<=m) (s':Sy) (h:Leq s.l s'.l) (hr:s'.rank < s.rank) (hx:s'.lax=false) (hp:s'.wpre) {k:PT->Ts->Re Rv} (hk:∀ n l1,zfz n->Les s.l l1->WdV (k n l1)):WdV (ndR (ev s') k):=by
 refine .bnd (Q:=fun v l1=>v.wd/\s'.post v l1) (fun v l e=>⟨hW s' (zak hs h hr) hp v l e,zcc e⟩) fun v l1 ⟨h1,h2⟩=>?_
 cases v with
 | nd n=>exact hk n l1 h1 (h.trans' (h2.2.2 hx rfl))
 | nb n b=>exact fun _ _ e=>by cases e
 | ls n=>exact fun _ _ e=>by cases e
theorem wL (s':Sy) (h:s'.meas < m) (hp:s'.wpre) {k:List PT->Ts->Re Rv} (hk:∀ n l1,ze5 n->n.length<=1000000->Leq s'.l l1->WdV (k n l1)):WdV (lsR (ev s') k):=by
 refine .bnd (Q:=fun v l1=>v.wd/\Leq s'.l l1) (fun v l e=>⟨hW s' h hp v l e,(zcc e).2.1⟩) fun v l1 ⟨h1,h2⟩=>?_
 cases v with
 | ls n=>exact hk n l1 h1.1 h1.2 h2
 | nb n b=>exact fun _ _ e=>by cases e
 | nd n=>exact fun _ _ e=>by cases e
theorem wB {s:Sy} (hs:s.meas<=m) (s':Sy) (h:Leq s.l s'.l) (hr:s'.rank < s.rank) (hx:s'.lax=false) (hp:s'.wpre) {k:PT->Bool->Ts->Re Rv} (hk:∀ n b l1,zfz n->PB s.l b l1->WdV (k n b l1)):WdV (nbR (ev s') k):=by
 refine .bnd (Q:=fun v l1=>v.wd/\s'.post v l1) (fun v l e=>⟨hW s' (zak hs h hr) hp v l e,zcc e⟩) fun v l1 ⟨h1,h2⟩=>?_
 cases v with
 | nb n b=>exact hk n b l1 h1 ⟨h.trans h2.2.1,fun hb=>h.trans' (h2.2.2 hx hb)⟩
 | nd n=>exact fun _ _ e=>by cases e
 | ls n=>exact fun _ _ e=>by cases e
theorem z18 (c:Cx) (l:Ts) (h:(Sy.assign c l).meas < m) (hl:l.length<=1000000):WdV (zgo ev c l):=wN hW (.assign c l) h ⟨hl,trivial⟩ fun n l1 hn _=>.need fun _=>okN (zf2 hn)
theorem z6f (s:Sy) (hs:s.meas<=m) (hp:s.wpre):WdV (zm5 ev s):=by
 have hl:=hp.1;have ml:∀ {l:Ts},Les s.l l->∀ (s':Sy),Leq l s'.l->s'.meas < m:=fun h s' h'=>mL hs h s' h'
 have ln:∀ {l:Ts},Leq s.l l->l.length<=1000000:=fun h=>Nat.le_trans h.len hl
 have fe:∀ (c:Cx) (a:PT) (l:Ts),zfz a->Les s.l l->WdV (zbl ev c a l):=fun c a l ha h=>by
  unfold zbl;have third:∀ (b:PT) (l2:Ts),zfz b->Les s.l l2->WdV (zap zbo l2 fun l3 =>
   if isT l3 0 zan then ndR (ev (.body c (l3.drop 1))) fun s l5=>okR (Rv.nd (nd 30 [a,b,nd 37 [],s])) l5
   else ndR (ev (.assign c l3)) fun d l4=>zap zan l4 fun l5=>ndR (ev (.body c l5)) fun s l6=>okR (Rv.nd (nd 30 [a,b,d,s])) l6):=fun b l2 hb h2 =>
   .need fun _=>.ite (fun _=>wN hW (.body c _) (ml h2 _ (Leq.trans sd sd)) ⟨ln (h2.leq.trans (Leq.trans sd sd)),trivial⟩ fun x _ hx _=>okN (z6d ha hb znc hx)) fun _=>wN hW (.assign c _) (ml h2 _ sd) ⟨ln (h2.leq.trans sd),trivial⟩ fun d l4 hd h4=>.need fun _=>wN hW (.body c _) (ml h2 _ (Leq.trans (Leq.trans sd h4) sd)) ⟨ln (h2.leq.trans (Leq.trans (Leq.trans sd h4) sd)),trivial⟩ fun x _ hx _=>okN (z6d ha hb hd hx)
  exact .need fun _=>.ite (fun _=>third _ _ znc (h.trans sd)) fun _=>wN hW (.assign c _) (ml h _ sd) ⟨ln (h.leq.trans sd),trivial⟩ fun b l2 hb h2=>third b l2 hb (h.trans (Leq.trans sd h2))
 have te:∀ (c:Cx) (ks:List PT) (l:Ts),ze5 ks->ks.length<=2->Les s.l l->WdV (zcz ev c ks l):=fun c ks l hk h2 h=>by
  unfold zcz;exact .ite (fun _=>wN hW (.block c _) (ml h _ sd) ⟨ln (h.leq.trans sd),trivial⟩ fun x _ hx _=>okN (zwb hk (by omega) hx)) fun _=>.ite (fun _=>.fail) fun _=>okN (zf1 (by omega) hk)
 cases s with
 | stmt c l =>
  show WdV (ze0 ev c l);unfold ze0;exact .ite (fun _=>wN hW (.decl c l) (zak hs .rfl (oT rfl)) ⟨hl,trivial⟩ fun n l1 hn _=>.need fun _=>okN hn) fun _=>.ite (fun _=>hW (.func true c l) (zak hs .rfl (oT rfl)) ⟨hl,trivial⟩) fun _=>.ite (fun _=>hW (.block c l) (zak hs .rfl (oT rfl)) ⟨hl,trivial⟩) fun _=>.ite (fun _=>okN znc) fun _ =>
   .ite (fun _=>wB hW hs (.keyw c l) .rfl (oT rfl) rfl ⟨hl,trivial⟩ fun n b l1 hn h1=>.ite (fun _=>okN hn) fun _=>z18 hW c l1 (zak hs h1.1 (oT rfl)) (ln h1.1)) fun _=>z18 hW c l (zak hs .rfl (oT rfl)) hl
 | keyw c l =>
  show WdV (zf9 ev c l);unfold zf9;refine .ite (fun h=>?_) fun _=>.ite (fun h=>?_) fun _=>.ite (fun h=>?_) fun _=>.ite (fun h=>?_) fun _=>.ite (fun h=>?_) fun _=>.ite (fun h=>?_) fun _=>.ite (fun h=>?_) fun _=>okB znc
  ·exact wN hW (.condn c _) (zab hs (d1 h) (zai _)) ⟨ln sd,trivial⟩ fun e l1 he h1=>wN hW (.inner c l1) (mL hs (d1 h) _ h1) ⟨ln (Leq.trans sd h1),trivial⟩ fun a l2 ha h2=>.ite (fun h3=>wN hW (.inner c _) (mL hs (d1 h) _ ((sO h1 h2).trans sd)) ⟨ln (Leq.trans sd ((sO h1 h2).trans sd)),trivial⟩ fun x _ hx _=>okB (z6e he ha hx)) fun _=>okB (zrf he ha)
  ·exact wN hW (.condn c _) (zab hs (d1 h) (zai _)) ⟨ln sd,trivial⟩ fun e l1 he h1=>wN hW (.body c l1) (mL hs (d1 h) _ h1) ⟨ln (Leq.trans sd h1),trivial⟩ fun a l2 ha h2=>okB (zrf he ha)
  ·exact wN hW (.loops c _) (zab hs (d1 h) (zai _)) ⟨ln sd,trivial⟩ fun e l1 he h1=>okB he
  ·exact .ite (fun _=>.ite (fun _=>okB znc) fun _=>wN hW (.assign c _) (zab hs (d1 h) (zai _)) ⟨ln sd,trivial⟩ fun n l1 hn _=>.need fun _=>okB (zf2 hn)) fun _=>.fail
  ·exact .ite (fun _=>.need fun _=>okB znc) fun _=>.fail
  ·exact wN hW (.assign c _) (zab hs (d1 h) (zai _)) ⟨ln sd,trivial⟩ fun n l1 hn _=>.need fun _=>okB (zf2 hn)
  ·exact wN hW (.tryS c _) (zab hs (d1 h) (zai _)) ⟨ln sd,trivial⟩ fun e l1 he h1=>okB he
 | condn c l =>
  show WdV (zfa ev c l);unfold zfa;exact .need fun h=>wN hW (.assign c _) (zab hs (d1 h) (zai _)) ⟨ln sd,trivial⟩ fun n l1 hn _=>.need fun _=>okN hn
 | inner c l =>
  show WdV (zd2 ev c l);unfold zd2;exact .ite (fun _=>.fail) fun _=>hW (.stmt c l) (zak hs .rfl (oT rfl)) ⟨hl,trivial⟩
 | body c l=>exact hW (.inner { c with lp:=true } l) (zak hs .rfl (oT rfl)) ⟨hl,trivial⟩
 | loops c l =>
  show WdV (zd1 ev c l);unfold zd1;refine .need fun h=>?_
  have h0:=d1 h;generalize l.drop 1=l0 at h0 ⊢;exact .ite (fun _=>wN hW (.assign c _) (mL hs h0 _ sd) ⟨ln (h0.leq.trans sd),trivial⟩ fun e l1 he h1=>.need fun _=>wN hW (.body c _) (mL hs h0 _ (Leq.trans (Leq.trans sd h1) sd)) ⟨ln (h0.leq.trans (Leq.trans (Leq.trans sd h1) sd)),trivial⟩ fun x _ hx _=>okN (zrf he hx)) fun _ =>
   .ite (fun _=>wN hW (.decl c l0) (mL hs h0 _ .rfl) ⟨ln h0.leq,trivial⟩ fun n l1 hn h1=>fe _ _ _ hn (h0.trans h1)) fun _=>.ite (fun _=>fe _ _ _ znc h0) fun _=>wN hW (.assign c l0) (mL hs h0 _ .rfl) ⟨ln h0.leq,trivial⟩ fun n l1 hn h1=>fe _ _ _ (zf2 hn) (h0.trans h1)
 | tryS c l =>
  show WdV (zpo ev c l);unfold zpo;exact wE hW hs (.block c l) .rfl (oT rfl) rfl ⟨hl,trivial⟩ fun a l1 ha h1=>.ite (fun _=>.ite (fun _=>.name fun _=>.need fun _=>wN hW (.block c _) (mL hs h1 _ (Leq.trans (Leq.trans sd sd) sd)) ⟨ln (h1.leq.trans (Leq.trans (Leq.trans sd sd) sd)),trivial⟩ fun b l4 hb h4=>te _ _ _ (by rw [ze5];exact ⟨ha,zpt (zf2 hb)⟩) (nR 2) (h1.trans (Leq.trans (Leq.trans (Leq.trans sd sd) sd) h4))) fun _=>wN hW (.block c _) (mL hs h1 _ sd) ⟨ln (h1.leq.trans sd),trivial⟩ fun b l2 hb h4=>te _ _ _ (by rw [ze5];exact ⟨ha,zpt (zf2 hb)⟩) (nR 2) (h1.trans (Leq.trans sd h4))) fun _=>te _ _ _ (zpt ha) (show 1<=2 by decide) h1
 | decl c l=>exact hW (.declL (if isT l 0 zax then 25 else 24) [] c (l.drop 1)) (zak hs sd (oT rfl)) ⟨ln sd,by rw [ze5];trivial,by show 0 + (l.drop 1).length<=1000000;have:=ln (l:=l.drop 1) sd;omega⟩
 | declL k acc c l =>
  show WdV (ze9 ev k acc c l);unfold ze9;obtain ⟨_,h2,h3⟩:=hp;change acc.length + l.length<=1000000 at h3;refine .name fun hk=>?_
  have h0:Les l (l.drop 1):=zav (zaw hk (by decide)) 1 (nR 1) (nR 1)
  have next:∀ (d:PT) (l2:Ts),zfz d->Les l l2->WdV (if isT l2 0 zcv then ev (.declL k (acc++[d]) c (l2.drop 1)) else okR (Rv.nd (nd k (acc++[d]))) l2):=fun d l2 hd h4 =>
   .ite (fun h5=>hW (.declL k _ c _) (mL hs h4 _ sd) ⟨ln (h4.leq.trans sd),zeh h2 (zpt hd),by have:=h4.2;simp only [lLA,lLD,lLS];omega⟩) fun _=>okN (zwb h2 (by omega) hd)
  exact .ite (fun h1=>wN hW (.assign c _) (mL hs h0 _ sd) ⟨ln (h0.leq.trans sd),trivial⟩ fun e l2 he h4=>next _ _ (zf2 he) (h0.trans (Leq.trans sd h4))) fun _=>.ite (fun _=>.fail) fun _=>next _ _ znc h0
 | block c l =>
  show WdV (zd3 ev c l);unfold zd3;exact .need fun h=>hW (.blockL [] c _) (zab hs (d1 h) (zai _)) ⟨ln sd,by rw [ze5];trivial,by show 0 + (l.drop 1).length<=1000000;have:=ln (l:=l.drop 1) sd;omega⟩
 | blockL acc c l =>
  show WdV (zcb ev acc c l);unfold zcb;obtain ⟨_,h2,h3⟩:=hp;change acc.length + l.length<=1000000 at h3;exact .ite (fun _=>okN (zf1 (by omega) h2)) fun _=>.ite (fun _=>.fail) fun _=>wE hW hs (.stmt c l) .rfl (oT rfl) rfl ⟨hl,trivial⟩ fun n l1 hn h1=>hW (.blockL _ c l1) (zab hs h1 (zai _)) ⟨ln h1.leq,zeh h2 (zpt hn),by have:l1.length < l.length:=h1.2;show (acc++[n]).length + l1.length<=1000000;simp only [lLA,lLS];omega⟩
 | func d c l =>
  show WdV (ze1 ev d c l);have f3:∀ (o:Int) (nm:Bs) (l3:Ts),Les l l3->WdV (bnd (zay l3) fun ps l4=>ndR (ev (.block (zaj o) l4)) fun b l5=>okR (Rv.nd (.mk 11 nm 0 o (ps++[b]))) l5):=fun o nm l3 h3 =>
   .bnd (Q:=fun ps l'=>(ze5 ps/\ps.length + l'.length<=1000000)/\Leq l3 l') (fun ps l' e=>⟨zwe (ln h3.leq) ps l' e,by
    obtain ⟨o',ho,hP⟩:=zcu l3;rw [e] at ho
    cases ho
    exact (hP _ _ rfl).1⟩) fun ps l4 ⟨h4,h5⟩=>wN hW (.block _ l4) (mL hs h3 _ h5) ⟨ln (h3.leq.trans h5),trivial⟩ fun b _ hb _=>okN (zwb h4.1 (by omega) hb)
  have f2:∀ (o:Int) (l2:Ts),Les l l2->WdV (if d || decide (kd l2 0=1) then zb3 l2 fun nm l3=>bnd (zay l3) fun ps l4=>ndR (ev (.block (zaj o) l4)) fun b l5=>okR (Rv.nd (.mk 11 nm 0 o (ps++[b]))) l5 else bnd (zay l2) fun ps l4=>ndR (ev (.block (zaj o) l4)) fun b l5=>okR (Rv.nd (.mk 11 [] 0 o (ps++[b]))) l5):=fun o l2 h2 =>
   .ite (fun _=>.name fun _=>f3 _ _ _ (h2.trans sd)) fun _=>f3 _ _ _ h2
  unfold ze1;refine .need fun hf=>?_
  have h1:Les l ((if isT l 0 zat=true then l.drop 1 else l).drop 1):=by
   have:Leq l (if isT l 0 zat=true then l.drop 1 else l):=by split <;> first|exact sd|exact .rfl
   exact this.trans' (d1 hf)
  generalize (if isT l 0 zat=true then l.drop 1 else l).drop 1=l1 at h1 ⊢
  refine f2 _ _ (h1.trans ?_);generalize (decide ((if isT l 0 zat=true then (4:Int) else 1)=1) && isT l1 0 zb0)=q
  cases q with
  | true=>exact sd
  | false=>exact .rfl
 | arrow c l =>
  show WdV (zdn ev c l);have f2:∀ (o:Int) (ps:List PT) (l1:Ts),ze5 ps->ps.length<=1000000->Les l l1->WdV (zap zf3 l1 fun l2 =>
   if isT l2 0 zg3 then ndR (ev (.block (zaj o) l2)) fun b l3=>okR (Rv.nd (ndO 11 o (ps++[b]))) l3
   else ndR (ev (.assign (zaj o) l2)) fun n l3=>okR (Rv.nd (ndO 11 o (ps++[nd 27 [nd 32 [n]]]))) l3):=fun o ps l1 h4 h5 h1 =>
   .need fun _=>.ite (fun _=>wN hW (.block _ _) (mL hs h1 _ sd) ⟨ln (h1.leq.trans sd),trivial⟩ fun b _ hb _=>okN (zwb h4 h5 hb)) fun _=>wN hW (.assign _ _) (mL hs h1 _ sd) ⟨ln (h1.leq.trans sd),trivial⟩ fun b _ hb _=>okN (zwb h4 h5 (zf2 (zf2 hb)))
  unfold zdn;have h0:Leq l (if isT l 0 zat=true then l.drop 1 else l):=by split <;> first|exact sd|exact .rfl
  generalize (if isT l 0 zat=true then l.drop 1 else l)=l0 at h0 ⊢
  exact .ite (fun _=>.bnd (Q:=fun ps l'=>(ze5 ps/\ps.length + l'.length<=1000000)/\Les l0 l') (fun ps l' e=>⟨zwe (ln h0) ps l' e,by
    obtain ⟨o',ho,hP⟩:=zcu l0;rw [e] at ho
    cases ho
    exact hP _ _ rfl⟩) fun ps l1 ⟨h4,h5⟩=>f2 _ _ _ h4.1 (by omega) (h0.trans' h5)) fun _=>.name fun hk=>f2 _ _ _ (zpt znc) (show 1<=1000000 by decide) (h0.trans' (zav (zaw hk (by decide)) 1 (nR 1) (nR 1)))
 | assign c l =>
  show WdV (zb7 ev c l);unfold zb7;refine .ite (fun _=>hW (.arrow c l) (zak hs .rfl (oT rfl)) ⟨hl,trivial⟩) fun _=>.ite (fun h=>.ite (fun _=>wN hW (.assign c _) (zab hs (d1 h) (zai _)) ⟨ln sd,trivial⟩ fun n _ hn _=>okN (zf2 hn)) fun _=>.fail) fun _=>?_
  exact wE hW hs (.cond c l) .rfl (oT rfl) rfl ⟨hl,trivial⟩ fun n l1 hn h1=>.ite (fun _=>.ite (fun _=>okN hn) fun _=>.ite (fun _=>wN hW (.assign c _) (mL hs h1 _ sd) ⟨ln (h1.leq.trans sd),trivial⟩ fun x _ hx _=>okN (zrf hn hx)) fun _=>.fail) fun _=>okN hn
 | cond c l =>
  show WdV (zhe ev c l);unfold zhe;exact wE hW hs (.opnd 0 c l) .rfl (oT rfl) rfl ⟨hl,trivial⟩ fun n l1 hn h1=>.ite (fun h=>wN hW (.assign c _) (mL hs h1 _ sd) ⟨ln (h1.leq.trans sd),trivial⟩ fun a l2 ha h2=>.need fun _=>wN hW (.assign c _) (mL hs h1 _ (Leq.trans (Leq.trans sd h2) sd)) ⟨ln (h1.leq.trans (Leq.trans (Leq.trans sd h2) sd)),trivial⟩ fun b _ hb _=>okN (z6e hn ha hb)) fun _=>okN hn
 | opnd k c l =>
  show WdV (zev ev k c l);unfold zev;have r1:(Sy.unary c l).rank < (Sy.opnd k c l).rank:=by
   show 12 < if k<=6 then 26 - 2 * k else 14
   split <;> omega
  refine .ite (fun _=>hW (.unary c l) (zak hs .rfl r1) ⟨hl,trivial⟩) fun h=>wE hW hs (.opnd (k + 1) c l) .rfl ?_ rfl ⟨hl,trivial⟩ fun n l1 hn h1=>hW (.opndL k n c l1) (zab hs h1 (zai _)) ⟨ln h1.leq,hn⟩
  show (if k + 1<=6 then 26 - 2 * (k + 1) else 14) < if k<=6 then 26 - 2 * k else 14
  rw [if_pos (by omega),if_pos (by omega)]
  omega
 | opndL k n c l =>
  show WdV (zem ev k n c l);unfold zem;have hn:zfz n:=hp.2;refine .ite (fun h=>.ite (fun _=>okN hn) fun hf=>?_) fun _=>okN hn
  have hp:0 < l.length:=by
   cases l with
   | nil=>exact absurd h (by decide)
   | cons x l=>exact Nat.succ_pos _
  have h0:Les l (l.drop 1):=zav hp 1 (nR 1) (nR 1);exact wN hW (.opnd (k + 1) c _) (zab hs h0 (zai _)) ⟨ln sd,trivial⟩ fun x l1 hx h1=>hW (.opndL k _ c l1) (mL hs h0 _ h1) ⟨ln (Leq.trans sd h1),zrf hn hx⟩
 | unary c l =>
  show WdV (zdk ev c l);unfold zdk;refine .ite (fun h=>?_) fun _=>hW (.postf c l) (zak hs .rfl (oT rfl)) ⟨hl,trivial⟩
  have hp:0 < l.length:=by
   cases l with
   | nil=>exact absurd h (by decide)
   | cons x l=>exact Nat.succ_pos _
  have hm:=zab (s':=.unary c (l.drop 1)) hs (zav hp 1 (nR 1) (nR 1)) (zai _);exact .ite (fun _=>.ite (fun _=>wN hW (.unary c _) hm ⟨ln sd,trivial⟩ fun x _ hx _=>okN (zf2 hx)) fun _=>.fail) fun _=>.ite (fun _=>wN hW (.unary c _) hm ⟨ln sd,trivial⟩ fun x _ hx _=>.ite (fun _=>okN (zf2 hx)) fun _=>.fail) fun _=>.ite (fun _=>hW (.postf c l) (zak hs .rfl (oT rfl)) ⟨hl,trivial⟩) fun _=>wN hW (.unary c _) hm ⟨ln sd,trivial⟩ fun x _ hx _=>.ite (fun _=>.fail) fun _=>okN (zf2 hx)
 | postf c l =>
  show WdV (zel ev c l);unfold zel;exact wE hW hs (.chain c l) .rfl (oT rfl) rfl ⟨hl,trivial⟩ fun n l1 hn h1=>.ite (fun _=>.ite (fun _=>okN hn) fun _=>.ite (fun _=>okN (zf2 hn)) fun _=>.fail) fun _=>okN hn
 | link n c l =>
  show WdV (zhd ev n c l);unfold zhd;have hn:zfz n:=hp.2;exact .ite (fun _=>.ite (fun _=>okB (zf2 hn)) fun _=>.fail) fun _=>.ite (fun h=>wN hW (.assign c _) (zab hs (d1 h) (zai _)) ⟨ln sd,trivial⟩ fun x _ hx _=>.need fun _=>okB (zrf hn hx)) fun _=>okB hn
 | chain c l =>
  show WdV (zdm ev c l);unfold zdm;exact .ite (fun h=>wN hW (.prim c _) (zab hs (d1 h) (zai _)) ⟨ln sd,trivial⟩ fun n l1 hn h1=>hW (.chainN n c l1) (mL hs (d1 h) _ h1) ⟨ln (Leq.trans sd h1),hn⟩) fun _=>wE hW hs (.prim c l) .rfl (oT rfl) rfl ⟨hl,trivial⟩ fun n l1 hn h1=>hW (.chainL n c l1) (zab hs h1 (zai _)) ⟨ln h1.leq,hn⟩
 | chainN n c l =>
  show WdV (zc8 ev n c l);unfold zc8;have hn:zfz n:=hp.2;exact wB hW hs (.link n c l) .rfl (oT rfl) rfl ⟨hl,hn⟩ fun x b l1 hx h1=>.ite (fun hb=>hW (.chainN x c l1) (zab hs (h1.2 hb) (zai _)) ⟨ln h1.1,hx⟩) fun _=>.need fun h=>wL hW (.list2 zan c _) (zab hs (h1.1.trans' (d1 h)) (zai _)) ⟨ln (h1.1.trans sd),trivial⟩ fun qs l2 hq hq2 h2=>hW (.chainL _ c l2) (mL hs (h1.1.trans' (d1 h)) _ h2) ⟨ln (h1.1.trans (Leq.trans sd h2)),zf1 (by rw [lLC];omega) (by rw [ze5];exact ⟨hx,hq⟩)⟩
 | chainL n c l =>
  show WdV (zcq ev n c l);unfold zcq;have hn:zfz n:=hp.2;exact wB hW hs (.link n c l) .rfl (oT rfl) rfl ⟨hl,hn⟩ fun x b l1 hx h1=>.ite (fun hb=>hW (.chainL x c l1) (zab hs (h1.2 hb) (zai _)) ⟨ln h1.1,hx⟩) fun _=>.ite (fun h=>wL hW (.list2 zan c _) (zab hs (h1.1.trans' (d1 h)) (zai _)) ⟨ln (h1.1.trans sd),trivial⟩ fun qs l2 hq hq2 h2=>hW (.chainL _ c l2) (mL hs (h1.1.trans' (d1 h)) _ h2) ⟨ln (h1.1.trans (Leq.trans sd h2)),zf1 (by rw [lLC];omega) (by rw [ze5];exact ⟨hn,hq⟩)⟩) fun _=>okN hn
 | list2 e c l =>
  show WdV (zen ev e c l);unfold zen;exact .ite (fun _=>okL ⟨by rw [ze5];trivial,Nat.zero_le _⟩) fun _=>hW (.list2L e [] c l) (zak hs .rfl (oT rfl)) ⟨hl,by rw [ze5];trivial,by show 0 + l.length<=1000000;have:l.length<=1000000:=hl;omega⟩
 | list2L e acc c l =>
  show WdV (zcp ev e acc c l);unfold zcp;obtain ⟨_,h2,h3⟩:=hp;change acc.length + l.length<=1000000 at h3;exact wE hW hs (.assign c l) .rfl (oT rfl) rfl ⟨hl,trivial⟩ fun n l1 hn h1=>by
   have h4:l1.length < l.length:=h1.2;exact .ite (fun _=>okL ⟨zeh h2 (zpt hn),by simp only [lLA,lLS];omega⟩) fun _=>.need fun _=>hW (.list2L e _ c _) (mL hs h1 _ sd) ⟨ln (h1.leq.trans sd),zeh h2 (zpt hn),by show (acc++[n]).length + (l1.drop 1).length<=1000000;simp only [lLA,lLS,lLD];omega⟩
 | prim c l =>
  show WdV (zdl ev c l);unfold zdl;exact .ite (fun _=>okN znc) fun _=>.ite (fun _=>okN znc) fun _=>.ite (fun _=>okN znc) fun _=>.ite (fun _=>okN znc) fun _=>.ite (fun _=>okN znc) fun _=>.ite (fun _=>okN znc) fun _=>.ite (fun _=>okN znc) fun _=>.ite (fun _=>okN znc) fun _ =>
   .ite (fun h=>wN hW (.assign c _) (zab hs (d1 h) (zai _)) ⟨ln sd,trivial⟩ fun x _ hx _=>.need fun _=>okN hx) fun _=>.ite (fun h=>wL hW (.list2 zpm c _) (zab hs (d1 h) (zai _)) ⟨ln sd,trivial⟩ fun q _ hq hq2 _=>okN (zf1 (by omega) hq)) fun _=>.ite (fun h=>wL hW (.fields c _) (zab hs (d1 h) (zai _)) ⟨ln sd,trivial⟩ fun q _ hq hq2 _=>okN (zf1 (by omega) hq)) fun _=>.ite (fun _=>hW (.func false c l) (zak hs .rfl (oT rfl)) ⟨hl,trivial⟩) fun _=>.fail
 | fields c l =>
  show WdV (zc7 ev c l);unfold zc7;exact .ite (fun _=>okL ⟨by rw [ze5];trivial,Nat.zero_le _⟩) fun _=>hW (.fieldsL [] c l) (zak hs .rfl (oT rfl)) ⟨hl,by rw [ze5];trivial,by show 0 + l.length<=1000000;have:l.length<=1000000:=hl;omega⟩
 | fieldsL acc c l =>
  show WdV (zci ev acc c l);unfold zci;obtain ⟨_,h2,h3⟩:=hp;change acc.length + l.length<=1000000 at h3;exact wE hW hs (.field c l) .rfl (oT rfl) rfl ⟨hl,trivial⟩ fun n l1 hn h1=>by
   have h4:l1.length < l.length:=h1.2;exact .ite (fun _=>okL ⟨zeh h2 (zpt hn),by simp only [lLA,lLS];omega⟩) fun _=>.need fun _=>hW (.fieldsL _ c _) (mL hs h1 _ sd) ⟨ln (h1.leq.trans sd),zeh h2 (zpt hn),by show (acc++[n]).length + (l1.drop 1).length<=1000000;simp only [lLA,lLS,lLD];omega⟩
 | field c l =>
  show WdV (ze8 ev c l);unfold ze8;exact .ite (fun h=>wN hW (.assign c _) (zab hs (d1 h) (zai _)) ⟨ln sd,trivial⟩ fun k l1 hk h1=>.need fun _=>.need fun _=>wN hW (.assign c _) (mL hs (d1 h) _ (Leq.trans (Leq.trans h1 sd) sd)) ⟨ln (Leq.trans sd (Leq.trans (Leq.trans h1 sd) sd)),trivial⟩ fun x _ hx _=>okN (zrf hk hx)) fun _=>.ite (fun _=>.fail) fun _=>.ite (fun h=>wN hW (.assign c _) (zab hs (zav (zag h) 2 (by decide) (nR 2)) (zai _)) ⟨ln sd,trivial⟩ fun x _ hx _=>okN (zf2 hx)) fun _=>.ite (fun _=>okN (zf2 znc)) fun _=>.fail
end
theorem zre:∀ (m:Nat) (s:Sy),s.meas < m->s.wpre->WdV (ev s)
 | 0,_,h,_=>by omega
 | m + 1,s,h,hp=>by
  rw [zac];exact z6f (fun s h hp=>zre m s h hp) s (by omega) hp
theorem zwa:∀ (n:Nat) (acc:List PT) (l:Ts) {ks:List PT},ze5 acc->acc.length + l.length<=1000000->zif n acc l=some ks->ze5 ks/\ks.length<=1000000
 | 0,_,_,_,_,_,h=>by cases h
 | n + 1,acc,l,ks,ha,hl,h=>by
  rw [zif] at h
  by_cases hn:l=[]
  ·rw [if_pos hn] at h
   cases h
   exact ⟨ha,by omega⟩
  ·rw [if_neg hn] at h
   split at h
   ·rename_i x l1 e;have h1:Les l l1:=(zcc e).2.2 rfl rfl;have h2:=h1.2;exact zwa n _ l1 (zeh ha (zpt (zre _ (.stmt cx0 l) (nLS _) ⟨by show l.length<=1000000;omega,trivial⟩ _ _ e))) (by simp only [lLA,lLS];omega) h
   ·cases h
end Go.Proofs.YtcfecmeocimclaaGreatDoor
