/- Own work,plain: what the parser takes has its brackets closed. -/
import Derived.Test.YtcfecmeocimclaaGreatDoorZA0
import Derived.Test.YtcfecmeocimclaaGreatDoorZGY
namespace Go.Proofs.YtcfecmeocimclaaGreatDoor
set_option linter.unusedSimpArgs false
set_option linter.unusedVariables false
def brk (s:Bs):Nat:=if s=zbo\/s=zmz\/s=zg0 then 1 else if s=zao\/s=zo3\/s=zsd then 2 else 0
def tkB (t:Tk):Nat:=if t.k=5 then brk t.t else 0
def zo6:Nat->Ts->Nat
 | n,[]=>n
 | n,t :: l=>zo6 (match tkB t with|0=>n|1=>n + 1|_=>n - 1) l
def zbq:Nat->Ts->Bool
 | _,[]=>false
 | n,t :: l=>match tkB t with
  | 0=>zbq n l
  | 1=>if 128 < n + 1 then true else zbq (n + 1) l
  | _=>zbq (n - 1) l
theorem zos:∀ (n:Nat) (a b:Ts),zo6 n (a++b)=zo6 (zo6 n a) b
 | n,[],b=>rfl
 | n,t :: a,b=>by rw [lCA,zo6,zo6,zos]
theorem zjg:∀ (n:Nat) (a b:Ts),zbq n (a++b)=(zbq n a || zbq (zo6 n a) b)
 | n,[],b=>by rw [lNA,zbq,zo6,Bool.false_or]
 | n,t :: a,b=>by
  rw [lCA,zbq,zbq,zo6]
  split
  ·exact zjg _ _ _
  ·split
   ·rfl
   ·exact zjg _ _ _
  ·exact zjg _ _ _
def z3r (t:Tk):Prop:=t.k=2->brk t.t=0
def Bst (b c:Nat) (l l1:Ts):Prop:=∃ d,l=d++l1/\∀ n,zo6 (n + b) d=n + c
theorem Bst.rfl {b:Nat} {l:Ts}:Bst b b l l:=⟨[],Eq.refl l,fun _=>Eq.refl _⟩
theorem Bst.trans {b c e:Nat} {l l1 l2:Ts} (h:Bst b c l l1) (h':Bst c e l1 l2):Bst b e l l2:=by
 obtain ⟨d,h1,h2⟩:=h;obtain ⟨d',h3,h4⟩:=h';exact ⟨d++d',by rw [h1,h3,List.append_assoc],fun n=>by rw [zos,h2,h4]⟩
theorem Bst.up {b c:Nat} {l l1:Ts} (k:Nat) (h:Bst b c l l1):Bst (b + k) (c + k) l l1:=by
 obtain ⟨d,h1,h2⟩:=h;exact ⟨d,h1,fun n=>by rw [show n + (b + k)=n + k + b by omega,h2];omega⟩
theorem Bst.tok {l:Ts} {t:Tk} (h:l[0]?=some t) (b:Nat) (hb:tkB t=2->0 < b):Bst b (match tkB t with|0=>b|1=>b + 1|_=>b - 1) l (l.drop 1):=by
 cases l with
 | nil=>cases h
 | cons x l =>
  cases h
  refine ⟨[t],Eq.refl _,fun n=>?_⟩
  have hle:tkB t<=2:=by unfold tkB brk;split <;> (try split) <;> (try split) <;> omega
  rw [zo6,zo6]
  rcases (show tkB t=0\/tkB t=1\/tkB t=2 by omega) with e|e|e
  ·simp only [e]
  ·simp only [e];omega
  ·have:=hb e
   simp only [e];omega
theorem zrl {l:Ts} {s:Bs} (h:isT l 0 s=true) (hT:∀ t ∈ l,z3r t):∃ t,l[0]?=some t/\tkB t=brk s:=by
 have hp:=zag h;have hk:=zi9 h;have ht:=zh3 h;refine ⟨l[0],List.getElem?_eq_getElem hp,?_⟩;have hm:=hT l[0] (List.getElem_mem hp);unfold kd at hk;unfold tx at ht;rw [List.getElem?_eq_getElem hp] at hk ht;simp only at hk ht;unfold tkB
 rcases hk with e|e
 ·rw [if_neg (by rw [e];decide),<- ht]
  exact (hm e).symm
 ·rw [if_pos e,ht]
def Bl {α:Type} (b c:Nat) (l:Ts) (x:Re α):Prop:=(∀ t ∈ l,z3r t)->∀ a l1,x=some (some (a,l1))->Bst b c l l1
section
variable {α β:Type} {b c e:Nat} {l:Ts}
theorem Bl.fail:Bl b c l (zea:Re α):=fun _ _ _ h=>by cases h
theorem Bl.ok {a:α}:Bl b b l (okR a l):=fun _ _ _ h=>by cases h;exact .rfl
theorem Bl.pre {l1:Ts} {x:Re α} (h:(∀ t ∈ l,z3r t)->Bst b e l l1) (hx:Bl e c l1 x):Bl b c l x:=fun hT a l2 he=>by
 have h1:=h hT;obtain ⟨d,hd,_⟩:=id h1;exact h1.trans (hx (fun t ht=>hT t (by rw [hd];exact List.mem_append_right _ ht)) a l2 he)
theorem Bl.bnd {x:Re α} {k:α->Ts->Re β} (h:Bl b e l x) (hk:∀ a l1,x=some (some (a,l1))->Bl e c l1 (k a l1)):Bl b c l (bnd x k):=fun hT a l2 he=>by
 cases hx:x with
 | none=>rw [hx] at he;cases he
 | some o =>
  cases o with
  | none=>rw [hx] at he;cases he
  | some p =>
   obtain ⟨a1,l1⟩:=p;rw [hx] at he;exact Bl.pre (fun hT=>h hT a1 l1 hx) (hk a1 l1 hx) hT a l2 he
theorem Bl.nd {x:Re Rv} {k:PT->Ts->Re β} (h:Bl b e l x) (hk:∀ n l1,x=some (some (.nd n,l1))->Bl e c l1 (k n l1)):Bl b c l (ndR x k):=.bnd h fun v l1 h0=>by
 cases v with
 | nd n=>exact hk n l1 h0
 | nb n b=>exact fun _ _ _ e=>by cases e
 | ls n=>exact fun _ _ _ e=>by cases e
theorem Bl.nb {x:Re Rv} {k:PT->Bool->Ts->Re β} (h:Bl b e l x) (hk:∀ n q l1,x=some (some (.nb n q,l1))->Bl e c l1 (k n q l1)):Bl b c l (nbR x k):=.bnd h fun v l1 h0=>by
 cases v with
 | nb n q=>exact hk n q l1 h0
 | nd n=>exact fun _ _ _ e=>by cases e
 | ls n=>exact fun _ _ _ e=>by cases e
theorem Bl.ls {x:Re Rv} {k:List PT->Ts->Re β} (h:Bl b e l x) (hk:∀ n l1,x=some (some (.ls n,l1))->Bl e c l1 (k n l1)):Bl b c l (lsR x k):=.bnd h fun v l1 h0=>by
 cases v with
 | ls n=>exact hk n l1 h0
 | nb n b=>exact fun _ _ _ e=>by cases e
 | nd n=>exact fun _ _ _ e=>by cases e
theorem Bl.ite {p:Prop} [Decidable p] {x y:Re α} (h1:p->Bl b c l x) (h2:¬ p->Bl b c l y):Bl b c l (if p then x else y):=by
 split
 ·exact h1 (by assumption)
 ·exact h2 (by assumption)
theorem Bl.w0 {s:Bs} {x:Re α} (h:isT l 0 s=true) (hs:brk s=0) (hx:Bl b c (l.drop 1) x):Bl b c l x:=.pre (fun hT=>by
 obtain ⟨t,h1,h2⟩:=zrl h hT
 have:=Bst.tok h1 b (by rw [h2,hs];intro e;cases e)
 rw [h2,hs] at this;exact this) hx
theorem Bl.wO {s:Bs} {x:Re α} (h:isT l 0 s=true) (hs:brk s=1) (hx:Bl (b + 1) c (l.drop 1) x):Bl b c l x:=.pre (fun hT=>by
 obtain ⟨t,h1,h2⟩:=zrl h hT
 have:=Bst.tok h1 b (by rw [h2,hs];intro e;cases e)
 rw [h2,hs] at this;exact this) hx
theorem Bl.wC {s:Bs} {x:Re α} (h:isT l 0 s=true) (hs:brk s=2) (hx:Bl b c (l.drop 1) x):Bl (b + 1) c l x:=.pre (fun hT=>by
 obtain ⟨t,h1,h2⟩:=zrl h hT
 have:=Bst.tok h1 (b + 1) (fun _=>Nat.succ_pos _)
 rw [h2,hs] at this;exact this) hx
theorem Bl.n0 {s:Bs} {k:Ts->Re α} (hs:brk s=0) (hx:isT l 0 s=true->Bl b c (l.drop 1) (k (l.drop 1))):Bl b c l (zaq s l k):=.ite (fun h=>.w0 h hs (hx h)) fun _=>.fail
theorem Bl.nO {s:Bs} {k:Ts->Re α} (hs:brk s=1) (hx:isT l 0 s=true->Bl (b + 1) c (l.drop 1) (k (l.drop 1))):Bl b c l (zaq s l k):=.ite (fun h=>.wO h hs (hx h)) fun _=>.fail
theorem Bl.nC {s:Bs} {k:Ts->Re α} (hs:brk s=2) (hx:isT l 0 s=true->Bl b c (l.drop 1) (k (l.drop 1))):Bl (b + 1) c l (zaq s l k):=.ite (fun h=>.wC h hs (hx h)) fun _=>.fail
theorem Bl.k0 {x:Re α} (h:kd l 0 ≠ 5\/brk (tx l 0)=0) (hx:Bl b c (l.drop 1) x):Bl b c l x:=.pre (fun hT=>by
 cases l with
 | nil=>exact .rfl
 | cons t l =>
  have h2:tkB t=0:=by
   unfold tkB
   rcases h with h|h
   ·exact if_neg h
   ·split
    ·exact h
    ·exact Eq.refl _
  have:=Bst.tok (l:=t :: l) (Eq.refl _) b (by rw [h2];intro e;cases e)
  rw [h2] at this;exact this) hx
theorem Bl.name {k:Bs->Ts->Re α} (hx:kd l 0=1->Bl b c (l.drop 1) (k (tx l 0) (l.drop 1))):Bl b c l (zb3 l k):=.ite (fun h=>.k0 (.inl (by rw [h];decide)) (hx h)) fun _=>.fail
end
theorem zpv {s:Bs} {fr cnt:Nat} (h:zb9 s fr cnt ≠ 0):brk s=0:=by
 unfold zb9 at h
 split at h
 ·rename_i j hj;have h1:=List.find?_some hj;have h2:zrd[fr + j]?=some s:=oT h1;have h3:=List.mem_of_getElem? h2;have h4:(zrd.all fun w=>decide (brk w=0))=true:=by decide
  exact oT (List.all_eq_true.1 h4 s h3)
 ·exact absurd (Eq.refl _) h
theorem zwt {l:Ts} (h:(isT l 0 zfd || isT l 0 zay)=true):brk (tx l 0)=0:=by
 rcases Bool.or_eq_true_iff.1 h with h|h
 ·rw [zh3 h];decide
 ·rw [zh3 h];decide
def Sy.ob:Sy->Nat
 | .blockL _ _ _|.list2 _ _ _|.list2L _ _ _ _|.fields _ _|.fieldsL _ _ _=>1
 | _=>0
def Sy.eok:Sy->Prop
 | .list2 e _ _|.list2L e _ _ _=>brk e=2
 | .decl _ l=>brk (tx l 0)=0
 | _=>True
theorem ztf {b:Nat}:∀ (n:Nat) (acc:List PT) (l:Ts),Bl (b + 1) b l (zcx n acc l)
 | 0,_,_=>fun _ _ _ e=>by cases e
 | n + 1,acc,l=>by
  rw [zcx];exact .name fun _=>.ite (fun h=>.ite (fun _=>.wC h (by decide) .ok) fun _=>.fail) fun _=>.n0 (by decide) fun _=>ztf n _ _
theorem zxv {b:Nat} {l:Ts}:Bl b b l (zax l):=by
 unfold zax;exact .nO (by decide) fun _=>.ite (fun h=>.wC h (by decide) .ok) fun _=>ztf _ _ _
section
variable {m:Nat} (hB:∀ s:Sy,s.meas < m->s.eok->Bl s.ob 0 s.l (ev s))
include hB
theorem bU (s:Sy) (h:s.meas < m) (he:s.eok) (k:Nat):Bl (s.ob + k) k s.l (ev s):=fun hT a l1 e=>by have:=(hB s h he hT a l1 e).up k;rwa [Nat.zero_add] at this
theorem bN (s':Sy) (h:s'.meas < m) {b e c:Nat} {β:Type} {k:PT->Ts->Re β} (hk:∀ n l1,Leq s'.l l1->Bl e c l1 (k n l1)) (he:s'.eok:=by trivial) (hb:b=s'.ob + e:=by first|exact (Nat.zero_add _).symm|rfl):Bl b c s'.l (ndR (ev s') k):=by
 subst hb;exact .nd (bU hB s' h he e) fun n l1 e=>hk n l1 (zcd e).2.1
theorem bLs (s':Sy) (h:s'.meas < m) {b e c:Nat} {β:Type} {k:List PT->Ts->Re β} (hk:∀ n l1,Leq s'.l l1->Bl e c l1 (k n l1)) (he:s'.eok:=by trivial) (hb:b=s'.ob + e:=by first|exact (Nat.zero_add _).symm|rfl|omega):Bl b c s'.l (lsR (ev s') k):=by
 subst hb;exact .ls (bU hB s' h he e) fun n l1 e=>hk n l1 (zcd e).2.1
theorem bT (s':Sy) (h:s'.meas < m) (he:s'.eok:=by trivial) {b:Nat} (hb:b=s'.ob:=by rfl):Bl b 0 s'.l (ev s'):=by subst hb;exact hB s' h he
theorem bE1 {s:Sy} (hs:s.meas<=m) (s':Sy) (h:Leq s.l s'.l) (hr:s'.rank < s.rank) (hx:s'.lax=false) {b e c:Nat} {β:Type} {k:PT->Ts->Re β} (hk:∀ n l1,Les s.l l1->Bl e c l1 (k n l1)) (he:s'.eok:=by trivial) (hb:b=s'.ob + e:=by first|exact (Nat.zero_add _).symm|rfl):Bl b c s'.l (ndR (ev s') k):=by
 subst hb;exact .nd (bU hB s' (zaj hs h hr) he e) fun n l1 e=>hk n l1 (h.trans' ((zcd e).2.2 hx rfl))
theorem bB {s:Sy} (hs:s.meas<=m) (s':Sy) (h:Leq s.l s'.l) (hr:s'.rank < s.rank) (hx:s'.lax=false) {b c:Nat} {β:Type} {k:PT->Bool->Ts->Re β} (hk:∀ n q l1,PB s.l q l1->Bl b c l1 (k n q l1)) (he:s'.eok:=by trivial) (hb:s'.ob=0:=by rfl):Bl b c s'.l (nbR (ev s') k):=by
 have:=bU hB s' (zaj hs h hr) he b
 rw [hb,Nat.zero_add] at this;exact .nb this fun n q l1 e=>hk n q l1 ⟨h.trans (zcd e).2.1,fun hb=>h.trans' ((zcd e).2.2 hx hb)⟩
theorem z1i (c:Cx) (l:Ts) (h:(Sy.assign c l).meas < m):Bl 0 0 l (zhd ev c l):=bN hB (.assign c l) h fun n l1 _=>.n0 (by decide) fun _=>.ok
theorem zov {s:Sy} (hs:s.meas<=m) (c:Cx) (a:PT) (l:Ts) (hl:Les s.l l):Bl 1 0 l (zbl ev c a l):=by
 unfold zbl;have third:∀ (b:PT) (l2:Ts),Les s.l l2->Bl 1 0 l2 (zaq zbs l2 fun l3 =>
   if isT l3 0 zao then ndR (ev (.body c (l3.drop 1))) fun s l5=>okR (Rv.nd (nd 30 [a,b,nd 37 [],s])) l5
   else ndR (ev (.assign c l3)) fun d l4=>zaq zao l4 fun l5=>ndR (ev (.body c l5)) fun s l6=>okR (Rv.nd (nd 30 [a,b,d,s])) l6):=fun b l2 h2 =>
  .n0 (by decide) fun _=>.ite (fun h3=>.wC h3 (by decide) (bN hB (.body c _) (mL hs h2 _ (Leq.trans sd sd)) fun _ _ _=>.ok))
   fun _=>bN hB (.assign c _) (mL hs h2 _ sd) fun d l4 h4=>.nC (by decide) fun _=>bN hB (.body c _) (mL hs h2 _ (Leq.trans (Leq.trans sd h4) sd)) fun _ _ _=>.ok
 exact .n0 (by decide) fun _=>.ite (fun _=>third _ _ (hl.trans sd)) fun _=>bN hB (.assign c _) (mL hs hl _ sd) fun b l2 h2=>third b l2 (hl.trans (Leq.trans sd h2))
theorem zou {s:Sy} (hs:s.meas<=m) (c:Cx) (ks:List PT) (l:Ts) (hl:Les s.l l):Bl 0 0 l (zcz ev c ks l):=by
 unfold zcz;exact .ite (fun h=>.w0 h (by decide) (bN hB (.block c _) (mL hs hl _ sd) fun _ _ _=>.ok)) fun _=>.ite (fun _=>.fail) fun _=>.ok
theorem z56 (s:Sy) (hs:s.meas<=m) (he:s.eok):Bl s.ob 0 s.l (zms ev s):=by
 cases s with
 | stmt c l =>
  show Bl 0 0 l (zfe ev c l);unfold zfe;exact .ite (fun h=>bN hB (.decl c l) (zaj hs .rfl (oT rfl)) (fun n l1 _=>.n0 (by decide) fun _=>.ok) (zwt h)) fun _=>.ite (fun _=>bT hB (.func true c l) (zaj hs .rfl (oT rfl))) fun _=>.ite (fun _=>bT hB (.block c l) (zaj hs .rfl (oT rfl))) fun _=>.ite (fun h=>.w0 h (by decide) .ok) fun _ =>
   .ite (fun _=>bB hB hs (.keyw c l) .rfl (oT rfl) rfl fun n q l1 h1=>.ite (fun _=>.ok) fun _=>z1i hB c l1 (zaj hs h1.1 (oT rfl))) fun _=>z1i hB c l (zaj hs .rfl (oT rfl))
 | keyw c l =>
  show Bl 0 0 l (zf0 ev c l);unfold zf0;refine .ite (fun h=>?_) fun _=>.ite (fun h=>?_) fun _=>.ite (fun h=>?_) fun _=>.ite (fun h=>?_) fun _=>.ite (fun h=>?_) fun _=>.ite (fun h=>?_) fun _=>.ite (fun h=>?_) fun _=>.ok
  ·exact .w0 h (by decide) (bN hB (.condn c _) (zab hs (d1 h) (zah _)) fun e l1 h1=>bN hB (.inner c l1) (mL hs (d1 h) _ h1) fun a l2 h2=>.ite (fun h3=>.w0 h3 (by decide) (bN hB (.inner c _) (mL hs (d1 h) _ ((sO h1 h2).trans sd)) fun _ _ _=>.ok)) fun _=>.ok)
  ·exact .w0 h (by decide) (bN hB (.condn c _) (zab hs (d1 h) (zah _)) fun e l1 h1=>bN hB (.body c l1) (mL hs (d1 h) _ h1) fun a l2 h2=>.ok)
  ·exact .w0 h (by decide) (bN hB (.loops c _) (zab hs (d1 h) (zah _)) fun e l1 h1=>.ok)
  ·refine .w0 h (by decide) (.ite (fun _=>.ite (fun h1=>?_) fun _=>bN hB (.assign c _) (zab hs (d1 h) (zah _)) fun n l1 _=>.n0 (by decide) fun _=>.ok) fun _=>.fail)
   rw [show l.drop 2=(l.drop 1).drop 1 by rw [lDD]]
   exact .w0 (s:=zbs) (by rw [zof];exact h1) (by decide) .ok
  ·have:Bl 0 0 (l.drop 1) (zaq zbs (l.drop 1) fun l1=>okR (Rv.nb (nd (if isT l 0 zdh=true then 34 else 33) []) true) l1):=.n0 (by decide) fun _=>.ok
   rcases Bool.or_eq_true_iff.1 h with h|h
   ·exact .w0 h (by decide) (.ite (fun _=>this) fun _=>.fail)
   ·exact .w0 h (by decide) (.ite (fun _=>this) fun _=>.fail)
  ·exact .w0 h (by decide) (bN hB (.assign c _) (zab hs (d1 h) (zah _)) fun n l1 _=>.n0 (by decide) fun _=>.ok)
  ·exact .w0 h (by decide) (bN hB (.tryS c _) (zab hs (d1 h) (zah _)) fun e l1 h1=>.ok)
 | condn c l =>
  show Bl 0 0 l (ze6 ev c l);unfold ze6;exact .nO (by decide) fun h=>bN hB (.assign c _) (zab hs (d1 h) (zah _)) fun n l1 _=>.nC (by decide) fun _=>.ok
 | inner c l =>
  show Bl 0 0 l (zd1 ev c l);unfold zd1;exact .ite (fun _=>.fail) fun _=>bT hB (.stmt c l) (zaj hs .rfl (oT rfl))
 | body c l=>exact bT hB (.inner { c with lp:=true } l) (zaj hs .rfl (oT rfl))
 | loops c l =>
  show Bl 0 0 l (zd0 ev c l);unfold zd0;refine .nO (by decide) fun h=>?_
  have h0:=d1 h;generalize l.drop 1=l0 at h0 ⊢;refine .ite (fun hf=>?_) fun _=>.ite (fun h=>bN hB (.decl c l0) (mL hs h0 _ .rfl) (fun n l1 h1=>zov hB hs _ _ _ (h0.trans h1)) (zwt h)) fun _=>.ite (fun _=>zov hB hs _ _ _ h0) fun _=>bN hB (.assign c l0) (mL hs h0 _ .rfl) fun n l1 h1=>zov hB hs _ _ _ (h0.trans h1)
  rw [bAT,bAT] at hf;have hn:kd l0 1=1:=oT hf.2.1;have fin:Bl 1 0 (l0.drop 3) (ndR (ev (.assign c (l0.drop 3))) fun e l1=>zaq zao l1 fun l2=>ndR (ev (.body c l2)) fun s l3=>okR (Rv.nd (.mk 31 (tx l0 1) 0 (if isT l0 0 zay=true then 2 else 1) [e,s])) l3) :=
   bN hB (.assign c _) (mL hs h0 _ sd) fun e l1 h1=>.nC (by decide) fun _=>bN hB (.body c _) (mL hs h0 _ (Leq.trans (Leq.trans sd h1) sd)) fun _ _ _=>.ok
  have mid:Bl 1 0 (l0.drop 1) (ndR (ev (.assign c (l0.drop 3))) fun e l1=>zaq zao l1 fun l2=>ndR (ev (.body c l2)) fun s l3=>okR (Rv.nd (.mk 31 (tx l0 1) 0 (if isT l0 0 zay=true then 2 else 1) [e,s])) l3):=by
   refine .k0 (.inl (by rw [kd_d,hn];decide)) ?_
   rw [lDD];refine .w0 (s:=wOf) (by rw [zof];exact hf.2.2) (by decide) ?_
   rw [lDD];exact fin
  rcases Bool.or_eq_true_iff.1 hf.1 with h|h
  ·exact .w0 h (by decide) mid
  ·exact .w0 h (by decide) mid
 | tryS c l =>
  show Bl 0 0 l (zo4 ev c l);unfold zo4;refine bE1 hB hs (.block c l) .rfl (oT rfl) rfl fun a l1 h1=>.ite (fun h2=>.w0 h2 (by decide) (.ite (fun h3=>?_) fun _=>bN hB (.block c _) (mL hs h1 _ sd) fun b l2 h4=>zou hB hs _ _ _ (h1.trans (Leq.trans sd h4)))) fun _=>zou hB hs _ _ _ h1
  refine .wO (s:=zbo) (by rw [zof];exact h3) (by decide) ?_
  rw [lDD];exact .name fun _=>.nC (by decide) fun _=>bN hB (.block c _) (mL hs h1 _ (Leq.trans (Leq.trans sd sd) sd)) fun b l4 h4=>zou hB hs _ _ _ (h1.trans (Leq.trans (Leq.trans (Leq.trans sd sd) sd) h4))
 | decl c l =>
  exact .k0 (.inr he) (bT hB (.declL (if isT l 0 zay then 25 else 24) [] c (l.drop 1)) (zaj hs sd (oT rfl)))
 | declL k acc c l =>
  show Bl 0 0 l (ze5 ev k acc c l);unfold ze5;refine .name fun hk=>?_
  have h0:Les l (l.drop 1):=zav (zaw hk (by decide)) 1 (nR 1) (nR 1)
  have next:∀ (d:PT) (l2:Ts),Les l l2->Bl 0 0 l2 (if isT l2 0 zcw then ev (.declL k (acc++[d]) c (l2.drop 1)) else okR (Rv.nd (nd k (acc++[d]))) l2):=fun d l2 h2 =>
   .ite (fun h3=>.w0 h3 (by decide) (bT hB (.declL k _ c _) (mL hs h2 _ sd))) fun _=>.ok
  exact .ite (fun h1=>.w0 h1 (by decide) (bN hB (.assign c _) (mL hs h0 _ sd) fun e l2 h2=>next _ _ (h0.trans (Leq.trans sd h2)))) fun _=>.ite (fun _=>.fail) fun _=>next _ _ h0
 | block c l =>
  show Bl 0 0 l (zd2 ev c l);unfold zd2;exact .nO (by decide) fun h=>bT hB (.blockL [] c _) (zab hs (d1 h) (zah _))
 | blockL acc c l =>
  show Bl 1 0 l (zcc ev acc c l);unfold zcc;exact .ite (fun h=>.wC h (by decide) .ok) fun _=>.ite (fun _=>.fail) fun _=>bE1 hB hs (.stmt c l) .rfl (oT rfl) rfl fun n l1 h1=>bT hB (.blockL _ c l1) (zab hs h1 (zah _))
 | func d c l =>
  show Bl 0 0 l (zex ev d c l);have f3:∀ (o:Int) (nm:Bs) (l3:Ts),Les l l3->Bl 0 0 l3 (bnd (zax l3) fun ps l4=>ndR (ev (.block (zai o) l4)) fun b l5=>okR (Rv.nd (.mk 11 nm 0 o (ps++[b]))) l5):=fun o nm l3 h3 =>
   .bnd zxv fun ps l4 e=>bN hB (.block _ l4) (mL hs h3 _ (by
    obtain ⟨o',ho,hP⟩:=zcv l3;rw [e] at ho
    cases ho
    exact (hP _ _ rfl).1)) fun _ _ _=>.ok
  have f2:∀ (o:Int) (l2:Ts),Les l l2->Bl 0 0 l2 (if d || decide (kd l2 0=1) then zb3 l2 fun nm l3=>bnd (zax l3) fun ps l4=>ndR (ev (.block (zai o) l4)) fun b l5=>okR (Rv.nd (.mk 11 nm 0 o (ps++[b]))) l5 else bnd (zax l2) fun ps l4=>ndR (ev (.block (zai o) l4)) fun b l5=>okR (Rv.nd (.mk 11 [] 0 o (ps++[b]))) l5):=fun o l2 h2 =>
   .ite (fun _=>.name fun _=>f3 _ _ _ (h2.trans sd)) fun _=>f3 _ _ _ h2
  unfold zex;have f1:∀ (o0:Int) (l0:Ts),Leq l l0->Bl 0 0 l0 (zaq za4 l0 fun l1=>if d || decide (kd (if decide (o0=1) && isT l1 0 zbx then l1.drop 1 else l1) 0=1) then zb3 (if decide (o0=1) && isT l1 0 zbx then l1.drop 1 else l1) fun nm l3=>bnd (zax l3) fun ps l4=>ndR (ev (.block (zai (if decide (o0=1) && isT l1 0 zbx then 3 else o0)) l4)) fun b l5=>okR (Rv.nd (.mk 11 nm 0 (if decide (o0=1) && isT l1 0 zbx then 3 else o0) (ps++[b]))) l5 else bnd (zax (if decide (o0=1) && isT l1 0 zbx then l1.drop 1 else l1)) fun ps l4=>ndR (ev (.block (zai (if decide (o0=1) && isT l1 0 zbx then 3 else o0)) l4)) fun b l5=>okR (Rv.nd (.mk 11 [] 0 (if decide (o0=1) && isT l1 0 zbx then 3 else o0) (ps++[b]))) l5):=fun o0 l0 h0 =>
   .n0 (by decide) fun hf=>by
    have h1:Les l (l0.drop 1):=h0.trans' (d1 hf);generalize l0.drop 1=l1 at h1 ⊢
    cases hc:(decide (o0=1) && isT l1 0 zbx) with
    | true =>
     rw [bAT] at hc;exact .w0 hc.2 (by decide) (f2 3 _ (h1.trans sd))
    | false=>exact f2 o0 _ h1
  cases ha:isT l 0 zat with
  | true=>exact .w0 ha (by decide) (f1 4 _ sd)
  | false=>exact f1 1 _ .rfl
 | arrow c l =>
  show Bl 0 0 l (zdl ev c l);have f2:∀ (o:Int) (ps:List PT) (l1:Ts),Les l l1->Bl 0 0 l1 (zaq zfv l1 fun l2 =>
   if isT l2 0 zg0 then ndR (ev (.block (zai o) l2)) fun b l3=>okR (Rv.nd (ndO 11 o (ps++[b]))) l3
   else ndR (ev (.assign (zai o) l2)) fun n l3=>okR (Rv.nd (ndO 11 o (ps++[nd 27 [nd 32 [n]]]))) l3):=fun o ps l1 h1 =>
   .n0 (by decide) fun _=>.ite (fun _=>bN hB (.block _ _) (mL hs h1 _ sd) fun _ _ _=>.ok) fun _=>bN hB (.assign _ _) (mL hs h1 _ sd) fun _ _ _=>.ok
  have f1:∀ (o:Int) (l0:Ts),Leq l l0->Bl 0 0 l0 (if isT l0 0 zbo then bnd (zax l0) fun ps l1=>zaq zfv l1 fun l2 =>
   if isT l2 0 zg0 then ndR (ev (.block (zai o) l2)) fun b l3=>okR (Rv.nd (ndO 11 o (ps++[b]))) l3
   else ndR (ev (.assign (zai o) l2)) fun n l3=>okR (Rv.nd (ndO 11 o (ps++[nd 27 [nd 32 [n]]]))) l3 else zb3 l0 fun s l1=>zaq zfv l1 fun l2 =>
   if isT l2 0 zg0 then ndR (ev (.block (zai o) l2)) fun b l3=>okR (Rv.nd (ndO 11 o ([ndN 7 s []]++[b]))) l3
   else ndR (ev (.assign (zai o) l2)) fun n l3=>okR (Rv.nd (ndO 11 o ([ndN 7 s []]++[nd 27 [nd 32 [n]]]))) l3):=fun o l0 h0 =>
   .ite (fun _=>.bnd zxv fun ps l1 e=>f2 _ _ _ (h0.trans' (by
    obtain ⟨o',ho,hP⟩:=zcv l0;rw [e] at ho
    cases ho
    exact hP _ _ rfl))) fun _=>.name fun hk=>f2 _ _ _ (h0.trans' (zav (zaw hk (by decide)) 1 (nR 1) (nR 1)))
  unfold zdl
  cases ha:isT l 0 zat with
  | true=>exact .w0 ha (by decide) (f1 5 _ sd)
  | false=>exact f1 2 _ .rfl
 | assign c l =>
  show Bl 0 0 l (zcj ev c l);unfold zcj;refine .ite (fun _=>bT hB (.arrow c l) (zaj hs .rfl (oT rfl))) fun _=>.ite (fun h=>.w0 h (by decide) (.ite (fun _=>bN hB (.assign c _) (zab hs (d1 h) (zah _)) fun _ _ _=>.ok) fun _=>.fail)) fun _=>?_
  exact bE1 hB hs (.cond c l) .rfl (oT rfl) rfl fun n l1 h1=>.ite (fun _=>.ite (fun _=>.ok) fun hf=>.ite (fun _=>.k0 (.inr (zpv hf)) (bN hB (.assign c _) (mL hs h1 _ sd) fun _ _ _=>.ok)) fun _=>.fail) fun _=>.ok
 | cond c l =>
  show Bl 0 0 l (zg5 ev c l);unfold zg5;exact bE1 hB hs (.opnd 0 c l) .rfl (oT rfl) rfl fun n l1 h1=>.ite (fun h=>.w0 h (by decide) (bN hB (.assign c _) (mL hs h1 _ sd) fun a l2 h2=>.n0 (by decide) fun _=>bN hB (.assign c _) (mL hs h1 _ (Leq.trans (Leq.trans sd h2) sd)) fun _ _ _=>.ok)) fun _=>.ok
 | opnd k c l =>
  show Bl 0 0 l (ze3 ev k c l);unfold ze3;have r1:(Sy.unary c l).rank < (Sy.opnd k c l).rank:=by
   show 12 < if k<=6 then 26 - 2 * k else 14
   split <;> omega
  refine .ite (fun _=>bT hB (.unary c l) (zaj hs .rfl r1)) fun h=>bE1 hB hs (.opnd (k + 1) c l) .rfl ?_ rfl fun n l1 h1=>bT hB (.opndL k n c l1) (zab hs h1 (zah _))
  show (if k + 1<=6 then 26 - 2 * (k + 1) else 14) < if k<=6 then 26 - 2 * k else 14
  rw [if_pos (by omega),if_pos (by omega)]
  omega
 | opndL k n c l =>
  show Bl 0 0 l (zeh ev k n c l);unfold zeh;refine .ite (fun h=>.ite (fun _=>.ok) fun hf=>.k0 (.inr (zpv hf)) ?_) fun _=>.ok
  have hp:0 < l.length:=by
   cases l with
   | nil=>exact absurd h (by decide)
   | cons x l=>exact Nat.succ_pos _
  have h0:Les l (l.drop 1):=zav hp 1 (nR 1) (nR 1);exact bN hB (.opnd (k + 1) c _) (zab hs h0 (zah _)) fun x l1 h1=>bT hB (.opndL k _ c l1) (mL hs h0 _ h1)
 | unary c l =>
  show Bl 0 0 l (zdi ev c l);unfold zdi;refine .ite (fun h=>?_) fun _=>bT hB (.postf c l) (zaj hs .rfl (oT rfl))
  have hp:0 < l.length:=by
   cases l with
   | nil=>exact absurd h (by decide)
   | cons x l=>exact Nat.succ_pos _
  have hm:=zab (s':=.unary c (l.drop 1)) hs (zav hp 1 (nR 1) (nR 1)) (zah _);exact .ite (fun ht=>.k0 (.inr (by rw [ht];decide)) (.ite (fun _=>bN hB (.unary c _) hm fun _ _ _=>.ok) fun _=>.fail)) fun _=>.ite (fun hf=>.k0 (.inr (zpv hf)) (bN hB (.unary c _) hm fun _ _ _=>.ite (fun _=>.ok) fun _=>.fail)) fun _=>.ite (fun _=>bT hB (.postf c l) (zaj hs .rfl (oT rfl))) fun hf=>.k0 (.inr (zpv hf)) (bN hB (.unary c _) hm fun _ _ _=>.ite (fun _=>.fail) fun _=>.ok)
 | postf c l =>
  show Bl 0 0 l (zeg ev c l);unfold zeg;exact bE1 hB hs (.chain c l) .rfl (oT rfl) rfl fun n l1 h1=>.ite (fun _=>.ite (fun _=>.ok) fun hf=>.ite (fun _=>.k0 (.inr (zpv hf)) .ok) fun _=>.fail) fun _=>.ok
 | link n c l =>
  show Bl 0 0 l (zg4 ev n c l);unfold zg4;refine .ite (fun h=>.w0 h (by decide) (.ite (fun h1=>?_) fun _=>.fail)) fun _=>.ite (fun h=>.wO h (by decide) (bN hB (.assign c _) (zab hs (d1 h) (zah _)) fun _ _ _=>.nC (by decide) fun _=>.ok)) fun _=>.ok
  rw [show l.drop 2=(l.drop 1).drop 1 by rw [lDD]]
  refine .k0 (.inl ?_) .ok;rw [kd_d]
  rcases Bool.or_eq_true_iff.1 h1 with h|h
  ·rw [oT h];decide
  ·rw [oT h];decide
 | chain c l =>
  show Bl 0 0 l (zdk ev c l);unfold zdk;exact .ite (fun h=>.w0 h (by decide) (bN hB (.prim c _) (zab hs (d1 h) (zah _)) fun n l1 h1=>bT hB (.chainN n c l1) (mL hs (d1 h) _ h1))) fun _=>bE1 hB hs (.prim c l) .rfl (oT rfl) rfl fun n l1 h1=>bT hB (.chainL n c l1) (zab hs h1 (zah _))
 | chainN n c l =>
  show Bl 0 0 l (zc7 ev n c l);unfold zc7;exact bB hB hs (.link n c l) .rfl (oT rfl) rfl fun x q l1 h1=>.ite (fun hb=>bT hB (.chainN x c l1) (zab hs (h1.2 hb) (zah _))) fun _=>.nO (by decide) fun h=>bLs hB (.list2 zao c _) (zab hs (h1.1.trans' (d1 h)) (zah _)) (fun as l2 h2=>bT hB (.chainL _ c l2) (mL hs (h1.1.trans' (d1 h)) _ h2)) (by exact (by decide:brk zao=2))
 | chainL n c l =>
  show Bl 0 0 l (zcq ev n c l);unfold zcq;exact bB hB hs (.link n c l) .rfl (oT rfl) rfl fun x q l1 h1=>.ite (fun hb=>bT hB (.chainL x c l1) (zab hs (h1.2 hb) (zah _))) fun _=>.ite (fun h=>.wO h (by decide) (bLs hB (.list2 zao c _) (zab hs (h1.1.trans' (d1 h)) (zah _)) (fun as l2 h2=>bT hB (.chainL _ c l2) (mL hs (h1.1.trans' (d1 h)) _ h2)) (by exact (by decide:brk zao=2)))) fun _=>.ok
 | list2 e c l =>
  show Bl 1 0 l (zei ev e c l);unfold zei;exact .ite (fun h=>.wC h he .ok) fun _=>bT hB (.list2L e [] c l) (zaj hs .rfl (oT rfl)) he
 | list2L e acc c l =>
  show Bl 1 0 l (zcp ev e acc c l);unfold zcp;exact bE1 hB hs (.assign c l) .rfl (oT rfl) rfl fun n l1 h1=>.ite (fun h=>.wC h he .ok) fun _=>.n0 (by decide) fun h=>bT hB (.list2L e _ c _) (mL hs h1 _ sd) he
 | prim c l =>
  show Bl 0 0 l (zdj ev c l);unfold zdj;refine .ite (fun h=>.k0 (.inl (by rw [h];decide)) .ok) fun _=>.ite (fun h=>.k0 (.inl (by rw [h];decide)) .ok) fun _=>.ite (fun h=>.k0 (.inl (by rw [h];decide)) .ok) fun _=>.ite (fun h=>.w0 h (by decide) .ok) fun _=>.ite (fun h=>.w0 h (by decide) .ok) fun _=>.ite (fun h=>.w0 h (by decide) .ok) fun _=>.ite (fun h=>.w0 h (by decide) .ok) fun _=>.ite (fun h=>.w0 h (by decide) .ok) fun _ =>
   .ite (fun h=>.wO h (by decide) (bN hB (.assign c _) (zab hs (d1 h) (zah _)) fun _ _ _=>.nC (by decide) fun _=>.ok)) fun _=>.ite (fun h=>.wO h (by decide) (bLs hB (.list2 zo3 c _) (zab hs (d1 h) (zah _)) (fun _ _ _=>.ok) (by exact (by decide:brk zo3=2)))) fun _=>.ite (fun h=>.wO h (by decide) (bLs hB (.fields c _) (zab hs (d1 h) (zah _)) (fun _ _ _=>.ok))) fun _=>.ite (fun _=>bT hB (.func false c l) (zaj hs .rfl (oT rfl))) fun _=>.fail
 | fields c l =>
  show Bl 1 0 l (zc6 ev c l);unfold zc6;exact .ite (fun h=>.wC h (by decide) .ok) fun _=>bT hB (.fieldsL [] c l) (zaj hs .rfl (oT rfl))
 | fieldsL acc c l =>
  show Bl 1 0 l (zci ev acc c l);unfold zci;exact bE1 hB hs (.field c l) .rfl (oT rfl) rfl fun n l1 h1=>.ite (fun h=>.wC h (by decide) .ok) fun _=>.n0 (by decide) fun h=>bT hB (.fieldsL _ c _) (mL hs h1 _ sd)
 | field c l =>
  show Bl 0 0 l (ze4 ev c l);unfold ze4;refine .ite (fun h=>.wO h (by decide) (bN hB (.assign c _) (zab hs (d1 h) (zah _)) fun k l1 h1=>.nC (by decide) fun _=>.n0 (by decide) fun _=>bN hB (.assign c _) (mL hs (d1 h) _ (Leq.trans (Leq.trans h1 sd) sd)) fun _ _ _=>.ok)) fun _=>.ite (fun _=>.fail) fun hk=>.k0 (.inl fun e=>hk (.inr e)) (.ite (fun h=>?_) fun _=>.ite (fun _=>.ok) fun _=>.fail)
  refine .w0 (s:=zh1) (by rw [zof];exact h) (by decide) ?_
  rw [lDD];exact bN hB (.assign c _) (zab hs (zav (zag h) 2 (by decide) (nR 2)) (zah _)) fun _ _ _=>.ok
end
theorem bal:∀ (m:Nat) (s:Sy),s.meas < m->s.eok->Bl s.ob 0 s.l (ev s)
 | 0,_,h,_=>by omega
 | m + 1,s,h,he=>by
  rw [zac];exact z56 (fun s h he=>bal m s h he) s (by omega) he
end Go.Proofs.YtcfecmeocimclaaGreatDoor

/- Own work,plain: two scripts,one behind the other. -/
namespace Go.Proofs.YtcfecmeocimclaaGreatDoor
set_option linter.unusedSimpArgs false
set_option linter.unusedVariables false
def Exc {α:Type} (z:Ts) (x x':Re α):Prop:=∀ a l1,x=some (some (a,l1))->x'=some (some (a,l1++z))
section
variable {α β:Type} {z l:Ts}
theorem Exc.fail {x':Re α}:Exc z zea x':=fun _ _ h=>by cases h
theorem Exc.dead {x x':Re α} (h:zc2 x):Exc z x x':=fun _ _ e=>absurd e (h _)
theorem Exc.ok {a:α} {l1:Ts}:Exc z (okR a l1) (okR a (l1++z)):=fun _ _ e=>by cases e;rfl
theorem Exc.bnd {x x':Re α} {k k':α->Ts->Re β} (h:Exc z x x') (hk:∀ a l1,x=some (some (a,l1))->Exc z (k a l1) (k' a (l1++z))):Exc z (bnd x k) (bnd x' k'):=fun b l2 e=>by
 cases hx:x with
 | none=>rw [hx] at e;cases e
 | some o =>
  cases o with
  | none=>rw [hx] at e;cases e
  | some p =>
   obtain ⟨a,l1⟩:=p;rw [hx] at e;rw [h a l1 hx];exact hk a l1 hx b l2 e
theorem Exc.nd {x x':Re Rv} {k k':PT->Ts->Re β} (h:Exc z x x') (hk:∀ n l1,x=some (some (.nd n,l1))->Exc z (k n l1) (k' n (l1++z))):Exc z (ndR x k) (ndR x' k'):=.bnd h fun v l1 h0=>by
 cases v with
 | nd n=>exact hk n l1 h0
 | nb n b=>exact fun _ _ e=>by cases e
 | ls n=>exact fun _ _ e=>by cases e
theorem Exc.nb {x x':Re Rv} {k k':PT->Bool->Ts->Re β} (h:Exc z x x') (hk:∀ n b l1,x=some (some (.nb n b,l1))->Exc z (k n b l1) (k' n b (l1++z))):Exc z (nbR x k) (nbR x' k'):=.bnd h fun v l1 h0=>by
 cases v with
 | nb n b=>exact hk n b l1 h0
 | nd n=>exact fun _ _ e=>by cases e
 | ls n=>exact fun _ _ e=>by cases e
theorem Exc.na {s':Sy} {k k':PT->Ts->Re β} (hk:∀ n l1,Leq s'.l l1->Exc z (k n l1) (k' n (l1++z))) (hd:∀ n,zc2 (k n [])):Exc z (ndR (ev s') k) (ndR (ev (s'.put (s'.l++z))) k'):=fun b l2 e=>by
 cases hx:ev s' with
 | none=>rw [hx] at e;cases e
 | some o =>
  cases o with
  | none=>rw [hx] at e;cases e
  | some p =>
   obtain ⟨v,l1⟩:=p;rw [hx] at e
   cases v with
   | nb n b=>cases e
   | ls n=>cases e
   | nd n =>
    by_cases hl:l1=[]
    ·subst hl;exact absurd e (hd n _)
    ·rw [z29 hx (.inl hl)];exact hk n l1 (zcd hx).2.1 b l2 e
theorem Exc.ite {c:Prop} [Decidable c] {x y x' y':Re α} (h1:c->Exc z x x') (h2:¬ c->Exc z y y'):Exc z (if c then x else y) (if c then x' else y'):=by
 split
 ·exact h1 (by assumption)
 ·exact h2 (by assumption)
theorem Exc.need {s:Bs} {k k':Ts->Re α} (hk:isT l 0 s=true->Exc z (k (l.drop 1)) (k' (l.drop 1++z))):Exc z (zaq s l k) (zaq s (l++z) k'):=by
 unfold zaq
 by_cases h:isT l 0 s=true
 ·have hp:=zag h;rw [if_pos h,if_pos (by rw [zbc hp];exact h),dp hp]
  exact hk h
 ·rw [if_neg h];exact .fail
theorem Exc.name {k k':Bs->Ts->Re α} (hk:kd l 0=1->Exc z (k (tx l 0) (l.drop 1)) (k' (tx l 0) (l.drop 1++z))):Exc z (zb3 l k) (zb3 (l++z) k'):=by
 unfold zb3
 by_cases h:kd l 0=1
 ·have hp:=zaw h (by decide)
  rw [if_pos h,if_pos (by rw [zlc hp];exact h),ztl hp,dp hp]
  exact hk h
 ·rw [if_neg h];exact .fail
theorem Exc.is {s:Bs} (hz:isT z 0 s=false) {x y x' y':Re α} (h1:isT l 0 s=true->Exc z x x') (h2:Exc z y y'):Exc z (if isT l 0 s then x else y) (if isT (l++z) 0 s then x' else y'):=by
 by_cases hl:l=[]
 ·subst hl;rw [za5,lNA,hz];exact h2
 ·rw [zbc (zbu hl)];exact .ite h1 fun _=>h2
end
structure NoGo (z:Ts):Prop where
 e:isT z 0 ztj=false
 c:isT z 0 zm0=false
 f:isT z 0 zff=false
def Sy.stm:Sy->Bool
 | .stmt _ _|.keyw _ _|.inner _ _|.body _ _|.loops _ _|.tryS _ _|.block _ _|.blockL _ _ _|.func _ _ _=>true
 | _=>false
theorem zzm {z l:Ts}:Exc z (zax l) (zax (l++z)):=by
 have hL:∀ (n:Nat) (acc:List PT) (l:Ts) (n':Nat),l.length < n->(l++z).length < n'->Exc z (zcx n acc l) (zcx n' acc (l++z)):=by
  intro n
  induction n with
  | zero=>intro acc l n' h _;omega
  | succ n ih =>
   intro acc l n' h h'
   cases n' with
   | zero=>omega
   | succ n' =>
    rw [zcx,zcx];refine .name fun hk=>?_
    have h3:=(zav (zaw hk (by decide)) 1 (nR 1) (nR 1)).2
    generalize l.drop 1=l1 at h3 ⊢
    by_cases hl:l1=[]
    ·subst hl;rw [za5];exact .dead (.ite (fun h=>by cases h) fun _=>.need (za5 _ _))
    ·have hp:=zbu hl;rw [zbc hp];refine .ite (fun _=>.ite (fun _=>by rw [dp hp];exact .ok) fun _=>.fail) fun _=>.need fun h1=>?_
     have h2:=(d1 h1).2;rw [lLA] at h';exact ih _ _ n' (by omega) (by rw [lLA];omega)
 unfold zax;refine .need fun h=>?_
 generalize l.drop 1=l1
 by_cases hl:l1=[]
 ·subst hl;rw [za5];refine .dead (.ite (fun h=>by cases h) fun _=>?_)
  rw [zcx];unfold zb3;rw [zgu,if_neg (by decide)]
  exact .fail
 ·have hp:=zbu hl;rw [zbc hp];exact .ite (fun _=>by rw [dp hp];exact .ok) fun _=>hL _ _ _ _ (nLS _) (nLS _)
section
variable {z:Ts} {m:Nat} (hC:∀ s:Sy,s.meas < m->s.stm=true->s.l ≠ []->Exc z (ev s) (ev (s.put (s.l++z))))
theorem z1g (c:Cx) (l:Ts):Exc z (zhd ev c l) (zhd ev c (l++z)):=.na (s':=.assign c l) (fun n l1 _=>.need fun _=>.ok) fun n=>.need (za5 _ _)
theorem naD {β:Type} {l:Ts} (hp:0 < l.length) (s':Sy) (hl:s'.l=l.drop 1) {k k':PT->Ts->Re β} (hk:∀ n l1,Leq s'.l l1->Exc z (k n l1) (k' n (l1++z))) (hd:∀ n,zc2 (k n [])):Exc z (ndR (ev s') k) (ndR (ev (s'.put ((l++z).drop 1))) k'):=by
 rw [dp hp,<- hl];exact .na hk hd
include hC
theorem xS (s':Sy) (h:s'.meas < m) (hs:s'.stm=true:=by rfl) (hx:s'.lax=false:=by rfl) (hn:s'.shape ≠ .nb:=by intro e;cases e):Exc z (ev s') (ev (s'.put (s'.l++z))):=by
 by_cases hl:s'.l=[]
 ·exact .dead (zca s' hl hx hn)
 ·exact hC s' h hs hl
theorem xN {β:Type} (s':Sy) (h:s'.meas < m) {k k':PT->Ts->Re β} (hk:∀ n l1,Leq s'.l l1->Exc z (k n l1) (k' n (l1++z))) (hs:s'.stm=true:=by rfl) (hx:s'.lax=false:=by rfl) (hn:s'.shape ≠ .nb:=by intro e;cases e):Exc z (ndR (ev s') k) (ndR (ev (s'.put (s'.l++z))) k') :=
 .nd (xS hC s' h hs hx hn) fun n l1 e=>hk n l1 (zcd e).2.1
theorem xD {β:Type} {l:Ts} (hp:0 < l.length) (s':Sy) (hl:s'.l=l.drop 1) (h:s'.meas < m) {k k':PT->Ts->Re β} (hk:∀ n l1,Leq s'.l l1->Exc z (k n l1) (k' n (l1++z))) (hs:s'.stm=true:=by rfl) (hx:s'.lax=false:=by rfl) (hn:s'.shape ≠ .nb:=by intro e;cases e):Exc z (ndR (ev s') k) (ndR (ev (s'.put ((l++z).drop 1))) k'):=by
 rw [dp hp,<- hl];exact xN hC s' h hk hs hx hn
theorem zoq {s:Sy} (hs:s.meas<=m) (c:Cx) (a:PT) (l:Ts) (hl:Les s.l l):Exc z (zbl ev c a l) (zbl ev c a (l++z)):=by
 unfold zbl;have third:∀ (b:PT) (l2:Ts),Les s.l l2->Exc z (zaq zbs l2 fun l3 =>
   if isT l3 0 zao then ndR (ev (.body c (l3.drop 1))) fun s l5=>okR (Rv.nd (nd 30 [a,b,nd 37 [],s])) l5
   else ndR (ev (.assign c l3)) fun d l4=>zaq zao l4 fun l5=>ndR (ev (.body c l5)) fun s l6=>okR (Rv.nd (nd 30 [a,b,d,s])) l6) (zaq zbs (l2++z) fun l3 =>
   if isT l3 0 zao then ndR (ev (.body c (l3.drop 1))) fun s l5=>okR (Rv.nd (nd 30 [a,b,nd 37 [],s])) l5
   else ndR (ev (.assign c l3)) fun d l4=>zaq zao l4 fun l5=>ndR (ev (.body c l5)) fun s l6=>okR (Rv.nd (nd 30 [a,b,d,s])) l6):=fun b l2 h2=>by
  refine .need fun _=>?_
  have h3:Les s.l (l2.drop 1):=h2.trans sd;generalize l2.drop 1=l3 at h3 ⊢
  by_cases hl3:l3=[]
  ·subst hl3;rw [za5];exact .dead (.ite (fun h=>by cases h) fun _=>.nd (zca (.assign c []) rfl rfl fun e=>by cases e))
  ·have hp:=zbu hl3;rw [zbc hp];exact .ite (fun h=>xD hC hp (.body c _) rfl (mL hs h3 _ sd) fun _ _ _=>.ok) fun _=>.na (s':=.assign c l3) (fun d l4 h4=>.need fun _=>xN hC (.body c _) (mL hs h3 _ (Leq.trans h4 sd)) fun _ _ _=>.ok) fun n=>.need (za5 _ _)
 refine .need fun _=>?_
 have h1:Les s.l (l.drop 1):=hl.trans sd;generalize l.drop 1=l1 at h1 ⊢
 by_cases hl1:l1=[]
 ·subst hl1;rw [za5];exact .dead (.ite (fun h=>by cases h) fun _=>.nd (zca (.assign c []) rfl rfl fun e=>by cases e))
 ·rw [zbc (zbu hl1)];exact .ite (fun _=>third _ _ h1) fun _=>.na (s':=.assign c l1) (fun b l2 h2=>third b l2 (h1.trans h2)) fun n=>.need (za5 _ _)
theorem zop (hz:NoGo z) {s:Sy} (hs:s.meas<=m) (c:Cx) (ks:List PT) (l:Ts) (hl:Les s.l l):Exc z (zcz ev c ks l) (zcz ev c ks (l++z)):=by
 unfold zcz;exact .is hz.f (fun h=>xD hC (zag h) (.block c _) rfl (mL hs hl _ sd) fun _ _ _=>.ok) (.ite (fun _=>.fail) fun _=>.ok)
theorem z50 (hz:NoGo z) (s:Sy) (hs:s.meas<=m) (hst:s.stm=true) (hne:s.l ≠ []):Exc z (ev s) (ev (s.put (s.l++z))):=by
 have hp:=zbu hne
 cases s with
 | stmt c l =>
  change 0 < l.length at hp
  by_cases hA:isT l 0 zat=true->1 < l.length
  ·rw [zac,zac (s:=.put _ _)];show Exc z (zfe ev c l) (zfe ev c (l++z));unfold zfe;simp only [zbc hp,zlc hp,zta hp hA];refine .ite (fun _=>.na (s':=.decl c l) (fun n l1 _=>.need fun _=>.ok) fun n=>.need (za5 _ _)) fun _=>.ite (fun _=>xS hC (.func true c l) (zaj hs .rfl (oT rfl))) fun _=>.ite (fun _=>xS hC (.block c l) (zaj hs .rfl (oT rfl))) fun _=>.ite (fun _=>by rw [dp hp];exact .ok) fun _=>.ite (fun _=>?_) fun _=>z1g c l
   exact .nb (hC (.keyw c l) (zaj hs .rfl (oT rfl)) rfl hne) fun n b l1 _=>.ite (fun _=>.ok) fun _=>z1g c l1
  ·rw [Classical.not_imp] at hA;exact .dead (zjd (by omega) hA.1)
 | keyw c l =>
  change 0 < l.length at hp;rw [zac,zac (s:=.put _ _)];show Exc z (zf0 ev c l) (zf0 ev c (l++z));unfold zf0;simp only [zbc hp];refine .ite (fun h=>?_) fun _=>.ite (fun h=>?_) fun _=>.ite (fun h=>?_) fun _=>.ite (fun h=>?_) fun _=>.ite (fun h=>?_) fun _=>.ite (fun h=>?_) fun _=>.ite (fun h=>?_) fun _=>.ok
  ·refine naD hp (.condn c _) rfl (fun e l1 h1=>xN hC (.inner c l1) (mL hs (d1 h) _ h1) fun a l2 h2=>.is hz.e (fun h3=>?_) .ok) fun n=>.nd (zca (.inner c []) rfl rfl fun e=>by cases e)
   exact xD hC (zag h3) (.inner c _) rfl (mL hs (d1 h) _ ((sO h1 h2).trans sd)) fun b l3 _=>.ok
  ·exact naD hp (.condn c _) rfl (fun e l1 h1=>xN hC (.body c l1) (mL hs (d1 h) _ h1) fun a l2 h2=>.ok) fun n=>.nd (zca (.body c []) rfl rfl fun e=>by cases e)
  ·exact xD hC hp (.loops c _) rfl (zab hs (d1 h) (zah _)) fun e l1 h1=>.ok
  ·refine .ite (fun _=>?_) fun _=>.fail
   by_cases h1:1 < l.length
   ·rw [zbc h1,dp2 h1];exact .ite (fun _=>.ok) fun _=>naD hp (.assign c _) rfl (fun n l1 _=>.need fun _=>.ok) fun n=>.need (za5 _ _)
   ·rw [if_neg (by rw [zgv (by omega)];decide)]
    exact .dead (.nd (zca (.assign c _) (List.drop_eq_nil_of_le (by omega)) rfl fun e=>by cases e))
  ·refine .ite (fun _=>?_) fun _=>.fail
   rw [dp hp];exact .need fun _=>.ok
  ·exact naD hp (.assign c _) rfl (fun n l1 _=>.need fun _=>.ok) fun n=>.need (za5 _ _)
  ·exact xD hC hp (.tryS c _) rfl (zab hs (d1 h) (zah _)) fun e l1 h1=>.ok
 | inner c l =>
  change 0 < l.length at hp;rw [zac,zac (s:=.put _ _)];show Exc z (zd1 ev c l) (zd1 ev c (l++z));unfold zd1
  by_cases hA:isT l 0 zat=true->1 < l.length
  ·simp only [zta hp hA];exact .ite (fun _=>.fail) fun _=>xS hC (.stmt c l) (zaj hs .rfl (oT rfl))
  ·rw [Classical.not_imp] at hA;exact .dead (.ite (fun _=>.fail) fun _=>zjd (by omega) hA.1)
 | body c l =>
  rw [zac,zac (s:=.put _ _)];exact xS hC (.inner { c with lp:=true } l) (zaj hs .rfl (oT rfl))
 | loops c l =>
  rw [zac,zac (s:=.put _ _)];show Exc z (zd0 ev c l) (zd0 ev c (l++z));unfold zd0;refine .need fun h=>?_
  have h0:Les l (l.drop 1):=d1 h;generalize l.drop 1=l0 at h0 ⊢;have low:l0 ≠ []->Exc z (if isT l0 0 zfd || isT l0 0 zay then ndR (ev (.decl c l0)) fun n l1=>zbl ev c n l1 else if isT l0 0 zbs then zbl ev c (nd 37 []) l0 else ndR (ev (.assign c l0)) fun n l1=>zbl ev c (nd 26 [n]) l1)
    (if isT (l0++z) 0 zfd || isT (l0++z) 0 zay then ndR (ev (.decl c (l0++z))) fun n l1=>zbl ev c n l1 else if isT (l0++z) 0 zbs then zbl ev c (nd 37 []) (l0++z) else ndR (ev (.assign c (l0++z))) fun n l1=>zbl ev c (nd 26 [n]) l1):=fun hl=>by
   have hd:∀ a,zc2 (zbl ev c a []):=fun a=>.need (za5 _ _)
   simp only [zbc (zbu hl)];exact .ite (fun _=>.na (s':=.decl c l0) (fun n l1 h1=>zoq hC hs _ _ _ (h0.trans h1)) fun n=>hd _) fun _=>.ite (fun _=>zoq hC hs _ _ _ h0) fun _=>.na (s':=.assign c l0) (fun n l1 h1=>zoq hC hs _ _ _ (h0.trans h1)) fun n=>hd _
  have dnil:l0=[]->zc2 (if isT l0 0 zfd || isT l0 0 zay then ndR (ev (.decl c l0)) fun n l1=>zbl ev c n l1 else if isT l0 0 zbs then zbl ev c (nd 37 []) l0 else ndR (ev (.assign c l0)) fun n l1=>zbl ev c (nd 26 [n]) l1):=fun hl=>by
   rw [hl,za5,za5,za5];exact .ite (fun h=>by cases h) fun _=>.ite (fun h=>by cases h) fun _=>.nd (zca (.assign c []) rfl rfl fun e=>by cases e)
  by_cases h3:2 < l0.length
  ·have hp0:0 < l0.length:=by omega
   have low':=low (List.length_pos_iff.1 hp0);rw [zbc hp0,zbc hp0,zlc (show 1 < l0.length by omega),zbc h3] at *
   refine .ite (fun _=>?_) fun _=>low'
   rw [Ext.drop (show 3<=l0.length by omega),ztl (show 1 < l0.length by omega)]
   exact .na (s':=.assign c (l0.drop 3)) (fun e l1 h1=>.need fun _=>xN hC (.body c _) (mL hs h0 _ (Leq.trans (Leq.trans sd h1) sd)) fun _ _ _=>.ok) fun n=>.need (za5 _ _)
  ·have hx:¬ ((isT l0 0 zfd || isT l0 0 zay) && (decide (kd l0 1=1) && isT l0 2 wOf))=true:=by
    rw [zgv (show l0.length<=2 by omega),Bool.and_false,Bool.and_false];decide
   rw [if_neg hx]
   by_cases hl:l0=[]
   ·exact .dead (dnil hl)
   have hp0:=zbu hl;have low':=low hl
   cases hw:(isT l0 0 zfd || isT l0 0 zay) with
   | true =>
    refine .dead ?_;rw [if_pos rfl];refine .nd2 fun n l1 e=>?_
    rw [zac] at e;have h5:=(zcd (s:=.declL (if isT l0 0 zay then 25 else 24) [] c (l0.drop 1)) e).2.2 rfl rfl
    have h6:l1.length < (l0.drop 1).length:=h5.2;rw [lLD] at h6;unfold zbl;exact .need (zgv (by omega))
   | false =>
    have hw':(isT (l0++z) 0 zfd || isT (l0++z) 0 zay)=false:=by rw [zbc hp0,zbc hp0];exact hw
    rw [hw,hw'] at low';rw [hw',Bool.false_and];exact low'
 | tryS c l =>
  rw [zac,zac (s:=.put _ _)];show Exc z (zo4 ev c l) (zo4 ev c (l++z));unfold zo4;refine .nd (xS hC (.block c l) (zaj hs .rfl (oT rfl))) fun a l1 e=>?_
  have h1:Les l l1:=(zcd e).2.2 rfl rfl;refine .is hz.c (fun h2=>?_) (zop hC hz hs _ _ _ h1)
  have hp1:=zag h2
  by_cases h3:1 < l1.length
  ·rw [zbc h3];refine .ite (fun _=>?_) fun _=>xD hC hp1 (.block c _) rfl (mL hs h1 _ sd) fun b l2 h4=>zop hC hz hs _ _ _ (h1.trans (Leq.trans sd h4))
   rw [dp2 h3];exact .name fun _=>.need fun _=>xN hC (.block c _) (mL hs h1 _ (Leq.trans (Leq.trans sd sd) sd)) fun b l4 h4=>zop hC hz hs _ _ _ (h1.trans (Leq.trans (Leq.trans (Leq.trans sd sd) sd) h4))
  ·rw [if_neg (by rw [zgv (by omega)];decide)]
   exact .dead (.nd (zca (.block c _) (List.drop_eq_nil_of_le (by omega)) rfl fun e=>by cases e))
 | block c l =>
  rw [zac,zac (s:=.put _ _)];show Exc z (zd2 ev c l) (zd2 ev c (l++z));unfold zd2;exact .need fun h=>xS hC (.blockL [] c _) (zab hs (d1 h) (zah _))
 | blockL acc c l =>
  change 0 < l.length at hp;rw [zac,zac (s:=.put _ _)];show Exc z (zcc ev acc c l) (zcc ev acc c (l++z));unfold zcc;rw [zbc hp,if_neg (List.length_pos_iff.1 hp),if_neg (List.append_ne_nil_of_left_ne_nil (List.length_pos_iff.1 hp) _)];refine .ite (fun _=>by rw [dp hp];exact .ok) fun _=>.nd (xS hC (.stmt c l) (zaj hs .rfl (oT rfl))) fun n l1 e=>xS hC (.blockL _ c l1) (zab hs ((zcd e).2.2 rfl rfl) (zah _))
 | func d c l =>
  change 0 < l.length at hp;rw [zac,zac (s:=.put _ _)];show Exc z (zex ev d c l) (zex ev d c (l++z));have f3:∀ (o:Int) (nm:Bs) (l3:Ts),Les l l3->Exc z (bnd (zax l3) fun ps l4=>ndR (ev (.block (zai o) l4)) fun b l5=>okR (Rv.nd (.mk 11 nm 0 o (ps++[b]))) l5) (bnd (zax (l3++z)) fun ps l4=>ndR (ev (.block (zai o) l4)) fun b l5=>okR (Rv.nd (.mk 11 nm 0 o (ps++[b]))) l5):=fun o nm l3 h3 =>
   .bnd zzm fun ps l4 e=>xN hC (.block _ l4) (mL hs h3 _ (by
    obtain ⟨o',ho,hP⟩:=zcv l3;rw [e] at ho
    cases ho
    exact (hP _ _ rfl).1)) fun _ _ _=>.ok
  have f2:∀ (o:Int) (l2:Ts),Les l l2->Exc z (if d || decide (kd l2 0=1) then zb3 l2 fun nm l3=>bnd (zax l3) fun ps l4=>ndR (ev (.block (zai o) l4)) fun b l5=>okR (Rv.nd (.mk 11 nm 0 o (ps++[b]))) l5 else bnd (zax l2) fun ps l4=>ndR (ev (.block (zai o) l4)) fun b l5=>okR (Rv.nd (.mk 11 [] 0 o (ps++[b]))) l5)
    (if d || decide (kd (l2++z) 0=1) then zb3 (l2++z) fun nm l3=>bnd (zax l3) fun ps l4=>ndR (ev (.block (zai o) l4)) fun b l5=>okR (Rv.nd (.mk 11 nm 0 o (ps++[b]))) l5 else bnd (zax (l2++z)) fun ps l4=>ndR (ev (.block (zai o) l4)) fun b l5=>okR (Rv.nd (.mk 11 [] 0 o (ps++[b]))) l5):=fun o l2 h2=>by
   by_cases hl:l2=[]
   ·subst hl;refine .dead (.ite (fun _=>?_) fun _=>.bnd ?_)
    ·unfold zb3;rw [zgu,if_neg (by decide)];exact .fail
    ·unfold zax;exact .need (za5 _ _)
   ·rw [zlc (zbu hl)];exact .ite (fun _=>.name fun hk=>f3 _ _ _ (h2.trans sd)) fun _=>f3 _ _ _ h2
  have f1:∀ (o0:Int) (l0:Ts),Leq l l0->Exc z (zaq za4 l0 fun l1=>if d || decide (kd (if decide (o0=1) && isT l1 0 zbx then l1.drop 1 else l1) 0=1) then zb3 (if decide (o0=1) && isT l1 0 zbx then l1.drop 1 else l1) fun nm l3=>bnd (zax l3) fun ps l4=>ndR (ev (.block (zai (if decide (o0=1) && isT l1 0 zbx then 3 else o0)) l4)) fun b l5=>okR (Rv.nd (.mk 11 nm 0 (if decide (o0=1) && isT l1 0 zbx then 3 else o0) (ps++[b]))) l5 else bnd (zax (if decide (o0=1) && isT l1 0 zbx then l1.drop 1 else l1)) fun ps l4=>ndR (ev (.block (zai (if decide (o0=1) && isT l1 0 zbx then 3 else o0)) l4)) fun b l5=>okR (Rv.nd (.mk 11 [] 0 (if decide (o0=1) && isT l1 0 zbx then 3 else o0) (ps++[b]))) l5)
    (zaq za4 (l0++z) fun l1=>if d || decide (kd (if decide (o0=1) && isT l1 0 zbx then l1.drop 1 else l1) 0=1) then zb3 (if decide (o0=1) && isT l1 0 zbx then l1.drop 1 else l1) fun nm l3=>bnd (zax l3) fun ps l4=>ndR (ev (.block (zai (if decide (o0=1) && isT l1 0 zbx then 3 else o0)) l4)) fun b l5=>okR (Rv.nd (.mk 11 nm 0 (if decide (o0=1) && isT l1 0 zbx then 3 else o0) (ps++[b]))) l5 else bnd (zax (if decide (o0=1) && isT l1 0 zbx then l1.drop 1 else l1)) fun ps l4=>ndR (ev (.block (zai (if decide (o0=1) && isT l1 0 zbx then 3 else o0)) l4)) fun b l5=>okR (Rv.nd (.mk 11 [] 0 (if decide (o0=1) && isT l1 0 zbx then 3 else o0) (ps++[b]))) l5):=fun o0 l0 h0=>by
   refine .need fun hf=>?_
   have h1:Les l (l0.drop 1):=h0.trans' (d1 hf);generalize l0.drop 1=l1 at h1 ⊢
   by_cases hl:l1=[]
   ·subst hl;rw [za5,Bool.and_false];refine .dead (.ite (fun _=>?_) fun _=>.bnd ?_)
    ·unfold zb3;rw [if_neg (by rw [if_neg (by decide),zgu];decide)];exact .fail
    ·unfold zax;exact .need (za5 _ _)
   ·rw [zbc (zbu hl)]
    cases hc:(decide (o0=1) && isT l1 0 zbx) with
    | true =>
     simp only [if_true,dp (zbu hl)];exact f2 3 _ (h1.trans sd)
    | false=>exact f2 o0 _ h1
  unfold zex;rw [zbc hp]
  cases ha:isT l 0 zat with
  | true =>
   simp only [if_true,dp hp];exact f1 4 _ sd
  | false=>exact f1 1 _ .rfl
 | _=>cases hst
end
theorem z32 {z:Ts} (hz:NoGo z):∀ (m:Nat) (s:Sy),s.meas < m->s.stm=true->s.l ≠ []->Exc z (ev s) (ev (s.put (s.l++z)))
 | 0,_,h,_,_=>by omega
 | m + 1,s,h,hs,hl=>z50 (fun s h hs hl=>z32 hz m s h hs hl) hz s (by omega) hs hl
def cx0:Cx:=⟨false,false,false,false⟩
def zia:Nat->List PT->Ts->Option (List PT)
 | 0,_,_=>none
 | n + 1,acc,l=>if l=[] then some acc else match ev (.stmt cx0 l) with
  | some (some (.nd x,l1))=>zia n (acc++[x]) l1
  | _=>none
theorem zns:∀ (n m:Nat) (acc:List PT) (l:Ts),l.length < n->l.length < m->zia n acc l=zia m acc l
 | 0,_,_,_,h,_=>by omega
 | n + 1,0,_,_,_,h=>by omega
 | n + 1,m + 1,acc,l,h,h'=>by
  rw [zia,zia]
  split
  ·rfl
  ·split
   ·rename_i x l1 e;have h1:Les l l1:=(zcd e).2.2 rfl rfl
    have:=h1.2
    exact zns n m _ _ (by omega) (by omega)
   ·rfl
def zqo (l:Ts):Option (List PT):=zia (l.length + 1) [] l
theorem zq3:∀ (n:Nat) (acc:List PT) (l:Ts),zia n acc l=(zia n [] l).map (acc++·)
 | 0,_,_=>rfl
 | n + 1,acc,l=>by
  rw [zia,zia]
  split
  ·simp
  ·split
   ·rename_i x l1 e;rw [zq3 n (acc++[x]),zq3 n ([]++[x])]
    cases zia n [] l1 <;> simp
   ·rfl
theorem zxl {c:Cx} {l:Ts} {w:Bs} (h:isT l 0 w=true) (hw:w=ztj\/w=zm0\/w=zff):zc2 (ev (.stmt c l)):=by
 have hn:∀ s:Bs,s ≠ ztj->s ≠ zm0->s ≠ zff->isT l 0 s=false:=fun s h1 h2 h3=>zgy h fun e=>by
  subst e
  rcases hw with e|e|e
  ·exact h1 e
  ·exact h2 e
  ·exact h3 e
 have hk:=zi9 h;have hd:∀ l',l'=l->zc2 (zhd ev c l'):=fun l' e=>by
  subst e;refine zc2.nd (zje ?_ ?_ (hn _ (by decide) (by decide) (by decide)) (hn _ (by decide) (by decide) (by decide)) ?_)
  ·rw [zac];show zc2 (zdj ev c l');unfold zdj;rw [if_neg (by rcases hk with e|e <;> (rw [e];decide)),if_neg (by rcases hk with e|e <;> (rw [e];decide)),if_neg (by rcases hk with e|e <;> (rw [e];decide))]
   rw [hn zkg (by decide) (by decide) (by decide),hn zpe (by decide) (by decide) (by decide),hn zpb (by decide) (by decide) (by decide),hn zkh (by decide) (by decide) (by decide),hn zpc (by decide) (by decide) (by decide),hn zbo (by decide) (by decide) (by decide),hn zmz (by decide) (by decide) (by decide),hn zg0 (by decide) (by decide) (by decide),hn za4 (by decide) (by decide) (by decide),hn zat (by decide) (by decide) (by decide)]
   exact .fail
  ·rw [ztg (hn zat (by decide) (by decide) (by decide)),if_neg (by rcases hk with e|e <;> (rw [e];decide)),hn zbo (by decide) (by decide) (by decide)]
   rfl
  ·unfold zer;rw [zh3 h]
   rcases hw with e|e|e <;> subst e <;> rcases hk with e|e <;> (rw [e];decide)
 rw [zac];show zc2 (zfe ev c l);unfold zfe;rw [show zbt l=false by unfold zbt;rw [hn zfd (by decide) (by decide) (by decide),hn zay (by decide) (by decide) (by decide),hn za4 (by decide) (by decide) (by decide),hn zat (by decide) (by decide) (by decide)];rfl]
 rw [hn zfd (by decide) (by decide) (by decide),hn zay (by decide) (by decide) (by decide),hn zg0 (by decide) (by decide) (by decide),hn zbs (by decide) (by decide) (by decide)]
 refine .ite (fun h=>by cases h) fun _=>.ite (fun h=>by cases h) fun _=>.ite (fun h=>by cases h) fun _=>.ite (fun h=>by cases h) fun _=>.ite (fun _=>?_) fun _=>hd _ rfl
 rw [zod fun w' hm=>hn w' (fun e=>by subst e;exact absurd hm (by decide)) (fun e=>by subst e;exact absurd hm (by decide)) (fun e=>by subst e;exact absurd hm (by decide))]
 exact hd _ rfl
theorem zys {n:Nat} {acc ks:List PT} {z:Ts} (h:zia n acc z=some ks):NoGo z:=by
 have key:∀ w,(w=ztj\/w=zm0\/w=zff)->isT z 0 w=false:=fun w hw=>by
  cases e:isT z 0 w with
  | false=>rfl
  | true =>
   cases n with
   | zero=>cases h
   | succ n =>
    rw [zia,if_neg (List.length_pos_iff.1 (zag e))] at h
    split at h
    ·rename_i x l1 e2;exact absurd e2 (zxl e hw _)
    ·cases h
 exact ⟨key _ (.inl rfl),key _ (.inr (.inl rfl)),key _ (.inr (.inr rfl))⟩
theorem zvr {ks ks':List PT} {z:Ts} (hz:zqo z=some ks'):∀ (n:Nat) (acc:List PT) (l:Ts),l.length < n->zia n acc l=some ks->zia (n + z.length + 1) acc (l++z)=some (ks++ks')
 | 0,_,_,h,_=>by omega
 | n + 1,acc,l,hn,h=>by
  rw [zia] at h
  by_cases hl:l=[]
  ·subst hl;rw [if_pos rfl] at h
   cases h
   rw [lNA,zns _ (z.length + 1) _ z (by omega) (nLS _),zq3]
   unfold zqo at hz;rw [hz];rfl
  ·rw [if_neg hl] at h
   split at h
   ·rename_i x l1 e;have h1:Les l l1:=(zcd e).2.2 rfl rfl;have h2:ev (.stmt cx0 (l++z))=some (some (.nd x,l1++z)):=z32 (zys hz) _ (.stmt cx0 l) (nLS _) rfl hl _ _ e;rw [show n + 1 + z.length + 1=(n + z.length + 1) + 1 by omega,zia,if_neg (List.append_ne_nil_of_left_ne_nil hl _),h2]
    have:=h1.2
    exact zvr hz n _ l1 (by omega) h
   ·cases h
theorem zyt {ks ks':List PT} {l z:Ts} (h:zqo l=some ks) (hz:zqo z=some ks'):zqo (l++z)=some (ks++ks'):=by
 have:=zvr hz (l.length + 1) [] l (nLS _) h
 unfold zqo;rw [<-this];exact zns _ _ _ _ (nLS _) (by rw [lLA];omega)
theorem zsm:∀ (n:Nat) (acc:List PT) (l:Ts) {ks:List PT},(∀ t ∈ l,z3r t)->zia n acc l=some ks->∀ k,zo6 k l=k
 | 0,_,_,_,_,h=>by cases h
 | n + 1,acc,l,ks,hT,h=>by
  rw [zia] at h
  by_cases hl:l=[]
  ·subst hl;exact fun _=>rfl
  ·rw [if_neg hl] at h
   split at h
   ·rename_i x l1 e;obtain ⟨d,hd,hr⟩:=bal _ (.stmt cx0 l) (nLS _) trivial hT _ _ e;intro k;change l=d++l1 at hd;rw [hd,zos]
    have:=hr k
    rw [show k + Sy.ob (.stmt cx0 l)=k from rfl,show k + 0=k from rfl] at this;rw [this];exact zsm n _ l1 (fun t ht=>hT t (by rw [hd];exact List.mem_append_right _ ht)) h k
   ·cases h
end Go.Proofs.YtcfecmeocimclaaGreatDoor

/- Own work,plain: the nodes that the parser makes have few parts. -/
namespace Go.Proofs.YtcfecmeocimclaaGreatDoor
set_option linter.unusedSimpArgs false
set_option linter.unusedVariables false
mutual
def zfc:PT->Prop
 | .mk _ _ _ _ ks=>ks.length<=2000000/\zep ks
def zep:List PT->Prop
 | []=>True
 | k :: ks=>zfc k/\zep ks
end
theorem zed:∀ {a b:List PT},zep a->zep b->zep (a++b)
 | [],_,_,h=>h
 | x :: a,b,h,h'=>by
  rw [zep] at h;rw [lCA,zep];exact ⟨h.1,zed h.2 h'⟩
theorem zo9 {x:PT} (h:zfc x):zep [x]:=by rw [zep,zep];exact ⟨h,trivial⟩
theorem zft {k i o:Int} {nm:Bs} {ks:List PT} (h:ks.length<=2000000) (h':zep ks):zfc (.mk k nm i o ks):=by rw [zfc];exact ⟨h,h'⟩
theorem zmy {k i o:Int} {nm:Bs}:zfc (.mk k nm i o []):=zft (Nat.zero_le _) (by rw [zep];trivial)
theorem zfu {k i o:Int} {nm:Bs} {x:PT} (h:zfc x):zfc (.mk k nm i o [x]):=zft (show 1<=2000000 by decide) (zo9 h)
theorem zqy {k i o:Int} {nm:Bs} {x y:PT} (h:zfc x) (h2:zfc y):zfc (.mk k nm i o [x,y]):=zft (show 2<=2000000 by decide) (by rw [zep];exact ⟨h,zo9 h2⟩)
theorem z3v {k i o:Int} {nm:Bs} {x y z:PT} (h:zfc x) (h2:zfc y) (h3:zfc z):zfc (.mk k nm i o [x,y,z]):=zft (show 3<=2000000 by decide) (by rw [zep,zep];exact ⟨h,h2,zo9 h3⟩)
theorem z3u {k i o:Int} {nm:Bs} {x y z v:PT} (h:zfc x) (h2:zfc y) (h3:zfc z) (h4:zfc v):zfc (.mk k nm i o [x,y,z,v]):=zft (show 4<=2000000 by decide) (by rw [zep,zep,zep];exact ⟨h,h2,h3,zo9 h4⟩)
theorem zvd {k i o:Int} {nm:Bs} {ks:List PT} {x:PT} (h:zep ks) (hl:ks.length<=1000000) (h2:zfc x):zfc (.mk k nm i o (ks++[x])):=zft (by rw [lLA];show ks.length + 1<=2000000;omega) (zed h (zo9 h2))
def Rv.wd:Rv->Prop
 | .nd n=>zfc n
 | .nb n _=>zfc n
 | .ls ks=>zep ks/\ks.length<=1000000
def Sy.wpre (s:Sy):Prop:=s.l.length<=1000000/\match s with
 | .declL _ acc _ l|.blockL acc _ l|.list2L _ acc _ l|.fieldsL acc _ l=>zep acc/\acc.length + l.length<=1000000
 | .opndL _ n _ _|.link n _ _|.chainN n _ _|.chainL n _ _=>zfc n
 | _=>True
def Wd {α:Type} (P:α->Ts->Prop) (x:Re α):Prop:=∀ a l,x=some (some (a,l))->P a l
section
variable {α β:Type} {P:α->Ts->Prop} {l:Ts}
theorem Wd.fail:Wd P zea:=fun _ _ h=>by cases h
theorem Wd.ok {a:α} (h:P a l):Wd P (okR a l):=fun _ _ e=>by cases e;exact h
theorem Wd.bnd {Q:β->Ts->Prop} {x:Re β} {k:β->Ts->Re α} (h:Wd Q x) (hk:∀ b l1,Q b l1->Wd P (k b l1)):Wd P (bnd x k):=fun a l2 he=>by
 cases hx:x with
 | none=>rw [hx] at he;cases he
 | some o =>
  cases o with
  | none=>rw [hx] at he;cases he
  | some p =>
   rw [hx] at he;exact hk p.1 p.2 (h _ _ hx) a l2 he
theorem Wd.ite {c:Prop} [Decidable c] {x y:Re α} (h1:c->Wd P x) (h2:¬ c->Wd P y):Wd P (if c then x else y):=by
 split
 ·exact h1 (by assumption)
 ·exact h2 (by assumption)
theorem Wd.need {s:Bs} {k:Ts->Re α} (h:isT l 0 s=true->Wd P (k (l.drop 1))):Wd P (zaq s l k):=.ite h fun _=>.fail
theorem Wd.name {k:Bs->Ts->Re α} (h:kd l 0=1->Wd P (k (tx l 0) (l.drop 1))):Wd P (zb3 l k):=.ite h fun _=>.fail
end
abbrev WdV (x:Re Rv):Prop:=Wd (fun v _=>v.wd) x
theorem okN {n:PT} {l:Ts} (h:zfc n):WdV (okR (.nd n) l):=Wd.ok (P:=fun (v:Rv) _=>v.wd) h
theorem okB {n:PT} {b:Bool} {l:Ts} (h:zfc n):WdV (okR (.nb n b) l):=Wd.ok (P:=fun (v:Rv) _=>v.wd) h
theorem okL {n:List PT} {l:Ts} (h:zep n/\n.length<=1000000):WdV (okR (.ls n) l):=Wd.ok (P:=fun (v:Rv) _=>v.wd) h
theorem zsa:∀ (n:Nat) (acc:List PT) (l:Ts),zep acc->acc.length + l.length<=1000000->Wd (fun ps l'=>zep ps/\ps.length + l'.length<=1000000) (zcx n acc l)
 | 0,_,_,_,_=>fun _ _ e=>by cases e
 | n + 1,acc,l,h,hl=>by
  rw [zcx];have h7:∀ s:Bs,zep (acc++[ndN 7 s []]):=fun s=>zed h (zo9 zmy)
  refine .name fun hk=>?_
  have hp:=zaw hk (by decide)
  refine .ite (fun h1=>.ite (fun _=>.ok ⟨h7 _,?_⟩) fun _=>.fail) fun _=>.need fun h1=>zsa n _ _ (h7 _) ?_
  ·simp only [lLA,lLD,lLS];omega
  ·simp only [lLA,lLD,lLS];omega
theorem zvf {l:Ts} (hl:l.length<=1000000):Wd (fun ps l'=>zep ps/\ps.length + l'.length<=1000000) (zax l):=by
 unfold zax;refine .need fun h=>.ite (fun _=>.ok ⟨by rw [zep];trivial,?_⟩) fun _=>zsa _ _ _ (by rw [zep];trivial) ?_
 ·simp only [List.length_nil,lLD];omega
 ·simp only [List.length_nil,lLD];omega
section
variable {m:Nat} (hW:∀ s:Sy,s.meas < m->s.wpre->WdV (ev s))
include hW
theorem wN (s':Sy) (h:s'.meas < m) (hp:s'.wpre) {k:PT->Ts->Re Rv} (hk:∀ n l1,zfc n->Leq s'.l l1->WdV (k n l1)):WdV (ndR (ev s') k):=by
 refine .bnd (Q:=fun v l1=>v.wd/\Leq s'.l l1) (fun v l e=>⟨hW s' h hp v l e,(zcd e).2.1⟩) fun v l1 ⟨h1,h2⟩=>?_
 cases v with
 | nd n=>exact hk n l1 h1 h2
 | nb n b=>exact fun _ _ e=>by cases e
 | ls n=>exact fun _ _ e=>by cases e
theorem wE {s:Sy} (hs:s.meas<=m) (s':Sy) (h:Leq s.l s'.l) (hr:s'.rank < s.rank) (hx:s'.lax=false) (hp:s'.wpre) {k:PT->Ts->Re Rv} (hk:∀ n l1,zfc n->Les s.l l1->WdV (k n l1)):WdV (ndR (ev s') k):=by
 refine .bnd (Q:=fun v l1=>v.wd/\s'.post v l1) (fun v l e=>⟨hW s' (zaj hs h hr) hp v l e,zcd e⟩) fun v l1 ⟨h1,h2⟩=>?_
 cases v with
 | nd n=>exact hk n l1 h1 (h.trans' (h2.2.2 hx rfl))
 | nb n b=>exact fun _ _ e=>by cases e
 | ls n=>exact fun _ _ e=>by cases e
theorem wL (s':Sy) (h:s'.meas < m) (hp:s'.wpre) {k:List PT->Ts->Re Rv} (hk:∀ n l1,zep n->n.length<=1000000->Leq s'.l l1->WdV (k n l1)):WdV (lsR (ev s') k):=by
 refine .bnd (Q:=fun v l1=>v.wd/\Leq s'.l l1) (fun v l e=>⟨hW s' h hp v l e,(zcd e).2.1⟩) fun v l1 ⟨h1,h2⟩=>?_
 cases v with
 | ls n=>exact hk n l1 h1.1 h1.2 h2
 | nb n b=>exact fun _ _ e=>by cases e
 | nd n=>exact fun _ _ e=>by cases e
theorem wB {s:Sy} (hs:s.meas<=m) (s':Sy) (h:Leq s.l s'.l) (hr:s'.rank < s.rank) (hx:s'.lax=false) (hp:s'.wpre) {k:PT->Bool->Ts->Re Rv} (hk:∀ n b l1,zfc n->PB s.l b l1->WdV (k n b l1)):WdV (nbR (ev s') k):=by
 refine .bnd (Q:=fun v l1=>v.wd/\s'.post v l1) (fun v l e=>⟨hW s' (zaj hs h hr) hp v l e,zcd e⟩) fun v l1 ⟨h1,h2⟩=>?_
 cases v with
 | nb n b=>exact hk n b l1 h1 ⟨h.trans h2.2.1,fun hb=>h.trans' (h2.2.2 hx hb)⟩
 | nd n=>exact fun _ _ e=>by cases e
 | ls n=>exact fun _ _ e=>by cases e
theorem z0j (c:Cx) (l:Ts) (h:(Sy.assign c l).meas < m) (hl:l.length<=1000000):WdV (zhd ev c l):=wN hW (.assign c l) h ⟨hl,trivial⟩ fun n l1 hn _=>.need fun _=>okN (zfu hn)
theorem z3w (s:Sy) (hs:s.meas<=m) (hp:s.wpre):WdV (zms ev s):=by
 have hl:=hp.1;have ml:∀ {l:Ts},Les s.l l->∀ (s':Sy),Leq l s'.l->s'.meas < m:=fun h s' h'=>mL hs h s' h'
 have ln:∀ {l:Ts},Leq s.l l->l.length<=1000000:=fun h=>Nat.le_trans h.len hl
 have fe:∀ (c:Cx) (a:PT) (l:Ts),zfc a->Les s.l l->WdV (zbl ev c a l):=fun c a l ha h=>by
  unfold zbl;have third:∀ (b:PT) (l2:Ts),zfc b->Les s.l l2->WdV (zaq zbs l2 fun l3 =>
   if isT l3 0 zao then ndR (ev (.body c (l3.drop 1))) fun s l5=>okR (Rv.nd (nd 30 [a,b,nd 37 [],s])) l5
   else ndR (ev (.assign c l3)) fun d l4=>zaq zao l4 fun l5=>ndR (ev (.body c l5)) fun s l6=>okR (Rv.nd (nd 30 [a,b,d,s])) l6):=fun b l2 hb h2 =>
   .need fun _=>.ite (fun _=>wN hW (.body c _) (ml h2 _ (Leq.trans sd sd)) ⟨ln (h2.leq.trans (Leq.trans sd sd)),trivial⟩ fun x _ hx _=>okN (z3u ha hb zmy hx)) fun _=>wN hW (.assign c _) (ml h2 _ sd) ⟨ln (h2.leq.trans sd),trivial⟩ fun d l4 hd h4=>.need fun _=>wN hW (.body c _) (ml h2 _ (Leq.trans (Leq.trans sd h4) sd)) ⟨ln (h2.leq.trans (Leq.trans (Leq.trans sd h4) sd)),trivial⟩ fun x _ hx _=>okN (z3u ha hb hd hx)
  exact .need fun _=>.ite (fun _=>third _ _ zmy (h.trans sd)) fun _=>wN hW (.assign c _) (ml h _ sd) ⟨ln (h.leq.trans sd),trivial⟩ fun b l2 hb h2=>third b l2 hb (h.trans (Leq.trans sd h2))
 have te:∀ (c:Cx) (ks:List PT) (l:Ts),zep ks->ks.length<=2->Les s.l l->WdV (zcz ev c ks l):=fun c ks l hk h2 h=>by
  unfold zcz;exact .ite (fun _=>wN hW (.block c _) (ml h _ sd) ⟨ln (h.leq.trans sd),trivial⟩ fun x _ hx _=>okN (zvd hk (by omega) hx)) fun _=>.ite (fun _=>.fail) fun _=>okN (zft (by omega) hk)
 cases s with
 | stmt c l =>
  show WdV (zfe ev c l);unfold zfe;exact .ite (fun _=>wN hW (.decl c l) (zaj hs .rfl (oT rfl)) ⟨hl,trivial⟩ fun n l1 hn _=>.need fun _=>okN hn) fun _=>.ite (fun _=>hW (.func true c l) (zaj hs .rfl (oT rfl)) ⟨hl,trivial⟩) fun _=>.ite (fun _=>hW (.block c l) (zaj hs .rfl (oT rfl)) ⟨hl,trivial⟩) fun _=>.ite (fun _=>okN zmy) fun _ =>
   .ite (fun _=>wB hW hs (.keyw c l) .rfl (oT rfl) rfl ⟨hl,trivial⟩ fun n b l1 hn h1=>.ite (fun _=>okN hn) fun _=>z0j hW c l1 (zaj hs h1.1 (oT rfl)) (ln h1.1)) fun _=>z0j hW c l (zaj hs .rfl (oT rfl)) hl
 | keyw c l =>
  show WdV (zf0 ev c l);unfold zf0;refine .ite (fun h=>?_) fun _=>.ite (fun h=>?_) fun _=>.ite (fun h=>?_) fun _=>.ite (fun h=>?_) fun _=>.ite (fun h=>?_) fun _=>.ite (fun h=>?_) fun _=>.ite (fun h=>?_) fun _=>okB zmy
  ·exact wN hW (.condn c _) (zab hs (d1 h) (zah _)) ⟨ln sd,trivial⟩ fun e l1 he h1=>wN hW (.inner c l1) (mL hs (d1 h) _ h1) ⟨ln (Leq.trans sd h1),trivial⟩ fun a l2 ha h2=>.ite (fun h3=>wN hW (.inner c _) (mL hs (d1 h) _ ((sO h1 h2).trans sd)) ⟨ln (Leq.trans sd ((sO h1 h2).trans sd)),trivial⟩ fun x _ hx _=>okB (z3v he ha hx)) fun _=>okB (zqy he ha)
  ·exact wN hW (.condn c _) (zab hs (d1 h) (zah _)) ⟨ln sd,trivial⟩ fun e l1 he h1=>wN hW (.body c l1) (mL hs (d1 h) _ h1) ⟨ln (Leq.trans sd h1),trivial⟩ fun a l2 ha h2=>okB (zqy he ha)
  ·exact wN hW (.loops c _) (zab hs (d1 h) (zah _)) ⟨ln sd,trivial⟩ fun e l1 he h1=>okB he
  ·exact .ite (fun _=>.ite (fun _=>okB zmy) fun _=>wN hW (.assign c _) (zab hs (d1 h) (zah _)) ⟨ln sd,trivial⟩ fun n l1 hn _=>.need fun _=>okB (zfu hn)) fun _=>.fail
  ·exact .ite (fun _=>.need fun _=>okB zmy) fun _=>.fail
  ·exact wN hW (.assign c _) (zab hs (d1 h) (zah _)) ⟨ln sd,trivial⟩ fun n l1 hn _=>.need fun _=>okB (zfu hn)
  ·exact wN hW (.tryS c _) (zab hs (d1 h) (zah _)) ⟨ln sd,trivial⟩ fun e l1 he h1=>okB he
 | condn c l =>
  show WdV (ze6 ev c l);unfold ze6;exact .need fun h=>wN hW (.assign c _) (zab hs (d1 h) (zah _)) ⟨ln sd,trivial⟩ fun n l1 hn _=>.need fun _=>okN hn
 | inner c l =>
  show WdV (zd1 ev c l);unfold zd1;exact .ite (fun _=>.fail) fun _=>hW (.stmt c l) (zaj hs .rfl (oT rfl)) ⟨hl,trivial⟩
 | body c l=>exact hW (.inner { c with lp:=true } l) (zaj hs .rfl (oT rfl)) ⟨hl,trivial⟩
 | loops c l =>
  show WdV (zd0 ev c l);unfold zd0;refine .need fun h=>?_
  have h0:=d1 h;generalize l.drop 1=l0 at h0 ⊢;exact .ite (fun _=>wN hW (.assign c _) (mL hs h0 _ sd) ⟨ln (h0.leq.trans sd),trivial⟩ fun e l1 he h1=>.need fun _=>wN hW (.body c _) (mL hs h0 _ (Leq.trans (Leq.trans sd h1) sd)) ⟨ln (h0.leq.trans (Leq.trans (Leq.trans sd h1) sd)),trivial⟩ fun x _ hx _=>okN (zqy he hx)) fun _ =>
   .ite (fun _=>wN hW (.decl c l0) (mL hs h0 _ .rfl) ⟨ln h0.leq,trivial⟩ fun n l1 hn h1=>fe _ _ _ hn (h0.trans h1)) fun _=>.ite (fun _=>fe _ _ _ zmy h0) fun _=>wN hW (.assign c l0) (mL hs h0 _ .rfl) ⟨ln h0.leq,trivial⟩ fun n l1 hn h1=>fe _ _ _ (zfu hn) (h0.trans h1)
 | tryS c l =>
  show WdV (zo4 ev c l);unfold zo4;exact wE hW hs (.block c l) .rfl (oT rfl) rfl ⟨hl,trivial⟩ fun a l1 ha h1=>.ite (fun _=>.ite (fun _=>.name fun _=>.need fun _=>wN hW (.block c _) (mL hs h1 _ (Leq.trans (Leq.trans sd sd) sd)) ⟨ln (h1.leq.trans (Leq.trans (Leq.trans sd sd) sd)),trivial⟩ fun b l4 hb h4=>te _ _ _ (by rw [zep];exact ⟨ha,zo9 (zfu hb)⟩) (nR 2) (h1.trans (Leq.trans (Leq.trans (Leq.trans sd sd) sd) h4))) fun _=>wN hW (.block c _) (mL hs h1 _ sd) ⟨ln (h1.leq.trans sd),trivial⟩ fun b l2 hb h4=>te _ _ _ (by rw [zep];exact ⟨ha,zo9 (zfu hb)⟩) (nR 2) (h1.trans (Leq.trans sd h4))) fun _=>te _ _ _ (zo9 ha) (show 1<=2 by decide) h1
 | decl c l=>exact hW (.declL (if isT l 0 zay then 25 else 24) [] c (l.drop 1)) (zaj hs sd (oT rfl)) ⟨ln sd,by rw [zep];trivial,by show 0 + (l.drop 1).length<=1000000;have:=ln (l:=l.drop 1) sd;omega⟩
 | declL k acc c l =>
  show WdV (ze5 ev k acc c l);unfold ze5;obtain ⟨_,h2,h3⟩:=hp;change acc.length + l.length<=1000000 at h3;refine .name fun hk=>?_
  have h0:Les l (l.drop 1):=zav (zaw hk (by decide)) 1 (nR 1) (nR 1)
  have next:∀ (d:PT) (l2:Ts),zfc d->Les l l2->WdV (if isT l2 0 zcw then ev (.declL k (acc++[d]) c (l2.drop 1)) else okR (Rv.nd (nd k (acc++[d]))) l2):=fun d l2 hd h4 =>
   .ite (fun h5=>hW (.declL k _ c _) (mL hs h4 _ sd) ⟨ln (h4.leq.trans sd),zed h2 (zo9 hd),by have:=h4.2;simp only [lLA,lLD,lLS];omega⟩) fun _=>okN (zvd h2 (by omega) hd)
  exact .ite (fun h1=>wN hW (.assign c _) (mL hs h0 _ sd) ⟨ln (h0.leq.trans sd),trivial⟩ fun e l2 he h4=>next _ _ (zfu he) (h0.trans (Leq.trans sd h4))) fun _=>.ite (fun _=>.fail) fun _=>next _ _ zmy h0
 | block c l =>
  show WdV (zd2 ev c l);unfold zd2;exact .need fun h=>hW (.blockL [] c _) (zab hs (d1 h) (zah _)) ⟨ln sd,by rw [zep];trivial,by show 0 + (l.drop 1).length<=1000000;have:=ln (l:=l.drop 1) sd;omega⟩
 | blockL acc c l =>
  show WdV (zcc ev acc c l);unfold zcc;obtain ⟨_,h2,h3⟩:=hp;change acc.length + l.length<=1000000 at h3;exact .ite (fun _=>okN (zft (by omega) h2)) fun _=>.ite (fun _=>.fail) fun _=>wE hW hs (.stmt c l) .rfl (oT rfl) rfl ⟨hl,trivial⟩ fun n l1 hn h1=>hW (.blockL _ c l1) (zab hs h1 (zah _)) ⟨ln h1.leq,zed h2 (zo9 hn),by have:l1.length < l.length:=h1.2;show (acc++[n]).length + l1.length<=1000000;simp only [lLA,lLS];omega⟩
 | func d c l =>
  show WdV (zex ev d c l);have f3:∀ (o:Int) (nm:Bs) (l3:Ts),Les l l3->WdV (bnd (zax l3) fun ps l4=>ndR (ev (.block (zai o) l4)) fun b l5=>okR (Rv.nd (.mk 11 nm 0 o (ps++[b]))) l5):=fun o nm l3 h3 =>
   .bnd (Q:=fun ps l'=>(zep ps/\ps.length + l'.length<=1000000)/\Leq l3 l') (fun ps l' e=>⟨zvf (ln h3.leq) ps l' e,by
    obtain ⟨o',ho,hP⟩:=zcv l3;rw [e] at ho
    cases ho
    exact (hP _ _ rfl).1⟩) fun ps l4 ⟨h4,h5⟩=>wN hW (.block _ l4) (mL hs h3 _ h5) ⟨ln (h3.leq.trans h5),trivial⟩ fun b _ hb _=>okN (zvd h4.1 (by omega) hb)
  have f2:∀ (o:Int) (l2:Ts),Les l l2->WdV (if d || decide (kd l2 0=1) then zb3 l2 fun nm l3=>bnd (zax l3) fun ps l4=>ndR (ev (.block (zai o) l4)) fun b l5=>okR (Rv.nd (.mk 11 nm 0 o (ps++[b]))) l5 else bnd (zax l2) fun ps l4=>ndR (ev (.block (zai o) l4)) fun b l5=>okR (Rv.nd (.mk 11 [] 0 o (ps++[b]))) l5):=fun o l2 h2 =>
   .ite (fun _=>.name fun _=>f3 _ _ _ (h2.trans sd)) fun _=>f3 _ _ _ h2
  unfold zex;refine .need fun hf=>?_
  have h1:Les l ((if isT l 0 zat=true then l.drop 1 else l).drop 1):=by
   have:Leq l (if isT l 0 zat=true then l.drop 1 else l):=by split <;> first|exact sd|exact .rfl
   exact this.trans' (d1 hf)
  generalize (if isT l 0 zat=true then l.drop 1 else l).drop 1=l1 at h1 ⊢
  refine f2 _ _ (h1.trans ?_);generalize (decide ((if isT l 0 zat=true then (4:Int) else 1)=1) && isT l1 0 zbx)=q
  cases q with
  | true=>exact sd
  | false=>exact .rfl
 | arrow c l =>
  show WdV (zdl ev c l);have f2:∀ (o:Int) (ps:List PT) (l1:Ts),zep ps->ps.length<=1000000->Les l l1->WdV (zaq zfv l1 fun l2 =>
   if isT l2 0 zg0 then ndR (ev (.block (zai o) l2)) fun b l3=>okR (Rv.nd (ndO 11 o (ps++[b]))) l3
   else ndR (ev (.assign (zai o) l2)) fun n l3=>okR (Rv.nd (ndO 11 o (ps++[nd 27 [nd 32 [n]]]))) l3):=fun o ps l1 h4 h5 h1 =>
   .need fun _=>.ite (fun _=>wN hW (.block _ _) (mL hs h1 _ sd) ⟨ln (h1.leq.trans sd),trivial⟩ fun b _ hb _=>okN (zvd h4 h5 hb)) fun _=>wN hW (.assign _ _) (mL hs h1 _ sd) ⟨ln (h1.leq.trans sd),trivial⟩ fun b _ hb _=>okN (zvd h4 h5 (zfu (zfu hb)))
  unfold zdl;have h0:Leq l (if isT l 0 zat=true then l.drop 1 else l):=by split <;> first|exact sd|exact .rfl
  generalize (if isT l 0 zat=true then l.drop 1 else l)=l0 at h0 ⊢
  exact .ite (fun _=>.bnd (Q:=fun ps l'=>(zep ps/\ps.length + l'.length<=1000000)/\Les l0 l') (fun ps l' e=>⟨zvf (ln h0) ps l' e,by
    obtain ⟨o',ho,hP⟩:=zcv l0;rw [e] at ho
    cases ho
    exact hP _ _ rfl⟩) fun ps l1 ⟨h4,h5⟩=>f2 _ _ _ h4.1 (by omega) (h0.trans' h5)) fun _=>.name fun hk=>f2 _ _ _ (zo9 zmy) (show 1<=1000000 by decide) (h0.trans' (zav (zaw hk (by decide)) 1 (nR 1) (nR 1)))
 | assign c l =>
  show WdV (zcj ev c l);unfold zcj;refine .ite (fun _=>hW (.arrow c l) (zaj hs .rfl (oT rfl)) ⟨hl,trivial⟩) fun _=>.ite (fun h=>.ite (fun _=>wN hW (.assign c _) (zab hs (d1 h) (zah _)) ⟨ln sd,trivial⟩ fun n _ hn _=>okN (zfu hn)) fun _=>.fail) fun _=>?_
  exact wE hW hs (.cond c l) .rfl (oT rfl) rfl ⟨hl,trivial⟩ fun n l1 hn h1=>.ite (fun _=>.ite (fun _=>okN hn) fun _=>.ite (fun _=>wN hW (.assign c _) (mL hs h1 _ sd) ⟨ln (h1.leq.trans sd),trivial⟩ fun x _ hx _=>okN (zqy hn hx)) fun _=>.fail) fun _=>okN hn
 | cond c l =>
  show WdV (zg5 ev c l);unfold zg5;exact wE hW hs (.opnd 0 c l) .rfl (oT rfl) rfl ⟨hl,trivial⟩ fun n l1 hn h1=>.ite (fun h=>wN hW (.assign c _) (mL hs h1 _ sd) ⟨ln (h1.leq.trans sd),trivial⟩ fun a l2 ha h2=>.need fun _=>wN hW (.assign c _) (mL hs h1 _ (Leq.trans (Leq.trans sd h2) sd)) ⟨ln (h1.leq.trans (Leq.trans (Leq.trans sd h2) sd)),trivial⟩ fun b _ hb _=>okN (z3v hn ha hb)) fun _=>okN hn
 | opnd k c l =>
  show WdV (ze3 ev k c l);unfold ze3;have r1:(Sy.unary c l).rank < (Sy.opnd k c l).rank:=by
   show 12 < if k<=6 then 26 - 2 * k else 14
   split <;> omega
  refine .ite (fun _=>hW (.unary c l) (zaj hs .rfl r1) ⟨hl,trivial⟩) fun h=>wE hW hs (.opnd (k + 1) c l) .rfl ?_ rfl ⟨hl,trivial⟩ fun n l1 hn h1=>hW (.opndL k n c l1) (zab hs h1 (zah _)) ⟨ln h1.leq,hn⟩
  show (if k + 1<=6 then 26 - 2 * (k + 1) else 14) < if k<=6 then 26 - 2 * k else 14
  rw [if_pos (by omega),if_pos (by omega)]
  omega
 | opndL k n c l =>
  show WdV (zeh ev k n c l);unfold zeh;have hn:zfc n:=hp.2;refine .ite (fun h=>.ite (fun _=>okN hn) fun hf=>?_) fun _=>okN hn
  have hp:0 < l.length:=by
   cases l with
   | nil=>exact absurd h (by decide)
   | cons x l=>exact Nat.succ_pos _
  have h0:Les l (l.drop 1):=zav hp 1 (nR 1) (nR 1);exact wN hW (.opnd (k + 1) c _) (zab hs h0 (zah _)) ⟨ln sd,trivial⟩ fun x l1 hx h1=>hW (.opndL k _ c l1) (mL hs h0 _ h1) ⟨ln (Leq.trans sd h1),zqy hn hx⟩
 | unary c l =>
  show WdV (zdi ev c l);unfold zdi;refine .ite (fun h=>?_) fun _=>hW (.postf c l) (zaj hs .rfl (oT rfl)) ⟨hl,trivial⟩
  have hp:0 < l.length:=by
   cases l with
   | nil=>exact absurd h (by decide)
   | cons x l=>exact Nat.succ_pos _
  have hm:=zab (s':=.unary c (l.drop 1)) hs (zav hp 1 (nR 1) (nR 1)) (zah _);exact .ite (fun _=>.ite (fun _=>wN hW (.unary c _) hm ⟨ln sd,trivial⟩ fun x _ hx _=>okN (zfu hx)) fun _=>.fail) fun _=>.ite (fun _=>wN hW (.unary c _) hm ⟨ln sd,trivial⟩ fun x _ hx _=>.ite (fun _=>okN (zfu hx)) fun _=>.fail) fun _=>.ite (fun _=>hW (.postf c l) (zaj hs .rfl (oT rfl)) ⟨hl,trivial⟩) fun _=>wN hW (.unary c _) hm ⟨ln sd,trivial⟩ fun x _ hx _=>.ite (fun _=>.fail) fun _=>okN (zfu hx)
 | postf c l =>
  show WdV (zeg ev c l);unfold zeg;exact wE hW hs (.chain c l) .rfl (oT rfl) rfl ⟨hl,trivial⟩ fun n l1 hn h1=>.ite (fun _=>.ite (fun _=>okN hn) fun _=>.ite (fun _=>okN (zfu hn)) fun _=>.fail) fun _=>okN hn
 | link n c l =>
  show WdV (zg4 ev n c l);unfold zg4;have hn:zfc n:=hp.2;exact .ite (fun _=>.ite (fun _=>okB (zfu hn)) fun _=>.fail) fun _=>.ite (fun h=>wN hW (.assign c _) (zab hs (d1 h) (zah _)) ⟨ln sd,trivial⟩ fun x _ hx _=>.need fun _=>okB (zqy hn hx)) fun _=>okB hn
 | chain c l =>
  show WdV (zdk ev c l);unfold zdk;exact .ite (fun h=>wN hW (.prim c _) (zab hs (d1 h) (zah _)) ⟨ln sd,trivial⟩ fun n l1 hn h1=>hW (.chainN n c l1) (mL hs (d1 h) _ h1) ⟨ln (Leq.trans sd h1),hn⟩) fun _=>wE hW hs (.prim c l) .rfl (oT rfl) rfl ⟨hl,trivial⟩ fun n l1 hn h1=>hW (.chainL n c l1) (zab hs h1 (zah _)) ⟨ln h1.leq,hn⟩
 | chainN n c l =>
  show WdV (zc7 ev n c l);unfold zc7;have hn:zfc n:=hp.2;exact wB hW hs (.link n c l) .rfl (oT rfl) rfl ⟨hl,hn⟩ fun x b l1 hx h1=>.ite (fun hb=>hW (.chainN x c l1) (zab hs (h1.2 hb) (zah _)) ⟨ln h1.1,hx⟩) fun _=>.need fun h=>wL hW (.list2 zao c _) (zab hs (h1.1.trans' (d1 h)) (zah _)) ⟨ln (h1.1.trans sd),trivial⟩ fun qs l2 hq hq2 h2=>hW (.chainL _ c l2) (mL hs (h1.1.trans' (d1 h)) _ h2) ⟨ln (h1.1.trans (Leq.trans sd h2)),zft (by rw [lLC];omega) (by rw [zep];exact ⟨hx,hq⟩)⟩
 | chainL n c l =>
  show WdV (zcq ev n c l);unfold zcq;have hn:zfc n:=hp.2;exact wB hW hs (.link n c l) .rfl (oT rfl) rfl ⟨hl,hn⟩ fun x b l1 hx h1=>.ite (fun hb=>hW (.chainL x c l1) (zab hs (h1.2 hb) (zah _)) ⟨ln h1.1,hx⟩) fun _=>.ite (fun h=>wL hW (.list2 zao c _) (zab hs (h1.1.trans' (d1 h)) (zah _)) ⟨ln (h1.1.trans sd),trivial⟩ fun qs l2 hq hq2 h2=>hW (.chainL _ c l2) (mL hs (h1.1.trans' (d1 h)) _ h2) ⟨ln (h1.1.trans (Leq.trans sd h2)),zft (by rw [lLC];omega) (by rw [zep];exact ⟨hn,hq⟩)⟩) fun _=>okN hn
 | list2 e c l =>
  show WdV (zei ev e c l);unfold zei;exact .ite (fun _=>okL ⟨by rw [zep];trivial,Nat.zero_le _⟩) fun _=>hW (.list2L e [] c l) (zaj hs .rfl (oT rfl)) ⟨hl,by rw [zep];trivial,by show 0 + l.length<=1000000;have:l.length<=1000000:=hl;omega⟩
 | list2L e acc c l =>
  show WdV (zcp ev e acc c l);unfold zcp;obtain ⟨_,h2,h3⟩:=hp;change acc.length + l.length<=1000000 at h3;exact wE hW hs (.assign c l) .rfl (oT rfl) rfl ⟨hl,trivial⟩ fun n l1 hn h1=>by
   have h4:l1.length < l.length:=h1.2;exact .ite (fun _=>okL ⟨zed h2 (zo9 hn),by simp only [lLA,lLS];omega⟩) fun _=>.need fun _=>hW (.list2L e _ c _) (mL hs h1 _ sd) ⟨ln (h1.leq.trans sd),zed h2 (zo9 hn),by show (acc++[n]).length + (l1.drop 1).length<=1000000;simp only [lLA,lLS,lLD];omega⟩
 | prim c l =>
  show WdV (zdj ev c l);unfold zdj;exact .ite (fun _=>okN zmy) fun _=>.ite (fun _=>okN zmy) fun _=>.ite (fun _=>okN zmy) fun _=>.ite (fun _=>okN zmy) fun _=>.ite (fun _=>okN zmy) fun _=>.ite (fun _=>okN zmy) fun _=>.ite (fun _=>okN zmy) fun _=>.ite (fun _=>okN zmy) fun _ =>
   .ite (fun h=>wN hW (.assign c _) (zab hs (d1 h) (zah _)) ⟨ln sd,trivial⟩ fun x _ hx _=>.need fun _=>okN hx) fun _=>.ite (fun h=>wL hW (.list2 zo3 c _) (zab hs (d1 h) (zah _)) ⟨ln sd,trivial⟩ fun q _ hq hq2 _=>okN (zft (by omega) hq)) fun _=>.ite (fun h=>wL hW (.fields c _) (zab hs (d1 h) (zah _)) ⟨ln sd,trivial⟩ fun q _ hq hq2 _=>okN (zft (by omega) hq)) fun _=>.ite (fun _=>hW (.func false c l) (zaj hs .rfl (oT rfl)) ⟨hl,trivial⟩) fun _=>.fail
 | fields c l =>
  show WdV (zc6 ev c l);unfold zc6;exact .ite (fun _=>okL ⟨by rw [zep];trivial,Nat.zero_le _⟩) fun _=>hW (.fieldsL [] c l) (zaj hs .rfl (oT rfl)) ⟨hl,by rw [zep];trivial,by show 0 + l.length<=1000000;have:l.length<=1000000:=hl;omega⟩
 | fieldsL acc c l =>
  show WdV (zci ev acc c l);unfold zci;obtain ⟨_,h2,h3⟩:=hp;change acc.length + l.length<=1000000 at h3;exact wE hW hs (.field c l) .rfl (oT rfl) rfl ⟨hl,trivial⟩ fun n l1 hn h1=>by
   have h4:l1.length < l.length:=h1.2;exact .ite (fun _=>okL ⟨zed h2 (zo9 hn),by simp only [lLA,lLS];omega⟩) fun _=>.need fun _=>hW (.fieldsL _ c _) (mL hs h1 _ sd) ⟨ln (h1.leq.trans sd),zed h2 (zo9 hn),by show (acc++[n]).length + (l1.drop 1).length<=1000000;simp only [lLA,lLS,lLD];omega⟩
 | field c l =>
  show WdV (ze4 ev c l);unfold ze4;exact .ite (fun h=>wN hW (.assign c _) (zab hs (d1 h) (zah _)) ⟨ln sd,trivial⟩ fun k l1 hk h1=>.need fun _=>.need fun _=>wN hW (.assign c _) (mL hs (d1 h) _ (Leq.trans (Leq.trans h1 sd) sd)) ⟨ln (Leq.trans sd (Leq.trans (Leq.trans h1 sd) sd)),trivial⟩ fun x _ hx _=>okN (zqy hk hx)) fun _=>.ite (fun _=>.fail) fun _=>.ite (fun h=>wN hW (.assign c _) (zab hs (zav (zag h) 2 (by decide) (nR 2)) (zah _)) ⟨ln sd,trivial⟩ fun x _ hx _=>okN (zfu hx)) fun _=>.ite (fun _=>okN (zfu zmy)) fun _=>.fail
end
theorem zqx:∀ (m:Nat) (s:Sy),s.meas < m->s.wpre->WdV (ev s)
 | 0,_,h,_=>by omega
 | m + 1,s,h,hp=>by
  rw [zac];exact z3w (fun s h hp=>zqx m s h hp) s (by omega) hp
theorem zqw:∀ (n:Nat) (acc:List PT) (l:Ts) {ks:List PT},zep acc->acc.length + l.length<=1000000->zia n acc l=some ks->zep ks/\ks.length<=1000000
 | 0,_,_,_,_,_,h=>by cases h
 | n + 1,acc,l,ks,ha,hl,h=>by
  rw [zia] at h
  by_cases hn:l=[]
  ·rw [if_pos hn] at h
   cases h
   exact ⟨ha,by omega⟩
  ·rw [if_neg hn] at h
   split at h
   ·rename_i x l1 e;have h1:Les l l1:=(zcd e).2.2 rfl rfl;have h2:=h1.2;exact zqw n _ l1 (zed ha (zo9 (zqx _ (.stmt cx0 l) (nLS _) ⟨by show l.length<=1000000;omega,trivial⟩ _ _ e))) (by simp only [lLA,lLS];omega) h
   ·cases h
end Go.Proofs.YtcfecmeocimclaaGreatDoor
