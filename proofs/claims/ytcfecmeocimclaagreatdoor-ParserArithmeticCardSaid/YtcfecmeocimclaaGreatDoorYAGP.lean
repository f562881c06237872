/- Own work: the lexer,plain: white space,tokens,and what of a text a token looks at. -/
import Derived.Test.YtcfecmeocimclaaGreatDoorYAA0
namespace Go.Proofs.YtcfecmeocimclaaGreatDoor
set_option linter.unusedSectionVars false
set_option linter.unusedSimpArgs false
abbrev Bs:=List UInt8
def ltr (c:UInt8):Bool:=decide (97<=c/\c<=122) || (decide (65<=c/\c<=90) || (c == 95 || c == 36))
def dgt (c:UInt8):Bool:=decide (48<=c/\c<=57)
def wrd (c:UInt8):Bool:=ltr c || dgt c
def wsp (c:UInt8):Bool:=c == 32 || (c == 9 || (c == 10 || c == 13))
def za4:Bs->Bs
 | []=>[]
 | c :: r=>if c=10 then c :: r else za4 r
def zcx:Bs->Option Bs
 | []=>none
 | c :: r=>if c=42/\r.head?=some 47 then some r.tail else zcx r
theorem zho:∀ l:Bs,(za4 l).length<=l.length
 | []=>nR _
 | c :: r=>by
  unfold za4
  split
  ·exact nR _
  ·have:=zho r
   simp only [lLC];omega
theorem zhp:∀ {l r:Bs},zcx l=some r->r.length<=l.length
 | [],r,h=>by cases h
 | c :: l,r,h=>by
  unfold zcx at h
  split at h
  ·cases h
   simp only [List.length_tail,lLC];omega
  ·have:=zhp h
   simp only [lLC];omega
def cmk (l:Bs):Nat:=if l.take 2=[47,47] then 1 else if l.take 2=[47,42] then 2 else 0
def zg4:Nat->Bs->Bs × Bool
 | 0,l=>(l,true)
 | _ + 1,[]=>([],true)
 | n + 1,c :: r=>if wsp c then zg4 n r else if cmk (c :: r)=1 then zg4 n (za4 (r.drop 1)) else if cmk (c :: r)=2 then (match zcx (r.drop 1) with
  | none=>(c :: r,false)
  | some r'=>zg4 n r') else (c :: r,true)
theorem zf6:∀ (n m:Nat) (l:Bs),l.length<=n->l.length<=m->zg4 n l=zg4 m l
 | 0,m,l,h,_=>by
  have:l=[]:=List.eq_nil_of_length_eq_zero (by omega)
  subst this
  cases m <;> rfl
 | n + 1,0,l,_,h=>by
  have:l=[]:=List.eq_nil_of_length_eq_zero (by omega)
  subst this;rfl
 | n + 1,m + 1,[],_,_=>rfl
 | n + 1,m + 1,c :: r,h,h'=>by
  simp only [lLC] at h h';unfold zg4
  split
  ·exact zf6 n m r (by omega) (by omega)
  ·split
   ·have h1:=zho (r.drop 1);have h2:(r.drop 1).length<=r.length:=by simp
    exact zf6 n m _ (by omega) (by omega)
   ·split
    ·split
     ·rfl
     ·rename_i r' hr;have h1:=zhp hr;have h2:(r.drop 1).length<=r.length:=by simp
      exact zf6 n m _ (by omega) (by omega)
    ·rfl
def skp (l:Bs):Bs × Bool:=zg4 l.length l
theorem zfu:skp []=([],true):=rfl
theorem zf5 {c:UInt8} {r:Bs} (h:wsp c=true):skp (c :: r)=skp r:=by
 show zg4 (r.length + 1) (c :: r)=zg4 r.length r;rw [zg4,if_pos h]
theorem zkv {c:UInt8} {r:Bs} (h:wsp c=false) (h1:cmk (c :: r)=1):skp (c :: r)=skp (za4 (r.drop 1)):=by
 show zg4 (r.length + 1) (c :: r)=_;rw [zg4,if_neg (by rw [h];decide),if_pos h1]
 have h3:=zho (r.drop 1);have h2:(r.drop 1).length<=r.length:=by simp
 exact zf6 _ _ _ (by omega) (nR _)
theorem zkw {c:UInt8} {r r':Bs} (h:wsp c=false) (h1:cmk (c :: r)=2) (h2:zcx (r.drop 1)=some r'):skp (c :: r)=skp r':=by
 show zg4 (r.length + 1) (c :: r)=_;rw [zg4,if_neg (by rw [h];decide),if_neg (by rw [h1];decide),if_pos h1,h2]
 have h3:=zhp h2;have h4:(r.drop 1).length<=r.length:=by simp
 exact zf6 _ _ _ (by omega) (nR _)
theorem zhv {c:UInt8} {r:Bs} (h:wsp c=false) (h1:cmk (c :: r)=2) (h2:zcx (r.drop 1)=none):skp (c :: r)=(c :: r,false):=by
 show zg4 (r.length + 1) (c :: r)=_;rw [zg4,if_neg (by rw [h];decide),if_neg (by rw [h1];decide),if_pos h1,h2]
theorem zfl {c:UInt8} {r:Bs} (h:wsp c=false) (h1:cmk (c :: r)=0):skp (c :: r)=(c :: r,true):=by
 show zg4 (r.length + 1) (c :: r)=_;rw [zg4,if_neg (by rw [h];decide),if_neg (by rw [h1];decide),if_neg (by rw [h1];decide)]
theorem zy2 (l:Bs):cmk l=0\/cmk l=1\/cmk l=2:=by
 unfold cmk
 split
 ·exact .inr (.inl rfl)
 ·split
  ·exact .inr (.inr rfl)
  ·exact .inl rfl
theorem zj8 {motive:Bs->Prop} (nil:motive []) (ws:∀ c r,wsp c=true->motive r->motive (c :: r))
  (ln:∀ c r,wsp c=false->cmk (c :: r)=1->motive (za4 (r.drop 1))->motive (c :: r))
  (cm:∀ c r r',wsp c=false->cmk (c :: r)=2->zcx (r.drop 1)=some r'->motive r'->motive (c :: r))
  (opn:∀ c r,wsp c=false->cmk (c :: r)=2->zcx (r.drop 1)=none->motive (c :: r))
  (stop:∀ c r,wsp c=false->cmk (c :: r)=0->motive (c :: r)):∀ (n:Nat) (l:Bs),l.length<=n->motive l
 | 0,l,h=>by
  have:l=[]:=List.eq_nil_of_length_eq_zero (by omega)
  subst this;exact nil
 | n + 1,[],_=>nil
 | n + 1,c :: r,h=>by
  simp only [lLC] at h;have h4:(r.drop 1).length<=r.length:=by simp
  have rec_:=zj8 nil ws ln cm opn stop n
  cases hw:wsp c with
  | true=>exact ws c r hw (rec_ r (by omega))
  | false =>
   rcases zy2 (c :: r) with hk|hk|hk
   ·exact stop c r hw hk
   ·have:=zho (r.drop 1)
    exact ln c r hw hk (rec_ _ (by omega))
   ·cases hd:zcx (r.drop 1) with
    | none=>exact opn c r hw hk hd
    | some r' =>
     have:=zhp hd
     exact cm c r r' hw hk hd (rec_ _ (by omega))
theorem zh4:∀ (l:Bs),za4 l ≠ []->∃ u,l=u++za4 l/\∀ r',za4 (u++10 :: r')=10 :: r'
 | [],h=>absurd rfl h
 | c :: r,h=>by
  by_cases hc:c=10
  ·refine ⟨[],?_,fun r'=>?_⟩
   ·unfold za4;rw [if_pos hc];rfl
   ·show za4 (10 :: r')=_;unfold za4;rw [if_pos rfl]
  ·unfold za4 at h ⊢;rw [if_neg hc] at h ⊢;obtain ⟨u,h1,h2⟩:=zh4 r h;refine ⟨c :: u,by rw [lCA,<- h1],fun r'=>?_⟩
   show za4 (c :: (u++10 :: r'))=_;rw [za4,if_neg hc];exact h2 r'
theorem zh5:∀ {l r:Bs},zcx l=some r->∃ u,l=u++r/\∀ r',zcx (u++r')=some r'
 | [],r,h=>by cases h
 | c :: l,r,h=>by
  unfold zcx at h
  split at h
  ·rename_i hc
   cases h
   cases l with
   | nil=>simp at hc
   | cons d l =>
    simp only [List.head?_cons,Option.some.injEq] at hc;obtain ⟨rfl,rfl⟩:=hc;exact ⟨[42,47],rfl,fun r'=>by
     show zcx (42 :: 47 :: r')=_;rw [zcx,if_pos ⟨rfl,rfl⟩];rfl⟩
  ·rename_i hc;obtain ⟨u,h1,h2⟩:=zh5 h
   cases u with
   | nil =>
    have h3:=h2 []
    cases h3
   | cons d u =>
    refine ⟨c :: d :: u,by rw [h1];rfl,fun r'=>?_⟩
    show zcx (c :: (d :: u++r'))=_;rw [zcx,if_neg (by
     rw [h1] at hc;exact hc)]
    exact h2 r'
theorem zh8 {c:UInt8} {r:Bs} {k:Nat} (h:cmk (c :: r)=k) (hk:k ≠ 0):∃ d r',r=d :: r':=by
 cases r with
 | nil =>
  unfold cmk at h;rw [if_neg (by simp),if_neg (by simp)] at h
  exact absurd h.symm hk
 | cons d r'=>exact ⟨d,r',rfl⟩
theorem zl0:∀ l:Bs,(skp l).1.length<=l.length:=by
 intro l;refine zj8 (motive:=fun l=>(skp l).1.length<=l.length) ?_ ?_ ?_ ?_ ?_ ?_ l.length l (nR _)
 ·rw [zfu];exact nR _
 ·intro c r hw ih;rw [zf5 hw,lLC];omega
 ·intro c r hw hk ih;rw [zkv hw hk,lLC]
  have:=zho (r.drop 1)
  have h2:(r.drop 1).length<=r.length:=by simp
  omega
 ·intro c r r' hw hk hd ih;rw [zkw hw hk hd,lLC]
  have:=zhp hd
  have h2:(r.drop 1).length<=r.length:=by simp
  omega
 ·intro c r hw hk hd;rw [zhv hw hk hd];exact nR _
 ·intro c r hw hk;rw [zfl hw hk];exact nR _
theorem znl:∀ (l:Bs) (r:Bs) (b:Bool),skp l=(r,b)->(b=false->r.take 2=[47,42])/\(b=true->r=[]\/∃ c r',r=c :: r'/\wsp c=false/\cmk (c :: r')=0):=by
 intro l;refine zj8 (motive:=fun l=>∀ (r:Bs) (b:Bool),skp l=(r,b)->(b=false->r.take 2=[47,42])/\(b=true->r=[]\/∃ c r',r=c :: r'/\wsp c=false/\cmk (c :: r')=0)) ?_ ?_ ?_ ?_ ?_ ?_ l.length l (nR _)
 ·intro r b h;rw [zfu] at h
  cases h
  exact ⟨fun h=>by (cases h),fun _=>.inl rfl⟩
 ·intro c l hw ih r b h;rw [zf5 hw] at h;exact ih r b h
 ·intro c l hw hk ih r b h;rw [zkv hw hk] at h;exact ih r b h
 ·intro c l l' hw hk hd ih r b h;rw [zkw hw hk hd] at h;exact ih r b h
 ·intro c l hw hk hd r b h;rw [zhv hw hk hd] at h
  cases h
  refine ⟨fun _=>?_,fun h=>by (cases h)⟩
  unfold cmk at hk
  split at hk
  ·cases hk
  ·split at hk
   ·rename_i h;exact h
   ·cases hk
 ·intro c l hw hk r b h;rw [zfl hw hk] at h
  cases h
  exact ⟨fun h=>by (cases h),fun _=>.inr ⟨c,l,rfl,hw,hk⟩⟩
theorem zi3 {c:UInt8} {r:Bs} (h:wsp c=false) (h1:cmk (c :: r)=0):skp (c :: r)=(c :: r,true):=zfl h h1
/- Own work: the lexer,plain: tokens. -/
def kwL:List Bs:=[[97,115,121,110,99],[97,119,97,105,116],[98,114,101,97,107],[99,111,110,115,116],[99,111,110,116,105,110,117,101],[100,101,108,101,116,101],[101,108,115,101],[102,97,108,115,101],[102,105,110,97,108,108,121],[102,111,114],[102,117,110,99,116,105,111,110],[105,102],[105,110],[105,110,115,116,97,110,99,101,111,102],[108,101,116],[110,101,119],[110,117,108,108],[111,102],[114,101,116,117,114,110],[116,104,105,115],[116,104,114,111,119],[116,114,117,101],[116,114,121],[99,97,116,99,104],[116,121,112,101,111,102],[117,110,100,101,102,105,110,101,100],[119,104,105,108,101],[121,105,101,108,100]]
def zqd:List Bs:=[[61,61,61],[33,61,61]]
def zrx:List Bs:=[[43,61],[45,61],[42,61],[61,61],[33,61],[60,61],[62,61],[38,38],[124,124],[63,63],[61,62],[43,43],[45,45]]
def z2w:List Bs:=[[123],[125],[40],[41],[91],[93],[59],[44],[46],[63],[58],[61],[43],[45],[42],[47],[37],[33],[60],[62]]
def z3a (w:Bs):Bool:=kwL.any (· == w)
def opL (l:Bs):Option Bs:=if zqd.any (· == l.take 3) then some (l.take 3) else if zrx.any (· == l.take 2) then some (l.take 2) else if z2w.any (· == l.take 1) then some (l.take 1) else none
def zit (c:UInt8):Option Nat:=if 48<=c/\c<=57 then some (c.toNat - 48) else if 97<=c/\c<=102 then some (c.toNat - 87) else if 65<=c/\c<=70 then some (c.toNat - 55) else none
def zbb (c:UInt8):Bool:=(zit c).isSome
def zh0 (l:Bs):Nat:=l.foldl (fun n c=>16 * n + (zit c).getD 0) 0
def zj2 (l:Bs):Nat:=l.foldl (fun n c=>10 * n + (c.toNat - 48)) 0
def z0m (n:Nat):Bool:=decide (n<=1114111) && !(decide (55296<=n) && decide (n<=57343))
def z1q (c:UInt8):Option UInt8:=if c=110 then some 10 else if c=116 then some 9 else if c=114 then some 13 else if c=98 then some 8 else if c=92\/c=34\/c=39 then some c else none
section
variable (U:Nat->Bs) (Rp:Bs->Bs)
def ptL:Bs->Option (Bs × Bs)
 | []=>none
 | c :: r=>if c=123 then (match r.dropWhile zbb with
  | []=>none
  | d :: r'=>if d=125/\1<=(r.takeWhile zbb).length/\(r.takeWhile zbb).length<=6/\z0m (zh0 (r.takeWhile zbb))=true then some (U (zh0 (r.takeWhile zbb)),r') else none) else none
def hxL:Bs->Option (Bs × Bs)
 | a :: b :: r=>(match zit a,zit b with
  | some x,some y=>some (U (16 * x + y),r)
  | _,_=>none)
 | _=>none
def zf0:Bs->Option (Bs × Bs)
 | []=>none
 | c :: r=>(match z1q c with
  | some d=>some ([d],r)
  | none=>if c=48 then (if r.head?.any dgt then none else some ([0],r)) else if c=120 then hxL U r else if c=117 then ptL U r else none)
def zon (q:UInt8):Nat->Bs->Option (Bs × Bs)
 | 0,_=>none
 | _ + 1,[]=>none
 | n + 1,c :: r=>if c=q then some ([],r) else if c=10\/c=13 then none else if c=92 then (match zf0 U r with
  | none=>none
  | some p=>(zon q n p.2).map fun z=>(p.1++z.1,z.2)) else (zon q n r).map fun z=>(c :: z.1,z.2)
def lit (q:UInt8) (l:Bs):Option (Bs × Bs):=zon U q l.length l
end
inductive TR where
 | bad (e:Int)
 | ok (k:Int) (t:Bs) (r:Bs)
def zj1 (l:Bs):TR :=
 if (l.takeWhile dgt).head?=some 48/\1 < (l.takeWhile dgt).length then .bad 4 else if (l.dropWhile dgt).head?.any ltr then .bad 4 else if 9223372036854775807 < zj2 (l.takeWhile dgt) then .bad 5 else .ok 3 (l.takeWhile dgt) (l.dropWhile dgt)
def zeu (U:Nat->Bs) (Rp:Bs->Bs):Bs->TR
 | []=>.bad 4
 | c :: r=>if ltr c then .ok (if z3a ((c :: r).takeWhile wrd) then 2 else 1) ((c :: r).takeWhile wrd) ((c :: r).dropWhile wrd) else if dgt c then zj1 (c :: r) else if c=34\/c=39 then (match lit U c r with
  | none=>.bad 4
  | some z=>.ok 4 (Rp z.1) z.2) else (match opL (c :: r) with
  | none=>.bad 4
  | some w=>.ok 5 w ((c :: r).drop w.length))
def LkA (r r':Bs):Prop:=r'.head?=r.head?\/r'.head?=some 32\/r'.head?=some 10\/r'=[]
theorem zha {p:UInt8->Bool}:∀ (u r:Bs),(∀ c ∈ u,p c=true)->(∀ c,r.head?=some c->p c=false)->(u++r).takeWhile p=u/\(u++r).dropWhile p=r
 | [],[],_,_=>⟨rfl,rfl⟩
 | [],c :: r,_,h=>by
  have:=h c rfl
  simp [this]
 | c :: u,r,h,h'=>by
  have h1:=h c (List.mem_cons_self ..);have h2:=zha u r (fun x hx=>h x (List.mem_cons_of_mem _ hx)) h'
  simp only [lCA,List.takeWhile_cons,List.dropWhile_cons,h1,if_true];exact ⟨by rw [h2.1],h2.2⟩
theorem zgy {p:UInt8->Bool}:∀ (l:Bs),(∀ c ∈ l.takeWhile p,p c=true)/\(∀ c,(l.dropWhile p).head?=some c->p c=false)/\l.takeWhile p++l.dropWhile p=l
 | []=>⟨fun c h=>(by cases h),fun c h=>(by cases h),rfl⟩
 | c :: l=>by
  have ih:=zgy (p:=p) l
  cases hc:p c with
  | true =>
   simp only [List.takeWhile_cons,List.dropWhile_cons,hc,if_true];refine ⟨fun x hx=>?_,ih.2.1,by rw [lCA,ih.2.2]⟩
   rcases List.mem_cons.1 hx with rfl|hx
   ·exact hc
   ·exact ih.1 x hx
  | false =>
   simp only [List.takeWhile_cons,List.dropWhile_cons,hc,Bool.false_eq_true,if_false];exact ⟨fun x hx=>(by cases hx),fun x hx=>by cases hx;exact hc,rfl⟩
theorem z4v {p:UInt8->Bool} {r r':Bs} (h:LkA r r') (h32:p 32=false) (h10:p 10=false) (hr:∀ c,r.head?=some c->p c=false):∀ c,r'.head?=some c->p c=false:=fun c hc=>by
 rcases h with h|h|h|h
 ·exact hr c (by rw [<-h];exact hc)
 ·rw [h] at hc;cases hc;exact h32
 ·rw [h] at hc;cases hc;exact h10
 ·rw [h] at hc;cases hc
/- Own work: the lexer,plain: a token does not look far behind itself,and a line feed ends every token. -/
section
variable (U:Nat->Bs) (Rp:Bs->Bs)
theorem z5d:∀ {l:Bs} {t r:Bs},hxL U l=some (t,r)->∃ u,u ≠ []/\l=u++r/\∀ r',hxL U (u++r')=some (t,r')
 | [],_,_,h=>by cases h
 | [_],_,_,h=>by cases h
 | a :: b :: l,t,r,h=>by
  rw [hxL] at h
  cases ha:zit a with
  | none=>rw [ha] at h;cases h
  | some x =>
   cases hb:zit b with
   | none=>rw [ha,hb] at h;cases h
   | some y =>
    rw [ha,hb] at h
    cases h
    exact ⟨[a,b],List.cons_ne_nil _ _,rfl,fun r'=>by
     show hxL U (a :: b :: r')=_;rw [hxL];rw [ha,hb]⟩
theorem z4c:∀ {l:Bs} {t r:Bs},ptL U l=some (t,r)->∃ u,u ≠ []/\l=u++r/\∀ r',ptL U (u++r')=some (t,r')
 | [],_,_,h=>by cases h
 | c :: l,t,r,h=>by
  rw [ptL] at h
  split at h
  ·rename_i hc;subst hc;obtain ⟨h1,h2,h3⟩:=zgy (p:=zbb) l
   cases hd:l.dropWhile zbb with
   | nil=>rw [hd] at h;cases h
   | cons d r2 =>
    rw [hd] at h h3 h2;simp only at h
    split at h
    ·rename_i hg
     cases h
     obtain ⟨rfl,hg2⟩:=hg;refine ⟨123 :: (l.takeWhile zbb++[125]),List.cons_ne_nil _ _,?_,fun r'=>?_⟩
     ·rw [lCA,List.append_assoc];show 123 :: l=123 :: (l.takeWhile zbb++125 :: r);rw [h3]
     ·have h4:=zha (p:=zbb) (l.takeWhile zbb) (125 :: r') h1 (fun c hc=>by cases hc;decide)
      rw [lCA,List.append_assoc];show ptL U (123 :: (l.takeWhile zbb++125 :: r'))=_;rw [ptL];rw [if_pos rfl,h4.1,h4.2];exact if_pos ⟨rfl,hg2⟩
    ·cases h
  ·cases h
theorem zo2:∀ {l:Bs} {t r:Bs},zf0 U l=some (t,r)->∃ u,u ≠ []/\l=u++r/\∀ r',r'.head?=r.head?->zf0 U (u++r')=some (t,r')
 | [],_,_,h=>by cases h
 | c :: l,t,r,h=>by
  rw [zf0] at h
  cases ht:z1q c with
  | some d =>
   rw [ht] at h
   cases h
   exact ⟨[c],List.cons_ne_nil _ _,rfl,fun r' _=>by
    show zf0 U (c :: r')=_;rw [zf0];rw [ht]⟩
  | none =>
   rw [ht] at h;simp only at h
   split at h
   ·rename_i hc
    split at h
    ·cases h
    ·rename_i hd
     cases h
     exact ⟨[c],List.cons_ne_nil _ _,rfl,fun r' hr=>by
      show zf0 U (c :: r')=_;rw [zf0];rw [ht];simp only;rw [if_pos hc,hr,if_neg hd]⟩
   ·rename_i hc
    split at h
    ·rename_i hx;obtain ⟨u,h1,h2,h3⟩:=z5d U h;exact ⟨c :: u,List.cons_ne_nil _ _,by rw [h2];rfl,fun r' _=>by
      show zf0 U (c :: (u++r'))=_;rw [zf0];rw [ht];simp only;rw [if_neg hc,if_pos hx,h3]⟩
    ·rename_i hx
     split at h
     ·rename_i hu;obtain ⟨u,h1,h2,h3⟩:=z4c U h;exact ⟨c :: u,List.cons_ne_nil _ _,by rw [h2];rfl,fun r' _=>by
       show zf0 U (c :: (u++r'))=_;rw [zf0];rw [ht];simp only;rw [if_neg hc,if_neg hx,if_pos hu,h3]⟩
     ·cases h
theorem zmo {l:Bs} {p:Bs × Bs} (h:zf0 U l=some p):p.2.length < l.length:=by
 obtain ⟨t,r⟩:=p;obtain ⟨u,h1,h2,_⟩:=zo2 U h
 have:0 < u.length:=List.length_pos_iff.2 h1
 rw [h2,lLA];show r.length < _;omega
theorem zme (q:UInt8):∀ (n m:Nat) (l:Bs),l.length<=n->l.length<=m->zon U q n l=zon U q m l
 | 0,m,l,h,_=>by
  have:l=[]:=List.eq_nil_of_length_eq_zero (by omega)
  subst this
  cases m <;> rfl
 | n + 1,0,l,_,h=>by
  have:l=[]:=List.eq_nil_of_length_eq_zero (by omega)
  subst this;rfl
 | n + 1,m + 1,[],_,_=>rfl
 | n + 1,m + 1,c :: r,h,h'=>by
  simp only [lLC] at h h';rw [zon,zon]
  split
  ·rfl
  ·split
   ·rfl
   ·split
    ·cases he:zf0 U r with
     | none=>rfl
     | some p =>
      have:=zmo U he
      simp only;rw [zme q n m p.2 (by omega) (by omega)]
    ·rw [zme q n m r (by omega) (by omega)]
theorem zr2 (q:UInt8):lit U q []=none:=rfl
theorem zkd (q:UInt8) (r:Bs):lit U q (q :: r)=some ([],r):=by
 show zon U q (r.length + 1) (q :: r)=_;rw [zon,if_pos rfl]
theorem zmc {q c:UInt8} (r:Bs) (h:c ≠ q) (h1:c=10\/c=13):lit U q (c :: r)=none:=by
 show zon U q (r.length + 1) (c :: r)=_;rw [zon,if_neg h,if_pos h1]
theorem zln {q c:UInt8} {r:Bs} (h:c ≠ q) (h1:¬ (c=10\/c=13)) (h2:c=92) (h3:zf0 U r=none):lit U q (c :: r)=none:=by
 show zon U q (r.length + 1) (c :: r)=_;rw [zon,if_neg h,if_neg h1,if_pos h2,h3]
theorem zkc {q c:UInt8} {r:Bs} {p:Bs × Bs} (h:c ≠ q) (h1:¬ (c=10\/c=13)) (h2:c=92) (h3:zf0 U r=some p):lit U q (c :: r)=(lit U q p.2).map fun z=>(p.1++z.1,z.2):=by
 show zon U q (r.length + 1) (c :: r)=_;rw [zon,if_neg h,if_neg h1,if_pos h2,h3];simp only
 have:=zmo U h3
 unfold lit;rw [zme U q r.length p.2.length p.2 (by omega) (nR _)]
theorem zke {q c:UInt8} (r:Bs) (h:c ≠ q) (h1:¬ (c=10\/c=13)) (h2:c ≠ 92):lit U q (c :: r)=(lit U q r).map fun z=>(c :: z.1,z.2):=by
 show zon U q (r.length + 1) (c :: r)=_;rw [zon,if_neg h,if_neg h1,if_neg h2];rfl
theorem zr3 (q:UInt8) {motive:Bs->Prop} (nil:motive []) (end_:∀ r,motive (q :: r)) (brk:∀ c r,c ≠ q->(c=10\/c=13)->motive (c :: r))
  (esc0:∀ c r,c ≠ q->¬ (c=10\/c=13)->c=92->zf0 U r=none->motive (c :: r)) (esc:∀ c r p,c ≠ q->¬ (c=10\/c=13)->c=92->zf0 U r=some p->motive p.2->motive (c :: r))
  (chr:∀ c r,c ≠ q->¬ (c=10\/c=13)->c ≠ 92->motive r->motive (c :: r)):∀ (n:Nat) (l:Bs),l.length<=n->motive l
 | 0,l,h=>by
  have:l=[]:=List.eq_nil_of_length_eq_zero (by omega)
  subst this;exact nil
 | n + 1,[],_=>nil
 | n + 1,c :: r,h=>by
  simp only [lLC] at h;have rec_:=zr3 q nil end_ brk esc0 esc chr n
  by_cases h1:c=q
  ·subst h1;exact end_ r
  ·by_cases h2:c=10\/c=13
   ·exact brk c r h1 h2
   ·by_cases h3:c=92
    ·cases he:zf0 U r with
     | none=>exact esc0 c r h1 h2 h3 he
     | some p =>
      have:=zmo U he
      exact esc c r p h1 h2 h3 he (rec_ _ (by omega))
    ·exact chr c r h1 h2 h3 (rec_ r (by omega))
theorem zxu (q:UInt8):∀ (l:Bs),∀ t r,lit U q l=some (t,r)->∃ u,u ≠ []/\l=u++r/\∀ r',lit U q (u++r')=some (t,r'):=by
 intro l;refine zr3 U q (motive:=fun l=>∀ t r,lit U q l=some (t,r)->∃ u,u ≠ []/\l=u++r/\∀ r',lit U q (u++r')=some (t,r')) ?_ ?_ ?_ ?_ ?_ ?_ l.length l (nR _)
 ·intro t r h;rw [zr2] at h;cases h
 ·intro l t r h;rw [zkd] at h
  cases h
  exact ⟨[q],List.cons_ne_nil _ _,rfl,fun r'=>zkd U q r'⟩
 ·intro c l h1 h2 t r h;rw [zmc U l h1 h2] at h;cases h
 ·intro c l h1 h2 h3 he t r h;rw [zln U h1 h2 h3 he] at h;cases h
 ·intro c l p h1 h2 h3 he ih t r h;rw [zkc U h1 h2 h3 he] at h
  cases hl:lit U q p.2 with
  | none=>rw [hl] at h;cases h
  | some z =>
   rw [hl] at h
   cases h
   obtain ⟨u2,g1,g2,g3⟩:=ih z.1 z.2 hl;obtain ⟨u1,k1,k2,k3⟩:=zo2 U (t:=p.1) (r:=p.2) he;refine ⟨c :: (u1++u2),List.cons_ne_nil _ _,by rw [k2,g2];simp,fun r'=>?_⟩
   show lit U q (c :: ((u1++u2)++r'))=_;have h5:zf0 U ((u1++u2)++r')=some (p.1,u2++r'):=by
    rw [List.append_assoc];refine k3 _ ?_;rw [g2]
    cases u2 with
    | nil=>exact absurd rfl g1
    | cons x y=>rfl
   rw [zkc U h1 h2 h3 h5];show (lit U q (u2++r')).map _=_;rw [g3];rfl
 ·intro c l h1 h2 h3 ih t r h;rw [zke U l h1 h2 h3] at h
  cases hl:lit U q l with
  | none=>rw [hl] at h;cases h
  | some z =>
   rw [hl] at h
   cases h
   obtain ⟨u,g1,g2,g3⟩:=ih z.1 z.2 hl;refine ⟨c :: u,List.cons_ne_nil _ _,by rw [g2];rfl,fun r'=>?_⟩
   show lit U q (c :: (u++r'))=_;rw [zke U _ h1 h2 h3,g3];rfl
end
/- Own work: the lexer,plain: what follows a token;two texts. -/
theorem zjf {L:List Bs} {k:Nat} (hk:(L.all fun w=>decide (w.length=k))=true) {l:Bs} (h:L.any (· == l.take k)=true):k<=l.length:=by
 obtain ⟨w,hw,he⟩:=List.any_eq_true.1 h;have h2:=List.all_eq_true.1 hk w hw;simp only [decide_eq_true_eq] at h2;have h3:w=l.take k:=by simpa using he
 rw [h3] at h2;simp only [List.length_take] at h2;omega
theorem zlk {l w:Bs} (h:opL l=some w):w ≠ []/\l=w++l.drop w.length/\w.length<=l.length:=by
 have key:∀ k,0 < k->k<=l.length->l.take k=w->w ≠ []/\l=w++l.drop w.length/\w.length<=l.length:=fun k h0 hk e=>by
  subst e;have h1:(l.take k).length=k:=by rw [List.length_take];omega
  refine ⟨fun e=>?_,by rw [h1,List.take_append_drop],by omega⟩
  rw [e] at h1;simp at h1;omega
 unfold opL at h
 split at h
 ·rename_i hc;exact key 3 (by decide) (zjf (by decide) hc) (Option.some.inj h)
 ·split at h
  ·rename_i hc;exact key 2 (by decide) (zjf (by decide) hc) (Option.some.inj h)
  ·split at h
   ·rename_i hc;exact key 1 (by decide) (zjf (by decide) hc) (Option.some.inj h)
   ·cases h
theorem op3_2 {l:Bs} (h:zqd.any (· == l.take 3)=true):zrx.any (· == l.take 2)=true:=by
 obtain ⟨w,hw,he⟩:=List.any_eq_true.1 h;have h3:w=l.take 3:=by simpa using he
 have h4:l.take 2=w.take 2:=by rw [h3,List.take_take];rfl
 rw [h4];exact List.all_eq_true.1 (show (zqd.all fun w=>zrx.any (· == w.take 2))=true by decide) w hw
theorem zxh {a b:UInt8} (hb:b=32\/b=10):zrx.any (· == [a,b])=false:=by
 rw [List.any_eq_false];intro w hw he;have h3:w=[a,b]:=by simpa using he
 have h4:=List.all_eq_true.1 (show (zrx.all fun w=>!w.contains 32 && !w.contains 10)=true by decide) w hw
 rw [h3] at h4
 rcases hb with rfl|rfl <;> simp at h4
theorem zxg {a b c:UInt8} (hc:c=32\/c=10):zqd.any (· == [a,b,c])=false:=by
 rw [List.any_eq_false];intro w hw he;have h3:w=[a,b,c]:=by simpa using he
 have h4:=List.all_eq_true.1 (show (zqd.all fun w=>!w.contains 32 && !w.contains 10)=true by decide) w hw
 rw [h3] at h4
 rcases hc with rfl|rfl <;> simp at h4
theorem zti {L:List Bs} {k:Nat} (hk:(L.all fun w=>decide (w.length=k))=true) {x:Bs} (h:x.length ≠ k):L.any (· == x)=false:=by
 rw [List.any_eq_false];intro w hw he;have h2:=List.all_eq_true.1 hk w hw;simp only [decide_eq_true_eq] at h2;have h3:w=x:=by simpa using he
 rw [h3] at h2;exact h h2
theorem z4j {l w:Bs} (h:opL l=some w) {r':Bs} (hr:LkA (l.drop w.length) r'):opL (w++r')=some w:=by
 unfold opL at h
 split at h
 ·rename_i hc
  cases h
  have hl:=zjf (by decide) hc
  have h1:(l.take 3).length=3:=by rw [List.length_take];omega
  have h2:(l.take 3++r').take 3=l.take 3:=by rw [List.take_append_of_le_length (by omega),List.take_take];rfl
  unfold opL;rw [h2,if_pos hc]
 ·rename_i h3
  split at h
  ·rename_i hc
   cases h
   have hl:=zjf (by decide) hc
   obtain ⟨a,b,l2,rfl⟩:∃ a b l2,l=a :: b :: l2:=by
    match l,hl with
    | a :: b :: l2,_=>exact ⟨a,b,l2,rfl⟩
   have hr':LkA l2 r':=hr;have h2:zqd.any (· == ([a,b]++r').take 3)=false:=by
    cases r' with
    | nil=>exact zti (k:=3) (by decide) (by simp)
    | cons c r' =>
     show zqd.any (· == [a,b,c])=false
     rcases hr' with e|e|e|e
     ·cases l2 with
      | nil=>cases e
      | cons d l2 =>
       cases e
       exact Bool.eq_false_iff.2 h3
     ·cases e;exact zxg (.inl rfl)
     ·cases e;exact zxg (.inr rfl)
     ·cases e
   show opL ([a,b]++r')=some [a,b];unfold opL;rw [if_neg (by rw [h2];decide)]
   have h5:([a,b]++r').take 2=[a,b]:=rfl;rw [h5];have hc':zrx.any (· == [a,b])=true:=hc;rw [if_pos hc']
  ·rename_i h2n
   split at h
   ·rename_i hc
    cases h
    have hl:=zjf (by decide) hc
    obtain ⟨a,l2,rfl⟩:∃ a l2,l=a :: l2:=by
     match l,hl with
     | a :: l2,_=>exact ⟨a,l2,rfl⟩
    have hr':LkA l2 r':=hr;have h2:zrx.any (· == ([a]++r').take 2)=false:=by
     cases r' with
     | nil=>exact zti (k:=2) (by decide) (by simp)
     | cons c r' =>
      show zrx.any (· == [a,c])=false
      rcases hr' with e|e|e|e
      ·cases l2 with
       | nil=>cases e
       | cons d l2 =>
        cases e
        exact Bool.eq_false_iff.2 h2n
      ·cases e;exact zxh (.inl rfl)
      ·cases e;exact zxh (.inr rfl)
      ·cases e
    have h4:zqd.any (· == ([a]++r').take 3)=false:=by
     cases h5:zqd.any (· == ([a]++r').take 3) with
     | false=>rfl
     | true =>
      have:=op3_2 h5
      rw [h2] at this
      cases this
    show opL ([a]++r')=some [a];unfold opL;rw [if_neg (by rw [h4];decide),if_neg (by rw [h2];decide)]
    have h5:([a]++r').take 1=[a]:=rfl;rw [h5];have hc':z2w.any (· == [a])=true:=hc;rw [if_pos hc']
   ·cases h
section
variable (U:Nat->Bs) (Rp:Bs->Bs)
theorem z0r {l t r:Bs} {k:Int} (h:zj1 l=.ok k t r) (hd:∃ c l',l=c :: l'/\dgt c=true):∃ u,u ≠ []/\l=u++r/\(∃ c u',u=c :: u'/\dgt c=true)/\∀ r',LkA r r'->zj1 (u++r')=.ok k t r':=by
 obtain ⟨h1,h2,h3⟩:=zgy (p:=dgt) l;obtain ⟨c,l',rfl,hc⟩:=hd;have hcons:(c :: l').takeWhile dgt=c :: l'.takeWhile dgt:=by rw [List.takeWhile_cons,hc];rfl
 unfold zj1 at h
 split at h
 ·cases h
 ·rename_i g1
  split at h
  ·cases h
  ·rename_i g2
   split at h
   ·cases h
   ·rename_i g3
    cases h
    refine ⟨(c :: l').takeWhile dgt,by rw [hcons];exact List.cons_ne_nil _ _,h3.symm,⟨c,_,hcons,hc⟩,fun r' hr=>?_⟩
    have h4:=zha (p:=dgt) ((c :: l').takeWhile dgt) r' h1 (z4v hr (by decide) (by decide) h2)
    have h5:¬ (r'.head?.any ltr=true):=fun h=>by
     cases hh:r'.head? with
     | none=>rw [hh] at h;cases h
     | some x =>
      rw [hh] at h;have h6:∀ y,((c :: l').dropWhile dgt).head?=some y->ltr y=false:=fun y hy=>by
       rw [hy] at g2;exact Bool.eq_false_iff.2 g2
      have h7:=z4v (p:=ltr) hr (by decide) (by decide) h6 x hh
      rw [show (some x).any ltr=ltr x from rfl,h7] at h
      cases h
    unfold zj1;rw [h4.1,h4.2,if_neg g1,if_neg h5,if_neg g3]
theorem zi2 {l t r:Bs} {k:Int} (h:zeu U Rp l=.ok k t r):∃ u,u ≠ []/\l=u++r/\∀ r',LkA r r'->zeu U Rp (u++r')=.ok k t r':=by
 cases l with
 | nil=>cases h
 | cons c l =>
  rw [zeu] at h
  split at h
  ·rename_i hc
   cases h
   obtain ⟨h1,h2,h3⟩:=zgy (p:=wrd) (c :: l);have hw:wrd c=true:=by unfold wrd;rw [hc];rfl
   have hcons:(c :: l).takeWhile wrd=c :: l.takeWhile wrd:=by rw [List.takeWhile_cons,hw];rfl
   refine ⟨(c :: l).takeWhile wrd,by rw [hcons];exact List.cons_ne_nil _ _,h3.symm,fun r' hr=>?_⟩
   have h4:=zha (p:=wrd) ((c :: l).takeWhile wrd) r' h1 (z4v hr (by decide) (by decide) h2)
   rw [hcons] at h4 ⊢;show zeu U Rp (c :: (l.takeWhile wrd++r'))=_;rw [zeu];rw [if_pos hc];have h5:c :: (l.takeWhile wrd++r')=(c :: l.takeWhile wrd)++r':=rfl;rw [h5,h4.1,h4.2]
  ·rename_i hc
   split at h
   ·rename_i hd;obtain ⟨u,h1,h2,⟨c',u',rfl,hd'⟩,h3⟩:=z0r h ⟨c,l,rfl,hd⟩;refine ⟨c' :: u',h1,h2,fun r' hr=>?_⟩
    have hcc:c=c':=by
     have:=congrArg List.head? h2
     simpa using this
    subst hcc;show zeu U Rp (c :: (u'++r'))=_;rw [zeu];rw [if_neg hc,if_pos hd];exact h3 r' hr
   ·rename_i hd
    split at h
    ·rename_i hq
     cases hl:lit U c l with
     | none=>rw [hl] at h;cases h
     | some z =>
      rw [hl] at h
      cases h
      obtain ⟨u,h1,h2,h3⟩:=zxu U c l z.1 z.2 hl;refine ⟨c :: u,List.cons_ne_nil _ _,by rw [lCA,<- h2],fun r' _=>?_⟩
      show zeu U Rp (c :: (u++r'))=_;rw [zeu];rw [if_neg hc,if_neg hd,if_pos hq,h3]
    ·rename_i hq
     cases ho:opL (c :: l) with
     | none=>rw [ho] at h;cases h
     | some w =>
      rw [ho] at h
      cases h
      obtain ⟨h1,h2,h3⟩:=zlk ho;refine ⟨t,h1,h2,fun r' hr=>?_⟩
      have h4:=z4j ho hr
      cases t with
      | nil=>exact absurd rfl h1
      | cons x w =>
       have hcc:c=x:=by
        have:=congrArg List.head? h2
        simpa using this
       subst hcc;show zeu U Rp (c :: (w++r'))=_;rw [zeu];rw [if_neg hc,if_neg hd,if_neg hq];have h5:c :: (w++r')=(c :: w)++r':=rfl;rw [h5,h4];simp only;rw [List.drop_left]
end
/- Own work: the lexer,plain: all tokens of a text;two texts;white space between tokens. -/
structure Tk where
 k:Int
 t:Bs
 rem:Nat
def Tk.up (n:Nat) (x:Tk):Tk:=⟨x.k,x.t,x.rem + n⟩
section
variable (U:Nat->Bs) (Rp:Bs->Bs)
def zk0:Nat->Bs->List Tk × Option (Nat × Int)
 | 0,_=>([],none)
 | n + 1,l=>if (skp l).2=false then ([],some ((skp l).1.length,4)) else if (skp l).1=[] then ([],none) else (match zeu U Rp (skp l).1 with
  | .bad e=>([],some ((skp l).1.length,e))
  | .ok k t r=>(⟨k,t,(skp l).1.length⟩ :: (zk0 n r).1,(zk0 n r).2))
def lex (l:Bs):List Tk × Option (Nat × Int):=zk0 U Rp (l.length + 1) l
theorem znj {l t r:Bs} {k:Int} (h:zeu U Rp l=.ok k t r):r.length < l.length:=by
 obtain ⟨u,h1,h2,_⟩:=zi2 U Rp h
 have:0 < u.length:=List.length_pos_iff.2 h1
 rw [h2,lLA];omega
theorem zjl:∀ (n m:Nat) (l:Bs),l.length < n->l.length < m->zk0 U Rp n l=zk0 U Rp m l
 | 0,m,l,h,_=>by omega
 | n + 1,0,l,_,h=>by omega
 | n + 1,m + 1,l,h,h'=>by
  rw [zk0,zk0]
  split
  ·rfl
  ·split
   ·rfl
   ·cases ht:zeu U Rp (skp l).1 with
    | bad e=>rfl
    | ok k t r =>
     have h1:=znj U Rp ht;have h2:=zl0 l;simp only;rw [zjl n m r (by omega) (by omega)]
theorem zmf {a b:Bs} (h:skp a=skp b):lex U Rp a=lex U Rp b:=by
 unfold lex;rw [zjl U Rp (a.length + 1) (a.length + b.length + 1) a (by omega) (by omega),zjl U Rp (b.length + 1) (a.length + b.length + 1) b (by omega) (by omega)]
 rw [zk0,zk0,h]
theorem zjk {l r:Bs} (h:skp l=(r,false)):lex U Rp l=([],some (r.length,4)):=by
 unfold lex;rw [zk0,h];rfl
theorem zgm {l:Bs} (h:skp l=([],true)):lex U Rp l=([],none):=by
 unfold lex;rw [zk0,h];rfl
theorem zkf {l r:Bs} {e:Int} (h:skp l=(r,true)) (hr:r ≠ []) (ht:zeu U Rp r=.bad e):lex U Rp l=([],some (r.length,e)):=by
 unfold lex;rw [zk0,h];simp only [hr,ht,if_false,Bool.true_eq_false]
theorem zfe {l r t r2:Bs} {k:Int} (h:skp l=(r,true)) (ht:zeu U Rp r=.ok k t r2):lex U Rp l=(⟨k,t,r.length⟩ :: (lex U Rp r2).1,(lex U Rp r2).2):=by
 have hr:r ≠ []:=fun e=>by rw [e] at ht;cases ht
 have h1:=znj U Rp ht;have h2:=zl0 l;rw [h] at h2;simp only at h2;unfold lex;rw [zjl U Rp (r2.length + 1) l.length r2 (by omega) (by omega)]
 rw [zk0];rw [h];simp only [hr,ht,if_false,Bool.true_eq_false]
theorem zrj (l:Bs):∃ u,l=u++(skp l).1:=by
 refine zj8 (motive:=fun l=>∃ u,l=u++(skp l).1) ?_ ?_ ?_ ?_ ?_ ?_ l.length l (nR _)
 ·exact ⟨[],rfl⟩
 ·intro c r hw ⟨u,ih⟩;rw [zf5 hw];exact ⟨c :: u,by rw [lCA,<- ih]⟩
 ·intro c r hw hk ⟨u,ih⟩;rw [zkv hw hk];obtain ⟨d,l2,rfl⟩:=zh8 hk (by decide)
  have ih':za4 l2=u++(skp (za4 l2)).1:=ih;obtain ⟨v,hv⟩:∃ v,l2=v++za4 l2:=by
   cases hd:za4 l2 with
   | nil=>exact ⟨l2,by simp⟩
   | cons x y =>
    obtain ⟨v,h3,_⟩:=zh4 l2 (by rw [hd];exact List.cons_ne_nil _ _)
    exact ⟨v,by rw [<-hd];exact h3⟩
  refine ⟨c :: d :: (v++u),?_⟩;show c :: d :: l2=c :: d :: ((v++u)++(skp (za4 l2)).1);rw [List.append_assoc,<- ih',<- hv]
 ·intro c r r' hw hk hd ⟨u,ih⟩;rw [zkw hw hk hd];obtain ⟨d,l2,rfl⟩:=zh8 hk (by decide)
  obtain ⟨v,h3,_⟩:=zh5 hd;have h3':l2=v++r':=h3;refine ⟨c :: d :: (v++u),?_⟩;show c :: d :: l2=c :: d :: ((v++u)++(skp r').1);rw [List.append_assoc,<- ih,<- h3']
 ·intro c r hw hk hd;rw [zhv hw hk hd];exact ⟨[],rfl⟩
 ·intro c r hw hk;rw [zfl hw hk];exact ⟨[],rfl⟩
end
/- Own work: the lexer,plain: literals of any text;tokens joined by blanks. -/
def z54 (n:Nat):UInt8:=if n < 10 then UInt8.ofNat (48 + n) else UInt8.ofNat (87 + n)
def qB (c:UInt8):Bs:=if c=34\/c=92 then [92,c] else if c=10 then [92,110] else if c=9 then [92,116] else if c=13 then [92,114] else if c=8 then [92,98] else if c.toNat < 32\/c=127 then [92,120,z54 (c.toNat / 16),z54 (c.toNat % 16)] else [c]
def quo (x:Bs):Bs:=34 :: (x.flatMap qB++[34])
section
variable (U:Nat->Bs) (Rp:Bs->Bs)
structure One (w:Bs) (k:Int) (t:Bs):Prop where
 s:skp w=(w,true)
 t:zeu U Rp w=.ok k t []
theorem One.cat {w t:Bs} {k:Int} (h:One U Rp w k t) (z:Bs):lex U Rp (w++32 :: z)=(⟨k,t,w.length + 1 + z.length⟩ :: (lex U Rp z).1,(lex U Rp z).2):=by
 obtain ⟨u,h1,h2,h3⟩:=zi2 U Rp h.t;rw [List.append_nil] at h2;subst h2;have h4:=h3 (32 :: z) (.inr (.inl rfl));have hat:=znl w w true h.s
 rcases hat.2 rfl with e|⟨c,r',e,hw,hk⟩
 ·exact absurd e h1
 ·subst e;have hck:cmk (c :: (r'++32 :: z))=0:=by
   cases r' with
   | cons p q=>exact hk
   | nil =>
    show cmk (c :: 32 :: z)=0;unfold cmk;rw [if_neg (by simp),if_neg (by simp)]
  have hsk:skp ((c :: r')++32 :: z)=((c :: r')++32 :: z,true):=zi3 hw hck;rw [zfe U Rp hsk h4];have h5:lex U Rp (32 :: z)=lex U Rp z:=zmf U Rp (zf5 (by decide))
  rw [h5];have h6:((c :: r')++32 :: z).length=(c :: r').length + 1 + z.length:=by
   rw [lLA,lLC (a:=32)];omega
  rw [h6]
theorem One.lex {w t:Bs} {k:Int} (h:One U Rp w k t):lex U Rp w=([⟨k,t,w.length⟩],none):=by
 rw [zfe U Rp h.s h.t,zgm U Rp zfu]
theorem zs0 {l t r:Bs} {k:Int} (h:zeu U Rp l=.ok k t r) (hk:k ≠ 4):l=t++r:=by
 cases l with
 | nil=>cases h
 | cons c l =>
  rw [zeu] at h
  split at h
  ·cases h
   exact (zgy (p:=wrd) (c :: l)).2.2.symm
  ·split at h
   ·unfold zj1 at h
    split at h
    ·cases h
    ·split at h
     ·cases h
     ·split at h
      ·cases h
      ·cases h
       exact (zgy (p:=dgt) (c :: l)).2.2.symm
   ·split at h
    ·cases hl:lit U c l with
     | none=>rw [hl] at h;cases h
     | some z=>rw [hl] at h;cases h;exact absurd rfl hk
    ·cases ho:opL (c :: l) with
     | none=>rw [ho] at h;cases h
     | some w =>
      rw [ho] at h
      cases h
      exact (zlk ho).2.1
def z5b:List Bs->Bs
 | []=>[]
 | [x]=>x
 | x :: y :: l=>x++32 :: z5b (y :: l)
end
end Go.Proofs.YtcfecmeocimclaaGreatDoor
