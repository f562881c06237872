/- Own work: the lexer,plain: white space,tokens,and what of a text a token looks at. -/
import Derived.Test.YtcfecmeocimclaaGreatDoorYQA0
namespace Go.Proofs.YtcfecmeocimclaaGreatDoor
set_option linter.unusedSimpArgs false
abbrev Bs:=List UInt8
def ltr (c:UInt8):Bool:=decide (97<=c/\c<=122) || (decide (65<=c/\c<=90) || (c == 95 || c == 36))
def dgt (c:UInt8):Bool:=decide (48<=c/\c<=57)
def wrd (c:UInt8):Bool:=ltr c || dgt c
def wsp (c:UInt8):Bool:=c == 32 || (c == 9 || (c == 10 || c == 13))
def za3:Bs->Bs
 | []=>[]
 | c :: r=>if c=10 then c :: r else za3 r
def zcz:Bs->Option Bs
 | []=>none
 | c :: r=>if c=42/\r.head?=some 47 then some r.tail else zcz r
theorem zht:∀ l:Bs,(za3 l).length<=l.length
 | []=>nR _
 | c :: r=>by
  unfold za3
  split
  ·exact nR _
  ·have:=zht r
   simp only [lLC];omega
theorem zhu:∀ {l r:Bs},zcz l=some r->r.length<=l.length
 | [],r,h=>by cases h
 | c :: l,r,h=>by
  unfold zcz at h
  split at h
  ·cases h
   simp only [List.length_tail,lLC];omega
  ·have:=zhu h
   simp only [lLC];omega
def cmk (l:Bs):Nat:=if l.take 2=[47,47] then 1 else if l.take 2=[47,42] then 2 else 0
def zha:Nat->Bs->Bs × Bool
 | 0,l=>(l,true)
 | _ + 1,[]=>([],true)
 | n + 1,c :: r=>if wsp c then zha n r else if cmk (c :: r)=1 then zha n (za3 (r.drop 1)) else if cmk (c :: r)=2 then (match zcz (r.drop 1) with
  | none=>(c :: r,false)
  | some r'=>zha n r') else (c :: r,true)
theorem zf6:∀ (n m:Nat) (l:Bs),l.length<=n->l.length<=m->zha n l=zha m l
 | 0,m,l,h,_=>by
  have:l=[]:=List.eq_nil_of_length_eq_zero (by omega)
  subst this
  cases m <;> rfl
 | n + 1,0,l,_,h=>by
  have:l=[]:=List.eq_nil_of_length_eq_zero (by omega)
  subst this;rfl
 | n + 1,m + 1,[],_,_=>rfl
 | n + 1,m + 1,c :: r,h,h'=>by
  simp only [lLC] at h h';unfold zha
  split
  ·exact zf6 n m r (by omega) (by omega)
  ·split
   ·have h1:=zht (r.drop 1);have h2:(r.drop 1).length<=r.length:=by simp
    exact zf6 n m _ (by omega) (by omega)
   ·split
    ·split
     ·rfl
     ·rename_i r' hr;have h1:=zhu hr;have h2:(r.drop 1).length<=r.length:=by simp
      exact zf6 n m _ (by omega) (by omega)
    ·rfl
def skp (l:Bs):Bs × Bool:=zha l.length l
theorem zfx:skp []=([],true):=rfl
theorem zf5 {c:UInt8} {r:Bs} (h:wsp c=true):skp (c :: r)=skp r:=by
 show zha (r.length + 1) (c :: r)=zha r.length r;rw [zha,if_pos h]
theorem zlb {c:UInt8} {r:Bs} (h:wsp c=false) (h1:cmk (c :: r)=1):skp (c :: r)=skp (za3 (r.drop 1)):=by
 show zha (r.length + 1) (c :: r)=_;rw [zha,if_neg (by rw [h];decide),if_pos h1]
 have h3:=zht (r.drop 1);have h2:(r.drop 1).length<=r.length:=by simp
 exact zf6 _ _ _ (by omega) (nR _)
theorem zlc {c:UInt8} {r r':Bs} (h:wsp c=false) (h1:cmk (c :: r)=2) (h2:zcz (r.drop 1)=some r'):skp (c :: r)=skp r':=by
 show zha (r.length + 1) (c :: r)=_;rw [zha,if_neg (by rw [h];decide),if_neg (by rw [h1];decide),if_pos h1,h2]
 have h3:=zhu h2;have h4:(r.drop 1).length<=r.length:=by simp
 exact zf6 _ _ _ (by omega) (nR _)
theorem zh0 {c:UInt8} {r:Bs} (h:wsp c=false) (h1:cmk (c :: r)=2) (h2:zcz (r.drop 1)=none):skp (c :: r)=(c :: r,false):=by
 show zha (r.length + 1) (c :: r)=_;rw [zha,if_neg (by rw [h];decide),if_neg (by rw [h1];decide),if_pos h1,h2]
theorem zfp {c:UInt8} {r:Bs} (h:wsp c=false) (h1:cmk (c :: r)=0):skp (c :: r)=(c :: r,true):=by
 show zha (r.length + 1) (c :: r)=_;rw [zha,if_neg (by rw [h];decide),if_neg (by rw [h1];decide),if_neg (by rw [h1];decide)]
theorem zzc (l:Bs):cmk l=0\/cmk l=1\/cmk l=2:=by
 unfold cmk
 split
 ·exact .inr (.inl rfl)
 ·split
  ·exact .inr (.inr rfl)
  ·exact .inl rfl
theorem zkj {motive:Bs->Prop} (nil:motive []) (ws:∀ c r,wsp c=true->motive r->motive (c :: r))
  (ln:∀ c r,wsp c=false->cmk (c :: r)=1->motive (za3 (r.drop 1))->motive (c :: r))
  (cm:∀ c r r',wsp c=false->cmk (c :: r)=2->zcz (r.drop 1)=some r'->motive r'->motive (c :: r))
  (opn:∀ c r,wsp c=false->cmk (c :: r)=2->zcz (r.drop 1)=none->motive (c :: r))
  (stop:∀ c r,wsp c=false->cmk (c :: r)=0->motive (c :: r)):∀ (n:Nat) (l:Bs),l.length<=n->motive l
 | 0,l,h=>by
  have:l=[]:=List.eq_nil_of_length_eq_zero (by omega)
  subst this;exact nil
 | n + 1,[],_=>nil
 | n + 1,c :: r,h=>by
  simp only [lLC] at h;have h4:(r.drop 1).length<=r.length:=by simp
  have rec_:=zkj nil ws ln cm opn stop n
  cases hw:wsp c with
  | true=>exact ws c r hw (rec_ r (by omega))
  | false =>
   rcases zzc (c :: r) with hk|hk|hk
   ·exact stop c r hw hk
   ·have:=zht (r.drop 1)
    exact ln c r hw hk (rec_ _ (by omega))
   ·cases hd:zcz (r.drop 1) with
    | none=>exact opn c r hw hk hd
    | some r' =>
     have:=zhu hd
     exact cm c r r' hw hk hd (rec_ _ (by omega))
theorem zh9:∀ (l:Bs),za3 l ≠ []->∃ u,l=u++za3 l/\∀ r',za3 (u++10 :: r')=10 :: r'
 | [],h=>absurd rfl h
 | c :: r,h=>by
  by_cases hc:c=10
  ·refine ⟨[],?_,fun r'=>?_⟩
   ·unfold za3;rw [if_pos hc];rfl
   ·show za3 (10 :: r')=_;unfold za3;rw [if_pos rfl]
  ·unfold za3 at h ⊢;rw [if_neg hc] at h ⊢;obtain ⟨u,h1,h2⟩:=zh9 r h;refine ⟨c :: u,by rw [lCA,<- h1],fun r'=>?_⟩
   show za3 (c :: (u++10 :: r'))=_;rw [za3,if_neg hc];exact h2 r'
theorem zia:∀ {l r:Bs},zcz l=some r->∃ u,l=u++r/\∀ r',zcz (u++r')=some r'
 | [],r,h=>by cases h
 | c :: l,r,h=>by
  unfold zcz at h
  split at h
  ·rename_i hc
   cases h
   cases l with
   | nil=>simp at hc
   | cons d l =>
    simp only [List.head?_cons,Option.some.injEq] at hc;obtain ⟨rfl,rfl⟩:=hc;exact ⟨[42,47],rfl,fun r'=>by
     show zcz (42 :: 47 :: r')=_;rw [zcz,if_pos ⟨rfl,rfl⟩];rfl⟩
  ·rename_i hc;obtain ⟨u,h1,h2⟩:=zia h
   cases u with
   | nil =>
    have h3:=h2 []
    cases h3
   | cons d u =>
    refine ⟨c :: d :: u,by rw [h1];rfl,fun r'=>?_⟩
    show zcz (c :: (d :: u++r'))=_;rw [zcz,if_neg (by
     rw [h1] at hc;exact hc)]
    exact h2 r'
theorem zid {c:UInt8} {r:Bs} {k:Nat} (h:cmk (c :: r)=k) (hk:k ≠ 0):∃ d r',r=d :: r':=by
 cases r with
 | nil =>
  unfold cmk at h;rw [if_neg (by simp),if_neg (by simp)] at h
  exact absurd h.symm hk
 | cons d r'=>exact ⟨d,r',rfl⟩
theorem zmh:∀ l:Bs,(skp l).1.length<=l.length:=by
 intro l;refine zkj (motive:=fun l=>(skp l).1.length<=l.length) ?_ ?_ ?_ ?_ ?_ ?_ l.length l (nR _)
 ·rw [zfx];exact nR _
 ·intro c r hw ih;rw [zf5 hw,lLC];omega
 ·intro c r hw hk ih;rw [zlb hw hk,lLC]
  have:=zht (r.drop 1)
  have h2:(r.drop 1).length<=r.length:=by simp
  omega
 ·intro c r r' hw hk hd ih;rw [zlc hw hk hd,lLC]
  have:=zhu hd
  have h2:(r.drop 1).length<=r.length:=by simp
  omega
 ·intro c r hw hk hd;rw [zh0 hw hk hd];exact nR _
 ·intro c r hw hk;rw [zfp hw hk];exact nR _
theorem zn9:∀ (l:Bs) (r:Bs) (b:Bool),skp l=(r,b)->(b=false->r.take 2=[47,42])/\(b=true->r=[]\/∃ c r',r=c :: r'/\wsp c=false/\cmk (c :: r')=0):=by
 intro l;refine zkj (motive:=fun l=>∀ (r:Bs) (b:Bool),skp l=(r,b)->(b=false->r.take 2=[47,42])/\(b=true->r=[]\/∃ c r',r=c :: r'/\wsp c=false/\cmk (c :: r')=0)) ?_ ?_ ?_ ?_ ?_ ?_ l.length l (nR _)
 ·intro r b h;rw [zfx] at h
  cases h
  exact ⟨fun h=>by (cases h),fun _=>.inl rfl⟩
 ·intro c l hw ih r b h;rw [zf5 hw] at h;exact ih r b h
 ·intro c l hw hk ih r b h;rw [zlb hw hk] at h;exact ih r b h
 ·intro c l l' hw hk hd ih r b h;rw [zlc hw hk hd] at h;exact ih r b h
 ·intro c l hw hk hd r b h;rw [zh0 hw hk hd] at h
  cases h
  refine ⟨fun _=>?_,fun h=>by (cases h)⟩
  unfold cmk at hk
  split at hk
  ·cases hk
  ·split at hk
   ·rename_i h;exact h
   ·cases hk
 ·intro c l hw hk r b h;rw [zfp hw hk] at h
  cases h
  exact ⟨fun h=>by (cases h),fun _=>.inr ⟨c,l,rfl,hw,hk⟩⟩
theorem zjb {c:UInt8} {r:Bs} (h:wsp c=false) (h1:cmk (c :: r)=0):skp (c :: r)=(c :: r,true):=zfp h h1
end Go.Proofs.YtcfecmeocimclaaGreatDoor

/- Own work: the lexer,plain: tokens. -/
namespace Go.Proofs.YtcfecmeocimclaaGreatDoor
set_option linter.unusedSimpArgs false
def kwL:List Bs:=[[97,115,121,110,99],[97,119,97,105,116],[98,114,101,97,107],[99,111,110,115,116],[99,111,110,116,105,110,117,101],[100,101,108,101,116,101],[101,108,115,101],[102,97,108,115,101],[102,105,110,97,108,108,121],[102,111,114],[102,117,110,99,116,105,111,110],[105,102],[105,110],[105,110,115,116,97,110,99,101,111,102],[108,101,116],[110,101,119],[110,117,108,108],[111,102],[114,101,116,117,114,110],[116,104,105,115],[116,104,114,111,119],[116,114,117,101],[116,114,121],[99,97,116,99,104],[116,121,112,101,111,102],[117,110,100,101,102,105,110,101,100],[119,104,105,108,101],[121,105,101,108,100]]
def zq7:List Bs:=[[61,61,61],[33,61,61]]
def zss:List Bs:=[[43,61],[45,61],[42,61],[61,61],[33,61],[60,61],[62,61],[38,38],[124,124],[63,63],[61,62],[43,43],[45,45]]
def z2w:List Bs:=[[123],[125],[40],[41],[91],[93],[59],[44],[46],[63],[58],[61],[43],[45],[42],[47],[37],[33],[60],[62]]
def z27 (w:Bs):Bool:=kwL.any (· == w)
def opL (l:Bs):Option Bs:=if zq7.any (· == l.take 3) then some (l.take 3) else if zss.any (· == l.take 2) then some (l.take 2) else if z2w.any (· == l.take 1) then some (l.take 1) else none
def ziy (c:UInt8):Option Nat:=if 48<=c/\c<=57 then some (c.toNat - 48) else if 97<=c/\c<=102 then some (c.toNat - 87) else if 65<=c/\c<=70 then some (c.toNat - 55) else none
def zbc (c:UInt8):Bool:=(ziy c).isSome
def zh6 (l:Bs):Nat:=l.foldl (fun n c=>16 * n + (ziy c).getD 0) 0
def zlm (l:Bs):Nat:=l.foldl (fun n c=>10 * n + (c.toNat - 48)) 0
def z0o (n:Nat):Bool:=decide (n<=1114111) && !(decide (55296<=n) && decide (n<=57343))
def z1t (c:UInt8):Option UInt8:=if c=110 then some 10 else if c=116 then some 9 else if c=114 then some 13 else if c=98 then some 8 else if c=92\/c=34\/c=39 then some c else none
section
variable (U:Nat->Bs) (Rp:Bs->Bs)
def ptL:Bs->Option (Bs × Bs)
 | []=>none
 | c :: r=>if c=123 then (match r.dropWhile zbc with
  | []=>none
  | d :: r'=>if d=125/\1<=(r.takeWhile zbc).length/\(r.takeWhile zbc).length<=6/\z0o (zh6 (r.takeWhile zbc))=true then some (U (zh6 (r.takeWhile zbc)),r') else none) else none
def hxL:Bs->Option (Bs × Bs)
 | a :: b :: r=>(match ziy a,ziy b with
  | some x,some y=>some (U (16 * x + y),r)
  | _,_=>none)
 | _=>none
def zf1:Bs->Option (Bs × Bs)
 | []=>none
 | c :: r=>(match z1t c with
  | some d=>some ([d],r)
  | none=>if c=48 then (if r.head?.any dgt then none else some ([0],r)) else if c=120 then hxL U r else if c=117 then ptL U r else none)
def zpe (q:UInt8):Nat->Bs->Option (Bs × Bs)
 | 0,_=>none
 | _ + 1,[]=>none
 | n + 1,c :: r=>if c=q then some ([],r) else if c=10\/c=13 then none else if c=92 then (match zf1 U r with
  | none=>none
  | some p=>(zpe q n p.2).map fun z=>(p.1++z.1,z.2)) else (zpe q n r).map fun z=>(c :: z.1,z.2)
def lit (q:UInt8) (l:Bs):Option (Bs × Bs):=zpe U q l.length l
end
inductive TR where
 | bad (e:Int)
 | ok (k:Int) (t:Bs) (r:Bs)
def zkd (l:Bs):TR :=
 if (l.takeWhile dgt).head?=some 48/\1 < (l.takeWhile dgt).length then .bad 4 else if (l.dropWhile dgt).head?.any ltr then .bad 4 else if 9223372036854775807 < zlm (l.takeWhile dgt) then .bad 5 else .ok 3 (l.takeWhile dgt) (l.dropWhile dgt)
def zey (U:Nat->Bs) (Rp:Bs->Bs):Bs->TR
 | []=>.bad 4
 | c :: r=>if ltr c then .ok (if z27 ((c :: r).takeWhile wrd) then 2 else 1) ((c :: r).takeWhile wrd) ((c :: r).dropWhile wrd) else if dgt c then zkd (c :: r) else if c=34\/c=39 then (match lit U c r with
  | none=>.bad 4
  | some z=>.ok 4 (Rp z.1) z.2) else (match opL (c :: r) with
  | none=>.bad 4
  | some w=>.ok 5 w ((c :: r).drop w.length))
def LkA (r r':Bs):Prop:=r'.head?=r.head?\/r'.head?=some 32\/r'.head?=some 10\/r'=[]
theorem zhe {p:UInt8->Bool}:∀ (u r:Bs),(∀ c ∈ u,p c=true)->(∀ c,r.head?=some c->p c=false)->(u++r).takeWhile p=u/\(u++r).dropWhile p=r
 | [],[],_,_=>⟨rfl,rfl⟩
 | [],c :: r,_,h=>by
  have:=h c rfl
  simp [this]
 | c :: u,r,h,h'=>by
  have h1:=h c (List.mem_cons_self ..);have h2:=zhe u r (fun x hx=>h x (List.mem_cons_of_mem _ hx)) h'
  simp only [lCA,List.takeWhile_cons,List.dropWhile_cons,h1,if_true];exact ⟨by rw [h2.1],h2.2⟩
theorem zg4 {p:UInt8->Bool}:∀ (l:Bs),(∀ c ∈ l.takeWhile p,p c=true)/\(∀ c,(l.dropWhile p).head?=some c->p c=false)/\l.takeWhile p++l.dropWhile p=l
 | []=>⟨fun c h=>(by cases h),fun c h=>(by cases h),rfl⟩
 | c :: l=>by
  have ih:=zg4 (p:=p) l
  cases hc:p c with
  | true =>
   simp only [List.takeWhile_cons,List.dropWhile_cons,hc,if_true];refine ⟨fun x hx=>?_,ih.2.1,by rw [lCA,ih.2.2]⟩
   rcases List.mem_cons.1 hx with rfl|hx
   ·exact hc
   ·exact ih.1 x hx
  | false =>
   simp only [List.takeWhile_cons,List.dropWhile_cons,hc,Bool.false_eq_true,if_false];exact ⟨fun x hx=>(by cases hx),fun x hx=>by cases hx;exact hc,rfl⟩
theorem z4l {p:UInt8->Bool} {r r':Bs} (h:LkA r r') (h32:p 32=false) (h10:p 10=false) (hr:∀ c,r.head?=some c->p c=false):∀ c,r'.head?=some c->p c=false:=fun c hc=>by
 rcases h with h|h|h|h
 ·exact hr c (by rw [<-h];exact hc)
 ·rw [h] at hc;cases hc;exact h32
 ·rw [h] at hc;cases hc;exact h10
 ·rw [h] at hc;cases hc
end Go.Proofs.YtcfecmeocimclaaGreatDoor

/- Own work: the lexer,plain: a token does not look far behind itself,and a line feed ends every token. -/
namespace Go.Proofs.YtcfecmeocimclaaGreatDoor
set_option linter.unusedSimpArgs false
set_option linter.unusedSectionVars false
section
variable (U:Nat->Bs) (Rp:Bs->Bs)
theorem z41:∀ {l:Bs} {t r:Bs},hxL U l=some (t,r)->∃ u,u ≠ []/\l=u++r/\∀ r',hxL U (u++r')=some (t,r')
 | [],_,_,h=>by cases h
 | [_],_,_,h=>by cases h
 | a :: b :: l,t,r,h=>by
  rw [hxL] at h
  cases ha:ziy a with
  | none=>rw [ha] at h;cases h
  | some x =>
   cases hb:ziy b with
   | none=>rw [ha,hb] at h;cases h
   | some y =>
    rw [ha,hb] at h
    cases h
    exact ⟨[a,b],List.cons_ne_nil _ _,rfl,fun r'=>by
     show hxL U (a :: b :: r')=_;rw [hxL];rw [ha,hb]⟩
theorem z32:∀ {l:Bs} {t r:Bs},ptL U l=some (t,r)->∃ u,u ≠ []/\l=u++r/\∀ r',ptL U (u++r')=some (t,r')
 | [],_,_,h=>by cases h
 | c :: l,t,r,h=>by
  rw [ptL] at h
  split at h
  ·rename_i hc;subst hc;obtain ⟨h1,h2,h3⟩:=zg4 (p:=zbc) l
   cases hd:l.dropWhile zbc with
   | nil=>rw [hd] at h;cases h
   | cons d r2 =>
    rw [hd] at h h3 h2;simp only at h
    split at h
    ·rename_i hg
     cases h
     obtain ⟨rfl,hg2⟩:=hg;refine ⟨123 :: (l.takeWhile zbc++[125]),List.cons_ne_nil _ _,?_,fun r'=>?_⟩
     ·rw [lCA,List.append_assoc];show 123 :: l=123 :: (l.takeWhile zbc++125 :: r);rw [h3]
     ·have h4:=zhe (p:=zbc) (l.takeWhile zbc) (125 :: r') h1 (fun c hc=>by cases hc;decide)
      rw [lCA,List.append_assoc];show ptL U (123 :: (l.takeWhile zbc++125 :: r'))=_;rw [ptL];rw [if_pos rfl,h4.1,h4.2];exact if_pos ⟨rfl,hg2⟩
    ·cases h
  ·cases h
theorem zpr:∀ {l:Bs} {t r:Bs},zf1 U l=some (t,r)->∃ u,u ≠ []/\l=u++r/\∀ r',r'.head?=r.head?->zf1 U (u++r')=some (t,r')
 | [],_,_,h=>by cases h
 | c :: l,t,r,h=>by
  rw [zf1] at h
  cases ht:z1t c with
  | some d =>
   rw [ht] at h
   cases h
   exact ⟨[c],List.cons_ne_nil _ _,rfl,fun r' _=>by
    show zf1 U (c :: r')=_;rw [zf1];rw [ht]⟩
  | none =>
   rw [ht] at h;simp only at h
   split at h
   ·rename_i hc
    split at h
    ·cases h
    ·rename_i hd
     cases h
     exact ⟨[c],List.cons_ne_nil _ _,rfl,fun r' hr=>by
      show zf1 U (c :: r')=_;rw [zf1];rw [ht];simp only;rw [if_pos hc,hr,if_neg hd]⟩
   ·rename_i hc
    split at h
    ·rename_i hx;obtain ⟨u,h1,h2,h3⟩:=z41 U h;exact ⟨c :: u,List.cons_ne_nil _ _,by rw [h2];rfl,fun r' _=>by
      show zf1 U (c :: (u++r'))=_;rw [zf1];rw [ht];simp only;rw [if_neg hc,if_pos hx,h3]⟩
    ·rename_i hx
     split at h
     ·rename_i hu;obtain ⟨u,h1,h2,h3⟩:=z32 U h;exact ⟨c :: u,List.cons_ne_nil _ _,by rw [h2];rfl,fun r' _=>by
       show zf1 U (c :: (u++r'))=_;rw [zf1];rw [ht];simp only;rw [if_neg hc,if_neg hx,if_pos hu,h3]⟩
     ·cases h
theorem zm7 {l:Bs} {p:Bs × Bs} (h:zf1 U l=some p):p.2.length < l.length:=by
 obtain ⟨t,r⟩:=p;obtain ⟨u,h1,h2,_⟩:=zpr U h
 have:0 < u.length:=List.length_pos_iff.2 h1
 rw [h2,lLA];show r.length < _;omega
theorem zmw (q:UInt8):∀ (n m:Nat) (l:Bs),l.length<=n->l.length<=m->zpe U q n l=zpe U q m l
 | 0,m,l,h,_=>by
  have:l=[]:=List.eq_nil_of_length_eq_zero (by omega)
  subst this
  cases m <;> rfl
 | n + 1,0,l,_,h=>by
  have:l=[]:=List.eq_nil_of_length_eq_zero (by omega)
  subst this;rfl
 | n + 1,m + 1,[],_,_=>rfl
 | n + 1,m + 1,c :: r,h,h'=>by
  simp only [lLC] at h h';rw [zpe,zpe]
  split
  ·rfl
  ·split
   ·rfl
   ·split
    ·cases he:zf1 U r with
     | none=>rfl
     | some p =>
      have:=zm7 U he
      simp only;rw [zmw q n m p.2 (by omega) (by omega)]
    ·rw [zmw q n m r (by omega) (by omega)]
theorem zsw (q:UInt8):lit U q []=none:=rfl
theorem zkq (q:UInt8) (r:Bs):lit U q (q :: r)=some ([],r):=by
 show zpe U q (r.length + 1) (q :: r)=_;rw [zpe,if_pos rfl]
theorem zmu {q c:UInt8} (r:Bs) (h:c ≠ q) (h1:c=10\/c=13):lit U q (c :: r)=none:=by
 show zpe U q (r.length + 1) (c :: r)=_;rw [zpe,if_neg h,if_pos h1]
theorem zl3 {q c:UInt8} {r:Bs} (h:c ≠ q) (h1:¬ (c=10\/c=13)) (h2:c=92) (h3:zf1 U r=none):lit U q (c :: r)=none:=by
 show zpe U q (r.length + 1) (c :: r)=_;rw [zpe,if_neg h,if_neg h1,if_pos h2,h3]
theorem zkp {q c:UInt8} {r:Bs} {p:Bs × Bs} (h:c ≠ q) (h1:¬ (c=10\/c=13)) (h2:c=92) (h3:zf1 U r=some p):lit U q (c :: r)=(lit U q p.2).map fun z=>(p.1++z.1,z.2):=by
 show zpe U q (r.length + 1) (c :: r)=_;rw [zpe,if_neg h,if_neg h1,if_pos h2,h3];simp only
 have:=zm7 U h3
 unfold lit;rw [zmw U q r.length p.2.length p.2 (by omega) (nR _)]
theorem zkr {q c:UInt8} (r:Bs) (h:c ≠ q) (h1:¬ (c=10\/c=13)) (h2:c ≠ 92):lit U q (c :: r)=(lit U q r).map fun z=>(c :: z.1,z.2):=by
 show zpe U q (r.length + 1) (c :: r)=_;rw [zpe,if_neg h,if_neg h1,if_neg h2];rfl
theorem zsx (q:UInt8) {motive:Bs->Prop} (nil:motive []) (end_:∀ r,motive (q :: r)) (brk:∀ c r,c ≠ q->(c=10\/c=13)->motive (c :: r))
  (esc0:∀ c r,c ≠ q->¬ (c=10\/c=13)->c=92->zf1 U r=none->motive (c :: r)) (esc:∀ c r p,c ≠ q->¬ (c=10\/c=13)->c=92->zf1 U r=some p->motive p.2->motive (c :: r))
  (chr:∀ c r,c ≠ q->¬ (c=10\/c=13)->c ≠ 92->motive r->motive (c :: r)):∀ (n:Nat) (l:Bs),l.length<=n->motive l
 | 0,l,h=>by
  have:l=[]:=List.eq_nil_of_length_eq_zero (by omega)
  subst this;exact nil
 | n + 1,[],_=>nil
 | n + 1,c :: r,h=>by
  simp only [lLC] at h;have rec_:=zsx q nil end_ brk esc0 esc chr n
  by_cases h1:c=q
  ·subst h1;exact end_ r
  ·by_cases h2:c=10\/c=13
   ·exact brk c r h1 h2
   ·by_cases h3:c=92
    ·cases he:zf1 U r with
     | none=>exact esc0 c r h1 h2 h3 he
     | some p =>
      have:=zm7 U he
      exact esc c r p h1 h2 h3 he (rec_ _ (by omega))
    ·exact chr c r h1 h2 h3 (rec_ r (by omega))
theorem zya (q:UInt8):∀ (l:Bs),∀ t r,lit U q l=some (t,r)->∃ u,u ≠ []/\l=u++r/\∀ r',lit U q (u++r')=some (t,r'):=by
 intro l;refine zsx U q (motive:=fun l=>∀ t r,lit U q l=some (t,r)->∃ u,u ≠ []/\l=u++r/\∀ r',lit U q (u++r')=some (t,r')) ?_ ?_ ?_ ?_ ?_ ?_ l.length l (nR _)
 ·intro t r h;rw [zsw] at h;cases h
 ·intro l t r h;rw [zkq] at h
  cases h
  exact ⟨[q],List.cons_ne_nil _ _,rfl,fun r'=>zkq U q r'⟩
 ·intro c l h1 h2 t r h;rw [zmu U l h1 h2] at h;cases h
 ·intro c l h1 h2 h3 he t r h;rw [zl3 U h1 h2 h3 he] at h;cases h
 ·intro c l p h1 h2 h3 he ih t r h;rw [zkp U h1 h2 h3 he] at h
  cases hl:lit U q p.2 with
  | none=>rw [hl] at h;cases h
  | some z =>
   rw [hl] at h
   cases h
   obtain ⟨u2,g1,g2,g3⟩:=ih z.1 z.2 hl;obtain ⟨u1,k1,k2,k3⟩:=zpr U (t:=p.1) (r:=p.2) he;refine ⟨c :: (u1++u2),List.cons_ne_nil _ _,by rw [k2,g2];simp,fun r'=>?_⟩
   show lit U q (c :: ((u1++u2)++r'))=_;have h5:zf1 U ((u1++u2)++r')=some (p.1,u2++r'):=by
    rw [List.append_assoc];refine k3 _ ?_;rw [g2]
    cases u2 with
    | nil=>exact absurd rfl g1
    | cons x y=>rfl
   rw [zkp U h1 h2 h3 h5];show (lit U q (u2++r')).map _=_;rw [g3];rfl
 ·intro c l h1 h2 h3 ih t r h;rw [zkr U l h1 h2 h3] at h
  cases hl:lit U q l with
  | none=>rw [hl] at h;cases h
  | some z =>
   rw [hl] at h
   cases h
   obtain ⟨u,g1,g2,g3⟩:=ih z.1 z.2 hl;refine ⟨c :: u,List.cons_ne_nil _ _,by rw [g2];rfl,fun r'=>?_⟩
   show lit U q (c :: (u++r'))=_;rw [zkr U _ h1 h2 h3,g3];rfl
end
end Go.Proofs.YtcfecmeocimclaaGreatDoor

/- Own work: the lexer,plain: what follows a token;two texts. -/
namespace Go.Proofs.YtcfecmeocimclaaGreatDoor
set_option linter.unusedSimpArgs false
set_option linter.unusedSectionVars false
theorem zjo {L:List Bs} {k:Nat} (hk:(L.all fun w=>decide (w.length=k))=true) {l:Bs} (h:L.any (· == l.take k)=true):k<=l.length:=by
 obtain ⟨w,hw,he⟩:=List.any_eq_true.1 h;have h2:=List.all_eq_true.1 hk w hw;simp only [decide_eq_true_eq] at h2;have h3:w=l.take k:=by simpa using he
 rw [h3] at h2;simp only [List.length_take] at h2;omega
theorem zl1 {l w:Bs} (h:opL l=some w):w ≠ []/\l=w++l.drop w.length/\w.length<=l.length:=by
 have key:∀ k,0 < k->k<=l.length->l.take k=w->w ≠ []/\l=w++l.drop w.length/\w.length<=l.length:=fun k h0 hk e=>by
  subst e;have h1:(l.take k).length=k:=by rw [List.length_take];omega
  refine ⟨fun e=>?_,by rw [h1,List.take_append_drop],by omega⟩
  rw [e] at h1;simp at h1;omega
 unfold opL at h
 split at h
 ·rename_i hc;exact key 3 (by decide) (zjo (by decide) hc) (Option.some.inj h)
 ·split at h
  ·rename_i hc;exact key 2 (by decide) (zjo (by decide) hc) (Option.some.inj h)
  ·split at h
   ·rename_i hc;exact key 1 (by decide) (zjo (by decide) hc) (Option.some.inj h)
   ·cases h
theorem op3_2 {l:Bs} (h:zq7.any (· == l.take 3)=true):zss.any (· == l.take 2)=true:=by
 obtain ⟨w,hw,he⟩:=List.any_eq_true.1 h;have h3:w=l.take 3:=by simpa using he
 have h4:l.take 2=w.take 2:=by rw [h3,List.take_take];rfl
 rw [h4];exact List.all_eq_true.1 (show (zq7.all fun w=>zss.any (· == w.take 2))=true by decide) w hw
theorem zxv {a b:UInt8} (hb:b=32\/b=10):zss.any (· == [a,b])=false:=by
 rw [List.any_eq_false];intro w hw he;have h3:w=[a,b]:=by simpa using he
 have h4:=List.all_eq_true.1 (show (zss.all fun w=>!w.contains 32 && !w.contains 10)=true by decide) w hw
 rw [h3] at h4
 rcases hb with rfl|rfl <;> simp at h4
theorem zxu {a b c:UInt8} (hc:c=32\/c=10):zq7.any (· == [a,b,c])=false:=by
 rw [List.any_eq_false];intro w hw he;have h3:w=[a,b,c]:=by simpa using he
 have h4:=List.all_eq_true.1 (show (zq7.all fun w=>!w.contains 32 && !w.contains 10)=true by decide) w hw
 rw [h3] at h4
 rcases hc with rfl|rfl <;> simp at h4
theorem zud {L:List Bs} {k:Nat} (hk:(L.all fun w=>decide (w.length=k))=true) {x:Bs} (h:x.length ≠ k):L.any (· == x)=false:=by
 rw [List.any_eq_false];intro w hw he;have h2:=List.all_eq_true.1 hk w hw;simp only [decide_eq_true_eq] at h2;have h3:w=x:=by simpa using he
 rw [h3] at h2;exact h h2
theorem z38 {l w:Bs} (h:opL l=some w) {r':Bs} (hr:LkA (l.drop w.length) r'):opL (w++r')=some w:=by
 unfold opL at h
 split at h
 ·rename_i hc
  cases h
  have hl:=zjo (by decide) hc
  have h1:(l.take 3).length=3:=by rw [List.length_take];omega
  have h2:(l.take 3++r').take 3=l.take 3:=by rw [List.take_append_of_le_length (by omega),List.take_take];rfl
  unfold opL;rw [h2,if_pos hc]
 ·rename_i h3
  split at h
  ·rename_i hc
   cases h
   have hl:=zjo (by decide) hc
   obtain ⟨a,b,l2,rfl⟩:∃ a b l2,l=a :: b :: l2:=by
    match l,hl with
    | a :: b :: l2,_=>exact ⟨a,b,l2,rfl⟩
   have hr':LkA l2 r':=hr;have h2:zq7.any (· == ([a,b]++r').take 3)=false:=by
    cases r' with
    | nil=>exact zud (k:=3) (by decide) (by simp)
    | cons c r' =>
     show zq7.any (· == [a,b,c])=false
     rcases hr' with e|e|e|e
     ·cases l2 with
      | nil=>cases e
      | cons d l2 =>
       cases e
       exact Bool.eq_false_iff.2 h3
     ·cases e;exact zxu (.inl rfl)
     ·cases e;exact zxu (.inr rfl)
     ·cases e
   show opL ([a,b]++r')=some [a,b];unfold opL;rw [if_neg (by rw [h2];decide)]
   have h5:([a,b]++r').take 2=[a,b]:=rfl;rw [h5];have hc':zss.any (· == [a,b])=true:=hc;rw [if_pos hc']
  ·rename_i h2n
   split at h
   ·rename_i hc
    cases h
    have hl:=zjo (by decide) hc
    obtain ⟨a,l2,rfl⟩:∃ a l2,l=a :: l2:=by
     match l,hl with
     | a :: l2,_=>exact ⟨a,l2,rfl⟩
    have hr':LkA l2 r':=hr;have h2:zss.any (· == ([a]++r').take 2)=false:=by
     cases r' with
     | nil=>exact zud (k:=2) (by decide) (by simp)
     | cons c r' =>
      show zss.any (· == [a,c])=false
      rcases hr' with e|e|e|e
      ·cases l2 with
       | nil=>cases e
       | cons d l2 =>
        cases e
        exact Bool.eq_false_iff.2 h2n
      ·cases e;exact zxv (.inl rfl)
      ·cases e;exact zxv (.inr rfl)
      ·cases e
    have h4:zq7.any (· == ([a]++r').take 3)=false:=by
     cases h5:zq7.any (· == ([a]++r').take 3) with
     | false=>rfl
     | true =>
      have:=op3_2 h5
      rw [h2] at this
      cases this
    show opL ([a]++r')=some [a];unfold opL;rw [if_neg (by rw [h4];decide),if_neg (by rw [h2];decide)]
    have h5:([a]++r').take 1=[a]:=rfl;rw [h5];have hc':z2w.any (· == [a])=true:=hc;rw [if_pos hc']
   ·cases h
section
variable (U:Nat->Bs) (Rp:Bs->Bs)
theorem z0t {l t r:Bs} {k:Int} (h:zkd l=.ok k t r) (hd:∃ c l',l=c :: l'/\dgt c=true):∃ u,u ≠ []/\l=u++r/\(∃ c u',u=c :: u'/\dgt c=true)/\∀ r',LkA r r'->zkd (u++r')=.ok k t r':=by
 obtain ⟨h1,h2,h3⟩:=zg4 (p:=dgt) l;obtain ⟨c,l',rfl,hc⟩:=hd;have hcons:(c :: l').takeWhile dgt=c :: l'.takeWhile dgt:=by rw [List.takeWhile_cons,hc];rfl
 unfold zkd at h
 split at h
 ·cases h
 ·rename_i g1
  split at h
  ·cases h
  ·rename_i g2
   split at h
   ·cases h
   ·rename_i g3
    cases h
    refine ⟨(c :: l').takeWhile dgt,by rw [hcons];exact List.cons_ne_nil _ _,h3.symm,⟨c,_,hcons,hc⟩,fun r' hr=>?_⟩
    have h4:=zhe (p:=dgt) ((c :: l').takeWhile dgt) r' h1 (z4l hr (by decide) (by decide) h2)
    have h5:¬ (r'.head?.any ltr=true):=fun h=>by
     cases hh:r'.head? with
     | none=>rw [hh] at h;cases h
     | some x =>
      rw [hh] at h;have h6:∀ y,((c :: l').dropWhile dgt).head?=some y->ltr y=false:=fun y hy=>by
       rw [hy] at g2;exact Bool.eq_false_iff.2 g2
      have h7:=z4l (p:=ltr) hr (by decide) (by decide) h6 x hh
      rw [show (some x).any ltr=ltr x from rfl,h7] at h
      cases h
    unfold zkd;rw [h4.1,h4.2,if_neg g1,if_neg h5,if_neg g3]
theorem zi8 {l t r:Bs} {k:Int} (h:zey U Rp l=.ok k t r):∃ u,u ≠ []/\l=u++r/\∀ r',LkA r r'->zey U Rp (u++r')=.ok k t r':=by
 cases l with
 | nil=>cases h
 | cons c l =>
  rw [zey] at h
  split at h
  ·rename_i hc
   cases h
   obtain ⟨h1,h2,h3⟩:=zg4 (p:=wrd) (c :: l);have hw:wrd c=true:=by unfold wrd;rw [hc];rfl
   have hcons:(c :: l).takeWhile wrd=c :: l.takeWhile wrd:=by rw [List.takeWhile_cons,hw];rfl
   refine ⟨(c :: l).takeWhile wrd,by rw [hcons];exact List.cons_ne_nil _ _,h3.symm,fun r' hr=>?_⟩
   have h4:=zhe (p:=wrd) ((c :: l).takeWhile wrd) r' h1 (z4l hr (by decide) (by decide) h2)
   rw [hcons] at h4 ⊢;show zey U Rp (c :: (l.takeWhile wrd++r'))=_;rw [zey];rw [if_pos hc];have h5:c :: (l.takeWhile wrd++r')=(c :: l.takeWhile wrd)++r':=rfl;rw [h5,h4.1,h4.2]
  ·rename_i hc
   split at h
   ·rename_i hd;obtain ⟨u,h1,h2,⟨c',u',rfl,hd'⟩,h3⟩:=z0t h ⟨c,l,rfl,hd⟩;refine ⟨c' :: u',h1,h2,fun r' hr=>?_⟩
    have hcc:c=c':=by
     have:=congrArg List.head? h2
     simpa using this
    subst hcc;show zey U Rp (c :: (u'++r'))=_;rw [zey];rw [if_neg hc,if_pos hd];exact h3 r' hr
   ·rename_i hd
    split at h
    ·rename_i hq
     cases hl:lit U c l with
     | none=>rw [hl] at h;cases h
     | some z =>
      rw [hl] at h
      cases h
      obtain ⟨u,h1,h2,h3⟩:=zya U c l z.1 z.2 hl;refine ⟨c :: u,List.cons_ne_nil _ _,by rw [lCA,<- h2],fun r' _=>?_⟩
      show zey U Rp (c :: (u++r'))=_;rw [zey];rw [if_neg hc,if_neg hd,if_pos hq,h3]
    ·rename_i hq
     cases ho:opL (c :: l) with
     | none=>rw [ho] at h;cases h
     | some w =>
      rw [ho] at h
      cases h
      obtain ⟨h1,h2,h3⟩:=zl1 ho;refine ⟨t,h1,h2,fun r' hr=>?_⟩
      have h4:=z38 ho hr
      cases t with
      | nil=>exact absurd rfl h1
      | cons x w =>
       have hcc:c=x:=by
        have:=congrArg List.head? h2
        simpa using this
       subst hcc;show zey U Rp (c :: (w++r'))=_;rw [zey];rw [if_neg hc,if_neg hd,if_neg hq];have h5:c :: (w++r')=(c :: w)++r':=rfl;rw [h5,h4];simp only;rw [List.drop_left]
end
end Go.Proofs.YtcfecmeocimclaaGreatDoor

/- Own work: the lexer,plain: all tokens of a text;two texts;white space between tokens. -/
namespace Go.Proofs.YtcfecmeocimclaaGreatDoor
set_option linter.unusedSimpArgs false
set_option linter.unusedSectionVars false
structure Tk where
 k:Int
 t:Bs
 rem:Nat
def Tk.up (n:Nat) (x:Tk):Tk:=⟨x.k,x.t,x.rem + n⟩
section
variable (U:Nat->Bs) (Rp:Bs->Bs)
def zlj:Nat->Bs->List Tk × Option (Nat × Int)
 | 0,_=>([],none)
 | n + 1,l=>if (skp l).2=false then ([],some ((skp l).1.length,4)) else if (skp l).1=[] then ([],none) else (match zey U Rp (skp l).1 with
  | .bad e=>([],some ((skp l).1.length,e))
  | .ok k t r=>(⟨k,t,(skp l).1.length⟩ :: (zlj n r).1,(zlj n r).2))
def lex (l:Bs):List Tk × Option (Nat × Int):=zlj U Rp (l.length + 1) l
theorem zn7 {l t r:Bs} {k:Int} (h:zey U Rp l=.ok k t r):r.length < l.length:=by
 obtain ⟨u,h1,h2,_⟩:=zi8 U Rp h
 have:0 < u.length:=List.length_pos_iff.2 h1
 rw [h2,lLA];omega
theorem zju:∀ (n m:Nat) (l:Bs),l.length < n->l.length < m->zlj U Rp n l=zlj U Rp m l
 | 0,m,l,h,_=>by omega
 | n + 1,0,l,_,h=>by omega
 | n + 1,m + 1,l,h,h'=>by
  rw [zlj,zlj]
  split
  ·rfl
  ·split
   ·rfl
   ·cases ht:zey U Rp (skp l).1 with
    | bad e=>rfl
    | ok k t r =>
     have h1:=zn7 U Rp ht;have h2:=zmh l;simp only;rw [zju n m r (by omega) (by omega)]
theorem zmx {a b:Bs} (h:skp a=skp b):lex U Rp a=lex U Rp b:=by
 unfold lex;rw [zju U Rp (a.length + 1) (a.length + b.length + 1) a (by omega) (by omega),zju U Rp (b.length + 1) (a.length + b.length + 1) b (by omega) (by omega)]
 rw [zlj,zlj,h]
theorem zjt {l r:Bs} (h:skp l=(r,false)):lex U Rp l=([],some (r.length,4)):=by
 unfold lex;rw [zlj,h];rfl
theorem zgs {l:Bs} (h:skp l=([],true)):lex U Rp l=([],none):=by
 unfold lex;rw [zlj,h];rfl
theorem zks {l r:Bs} {e:Int} (h:skp l=(r,true)) (hr:r ≠ []) (ht:zey U Rp r=.bad e):lex U Rp l=([],some (r.length,e)):=by
 unfold lex;rw [zlj,h];simp only [hr,ht,if_false,Bool.true_eq_false]
theorem zfi {l r t r2:Bs} {k:Int} (h:skp l=(r,true)) (ht:zey U Rp r=.ok k t r2):lex U Rp l=(⟨k,t,r.length⟩ :: (lex U Rp r2).1,(lex U Rp r2).2):=by
 have hr:r ≠ []:=fun e=>by rw [e] at ht;cases ht
 have h1:=zn7 U Rp ht;have h2:=zmh l;rw [h] at h2;simp only at h2;unfold lex;rw [zju U Rp (r2.length + 1) l.length r2 (by omega) (by omega)]
 rw [zlj];rw [h];simp only [hr,ht,if_false,Bool.true_eq_false]
theorem zse (l:Bs):∃ u,l=u++(skp l).1:=by
 refine zkj (motive:=fun l=>∃ u,l=u++(skp l).1) ?_ ?_ ?_ ?_ ?_ ?_ l.length l (nR _)
 ·exact ⟨[],rfl⟩
 ·intro c r hw ⟨u,ih⟩;rw [zf5 hw];exact ⟨c :: u,by rw [lCA,<- ih]⟩
 ·intro c r hw hk ⟨u,ih⟩;rw [zlb hw hk];obtain ⟨d,l2,rfl⟩:=zid hk (by decide)
  have ih':za3 l2=u++(skp (za3 l2)).1:=ih;obtain ⟨v,hv⟩:∃ v,l2=v++za3 l2:=by
   cases hd:za3 l2 with
   | nil=>exact ⟨l2,by simp⟩
   | cons x y =>
    obtain ⟨v,h3,_⟩:=zh9 l2 (by rw [hd];exact List.cons_ne_nil _ _)
    exact ⟨v,by rw [<-hd];exact h3⟩
  refine ⟨c :: d :: (v++u),?_⟩;show c :: d :: l2=c :: d :: ((v++u)++(skp (za3 l2)).1);rw [List.append_assoc,<- ih',<- hv]
 ·intro c r r' hw hk hd ⟨u,ih⟩;rw [zlc hw hk hd];obtain ⟨d,l2,rfl⟩:=zid hk (by decide)
  obtain ⟨v,h3,_⟩:=zia hd;have h3':l2=v++r':=h3;refine ⟨c :: d :: (v++u),?_⟩;show c :: d :: l2=c :: d :: ((v++u)++(skp r').1);rw [List.append_assoc,<- ih,<- h3']
 ·intro c r hw hk hd;rw [zh0 hw hk hd];exact ⟨[],rfl⟩
 ·intro c r hw hk;rw [zfp hw hk];exact ⟨[],rfl⟩
end
end Go.Proofs.YtcfecmeocimclaaGreatDoor

/- Own work: the lexer,plain: literals of any text;tokens joined by blanks. -/
namespace Go.Proofs.YtcfecmeocimclaaGreatDoor
set_option linter.unusedSimpArgs false
set_option linter.unusedSectionVars false
def z5p (n:Nat):UInt8:=if n < 10 then UInt8.ofNat (48 + n) else UInt8.ofNat (87 + n)
def qB (c:UInt8):Bs:=if c=34\/c=92 then [92,c] else if c=10 then [92,110] else if c=9 then [92,116] else if c=13 then [92,114] else if c=8 then [92,98] else if c.toNat < 32\/c=127 then [92,120,z5p (c.toNat / 16),z5p (c.toNat % 16)] else [c]
def quo (x:Bs):Bs:=34 :: (x.flatMap qB++[34])
section
variable (U:Nat->Bs) (Rp:Bs->Bs)
structure One (w:Bs) (k:Int) (t:Bs):Prop where
 s:skp w=(w,true)
 t:zey U Rp w=.ok k t []
theorem One.cat {w t:Bs} {k:Int} (h:One U Rp w k t) (z:Bs):lex U Rp (w++32 :: z)=(⟨k,t,w.length + 1 + z.length⟩ :: (lex U Rp z).1,(lex U Rp z).2):=by
 obtain ⟨u,h1,h2,h3⟩:=zi8 U Rp h.t;rw [List.append_nil] at h2;subst h2;have h4:=h3 (32 :: z) (.inr (.inl rfl));have hat:=zn9 w w true h.s
 rcases hat.2 rfl with e|⟨c,r',e,hw,hk⟩
 ·exact absurd e h1
 ·subst e;have hck:cmk (c :: (r'++32 :: z))=0:=by
   cases r' with
   | cons p q=>exact hk
   | nil =>
    show cmk (c :: 32 :: z)=0;unfold cmk;rw [if_neg (by simp),if_neg (by simp)]
  have hsk:skp ((c :: r')++32 :: z)=((c :: r')++32 :: z,true):=zjb hw hck;rw [zfi U Rp hsk h4];have h5:lex U Rp (32 :: z)=lex U Rp z:=zmx U Rp (zf5 (by decide))
  rw [h5];have h6:((c :: r')++32 :: z).length=(c :: r').length + 1 + z.length:=by
   rw [lLA,lLC (a:=32)];omega
  rw [h6]
theorem One.lex {w t:Bs} {k:Int} (h:One U Rp w k t):lex U Rp w=([⟨k,t,w.length⟩],none):=by
 rw [zfi U Rp h.s h.t,zgs U Rp zfx]
theorem ztt {l t r:Bs} {k:Int} (h:zey U Rp l=.ok k t r) (hk:k ≠ 4):l=t++r:=by
 cases l with
 | nil=>cases h
 | cons c l =>
  rw [zey] at h
  split at h
  ·cases h
   exact (zg4 (p:=wrd) (c :: l)).2.2.symm
  ·split at h
   ·unfold zkd at h
    split at h
    ·cases h
    ·split at h
     ·cases h
     ·split at h
      ·cases h
      ·cases h
       exact (zg4 (p:=dgt) (c :: l)).2.2.symm
   ·split at h
    ·cases hl:lit U c l with
     | none=>rw [hl] at h;cases h
     | some z=>rw [hl] at h;cases h;exact absurd rfl hk
    ·cases ho:opL (c :: l) with
     | none=>rw [ho] at h;cases h
     | some w =>
      rw [ho] at h
      cases h
      exact (zl1 ho).2.1
def z40:List Bs->Bs
 | []=>[]
 | [x]=>x
 | x :: y :: l=>x++32 :: z40 (y :: l)
end
end Go.Proofs.YtcfecmeocimclaaGreatDoor
