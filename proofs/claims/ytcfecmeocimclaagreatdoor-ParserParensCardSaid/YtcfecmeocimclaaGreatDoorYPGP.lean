/- Own work: the lexer,plain: white space,tokens,and what of a text a token looks at. -/
import Derived.Test.YtcfecmeocimclaaGreatDoorYPA0
namespace Go.Proofs.YtcfecmeocimclaaGreatDoor
set_option linter.unusedSimpArgs false
abbrev Bs:=List UInt8
def ltr (c:UInt8):Bool:=decide (97<=c/\c<=122) || (decide (65<=c/\c<=90) || (c == 95 || c == 36))
def dgt (c:UInt8):Bool:=decide (48<=c/\c<=57)
def wrd (c:UInt8):Bool:=ltr c || dgt c
def wsp (c:UInt8):Bool:=c == 32 || (c == 9 || (c == 10 || c == 13))
def za3:Bs->Bs
 | []=>[]
 | c :: r=>if c=10 then c :: r else za3 r
def zcx:Bs->Option Bs
 | []=>none
 | c :: r=>if c=42/\r.head?=some 47 then some r.tail else zcx r
theorem zhf:∀ l:Bs,(za3 l).length<=l.length
 | []=>nR _
 | c :: r=>by
  unfold za3
  split
  ·exact nR _
  ·have:=zhf r
   simp only [lLC];omega
theorem zhg:∀ {l r:Bs},zcx l=some r->r.length<=l.length
 | [],r,h=>by cases h
 | c :: l,r,h=>by
  unfold zcx at h
  split at h
  ·cases h
   simp only [List.length_tail,lLC];omega
  ·have:=zhg h
   simp only [lLC];omega
def cmk (l:Bs):Nat:=if l.take 2=[47,47] then 1 else if l.take 2=[47,42] then 2 else 0
def zgv:Nat->Bs->Bs × Bool
 | 0,l=>(l,true)
 | _ + 1,[]=>([],true)
 | n + 1,c :: r=>if wsp c then zgv n r else if cmk (c :: r)=1 then zgv n (za3 (r.drop 1)) else if cmk (c :: r)=2 then (match zcx (r.drop 1) with
  | none=>(c :: r,false)
  | some r'=>zgv n r') else (c :: r,true)
theorem zfy:∀ (n m:Nat) (l:Bs),l.length<=n->l.length<=m->zgv n l=zgv m l
 | 0,m,l,h,_=>by
  have:l=[]:=List.eq_nil_of_length_eq_zero (by omega)
  subst this
  cases m <;> rfl
 | n + 1,0,l,_,h=>by
  have:l=[]:=List.eq_nil_of_length_eq_zero (by omega)
  subst this;rfl
 | n + 1,m + 1,[],_,_=>rfl
 | n + 1,m + 1,c :: r,h,h'=>by
  simp only [lLC] at h h';unfold zgv
  split
  ·exact zfy n m r (by omega) (by omega)
  ·split
   ·have h1:=zhf (r.drop 1);have h2:(r.drop 1).length<=r.length:=by simp
    exact zfy n m _ (by omega) (by omega)
   ·split
    ·split
     ·rfl
     ·rename_i r' hr;have h1:=zhg hr;have h2:(r.drop 1).length<=r.length:=by simp
      exact zfy n m _ (by omega) (by omega)
    ·rfl
def skp (l:Bs):Bs × Bool:=zgv l.length l
theorem zfp:skp []=([],true):=rfl
theorem zfx {c:UInt8} {r:Bs} (h:wsp c=true):skp (c :: r)=skp r:=by
 show zgv (r.length + 1) (c :: r)=zgv r.length r;rw [zgv,if_pos h]
theorem zkn {c:UInt8} {r:Bs} (h:wsp c=false) (h1:cmk (c :: r)=1):skp (c :: r)=skp (za3 (r.drop 1)):=by
 show zgv (r.length + 1) (c :: r)=_;rw [zgv,if_neg (by rw [h];decide),if_pos h1]
 have h3:=zhf (r.drop 1);have h2:(r.drop 1).length<=r.length:=by simp
 exact zfy _ _ _ (by omega) (nR _)
theorem zko {c:UInt8} {r r':Bs} (h:wsp c=false) (h1:cmk (c :: r)=2) (h2:zcx (r.drop 1)=some r'):skp (c :: r)=skp r':=by
 show zgv (r.length + 1) (c :: r)=_;rw [zgv,if_neg (by rw [h];decide),if_neg (by rw [h1];decide),if_pos h1,h2]
 have h3:=zhg h2;have h4:(r.drop 1).length<=r.length:=by simp
 exact zfy _ _ _ (by omega) (nR _)
theorem zhn {c:UInt8} {r:Bs} (h:wsp c=false) (h1:cmk (c :: r)=2) (h2:zcx (r.drop 1)=none):skp (c :: r)=(c :: r,false):=by
 show zgv (r.length + 1) (c :: r)=_;rw [zgv,if_neg (by rw [h];decide),if_neg (by rw [h1];decide),if_pos h1,h2]
theorem zfh {c:UInt8} {r:Bs} (h:wsp c=false) (h1:cmk (c :: r)=0):skp (c :: r)=(c :: r,true):=by
 show zgv (r.length + 1) (c :: r)=_;rw [zgv,if_neg (by rw [h];decide),if_neg (by rw [h1];decide),if_neg (by rw [h1];decide)]
theorem zxw (l:Bs):cmk l=0\/cmk l=1\/cmk l=2:=by
 unfold cmk
 split
 ·exact .inr (.inl rfl)
 ·split
  ·exact .inr (.inr rfl)
  ·exact .inl rfl
theorem zjy {motive:Bs->Prop} (nil:motive []) (ws:∀ c r,wsp c=true->motive r->motive (c :: r))
  (ln:∀ c r,wsp c=false->cmk (c :: r)=1->motive (za3 (r.drop 1))->motive (c :: r))
  (cm:∀ c r r',wsp c=false->cmk (c :: r)=2->zcx (r.drop 1)=some r'->motive r'->motive (c :: r))
  (opn:∀ c r,wsp c=false->cmk (c :: r)=2->zcx (r.drop 1)=none->motive (c :: r))
  (stop:∀ c r,wsp c=false->cmk (c :: r)=0->motive (c :: r)):∀ (n:Nat) (l:Bs),l.length<=n->motive l
 | 0,l,h=>by
  have:l=[]:=List.eq_nil_of_length_eq_zero (by omega)
  subst this;exact nil
 | n + 1,[],_=>nil
 | n + 1,c :: r,h=>by
  simp only [lLC] at h;have h4:(r.drop 1).length<=r.length:=by simp
  have rec_:=zjy nil ws ln cm opn stop n
  cases hw:wsp c with
  | true=>exact ws c r hw (rec_ r (by omega))
  | false =>
   rcases zxw (c :: r) with hk|hk|hk
   ·exact stop c r hw hk
   ·have:=zhf (r.drop 1)
    exact ln c r hw hk (rec_ _ (by omega))
   ·cases hd:zcx (r.drop 1) with
    | none=>exact opn c r hw hk hd
    | some r' =>
     have:=zhg hd
     exact cm c r r' hw hk hd (rec_ _ (by omega))
theorem zhw:∀ (l:Bs),za3 l ≠ []->∃ u,l=u++za3 l/\∀ r',za3 (u++10 :: r')=10 :: r'
 | [],h=>absurd rfl h
 | c :: r,h=>by
  by_cases hc:c=10
  ·refine ⟨[],?_,fun r'=>?_⟩
   ·unfold za3;rw [if_pos hc];rfl
   ·show za3 (10 :: r')=_;unfold za3;rw [if_pos rfl]
  ·unfold za3 at h ⊢;rw [if_neg hc] at h ⊢;obtain ⟨u,h1,h2⟩:=zhw r h;refine ⟨c :: u,by rw [lCA,<- h1],fun r'=>?_⟩
   show za3 (c :: (u++10 :: r'))=_;rw [za3,if_neg hc];exact h2 r'
theorem zgk:∀ (l:Bs) (c:UInt8) (r:Bs),za3 l=c :: r->c=10
 | [],c,r,h=>by cases h
 | x :: l,c,r,h=>by
  unfold za3 at h
  split at h
  ·rename_i e
   cases h;exact e
  ·exact zgk l c r h
theorem zmf:∀ (l:Bs),za3 l=[]->∀ r',za3 (l++10 :: r')=10 :: r'
 | [],_,r'=>by
  show za3 (10 :: r')=_;rw [za3,if_pos rfl]
 | c :: l,h,r'=>by
  unfold za3 at h
  split at h
  ·cases h
  ·rename_i hc;show za3 (c :: (l++10 :: r'))=_;rw [za3,if_neg hc];exact zmf l h r'
theorem zhx:∀ {l r:Bs},zcx l=some r->∃ u,l=u++r/\∀ r',zcx (u++r')=some r'
 | [],r,h=>by cases h
 | c :: l,r,h=>by
  unfold zcx at h
  split at h
  ·rename_i hc
   cases h
   cases l with
   | nil=>simp at hc
   | cons d l =>
    simp only [List.head?_cons,Option.some.injEq] at hc;obtain ⟨rfl,rfl⟩:=hc;exact ⟨[42,47],rfl,fun r'=>by
     show zcx (42 :: 47 :: r')=_;rw [zcx,if_pos ⟨rfl,rfl⟩];rfl⟩
  ·rename_i hc;obtain ⟨u,h1,h2⟩:=zhx h
   cases u with
   | nil =>
    have h3:=h2 []
    cases h3
   | cons d u =>
    refine ⟨c :: d :: u,by rw [h1];rfl,fun r'=>?_⟩
    show zcx (c :: (d :: u++r'))=_;rw [zcx,if_neg (by
     rw [h1] at hc;exact hc)]
    exact h2 r'
theorem zoo {c d:UInt8} {r r':Bs}:cmk (c :: d :: r)=cmk (c :: d :: r'):=rfl
theorem zh0 {c:UInt8} {r:Bs} {k:Nat} (h:cmk (c :: r)=k) (hk:k ≠ 0):∃ d r',r=d :: r':=by
 cases r with
 | nil =>
  unfold cmk at h;rw [if_neg (by simp),if_neg (by simp)] at h
  exact absurd h.symm hk
 | cons d r'=>exact ⟨d,r',rfl⟩
theorem zlr:∀ l:Bs,(skp l).1.length<=l.length:=by
 intro l;refine zjy (motive:=fun l=>(skp l).1.length<=l.length) ?_ ?_ ?_ ?_ ?_ ?_ l.length l (nR _)
 ·rw [zfp];exact nR _
 ·intro c r hw ih;rw [zfx hw,lLC];omega
 ·intro c r hw hk ih;rw [zkn hw hk,lLC]
  have:=zhf (r.drop 1)
  have h2:(r.drop 1).length<=r.length:=by simp
  omega
 ·intro c r r' hw hk hd ih;rw [zko hw hk hd,lLC]
  have:=zhg hd
  have h2:(r.drop 1).length<=r.length:=by simp
  omega
 ·intro c r hw hk hd;rw [zhn hw hk hd];exact nR _
 ·intro c r hw hk;rw [zfh hw hk];exact nR _
theorem zq5:∀ (l:Bs),∀ r,skp l=(r,true)->r ≠ []->∃ u,l=u++r/\∀ r',skp (u++r')=skp r':=by
 intro l;refine zjy (motive:=fun l=>∀ r,skp l=(r,true)->r ≠ []->∃ u,l=u++r/\∀ r',skp (u++r')=skp r') ?_ ?_ ?_ ?_ ?_ ?_ l.length l (nR _)
 ·intro r h hn;rw [zfp] at h
  cases h
  exact absurd rfl hn
 ·intro c l hw ih r h hn;rw [zfx hw] at h;obtain ⟨u,h1,h2⟩:=ih r h hn;exact ⟨c :: u,by rw [h1];rfl,fun r'=>by rw [lCA,zfx hw];exact h2 r'⟩
 ·intro c l hw hk ih r h hn;rw [zkn hw hk] at h;obtain ⟨d,l2,rfl⟩:=zh0 hk (by decide)
  obtain ⟨u,h1,h2⟩:=ih r h hn;have hne:za3 l2 ≠ []:=fun e=>by
   have e2:za3 ((d :: l2).drop 1)=[]:=e;rw [e2] at h;rw [zfp] at h
   cases h
   exact hn rfl
  obtain ⟨v,h3,h4⟩:=zhw l2 hne;have h1':za3 l2=u++r:=h1
  cases u with
  | nil =>
   exfalso
   have h5:za3 l2=r:=h1'
   cases hd:za3 l2 with
   | nil=>exact hne hd
   | cons x y =>
    have hx:=zgk l2 x y hd;subst hx;have h6:skp (10 :: y)=(r,true):=by rw [<-hd];exact h
    rw [<-h5,hd] at h6;rw [zfx (by decide)] at h6
    have h7:=zlr y;rw [h6] at h7;simp only [lLC] at h7;omega
  | cons x u =>
   have hx:x=10:=by
    refine zgk l2 x (u++r) ?_;rw [h1'];rfl
   subst hx;refine ⟨c :: d :: (v++10 :: u),?_,fun r'=>?_⟩
   ·show c :: d :: l2=c :: d :: ((v++10 :: u)++r);rw [h1'] at h3;rw [h3];simp
   ·have h5:=h2 r';show skp (c :: d :: ((v++10 :: u)++r'))=_;rw [zkn hw (by rw [zoo (r':=l2)];exact hk)]
    show skp (za3 ((v++10 :: u)++r'))=_;rw [List.append_assoc,lCA,h4];exact h5
 ·intro c l l' hw hk hd ih r h hn;rw [zko hw hk hd] at h;obtain ⟨d,l2,rfl⟩:=zh0 hk (by decide)
  obtain ⟨u,h1,h2⟩:=ih r h hn;obtain ⟨v,h3,h4⟩:=zhx hd;have h3':l2=v++l':=h3;refine ⟨c :: d :: (v++u),?_,fun r'=>?_⟩
  ·rw [h3',h1];simp
  ·show skp (c :: d :: ((v++u)++r'))=_;rw [zko hw (by rw [zoo (r':=l2)];exact hk) (r':=u++r') (by
    show zcx ((v++u)++r')=_;rw [List.append_assoc];exact h4 _)]
   exact h2 r'
 ·intro c l hw hk hd r h hn;rw [zhn hw hk hd] at h
  cases h
 ·intro c l hw hk r h hn;rw [zfh hw hk] at h
  cases h
  exact ⟨[],rfl,fun r'=>rfl⟩
theorem z00:∀ (l:Bs),skp l=([],true)->∀ r',skp (l++10 :: r')=skp r':=by
 intro l;refine zjy (motive:=fun l=>skp l=([],true)->∀ r',skp (l++10 :: r')=skp r') ?_ ?_ ?_ ?_ ?_ ?_ l.length l (nR _)
 ·intro _ r';exact zfx (by decide)
 ·intro c l hw ih h r';rw [zfx hw] at h;rw [lCA,zfx hw];exact ih h r'
 ·intro c l hw hk ih h r';rw [zkn hw hk] at h;obtain ⟨d,l2,rfl⟩:=zh0 hk (by decide)
  rw [lCA,lCA,zkn hw (by rw [zoo (r':=l2)];exact hk)]
  show skp (za3 (l2++10 :: r'))=_;have h':skp (za3 l2)=([],true):=h;have ih':∀ r',skp (za3 l2++10 :: r')=skp r':=ih h
  cases hd:za3 l2 with
  | nil=>rw [zmf l2 hd,zfx (by decide)]
  | cons x y =>
   obtain ⟨v,h3,h4⟩:=zhw l2 (by rw [hd];exact List.cons_ne_nil _ _)
   have hx:=zgk l2 x y hd;subst hx;rw [hd] at h3;have h5:=ih' r';rw [hd] at h5;rw [h3,List.append_assoc,lCA,h4];exact h5
 ·intro c l l' hw hk hd ih h r';rw [zko hw hk hd] at h;obtain ⟨d,l2,rfl⟩:=zh0 hk (by decide)
  obtain ⟨v,h3,h4⟩:=zhx hd;have h3':l2=v++l':=h3;rw [lCA,lCA,zko hw (by rw [zoo (r':=l2)];exact hk) (r':=l'++10 :: r') (by
   show zcx (l2++10 :: r')=_;rw [h3',List.append_assoc];exact h4 _)]
  exact ih h r'
 ·intro c l hw hk hd h;rw [zhn hw hk hd] at h
  cases h
 ·intro c l hw hk h;rw [zfh hw hk] at h
  cases h
theorem zm8:∀ (l:Bs) (r:Bs) (b:Bool),skp l=(r,b)->(b=false->r.take 2=[47,42])/\(b=true->r=[]\/∃ c r',r=c :: r'/\wsp c=false/\cmk (c :: r')=0):=by
 intro l;refine zjy (motive:=fun l=>∀ (r:Bs) (b:Bool),skp l=(r,b)->(b=false->r.take 2=[47,42])/\(b=true->r=[]\/∃ c r',r=c :: r'/\wsp c=false/\cmk (c :: r')=0)) ?_ ?_ ?_ ?_ ?_ ?_ l.length l (nR _)
 ·intro r b h;rw [zfp] at h
  cases h
  exact ⟨fun h=>by (cases h),fun _=>.inl rfl⟩
 ·intro c l hw ih r b h;rw [zfx hw] at h;exact ih r b h
 ·intro c l hw hk ih r b h;rw [zkn hw hk] at h;exact ih r b h
 ·intro c l l' hw hk hd ih r b h;rw [zko hw hk hd] at h;exact ih r b h
 ·intro c l hw hk hd r b h;rw [zhn hw hk hd] at h
  cases h
  refine ⟨fun _=>?_,fun h=>by (cases h)⟩
  unfold cmk at hk
  split at hk
  ·cases hk
  ·split at hk
   ·rename_i h;exact h
   ·cases hk
 ·intro c l hw hk r b h;rw [zfh hw hk] at h
  cases h
  exact ⟨fun h=>by (cases h),fun _=>.inr ⟨c,l,rfl,hw,hk⟩⟩
theorem ziv {c:UInt8} {r:Bs} (h:wsp c=false) (h1:cmk (c :: r)=0):skp (c :: r)=(c :: r,true):=zfh h h1
end Go.Proofs.YtcfecmeocimclaaGreatDoor

/- Own work: the lexer,plain: tokens. -/
namespace Go.Proofs.YtcfecmeocimclaaGreatDoor
set_option linter.unusedSimpArgs false
def kwL:List Bs:=[[97,115,121,110,99],[97,119,97,105,116],[98,114,101,97,107],[99,111,110,115,116],[99,111,110,116,105,110,117,101],[100,101,108,101,116,101],[101,108,115,101],[102,97,108,115,101],[102,105,110,97,108,108,121],[102,111,114],[102,117,110,99,116,105,111,110],[105,102],[105,110],[105,110,115,116,97,110,99,101,111,102],[108,101,116],[110,101,119],[110,117,108,108],[111,102],[114,101,116,117,114,110],[116,104,105,115],[116,104,114,111,119],[116,114,117,101],[116,114,121],[99,97,116,99,104],[116,121,112,101,111,102],[117,110,100,101,102,105,110,101,100],[119,104,105,108,101],[121,105,101,108,100]]
def zqt:List Bs:=[[61,61,61],[33,61,61]]
def zs2:List Bs:=[[43,61],[45,61],[42,61],[61,61],[33,61],[60,61],[62,61],[38,38],[124,124],[63,63],[61,62],[43,43],[45,45]]
def z1e:List Bs:=[[123],[125],[40],[41],[91],[93],[59],[44],[46],[63],[58],[61],[43],[45],[42],[47],[37],[33],[60],[62]]
def z1l (w:Bs):Bool:=kwL.any (· == w)
def opL (l:Bs):Option Bs:=if zqt.any (· == l.take 3) then some (l.take 3) else if zs2.any (· == l.take 2) then some (l.take 2) else if z1e.any (· == l.take 1) then some (l.take 1) else none
def zij (c:UInt8):Option Nat:=if 48<=c/\c<=57 then some (c.toNat - 48) else if 97<=c/\c<=102 then some (c.toNat - 87) else if 65<=c/\c<=70 then some (c.toNat - 55) else none
def zba (c:UInt8):Bool:=(zij c).isSome
def zht (l:Bs):Nat:=l.foldl (fun n c=>16 * n + (zij c).getD 0) 0
def zku (l:Bs):Nat:=l.foldl (fun n c=>10 * n + (c.toNat - 48)) 0
def zy5 (n:Nat):Bool:=decide (n<=1114111) && !(decide (55296<=n) && decide (n<=57343))
def z0f (c:UInt8):Option UInt8:=if c=110 then some 10 else if c=116 then some 9 else if c=114 then some 13 else if c=98 then some 8 else if c=92\/c=34\/c=39 then some c else none
section
variable (U:Nat->Bs) (Rp:Bs->Bs)
def ptL:Bs->Option (Bs × Bs)
 | []=>none
 | c :: r=>if c=123 then (match r.dropWhile zba with
  | []=>none
  | d :: r'=>if d=125/\1<=(r.takeWhile zba).length/\(r.takeWhile zba).length<=6/\zy5 (zht (r.takeWhile zba))=true then some (U (zht (r.takeWhile zba)),r') else none) else none
def hxL:Bs->Option (Bs × Bs)
 | a :: b :: r=>(match zij a,zij b with
  | some x,some y=>some (U (16 * x + y),r)
  | _,_=>none)
 | _=>none
def zft:Bs->Option (Bs × Bs)
 | []=>none
 | c :: r=>(match z0f c with
  | some d=>some ([d],r)
  | none=>if c=48 then (if r.head?.any dgt then none else some ([0],r)) else if c=120 then hxL U r else if c=117 then ptL U r else none)
def zn6 (q:UInt8):Nat->Bs->Option (Bs × Bs)
 | 0,_=>none
 | _ + 1,[]=>none
 | n + 1,c :: r=>if c=q then some ([],r) else if c=10\/c=13 then none else if c=92 then (match zft U r with
  | none=>none
  | some p=>(zn6 q n p.2).map fun z=>(p.1++z.1,z.2)) else (zn6 q n r).map fun z=>(c :: z.1,z.2)
def lit (q:UInt8) (l:Bs):Option (Bs × Bs):=zn6 U q l.length l
end
inductive TR where
 | bad (e:Int)
 | ok (k:Int) (t:Bs) (r:Bs)
def zjs (l:Bs):TR :=
 if (l.takeWhile dgt).head?=some 48/\1 < (l.takeWhile dgt).length then .bad 4 else if (l.dropWhile dgt).head?.any ltr then .bad 4 else if 9223372036854775807 < zku (l.takeWhile dgt) then .bad 5 else .ok 3 (l.takeWhile dgt) (l.dropWhile dgt)
def zeq (U:Nat->Bs) (Rp:Bs->Bs):Bs->TR
 | []=>.bad 4
 | c :: r=>if ltr c then .ok (if z1l ((c :: r).takeWhile wrd) then 2 else 1) ((c :: r).takeWhile wrd) ((c :: r).dropWhile wrd) else if dgt c then zjs (c :: r) else if c=34\/c=39 then (match lit U c r with
  | none=>.bad 4
  | some z=>.ok 4 (Rp z.1) z.2) else (match opL (c :: r) with
  | none=>.bad 4
  | some w=>.ok 5 w ((c :: r).drop w.length))
def LkA (r r':Bs):Prop:=r'.head?=r.head?\/r'.head?=some 32\/r'.head?=some 10\/r'=[]
theorem zgz {p:UInt8->Bool}:∀ (u r:Bs),(∀ c ∈ u,p c=true)->(∀ c,r.head?=some c->p c=false)->(u++r).takeWhile p=u/\(u++r).dropWhile p=r
 | [],[],_,_=>⟨rfl,rfl⟩
 | [],c :: r,_,h=>by
  have:=h c rfl
  simp [this]
 | c :: u,r,h,h'=>by
  have h1:=h c (List.mem_cons_self ..);have h2:=zgz u r (fun x hx=>h x (List.mem_cons_of_mem _ hx)) h'
  simp only [lCA,List.takeWhile_cons,List.dropWhile_cons,h1,if_true];exact ⟨by rw [h2.1],h2.2⟩
theorem zgq {p:UInt8->Bool}:∀ (l:Bs),(∀ c ∈ l.takeWhile p,p c=true)/\(∀ c,(l.dropWhile p).head?=some c->p c=false)/\l.takeWhile p++l.dropWhile p=l
 | []=>⟨fun c h=>(by cases h),fun c h=>(by cases h),rfl⟩
 | c :: l=>by
  have ih:=zgq (p:=p) l
  cases hc:p c with
  | true =>
   simp only [List.takeWhile_cons,List.dropWhile_cons,hc,if_true];refine ⟨fun x hx=>?_,ih.2.1,by rw [lCA,ih.2.2]⟩
   rcases List.mem_cons.1 hx with rfl|hx
   ·exact hc
   ·exact ih.1 x hx
  | false =>
   simp only [List.takeWhile_cons,List.dropWhile_cons,hc,Bool.false_eq_true,if_false];exact ⟨fun x hx=>(by cases hx),fun x hx=>by cases hx;exact hc,rfl⟩
theorem z2z {p:UInt8->Bool} {r r':Bs} (h:LkA r r') (h32:p 32=false) (h10:p 10=false) (hr:∀ c,r.head?=some c->p c=false):∀ c,r'.head?=some c->p c=false:=fun c hc=>by
 rcases h with h|h|h|h
 ·exact hr c (by rw [<-h];exact hc)
 ·rw [h] at hc;cases hc;exact h32
 ·rw [h] at hc;cases hc;exact h10
 ·rw [h] at hc;cases hc
end Go.Proofs.YtcfecmeocimclaaGreatDoor

/- Own work: the lexer,plain: a token does not look far behind itself,and a line feed ends every token. -/
namespace Go.Proofs.YtcfecmeocimclaaGreatDoor
set_option linter.unusedSimpArgs false
set_option linter.unusedSectionVars false
section
variable (U:Nat->Bs) (Rp:Bs->Bs)
theorem z3h:∀ {l:Bs} {t r:Bs},hxL U l=some (t,r)->∃ u,u ≠ []/\l=u++r/\∀ r',hxL U (u++r')=some (t,r')
 | [],_,_,h=>by cases h
 | [_],_,_,h=>by cases h
 | a :: b :: l,t,r,h=>by
  rw [hxL] at h
  cases ha:zij a with
  | none=>rw [ha] at h;cases h
  | some x =>
   cases hb:zij b with
   | none=>rw [ha,hb] at h;cases h
   | some y =>
    rw [ha,hb] at h
    cases h
    exact ⟨[a,b],List.cons_ne_nil _ _,rfl,fun r'=>by
     show hxL U (a :: b :: r')=_;rw [hxL];rw [ha,hb]⟩
theorem z2d:∀ {l:Bs} {t r:Bs},ptL U l=some (t,r)->∃ u,u ≠ []/\l=u++r/\∀ r',ptL U (u++r')=some (t,r')
 | [],_,_,h=>by cases h
 | c :: l,t,r,h=>by
  rw [ptL] at h
  split at h
  ·rename_i hc;subst hc;obtain ⟨h1,h2,h3⟩:=zgq (p:=zba) l
   cases hd:l.dropWhile zba with
   | nil=>rw [hd] at h;cases h
   | cons d r2 =>
    rw [hd] at h h3 h2;simp only at h
    split at h
    ·rename_i hg
     cases h
     obtain ⟨rfl,hg2⟩:=hg;refine ⟨123 :: (l.takeWhile zba++[125]),List.cons_ne_nil _ _,?_,fun r'=>?_⟩
     ·rw [lCA,List.append_assoc];show 123 :: l=123 :: (l.takeWhile zba++125 :: r);rw [h3]
     ·have h4:=zgz (p:=zba) (l.takeWhile zba) (125 :: r') h1 (fun c hc=>by cases hc;decide)
      rw [lCA,List.append_assoc];show ptL U (123 :: (l.takeWhile zba++125 :: r'))=_;rw [ptL];rw [if_pos rfl,h4.1,h4.2];exact if_pos ⟨rfl,hg2⟩
    ·cases h
  ·cases h
theorem zok:∀ {l:Bs} {t r:Bs},zft U l=some (t,r)->∃ u,u ≠ []/\l=u++r/\∀ r',r'.head?=r.head?->zft U (u++r')=some (t,r')
 | [],_,_,h=>by cases h
 | c :: l,t,r,h=>by
  rw [zft] at h
  cases ht:z0f c with
  | some d =>
   rw [ht] at h
   cases h
   exact ⟨[c],List.cons_ne_nil _ _,rfl,fun r' _=>by
    show zft U (c :: r')=_;rw [zft];rw [ht]⟩
  | none =>
   rw [ht] at h;simp only at h
   split at h
   ·rename_i hc
    split at h
    ·cases h
    ·rename_i hd
     cases h
     exact ⟨[c],List.cons_ne_nil _ _,rfl,fun r' hr=>by
      show zft U (c :: r')=_;rw [zft];rw [ht];simp only;rw [if_pos hc,hr,if_neg hd]⟩
   ·rename_i hc
    split at h
    ·rename_i hx;obtain ⟨u,h1,h2,h3⟩:=z3h U h;exact ⟨c :: u,List.cons_ne_nil _ _,by rw [h2];rfl,fun r' _=>by
      show zft U (c :: (u++r'))=_;rw [zft];rw [ht];simp only;rw [if_neg hc,if_pos hx,h3]⟩
    ·rename_i hx
     split at h
     ·rename_i hu;obtain ⟨u,h1,h2,h3⟩:=z2d U h;exact ⟨c :: u,List.cons_ne_nil _ _,by rw [h2];rfl,fun r' _=>by
       show zft U (c :: (u++r'))=_;rw [zft];rw [ht];simp only;rw [if_neg hc,if_neg hx,if_pos hu,h3]⟩
     ·cases h
theorem zme {l:Bs} {p:Bs × Bs} (h:zft U l=some p):p.2.length < l.length:=by
 obtain ⟨t,r⟩:=p;obtain ⟨u,h1,h2,_⟩:=zok U h
 have:0 < u.length:=List.length_pos_iff.2 h1
 rw [h2,lLA];show r.length < _;omega
theorem z5v (z:Bs):∀ (l:Bs),hxL U (l++10 :: z)=(hxL U l).map fun p=>(p.1,p.2++10 :: z)
 | []=>by
  cases z with
  | nil=>rfl
  | cons b z =>
   show hxL U (10 :: b :: z)=none;rw [hxL];rw [show zij 10=none by decide]
 | [a]=>by
  show hxL U (a :: 10 :: z)=none;rw [hxL];rw [show zij 10=none by decide]
  cases zij a <;> rfl
 | a :: b :: l=>by
  show hxL U (a :: b :: (l++10 :: z))=_;rw [hxL,hxL]
  cases zij a with
  | none=>rfl
  | some x =>
   cases zij b with
   | none=>rfl
   | some y=>rfl
theorem z1z {p:UInt8->Bool} (h10:p 10=false) (z l:Bs):(l++10 :: z).takeWhile p=l.takeWhile p/\(l++10 :: z).dropWhile p=l.dropWhile p++10 :: z:=by
 obtain ⟨h1,h2,h3⟩:=zgq (p:=p) l;have h4:=zgz (p:=p) (l.takeWhile p) (l.dropWhile p++10 :: z) h1 (fun c hc=>by
  cases hd:l.dropWhile p with
  | nil=>rw [hd] at hc;cases hc;exact h10
  | cons x y=>rw [hd] at hc h2;cases hc;exact h2 _ rfl)
 rw [<-List.append_assoc,h3] at h4;exact h4
theorem z4y (z:Bs):∀ (l:Bs),ptL U (l++10 :: z)=(ptL U l).map fun p=>(p.1,p.2++10 :: z)
 | []=>by
  show ptL U (10 :: z)=none;rw [ptL];rw [if_neg (by decide)]
 | c :: l=>by
  show ptL U (c :: (l++10 :: z))=_;rw [ptL,ptL]
  by_cases hc:c=123
  ·rw [if_pos hc,if_pos hc];obtain ⟨h1,h2⟩:=z1z (p:=zba) (by decide) z l
   rw [h1,h2]
   cases hd:l.dropWhile zba with
   | nil=>exact if_neg (fun h=>by have:=h.1;revert this;decide)
   | cons d r =>
    have e:(d :: r)++10 :: z=d :: (r++10 :: z):=rfl;rw [e];simp only
    by_cases hg:d=125/\1<=(l.takeWhile zba).length/\(l.takeWhile zba).length<=6/\zy5 (zht (l.takeWhile zba))=true
    ·rw [if_pos hg,if_pos hg];rfl
    ·rw [if_neg hg,if_neg hg];rfl
  ·rw [if_neg hc,if_neg hc];rfl
theorem zxk (z:Bs):∀ (l:Bs),zft U (l++10 :: z)=(zft U l).map fun p=>(p.1,p.2++10 :: z)
 | []=>by
  show zft U (10 :: z)=none;rw [zft];rw [show z0f 10=none by decide]
  simp only;rw [if_neg (by decide),if_neg (by decide),if_neg (by decide)]
 | c :: l=>by
  show zft U (c :: (l++10 :: z))=_;rw [zft,zft]
  cases z0f c with
  | some d=>rfl
  | none =>
   simp only
   split
   ·have hh:(l++10 :: z).head?.any dgt=l.head?.any dgt:=by
     cases l with
     | nil=>exact (by decide:(some (10:UInt8)).any dgt=false)
     | cons a b=>rfl
    rw [hh]
    split
    ·rfl
    ·rfl
   ·split
    ·exact z5v U z l
    ·split
     ·exact z4y U z l
     ·rfl
theorem zl4 (q:UInt8):∀ (n m:Nat) (l:Bs),l.length<=n->l.length<=m->zn6 U q n l=zn6 U q m l
 | 0,m,l,h,_=>by
  have:l=[]:=List.eq_nil_of_length_eq_zero (by omega)
  subst this
  cases m <;> rfl
 | n + 1,0,l,_,h=>by
  have:l=[]:=List.eq_nil_of_length_eq_zero (by omega)
  subst this;rfl
 | n + 1,m + 1,[],_,_=>rfl
 | n + 1,m + 1,c :: r,h,h'=>by
  simp only [lLC] at h h';rw [zn6,zn6]
  split
  ·rfl
  ·split
   ·rfl
   ·split
    ·cases he:zft U r with
     | none=>rfl
     | some p =>
      have:=zme U he
      simp only;rw [zl4 q n m p.2 (by omega) (by omega)]
    ·rw [zl4 q n m r (by omega) (by omega)]
theorem zrk (q:UInt8):lit U q []=none:=rfl
theorem zj6 (q:UInt8) (r:Bs):lit U q (q :: r)=some ([],r):=by
 show zn6 U q (r.length + 1) (q :: r)=_;rw [zn6,if_pos rfl]
theorem zl2 {q c:UInt8} (r:Bs) (h:c ≠ q) (h1:c=10\/c=13):lit U q (c :: r)=none:=by
 show zn6 U q (r.length + 1) (c :: r)=_;rw [zn6,if_neg h,if_pos h1]
theorem zlf {q c:UInt8} {r:Bs} (h:c ≠ q) (h1:¬ (c=10\/c=13)) (h2:c=92) (h3:zft U r=none):lit U q (c :: r)=none:=by
 show zn6 U q (r.length + 1) (c :: r)=_;rw [zn6,if_neg h,if_neg h1,if_pos h2,h3]
theorem zj5 {q c:UInt8} {r:Bs} {p:Bs × Bs} (h:c ≠ q) (h1:¬ (c=10\/c=13)) (h2:c=92) (h3:zft U r=some p):lit U q (c :: r)=(lit U q p.2).map fun z=>(p.1++z.1,z.2):=by
 show zn6 U q (r.length + 1) (c :: r)=_;rw [zn6,if_neg h,if_neg h1,if_pos h2,h3];simp only
 have:=zme U h3
 unfold lit;rw [zl4 U q r.length p.2.length p.2 (by omega) (nR _)]
theorem zj7 {q c:UInt8} (r:Bs) (h:c ≠ q) (h1:¬ (c=10\/c=13)) (h2:c ≠ 92):lit U q (c :: r)=(lit U q r).map fun z=>(c :: z.1,z.2):=by
 show zn6 U q (r.length + 1) (c :: r)=_;rw [zn6,if_neg h,if_neg h1,if_neg h2];rfl
theorem zrl (q:UInt8) {motive:Bs->Prop} (nil:motive []) (end_:∀ r,motive (q :: r)) (brk:∀ c r,c ≠ q->(c=10\/c=13)->motive (c :: r))
  (esc0:∀ c r,c ≠ q->¬ (c=10\/c=13)->c=92->zft U r=none->motive (c :: r)) (esc:∀ c r p,c ≠ q->¬ (c=10\/c=13)->c=92->zft U r=some p->motive p.2->motive (c :: r))
  (chr:∀ c r,c ≠ q->¬ (c=10\/c=13)->c ≠ 92->motive r->motive (c :: r)):∀ (n:Nat) (l:Bs),l.length<=n->motive l
 | 0,l,h=>by
  have:l=[]:=List.eq_nil_of_length_eq_zero (by omega)
  subst this;exact nil
 | n + 1,[],_=>nil
 | n + 1,c :: r,h=>by
  simp only [lLC] at h;have rec_:=zrl q nil end_ brk esc0 esc chr n
  by_cases h1:c=q
  ·subst h1;exact end_ r
  ·by_cases h2:c=10\/c=13
   ·exact brk c r h1 h2
   ·by_cases h3:c=92
    ·cases he:zft U r with
     | none=>exact esc0 c r h1 h2 h3 he
     | some p =>
      have:=zme U he
      exact esc c r p h1 h2 h3 he (rec_ _ (by omega))
    ·exact chr c r h1 h2 h3 (rec_ r (by omega))
theorem zwu (q:UInt8):∀ (l:Bs),∀ t r,lit U q l=some (t,r)->∃ u,u ≠ []/\l=u++r/\∀ r',lit U q (u++r')=some (t,r'):=by
 intro l;refine zrl U q (motive:=fun l=>∀ t r,lit U q l=some (t,r)->∃ u,u ≠ []/\l=u++r/\∀ r',lit U q (u++r')=some (t,r')) ?_ ?_ ?_ ?_ ?_ ?_ l.length l (nR _)
 ·intro t r h;rw [zrk] at h;cases h
 ·intro l t r h;rw [zj6] at h
  cases h
  exact ⟨[q],List.cons_ne_nil _ _,rfl,fun r'=>zj6 U q r'⟩
 ·intro c l h1 h2 t r h;rw [zl2 U l h1 h2] at h;cases h
 ·intro c l h1 h2 h3 he t r h;rw [zlf U h1 h2 h3 he] at h;cases h
 ·intro c l p h1 h2 h3 he ih t r h;rw [zj5 U h1 h2 h3 he] at h
  cases hl:lit U q p.2 with
  | none=>rw [hl] at h;cases h
  | some z =>
   rw [hl] at h
   cases h
   obtain ⟨u2,g1,g2,g3⟩:=ih z.1 z.2 hl;obtain ⟨u1,k1,k2,k3⟩:=zok U (t:=p.1) (r:=p.2) he;refine ⟨c :: (u1++u2),List.cons_ne_nil _ _,by rw [k2,g2];simp,fun r'=>?_⟩
   show lit U q (c :: ((u1++u2)++r'))=_;have h5:zft U ((u1++u2)++r')=some (p.1,u2++r'):=by
    rw [List.append_assoc];refine k3 _ ?_;rw [g2]
    cases u2 with
    | nil=>exact absurd rfl g1
    | cons x y=>rfl
   rw [zj5 U h1 h2 h3 h5];show (lit U q (u2++r')).map _=_;rw [g3];rfl
 ·intro c l h1 h2 h3 ih t r h;rw [zj7 U l h1 h2 h3] at h
  cases hl:lit U q l with
  | none=>rw [hl] at h;cases h
  | some z =>
   rw [hl] at h
   cases h
   obtain ⟨u,g1,g2,g3⟩:=ih z.1 z.2 hl;refine ⟨c :: u,List.cons_ne_nil _ _,by rw [g2];rfl,fun r'=>?_⟩
   show lit U q (c :: (u++r'))=_;rw [zj7 U _ h1 h2 h3,g3];rfl
theorem z5e {q:UInt8} (hq:q ≠ 10) (z:Bs):∀ (l:Bs),lit U q (l++10 :: z)=(lit U q l).map fun p=>(p.1,p.2++10 :: z):=by
 intro l;refine zrl U q (motive:=fun l=>lit U q (l++10 :: z)=(lit U q l).map fun p=>(p.1,p.2++10 :: z)) ?_ ?_ ?_ ?_ ?_ ?_ l.length l (nR _)
 ·show lit U q (10 :: z)=_;rw [zl2 U z (Ne.symm hq) (.inl rfl),zrk];rfl
 ·intro l;rw [lCA,zj6,zj6];rfl
 ·intro c l h1 h2;rw [lCA,zl2 U _ h1 h2,zl2 U _ h1 h2];rfl
 ·intro c l h1 h2 h3 he;have h5:=zxk U z l;rw [he] at h5;rw [lCA,zlf U h1 h2 h3 h5,zlf U h1 h2 h3 he];rfl
 ·intro c l p h1 h2 h3 he ih;have h5:=zxk U z l;rw [he] at h5;rw [lCA,zj5 U h1 h2 h3 h5,zj5 U h1 h2 h3 he];show (lit U q (p.2++10 :: z)).map _=_;rw [ih]
  cases lit U q p.2 <;> rfl
 ·intro c l h1 h2 h3 ih;rw [lCA,zj7 U _ h1 h2 h3,zj7 U _ h1 h2 h3,ih]
  cases lit U q l <;> rfl
end
end Go.Proofs.YtcfecmeocimclaaGreatDoor

/- Own work: the lexer,plain: what follows a token;two texts. -/
namespace Go.Proofs.YtcfecmeocimclaaGreatDoor
set_option linter.unusedSimpArgs false
set_option linter.unusedSectionVars false
theorem z15 {k:Nat} {l z:Bs} (h:l.length < k):10 ∈ (l++10 :: z).take k:=by
 rw [List.take_append];refine List.mem_append_right _ ?_;obtain ⟨m,hm⟩:∃ m,k - l.length=m + 1:=⟨k - l.length - 1,by omega⟩
 rw [hm,List.take_succ_cons];exact List.mem_cons_self ..
theorem zns {k:Nat} {l z:Bs} (h:k<=l.length):(l++z).take k=l.take k:=List.take_append_of_le_length h
theorem z2h {L:List Bs} {k:Nat} (hk:(L.all fun w=>decide (w.length=k) && !w.contains 10)=true) (l z:Bs):L.any (· == (l++10 :: z).take k)=L.any (· == l.take k):=by
 rcases Nat.lt_or_ge l.length k with h|h
 ·have h1:L.any (· == (l++10 :: z).take k)=false:=by
   rw [List.any_eq_false];intro w hw he;have h2:=List.all_eq_true.1 hk w hw;simp only [bAT,decide_eq_true_eq,Bool.not_eq_true',List.contains_eq_mem,decide_eq_false_iff_not] at h2;have h3:w=(l++10 :: z).take k:=by simpa using he
   exact h2.2 (by rw [h3];exact z15 h)
  have h2:L.any (· == l.take k)=false:=by
   rw [List.any_eq_false];intro w hw he;have h2:=List.all_eq_true.1 hk w hw;simp only [bAT,decide_eq_true_eq] at h2;have h3:w=l.take k:=by simpa using he
   have h4:(l.take k).length<=l.length:=by simp;omega
   rw [<-h3] at h4;omega
  rw [h1,h2]
 ·rw [zns h]
theorem zi7 {L:List Bs} {k:Nat} (hk:(L.all fun w=>decide (w.length=k))=true) {l:Bs} (h:L.any (· == l.take k)=true):k<=l.length:=by
 obtain ⟨w,hw,he⟩:=List.any_eq_true.1 h;have h2:=List.all_eq_true.1 hk w hw;simp only [decide_eq_true_eq] at h2;have h3:w=l.take k:=by simpa using he
 rw [h3] at h2;simp only [List.length_take] at h2;omega
theorem zle {l w:Bs} (h:opL l=some w):w ≠ []/\l=w++l.drop w.length/\w.length<=l.length:=by
 have key:∀ k,0 < k->k<=l.length->l.take k=w->w ≠ []/\l=w++l.drop w.length/\w.length<=l.length:=fun k h0 hk e=>by
  subst e;have h1:(l.take k).length=k:=by rw [List.length_take];omega
  refine ⟨fun e=>?_,by rw [h1,List.take_append_drop],by omega⟩
  rw [e] at h1;simp at h1;omega
 unfold opL at h
 split at h
 ·rename_i hc;exact key 3 (by decide) (zi7 (by decide) hc) (Option.some.inj h)
 ·split at h
  ·rename_i hc;exact key 2 (by decide) (zi7 (by decide) hc) (Option.some.inj h)
  ·split at h
   ·rename_i hc;exact key 1 (by decide) (zi7 (by decide) hc) (Option.some.inj h)
   ·cases h
theorem z42 (l z:Bs):opL (l++10 :: z)=opL l:=by
 unfold opL;rw [z2h (by decide),z2h (by decide),z2h (by decide)]
 split
 ·rename_i h;rw [zns (zi7 (by decide) h)]
 ·split
  ·rename_i h;rw [zns (zi7 (by decide) h)]
  ·split
   ·rename_i h;rw [zns (zi7 (by decide) h)]
   ·rfl
theorem op3_2 {l:Bs} (h:zqt.any (· == l.take 3)=true):zs2.any (· == l.take 2)=true:=by
 obtain ⟨w,hw,he⟩:=List.any_eq_true.1 h;have h3:w=l.take 3:=by simpa using he
 have h4:l.take 2=w.take 2:=by rw [h3,List.take_take];rfl
 rw [h4];exact List.all_eq_true.1 (show (zqt.all fun w=>zs2.any (· == w.take 2))=true by decide) w hw
theorem zwh {a b:UInt8} (hb:b=32\/b=10):zs2.any (· == [a,b])=false:=by
 rw [List.any_eq_false];intro w hw he;have h3:w=[a,b]:=by simpa using he
 have h4:=List.all_eq_true.1 (show (zs2.all fun w=>!w.contains 32 && !w.contains 10)=true by decide) w hw
 rw [h3] at h4
 rcases hb with rfl|rfl <;> simp at h4
theorem zwg {a b c:UInt8} (hc:c=32\/c=10):zqt.any (· == [a,b,c])=false:=by
 rw [List.any_eq_false];intro w hw he;have h3:w=[a,b,c]:=by simpa using he
 have h4:=List.all_eq_true.1 (show (zqt.all fun w=>!w.contains 32 && !w.contains 10)=true by decide) w hw
 rw [h3] at h4
 rcases hc with rfl|rfl <;> simp at h4
theorem zs1 {L:List Bs} {k:Nat} (hk:(L.all fun w=>decide (w.length=k))=true) {x:Bs} (h:x.length ≠ k):L.any (· == x)=false:=by
 rw [List.any_eq_false];intro w hw he;have h2:=List.all_eq_true.1 hk w hw;simp only [decide_eq_true_eq] at h2;have h3:w=x:=by simpa using he
 rw [h3] at h2;exact h h2
theorem z2j {l w:Bs} (h:opL l=some w) {r':Bs} (hr:LkA (l.drop w.length) r'):opL (w++r')=some w:=by
 unfold opL at h
 split at h
 ·rename_i hc
  cases h
  have hl:=zi7 (by decide) hc
  have h1:(l.take 3).length=3:=by rw [List.length_take];omega
  have h2:(l.take 3++r').take 3=l.take 3:=by rw [List.take_append_of_le_length (by omega),List.take_take];rfl
  unfold opL;rw [h2,if_pos hc]
 ·rename_i h3
  split at h
  ·rename_i hc
   cases h
   have hl:=zi7 (by decide) hc
   obtain ⟨a,b,l2,rfl⟩:∃ a b l2,l=a :: b :: l2:=by
    match l,hl with
    | a :: b :: l2,_=>exact ⟨a,b,l2,rfl⟩
   have hr':LkA l2 r':=hr;have h2:zqt.any (· == ([a,b]++r').take 3)=false:=by
    cases r' with
    | nil=>exact zs1 (k:=3) (by decide) (by simp)
    | cons c r' =>
     show zqt.any (· == [a,b,c])=false
     rcases hr' with e|e|e|e
     ·cases l2 with
      | nil=>cases e
      | cons d l2 =>
       cases e
       exact Bool.eq_false_iff.2 h3
     ·cases e;exact zwg (.inl rfl)
     ·cases e;exact zwg (.inr rfl)
     ·cases e
   show opL ([a,b]++r')=some [a,b];unfold opL;rw [if_neg (by rw [h2];decide)]
   have h5:([a,b]++r').take 2=[a,b]:=rfl;rw [h5];have hc':zs2.any (· == [a,b])=true:=hc;rw [if_pos hc']
  ·rename_i h2n
   split at h
   ·rename_i hc
    cases h
    have hl:=zi7 (by decide) hc
    obtain ⟨a,l2,rfl⟩:∃ a l2,l=a :: l2:=by
     match l,hl with
     | a :: l2,_=>exact ⟨a,l2,rfl⟩
    have hr':LkA l2 r':=hr;have h2:zs2.any (· == ([a]++r').take 2)=false:=by
     cases r' with
     | nil=>exact zs1 (k:=2) (by decide) (by simp)
     | cons c r' =>
      show zs2.any (· == [a,c])=false
      rcases hr' with e|e|e|e
      ·cases l2 with
       | nil=>cases e
       | cons d l2 =>
        cases e
        exact Bool.eq_false_iff.2 h2n
      ·cases e;exact zwh (.inl rfl)
      ·cases e;exact zwh (.inr rfl)
      ·cases e
    have h4:zqt.any (· == ([a]++r').take 3)=false:=by
     cases h5:zqt.any (· == ([a]++r').take 3) with
     | false=>rfl
     | true =>
      have:=op3_2 h5
      rw [h2] at this
      cases this
    show opL ([a]++r')=some [a];unfold opL;rw [if_neg (by rw [h4];decide),if_neg (by rw [h2];decide)]
    have h5:([a]++r').take 1=[a]:=rfl;rw [h5];have hc':z1e.any (· == [a])=true:=hc;rw [if_pos hc']
   ·cases h
section
variable (U:Nat->Bs) (Rp:Bs->Bs)
theorem zzc {l t r:Bs} {k:Int} (h:zjs l=.ok k t r) (hd:∃ c l',l=c :: l'/\dgt c=true):∃ u,u ≠ []/\l=u++r/\(∃ c u',u=c :: u'/\dgt c=true)/\∀ r',LkA r r'->zjs (u++r')=.ok k t r':=by
 obtain ⟨h1,h2,h3⟩:=zgq (p:=dgt) l;obtain ⟨c,l',rfl,hc⟩:=hd;have hcons:(c :: l').takeWhile dgt=c :: l'.takeWhile dgt:=by rw [List.takeWhile_cons,hc];rfl
 unfold zjs at h
 split at h
 ·cases h
 ·rename_i g1
  split at h
  ·cases h
  ·rename_i g2
   split at h
   ·cases h
   ·rename_i g3
    cases h
    refine ⟨(c :: l').takeWhile dgt,by rw [hcons];exact List.cons_ne_nil _ _,h3.symm,⟨c,_,hcons,hc⟩,fun r' hr=>?_⟩
    have h4:=zgz (p:=dgt) ((c :: l').takeWhile dgt) r' h1 (z2z hr (by decide) (by decide) h2)
    have h5:¬ (r'.head?.any ltr=true):=fun h=>by
     cases hh:r'.head? with
     | none=>rw [hh] at h;cases h
     | some x =>
      rw [hh] at h;have h6:∀ y,((c :: l').dropWhile dgt).head?=some y->ltr y=false:=fun y hy=>by
       rw [hy] at g2;exact Bool.eq_false_iff.2 g2
      have h7:=z2z (p:=ltr) hr (by decide) (by decide) h6 x hh
      rw [show (some x).any ltr=ltr x from rfl,h7] at h
      cases h
    unfold zjs;rw [h4.1,h4.2,if_neg g1,if_neg h5,if_neg g3]
theorem z2m (l z:Bs):zjs (l++10 :: z)=match zjs l with|.bad e=>.bad e|.ok k t r=>.ok k t (r++10 :: z):=by
 obtain ⟨h1,h2⟩:=z1z (p:=dgt) (by decide) z l
 have h3:((l++10 :: z).dropWhile dgt).head?.any ltr=(l.dropWhile dgt).head?.any ltr:=by
  rw [h2]
  cases l.dropWhile dgt with
  | nil=>exact (by decide:(some (10:UInt8)).any ltr=false)
  | cons a b=>rfl
 unfold zjs;rw [h3,h1]
 split
 ·rfl
 ·split
  ·rfl
  ·split
   ·rfl
   ·rw [h2]
theorem zis {l t r:Bs} {k:Int} (h:zeq U Rp l=.ok k t r):∃ u,u ≠ []/\l=u++r/\∀ r',LkA r r'->zeq U Rp (u++r')=.ok k t r':=by
 cases l with
 | nil=>cases h
 | cons c l =>
  rw [zeq] at h
  split at h
  ·rename_i hc
   cases h
   obtain ⟨h1,h2,h3⟩:=zgq (p:=wrd) (c :: l);have hw:wrd c=true:=by unfold wrd;rw [hc];rfl
   have hcons:(c :: l).takeWhile wrd=c :: l.takeWhile wrd:=by rw [List.takeWhile_cons,hw];rfl
   refine ⟨(c :: l).takeWhile wrd,by rw [hcons];exact List.cons_ne_nil _ _,h3.symm,fun r' hr=>?_⟩
   have h4:=zgz (p:=wrd) ((c :: l).takeWhile wrd) r' h1 (z2z hr (by decide) (by decide) h2)
   rw [hcons] at h4 ⊢;show zeq U Rp (c :: (l.takeWhile wrd++r'))=_;rw [zeq];rw [if_pos hc];have h5:c :: (l.takeWhile wrd++r')=(c :: l.takeWhile wrd)++r':=rfl;rw [h5,h4.1,h4.2]
  ·rename_i hc
   split at h
   ·rename_i hd;obtain ⟨u,h1,h2,⟨c',u',rfl,hd'⟩,h3⟩:=zzc h ⟨c,l,rfl,hd⟩;refine ⟨c' :: u',h1,h2,fun r' hr=>?_⟩
    have hcc:c=c':=by
     have:=congrArg List.head? h2
     simpa using this
    subst hcc;show zeq U Rp (c :: (u'++r'))=_;rw [zeq];rw [if_neg hc,if_pos hd];exact h3 r' hr
   ·rename_i hd
    split at h
    ·rename_i hq
     cases hl:lit U c l with
     | none=>rw [hl] at h;cases h
     | some z =>
      rw [hl] at h
      cases h
      obtain ⟨u,h1,h2,h3⟩:=zwu U c l z.1 z.2 hl;refine ⟨c :: u,List.cons_ne_nil _ _,by rw [lCA,<- h2],fun r' _=>?_⟩
      show zeq U Rp (c :: (u++r'))=_;rw [zeq];rw [if_neg hc,if_neg hd,if_pos hq,h3]
    ·rename_i hq
     cases ho:opL (c :: l) with
     | none=>rw [ho] at h;cases h
     | some w =>
      rw [ho] at h
      cases h
      obtain ⟨h1,h2,h3⟩:=zle ho;refine ⟨t,h1,h2,fun r' hr=>?_⟩
      have h4:=z2j ho hr
      cases t with
      | nil=>exact absurd rfl h1
      | cons x w =>
       have hcc:c=x:=by
        have:=congrArg List.head? h2
        simpa using this
       subst hcc;show zeq U Rp (c :: (w++r'))=_;rw [zeq];rw [if_neg hc,if_neg hd,if_neg hq];have h5:c :: (w++r')=(c :: w)++r':=rfl;rw [h5,h4];simp only;rw [List.drop_left]
theorem z14 (z:Bs):∀ (l:Bs),l ≠ []->zeq U Rp (l++10 :: z)=match zeq U Rp l with|.bad e=>.bad e|.ok k t r=>.ok k t (r++10 :: z)
 | [],h=>absurd rfl h
 | c :: l,_=>by
  show zeq U Rp (c :: (l++10 :: z))=_;rw [zeq,zeq]
  split
  ·obtain ⟨h1,h2⟩:=z1z (p:=wrd) (by decide) z (c :: l)
   have h5:c :: (l++10 :: z)=(c :: l)++10 :: z:=rfl;rw [h5,h1,h2]
  ·split
   ·exact z2m (c :: l) z
   ·split
    ·rename_i hq;rw [z5e U (by rintro rfl;revert hq;decide) z l]
     cases lit U c l <;> rfl
    ·have h5:c :: (l++10 :: z)=(c :: l)++10 :: z:=rfl;rw [h5,z42]
     cases ho:opL (c :: l) with
     | none=>rfl
     | some w =>
      obtain ⟨_,_,h3⟩:=zle ho;simp only;rw [List.drop_append_of_le_length h3]
end
end Go.Proofs.YtcfecmeocimclaaGreatDoor

/- Own work: the lexer,plain: all tokens of a text;two texts;white space between tokens. -/
namespace Go.Proofs.YtcfecmeocimclaaGreatDoor
set_option linter.unusedSimpArgs false
set_option linter.unusedSectionVars false
structure Tk where
 k:Int
 t:Bs
 rem:Nat
def Tk.up (n:Nat) (x:Tk):Tk:=⟨x.k,x.t,x.rem + n⟩
section
variable (U:Nat->Bs) (Rp:Bs->Bs)
def zks:Nat->Bs->List Tk × Option (Nat × Int)
 | 0,_=>([],none)
 | n + 1,l=>if (skp l).2=false then ([],some ((skp l).1.length,4)) else if (skp l).1=[] then ([],none) else (match zeq U Rp (skp l).1 with
  | .bad e=>([],some ((skp l).1.length,e))
  | .ok k t r=>(⟨k,t,(skp l).1.length⟩ :: (zks n r).1,(zks n r).2))
def lex (l:Bs):List Tk × Option (Nat × Int):=zks U Rp (l.length + 1) l
theorem zm6 {l t r:Bs} {k:Int} (h:zeq U Rp l=.ok k t r):r.length < l.length:=by
 obtain ⟨u,h1,h2,_⟩:=zis U Rp h
 have:0 < u.length:=List.length_pos_iff.2 h1
 rw [h2,lLA];omega
theorem zjc:∀ (n m:Nat) (l:Bs),l.length < n->l.length < m->zks U Rp n l=zks U Rp m l
 | 0,m,l,h,_=>by omega
 | n + 1,0,l,_,h=>by omega
 | n + 1,m + 1,l,h,h'=>by
  rw [zks,zks]
  split
  ·rfl
  ·split
   ·rfl
   ·cases ht:zeq U Rp (skp l).1 with
    | bad e=>rfl
    | ok k t r =>
     have h1:=zm6 U Rp ht;have h2:=zlr l;simp only;rw [zjc n m r (by omega) (by omega)]
theorem zl5 {a b:Bs} (h:skp a=skp b):lex U Rp a=lex U Rp b:=by
 unfold lex;rw [zjc U Rp (a.length + 1) (a.length + b.length + 1) a (by omega) (by omega),zjc U Rp (b.length + 1) (a.length + b.length + 1) b (by omega) (by omega)]
 rw [zks,zks,h]
theorem zjb {l r:Bs} (h:skp l=(r,false)):lex U Rp l=([],some (r.length,4)):=by
 unfold lex;rw [zks,h];rfl
theorem zge {l:Bs} (h:skp l=([],true)):lex U Rp l=([],none):=by
 unfold lex;rw [zks,h];rfl
theorem zj8 {l r:Bs} {e:Int} (h:skp l=(r,true)) (hr:r ≠ []) (ht:zeq U Rp r=.bad e):lex U Rp l=([],some (r.length,e)):=by
 unfold lex;rw [zks,h];simp only [hr,ht,if_false,Bool.true_eq_false]
theorem zfa {l r t r2:Bs} {k:Int} (h:skp l=(r,true)) (ht:zeq U Rp r=.ok k t r2):lex U Rp l=(⟨k,t,r.length⟩ :: (lex U Rp r2).1,(lex U Rp r2).2):=by
 have hr:r ≠ []:=fun e=>by rw [e] at ht;cases ht
 have h1:=zm6 U Rp ht;have h2:=zlr l;rw [h] at h2;simp only at h2;unfold lex;rw [zjc U Rp (r2.length + 1) l.length r2 (by omega) (by omega)]
 rw [zks];rw [h];simp only [hr,ht,if_false,Bool.true_eq_false]
theorem zq4 (l:Bs):∃ u,l=u++(skp l).1:=by
 refine zjy (motive:=fun l=>∃ u,l=u++(skp l).1) ?_ ?_ ?_ ?_ ?_ ?_ l.length l (nR _)
 ·exact ⟨[],rfl⟩
 ·intro c r hw ⟨u,ih⟩;rw [zfx hw];exact ⟨c :: u,by rw [lCA,<- ih]⟩
 ·intro c r hw hk ⟨u,ih⟩;rw [zkn hw hk];obtain ⟨d,l2,rfl⟩:=zh0 hk (by decide)
  have ih':za3 l2=u++(skp (za3 l2)).1:=ih;obtain ⟨v,hv⟩:∃ v,l2=v++za3 l2:=by
   cases hd:za3 l2 with
   | nil=>exact ⟨l2,by simp⟩
   | cons x y =>
    obtain ⟨v,h3,_⟩:=zhw l2 (by rw [hd];exact List.cons_ne_nil _ _)
    exact ⟨v,by rw [<-hd];exact h3⟩
  refine ⟨c :: d :: (v++u),?_⟩;show c :: d :: l2=c :: d :: ((v++u)++(skp (za3 l2)).1);rw [List.append_assoc,<- ih',<- hv]
 ·intro c r r' hw hk hd ⟨u,ih⟩;rw [zko hw hk hd];obtain ⟨d,l2,rfl⟩:=zh0 hk (by decide)
  obtain ⟨v,h3,_⟩:=zhx hd;have h3':l2=v++r':=h3;refine ⟨c :: d :: (v++u),?_⟩;show c :: d :: l2=c :: d :: ((v++u)++(skp r').1);rw [List.append_assoc,<- ih,<- h3']
 ·intro c r hw hk hd;rw [zhn hw hk hd];exact ⟨[],rfl⟩
 ·intro c r hw hk;rw [zfh hw hk];exact ⟨[],rfl⟩
theorem z6b {c:UInt8} {r:Bs} (h:cmk (c :: r)=0) (z:Bs):cmk (c :: (r++10 :: z))=0:=by
 cases r with
 | nil =>
  show cmk (c :: 10 :: z)=0;unfold cmk;rw [if_neg (by simp),if_neg (by simp)]
 | cons d r=>exact h
theorem z2y (t:Bs):∀ (n:Nat) (s:Bs),s.length<=n →
  ((lex U Rp s).2=none->lex U Rp (s++10 :: t)=((lex U Rp s).1.map (Tk.up (t.length + 1))++(lex U Rp t).1,(lex U Rp t).2)) ∧
  ∀ m e,(lex U Rp s).2=some (m,e)->(lex U Rp (s++10 :: t)).2=some (m + (t.length + 1),e)\/∃ u r,s=u++r/\r.length=m/\r.take 2=[47,42]:=by
 intro n
 induction n with
 | zero =>
  intro s h
  have:s=[]:=List.eq_nil_of_length_eq_zero (by omega)
  subst this;have h1:lex U Rp []=([],none):=zge U Rp zfp;rw [h1];refine ⟨fun _=>?_,fun m e h=>by cases h⟩
  have h2:lex U Rp ([]++10 :: t)=lex U Rp t:=zl5 U Rp (z00 [] zfp t);rw [h2];rfl
 | succ n ih =>
  intro s hs;obtain ⟨u,hu⟩:=zq4 s;obtain ⟨r,b,hrb⟩:∃ r b,skp s=(r,b):=⟨_,_,rfl⟩
  have hat:=zm8 s r b hrb;rw [hrb] at hu;simp only at hu
  cases b with
  | false =>
   rw [zjb U Rp hrb];refine ⟨fun h=>(by cases h),fun m e h=>?_⟩
   cases h
   exact .inr ⟨u,r,hu,rfl,hat.1 rfl⟩
  | true =>
   rcases hat.2 rfl with rfl|⟨c,r',rfl,hw,hk⟩
   ·rw [zge U Rp hrb];refine ⟨fun _=>?_,fun m e h=>by cases h⟩
    have h2:lex U Rp (s++10 :: t)=lex U Rp t:=zl5 U Rp (z00 s hrb t);rw [h2];rfl
   ·obtain ⟨u',hu',happ⟩:=zq5 s _ hrb (List.cons_ne_nil _ _);have hsk:skp (s++10 :: t)=((c :: r')++10 :: t,true):=by
     rw [hu',List.append_assoc,happ];exact ziv hw (z6b hk t)
    have htn:=z14 U Rp t (c :: r') (List.cons_ne_nil _ _)
    cases ht:zeq U Rp (c :: r') with
    | bad e =>
     rw [ht] at htn;rw [zj8 U Rp hrb (List.cons_ne_nil _ _) ht];refine ⟨fun h=>(by cases h),fun m e' h=>.inl ?_⟩
     cases h
     rw [zj8 U Rp hsk (by simp) htn]
     simp only [lLA,lLC]
    | ok k x r2 =>
     rw [ht] at htn;have hlt:=zm6 U Rp ht;have hle:=zlr s;rw [hrb] at hle;simp only at hle;obtain ⟨ih1,ih2⟩:=ih r2 (by omega)
     rw [zfa U Rp hrb ht,zfa U Rp hsk htn];refine ⟨fun h=>?_,fun m e h=>?_⟩
     ·rw [ih1 h];simp only [List.map_cons,lCA,Tk.up,lLA,lLC];rw [show r'.length + (t.length + 1) + 1=r'.length + 1 + (t.length + 1) by omega]
     ·rcases ih2 m e h with h5|⟨v,r3,h5,h6,h7⟩
      ·exact .inl h5
      ·obtain ⟨w,_,hw2,_⟩:=zis U Rp ht;exact .inr ⟨u++w++v,r3,by rw [hu,hw2,h5];simp,h6,h7⟩
end
end Go.Proofs.YtcfecmeocimclaaGreatDoor

/- Own work: the lexer,plain: literals of any text;tokens joined by blanks. -/
namespace Go.Proofs.YtcfecmeocimclaaGreatDoor
set_option linter.unusedSimpArgs false
set_option linter.unusedSectionVars false
def z32 (n:Nat):UInt8:=if n < 10 then UInt8.ofNat (48 + n) else UInt8.ofNat (87 + n)
def qB (c:UInt8):Bs:=if c=34\/c=92 then [92,c] else if c=10 then [92,110] else if c=9 then [92,116] else if c=13 then [92,114] else if c=8 then [92,98] else if c.toNat < 32\/c=127 then [92,120,z32 (c.toNat / 16),z32 (c.toNat % 16)] else [c]
def quo (x:Bs):Bs:=34 :: (x.flatMap qB++[34])
section
variable (U:Nat->Bs) (Rp:Bs->Bs)
structure One (w:Bs) (k:Int) (t:Bs):Prop where
 s:skp w=(w,true)
 t:zeq U Rp w=.ok k t []
theorem One.cat {w t:Bs} {k:Int} (h:One U Rp w k t) (z:Bs):lex U Rp (w++32 :: z)=(⟨k,t,w.length + 1 + z.length⟩ :: (lex U Rp z).1,(lex U Rp z).2):=by
 obtain ⟨u,h1,h2,h3⟩:=zis U Rp h.t;rw [List.append_nil] at h2;subst h2;have h4:=h3 (32 :: z) (.inr (.inl rfl));have hat:=zm8 w w true h.s
 rcases hat.2 rfl with e|⟨c,r',e,hw,hk⟩
 ·exact absurd e h1
 ·subst e;have hck:cmk (c :: (r'++32 :: z))=0:=by
   cases r' with
   | cons p q=>exact hk
   | nil =>
    show cmk (c :: 32 :: z)=0;unfold cmk;rw [if_neg (by simp),if_neg (by simp)]
  have hsk:skp ((c :: r')++32 :: z)=((c :: r')++32 :: z,true):=ziv hw hck;rw [zfa U Rp hsk h4];have h5:lex U Rp (32 :: z)=lex U Rp z:=zl5 U Rp (zfx (by decide))
  rw [h5];have h6:((c :: r')++32 :: z).length=(c :: r').length + 1 + z.length:=by
   rw [lLA,lLC (a:=32)];omega
  rw [h6]
theorem One.lex {w t:Bs} {k:Int} (h:One U Rp w k t):lex U Rp w=([⟨k,t,w.length⟩],none):=by
 rw [zfa U Rp h.s h.t,zge U Rp zfp]
theorem zsh {l t r:Bs} {k:Int} (h:zeq U Rp l=.ok k t r) (hk:k ≠ 4):l=t++r:=by
 cases l with
 | nil=>cases h
 | cons c l =>
  rw [zeq] at h
  split at h
  ·cases h
   exact (zgq (p:=wrd) (c :: l)).2.2.symm
  ·split at h
   ·unfold zjs at h
    split at h
    ·cases h
    ·split at h
     ·cases h
     ·split at h
      ·cases h
      ·cases h
       exact (zgq (p:=dgt) (c :: l)).2.2.symm
   ·split at h
    ·cases hl:lit U c l with
     | none=>rw [hl] at h;cases h
     | some z=>rw [hl] at h;cases h;exact absurd rfl hk
    ·cases ho:opL (c :: l) with
     | none=>rw [ho] at h;cases h
     | some w =>
      rw [ho] at h
      cases h
      exact (zle ho).2.1
def z3g:List Bs->Bs
 | []=>[]
 | [x]=>x
 | x :: y :: l=>x++32 :: z3g (y :: l)
end
end Go.Proofs.YtcfecmeocimclaaGreatDoor
