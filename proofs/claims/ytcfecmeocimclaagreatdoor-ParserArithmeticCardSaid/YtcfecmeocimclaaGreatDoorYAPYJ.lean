/- Own work: sums and products,plain. -/
import Derived.Test.YtcfecmeocimclaaGreatDoorYAA0
import Derived.Test.YtcfecmeocimclaaGreatDoorYAPYH
namespace Go.Proofs.YtcfecmeocimclaaGreatDoor
set_option maxRecDepth 100000
structure Un where
 neg:Bool
 d:Nat
structure It where
 op:Nat
 u:Un
def opC (n:Nat):UInt8:=match n with
 | 0=>43
 | 1=>45
 | _=>42
def dgC (n:Nat):UInt8:=match n with
 | 0=>48
 | 1=>49
 | 2=>50
 | 3=>51
 | 4=>52
 | 5=>53
 | 6=>54
 | 7=>55
 | 8=>56
 | _=>57
def unB (u:Un):Bs:=(if u.neg then [45] else [])++[dgC u.d]
def itB:List It->Bs
 | []=>[]
 | x :: l=>32 :: opC x.op :: 32 :: (unB x.u++itB l)
def tkO (n:Nat):Tk:=⟨5,[opC n],0⟩
def tkD (n:Nat):Tk:=⟨3,[dgC n],0⟩
def unT (u:Un) (r:Ts):Ts:=if u.neg then tkO 1 :: tkD u.d :: r else tkD u.d :: r
def itT:List It->Ts
 | []=>[]
 | x :: l=>tkO x.op :: unT x.u (itT l)
def Ok (l:List It):Prop:=∀ x ∈ l,x.op<=2/\x.u.d<=9
theorem dg10 {d:Nat} (h:d<=9):d=0\/d=1\/d=2\/d=3\/d=4\/d=5\/d=6\/d=7\/d=8\/d=9:=by omega
theorem z27 {d:Nat} (h:d<=9) {r:Bs} (hr:r=[]\/∃ l,r=32 :: l):lxE (dgC d :: r)=(tkD d :: (lxE r).1,(lxE r).2):=by
 rcases hr with rfl|⟨l,rfl⟩ <;> rcases dg10 h with rfl|rfl|rfl|rfl|rfl|rfl|rfl|rfl|rfl|rfl <;> exact zfw rfl rfl rfl
theorem z7m {d:Nat} (h:d<=9) (r:Bs):lxE (45 :: dgC d :: r)=(tkO 1 :: (lxE (dgC d :: r)).1,(lxE (dgC d :: r)).2):=by
 rcases dg10 h with rfl|rfl|rfl|rfl|rfl|rfl|rfl|rfl|rfl|rfl <;> exact zfw rfl rfl (by cases r <;> rfl)
theorem lx_op {n:Nat} (h:n<=2) (r:Bs):lxE (opC n :: 32 :: r)=(tkO n :: (lxE r).1,(lxE r).2):=by
 rw [<-znz r]
 rcases (show n=0\/n=1\/n=2 by omega) with rfl|rfl|rfl <;> exact zfw rfl rfl (by cases r <;> rfl)
theorem z7j {u:Un} (h:u.d<=9) {r:Bs} (hr:r=[]\/∃ l,r=32 :: l):lxE (unB u++r)=(unT u (lxE r).1,(lxE r).2):=by
 obtain ⟨b,d⟩:=u
 cases b with
 | false =>
  show lxE (dgC d :: r)=_;rw [z27 h hr];rfl
 | true =>
  show lxE (45 :: dgC d :: r)=_;rw [z7m h,z27 h hr];rfl
theorem ztw (l:List It):itB l=[]\/∃ r,itB l=32 :: r:=by
 cases l with
 | nil=>exact .inl rfl
 | cons x l=>exact .inr ⟨_,rfl⟩
theorem z7n:∀ {l:List It},Ok l->lxE (itB l)=(itT l,none)
 | [],_=>by kernel_rfl
 | x :: l,h=>by
  have h0:=h x (List.mem_cons_self ..);show lxE (32 :: opC x.op :: 32 :: (unB x.u++itB l))=_;rw [znz,lx_op h0.1,z7j h0.2 (ztw l),z7n fun y hy=>h y (List.mem_cons_of_mem _ hy)]
  rfl
theorem z7k {u:Un} {l:List It} (hu:u.d<=9) (h:Ok l):lxE (unB u++itB l)=(unT u (itT l),none):=by
 rw [z7j hu (ztw l),z7n h]
inductive AT where
 | num (n:Nat)
 | neg (a:AT)
 | bin (op:Nat) (a b:AT)
def AT.pt:AT->PT
 | .num n=>.mk 5 [] (n:Nat) 0 []
 | .neg a=>ndO 12 1 [a.pt]
 | .bin o a b=>ndO 13 ((6 + o:Nat):Nat) [a.pt,b.pt]
def AT.val:AT->Int
 | .num n=>n
 | .neg a=>-a.val
 | .bin o a b=>match o with
  | 0=>a.val + b.val
  | 1=>a.val - b.val
  | _=>a.val * b.val
def unA (u:Un):AT:=if u.neg then .neg (.num u.d) else .num u.d
def zg9:AT->List It->AT × List It
 | p,[]=>(p,[])
 | p,x :: l=>if x.op=2 then zg9 (.bin 2 p (unA x.u)) l else (p,x :: l)
theorem zo4:∀ (l:List It) (p:AT),(zg9 p l).2.length<=l.length
 | [],p=>nR _
 | x :: l,p=>by
  rw [zg9]
  split
  ·have:=zo4 l (.bin 2 p (unA x.u))
   rw [lLC];omega
  ·exact nR _
def zzu:Nat->AT->List It->AT
 | 0,acc,_=>acc
 | _ + 1,acc,[]=>acc
 | n + 1,acc,x :: l=>zzu n (.bin x.op acc (zg9 (unA x.u) l).1) (zg9 (unA x.u) l).2
def goP:Int × Int->List It->Int × Int
 | s,[]=>s
 | (t,p),x :: l=>goP (match x.op with
  | 0=>(t + p,(unA x.u).val)
  | 1=>(t + p,-(unA x.u).val)
  | _=>(t,p * (unA x.u).val)) l
theorem ztx (t s:Int):∀ (l:List It) (p:AT),Ok l->goP (t,s * p.val) l=goP (t,s * (zg9 p l).1.val) (zg9 p l).2
 | [],p,_=>rfl
 | x :: l,p,h=>by
  have hx:=(h x (List.mem_cons_self ..)).1;have hl:Ok l:=fun y hy=>h y (List.mem_cons_of_mem _ hy)
  rw [zg9]
  split
  ·rename_i e
   have:=ztx t s l (.bin 2 p (unA x.u)) hl
   rw [<-this,goP,e];show goP (t,s * p.val * (unA x.u).val) l=goP (t,s * (p.val * (unA x.u).val)) l;rw [Int.mul_assoc]
  ·rfl
theorem zh3:∀ (l:List It) (p:AT) {x:It} {r:List It},(zg9 p l).2=x :: r->x.op ≠ 2
 | [],p,x,r,h=>by cases h
 | y :: l,p,x,r,h=>by
  rw [zg9] at h
  split at h
  ·exact zh3 l _ h
  ·cases h;assumption
theorem zk3:∀ (l:List It) (p:AT),Ok l->Ok (zg9 p l).2
 | [],p,h=>h
 | y :: l,p,h=>by
  rw [zg9]
  split
  ·exact zk3 l _ fun z hz=>h z (List.mem_cons_of_mem _ hz)
  ·exact h
theorem zwr:∀ (n:Nat) (l:List It) (acc:AT) (t p:Int),l.length < n->Ok l->(∀ x r,l=x :: r->x.op ≠ 2)->acc.val=t + p->(zzu n acc l).val=(goP (t,p) l).1 + (goP (t,p) l).2
 | 0,_,_,_,_,h,_,_,_=>by omega
 | n + 1,[],acc,t,p,_,_,_,h=>h
 | n + 1,x :: l,acc,t,p,hl,ho,hh,hv=>by
  have hx:=(ho x (List.mem_cons_self ..)).1;have h2:=hh x l rfl;have hol:Ok l:=fun y hy=>ho y (List.mem_cons_of_mem _ hy)
  have hle:=zo4 l (unA x.u);rw [lLC] at hl;rw [zzu]
  rcases (show x.op=0\/x.op=1 by omega) with e|e
  ·have h1:goP (t,p) (x :: l)=goP (t + p,1 * (unA x.u).val) l:=by rw [goP,e,Int.one_mul];rfl
   rw [h1,ztx]
   ·refine zwr n _ _ _ _ (by omega) (zk3 l _ hol) (fun y r he=>zh3 l _ he) ?_
    rw [e];show acc.val + (zg9 (unA x.u) l).1.val=_;rw [hv,Int.one_mul]
   ·exact hol
  ·have h1:goP (t,p) (x :: l)=goP (t + p,(-1) * (unA x.u).val) l:=by rw [goP,e,Int.neg_mul,Int.one_mul];rfl
   rw [h1,ztx]
   ·refine zwr n _ _ _ _ (by omega) (zk3 l _ hol) (fun y r he=>zh3 l _ he) ?_
    rw [e];show acc.val - (zg9 (unA x.u) l).1.val=_;rw [hv,Int.neg_mul,Int.one_mul];omega
   ·exact hol
theorem zx6 {l:List It} (h:Ok l):Stq (itT l):=by
 cases l with
 | nil=>exact zfk.toStq
 | cons x l =>
  have hx:=(h x (List.mem_cons_self ..)).1;obtain ⟨o,u⟩:=x
  rcases (show o=0\/o=1\/o=2 by simp only at hx;omega) with rfl|rfl|rfl <;> exact ⟨rfl,rfl,rfl,.inr rfl⟩
theorem z5m {d:Nat} (h:d<=9):zj2 [dgC d]=d:=by rcases dg10 h with rfl|rfl|rfl|rfl|rfl|rfl|rfl|rfl|rfl|rfl <;> rfl
theorem z2y {c:Cx} {d:Nat} (h:d<=9) {r:Ts} (hs:Stq r):Mk (.unary c (tkD d :: r)) (.nd (AT.num d).pt) r:=by
 have h1:Mk (.prim c (tkD d :: r)) (.nd (.mk 5 [] (zj2 [dgC d]:Nat) 0 [])) r:=z23 (l:=tkD d :: r) rfl;rw [z5m h] at h1;exact zeb h1 (z5c (show (3:Int) ≠ 2 by decide) (show (3:Int) ≠ 5 by decide)) rfl hs
theorem z6i {c:Cx} {u:Un} (h:u.d<=9) {r:Ts} (hs:Stq r):Mk (.unary c (unT u r)) (.nd (unA u).pt) r:=by
 obtain ⟨b,d⟩:=u
 cases b with
 | false=>exact z2y h hs
 | true =>
  have ih:=z2y (c:=c) h hs;show Mk (.unary c (tkO 1 :: tkD d :: r)) _ _;unfold Mk at ih ⊢;rw [zac];show (ndR (ev (.unary c (tkD d :: r))) fun n l1=>if zbz [45] 1 5=5/\n.kind ≠ 18/\n.kind ≠ 19 then zdh else okR (Rv.nd (ndO 12 (zbz [45] 1 5) [n])) l1)=_
  rw [ih];rfl
theorem z65 {c:Cx} (l:Ts):ev (.opnd 6 c l)=ev (.unary c l):=by rw [zac];rfl
theorem z3f {c:Cx}:∀ (l:List It) (p:AT),Ok l->Mk (.opndL 5 p.pt c (itT l)) (.nd (zg9 p l).1.pt) (itT (zg9 p l).2)
 | [],p,_=>zll 5 zfk.toStp
 | ⟨o,u⟩ :: l,p,h=>by
  have hx:=h _ (List.mem_cons_self ..);have hl:Ok l:=fun y hy=>h y (List.mem_cons_of_mem _ hy)
  simp only at hx;have ih:=z3f (c:=c) l (.bin 2 p (unA u)) hl;have hu:=z6i (c:=c) hx.2 (zx6 hl);unfold Mk at ih hu ⊢;rw [zg9]
  rcases (show o=0\/o=1\/o=2 by omega) with rfl|rfl|rfl
  ·rw [zac];rfl
  ·rw [zac];rfl
  ·rw [zac,if_pos rfl,<- ih];show (ndR (ev (.opnd 6 c (unT u (itT l)))) fun m l1=>ev (.opndL 5 (ndO 13 8 [p.pt,m]) c l1))=_
   rw [z65,hu];rfl
theorem z66 {c:Cx} {u:Un} {l:List It} (hu:u.d<=9) (h:Ok l):Mk (.opnd 5 c (unT u (itT l))) (.nd (zg9 (unA u) l).1.pt) (itT (zg9 (unA u) l).2):=by
 have h1:=z6i (c:=c) hu (zx6 h);have h2:=z3f (c:=c) l (unA u) h;unfold Mk at h1 h2 ⊢;rw [zac,<- h2];show (ndR (ev (.opnd 6 c (unT u (itT l)))) fun n l1=>ev (.opndL 5 n c l1))=_
 rw [z65,h1];rfl
theorem z2f {c:Cx}:∀ (n:Nat) (l:List It) (acc:AT),l.length < n->Ok l->(∀ x r,l=x :: r->x.op ≠ 2)->Mk (.opndL 4 acc.pt c (itT l)) (.nd (zzu n acc l).pt) []
 | 0,_,_,h,_,_=>by omega
 | n + 1,[],acc,_,_,_=>zll 4 zfk.toStp
 | n + 1,⟨o,u⟩ :: l,acc,hl,ho,hh=>by
  have hx:=ho _ (List.mem_cons_self ..);have h2:=hh _ l rfl;have hol:Ok l:=fun y hy=>ho y (List.mem_cons_of_mem _ hy)
  have hle:=zo4 l (unA u);simp only at hx h2;rw [lLC] at hl;have h5:=z66 (c:=c) hx.2 hol;have ih:=fun b=>z2f (c:=c) n (zg9 (unA u) l).2 b (by omega) (zk3 l _ hol) (fun y r he=>zh3 l _ he)
  unfold Mk at ih h5 ⊢;rw [zzu,<- ih]
  rcases (show o=0\/o=1 by omega) with rfl|rfl
  ·rw [zac];show (ndR (ev (.opnd 5 c (unT u (itT l)))) fun m l1=>ev (.opndL 4 (ndO 13 6 [acc.pt,m]) c l1))=_
   rw [h5];rfl
  ·rw [zac];show (ndR (ev (.opnd 5 c (unT u (itT l)))) fun m l1=>ev (.opndL 4 (ndO 13 7 [acc.pt,m]) c l1))=_
   rw [h5];rfl
def zn8 (u:Un) (l:List It):AT:=zzu ((zg9 (unA u) l).2.length + 1) (zg9 (unA u) l).1 (zg9 (unA u) l).2
theorem zok {c:Cx} {l:Ts} {n:PT} {k:Nat} (hk:k < 6) (h:Mk (.opnd (k + 1) c l) (.nd n) []):Mk (.opnd k c l) (.nd n) []:=by
 have h2:=zll (n:=n) (c:=c) k zfk.toStp;unfold Mk at h h2 ⊢;rw [zac];show zev ev k c l=_;unfold zev;rw [if_neg (by omega),h]
 exact h2
theorem z3r (u:Un) (r:Ts):∃ t l,unT u r=t :: l/\(t=tkO 1\/t=tkD u.d):=by
 unfold unT
 split
 ·exact ⟨_,_,rfl,.inl rfl⟩
 ·exact ⟨_,_,rfl,.inr rfl⟩
theorem zya {t:Tk} {d:Nat} (h:t=tkO 1\/t=tkD d) {l:Ts} {s:Bs} (hs:s ≠ [45]):isT (t :: l) 0 s=false:=by
 rcases h with rfl|rfl
 ·unfold isT;rw [dF (show ¬ tx (tkO 1 :: l) 0=s from fun e=>hs e.symm),Bool.false_and]
 ·exact z5c (show (3:Int) ≠ 2 by decide) (show (3:Int) ≠ 5 by decide)
theorem z14 {c:Cx} {u:Un} {l:List It} (hu:u.d<=9) (h:Ok l):Mk (.assign c (unT u (itT l))) (.nd (zn8 u l).pt) []:=by
 have h5:=z66 (c:=c) hu h;have hs:=z2f (c:=c) _ (zg9 (unA u) l).2 (zg9 (unA u) l).1 (nLS _) (zk3 l _ h) (fun y r he=>zh3 l _ he)
 have h4:Mk (.opnd 4 c (unT u (itT l))) (.nd (zn8 u l).pt) []:=by
  unfold Mk at h5 hs ⊢;rw [zac];show (ndR (ev (.opnd 5 c (unT u (itT l)))) fun n l1=>ev (.opndL 4 n c l1))=_
  rw [h5];exact hs
 have h0:=zok (by decide) (zok (by decide) (zok (by decide) (zok (by decide) h4)))
 obtain ⟨t,r,e,ht⟩:=z3r u (itT l);rw [e] at h0 ⊢;refine zqg (zrz h0 rfl) ?_ (zya ht (by decide)) (.inl (by decide))
 rw [zk7 (zya ht (by decide)),if_neg (show ¬ kd (t :: r) 0=1 from (by rcases ht with rfl|rfl <;> exact oT rfl:¬ t.k=1)),zya ht (by decide)]
 rfl
def AT.dp:AT->Nat
 | .num _=>1
 | .neg a=>a.dp + 1
 | .bin _ a b=>max a.dp b.dp + 1
theorem zt0:∀ a:AT,zek a.pt=a.dp
 | .num _=>rfl
 | .neg a=>by rw [AT.pt,ndO,zek,zfi,zfi,zt0 a,AT.dp];omega
 | .bin _ a b=>by rw [AT.pt,ndO,zek,zfi,zfi,zfi,zt0 a,zt0 b,AT.dp];omega
theorem z5l (u:Un):(unA u).dp<=2:=by
 unfold unA
 split <;> simp [AT.dp]
theorem zyr:∀ (l:List It) (p:AT),(zg9 p l).1.dp + (zg9 p l).2.length<=max p.dp 2 + l.length
 | [],p=>by rw [zg9];simp only [List.length_nil];omega
 | x :: l,p=>by
  have h:=z5l x.u;rw [zg9,lLC]
  split
  ·have:=zyr l (.bin 2 p (unA x.u))
   rw [AT.dp] at this;omega
  ·simp only [lLC];omega
theorem z2g:∀ (n:Nat) (l:List It) (acc:AT),l.length < n->(zzu n acc l).dp<=max acc.dp 2 + l.length
 | 0,_,_,h=>by omega
 | n + 1,[],acc,_=>by rw [zzu];omega
 | n + 1,x :: l,acc,h=>by
  have h1:=zyr l (unA x.u);have h2:=z5l x.u;have h3:=zo4 l (unA x.u);rw [lLC] at h ⊢;rw [zzu]
  have:=z2g n (zg9 (unA x.u) l).2 (.bin x.op acc (zg9 (unA x.u) l).1) (by omega)
  rw [AT.dp] at this;omega
theorem z3v (u:Un) (l:List It):(zn8 u l).dp<=4 + 2 * l.length:=by
 have h1:=z2g ((zg9 (unA u) l).2.length + 1) (zg9 (unA u) l).2 (zg9 (unA u) l).1 (nLS _);have h2:=zyr l (unA u);have h3:=z5l u;unfold zn8;omega
theorem zz6 {u:Un} {l:List It} (h:Ok l):(zn8 u l).val=(goP (0,(unA u).val) l).1 + (goP (0,(unA u).val) l).2:=by
 have h1:=ztx 0 1 l (unA u) h;rw [Int.one_mul,Int.one_mul] at h1;rw [h1];exact zwr _ _ _ _ _ (nLS _) (zk3 l _ h) (fun y r he=>zh3 l _ he) (by rw [Int.zero_add])
theorem zt9:∀ {n:Nat},tkB (tkO n)=0
 | 0=>rfl
 | 1=>rfl
 | _ + 2=>rfl
theorem ztv:∀ (l:List It) (t:Tk),t ∈ itT l->tkB t ≠ 1
 | [],t,h=>by cases h
 | x :: l,t,h=>by
  rw [itT] at h;unfold unT at h
  split at h
  ·simp only [List.mem_cons] at h
   rcases h with rfl|rfl|rfl|h
   ·rw [zt9];decide
   ·rw [zt9];decide
   ·exact fun e=>by cases e
   ·exact ztv l t h
  ·simp only [List.mem_cons] at h
   rcases h with rfl|rfl|h
   ·rw [zt9];decide
   ·exact fun e=>by cases e
   ·exact ztv l t h
theorem zzf {s:ByteArray} {u:Un} {l:List It} (hs:s.data.toList=unB u++itB l) (hu:u.d<=9) (h:Ok l) (hl:l.length<=5):zcj exP s=zg6 (zn8 u l).pt 0 0:=by
 have hx:=z7k hu h;rw [<-hs] at hx;have hc:za3 0 (unT u (itT l))=false:=zqs _ _ fun t ht=>by
  unfold unT at ht
  split at ht
  ·simp only [List.mem_cons] at ht
   rcases ht with rfl|rfl|ht
   ·rw [zt9];decide
   ·exact fun e=>by cases e
   ·exact ztv l t ht
  ·simp only [List.mem_cons] at ht
   rcases ht with rfl|ht
   ·exact fun e=>by cases e
   ·exact ztv l t ht
 have hd:=z3v u l;rw [<-zt0] at hd;exact (z8i hx hc (z14 hu h) (by omega)).out
end Go.Proofs.YtcfecmeocimclaaGreatDoor
