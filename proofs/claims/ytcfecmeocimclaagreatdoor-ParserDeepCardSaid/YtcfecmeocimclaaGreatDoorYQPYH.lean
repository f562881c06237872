/- Own work: deep nesting,plain. -/
import Derived.Test.YtcfecmeocimclaaGreatDoorYQA0
import Derived.Test.YtcfecmeocimclaaGreatDoorYQPYA
namespace Go.Proofs.YtcfecmeocimclaaGreatDoor
set_option maxRecDepth 100000
def zc0 {α:Type}:Nat->List α->List α
 | 0,_=>[]
 | n + 1,l=>l++zc0 n l
theorem zo6 {α:Type} (l:List α):∀ n,zc0 (n + 1) l=zc0 n l++l
 | 0=>by simp [zc0]
 | n + 1=>by
  show l++zc0 (n + 1) l=(l++zc0 n l)++l;rw [zo6 l n,List.append_assoc]
def zlg:Nat->ByteArray->ByteArray
 | 0,_=>⟨#[]⟩
 | n + 1,b=>zlg n b++b
theorem zhp (b:ByteArray):∀ n,(zlg n b).data.toList=zc0 n b.data.toList
 | 0=>rfl
 | n + 1=>by rw [zlg,zo6,ByteArray.data_append,Array.toList_append,zhp b n]
theorem zff (b:ByteArray):∀ n,(zlg n b).size=n * b.size
 | 0=>by rw [Nat.zero_mul];rfl
 | n + 1=>by rw [zlg,ByteArray.size_append,zff b n,Nat.succ_mul]
theorem zop {l:Bs} {tl:Ts} (P:Bs->Prop) (hP:∀ r,P r->P (l++r)) (hl:∀ r,P r->lxE (l++r)=(tl++(lxE r).1,(lxE r).2)) {r:Bs} (hr:P r):∀ n,P (zc0 n l++r)/\lxE (zc0 n l++r)=(zc0 n tl++(lxE r).1,(lxE r).2)
 | 0=>⟨hr,rfl⟩
 | n + 1=>by
  obtain ⟨h1,h2⟩:=zop P hP hl hr n;rw [zc0,List.append_assoc];refine ⟨hP _ h1,?_⟩;rw [hl _ h1,h2,zc0,List.append_assoc]
def tkL:Tk:=⟨5,[40],0⟩
def tkR:Tk:=⟨5,[41],0⟩
def tkS:Tk:=⟨5,[59],0⟩
def tkN:Tk:=⟨3,[49],0⟩
def tkX:Tk:=⟨5,[33],0⟩
def tkA:Tk:=⟨1,[97],0⟩
def tkE:Tk:=⟨5,[61],0⟩
def tkW:Tk:=⟨2,zn3,0⟩
theorem zuj (r:Bs):lxE (41 :: r)=(tkR :: (lxE r).1,(lxE r).2):=zix rfl (by cases r <;> rfl) (by rcases r with _|⟨a,_|⟨b,r⟩⟩ <;> rfl)
theorem z24 {c:UInt8} (hc:c=41\/c=59) (r:Bs):lxE (49 :: c :: r)=(tkN :: (lxE (c :: r)).1,(lxE (c :: r)).2):=by rcases hc with rfl|rfl <;> exact zix rfl rfl rfl
theorem z62 {r:Bs} (h:r.head? ≠ some 61):lxE (33 :: r)=(tkX :: (lxE r).1,(lxE r).2):=by
 refine zix rfl (by cases r <;> rfl) ?_
 rcases r with _|⟨a,r⟩
 ·rfl
 ·have ha:a ≠ 61:=fun e=>h (by rw [e];rfl)
  have:opL (33 :: a :: r)=some [33]:=by
   unfold opL zq7 zss;rw [if_neg (by simp [List.take_succ_cons];exact fun e=>absurd e.symm ha),if_neg (by simp [List.take_succ_cons];exact fun e=>absurd e.symm ha)]
   rfl
  rw [zey,if_neg (by decide),if_neg (by decide),if_neg (by decide),this]
  rfl
theorem z03 (r:Bs):lxE ([119,104,105,108,101,32,40,49,41,32]++r)=([tkW,tkL,tkN,tkR]++(lxE r).1,(lxE r).2):=by
 show lxE (119 :: 104 :: 105 :: 108 :: 101 :: 32 :: 40 :: 49 :: 41 :: 32 :: r)=_;rw [zix (c:=119) (k:=2) (t:=zn3) (r2:=32 :: 40 :: 49 :: 41 :: 32 :: r) rfl rfl rfl,zuk,zul,z24 (.inl rfl),zuj,zuk];rfl
theorem z63 (r:Bs):lxE ([97,32,61,32]++r)=([tkA,tkE]++(lxE r).1,(lxE r).2):=by
 show lxE (97 :: 32 :: 61 :: 32 :: r)=_;rw [zix (c:=97) (k:=1) (t:=[97]) (r2:=32 :: 61 :: 32 :: r) rfl rfl rfl,zuk,zix (c:=61) (k:=5) (t:=[61]) (r2:=32 :: r) rfl rfl (by cases r <;> rfl),zuk]
 rfl
theorem zsu:lxE [49,59]=([tkN,tkS],none):=by kernel_rfl
theorem zx4:lxE [59]=([tkS],none):=by kernel_rfl
theorem lx_d0 (k:Nat):lxE (zc0 k [40]++49 :: (zc0 k [41]++[59]))=(zc0 k [tkL]++tkN :: (zc0 k [tkR]++[tkS]),none):=by
 have h1:=(zop (l:=[41]) (tl:=[tkR]) (fun _=>True) (fun _ _=>trivial) (fun r _=>zuj r) (r:=[59]) trivial k).2
 rw [zx4] at h1;have h2:lxE (49 :: (zc0 k [41]++[59]))=(tkN :: (zc0 k [tkR]++[tkS]),none):=by
  cases k with
  | zero=>exact zsu
  | succ k =>
   show lxE (49 :: 41 :: (zc0 k [41]++[59]))=_;rw [z24 (.inl rfl)];show (tkN :: (lxE (zc0 (k + 1) [41]++[59])).1,(lxE (zc0 (k + 1) [41]++[59])).2)=_;rw [h1]
 have h3:=(zop (l:=[40]) (tl:=[tkL]) (fun _=>True) (fun _ _=>trivial) (fun r _=>zul r) (r:=49 :: (zc0 k [41]++[59])) trivial k).2
 rw [h3,h2]
theorem lx_d1 (k:Nat):lxE (zc0 k [33]++[49,59])=(zc0 k [tkX]++[tkN,tkS],none):=by
 have h:=(zop (l:=[33]) (tl:=[tkX]) (fun r=>r.head? ≠ some 61) (fun r _=>by simp) (fun r h=>z62 h) (r:=[49,59]) (by simp) k).2
 rw [h,zsu]
theorem lx_d2 (k:Nat):lxE (zc0 k [119,104,105,108,101,32,40,49,41,32]++[59])=(zc0 k [tkW,tkL,tkN,tkR]++[tkS],none):=by
 have h:=(zop (tl:=[tkW,tkL,tkN,tkR]) (fun _=>True) (fun _ _=>trivial) (fun r _=>z03 r) (r:=[59]) trivial k).2
 rw [h,zx4]
theorem lx_d3 (k:Nat):lxE (zc0 k [97,32,61,32]++[49,59])=(zc0 k [tkA,tkE]++[tkN,tkS],none):=by
 have h:=(zop (tl:=[tkA,tkE]) (fun _=>True) (fun _ _=>trivial) (fun r _=>z63 r) (r:=[49,59]) trivial k).2
 rw [h,zsu]
def zxx:PT:=.mk 5 [] 1 0 []
theorem z2x {c:Cx} (l:Ts):Mk (.prim c (tkN :: l)) (.nd zxx) l:=z60 (l:=tkN :: l) rfl
theorem z3j {t:Tk} {l:Ts} (hA:isT (t :: l) 0 zas=false) (h1:t.k ≠ 1) (h:isT (t :: l) 0 zbo=false):zbi (t :: l)=0:=by
 rw [zni hA,if_neg (show ¬ kd (t :: l) 0=1 from h1),h];rfl
theorem z1y {c:Cx}:∀ (k:Nat) (r:Ts),Stop r->Mk (.assign c (zc0 k [tkL]++tkN :: (zc0 k [tkR]++r))) (.nd zxx) r
 | 0,r,hs=>zmr (ze8 (z2x r) rfl rfl hs.toStp) hs (z3j rfl (oT rfl) rfl) rfl
 | k + 1,r,hs=>by
  have ih:=z1y (c:=c) k (tkR :: r) (zir (s:=zan) rfl rfl);have e:zc0 (k + 1) [tkR]++r=zc0 k [tkR]++tkR :: r:=by rw [zo6,List.append_assoc];rfl
  rw [e];obtain ⟨t,l,hl,ht⟩:∃ t l,zc0 k [tkL]++tkN :: (zc0 k [tkR]++tkR :: r)=t :: l/\(t=tkL\/t=tkN):=by
   cases k with
   | zero=>exact ⟨_,_,rfl,.inr rfl⟩
   | succ k=>exact ⟨_,_,rfl,.inl rfl⟩
  show Mk (.assign c (tkL :: (zc0 k [tkL]++tkN :: (zc0 k [tkR]++tkR :: r)))) _ _;rw [hl] at ih ⊢;have hp:Mk (.prim c (tkL :: t :: l)) (.nd zxx) r:=zui (l:=tkL :: t :: l) rfl ih rfl;refine zmr (ze8 hp rfl rfl hs.toStp) hs ?_ rfl;rw [zni rfl,if_neg (oT rfl),if_pos (show isT (tkL :: t :: l) 0 zbo=true from rfl),zej,if_neg (show ¬ kd (tkL :: t :: l) 1=1 from (by rcases ht with rfl|rfl <;> decide:¬ t.k=1))]
  show (if (isT (t :: l) 0 zan && _)=true then 1 + 1 else 0)=0
  rw [show isT (t :: l) 0 zan=false by rcases ht with rfl|rfl <;> rfl,Bool.false_and,if_neg Bool.false_ne_true]
def zzi:Nat->PT
 | 0=>zxx
 | k + 1=>ndO 12 2 [zzi k]
theorem z78 {c:Cx} {r:Ts} (hs:Stop r):∀ k:Nat,Mk (.unary c (zc0 k [tkX]++tkN :: r)) (.nd (zzi k)) r
 | 0=>ze8 (z2x r) rfl rfl hs.toStp
 | k + 1=>by
  have ih:=z78 (c:=c) hs k;unfold Mk at ih ⊢;rw [zad];show (ndR (ev (.unary c (zc0 k [tkX]++tkN :: r))) fun n l1=>if zb1 [33] 1 5=5/\n.kind ≠ 18/\n.kind ≠ 19 then zdv else okR (Rv.nd (ndO 12 (zb1 [33] 1 5) [n])) l1)=_
  rw [ih];rfl
def zn1:Nat->PT
 | 0=>nd 37 []
 | k + 1=>nd 29 [zxx,zn1 k]
theorem z77:∀ (k:Nat) (c:Cx),Mk (.stmt c (zc0 k [tkW,tkL,tkN,tkR]++[tkS])) (.nd (zn1 k)) []
 | 0,c=>by unfold Mk;rw [zad];rfl
 | k + 1,c=>by
  have ih:=z77 k { c with lp:=true }
  obtain ⟨l,hl⟩:∃ l,zc0 k [tkW,tkL,tkN,tkR]++[tkS]=l:=⟨_,rfl⟩
  have hd:zbk l=false:=by
   rw [<-hl]
   cases k <;> rfl
  show Mk (.stmt c (tkW :: tkL :: tkN :: tkR :: (zc0 k [tkW,tkL,tkN,tkR]++[tkS]))) _ _;rw [hl] at ih ⊢;unfold Mk at ih ⊢;have h1:ev (.condn c (tkL :: tkN :: tkR :: l))=some (some (.nd zxx,l)):=by
   rw [zad];show (ndR (ev (.assign c (tkN :: tkR :: l))) fun n l2=>zaq zan l2 fun l3=>okR (Rv.nd n) l3)=_
   rw [show ev (.assign c (tkN :: tkR :: l))=some (some (.nd zxx,tkR :: l)) from z1y (c:=c) 0 (tkR :: l) (zir (s:=zan) rfl rfl)];rfl
  have h2:ev (.body c l)=some (some (.nd (zn1 k),[])):=by
   rw [zad];show ev (.inner { c with lp:=true } l)=_
   rw [zad];show (if zbk l=true then zdv else ev (.stmt { c with lp:=true } l))=_
   rw [hd,if_neg Bool.false_ne_true,ih]
  have h3:ev (.keyw c (tkW :: tkL :: tkN :: tkR :: l))=some (some (.nb (nd 29 [zxx,zn1 k]) true,[])):=by
   rw [zad];show (ndR (ev (.condn c (tkL :: tkN :: tkR :: l))) fun e l1=>ndR (ev (.body c l1)) fun a l2=>okR (Rv.nb (nd 29 [e,a]) true) l2)=_
   rw [h1];show (ndR (ev (.body c l)) fun a l2=>okR (Rv.nb (nd 29 [zxx,a]) true) l2)=_
   rw [h2];rfl
  rw [zad];show (nbR (ev (.keyw c (tkW :: tkL :: tkN :: tkR :: l))) fun n b l1=>if b=true then okR (Rv.nd n) l1 else zgu ev c l1)=_
  rw [h3];rfl
def asgs:Nat->PT
 | 0=>zxx
 | k + 1=>ndO 16 24 [ndN 7 [97] [],asgs k]
theorem z76 {c:Cx} {r:Ts} (hs:Stop r):∀ k:Nat,Mk (.assign c (zc0 k [tkA,tkE]++tkN :: r)) (.nd (asgs k)) r
 | 0=>z1y (c:=c) 0 r hs
 | k + 1=>by
  have ih:=z76 (c:=c) hs k;show Mk (.assign c (tkA :: tkE :: (zc0 k [tkA,tkE]++tkN :: r))) _ _;obtain ⟨l,hl⟩:∃ l,zc0 k [tkA,tkE]++tkN :: r=l:=⟨_,rfl⟩
  rw [hl] at ih ⊢;have hp:Stp (tkE :: l):=⟨rfl,rfl,rfl,rfl,rfl,.inr fun fr cnt hm=>by
   simp only [List.mem_cons,List.not_mem_nil,or_false,Prod.mk.injEq] at hm
   rcases hm with ⟨rfl,rfl⟩|⟨rfl,rfl⟩|⟨rfl,rfl⟩|⟨rfl,rfl⟩|⟨rfl,rfl⟩|⟨rfl,rfl⟩|⟨rfl,rfl⟩ <;> rfl⟩
  have h1:Mk (.cond c (tkA :: tkE :: l)) (.nd (ndN 7 [97] [])) (tkE :: l):=zxz (zst (ze8 (zxy (l:=tkA :: tkE :: l) rfl) rfl rfl hp) hp 6 0 rfl) rfl;have ha:zbi (tkA :: tkE :: l)=0:=by rw [zni rfl];rfl
  unfold Mk at ih h1 ⊢;rw [zad];show zb8 ev c (tkA :: tkE :: l)=_;unfold zb8;rw [if_neg (by omega),show isT (tkA :: tkE :: l) 0 zn2=false from rfl,if_neg Bool.false_ne_true,h1]
  show (ndR (ev (.assign c l)) fun m l2=>okR (Rv.nd (ndO 16 (zb1 [61] 24 4) [ndN 7 [97] [],m])) l2)=_
  rw [ih];rfl
theorem z3w {T:Ts} {x:PT} (hT:T ≠ []) (h:ev (.stmt cx0 T)=some (some (.nd x,[]))):zqb T=some [x]:=by
 cases T with
 | nil=>exact absurd rfl hT
 | cons t T =>
  unfold zqb;rw [show (t :: T).length + 1=(T.length + 1) + 1 from rfl,zij,if_neg hT,h];simp only;rw [zij,if_pos rfl];rfl
theorem zsd {t:Tk} {T:Ts} {x:PT} (h0:(isT (t :: T) 0 zfl || isT (t :: T) 0 zax)=false) (h1:zbk (t :: T)=false) (h2:isT (t :: T) 0 zg9=false) (h3:isT (t :: T) 0 zbp=false) (h4:t.k ≠ 2) (h:Mk (.assign cx0 (t :: T)) (.nd x) [tkS]):ev (.stmt cx0 (t :: T))=some (some (.nd (nd 26 [x]),[])):=by
 unfold Mk at h;rw [zad];show ze5 ev cx0 (t :: T)=_;unfold ze5 zgu;rw [h0,h1,h2,h3,if_neg (show ¬ kd (t :: T) 0=2 from h4),h];rfl
theorem zuw:∀ (l:Ts) (n:Nat),(∀ t ∈ l,tkB t ≠ 1)->za4 n l=false
 | [],_,_=>rfl
 | t :: l,n,h=>by
  have h1:=h t (List.mem_cons_self ..);have h2:=fun n=>zuw l n fun u hu=>h u (List.mem_cons_of_mem _ hu)
  rw [za4]
  split
  ·exact h2 _
  ·contradiction
  ·exact h2 _
theorem z3d:∀ (k n:Nat) (r:Ts),n<=128->(∀ t ∈ r,tkB t ≠ 1)->za4 n (zc0 k [tkL]++r)=decide (128 < n + k)
 | 0,n,r,h,hr=>by
  show za4 n r=_;rw [zuw r n hr,dF (by omega)]
 | k + 1,n,r,h,hr=>by
  show za4 n (tkL :: (zc0 k [tkL]++r))=_;rw [za4,show tkB tkL=1 from rfl];simp only
  by_cases h1:128 < n + 1
  ·rw [if_pos h1,dT (by omega)]
  ·rw [if_neg h1,z3d k (n + 1) r (by omega) hr]
   exact decide_eq_decide.2 (by omega)
theorem zl2 {α:Type} {l:List α} {x:α}:∀ n,x ∈ zc0 n l->x ∈ l
 | 0,h=>by cases h
 | n + 1,h=>by
  rw [zc0,List.mem_append] at h;exact h.elim id (zl2 n)
theorem z3c {r:Ts}:∀ k,za4 0 (zc0 k [tkW,tkL,tkN,tkR]++r)=za4 0 r
 | 0=>rfl
 | k + 1=>by
  show za4 0 (zc0 k [tkW,tkL,tkN,tkR]++r)=_;exact z3c k
theorem zrl:∀ k,zd5 (zzi k)=k + 1
 | 0=>rfl
 | k + 1=>by
  rw [zzi,ndO,zd5,zgk,zgk,zrl k];omega
theorem zos:∀ k,zd5 (zn1 k)=k + 1
 | 0=>rfl
 | k + 1=>by
  rw [zn1,nd,zd5,zgk,zgk,zgk,zos k,show zd5 zxx=1 from rfl];omega
theorem zut:∀ k,zd5 (asgs k)=k + 1
 | 0=>rfl
 | k + 1=>by
  rw [asgs,ndO,zd5,zgk,zgk,zgk,zut k,show zd5 (ndN 7 [97] [])=1 from rfl];omega
theorem z7y (x:PT):zd5 (nd 42 [x])=zd5 x + 1:=by rw [nd,zd5,zgk,zgk];omega
theorem zjk {s:ByteArray} {T:Ts} {x:PT} (h:lxE s.data.toList=(T,none)) (hc:za4 0 T=false) (hT:T ≠ []) (hx:ev (.stmt cx0 T)=some (some (.nd x,[]))):zb2 scO s=if 512 < zd5 x + 1 then zgi ptZ 0 5 else zgi (nd 42 [x]) 0 0:=by
 rw [zl0 h,hc,if_neg Bool.false_ne_true];unfold scO;rw [z3w hT hx,<- z7y x];rfl
def zny (s:ByteArray) (b:Bool):Prop:=(b=true/\zb2 scO s=zgi ptZ 0 5)\/(b=false/\∃ x,zb2 scO s=zgi x 0 0)
theorem zl7 {s:ByteArray} {x:PT} {m:Nat} {b:Bool} (h:zb2 scO s=if 512 < zd5 x + 1 then zgi ptZ 0 5 else zgi (nd 42 [x]) 0 0) (hm:zd5 x + 1=m) (hb:decide (512 < m)=b):zny s b:=by
 rw [hm] at h
 by_cases hd:512 < m
 ·rw [dT hd] at hb;rw [if_pos hd] at h;exact .inl ⟨hb.symm,h⟩
 ·rw [dF hd] at hb;rw [if_neg hd] at h;exact .inr ⟨hb.symm,_,h⟩
theorem z74 {s:ByteArray} {k:Nat} (hs:s.data.toList=zc0 k [40]++49 :: (zc0 k [41]++[59])):zny s (decide (128 < k)):=by
 have hl:=lx_d0 k;rw [<-hs] at hl;have hcr:za4 0 (zc0 k [tkL]++tkN :: (zc0 k [tkR]++[tkS]))=decide (128 < k):=by
  rw [z3d k 0 _ (by omega) (fun t ht=>by
   simp only [List.mem_cons,List.mem_append] at ht
   rcases ht with rfl|ht|ht|ht
   ·decide
   ·rw [List.mem_singleton.1 (zl2 k ht)];decide
   ·rw [ht];decide
   ·cases ht),Nat.zero_add]
 by_cases h:128 < k
 ·rw [dT h] at hcr ⊢;exact .inl ⟨rfl,by rw [zl0 hl,hcr,if_pos rfl]⟩
 ·rw [dF h] at hcr ⊢;obtain ⟨t,l,e,ht⟩:∃ t l,zc0 k [tkL]++tkN :: (zc0 k [tkR]++[tkS])=t :: l/\(t=tkL\/t=tkN):=by
   cases k with
   | zero=>exact ⟨_,_,rfl,.inr rfl⟩
   | succ k=>exact ⟨_,_,rfl,.inl rfl⟩
  have hd:=z1y (c:=cx0) k [tkS] (zir (s:=zbp) rfl rfl);rw [e] at hl hcr hd;have hx:=zsd (t:=t) (T:=l) (by rcases ht with rfl|rfl <;> rfl) (by rcases ht with rfl|rfl <;> rfl) (by rcases ht with rfl|rfl <;> rfl) (by rcases ht with rfl|rfl <;> rfl) (by rcases ht with rfl|rfl <;> decide) hd
  exact zl7 (zjk hl hcr (List.cons_ne_nil _ _) hx) (show _=3 from rfl) rfl
theorem z73 {s:ByteArray} {k:Nat} (hs:s.data.toList=zc0 k [33]++[49,59]):zny s (decide (512 < k + 3)):=by
 have hl:=lx_d1 k;rw [<-hs] at hl;have hcr:za4 0 (zc0 k [tkX]++[tkN,tkS])=false:=zuw _ _ fun t ht=>by
  rw [List.mem_append] at ht
  rcases ht with ht|ht
  ·rw [List.mem_singleton.1 (zl2 k ht)];decide
  ·simp only [List.mem_cons,List.not_mem_nil,or_false] at ht
   rcases ht with rfl|rfl <;> decide
 have hS:Stop [tkS]:=zir (s:=zbp) rfl rfl;obtain ⟨t,l,e,ht⟩:∃ t l,zc0 k [tkX]++[tkN,tkS]=t :: l/\(t=tkX\/t=tkN):=by
  cases k with
  | zero=>exact ⟨_,_,rfl,.inr rfl⟩
  | succ k=>exact ⟨_,_,rfl,.inl rfl⟩
 have hd:=z78 (c:=cx0) hS k;rw [show zc0 k [tkX]++tkN :: [tkS]=t :: l from e] at hd;rw [e] at hl hcr;have hd':Mk (.assign cx0 (t :: l)) (.nd (zzi k)) [tkS]:=zmr hd hS (z3j (by rcases ht with rfl|rfl <;> rfl) (by rcases ht with rfl|rfl <;> decide) (by rcases ht with rfl|rfl <;> rfl)) (by rcases ht with rfl|rfl <;> rfl)
 have hx:=zsd (by rcases ht with rfl|rfl <;> rfl) (by rcases ht with rfl|rfl <;> rfl) (by rcases ht with rfl|rfl <;> rfl) (by rcases ht with rfl|rfl <;> rfl) (by rcases ht with rfl|rfl <;> decide) hd'
 exact zl7 (zjk hl hcr (List.cons_ne_nil _ _) hx) (by rw [nd,zd5,zgk,zgk,zrl];omega) rfl
theorem z71 {s:ByteArray} {k:Nat} (hs:s.data.toList=zc0 k [119,104,105,108,101,32,40,49,41,32]++[59]):zny s (decide (512 < k + 2)):=by
 have hl:=lx_d2 k;rw [<-hs] at hl;have hcr:za4 0 (zc0 k [tkW,tkL,tkN,tkR]++[tkS])=false:=z3c k;exact zl7 (zjk hl hcr (by simp) (z77 k cx0)) (by rw [zos]) rfl
theorem z7z {s:ByteArray} {k:Nat} (hs:s.data.toList=zc0 k [97,32,61,32]++[49,59]):zny s (decide (512 < k + 3)):=by
 have hl:=lx_d3 k;rw [<-hs] at hl;have hcr:za4 0 (zc0 k [tkA,tkE]++[tkN,tkS])=false:=zuw _ _ fun t ht=>by
  rw [List.mem_append] at ht
  rcases ht with ht|ht
  ·have:=zl2 k ht
   simp only [List.mem_cons,List.not_mem_nil,or_false] at this
   rcases this with rfl|rfl <;> decide
  ·simp only [List.mem_cons,List.not_mem_nil,or_false] at ht
   rcases ht with rfl|rfl <;> decide
 have hS:Stop [tkS]:=zir (s:=zbp) rfl rfl;obtain ⟨t,l,e,ht⟩:∃ t l,zc0 k [tkA,tkE]++[tkN,tkS]=t :: l/\(t=tkA\/t=tkN):=by
  cases k with
  | zero=>exact ⟨_,_,rfl,.inr rfl⟩
  | succ k=>exact ⟨_,_,rfl,.inl rfl⟩
 have hd:=z76 (c:=cx0) hS k;rw [show zc0 k [tkA,tkE]++tkN :: [tkS]=t :: l from e] at hd;rw [e] at hl hcr;have hx:=zsd (by rcases ht with rfl|rfl <;> rfl) (by rcases ht with rfl|rfl <;> rfl) (by rcases ht with rfl|rfl <;> rfl) (by rcases ht with rfl|rfl <;> rfl) (by rcases ht with rfl|rfl <;> decide) hd
 exact zl7 (zjk hl hcr (List.cons_ne_nil _ _) hx) (by rw [nd,zd5,zgk,zgk,zut];omega) rfl
end Go.Proofs.YtcfecmeocimclaaGreatDoor
