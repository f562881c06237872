/- Own work: an expression in parentheses is parsed as the expression. -/
import Derived.Test.YtcfecmeocimclaaGreatDoorYPA0
import Derived.Test.YtcfecmeocimclaaGreatDoorYPPYA
import Derived.Test.YtcfecmeocimclaaGreatDoorYPGY
namespace Go.Proofs.YtcfecmeocimclaaGreatDoor
set_option maxRecDepth 100000
def tkL:Tk:=⟨5,[40],0⟩
def tkR:Tk:=⟨5,[41],0⟩
def tkS:Tk:=⟨5,[59],0⟩
theorem kd_s (t:Tk) (l:Ts) (n:Nat):kd (t :: l) (n + 1)=kd l n:=by unfold kd;rw [List.getElem?_cons_succ]
theorem tx_s (t:Tk) (l:Ts) (n:Nat):tx (t :: l) (n + 1)=tx l n:=by unfold tx;rw [List.getElem?_cons_succ]
theorem zui (t:Tk) (l:Ts) (n:Nat) (s:Bs):isT (t :: l) (n + 1) s=isT l n s:=by unfold isT;rw [kd_s,tx_s]
theorem zz4 {l z:Ts} (h:l ≠ []) (s:Bs):isT (l++z) 0 s=isT l 0 s:=za9 (List.length_pos_iff.2 h) s
section
variable {l z:Ts} {n:PT} (he:ev (.assign cx0 l)=some (some (.nd n,[])))
include he
theorem zy8 {t:Tk} {l':Ts} (hl:l=t :: l') (hk:t.k=1) (hn:l' ≠ []):¬ Stop l':=fun hs=>by
 subst hl
 have:=zha (c:=cx0) (l:=t :: l') hk hs
 rw [he] at this
 cases this
 exact hn rfl
theorem zt4 (hz:isT z 0 zam=true) (ha:isT z 1 ze0=false):zbh (tkL :: (l++z))=0:=by
 rw [zqf (show isT (tkL :: (l++z)) 0 zas=false from rfl),if_neg (show kd (tkL :: (l++z)) 0 ≠ 1 from oT rfl),if_pos (show isT (tkL :: (l++z)) 0 zbm=true from rfl)]
 cases hl:l with
 | nil =>
  subst hl;exact absurd he (zb5 (.assign cx0 []) rfl rfl (by intro e;cases e) _)
 | cons t l' =>
  by_cases hk:t.k=1
  ·have hw:∀ w,w=zci\/w=zam->l' ≠ []->isT (l'++z) 0 w=false:=fun w hw hn=>by
    rw [zz4 hn]
    cases hi:isT l' 0 w with
    | false=>rfl
    | true=>exact absurd (znw hi (by rcases hw with rfl|rfl <;> rfl)) (zy8 he hl hk hn)
   have c2:isT (tkL :: (t :: l'++z)) 2 zci=false:=by
    show isT (tkL :: t :: (l'++z)) (1 + 1) zci=false;rw [zui,zui]
    by_cases hn:l'=[]
    ·rw [hn];exact zgf hz (by decide)
    ·exact hw _ (.inl rfl) hn
   rw [zdy,if_pos (show kd (tkL :: (t :: l'++z)) 1=1 from hk),if_neg (by rw [c2];decide)]
   show (if (isT (tkL :: (t :: l'++z)) 2 zam && isT (tkL :: (t :: l'++z)) 3 ze0)=true then 2 + 1 else 0)=0
   have c3:(isT (tkL :: (t :: l'++z)) 2 zam && isT (tkL :: (t :: l'++z)) 3 ze0)=false:=by
    show (isT (tkL :: t :: (l'++z)) (1 + 1) zam && isT (tkL :: t :: (l'++z)) (2 + 1) ze0)=false;rw [zui,zui,zui,zui]
    by_cases hn:l'=[]
    ·rw [hn,lNA,ha,Bool.and_false]
    ·rw [hw _ (.inr rfl) hn,Bool.false_and]
   rw [c3,if_neg Bool.false_ne_true]
  ·rw [zdy,if_neg (show ¬ kd (tkL :: (t :: l'++z)) 1=1 from hk)];show (if (isT (tkL :: (t :: l'++z)) 1 zam && isT (tkL :: (t :: l'++z)) 2 ze0)=true then 1 + 1 else 0)=0
   have c3:isT (tkL :: (t :: l'++z)) 1 zam=false:=by
    show isT (t :: l') 0 zam=false
    cases hi:isT (t :: l') 0 zam with
    | false=>rfl
    | true=>exact absurd (hl ▸ he) (zqa hi _)
   rw [c3,Bool.false_and,if_neg Bool.false_ne_true]
theorem z1d (hz:isT z 0 zam=true) (hs:Stop (z.drop 1)):ev (.assign cx0 (tkL :: (l++z)))=some (some (.nd n,z.drop 1)):=by
 have h1:Mk (.assign cx0 (l++z)) (.nd n) z:=zxg (z:=z) he (.inr hz);have ha:isT z 1 ze0=false:=by have:=hs.arr;rwa [zmz] at this
 exact zri (zj4 (zs7 (l:=tkL :: (l++z)) rfl h1 hz) rfl rfl hs) hs (zt4 he hz ha) rfl
theorem z2g:zo5 (tkL :: (l++[tkR,tkS]))=some [nd 26 [n]]:=by
 have h:=z1d (z:=[tkR,tkS]) he rfl (znw (s:=zbr) rfl rfl);have h2:ev (.stmt cx0 (tkL :: (l++[tkR,tkS])))=some (some (.nd (nd 26 [n]),[])):=by
  rw [zac];show (ndR (ev (.assign cx0 (tkL :: (l++[tkR,tkS])))) fun n l1=>zap zbr l1 fun l2=>okR (Rv.nd (nd 26 [n])) l2)=_
  rw [h];rfl
 have h3:(tkL :: (l++[tkR,tkS])).length + 1=((l++[tkR,tkS]).length + 1) + 1:=rfl;unfold zo5;rw [h3,zh6,if_neg (List.cons_ne_nil _ _),h2];simp only;rw [zh6,if_pos rfl];rfl
end
theorem zuv {T:Ts} (h:zbe 0 (T++[tkR])=false):zbe 0 (T++[tkR,tkS])=false:=by
 rw [show T++[tkR,tkS]=(T++[tkR])++[tkS] by simp,zhi,h]
 rfl
theorem zwo {s:ByteArray} {T:Ts} (h:lxE s.data.toList=(T,none)) {z:Bs} {Z:Ts} (hz:lxE z=(Z,none)) {w:ByteArray} (hw:w.data.toList=10 :: z):lxE (⟨#[40]⟩++s++w).data.toList=(tkL :: (T++Z),none):=by
 have e:(⟨#[40]⟩++s++w).data.toList=40 :: (s.data.toList++10 :: z):=by
  rw [ByteArray.data_append,Array.toList_append,ByteArray.data_append,Array.toList_append,hw];rfl
 rw [e,zzm,z2u h hz];rfl
theorem lxR:lxE [41]=([tkR],none):=by kernel_rfl
theorem lxRS:lxE [41,59]=([tkR,tkS],none):=by kernel_rfl
theorem zy7 {s:ByteArray} {T:Ts} {n:PT} (h:ExOk s T n):zcj exP (⟨#[40]⟩++s++⟨#[10,41]⟩)=zgc ptZ 0 5\/(zcj exP (⟨#[40]⟩++s++⟨#[10,41]⟩)=zgc n 0 0/\(zcj scO (⟨#[40]⟩++s++⟨#[10,41,59]⟩)=zgc ptZ 0 5\/zcj scO (⟨#[40]⟩++s++⟨#[10,41,59]⟩)=zgc (nd 42 [nd 26 [n]]) 0 0)):=by
 have hX:=zld (cl:=exP) (zwo h.lex lxR (w:=⟨#[10,41]⟩) rfl);have hY:=zld (cl:=scO) (zwo h.lex lxRS (w:=⟨#[10,41,59]⟩) rfl);rw [z1o (z1d (z:=[tkR]) h.ex rfl ziu)] at hX;unfold scO at hY;rw [z2g h.ex] at hY
 cases hc:zbe 0 (tkL :: (T++[tkR])) with
 | true=>exact .inl (by rw [hX,hc,if_pos rfl])
 | false =>
  rw [hc,if_neg Bool.false_ne_true] at hX;have hd:=h.dep;refine .inr ⟨?_,?_⟩
  ·rw [hX];show (if 512 < zgw n then _ else _)=_
   rw [if_neg (by omega)]
  ·have hc2:zbe 0 (tkL :: (T++[tkR,tkS]))=false:=zuv (T:=tkL :: T) hc;rw [hc2,if_neg Bool.false_ne_true] at hY;have hY':zcj scO (⟨#[40]⟩++s++⟨#[10,41,59]⟩)=(if 512 < zgw (nd 42 [nd 26 [n]]) then zgc ptZ 0 5 else zgc (nd 42 [nd 26 [n]]) 0 0):=hY
   by_cases hd2:512 < zgw (nd 42 [nd 26 [n]])
   ·exact .inl (by rw [hY',if_pos hd2])
   ·exact .inr (by rw [hY',if_neg hd2])
end Go.Proofs.YtcfecmeocimclaaGreatDoor
