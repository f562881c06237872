/- Own work: two scripts,one behind the other,are parsed as both. -/
import Derived.Test.YtcfecmeocimclaaGreatDoorZA0
import Derived.Test.YtcfecmeocimclaaGreatDoorZHC
import Derived.Test.YtcfecmeocimclaaGreatDoorZGZ
namespace Go.Proofs.YtcfecmeocimclaaGreatDoor
open Go.RowKit
set_option maxRecDepth 100000
theorem z0o {t u:Tk} (hk:u.k=t.k) (ht:u.t=t.t):tkB u=tkB t:=by unfold tkB;rw [hk,ht]
theorem zor {f:Tk->Tk} (hk:∀ t,(f t).k=t.k) (ht:∀ t,(f t).t=t.t):∀ (n:Nat) (l:Ts),zo6 n (l.map f)=zo6 n l
 | _,[]=>rfl
 | n,t :: l=>by rw [List.map_cons,zo6,zo6,z0o (hk t) (ht t),zor hk ht]
theorem zjf {f:Tk->Tk} (hk:∀ t,(f t).k=t.k) (ht:∀ t,(f t).t=t.t):∀ (n:Nat) (l:Ts),zbq n (l.map f)=zbq n l
 | _,[]=>rfl
 | n,t :: l=>by
  rw [List.map_cons,zbq,zbq,z0o (hk t) (ht t)]
  split
  ·exact zjf hk ht _ _
  ·rw [zjf hk ht]
  ·exact zjf hk ht _ _
theorem zs9:∀ a b:List PT,zkx (a++b)=max (zkx a) (zkx b)
 | [],b=>by rw [lNA,zkx,Nat.zero_max]
 | x :: a,b=>by rw [lCA,zkx,zkx,zs9 a b,Nat.max_assoc]
theorem zzk {s t:Bs} {ts tt:List Tk} (h:zf9 s=(ts,none)) (h2:zf9 t=(tt,none)):zf9 (s++10 :: t)=(ts.map (Tk.up (t.length + 1))++tt,none):=by
 have:=(z2j uB zak t s.length s (nR _)).1 (by show (zf9 s).2=none;rw [h])
 show lex uB zak _=_;rw [this];show ((zf9 s).1.map _++(zf9 t).1,(zf9 t).2)=_;rw [h,h2]
theorem er_up (n:Nat) (l:Ts):(l.map (Tk.up n)).map er=l.map er:=by rw [List.map_map];rfl
structure ScrOk (s:ByteArray) (ts:Ts) (ks:List PT):Prop where
 lex:zf9 s.data.toList=(ts,none)
 crowd:zbq 0 ts=false
 scr:zqo (ts.map er)=some ks
 dep:zim (nd 42 ks)<=512
 out:ze8 scO s=zk9 (nd 42 ks) 0 0
theorem z0v {s:ByteArray} {ts:Ts} {ks:List PT} (h1:zf9 s.data.toList=(ts,none)) (h2:zbq 0 ts=false) (h3:zqo (ts.map er)=some ks) (h4:zim (nd 42 ks)<=512):ScrOk s ts ks:=by
 refine ⟨h1,h2,h3,h4,?_⟩;unfold ze8 scO;rw [h1];simp only [h2,h3,Option.map_some,Bool.false_eq_true,if_false];rw [if_neg (by simp),if_neg (by omega)]
theorem zlv (s:ByteArray):(∃ a e:Int,e ≠ 0/\ze8 scO s=zk9 ptZ a e)\/∃ ts ks,ScrOk s ts ks:=by
 cases h:zf9 s.data.toList with
 | mk ts e =>
  cases e with
  | some p =>
   refine .inl ⟨(s.size:Nat) - (p.1:Nat),p.2,zn8 _ _ p.1 p.2 (congrArg Prod.snd h),?_⟩;unfold ze8;rw [h]
  | none =>
   cases hq:zbq 0 ts with
   | true =>
    refine .inl ⟨0,5,by decide,?_⟩
    unfold ze8;rw [h];simp only [hq,if_true]
   | false =>
    cases hs:zqo (ts.map er) with
    | none =>
     refine .inl ⟨0,4,by decide,?_⟩
     unfold ze8 scO;rw [h];simp only [hq,hs,Option.map_none,Bool.false_eq_true,if_false]
    | some ks =>
     by_cases hd:512 < zim (nd 42 ks)
     ·refine .inl ⟨0,5,by decide,?_⟩
      unfold ze8 scO;rw [h];simp only [hq,hs,Option.map_some,Bool.false_eq_true,if_false];rw [if_neg (by simp),if_pos hd]
     ·exact .inr ⟨ts,ks,z0v h hq hs (by omega)⟩
theorem z3z {s t:ByteArray} {ts tt:Ts} {ks kt:List PT} (h:ScrOk s ts ks) (h2:ScrOk t tt kt):∃ u,ScrOk (s++⟨#[10]⟩++t) u (ks++kt):=by
 have hl:zf9 (s++⟨#[10]⟩++t).data.toList=(ts.map (Tk.up (t.data.toList.length + 1))++tt,none):=by
  have e:(s++⟨#[10]⟩++t).data.toList=s.data.toList++10 :: t.data.toList:=by
   rw [ByteArray.data_append,Array.toList_append,ByteArray.data_append,Array.toList_append];simp
  rw [e];exact zzk h.lex h2.lex
 have hb:zo6 0 ts=0:=by
  rw [<-zor (f:=er) (fun _=>rfl) (fun _=>rfl)]
  exact zsm _ _ _ (z1q h.lex) (show zia ((ts.map er).length + 1) [] (ts.map er)=some ks from h.scr) 0
 refine ⟨_,z0v hl ?_ ?_ ?_⟩
 ·rw [zjg,zjf (f:=Tk.up (t.data.toList.length + 1)) (fun _=>rfl) (fun _=>rfl),zor (f:=Tk.up (t.data.toList.length + 1)) (fun _=>rfl) (fun _=>rfl),h.crowd,hb,h2.crowd]
  rfl
 ·rw [List.map_append,er_up];exact zyt h.scr h2.scr
 ·have d1:=h.dep;have d2:=h2.dep;unfold nd at d1 d2 ⊢;rw [zim] at d1 d2 ⊢;rw [zs9]
  rcases Nat.le_total (zkx ks) (zkx kt) with hm|hm
  ·rw [Nat.max_eq_right hm];exact d2
  ·rw [Nat.max_eq_left hm];exact d1
end Go.Proofs.YtcfecmeocimclaaGreatDoor
