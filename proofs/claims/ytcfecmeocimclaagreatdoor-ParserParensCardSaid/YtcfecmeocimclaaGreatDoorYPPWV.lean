/- Own work: two scripts,one behind the other,are parsed as both. -/
import Derived.Test.YtcfecmeocimclaaGreatDoorYPA0
import Derived.Test.YtcfecmeocimclaaGreatDoorYPHC
import Derived.Test.YtcfecmeocimclaaGreatDoorYPGZ
namespace Go.Proofs.YtcfecmeocimclaaGreatDoor
open Go.RowKit
set_option maxRecDepth 100000
theorem z0w {t u:Tk} (hk:u.k=t.k) (ht:u.t=t.t):tkB u=tkB t:=by unfold tkB;rw [hk,ht]
theorem zhh {f:Tk->Tk} (hk:∀ t,(f t).k=t.k) (ht:∀ t,(f t).t=t.t):∀ (n:Nat) (l:Ts),zbe n (l.map f)=zbe n l
 | _,[]=>rfl
 | n,t :: l=>by
  rw [List.map_cons,zbe,zbe,z0w (hk t) (ht t)]
  split
  ·exact zhh hk ht _ _
  ·rw [zhh hk ht]
  ·exact zhh hk ht _ _
theorem zta {s t:Bs} {ts tt:List Tk} (h:zdp s=(ts,none)) (h2:zdp t=(tt,none)):zdp (s++10 :: t)=(ts.map (Tk.up (t.length + 1))++tt,none):=by
 have:=(z2y uB zag t s.length s (nR _)).1 (by show (zdp s).2=none;rw [h])
 show lex uB zag _=_;rw [this];show ((zdp s).1.map _++(zdp t).1,(zdp t).2)=_;rw [h,h2]
theorem z58 (n:Nat) (l:Ts):(l.map (Tk.up n)).map er=l.map er:=by rw [List.map_map];rfl
structure ScrOk (s:ByteArray) (ts:Ts) (ks:List PT):Prop where
 lex:zdp s.data.toList=(ts,none)
 crowd:zbe 0 ts=false
 scr:zo5 (ts.map er)=some ks
 dep:zgw (nd 42 ks)<=512
 out:zcj scO s=zgc (nd 42 ks) 0 0
end Go.Proofs.YtcfecmeocimclaaGreatDoor
