/- Own work: two scripts,one behind the other,are parsed as both. -/
import Derived.Test.YtcfecmeocimclaaGreatDoorYAA0
import Derived.Test.YtcfecmeocimclaaGreatDoorYAHC
import Derived.Test.YtcfecmeocimclaaGreatDoorYAGZ
namespace Go.Proofs.YtcfecmeocimclaaGreatDoor
set_option maxRecDepth 100000
open Go.RowKit
theorem z2c {t u:Tk} (hk:u.k=t.k) (ht:u.t=t.t):tkB u=tkB t:=by unfold tkB;rw [hk,ht]
theorem zhq {f:Tk->Tk} (hk:∀ t,(f t).k=t.k) (ht:∀ t,(f t).t=t.t):∀ (n:Nat) (l:Ts),za3 n (l.map f)=za3 n l
 | _,[]=>rfl
 | n,t :: l=>by
  rw [List.map_cons,za3,za3,z2c (hk t) (ht t)]
  split
  ·exact zhq hk ht _ _
  ·rw [zhq hk ht]
  ·exact zhq hk ht _ _
structure ScrOk (s:ByteArray) (ts:Ts) (ks:List PT):Prop where
 lex:zec s.data.toList=(ts,none)
 crowd:za3 0 ts=false
 scr:zpn (ts.map er)=some ks
 dep:zek (nd 42 ks)<=512
 out:zcj scO s=zg6 (nd 42 ks) 0 0
end Go.Proofs.YtcfecmeocimclaaGreatDoor
