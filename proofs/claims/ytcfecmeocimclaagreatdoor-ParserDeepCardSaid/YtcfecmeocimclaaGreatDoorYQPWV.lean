/- Own work: two scripts,one behind the other,are parsed as both. -/
import Derived.Test.YtcfecmeocimclaaGreatDoorYQA0
import Derived.Test.YtcfecmeocimclaaGreatDoorYQHC
import Derived.Test.YtcfecmeocimclaaGreatDoorYQGZ
namespace Go.Proofs.YtcfecmeocimclaaGreatDoor
open Go.RowKit
set_option maxRecDepth 100000
theorem z2c {t u:Tk} (hk:u.k=t.k) (ht:u.t=t.t):tkB u=tkB t:=by unfold tkB;rw [hk,ht]
theorem zhw {f:Tk->Tk} (hk:∀ t,(f t).k=t.k) (ht:∀ t,(f t).t=t.t):∀ (n:Nat) (l:Ts),za4 n (l.map f)=za4 n l
 | _,[]=>rfl
 | n,t :: l=>by
  rw [List.map_cons,za4,za4,z2c (hk t) (ht t)]
  split
  ·exact zhw hk ht _ _
  ·rw [zhw hk ht]
  ·exact zhw hk ht _ _
structure ScrOk (s:ByteArray) (ts:Ts) (ks:List PT):Prop where
 lex:zef s.data.toList=(ts,none)
 crowd:za4 0 ts=false
 scr:zqb (ts.map er)=some ks
 dep:zd5 (nd 42 ks)<=512
 out:zb2 scO s=zgi (nd 42 ks) 0 0
end Go.Proofs.YtcfecmeocimclaaGreatDoor
