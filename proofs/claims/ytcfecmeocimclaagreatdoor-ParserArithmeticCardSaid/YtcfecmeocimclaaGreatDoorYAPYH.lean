/- Own work: deep nesting,plain. -/
import Derived.Test.YtcfecmeocimclaaGreatDoorYAA0
import Derived.Test.YtcfecmeocimclaaGreatDoorYAPYA
namespace Go.Proofs.YtcfecmeocimclaaGreatDoor
set_option maxRecDepth 100000
def zcy {α:Type}:Nat->List α->List α
 | 0,_=>[]
 | n + 1,l=>l++zcy n l
def z6y:Nat->ByteArray->ByteArray
 | 0,_=>⟨#[]⟩
 | n + 1,b=>z6y n b++b
def tkL:Tk:=⟨5,[40],0⟩
def tkR:Tk:=⟨5,[41],0⟩
def tkS:Tk:=⟨5,[59],0⟩
def tkN:Tk:=⟨3,[49],0⟩
def tkX:Tk:=⟨5,[33],0⟩
def tkA:Tk:=⟨1,[97],0⟩
def tkE:Tk:=⟨5,[61],0⟩
def tkW:Tk:=⟨2,znf,0⟩
def zxj:PT:=.mk 5 [] 1 0 []
def zy9:Nat->PT
 | 0=>zxj
 | k + 1=>ndO 12 2 [zy9 k]
def znd:Nat->PT
 | 0=>nd 37 []
 | k + 1=>nd 29 [zxj,znd k]
def asgs:Nat->PT
 | 0=>zxj
 | k + 1=>ndO 16 24 [ndN 7 [97] [],asgs k]
theorem zqs:∀ (l:Ts) (n:Nat),(∀ t ∈ l,tkB t ≠ 1)->za3 n l=false
 | [],_,_=>rfl
 | t :: l,n,h=>by
  have h1:=h t (List.mem_cons_self ..);have h2:=fun n=>zqs l n fun u hu=>h u (List.mem_cons_of_mem _ hu)
  rw [za3]
  split
  ·exact h2 _
  ·contradiction
  ·exact h2 _
def zzr (s:ByteArray) (b:Bool):Prop:=(b=true/\zcj scO s=zg6 ptZ 0 5)\/(b=false/\∃ x,zcj scO s=zg6 x 0 0)
end Go.Proofs.YtcfecmeocimclaaGreatDoor
