/- Own work: package knapsackref25: great. -/
import Derived.Test.YtcfecmeocimclaaGreatDoorYAA0
import Derived.Test.YtcfecmeocimclaaGreatDoorYAGR
import Derived.Test.YtcfecmeocimclaaGreatDoorYAGV
import Derived.Laws.Cover4
namespace Go.Proofs.YtcfecmeocimclaaGreatDoor
set_option linter.unusedSimpArgs false
set_option maxRecDepth 100000
open Go.RowKit
def z7h:ByteArray:=⟨#[57,50,50,51,51,55,50,48,51,54,56,53,52,55,55,53,56,48,55]⟩
def greB (s:ByteArray):Bool:=decide (19 < s.size) || (decide (s.size=19) && !(Op.bytesLess s.toList z7h.toList || decide (s=z7h)))
/- Own work: package knapsackref25: Repair,literal. -/
theorem z3e {l t r:Bs} (h:zf0 uB l=some (t,r)):t.length<=4:=by
 have hu:∀ n:Nat,(uB n).length<=4:=fun n=>zff (n:Int)
 cases l with
 | nil=>cases h
 | cons c l =>
  rw [zf0] at h
  cases ht:z1q c with
  | some d =>
   rw [ht] at h;obtain ⟨rfl,rfl⟩:=Prod.mk.inj (Option.some.inj h);show (1:Nat)<=4;omega
  | none =>
   rw [ht] at h;simp only at h
   split at h
   ·split at h
    ·cases h
    ·obtain ⟨rfl,rfl⟩:=Prod.mk.inj (Option.some.inj h);show (1:Nat)<=4;omega
   ·split at h
    ·match l,h with
     | x :: y :: l,h =>
      rw [hxL] at h
      cases h1:zit x with
      | none=>rw [h1] at h;cases h
      | some v =>
       cases h2:zit y with
       | none=>rw [h1,h2] at h;cases h
       | some w =>
        rw [h1,h2] at h;obtain ⟨rfl,rfl⟩:=Prod.mk.inj (Option.some.inj h);exact hu _
    ·split at h
     ·match l,h with
      | x :: l,h =>
       rw [ptL] at h
       split at h
       ·cases hd:l.dropWhile zbb with
        | nil=>rw [hd] at h;cases h
        | cons d r2 =>
         rw [hd] at h;simp only at h
         split at h
         ·obtain ⟨rfl,rfl⟩:=Prod.mk.inj (Option.some.inj h);exact hu _
         ·cases h
       ·cases h
     ·cases h
structure RpI (s:ByteArray) (x:ByteArray × Nat):Prop where
 acc:x.1.data.toList++zah (s.data.toList.drop x.2)=zah s.data.toList
 sz:x.1.size<=4 * x.2
theorem zof (s acc:ByteArray) (pos:Nat) (hp:¬ pos < s.size) (h:acc.data.toList++zah (s.data.toList.drop pos)=zah s.data.toList):acc=zcn s:=by
 have hd:s.data.toList.drop pos=[]:=List.drop_eq_nil_of_le (by have:s.data.size=s.size:=rfl;simp;omega)
 rw [hd,show zah []=[] from rfl,List.append_nil] at h;refine zij ?_;rw [h];rfl
def litR (s:ByteArray) (a:Int) (q:UInt8):PV:=match lit uB q (rst s (a + 1)) with
 | none=>.tup [pS ⟨#[]⟩,pI 0]
 | some p=>.tup [pS (zcn (bL p.1)),pI ((s.size:Nat) - (p.2.length:Nat) - a)]
structure LitI (s:ByteArray) (n a:Int) (q:UInt8) (R:Option (Bs × Bs)) (x:Int × ByteArray):Prop where
 j0:a + 1<=x.1
 j1:x.1<=n
 sz:((x.2.size:Nat):Int)<=4 * (x.1 - a)
 eq:R=(lit uB q (rst s x.1)).map fun z=>(x.2.data.toList++z.1,z.2)
end Go.Proofs.YtcfecmeocimclaaGreatDoor
