/- Own work: package knapsackref25: great. -/
import Derived.Test.YtcfecmeocimclaaGreatDoorYPA0
import Derived.Test.YtcfecmeocimclaaGreatDoorYPGR
import Derived.Test.YtcfecmeocimclaaGreatDoorYPGV
import Derived.Laws.Cover4
namespace Go.Proofs.YtcfecmeocimclaaGreatDoor
open Go.RowKit
set_option maxRecDepth 100000
set_option linter.unusedSimpArgs false
def z5c:ByteArray:=⟨#[57,50,50,51,51,55,50,48,51,54,56,53,52,55,55,53,56,48,55]⟩
def greB (s:ByteArray):Bool:=decide (19 < s.size) || (decide (s.size=19) && !(Op.bytesLess s.toList z5c.toList || decide (s=z5c)))
end Go.Proofs.YtcfecmeocimclaaGreatDoor

/- Own work: package knapsackref25: Repair,literal. -/
namespace Go.Proofs.YtcfecmeocimclaaGreatDoor
open Go.RowKit
set_option maxRecDepth 100000
set_option linter.unusedSimpArgs false
theorem z1q {l t r:Bs} (h:zft uB l=some (t,r)):t.length<=4:=by
 have hu:∀ n:Nat,(uB n).length<=4:=fun n=>zfb (n:Int)
 cases l with
 | nil=>cases h
 | cons c l =>
  rw [zft] at h
  cases ht:z0f c with
  | some d =>
   rw [ht] at h;obtain ⟨rfl,rfl⟩:=Prod.mk.inj (Option.some.inj h);show (1:Nat)<=4;omega
  | none =>
   rw [ht] at h;simp only at h
   split at h
   ·split at h
    ·cases h
    ·obtain ⟨rfl,rfl⟩:=Prod.mk.inj (Option.some.inj h);show (1:Nat)<=4;omega
   ·split at h
    ·match l,h with
     | x :: y :: l,h =>
      rw [hxL] at h
      cases h1:zij x with
      | none=>rw [h1] at h;cases h
      | some v =>
       cases h2:zij y with
       | none=>rw [h1,h2] at h;cases h
       | some w =>
        rw [h1,h2] at h;obtain ⟨rfl,rfl⟩:=Prod.mk.inj (Option.some.inj h);exact hu _
    ·split at h
     ·match l,h with
      | x :: l,h =>
       rw [ptL] at h
       split at h
       ·cases hd:l.dropWhile zba with
        | nil=>rw [hd] at h;cases h
        | cons d r2 =>
         rw [hd] at h;simp only at h
         split at h
         ·obtain ⟨rfl,rfl⟩:=Prod.mk.inj (Option.some.inj h);exact hu _
         ·cases h
       ·cases h
     ·cases h
structure RpI (s:ByteArray) (x:ByteArray × Nat):Prop where
 acc:x.1.data.toList++zag (s.data.toList.drop x.2)=zag s.data.toList
 sz:x.1.size<=4 * x.2
theorem znz (s acc:ByteArray) (pos:Nat) (hp:¬ pos < s.size) (h:acc.data.toList++zag (s.data.toList.drop pos)=zag s.data.toList):acc=zcn s:=by
 have hd:s.data.toList.drop pos=[]:=List.drop_eq_nil_of_le (by have:s.data.size=s.size:=rfl;simp;omega)
 rw [hd,show zag []=[] from rfl,List.append_nil] at h;refine zh9 ?_;rw [h];rfl
def litR (s:ByteArray) (a:Int) (q:UInt8):PV:=match lit uB q (rst s (a + 1)) with
 | none=>.tup [pS ⟨#[]⟩,pI 0]
 | some p=>.tup [pS (zcn (bL p.1)),pI ((s.size:Nat) - (p.2.length:Nat) - a)]
structure LitI (s:ByteArray) (n a:Int) (q:UInt8) (R:Option (Bs × Bs)) (x:Int × ByteArray):Prop where
 j0:a + 1<=x.1
 j1:x.1<=n
 sz:((x.2.size:Nat):Int)<=4 * (x.1 - a)
 eq:R=(lit uB q (rst s x.1)).map fun z=>(x.2.data.toList++z.1,z.2)
end Go.Proofs.YtcfecmeocimclaaGreatDoor
