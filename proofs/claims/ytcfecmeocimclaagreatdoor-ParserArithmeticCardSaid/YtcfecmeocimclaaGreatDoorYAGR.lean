/- Own work: package knapsackref25: hex. -/
import Derived.Test.YtcfecmeocimclaaGreatDoorYAA0
import Derived.Test.YtcfecmeocimclaaGreatDoorYALA4
namespace Go.Proofs.YtcfecmeocimclaaGreatDoor
set_option linter.unusedSimpArgs false
set_option maxRecDepth 100000
open Go.RowKit
def z55 (c:UInt8):Int:=match zit c with
 | some n=>(n:Nat)
 | none=>-1
def hexC (z:Int):Int:=if 48<=z/\z<=57 then z - 48 else if 97<=z/\z<=102 then z - 97 + 10 else if 65<=z/\z<=70 then z - 65 + 10 else -1
/- Own work: package knapsackref25: point. -/
def uB (n:Nat):Bs:=(Utf8.encode (n:Int)).data.toList
def bL (l:Bs):ByteArray:=⟨l.toArray⟩
theorem zsa (c:UInt8):(zit c).getD 0<=15:=by
 have key:=List.all_eq_true.1 (show ((List.range 256).all fun n=>decide ((zit (UInt8.ofNat n)).getD 0<=15))=true by decide +kernel) c.toNat (List.mem_range.2 c.toNat_lt)
 rw [UInt8.ofNat_toNat] at key;exact oT key
theorem zmi (u:Bs) (x:UInt8):zh0 (u++[x])=16 * zh0 u + (zit x).getD 0:=by
 unfold zh0;rw [List.foldl_append];rfl
theorem z5f:∀ (k:Nat) (u:Bs),u.length<=k->zh0 u < 16 ^ k:=by
 intro k
 induction k with
 | zero =>
  intro u h
  have:u=[]:=List.eq_nil_of_length_eq_zero (by omega)
  subst this;decide
 | succ k ih =>
  intro u h
  rcases List.eq_nil_or_concat u with rfl|⟨v,x,rfl⟩
  ·exact Nat.pow_pos (by decide)
  ·have h2:v.length<=k:=by
    rw [List.concat_eq_append,lLA,lLS] at h;omega
   have h3:=ih v h2;have h4:=zsa x;rw [List.concat_eq_append,zmi,Nat.pow_succ];omega
def ptR (s:ByteArray) (a:Int):PV:=match ptL uB (rst s (a + 1)) with
 | none=>.tup [pS ⟨#[]⟩,pI 0]
 | some p=>.tup [pS (bL p.1),pI ((s.size:Nat) - (p.2.length:Nat) - a)]
structure PtI (s:ByteArray) (n a:Int) (x:Int × Int):Prop where
 j0:a + 2<=x.1
 j1:x.1<=n
 j2:x.1<=a + 9
 u:∃ u:Bs,rst s (a + 2)=u++rst s x.1/\(∀ c ∈ u,zbb c=true)/\(u.length:Int)=x.1 - a - 2/\x.2=(zh0 u:Nat)
def ptE (u:Bs):Bs->Option (Bs × Bs)
 | []=>none
 | d :: r'=>if d=125/\1<=u.length/\u.length<=6/\z0m (zh0 u)=true then some (uB (zh0 u),r') else none
theorem zrb {n:Int} (h0:0<=n) (h1:n < 2147483648):IntKind.i32.wrap n=n:=by
 simp [IntKind.wrap,IntKind.bits,IntKind.signed]
 split <;> omega
/- Own work: package knapsackref25: escape (printed by gen_esc.py). -/
def escR (s:ByteArray) (a:Int):PV:=match zf0 uB (rst s a) with
 | none=>.tup [pS ⟨#[]⟩,pI 0]
 | some p=>.tup [pS (bL p.1),pI ((s.size:Nat) - (p.2.length:Nat) - a)]
theorem zv4 {c:UInt8} {z:Int} (hz:((c.toNat:Nat):Int)=z) (k:UInt8) (h:c ≠ k):decide (z=((k.toNat:Nat):Int))=false:=dF fun e=>h (UInt8.toNat_inj.1 (by omega))
end Go.Proofs.YtcfecmeocimclaaGreatDoor
