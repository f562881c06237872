/- Own work, plain: the bytes that a code point has, as the library reckons them. -/
import Derived.Test.YtjefbgfohijaoaaGreatDoorWGB
import Derived.Test.YtjefbgfohijaoaaGreatDoorWGV
namespace Go.Proofs.YtjefbgfohijaoaaGreatDoor
open Go.RowKit
set_option maxRecDepth 100000
set_option linter.unusedSimpArgs false
theorem wrap8_eq (n : Int) : IntKind.u8.wrap n = n % 256 := by
 have e1 : ((2 : Int) ^ IntKind.u8.bits) = 256 := by decide
 have e3 : IntKind.u8.signed = false := rfl
 simp only [IntKind.wrap, e1, e3, Bool.false_and, Bool.false_eq_true, if_false]
theorem or_tab : ∀ c : Fin 64, (128 ||| c.val) = 128 + c.val /\ (c.val < 32 -> (192 ||| c.val) = 192 + c.val) /\ (c.val < 16 -> (224 ||| c.val) = 224 + c.val) /\ (c.val < 8 -> (240 ||| c.val) = 240 + c.val) := by decide
theorem and_tab : ∀ c : Fin 256, (c.val &&& 63) = c.val % 64 := by decide
theorem bor8 (k x : Int) (h0 : 0 <= x) (h1 : x < 256) (k0 : 0 <= k) (k1 : k < 256) : stdE.bor .u8 k x = ((k.toNat ||| x.toNat : Nat) : Int) := by
 show IntKind.u8.wrap ((BitVec.ofInt 8 k) ||| BitVec.ofInt 8 x).toNat = _
 have e : (BitVec.ofInt 8 k).toNat = k.toNat := by
  rw [BitVec.toNat_ofInt]
  have e2 : ((2 : Nat) ^ 8 : Nat) = 256 := by decide
  rw [e2]
  omega
 have e' : (BitVec.ofInt 8 x).toNat = x.toNat := by
  rw [BitVec.toNat_ofInt]
  have e2 : ((2 : Nat) ^ 8 : Nat) = 256 := by decide
  rw [e2]
  omega
 rw [BitVec.toNat_or, e, e', wrap8_eq]
 have : (k.toNat ||| x.toNat) < 2 ^ 8 := Nat.or_lt_two_pow (by omega) (by omega)
 omega
theorem band8 (x : Int) (h0 : 0 <= x) (h1 : x < 256) : stdE.band .u8 x 63 = x % 64 := by
 show IntKind.u8.wrap ((BitVec.ofInt 8 x) &&& BitVec.ofInt 8 63).toNat = _
 have e' : (BitVec.ofInt 8 x).toNat = x.toNat := by
  rw [BitVec.toNat_ofInt]
  have e2 : ((2 : Nat) ^ 8 : Nat) = 256 := by decide
  rw [e2]
  omega
 have e : (BitVec.ofInt 8 63).toNat = 63 := by decide
 rw [BitVec.toNat_and, e, e', wrap8_eq]
 have h := and_tab ⟨x.toNat, by omega⟩
 simp only at h
 rw [h]
 omega
theorem tail_byte (x : Int) : stdE.bor .u8 128 (stdE.band .u8 (stdE.wrap .u8 x) 63) = 128 + x % 64 := by
 have hw : stdE.wrap .u8 x = x % 256 := wrap8_eq x
 rw [hw, band8 _ (by omega) (by omega), bor8 _ _ (by omega) (by omega) (by omega) (by omega)]
 have h := (or_tab ⟨(x % 64).toNat, by omega⟩).1
 simp only at h
 have e : x % 256 % 64 = x % 64 := by omega
 rw [e]
 have e1 : (128 : Int).toNat = 128 := rfl
 rw [e1, h]
 omega
theorem head2 (x : Int) (h0 : 0 <= x) (h1 : x < 32) : stdE.bor .u8 192 (stdE.wrap .u8 x) = 192 + x := by
 have hw : stdE.wrap .u8 x = x % 256 := wrap8_eq x
 rw [hw, bor8 _ _ (by omega) (by omega) (by omega) (by omega)]
 have h := (or_tab ⟨x.toNat, by omega⟩).2.1 (by show x.toNat < 32; omega)
 simp only at h
 have e1 : (192 : Int).toNat = 192 := rfl
 have e2 : (x % 256).toNat = x.toNat := by omega
 rw [e1, e2, h]
 omega
theorem head3 (x : Int) (h0 : 0 <= x) (h1 : x < 16) : stdE.bor .u8 224 (stdE.wrap .u8 x) = 224 + x := by
 have hw : stdE.wrap .u8 x = x % 256 := wrap8_eq x
 rw [hw, bor8 _ _ (by omega) (by omega) (by omega) (by omega)]
 have h := (or_tab ⟨x.toNat, by omega⟩).2.2.1 (by show x.toNat < 16; omega)
 simp only at h
 have e1 : (224 : Int).toNat = 224 := rfl
 have e2 : (x % 256).toNat = x.toNat := by omega
 rw [e1, e2, h]
 omega
theorem head4 (x : Int) (h0 : 0 <= x) (h1 : x < 8) : stdE.bor .u8 240 (stdE.wrap .u8 x) = 240 + x := by
 have hw : stdE.wrap .u8 x = x % 256 := wrap8_eq x
 rw [hw, bor8 _ _ (by omega) (by omega) (by omega) (by omega)]
 have h := (or_tab ⟨x.toNat, by omega⟩).2.2.2 (by show x.toNat < 8; omega)
 simp only at h
 have e1 : (240 : Int).toNat = 240 := rfl
 have e2 : (x % 256).toNat = x.toNat := by omega
 rw [e1, e2, h]
 omega
def lR (l : List UInt8) : List (List PV) := l.map fun b => [.v (.int .u8 (b.toNat : Nat))]
theorem lR_len (l : List UInt8) : (lR l).length = l.length := by unfold lR; rw [List.length_map]
theorem lR_app (a b : List UInt8) : lR (a ++ b) = lR a ++ lR b := by unfold lR; rw [List.map_append]
theorem lR_bytes (s : ByteArray) : bytesRows s = lR s.data.toList := rfl
theorem lR_ints (zs : List Int) (h : ∀ x ∈ zs, 0 <= x /\ x < 256) : lR (zs.map fun x => x.toNat.toUInt8) = zs.map fun x => [.v (.int .u8 x)] := by
 unfold lR
 rw [List.map_map]
 refine List.map_congr_left fun x hx => ?_
 have := h x hx
 show [PV.v (.int .u8 ((x.toNat.toUInt8).toNat : Nat))] = _
 have e : (x.toNat.toUInt8).toNat = x.toNat := by
  rw [Nat.toUInt8_eq, UInt8.toNat_ofNat']
  omega
 rw [e, Int.toNat_of_nonneg this.1]
theorem lR_rune (r : Int) : lR (Utf8.encode r).data.toList = (Lib.encodeRuneZ r).map fun x => [.v (.int .u8 x)] := by
 rw [encL_def, encL_eq]
 exact lR_ints _ (Lib.encodeRuneZ_byte r)
end Go.Proofs.YtjefbgfohijaoaaGreatDoor
