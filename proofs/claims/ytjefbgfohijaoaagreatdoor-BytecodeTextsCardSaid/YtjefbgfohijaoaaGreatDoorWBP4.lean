/- Own work: bytecode.Parse. -/
import Derived.Test.YtjefbgfohijaoaaGreatDoorWBP2
import Derived.Test.YtjefbgfohijaoaaGreatDoorWBP3
namespace Go.Proofs.YtjefbgfohijaoaaGreatDoor
open Go.RowKit
set_option maxRecDepth 100000
set_option linter.unusedSimpArgs false
structure PG where
 i : Int
 nm : ByteArray
 k : Int
 p : Int
 l : Int
 ra : List (List PV)
 na : Nat
 rb : List (List PV)
 nb : Nat
 rc : List (List PV)
 nc : Nat
def gOf (i : Int) (f : Fn) : PG := ⟨i, f.name, f.kind, f.params, f.locals, pCode f.code, f.code.length, pCons f.consts, f.consts.length, pHdls f.hdls, f.hdls.length⟩
abbrev boxP (y : PG) : ABlk := .box [.p (pS y.nm), .p (pI y.k), .p (pI y.p), .p (pI y.l), .osl 2 0 y.na, .osl 3 0 y.nb, .osl 4 0 y.nc] 33 none
abbrev boxZ : ABlk := .box [.p (pS ⟨#[]⟩), .p (pI 0), .p (pI 0), .p (pI 0), .p (.v (.slice none 0 0)), .p (.v (.slice none 0 0)), .p (.v (.slice none 0 0))] 33 none
abbrev hP (y : PG) : AH := [some boxZ, some (boxP y), some (.rows 3 y.ra 41), some (.rows 3 y.rb 47), some (.rows 5 y.rc 58)]
theorem line_len (l : ByteArray) (f : Fn) : (lineP l f).code.length + (lineP l f).consts.length + (lineP l f).hdls.length = f.code.length + f.consts.length + f.hdls.length + 1 := by
 unfold lineP
 split
 ·split <;> (simp only [List.length_append, List.length_cons, List.length_nil]; omega)
 ·split <;> (simp only [List.length_append, List.length_cons, List.length_nil]; omega)
def pZ : PV := .agg [pS ⟨#[]⟩, pI 0, pI 0, pI 0, .v (.slice none 0 0), .v (.slice none 0 0), .v (.slice none 0 0)]
def parseR (s : ByteArray) : PV := match parseP s with
 | some f => .tup [.agg (pFn f), pI 0]
 | none => .tup [pZ, pI 4]
structure LnPI (s : ByteArray) (ps : List ByteArray) (y : PG) : Prop where
 i0 : 0 <= y.i
 i1 : y.i <= ((ps.length : Nat) : Int)
 f : ∃ f : Fn, y = gOf y.i f /\ ((y.i = 0 /\ f = fn0) \/ (1 <= y.i /\ rawP s = some (bodyP f (ps.drop y.i.toNat)))) /\ ((f.code.length : Nat) : Int) + ((f.consts.length : Nat) : Int) + ((f.hdls.length : Nat) : Int) <= y.i
theorem ln_next {s : ByteArray} {ps : List ByteArray} {i : Int} {f : Fn} {l : ByteArray} (h1 : 1 <= i) (hr : rawP s = some (bodyP f (ps.drop i.toNat))) (hl : ps[i.toNat]? = some l) (hn : ((f.code.length : Nat) : Int) + ((f.consts.length : Nat) : Int) + ((f.hdls.length : Nat) : Int) <= i) : LnPI s ps (gOf (i + 1) (lineP l f)) := by
 obtain ⟨hk, hk2⟩ := List.getElem?_eq_some_iff.1 hl
 refine ⟨by show 0 <= i + 1; omega, by show i + 1 <= _; omega, lineP l f, rfl, .inr ⟨by show 1 <= i + 1; omega,?_⟩,?_⟩
 ·show rawP s = some (bodyP (lineP l f) (ps.drop (i + 1).toNat))
  rw [hr, List.drop_eq_getElem_cons hk, hk2, show (i + 1).toNat = i.toNat + 1 by omega]
  rfl
 ·have := line_len l f
  show _ <= i + 1
  omega
theorem ln_first {s : ByteArray} {l : ByteArray} {ls : List ByteArray} {f : Fn} (hp : linesP s = l :: ls) (hh : headP l = some f) : LnPI s (l :: ls) (gOf 1 f) := by
 refine ⟨by show (0 : Int) <= 1; decide, by show (1 : Int) <= _; rw [List.length_cons]; omega, f, rfl, .inr ⟨Int.le_refl 1,?_⟩,?_⟩
 ·unfold rawP
  rw [hp]
  simp only
  rw [hh]
  rfl
 ·unfold headP at hh
  split at hh
  ·cases hh
  ·cases hh
   show (0 : Int) + 0 + 0 <= 1
   decide
theorem ln_none {s : ByteArray} {l : ByteArray} {ls : List ByteArray} (hp : linesP s = l :: ls) (hh : headP l = none) : parseR s = .tup [pZ, pI 4] := by
 unfold parseR parseP rawP
 rw [hp]
 simp only
 rw [hh]
 rfl
theorem ln_end {s : ByteArray} {f : Fn} (h : rawP s = some f) : parseR s = if formedB f 4096 = true /\ bL (fmtB f) = s then .tup [.agg (pFn f), pI 0] else .tup [pZ, pI 4] := by
 unfold parseR parseP
 rw [h]
 show (match endP s f with | some f => _ | none => _) = _
 unfold endP
 by_cases hc : formedB f 4096 = true /\ bL (fmtB f) = s
 ·rw [if_pos hc, if_pos hc]
 ·rw [if_neg hc, if_neg hc]
end Go.Proofs.YtjefbgfohijaoaaGreatDoor
