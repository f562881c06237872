/- Own work: packages lexer and knapsackref25: letter,digit,begins. -/
import Derived.Test.YtcfecmeocimclaaGreatDoorYAA0
import Derived.Test.YtcfecmeocimclaaGreatDoorYATypes
import Derived.Test.YtcfecmeocimclaaGreatDoorYAGB
import Derived.Test.YtcfecmeocimclaaGreatDoorYAGP
namespace Go.Proofs.YtcfecmeocimclaaGreatDoor
set_option linter.unusedSimpArgs false
set_option maxRecDepth 100000
open Go.RowKit
abbrev G0 (_:World):Prop:=True
theorem zby:∀ w w',Gr w w'->G0 w->G0 w':=fun _ _ _ _=>trivial
abbrev V0 (f:FuncId) (l:List PV) (r:PV):Prop:=Ret Tryz.prog G0 f l r
abbrev VM (f:FuncId) (l:List AV) (H:AH) (r:AV) (K:AH):Prop:=zd4 Tryz.prog G0 f l H r K
abbrev pI (n:Int):PV:=.v (.int .i64 n)
abbrev pU (c:UInt8):PV:=.v (.int .u8 (c.toNat:Nat))
abbrev pB (b:Bool):PV:=.v (.bool b)
abbrev pS (s:ByteArray):PV:=.v (.string s)
def ltrI (b1 b2 b3 b4 b5 b6:Bool):Bool:=(b1 && b2) || ((b3 && b4) || (b5 || b6))
set_option maxHeartbeats 4000000 in
theorem zxz (z:Int) (b1 b2 b3 b4 b5 b6:Bool) (h1:decide (97<=z)=b1) (h2:decide (z<=122)=b2) (h3:decide (65<=z)=b3) (h4:decide (z<=90)=b4) (h5:decide (z=95)=b5) (h6:decide (z=36)=b6):V0 102 [.v (.int .u8 z)] (pB (ltrI b1 b2 b3 b4 b5 b6)):=by
 cases b1 <;> cases b2 <;> cases b3 <;> cases b4 <;> cases b5 <;> cases b6
 all_goals
  refine zaq zaa zby mixed (fun _=>0) Tryz.func102 rfl (by kernel_rfl) (by kernel_rfl) rfl fun P G E hc hE=>?_
  have k1:E.lei 97 z=decide (97<=z):=by rw [hE];rfl
  rw [h1] at k1;have k2:E.lei z 122=decide (z<=122):=by rw [hE];rfl
  rw [h2] at k2;have k3:E.lei 65 z=decide (65<=z):=by rw [hE];rfl
  rw [h3] at k3;have k4:E.lei z 90=decide (z<=90):=by rw [hE];rfl
  rw [h4] at k4;clear hE h1 h2 h3 h4;cbv
  repeat (first|(simp only [k1];cbv)|(simp only [k2];cbv)|(simp only [k3];cbv)|(simp only [k4];cbv)|(simp only [h5];cbv)|(simp only [h6];cbv)|simp only [h6])
theorem zu5 (c:UInt8):V0 102 [pU c] (pB (ltr c)):=by
 have h:=zxz (c.toNat:Nat) _ _ _ _ _ _ rfl rfl rfl rfl rfl rfl;have e:ltrI (decide ((97:Int)<=(c.toNat:Nat))) (decide (((c.toNat:Nat):Int)<=122)) (decide ((65:Int)<=(c.toNat:Nat))) (decide (((c.toNat:Nat):Int)<=90)) (decide (((c.toNat:Nat):Int)=95)) (decide (((c.toNat:Nat):Int)=36))=ltr c:=by
  have key:=List.all_eq_true.1 (show ((List.range 256).all fun n=>ltrI (decide ((97:Int)<=(n:Nat))) (decide (((n:Nat):Int)<=122)) (decide ((65:Int)<=(n:Nat))) (decide (((n:Nat):Int)<=90)) (decide (((n:Nat):Int)=95)) (decide (((n:Nat):Int)=36)) == ltr (UInt8.ofNat n))=true by decide +kernel) c.toNat (List.mem_range.2 c.toNat_lt)
  rw [UInt8.ofNat_toNat] at key;exact beq_iff_eq.1 key
 rw [e] at h;exact h
theorem z1u (z:Int) (b1 b2:Bool) (h1:decide (48<=z)=b1) (h2:decide (z<=57)=b2):V0 103 [.v (.int .u8 z)] (pB (b1 && b2)):=by
 cases b1 <;> cases b2
 all_goals
  refine zaq zaa zby mixed (fun _=>0) Tryz.func103 rfl (by kernel_rfl) (by kernel_rfl) rfl fun P G E hc hE=>?_
  have k1:E.lei 48 z=decide (48<=z):=by rw [hE];rfl
  rw [h1] at k1;have k2:E.lei z 57=decide (z<=57):=by rw [hE];rfl
  rw [h2] at k2;clear hE h1 h2;cbv
  repeat (first|(simp only [k1];cbv)|(simp only [k2];cbv)|simp only [k2])
theorem zmr (c:UInt8):V0 103 [pU c] (pB (dgt c)):=by
 have h:=z1u (c.toNat:Nat) _ _ rfl rfl;have e:(decide ((48:Int)<=(c.toNat:Nat)) && decide (((c.toNat:Nat):Int)<=57))=dgt c:=by
  have key:=List.all_eq_true.1 (show ((List.range 256).all fun n=>(decide ((48:Int)<=(n:Nat)) && decide (((n:Nat):Int)<=57)) == dgt (UInt8.ofNat n))=true by decide +kernel) c.toNat (List.mem_range.2 c.toNat_lt)
  rw [UInt8.ofNat_toNat] at key;exact beq_iff_eq.1 key
 rw [e] at h;exact h
/- Own work: package knapsackref25: begins,skip. -/
def rst (s:ByteArray) (i:Int):Bs:=s.data.toList.drop i.toNat
theorem zdo (s:ByteArray) (i:Int):(rst s i).length=s.size - i.toNat:=by
 unfold rst;rw [lLD];rfl
def z81 (s:ByteArray) (i:Int) (t:Bs):Bool:=decide ((rst s i).take t.length=t)
theorem zij {a b:ByteArray} (h:a.data.toList=b.data.toList):a=b:=by
 show (⟨a.data.toList.toArray⟩:ByteArray)=⟨b.data.toList.toArray⟩;rw [h]
theorem zn4 (s:ByteArray) (l h:Nat):(s.extract l h).data.toList=(s.data.toList.drop l).take (h - l):=by
 rw [ByteArray.data_extract,Array.toList_extract]
/- Own work: package knapsackref25: skip. -/
theorem zei {s:ByteArray} {i:Int} {c:UInt8} (h0:0<=i) (h:s.data.toList[i.toNat]?=some c):rst s i=c :: rst s (i + 1):=by
 unfold rst;have hl:=(List.getElem?_eq_some_iff.1 h).1;rw [List.drop_eq_getElem_cons hl,show (i + 1).toNat=i.toNat + 1 by omega]
 congr 1
 exact (List.getElem?_eq_some_iff.1 h).2
theorem zl3 {s:ByteArray} {i:Int} (h:(s.size:Nat)<=i):rst s i=[]:=by
 have:=zdo s i
 exact List.eq_nil_of_length_eq_zero (by omega)
structure Sk (s:ByteArray) (n:Int) (R:Bs × Bool) (i:Int):Prop where
 i0:0<=i
 i1:i<=n
 sk:skp (rst s i)=R
structure SkL (s:ByteArray) (n:Int) (D:Bs) (i:Int):Prop where
 i0:0<=i
 i1:i<=n
 dl:za4 (rst s i)=D
structure SkC (s:ByteArray) (n:Int) (D:Option Bs) (i:Int):Prop where
 i0:0<=i
 i1:i<=n
 dl:zcx (rst s i)=D
theorem cmk_1 {l:Bs} (h:cmk l=1):∃ r,l=47 :: 47 :: r:=by
 unfold cmk at h
 split at h
 ·rename_i h2
  match l,h2 with
  | a :: b :: r,h2=>simp at h2;exact ⟨r,by rw [h2.1,h2.2]⟩
 ·split at h <;> cases h
theorem cmk_2 {l:Bs} (h:cmk l=2):∃ r,l=47 :: 42 :: r:=by
 unfold cmk at h
 split at h
 ·cases h
 ·split at h
  ·rename_i h2
   match l,h2 with
   | a :: b :: r,h2=>simp at h2;exact ⟨r,by rw [h2.1,h2.2]⟩
  ·cases h
end Go.Proofs.YtcfecmeocimclaaGreatDoor
