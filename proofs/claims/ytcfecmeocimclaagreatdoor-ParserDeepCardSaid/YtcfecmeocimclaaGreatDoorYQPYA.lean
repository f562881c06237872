/- Own work: what the parser makes of tokens without places;an expression alone. -/
import Derived.Test.YtcfecmeocimclaaGreatDoorYQA0
import Derived.Test.YtcfecmeocimclaaGreatDoorYQPWV
namespace Go.Proofs.YtcfecmeocimclaaGreatDoor
set_option maxRecDepth 100000
def lxE (l:Bs):Ts × Option (Nat × Int):=((zef l).1.map er,(zef l).2)
theorem zix {c:UInt8} {r t r2:Bs} {k:Int} (hw:wsp c=false) (hk:cmk (c :: r)=0) (ht:zey uB zah (c :: r)=.ok k t r2):lxE (c :: r)=(⟨k,t,0⟩ :: (lxE r2).1,(lxE r2).2):=by
 unfold lxE zef;rw [zfi uB zah (zfp hw hk) ht];rfl
theorem zuk (r:Bs):lxE (32 :: r)=lxE r:=by
 unfold lxE zef;rw [zmx uB zah (zf5 (c:=32) (r:=r) rfl)]
theorem zl0 {cl:Ts->Option (PT × Nat)} {s:ByteArray} {T:Ts} (h:lxE s.data.toList=(T,none)):zb2 cl s=if za4 0 T=true then zgi ptZ 0 5 else (match cl T with
  | none=>zgi ptZ 0 4
  | some (x,m)=>if m ≠ 0 then zgi ptZ 0 4 else if 512 < zd5 x then zgi ptZ 0 5 else zgi x 0 0):=by
 unfold zb2;unfold lxE at h
 cases hl:zef s.data.toList with
 | mk ts e =>
  rw [hl] at h
  cases h
  simp only [zhw (f:=er) (fun _=>rfl) (fun _=>rfl)]
  rfl
structure ExOk (s:ByteArray) (T:Ts) (n:PT):Prop where
 lex:lxE s.data.toList=(T,none)
 crowd:za4 0 T=false
 ex:ev (.assign cx0 T)=some (some (.nd n,[]))
 dep:zd5 n<=512
 out:zb2 exP s=zgi n 0 0
theorem zul (r:Bs):lxE (40 :: r)=(⟨5,[40],0⟩ :: (lxE r).1,(lxE r).2):=by
 refine zix rfl ?_ ?_
 ·unfold cmk;rw [if_neg (by simp [List.take_succ_cons]),if_neg (by simp [List.take_succ_cons])]
 ·rw [zey]
  have:opL (40 :: r)=some [40]:=by
   unfold opL zq7 zss;rw [if_neg (by simp [List.take_succ_cons]),if_neg (by simp [List.take_succ_cons])]
   rfl
  rw [if_neg (by decide),if_neg (by decide),if_neg (by decide),this]
  rfl
end Go.Proofs.YtcfecmeocimclaaGreatDoor
