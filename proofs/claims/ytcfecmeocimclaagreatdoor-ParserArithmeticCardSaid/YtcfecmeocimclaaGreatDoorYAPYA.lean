/- Own work: what the parser makes of tokens without places;an expression alone. -/
import Derived.Test.YtcfecmeocimclaaGreatDoorYAA0
import Derived.Test.YtcfecmeocimclaaGreatDoorYAPWV
namespace Go.Proofs.YtcfecmeocimclaaGreatDoor
set_option maxRecDepth 100000
def lxE (l:Bs):Ts × Option (Nat × Int):=((zec l).1.map er,(zec l).2)
theorem zfw {c:UInt8} {r t r2:Bs} {k:Int} (hw:wsp c=false) (hk:cmk (c :: r)=0) (ht:zeu uB zah (c :: r)=.ok k t r2):lxE (c :: r)=(⟨k,t,0⟩ :: (lxE r2).1,(lxE r2).2):=by
 unfold lxE zec;rw [zfe uB zah (zfl hw hk) ht];rfl
theorem znz (r:Bs):lxE (32 :: r)=lxE r:=by
 unfold lxE zec;rw [zmf uB zah (zf5 (c:=32) (r:=r) rfl)]
theorem zlj {cl:Ts->Option (PT × Nat)} {s:ByteArray} {T:Ts} (h:lxE s.data.toList=(T,none)):zcj cl s=if za3 0 T=true then zg6 ptZ 0 5 else (match cl T with
  | none=>zg6 ptZ 0 4
  | some (x,m)=>if m ≠ 0 then zg6 ptZ 0 4 else if 512 < zek x then zg6 ptZ 0 5 else zg6 x 0 0):=by
 unfold zcj;unfold lxE at h
 cases hl:zec s.data.toList with
 | mk ts e =>
  rw [hl] at h
  cases h
  simp only [zhq (f:=er) (fun _=>rfl) (fun _=>rfl)]
  rfl
structure ExOk (s:ByteArray) (T:Ts) (n:PT):Prop where
 lex:lxE s.data.toList=(T,none)
 crowd:za3 0 T=false
 ex:ev (.assign cx0 T)=some (some (.nd n,[]))
 dep:zek n<=512
 out:zcj exP s=zg6 n 0 0
theorem z8h {T:Ts} {n:PT} {r:Ts} (h:ev (.assign cx0 T)=some (some (.nd n,r))):exP T=some (n,r.length):=by unfold exP;rw [h]
theorem z8i {s:ByteArray} {T:Ts} {n:PT} (h1:lxE s.data.toList=(T,none)) (h2:za3 0 T=false) (h3:ev (.assign cx0 T)=some (some (.nd n,[]))) (h4:zek n<=512):ExOk s T n:=by
 refine ⟨h1,h2,h3,h4,?_⟩;rw [zlj h1,h2,z8h h3];simp only [Bool.false_eq_true,if_false,List.length_nil,ne_eq,not_true];rw [if_neg (by omega)]
end Go.Proofs.YtcfecmeocimclaaGreatDoor
