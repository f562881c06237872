/- Own work: what the parser makes of tokens without places;an expression alone. -/
import Derived.Test.YtcfecmeocimclaaGreatDoorYPA0
import Derived.Test.YtcfecmeocimclaaGreatDoorYPPWV
namespace Go.Proofs.YtcfecmeocimclaaGreatDoor
set_option maxRecDepth 100000
def lxE (l:Bs):Ts × Option (Nat × Int):=((zdp l).1.map er,(zdp l).2)
theorem z2v {c:UInt8} {r t r2:Bs} {k:Int} (hw:wsp c=false) (hk:cmk (c :: r)=0) (ht:zeq uB zag (c :: r)=.ok k t r2):lxE (c :: r)=(⟨k,t,0⟩ :: (lxE r2).1,(lxE r2).2):=by
 unfold lxE zdp;rw [zfa uB zag (zfh hw hk) ht];rfl
theorem z1j {l:Bs} {ts:Ts} (h:zdp l=(ts,none)):lxE l=(ts.map er,none):=by unfold lxE;rw [h]
theorem z2u {s t:Bs} {a b:Ts} (h:lxE s=(a,none)) (h2:lxE t=(b,none)):lxE (s++10 :: t)=(a++b,none):=by
 have e1:zdp s=((zdp s).1,none):=by rw [<-show (zdp s).2=none from congrArg Prod.snd h]
 have e2:zdp t=((zdp t).1,none):=by rw [<-show (zdp t).2=none from congrArg Prod.snd h2]
 rw [z1j (zta e1 e2),List.map_append,z58,show (zdp s).1.map er=a from congrArg Prod.fst h,show (zdp t).1.map er=b from congrArg Prod.fst h2]
theorem zld {cl:Ts->Option (PT × Nat)} {s:ByteArray} {T:Ts} (h:lxE s.data.toList=(T,none)):zcj cl s=if zbe 0 T=true then zgc ptZ 0 5 else (match cl T with
  | none=>zgc ptZ 0 4
  | some (x,m)=>if m ≠ 0 then zgc ptZ 0 4 else if 512 < zgw x then zgc ptZ 0 5 else zgc x 0 0):=by
 unfold zcj;unfold lxE at h
 cases hl:zdp s.data.toList with
 | mk ts e =>
  rw [hl] at h
  cases h
  simp only [zhh (f:=er) (fun _=>rfl) (fun _=>rfl)]
  rfl
structure ExOk (s:ByteArray) (T:Ts) (n:PT):Prop where
 lex:lxE s.data.toList=(T,none)
 crowd:zbe 0 T=false
 ex:ev (.assign cx0 T)=some (some (.nd n,[]))
 dep:zgw n<=512
 out:zcj exP s=zgc n 0 0
theorem z1o {T:Ts} {n:PT} {r:Ts} (h:ev (.assign cx0 T)=some (some (.nd n,r))):exP T=some (n,r.length):=by unfold exP;rw [h]
theorem ex_of {s:ByteArray} {T:Ts} {n:PT} (h1:lxE s.data.toList=(T,none)) (h2:zbe 0 T=false) (h3:ev (.assign cx0 T)=some (some (.nd n,[]))) (h4:zgw n<=512):ExOk s T n:=by
 refine ⟨h1,h2,h3,h4,?_⟩;rw [zld h1,h2,z1o h3];simp only [Bool.false_eq_true,if_false,List.length_nil,ne_eq,not_true];rw [if_neg (by omega)]
theorem zuq (s:ByteArray):(∃ a e:Int,e ≠ 0/\zcj exP s=zgc ptZ a e)\/∃ T n,ExOk s T n:=by
 cases h:zdp s.data.toList with
 | mk ts e =>
  cases e with
  | some p =>
   refine .inl ⟨(s.size:Nat) - (p.1:Nat),p.2,zl6 _ _ p.1 p.2 (congrArg Prod.snd h),?_⟩;unfold zcj;rw [h]
  | none =>
   have hT:=z1j h;have hp:=zld (cl:=exP) hT
   cases hq:zbe 0 (ts.map er) with
   | true=>exact .inl ⟨0,5,by decide,by rw [hp,hq,if_pos rfl]⟩
   | false =>
    rw [hq,if_neg Bool.false_ne_true] at hp
    cases hx:exP (ts.map er) with
    | none=>exact .inl ⟨0,4,by decide,by rw [hp,hx]⟩
    | some xm =>
     obtain ⟨x,m⟩:=xm;rw [hx] at hp;simp only at hp
     by_cases hm:m=0
     ·rw [if_neg (by simp [hm])] at hp
      by_cases hd:512 < zgw x
      ·exact .inl ⟨0,5,by decide,by rw [hp,if_pos hd]⟩
      ·refine .inr ⟨_,x,ex_of hT hq ?_ (by omega)⟩
       unfold exP at hx
       split at hx
       ·rename_i y l' he
        cases hx
        rw [he,List.eq_nil_of_length_eq_zero hm]
       ·cases hx
     ·exact .inl ⟨0,4,by decide,by rw [hp,if_pos hm]⟩
theorem zzm (r:Bs):lxE (40 :: r)=(⟨5,[40],0⟩ :: (lxE r).1,(lxE r).2):=by
 refine z2v rfl ?_ ?_
 ·unfold cmk;rw [if_neg (by simp [List.take_succ_cons]),if_neg (by simp [List.take_succ_cons])]
 ·rw [zeq]
  have:opL (40 :: r)=some [40]:=by
   unfold opL zqt zs2;rw [if_neg (by simp [List.take_succ_cons]),if_neg (by simp [List.take_succ_cons])]
   rfl
  rw [if_neg (by decide),if_neg (by decide),if_neg (by decide),this]
  rfl
end Go.Proofs.YtcfecmeocimclaaGreatDoor
