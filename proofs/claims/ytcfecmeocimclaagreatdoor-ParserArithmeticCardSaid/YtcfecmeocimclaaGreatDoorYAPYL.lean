/- Own work: ParserArithmetic returns true. -/
import Derived.Test.YtcfecmeocimclaaGreatDoorYAA0
import Derived.Test.YtcfecmeocimclaaGreatDoorYAPYK
namespace Go.Proofs.YtcfecmeocimclaaGreatDoor
set_option linter.unusedSimpArgs false
set_option linter.unusedVariables false
set_option linter.unusedSectionVars false
set_option maxRecDepth 100000
open Go.RowKit
theorem zx8:∀ (a b:List It),itB (a++b)=itB a++itB b
 | [],b=>rfl
 | x :: a,b=>by
  show 32 :: opC x.op :: 32 :: (unB x.u++itB (a++b))=(32 :: opC x.op :: 32 :: (unB x.u++itB a))++itB b;rw [zx8 a b];simp
theorem zyg:∀ (a b:List It) (s:Int × Int),goP s (a++b)=goP (goP s a) b
 | [],b,s=>rfl
 | x :: a,b,(t,p)=>by
  show goP _ (a++b)=_;rw [zyg a b];rfl
section
variable (U:Nat->Un) (O:Nat->Nat)
def arL:List It:=[⟨O 0,U 1⟩,⟨O 1,U 2⟩,⟨O 2,U 3⟩,⟨O 3,U 4⟩,⟨O 4,U 5⟩]
def txA:Nat->Bs
 | 0=>[]
 | i + 1=>unB (U 0)++itB ((arL U O).take i)
def tpA:Nat->Int × Int
 | 0=>(0,0)
 | i + 1=>goP (0,(unA (U 0)).val) ((arL U O).take i)
theorem zuc {j:Nat} (h:j < 5):(arL U O).take (j + 1)=(arL U O).take j++[⟨O j,U (j + 1)⟩]:=by
 rcases (show j=0\/j=1\/j=2\/j=3\/j=4 by omega) with rfl|rfl|rfl|rfl|rfl <;> rfl
theorem zz5 {j:Nat} (h:j < 5):txA U O (j + 2)=txA U O (j + 1)++(32 :: opC (O j) :: 32 :: unB (U (j + 1))):=by
 show unB (U 0)++itB ((arL U O).take (j + 1))=(unB (U 0)++itB ((arL U O).take j))++_;rw [zuc U O h,zx8,List.append_assoc];show _=unB (U 0)++(itB ((arL U O).take j)++(32 :: opC (O j) :: 32 :: unB (U (j + 1))));simp [itB]
theorem zz7 {j:Nat} (h:j < 5):tpA U O (j + 2)=(match O j with
  | 0=>((tpA U O (j + 1)).1 + (tpA U O (j + 1)).2,(unA (U (j + 1))).val)
  | 1=>((tpA U O (j + 1)).1 + (tpA U O (j + 1)).2,-(unA (U (j + 1))).val)
  | _=>((tpA U O (j + 1)).1,(tpA U O (j + 1)).2 * (unA (U (j + 1))).val)):=by
 show goP (0,(unA (U 0)).val) ((arL U O).take (j + 1))=_;rw [zuc U O h,zyg];rfl
end
theorem zwm (u:Un):(unB u).length<=2:=by
 unfold unB
 split <;> simp
theorem zx7:∀ l:List It,(itB l).length<=5 * l.length
 | []=>nR _
 | x :: l=>by
  have:=zwm x.u
  have:=zx7 l
  show (32 :: opC x.op :: 32 :: (unB x.u++itB l)).length<=5 * (x :: l).length;simp only [lLC,lLA];omega
theorem zwn (U:Nat->Un) (O:Nat->Nat):∀ i,(txA U O i).length<=100
 | 0=>Nat.zero_le _
 | i + 1=>by
  have h1:=zwm (U 0);have h2:=zx7 ((arL U O).take i);have h3:((arL U O).take i).length<=5:=by rw [List.length_take];exact Nat.min_le_right _ _
  show (unB (U 0)++itB ((arL U O).take i)).length<=100;rw [lLA];omega
structure ArI (U:Nat->Un) (O:Nat->Nat) (x:Int × ByteArray × Int × Int):Prop where
 i0:0<=x.1
 i1:x.1<=6
 tx:x.2.1.data.toList=txA U O x.1.toNat
 t:x.2.2.1=IntKind.i64.wrap (tpA U O x.1.toNat).1
 p:x.2.2.2=IntKind.i64.wrap (tpA U O x.1.toNat).2
abbrev c8 (n:Int):AV:=.p (.v (.int .u8 n))
abbrev arH (n0 n1 n2 n3 n4 n5 o0 o1 o2 o3 o4:Int):AH:=[some (.box [c8 n0,c8 n1,c8 n2,c8 n3,c8 n4,c8 n5] 31 none),some (.box [c8 o0,c8 o1,c8 o2,c8 o3,c8 o4] 32 none)]
abbrev DGT:ByteArray:=⟨#[48,49,50,51,52,53,54,55,56,57]⟩
structure ArF (E:SO) (m:Int) (U:Nat->Un) (cs:List AV) (i nv d d1 y bt:Int) (ng:Bool) (dB:ByteArray):Prop where
 p0:E.ple 0 i
 p1:E.plt i (E.ofN 6)
 r0:cs[E.addN 0 (E.nat i)]?=some (c8 nv)
 dg:E.rem nv 10=d
 cv:E.wrap .i64 d=d
 sh:E.shr .u8 m i=y
 bd:E.band .u8 y 1=bt
 b1:decide (bt=1)=ng
 ad:E.wadd .u8 d 1=d1
 q0:E.ple 0 d
 q1:E.ple d d1
 q2:E.ple d1 (E.size DGT)
 ex:E.ext DGT (E.nat d) (E.nat d1)=dB
 dd:d=(((U i.toNat).d:Nat):Int)
 d9:(U i.toNat).d<=9
 ne:(U i.toNat).neg=ng
 db:dB.data.toList=[dgC (U i.toNat).d]
def arU (m:Int) (fN:Nat->Int) (i:Nat):Un:=⟨decide (zas.band .u8 (zas.shr .u8 m (i:Nat)) 1=1),((fN i).tmod 10).toNat⟩
theorem z3p {n:Int} (h0:0<=n) (h1:n<=255):IntKind.u8.wrap n=n:=by
 have e1:((2:Int) ^ IntKind.u8.bits)=256:=by decide
 have e3:IntKind.u8.signed=false:=rfl;simp only [IntKind.wrap,e1,e3,Bool.false_and,Bool.false_eq_true,if_false];omega
theorem z8m {d:Nat} (h:d<=9):DGT.extract d (d + 1)=⟨#[dgC d]⟩:=by rcases dg10 h with rfl|rfl|rfl|rfl|rfl|rfl|rfl|rfl|rfl|rfl <;> decide
theorem arF {E:SO} (hE:E=zas) {m i nv:Int} {fN:Nat->Int} {cs:List AV} (h0:0<=i) (h1:i < 6) (hc:cs[i.toNat]?=some (c8 nv)) (hf:fN i.toNat=nv) (hn:0<=nv):∃ d d1 y bt ng dB,ArF E m (arU m fN) cs i nv d d1 y bt ng dB:=by
 subst hE;have h10:0<=nv.tmod 10/\nv.tmod 10 < 10:=⟨Int.tmod_nonneg _ hn,Int.tmod_lt_of_pos _ (by decide)⟩
 have hi:((i.toNat:Nat):Int)=i:=by omega
 have hd9:(nv.tmod 10).toNat<=9:=by omega
 refine ⟨nv.tmod 10,nv.tmod 10 + 1,_,_,_,⟨#[dgC (nv.tmod 10).toNat]⟩,h0,h1,?_,rfl,zaf (by omega) (by omega),rfl,rfl,rfl,z3p (by omega) (by omega),h10.1,?_,?_,?_,?_,?_,?_,?_⟩
 ·show cs[0 + i.toNat]?=_;rw [Nat.zero_add,hc]
 ·show nv.tmod 10<=nv.tmod 10 + 1;omega
 ·show nv.tmod 10 + 1<=10;omega
 ·show DGT.extract (nv.tmod 10).toNat (nv.tmod 10 + 1).toNat=_;rw [show (nv.tmod 10 + 1).toNat=(nv.tmod 10).toNat + 1 by omega]
  exact z8m hd9
 ·show nv.tmod 10=((((fN i.toNat).tmod 10).toNat:Nat):Int);rw [hf];omega
 ·show ((fN i.toNat).tmod 10).toNat<=9;rw [hf];exact hd9
 ·show decide (zas.band .u8 (zas.shr .u8 m ((i.toNat:Nat):Int)) 1=1)=_;rw [hi]
 ·show [dgC (nv.tmod 10).toNat]=[dgC ((fN i.toNat).tmod 10).toNat];rw [hf]
theorem zbn {E:SO} (hE:E=zas) {a b:ByteArray} (h:a.size<=1000) (h':b.size<=1000):∃ c,E.cat a b/\E.add a b=c/\c.data.toList=a.data.toList++b.data.toList/\c.size=a.size + b.size:=by
 subst hE;refine ⟨a++b,?_,rfl,by rw [ByteArray.data_append,Array.toList_append],ByteArray.size_append⟩
 show ((a.size:Nat):Int) + ((b.size:Nat):Int)<=9223372036854775807;omega
end Go.Proofs.YtcfecmeocimclaaGreatDoor
