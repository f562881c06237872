/- Own work: arrays that come in as arguments;ParserArithmetic returns true. -/
import Derived.Test.YtcfecmeocimclaaGreatDoorYAA0
import Derived.Test.YtcfecmeocimclaaGreatDoorYAPYM
import Derived.Test.YtcfecmeocimclaaGreatDoorYAQFrame
import Derived.OpenShut
namespace Go.Proofs.YtcfecmeocimclaaGreatDoor
set_option linter.unusedSimpArgs false
set_option linter.unusedVariables false
set_option linter.unusedSectionVars false
set_option maxRecDepth 100000
open Go.ChangeShapes Go.WideShapes Go.ChangeAt Go.RowKit Go.ChangeMaps
theorem zy5:Tryz.prog.cellsOf 5=1:=by kernel_rfl
section
variable {H:Type} {enc:TypeId × Value->H} {w:World} {base:Nat} {spare:Nat->Bool} {held:Bool}
theorem c_a6:Tryz.prog.cellsOf 31=6:=by kernel_rfl
theorem ln6 {α:Type} {l:List α} (h:l.length=6):∃ c0 c1 c2 c3 c4 c5,l=[c0,c1,c2,c3,c4,c5]:=by
 match l,h with
 | [c0,c1,c2,c3,c4,c5],_=>exact ⟨c0,c1,c2,c3,c4,c5,rfl⟩
structure A6 where
 z0:Int
 z1:Int
 z2:Int
 z3:Int
 z4:Int
 z5:Int
 h0:0<=z0
 h1:0<=z1
 h2:0<=z2
 h3:0<=z3
 h4:0<=z4
 h5:0<=z5
def A6.pv (x:A6):PV:=.agg [.v (.int .u8 x.z0),.v (.int .u8 x.z1),.v (.int .u8 x.z2),.v (.int .u8 x.z3),.v (.int .u8 x.z4),.v (.int .u8 x.z5)]
theorem z4f {r:Reach} {b0:Nat} {v:Value} {d:DataW H} {p:List MemPlace} (hv:Value.okWide Tryz.prog w r b0 31 v) (h:DataW.Trod enc Tryz.prog w base spare held 31 v d p):∃ x:A6,RepP w (fun _=>True) x.pv v:=by
 simp only [Value.okWide,Tryz.underlying31] at hv;obtain ⟨cs,rfl,hsz,_⟩:=hv;obtain ⟨fuel,hf⟩:=h;obtain ⟨ys,n,_,_,hcl,hyl,hf⟩:=DataW.trod_array Tryz.underlying31 hf;rw [c_a6] at hcl;obtain ⟨c0,c1,c2,c3,c4,c5,hcs⟩:=ln6 hcl;obtain ⟨y0,y1,y2,y3,y4,y5,rfl⟩:=ln6 hyl;rw [hcs] at hf;have h0:=hf 0 (by decide)
 rw [zy5] at h0;obtain ⟨z0,e0,_,w0⟩:=DataW.trod_int Tryz.underlying5 h0;have h1:=hf 1 (by decide)
 rw [zy5] at h1;obtain ⟨z1,e1,_,w1⟩:=DataW.trod_int Tryz.underlying5 h1;have h2:=hf 2 (by decide)
 rw [zy5] at h2;obtain ⟨z2,e2,_,w2⟩:=DataW.trod_int Tryz.underlying5 h2;have h3:=hf 3 (by decide)
 rw [zy5] at h3;obtain ⟨z3,e3,_,w3⟩:=DataW.trod_int Tryz.underlying5 h3;have h4:=hf 4 (by decide)
 rw [zy5] at h4;obtain ⟨z4,e4,_,w4⟩:=DataW.trod_int Tryz.underlying5 h4;have h5:=hf 5 (by decide)
 rw [zy5] at h5;obtain ⟨z5,e5,_,w5⟩:=DataW.trod_int Tryz.underlying5 h5;simp at e0 e1 e2 e3 e4 e5;subst e0 e1 e2 e3 e4 e5;refine ⟨⟨z0,z1,z2,z3,z4,z5,(zwc w0).1,(zwc w1).1,(zwc w2).1,(zwc w3).1,(zwc w4).1,(zwc w5).1⟩,?_⟩;have hc1:cs.toList=_:=hcs;rw [<-Array.toArray_toList (xs:=cs),hc1];refine .agg _ _ rfl fun j a v ha hv=>?_
 match j,ha,hv with
 | 0,ha,hv=>cases ha;cases hv;exact .v _
 | 1,ha,hv=>cases ha;cases hv;exact .v _
 | 2,ha,hv=>cases ha;cases hv;exact .v _
 | 3,ha,hv=>cases ha;cases hv;exact .v _
 | 4,ha,hv=>cases ha;cases hv;exact .v _
 | 5,ha,hv=>cases ha;cases hv;exact .v _
 | j + 6,ha,hv=>simp at hv
theorem c_a5:Tryz.prog.cellsOf 32=5:=by kernel_rfl
theorem ln5 {α:Type} {l:List α} (h:l.length=5):∃ c0 c1 c2 c3 c4,l=[c0,c1,c2,c3,c4]:=by
 match l,h with
 | [c0,c1,c2,c3,c4],_=>exact ⟨c0,c1,c2,c3,c4,rfl⟩
structure A5 where
 z0:Int
 z1:Int
 z2:Int
 z3:Int
 z4:Int
 h0:0<=z0
 h1:0<=z1
 h2:0<=z2
 h3:0<=z3
 h4:0<=z4
def A5.pv (x:A5):PV:=.agg [.v (.int .u8 x.z0),.v (.int .u8 x.z1),.v (.int .u8 x.z2),.v (.int .u8 x.z3),.v (.int .u8 x.z4)]
theorem z4g {r:Reach} {b0:Nat} {v:Value} {d:DataW H} {p:List MemPlace} (hv:Value.okWide Tryz.prog w r b0 32 v) (h:DataW.Trod enc Tryz.prog w base spare held 32 v d p):∃ x:A5,RepP w (fun _=>True) x.pv v:=by
 simp only [Value.okWide,Tryz.underlying32] at hv;obtain ⟨cs,rfl,hsz,_⟩:=hv;obtain ⟨fuel,hf⟩:=h;obtain ⟨ys,n,_,_,hcl,hyl,hf⟩:=DataW.trod_array Tryz.underlying32 hf;rw [c_a5] at hcl;obtain ⟨c0,c1,c2,c3,c4,hcs⟩:=ln5 hcl;obtain ⟨y0,y1,y2,y3,y4,rfl⟩:=ln5 hyl;rw [hcs] at hf;have h0:=hf 0 (by decide)
 rw [zy5] at h0;obtain ⟨z0,e0,_,w0⟩:=DataW.trod_int Tryz.underlying5 h0;have h1:=hf 1 (by decide)
 rw [zy5] at h1;obtain ⟨z1,e1,_,w1⟩:=DataW.trod_int Tryz.underlying5 h1;have h2:=hf 2 (by decide)
 rw [zy5] at h2;obtain ⟨z2,e2,_,w2⟩:=DataW.trod_int Tryz.underlying5 h2;have h3:=hf 3 (by decide)
 rw [zy5] at h3;obtain ⟨z3,e3,_,w3⟩:=DataW.trod_int Tryz.underlying5 h3;have h4:=hf 4 (by decide)
 rw [zy5] at h4;obtain ⟨z4,e4,_,w4⟩:=DataW.trod_int Tryz.underlying5 h4;simp at e0 e1 e2 e3 e4;subst e0 e1 e2 e3 e4;refine ⟨⟨z0,z1,z2,z3,z4,(zwc w0).1,(zwc w1).1,(zwc w2).1,(zwc w3).1,(zwc w4).1⟩,?_⟩;have hc1:cs.toList=_:=hcs;rw [<-Array.toArray_toList (xs:=cs),hc1];refine .agg _ _ rfl fun j a v ha hv=>?_
 match j,ha,hv with
 | 0,ha,hv=>cases ha;cases hv;exact .v _
 | 1,ha,hv=>cases ha;cases hv;exact .v _
 | 2,ha,hv=>cases ha;cases hv;exact .v _
 | 3,ha,hv=>cases ha;cases hv;exact .v _
 | 4,ha,hv=>cases ha;cases hv;exact .v _
 | j + 5,ha,hv=>simp at hv
end
theorem zib (x:A6) (y:A5) (m:Int):RL 4 [x.pv,y.pv,.v (.int .u8 m)] (pB true):=by
 refine zew zaa zbu (f:=4) Tryz.func4 rfl (by kernel_rfl) (oT (by kernel_rfl)) ?_
 refine z5u (fN:=fun i=>[x.z0,x.z1,x.z2,x.z3,x.z4,x.z5].getD i 0) (O:=fun i=>([y.z0,y.z1,y.z2,y.z3,y.z4].getD i 0).tmod 3 |>.toNat) (fun i hi=>?_) (fun i hi=>?_)
 ·rcases (show i=0\/i=1\/i=2\/i=3\/i=4\/i=5 by omega) with rfl|rfl|rfl|rfl|rfl|rfl
  ·exact ⟨_,rfl,rfl,x.h0⟩
  ·exact ⟨_,rfl,rfl,x.h1⟩
  ·exact ⟨_,rfl,rfl,x.h2⟩
  ·exact ⟨_,rfl,rfl,x.h3⟩
  ·exact ⟨_,rfl,rfl,x.h4⟩
  ·exact ⟨_,rfl,rfl,x.h5⟩
 ·have key:∀ z:Int,0<=z->z.tmod 3=(((z.tmod 3).toNat:Nat):Int)/\(z.tmod 3).toNat<=2:=fun z hz=>by
   have h1:=Int.tmod_nonneg 3 hz;have h2:=Int.tmod_lt_of_pos z (show (0:Int) < 3 by decide)
   omega
  rcases (show i=0\/i=1\/i=2\/i=3\/i=4 by omega) with rfl|rfl|rfl|rfl|rfl
  ·exact ⟨_,rfl,key _ y.h0⟩
  ·exact ⟨_,rfl,key _ y.h1⟩
  ·exact ⟨_,rfl,key _ y.h2⟩
  ·exact ⟨_,rfl,key _ y.h3⟩
  ·exact ⟨_,rfl,key _ y.h4⟩
end Go.Proofs.YtcfecmeocimclaaGreatDoor
