/- Own work: a tree that comes in as an argument is read out of memory. -/
import Derived.Test.YtcfecmeocimclaaGreatDoorYQA0
import Derived.Test.YtcfecmeocimclaaGreatDoorYQPYD
import Derived.Test.YtcfecmeocimclaaGreatDoorYQQFrame
import Derived.ChangeMaps5
import Derived.Deep.Slices
namespace Go.Proofs.YtcfecmeocimclaaGreatDoor
set_option linter.unusedSectionVars false
open Go.ChangeShapes Go.WideShapes Go.ChangeAt Go.RowKit Go.Deep Go.ChangeMaps
set_option linter.unusedVariables false
set_option linter.unusedSimpArgs false
set_option maxRecDepth 100000
def SlAt {α:Type} (w:World) (A:Option Addr) (s:Nat) (cells:α->List Value) (xs:List α):Prop :=
 ∀ i x,xs[i]?=some x->∃ b o,A=some ⟨b,o,none⟩/\∀ j v,(cells x)[j]?=some v->w.cell? ⟨b,o + (i * s + j),none⟩=some v
theorem z4j {α:Type} {n:Nat} {Q:Nat->α->Prop} (h:∀ i,i < n->∃ x,Q i x):∃ xs:List α,xs.length=n/\∀ i x,xs[i]?=some x->Q i x:=by
 induction n with
 | zero=>exact ⟨[],rfl,fun i x hx=>by simp at hx⟩
 | succ n ih =>
  obtain ⟨xs,hl,hx⟩:=ih fun i hi=>h i (by omega)
  obtain ⟨y,hy⟩:=h n (by omega)
  refine ⟨xs++[y],by simp [hl],fun i x hi=>?_⟩
  by_cases hlt:i < xs.length
  ·rw [List.getElem?_append_left hlt] at hi;exact hx i x hi
  ·rw [List.getElem?_append_right (by omega)] at hi
   have:i - xs.length=0:=by
    rcases Nat.eq_zero_or_pos (i - xs.length) with h0|h0
    ·exact h0
    ·rw [List.getElem?_eq_none (by simp;omega)] at hi;cases hi
   rw [this] at hi;obtain rfl:y=x:=by simpa using hi
   obtain rfl:i=n:=by omega
   exact hy
theorem znw {w:World} {a:Addr} {v:Value} (h:w.cell? a=some v):a.spot=none:=by
 obtain ⟨b,o,sp⟩:=a
 cases sp with
 | none=>rfl
 | some x =>
  unfold World.cell? at h
  split at h <;> simp at h
section
variable {H:Type} {enc:TypeId × Value->H} {w:World} {base:Nat} {spare:Nat->Bool} {held:Bool}
theorem zxj {α:Type} {t e:TypeId} {s:Nat} {cells:α->List Value} {Q:α->Prop} {fuel:Nat} {cs:List Value} {x:DataW H × List MemPlace} (ht:Tryz.prog.underlying t=some (.slice e)) (hs:Tryz.prog.cellsOf e=s) (hs0:0 < s)
  (hlen:∀ a,(cells a).length=s)
  (hel:∀ n cs x,n < fuel->DataW.trod enc Tryz.prog w base spare held n e cs=some x->∃ a,cs=cells a/\Q a) (h:DataW.trod enc Tryz.prog w base spare held fuel t cs=some x) :
  ∃ (A:Option Addr) (xs:List α) (c:Nat),cs=[.slice A xs.length c]/\SlAt w A s cells xs/\(∀ a ∈ xs,Q a)/\xs.length<=c:=by
 rcases DataW.trod_slice ht h with ⟨rfl,_⟩|⟨a,len,cap,elems,rest,n,hf,rfl,_,_,hl,hm,hlen',hi,_,_⟩
 ·exact ⟨none,[],0,rfl,fun _ _ h=>by simp at h,fun _ h=>by simp at h,nR _⟩
 obtain ⟨xs,hxl,hxs⟩:=z4j (n:=len) (Q:=fun i (y:α)=>Q y/\∀ j v,(cells y)[j]?=some v->w.cell? ((a.add (i * s)).add j)=some v) fun i hi'=>by
  have h1:=hi i hi';rw [List.getElem?_eq_getElem (by omega)] at h1
  obtain ⟨cs',hc,ht'⟩:=Option.bind_eq_some_iff.1 h1;rw [hs] at hc;obtain ⟨y,rfl,hq⟩:=hel _ _ _ (by omega) ht'
  obtain ⟨_,hcl,hat⟩:=World.cells?_some hc;exact ⟨y,hq,fun j v hv=>by rw [hat j (by rw [<-hcl];exact (List.getElem?_eq_some_iff.1 hv).1),hv]⟩
 refine ⟨some a,xs,cap,by rw [hxl],fun i y hy=>?_,fun y hy=>?_,by omega⟩
 ·have hlt:i < xs.length:=(List.getElem?_eq_some_iff.1 hy).1;have h0:xs[0]?=some xs[0]:=List.getElem?_eq_getElem (by omega)
  have hcs0:0 < (cells xs[0]).length:=by rw [hlen];exact hs0
  have hc0:=(hxs 0 _ h0).2 0 _ (List.getElem?_eq_getElem hcs0);have hsp:a.spot=none:=by
   have:=znw hc0
   simpa [Addr.add] using this
  obtain ⟨b,o,sp⟩:=a;simp only at hsp;subst hsp;refine ⟨b,o,rfl,fun j v hv=>?_⟩
  have:=(hxs i y hy).2 j v hv
  have e:((⟨b,o,none⟩:Addr).add (i * s)).add j=⟨b,o + (i * s + j),none⟩:=by
   unfold Addr.add
   by_cases h1:i * s=0 <;> by_cases h2:j=0 <;> simp [h1,h2,Nat.add_assoc]
  rw [e] at this;exact this
 ·obtain ⟨i,hi'⟩:=List.getElem?_of_mem hy;exact (hxs i y hi').1
theorem z6i {α:Type} {s cap:Nat} {A:Option Addr} {cells:α->List Value} {pc:α->List PV} {xs:List α} (hs:∀ x,(pc x).length=s) (hl:∀ x,(cells x).length=s) (hpos:0 < s) (hcap:xs.length<=cap) (h:SlAt w A s cells xs)
  (hr:∀ x ∈ xs,∀ (j:Nat) (a:PV) (v:Value),(pc x)[j]?=some a->(cells x)[j]?=some v->RepP w (fun _=>True) a v/\v.oneCell'=true):RepP w (fun _=>True) (.ro s (xs.map pc)) (.slice A xs.length cap):=by
 cases hx:xs with
 | nil=>exact .ro0 _ _ _
 | cons x0 xs0 =>
  rw [<-hx];obtain ⟨b,o,hA,hc0⟩:=h 0 x0 (by rw [hx];rfl)
  have hat:∀ (i:Nat) (x:α),xs[i]?=some x->∀ (j:Nat) (v:Value),(cells x)[j]?=some v->w.cell? ⟨b,o + (i * s + j),none⟩=some v:=fun i x hi j v hv=>by
   obtain ⟨b',o',hA',hc⟩:=h i x hi;rw [hA] at hA'
   cases hA'
   exact hc j v hv
  obtain ⟨v0,hv0⟩:∃ v,(cells x0)[0]?=some v:=⟨_,List.getElem?_eq_getElem (by rw [hl];exact hpos)⟩
  have hb:b < w.heap.size:=block_lt_of_cell (hat 0 x0 (by rw [hx];rfl) 0 v0 hv0)
  obtain ⟨vs,hvs⟩:∃ vs:Nat->Nat->Value,∀ i j x v,xs[i]?=some x->(cells x)[j]?=some v->vs i j=v:=⟨fun i j=>((((xs[i]?).map cells).getD [])[j]?).getD undef,fun i j x v h1 h2=>by simp [h1,h2]⟩
  have key:∀ (i j:Nat) (row:List PV) (a:PV),(xs.map pc)[i]?=some row->row[j]?=some a->∃ x v,xs[i]?=some x/\(cells x)[j]?=some v/\(pc x)[j]?=some a:=fun i j row a h1 h2=>by
   rw [List.getElem?_map] at h1
   cases hi:xs[i]? with
   | none=>rw [hi] at h1;cases h1
   | some x =>
    rw [hi] at h1;cases h1
    have hj:=(List.getElem?_eq_some_iff.1 h2).1;rw [hs] at hj;exact ⟨x,_,rfl,List.getElem?_eq_getElem (by rw [hl];exact hj),h2⟩
  have:=RepP.ro (w:=w) (R:=fun _=>True) s (xs.map pc) b o cap vs trivial hb (by simpa using hcap) (fun i row h1=>by
   rw [List.getElem?_map] at h1
   cases hi:xs[i]? with
   | none=>rw [hi] at h1;cases h1
   | some x=>rw [hi] at h1;cases h1;exact hs x) (fun i j row a h1 h2=>by
   obtain ⟨x,v,hx,hv,ha⟩:=key i j row a h1 h2;rw [hvs i j x v hx hv];exact ⟨hat i x hx j v hv,(hr x (List.mem_of_getElem? hx) j a v ha hv).2⟩) (fun i j row a h1 h2=>by
   obtain ⟨x,v,hx,hv,ha⟩:=key i j row a h1 h2;rw [hvs i j x v hx hv];exact (hr x (List.mem_of_getElem? hx) j a v ha hv).1)
  rw [hA];simpa using this
abbrev NC:Type:={a:PT × List Value // a.2.length=5}
def NcQ (w:World) (a:NC):Prop:=∀ (j:Nat) (p:PV) (v:Value),(zi6 a.1.1)[j]?=some p->a.1.2[j]?=some v->RepP w (fun _=>True) p v/\v.oneCell'=true
theorem zt6 (x:PT):(zi6 x).length=5:=by
 cases x
 rw [zi6];rfl
theorem zqz:∀ l:List PT,zge l=l.map zi6
 | []=>by rw [zge];rfl
 | x :: l=>by rw [zge,zqz l];rfl
theorem z8h:Tryz.prog.cellsOf 3=1:=by kernel_rfl
theorem z5c:Tryz.prog.cellsOf 2=1:=by kernel_rfl
theorem c_str:Tryz.prog.cellsOf 9=1:=by kernel_rfl
theorem c_sl:Tryz.prog.cellsOf 25=1:=by kernel_rfl
theorem z3e:Tryz.prog.cellsOf 27=5:=by kernel_rfl
theorem len5 {α:Type} {l:List α} (h:l.length=5):∃ a b c d e,l=[a,b,c,d,e]:=by
 match l,h with
 | [a,b,c,d,e],_=>exact ⟨a,b,c,d,e,rfl⟩
theorem zqy:∀ (m fuel:Nat) (cs:List Value) (x:DataW H × List MemPlace),fuel < m->DataW.trod enc Tryz.prog w base spare held fuel 27 cs=some x->∃ a:NC,cs=a.1.2/\NcQ w a
 | 0,_,_,_,h,_=>by omega
 | m + 1,fuel,cs,x,hm,h=>by
  obtain ⟨ys,n,hfu,_,hcl,hyl,hf⟩:=DataW.trod_struct Tryz.underlying27 h;rw [z3e] at hcl;obtain ⟨c0,c1,c2,c3,c4,rfl⟩:=len5 hcl;obtain ⟨y0,y1,y2,y3,y4,rfl⟩:=len5 (show ys.length=5 from hyl);have h0:DataW.trod enc Tryz.prog w base spare held n 3 (([c0,c1,c2,c3,c4].drop 0).take (Tryz.prog.cellsOf 3))=some y0:=hf 0 _ rfl;rw [z8h] at h0;have h1:DataW.trod enc Tryz.prog w base spare held n 9 (([c0,c1,c2,c3,c4].drop 1).take (Tryz.prog.cellsOf 9))=some y1:=hf 1 _ rfl;rw [c_str] at h1;have h2:DataW.trod enc Tryz.prog w base spare held n 2 (([c0,c1,c2,c3,c4].drop 2).take (Tryz.prog.cellsOf 2))=some y2:=hf 2 _ rfl;rw [z5c] at h2;have h3:DataW.trod enc Tryz.prog w base spare held n 3 (([c0,c1,c2,c3,c4].drop 3).take (Tryz.prog.cellsOf 3))=some y3:=hf 3 _ rfl;rw [z8h] at h3;have h4:DataW.trod enc Tryz.prog w base spare held n 25 (([c0,c1,c2,c3,c4].drop 4).take (Tryz.prog.cellsOf 25))=some y4:=hf 4 _ rfl;rw [c_sl] at h4;obtain ⟨k,e0,_,_⟩:=DataW.trod_int Tryz.underlying3 h0;obtain ⟨nm,e1,_,_⟩:=DataW.trod_string Tryz.underlying9 h1;obtain ⟨i,e2,_,_⟩:=DataW.trod_int Tryz.underlying2 h2;obtain ⟨o,e3,_,_⟩:=DataW.trod_int Tryz.underlying3 h3;obtain ⟨A,xs,c,e4,hA,hq,hlc⟩:=zxj (cells:=fun a:NC=>a.1.2) (Q:=NcQ w) Tryz.underlying25 z3e (by decide) (fun a=>a.2) (fun n' cs' x' hn' h'=>zqy m n' cs' x' (by omega) h') h4
  simp at e0 e1 e2 e3 e4;subst e0 e1 e2 e3 e4;have hK:RepP w (fun _=>True) (.ro 5 (zge (xs.map fun a=>a.1.1))) (.slice A xs.length c):=by
   rw [zqz,List.map_map];exact z6i (pc:=fun a:NC=>zi6 a.1.1) (cells:=fun a:NC=>a.1.2) (fun a=>zt6 _) (fun a=>a.2) (by decide) hlc hA fun a ha j p v hp hv=>hq a ha j p v hp hv
  refine ⟨⟨(.mk k nm.data.toList i o (xs.map fun a=>a.1.1),_),rfl⟩,rfl,fun j p v hp hv=>?_⟩
  have hb:bL nm.data.toList=nm:=by unfold bL;rfl
  rw [show zi6 (.mk k nm.data.toList i o (xs.map fun a=>a.1.1))=[pI k,pS nm,pI i,pI o,.ro 5 (zge (xs.map fun a=>a.1.1))] by rw [zi6,hb]] at hp
  match j,hp,hv with
  | 0,hp,hv=>cases hp;cases hv;exact ⟨.v _,rfl⟩
  | 1,hp,hv=>cases hp;cases hv;exact ⟨.v _,rfl⟩
  | 2,hp,hv=>cases hp;cases hv;exact ⟨.v _,rfl⟩
  | 3,hp,hv=>cases hp;cases hv;exact ⟨.v _,rfl⟩
  | 4,hp,hv=>cases hp;cases hv;exact ⟨hK,rfl⟩
  | j + 5,hp,hv=>simp at hp
theorem zq5 {r:Reach} {b0:Nat} {v:Value} {d:DataW H} {p:List MemPlace} (hv:Value.okWide Tryz.prog w r b0 27 v) (h:DataW.Trod enc Tryz.prog w base spare held 27 v d p) :
  ∃ x:PT,RepP w (fun _=>True) (.agg (zi6 x)) v:=by
 obtain ⟨cs,rfl,hsz⟩:=okWide_struct Tryz.underlying27 hv;obtain ⟨fuel,hf⟩:=h;obtain ⟨⟨⟨x,l⟩,hl⟩,e,hq⟩:=zqy (fuel + 1) fuel _ _ (nLS _) hf;simp only at e;have e':cs.toList=l:=e;refine ⟨x,?_⟩;rw [<-Array.toArray_toList (xs:=cs),e'];exact .agg _ _ (by rw [zt6];exact hl.symm) fun j a v ha hv=>(hq j a v ha hv).1
end
end Go.Proofs.YtcfecmeocimclaaGreatDoor
