/- Own work: a rule for a region that draws its order and whose operations only add memory,but for a tail whose order is forced: one obligation for each operation,whatever the order. Each operation has a predicate on its own value,kept by growth. -/
import Derived.Test.YtcfecmeocimclaaGreatDoorYAA0
import Derived.Orders
import Derived.Tactics
import Derived.Below
import Derived.Maps.AppendAt
import Derived.WalkKit
import Derived.OwnWalk
import Derived.Laws.Cover4
import Derived.Laws.IdiomStrings
import Derived.Lib.ConvBytes
import Derived.Laws.NewBlocks
import Derived.Lib.AppendStr
import Derived.Laws.MakeOwn
namespace Go.Proofs.YtcfecmeocimclaaGreatDoor
set_option linter.unusedSectionVars false
open Go.RowKit
section
variable {P:Program} {ops:Array Oper} {Q:Exit->Act->World->Prop}
def Gr (w w':World):Prop:=Below w.heap.size w w'
theorem Gr.refl (w:World):Gr w w:=Below.refl _ _
theorem Gr.trans {a b c:World} (h:Gr a b) (k:Gr b c):Gr a c:=Below.trans h (Below.mono k h.size)
def zbi (P:Program) (R:Value->World->Prop):Result Next->Prop
 | .ok (.value v) w'=>R v w'
 | .ok .skip w'=>R undef w'
 | .ok (.enter f args) w'=>Calls P f args w' fun e w''=>∃ v,e=.returned v/\R v w''
 | _=>False
theorem zj5 {o:Oper} {a:Act} {w:World} {R:Value->World->Prop} {K:Act->World->Prop}
  (h:zbi P R ((execOp a.eval o).run P w)) (hK:∀ v w',R v w'->K (a.put o.dst v) w'):o.wp P a w K Q:=by
 unfold Oper.wp;generalize (execOp a.eval o).run P w=r at *
 cases r with
 | ok n w' =>
  cases n <;> simp only [zbi] at h <;> simp only [Oper.upon]
  case value v=>exact hK _ _ h
  case skip=>exact hK _ _ h
  case enter f args=>exact h.mono fun e w'' ⟨v,he,hr⟩=>by subst he;exact hK _ _ hr
 | halt x w'=>simp only [zbi] at h
def zau (ops:Array Oper) (i:Nat):List Nat:=match ops[i]? with
 | some o=>(o.after.toList.filter fun e=>Region.binds .any e).map (·.on)
 | none=>[]
def z8d (ops:Array Oper) (S:List Nat):List Nat:=(S++S.flatMap (zau ops)).eraseDups
def zfy (ops:Array Oper):Nat->List Nat->List Nat
 | 0,S=>S
 | n + 1,S=>zfy ops n (z8d ops S)
def rgB (ops:Array Oper) (k r:Nat):Bool :=
 ((List.range ops.size).all fun i=>(zau ops i).all fun d=>decide (d < i)) &&
 ((List.range ops.size).all fun j=>decide (j < k) || (List.range j).all fun i=>(zfy ops r (zau ops j)).contains i) &&
 ((List.range ops.size).all fun i=>(List.range ops.size).all fun j=>decide (i=j) || ((ops[i]?).bind (·.dst)).isNone || (ops[i]?).bind (·.dst) != (ops[j]?).bind (·.dst))
def z6u (ops:Array Oper) (i d:Nat) (t:Tmp):Bool:=(zau ops i).contains d && ((ops[d]?).bind (·.dst)) == some t
def z2o (ops:Array Oper) (t:Tmp):Bool:=ops.all fun o=>o.dst != some t
def zdi (ops:Array Oper) (ρ:Operand->Value) (j:Nat):Option Bool:=match (ops[j]?).bind (·.dst) with
 | some t=>(match ρ (.tmp t) with|.bool b=>some b|_=>none)
 | none=>none
theorem zdc (a:Act):yielded ops a.tmps=zdi ops a.eval:=by
 funext j
 unfold yielded zdi
 cases h:(ops[j]?).bind (·.dst) with
 | none=>rfl
 | some t =>
  simp only [Option.bind_some,Act.eval]
  cases ht:a.tmps[t]? with
  | none=>simp [ht,undef]
  | some v=>simp [ht];cases v <;> rfl
def zzn (P:Program) (ops:Array Oper) (C:World->Prop) (V:Nat->Value->World->Prop) (a0:Act) (i:Nat):Prop :=
 ∀ (o:Oper),ops[i]?=some o->∀ (ρ:Operand->Value) (w:World),C w->(∀ c,ρ (.const c)=c)->(∀ f,ρ (.func f)=.func (.func f) #[] #[])->(∀ g,ρ (.global g)=.pointer (some ⟨g,0,none⟩)) →
  (∀ (d:Nat) (t:Tmp),z6u ops i d t=true->V d (ρ (.tmp t)) w)->(∀ (t:Tmp),z2o ops t=true->ρ (.tmp t)=a0.eval (.tmp t)) →
  if Region.wanted o (zdi ops ρ) then zbi P (fun v w'=>C w'/\Gr w w'/\V i v w') ((execOp ρ o).run P w) else V i undef w
structure RgInv (ops:Array Oper) (C:World->Prop) (V:Nat->Value->World->Prop) (a0:Act) (listed:Array Bool) (a:Act) (w:World):Prop where
 cls:C w
 defers:a.defers=a0.defers
 size:a.tmps.size=a0.tmps.size
 lsize:listed.size=ops.size
 vals:∀ (i:Nat) (o:Oper) (t:Tmp),ops[i]?=some o->listed.getD i false=true->o.dst=some t->V i (a.eval (.tmp t)) w
 rest:∀ (t:Tmp),(∀ (i:Nat) (o:Oper),ops[i]?=some o->listed.getD i false=true->o.dst ≠ some t)->a.tmps[t]?=a0.tmps[t]?
 closed:∀ i,listed.getD i false=true->∀ d ∈ zau ops i,listed.getD d false=true
theorem zbq {listed:Array Bool} {i:Nat} (h:i ∈ Region.ready .any ops listed):∀ d ∈ zau ops i,listed.getD d false=true:=by
 obtain ⟨_,o,ho,hall⟩:=mem_ready.1 h;intro d hd;simp only [zau,ho,List.mem_map,List.mem_filter] at hd;obtain ⟨e,⟨he,hb⟩,rfl⟩:=hd;exact hall e (by simpa using he) hb
theorem zbp {listed:Array Bool} {i:Nat} (h:listed.getD i true=false):listed.getD i false=false/\i < listed.size:=by
 rcases Nat.lt_or_ge i listed.size with h'|h'
 ·exact ⟨by simpa [h'] using h,h'⟩
 ·simp [Array.getElem?_eq_none h'] at h
theorem za9 {listed:Array Bool} {i:Nat} (h:i < listed.size):(listed.setIfInBounds i true).getD i false=true:=by simp [h]
theorem zc2 {listed:Array Bool} (hc:∀ i,listed.getD i false=true->∀ d ∈ zau ops i,listed.getD d false=true) :
  ∀ (r:Nat) (S:List Nat),(∀ d ∈ S,listed.getD d false=true)->∀ d ∈ zfy ops r S,listed.getD d false=true
 | 0,_,h=>h
 | r + 1,S,h=>zc2 hc r _ fun d hd=>by
  unfold z8d at hd;rw [List.mem_eraseDups,List.mem_append,List.mem_flatMap] at hd
  rcases hd with hd|⟨j,hj,hd⟩
  ·exact h d hd
  ·exact hc j (h j hj) d hd
theorem RgInv.put {C:World->Prop} {V:Nat->Value->World->Prop} {a0:Act} {listed:Array Bool} {a:Act} {w w':World} {i:Nat} {o:Oper} {v:Value}
  (h:RgInv ops C V a0 listed a w) (ho:ops[i]?=some o) (hr:i ∈ Region.ready .any ops listed)
  (hd:∀ (j:Nat),i ≠ j->∀ (oj:Oper) (t:Tmp),ops[j]?=some oj->o.dst=some t->oj.dst ≠ some t) (hlt:∀ t,o.dst=some t->t < a0.tmps.size)
  (hst:∀ i v w w',C w->C w'->Gr w w'->V i v w->V i v w') (hC:C w') (hg:Gr w w') (hV:V i v w') :
  RgInv ops C V a0 (listed.setIfInBounds i true) (a.put o.dst v) w':=by
 have hdep:=zbq hr;obtain ⟨hun,_⟩:=mem_ready.1 hr;obtain ⟨hun0,hil⟩:=zbp hun;refine ⟨hC,?_,?_,by simpa using h.lsize,?_,?_,?_⟩
 ·cases ht:o.dst <;> simp only [Act.put] <;> exact h.defers
 ·cases ht:o.dst <;> simp [Act.put,h.size]
 ·intro j oj t hj hl hdst
  by_cases hij:i=j
  ·subst hij;obtain rfl:o=oj:=Option.some.inj (ho.symm.trans hj);have hlt':=hlt t hdst
   have:(a.put o.dst v).eval (.tmp t)=v:=by
    simp [Act.eval,Act.put,hdst,h.size,hlt']
   rw [this];exact hV
  ·rw [getD_set_ne false hij] at hl;have h1:=h.vals j oj t hj hl hdst
   have:(a.put o.dst v).eval (.tmp t)=a.eval (.tmp t):=Act.eval_put fun d hd' hx=>by
    injection hx with hx
    exact hd j hij oj d hj hd' (by rw [hdst,hx])
   rw [this];exact hst j _ w w' h.cls hC hg h1
 ·intro t ht;have h0:o.dst ≠ some t:=ht i o ho (za9 hil);have h1:a.tmps[t]?=a0.tmps[t]?:=h.rest t fun j oj hj hl=>ht j oj hj (getD_set_true hl)
  rw [<-h1]
  cases hdst:o.dst with
  | none=>rfl
  | some s =>
   have hne:s ≠ t:=fun e=>h0 (by rw [hdst,e])
   simp [Act.put,Array.getElem?_setIfInBounds_ne hne]
 ·intro j hl d hd'
  by_cases hij:i=j
  ·subst hij;exact getD_set_true (hdep d hd')
  ·rw [getD_set_ne false hij] at hl;exact getD_set_true (h.closed j hl d hd')
theorem zfo {listed:Array Bool} (hback:∀ i d,d ∈ zau ops i->d < i) (hls:listed.size=ops.size) :
  ∀ (n i:Nat),i<=n->i < ops.size->listed.getD i false=false->∃ j,j<=i/\j ∈ Region.ready .any ops listed:=by
 intro n
 induction n with
 | zero =>
  intro i hi hlt hun;obtain rfl:i=0:=by omega
  refine ⟨0,nR _,mem_ready.2 ⟨?_,ops[0],Array.getElem?_eq_getElem hlt,fun e he hb=>?_⟩⟩
  ·have:0 < listed.size:=by omega
   simp [this] at hun ⊢;exact hun
  ·exfalso
   have hm:e.on ∈ zau ops 0:=by
    simp only [zau,Array.getElem?_eq_getElem hlt,List.mem_map,List.mem_filter];exact ⟨e,⟨by simpa using he,hb⟩,rfl⟩
   have:=hback 0 e.on hm
   omega
 | succ n ih =>
  intro i hi hlt hun
  by_cases hall:∀ d ∈ zau ops i,listed.getD d false=true
  ·refine ⟨i,nR _,mem_ready.2 ⟨?_,ops[i],Array.getElem?_eq_getElem hlt,fun e he hb=>?_⟩⟩
   ·have:i < listed.size:=by omega
    simp [this] at hun ⊢;exact hun
   ·refine hall e.on ?_;simp only [zau,Array.getElem?_eq_getElem hlt,List.mem_map,List.mem_filter];exact ⟨e,⟨by simpa using he,hb⟩,rfl⟩
  ·obtain ⟨d,hd,hnd⟩:∃ d,d ∈ zau ops i/\¬ listed.getD d false=true:=by
    apply Classical.byContradiction;intro hno;exact hall fun d hd=>Classical.byContradiction fun hnd=>hno ⟨d,hd,hnd⟩
   have hlt':=hback i d hd;obtain ⟨j,hj,hr⟩:=ih d (by omega) (by omega) (by simpa using hnd)
   exact ⟨j,by omega,hr⟩
theorem zj6 (hback:∀ i d,d ∈ zau ops i->d < i) (r k:Nat) (htail:∀ j,k<=j->j < ops.size->∀ i,i < j->i ∈ zfy ops r (zau ops j)) :
  ∀ (m j:Nat) (listed:Array Bool) (a:Act) (w:World),k<=j->j + m=ops.size->listed.size=ops.size →
   (∀ i,i < j->listed.getD i false=true)->(∀ i,j<=i->i < ops.size->listed.getD i false=false) →
   (∀ i,listed.getD i false=true->∀ d ∈ zau ops i,listed.getD d false=true) →
   wpList P ops Q (ops.toList.drop j) a w->∀ fuel,m<=fuel->wpAny P .any ops Q fuel listed a w:=by
 intro m
 induction m with
 | zero =>
  intro j listed a w _ hjm hls hl _ _ h fuel _;have hd:ops.toList.drop j=[]:=List.drop_eq_nil_of_le (by simp;omega)
  rw [hd] at h;refine wpAny_done ?_ h fuel;rw [List.eq_nil_iff_forall_not_mem];intro i hi;obtain ⟨hun,o,ho,_⟩:=mem_ready.1 hi;have hlt:=(Array.getElem?_eq_some_iff.1 ho).1;have h1:=hl i (by omega)
  have h2:=(zbp hun).1;rw [h1] at h2
  cases h2
 | succ m ih =>
  intro j listed a w hkj hjm hls hl hu hc h fuel hf;have hjlt:j < ops.size:=by omega
  have hd:ops.toList.drop j=ops[j] :: ops.toList.drop (j + 1):=by
   rw [List.drop_eq_getElem_cons (by simpa using hjlt)];simp
  rw [hd] at h;have hready:∀ i,i ∈ Region.ready .any ops listed->i=j:=by
   intro i hi;obtain ⟨hun,o,ho,_⟩:=mem_ready.1 hi;have hlt:=(Array.getElem?_eq_some_iff.1 ho).1;have h2:=(zbp hun).1
   rcases Nat.lt_trichotomy i j with hij|hij|hij
   ·rw [hl i hij] at h2;cases h2
   ·exact hij
   ·have:=zc2 hc r _ (zbq hi) j (htail i (by omega) hlt j hij)
    rw [hu j (nR _) hjlt] at this
    cases this
  obtain ⟨fuel,rfl⟩:∃ f,fuel=f + 1:=⟨fuel - 1,by omega⟩
  refine ⟨fun h0=>?_,fun i hi=>?_⟩
  ·obtain ⟨i,_,hi⟩:=zfo hback hls j j (nR _) hjlt (hu j (nR _) hjlt);rw [h0] at hi
   cases hi
  ·obtain rfl:=hready i hi;have hnext:∀ a w,wpList P ops Q (ops.toList.drop (i + 1)) a w->wpAny P .any ops Q fuel (listed.setIfInBounds i true) a w:=fun a w hh=>by
    refine ih (i + 1) _ a w (by omega) (by omega) (by simpa using hls) (fun x hx=>?_) (fun x hx hx2=>?_) (fun x hx d hd'=>?_) hh fuel (by omega)
    ·by_cases hxi:i=x
     ·subst hxi;exact za9 (by omega)
     ·exact getD_set_true (hl x (by omega))
    ·rw [getD_set_ne false (by omega)];exact hu x (by omega) hx2
    ·by_cases hxi:i=x
     ·subst hxi;exact getD_set_true (zbq hi d hd')
     ·rw [getD_set_ne false hxi] at hx;exact getD_set_true (hc x hx d hd')
   have ho:ops[i]?=some ops[i]:=Array.getElem?_eq_getElem hjlt;unfold wpOp;simp only [ho];unfold wpList at h
   split
   ·rename_i hw;rw [if_pos hw] at h;exact h.imp (Oper.wp_mono hnext) id
   ·rename_i hw;rw [if_neg hw] at h;exact hnext _ _ h
def zeo (ops:Array Oper) (vs:Nat->Value):Nat->Act->Act
 | 0,a=>a
 | k + 1,a=>(zeo ops vs k a).put ((ops[k]?).bind (·.dst)) (vs k)
end
/- Own work: a rule for a region that draws its order,with a relation that is kept by each operation,whatever the order,but for a tail whose order is forced. -/
section
variable {P:Program} {ops:Array Oper} {Q:Exit->Act->World->Prop}
theorem zv9 (J:Array Bool->Act->World->Prop) (k r:Nat) (hB:rgB ops k r=true) (hk:k<=ops.size)
  (hstep:∀ (listed:Array Bool) (a:Act) (w:World) (i:Nat) (o:Oper),J listed a w->listed.size=ops.size->(∀ d ∈ zau ops i,listed.getD d false=true)->ops[i]?=some o->i < k->listed.getD i false=false →
   (if Region.wanted o (zdi ops a.eval) then zbi P (fun v w'=>J (listed.setIfInBounds i true) (a.put o.dst v) w') ((execOp a.eval o).run P w) else J (listed.setIfInBounds i true) (a.put o.dst undef) w))
  (hend:∀ (listed:Array Bool) (a:Act) (w:World),J listed a w->(∀ i,i < k->listed.getD i false=true)->wpList P ops Q (ops.toList.drop k) a w) :
  ∀ (m:Nat) (listed:Array Bool) (a:Act) (w:World),J listed a w->listed.size=ops.size->(∀ i,listed.getD i false=true->∀ d ∈ zau ops i,listed.getD d false=true)->(∀ i,k<=i->listed.getD i false=false) →
   ((List.range k).filter fun i=>!listed.getD i false).length=m->wpAny P .any ops Q (m + (ops.size - k)) listed a w:=by
 simp only [rgB,bAT,lAT,lMR,decide_eq_true_eq,Bool.or_eq_true,List.contains_iff_mem] at hB;obtain ⟨⟨hB1,hB2⟩,hB3⟩:=hB;have hback:∀ i d,d ∈ zau ops i->d < i:=fun i d hd=>by
  rcases Nat.lt_or_ge i ops.size with h|h
  ·exact hB1 i h d hd
  ·simp [zau,Array.getElem?_eq_none h] at hd
 have htail:∀ j,k<=j->j < ops.size->∀ i,i < j->i ∈ zfy ops r (zau ops j):=fun j hkj hj i hi=>by
  rcases hB2 j hj with h|h
  ·omega
  ·exact h i hi
 intro m
 induction m with
 | zero =>
  intro listed a w hJ hls hcl hu hm;have hall:∀ i,i < k->listed.getD i false=true:=fun i hi=>by
   have h0:=List.eq_nil_of_length_eq_zero hm
   have:=List.eq_nil_iff_forall_not_mem.1 h0 i
   simp only [List.mem_filter,lMR,not_and,Bool.not_eq_true',Bool.not_eq_false] at this;exact this hi
  exact zj6 hback r k htail (ops.size - k) k listed a w (nR _) (by omega) hls hall (fun i h1 _=>hu i h1) hcl (hend listed a w hJ hall) _ (by omega)
 | succ m ih =>
  intro listed a w hJ hls hcl hu hm;obtain ⟨i0,hi0,hun0⟩:∃ i,i < k/\listed.getD i false=false:=by
   cases hf:(List.range k).filter fun i=>!listed.getD i false with
   | nil=>rw [hf] at hm;simp at hm
   | cons x xs =>
    have hx:x ∈ (List.range k).filter fun i=>!listed.getD i false:=by rw [hf];simp
    simp only [List.mem_filter,lMR,Bool.not_eq_true'] at hx;exact ⟨x,hx.1,hx.2⟩
  have hfu:m + 1 + (ops.size - k)=(m + (ops.size - k)) + 1:=by omega
  rw [hfu];refine ⟨fun h0=>?_,fun i hi=>?_⟩
  ·obtain ⟨i,_,hi⟩:=zfo hback hls i0 i0 (nR _) (by omega) hun0
   rw [h0] at hi
   cases hi
  ·obtain ⟨hun,o,ho,_⟩:=mem_ready.1 hi;have hilt:=(Array.getElem?_eq_some_iff.1 ho).1;obtain ⟨hunf,hil⟩:=zbp hun;have hik:i < k:=by
    rcases Nat.lt_or_ge i k with h|h
    ·exact h
    ·have:=zc2 hcl r _ (zbq hi) i0 (htail i h hilt i0 (by omega))
     rw [hun0] at this
     cases this
   have hs:=hstep listed a w i o hJ hls (zbq hi) ho hik hunf;have hcount:((List.range k).filter fun x=>!(listed.setIfInBounds i true).getD x false).length=m:=by
    have h1:((List.range k).filter fun x=>!(listed.setIfInBounds i true).getD x false)=((List.range k).filter fun x=>!listed.getD x false).erase i:=by
     have hnd:((List.range k).filter fun x=>!listed.getD x false).Nodup:=List.Pairwise.filter _ List.nodup_range
     rw [List.Nodup.erase_eq_filter hnd,List.filter_filter];refine List.filter_congr fun x _=>?_
     by_cases hxi:i=x
     ·subst hxi;rw [za9 hil];simp
     ·rw [getD_set_ne false hxi]
      have:(x != i)=true:=by simp;omega
      rw [this,Bool.true_and]
    rw [h1,List.length_erase_of_mem]
    ·omega
    ·simp only [List.mem_filter,lMR,Bool.not_eq_true'];exact ⟨hik,hunf⟩
   have hu':∀ x,k<=x->(listed.setIfInBounds i true).getD x false=false:=fun x hx=>by
    rw [getD_set_ne false (by omega)];exact hu x hx
   have hcl':∀ x,(listed.setIfInBounds i true).getD x false=true->∀ d ∈ zau ops x,(listed.setIfInBounds i true).getD d false=true:=fun x hx d hd=>by
    by_cases hxi:i=x
    ·subst hxi;exact getD_set_true (zbq hi d hd)
    ·rw [getD_set_ne false hxi] at hx;exact getD_set_true (hcl x hx d hd)
   unfold wpOp;simp only [ho];rw [zdc]
   split
   ·rename_i hw;rw [if_pos hw] at hs;exact .inl (zj5 hs fun v w' hv=>ih _ _ _ hv (by simpa using hls) hcl' hu' hcount)
   ·rename_i hw;rw [if_neg hw] at hs;exact ih _ _ _ hs (by simpa using hls) hcl' hu' hcount
theorem zi1 {id:Nat} {l:List Oper} {a:Act} {w:World} (k r:Nat) (J:Array Bool->Act->World->Prop)
  (hm:P.follows .mixedOrders=true) (hB:rgB l.toArray k r=true) (hk:k<=l.length) (h0:J (Array.replicate l.length false) a w.drew)
  (hstep:∀ (listed:Array Bool) (a:Act) (w:World) (i:Nat) (o:Oper),J listed a w->listed.size=l.length->(∀ d ∈ zau l.toArray i,listed.getD d false=true)->l[i]?=some o->i < k->listed.getD i false=false →
   (if Region.wanted o (zdi l.toArray a.eval) then zbi P (fun v w'=>J (listed.setIfInBounds i true) (a.put o.dst v) w') ((execOp a.eval o).run P w) else J (listed.setIfInBounds i true) (a.put o.dst undef) w))
  (hend:∀ (listed:Array Bool) (a:Act) (w:World),J listed a w->(∀ i,i < k->listed.getD i false=true)->wpList P l.toArray Q (l.drop k) a w) :
  (Code.region id l.toArray true).wp P Q a w:=by
 refine wp_region_any hm ?_;have hnot:∀ n i,(Array.replicate n false).getD i false=false:=fun n i=>by
  by_cases h:i < n <;> simp [h]
 have hsz:l.toArray.size=k + (l.toArray.size - k):=by simp;omega
 have hsz2:l.toArray.size=l.length:=by simp
 have hall:=zv9 (P:=P) (ops:=l.toArray) (Q:=Q) J k r hB (by simpa using hk) (fun listed a w i o hJ hls hd ho hik hun=>hstep listed a w i o hJ (by simpa using hls) hd (by simpa using ho) hik hun) (fun listed a w hJ hl=>by simpa using hend listed a w hJ hl)
  k (Array.replicate l.length false) a w.drew h0 (by simp) (fun i h=>by rw [hnot] at h;cases h) (fun i _=>hnot _ i) (by
   have:((List.range k).filter fun i=>!(Array.replicate l.length false).getD i false)=List.range k:=by
    rw [List.filter_eq_self];intro i _;rw [hnot];rfl
   rw [this];simp)
 rw [hsz2] at hsz ⊢;rw [hsz2] at hall;rw [<-hsz] at hall;exact hall
end
/- Own work: what a value in memory reads as,without addresses (PV: data that is only read;AV: a value in a walk,with blocks of the walk's own),and that this lasts. -/
inductive PV where
 | v (x:Value)
 | e0
 | ro (s:Nat) (rows:List (List PV))
 | rop (row:List PV)
 | agg (cs:List PV)
 | tup (cs:List PV)
 | pan (ch:List PanicEntry)
 | err
inductive AV where
 | p (x:PV)
 | own (k j:Nat)
 | orw (k i j:Nat)
 | osl (k i n:Nat)
 | agg (cs:List AV)
 | tup (cs:List AV)
 | clo (f:FuncId) (fs cs:List AV)
 | junk
inductive ABlk where
 | box (cs:List AV) (t:TypeId) (g:Option Nat)
 | rows (s:Nat) (rs:List (List PV)) (t:TypeId)
 | iter (s:ByteArray) (pos:Nat)
abbrev AH:=List (Option ABlk)
abbrev Pl:=List (Option Nat × Nat × Nat)
inductive RepP (w:World) (R:Nat->Prop):PV->Value->Prop
 | v (x:Value):RepP w R (.v x) x
 | e0 (A:Option Addr):RepP w R .e0 (.slice A 0 0)
 | ro0 (s:Nat) (A:Option Addr) (cap:Nat):RepP w R (.ro s []) (.slice A 0 cap)
 | ro (s:Nat) (rows:List (List PV)) (b o cap:Nat) (vs:Nat->Nat->Value) (hR:R b) (hb:b < w.heap.size) (hcap:rows.length<=cap)
   (hs:∀ (i:Nat) (row:List PV),rows[i]?=some row->row.length=s)
   (hc:∀ (i j:Nat) (row:List PV) (a:PV),rows[i]?=some row->row[j]?=some a->w.cell? ⟨b,o + (i * s + j),none⟩=some (vs i j)/\(vs i j).oneCell'=true)
   (hr:∀ (i j:Nat) (row:List PV) (a:PV),rows[i]?=some row->row[j]?=some a->RepP w R a (vs i j)) :
   RepP w R (.ro s rows) (.slice (some ⟨b,o,none⟩) rows.length cap)
 | rop (row:List PV) (b o:Nat) (vs:Nat->Value) (hR:R b) (hb:b < w.heap.size)
   (hc:∀ (j:Nat) (a:PV),row[j]?=some a->w.cell? ⟨b,o + j,none⟩=some (vs j)/\(vs j).oneCell'=true)
   (hr:∀ (j:Nat) (a:PV),row[j]?=some a->RepP w R a (vs j)):RepP w R (.rop row) (.pointer (some ⟨b,o,none⟩))
 | agg (cs:List PV) (vs:List Value) (hl:cs.length=vs.length) (hr:∀ (j:Nat) (a:PV) (v:Value),cs[j]?=some a->vs[j]?=some v->RepP w R a v):RepP w R (.agg cs) (.agg vs.toArray)
 | tup (cs:List PV) (vs:List Value) (hl:cs.length=vs.length) (hr:∀ (j:Nat) (a:PV) (v:Value),cs[j]?=some a->vs[j]?=some v->RepP w R a v):RepP w R (.tup cs) (.tuple vs.toArray)
 | err (t:TypeId) (v:Value):RepP w R .err (.iface t v)
theorem zqt {w w':World} {b o:Nat} (h:w'.heap[b]?=w.heap[b]?):w'.cell? ⟨b,o,none⟩=w.cell? ⟨b,o,none⟩:=World.cell?_of_block h
theorem RepP.keep {w w':World} {R R':Nat->Prop} (hsz:w.heap.size<=w'.heap.size) (hk:∀ b,R b->b < w.heap.size->R' b/\w'.heap[b]?=w.heap[b]?) {p:PV} {v:Value} (h:RepP w R p v):RepP w' R' p v:=by
 induction h with
 | v x=>exact .v x
 | e0 A=>exact .e0 A
 | ro0 s A cap=>exact .ro0 s A cap
 | ro s rows b o cap vs hR hb hcap hs hc hr ih =>
  have:=hk b hR hb
  exact .ro s rows b o cap vs this.1 (by omega) hcap hs (fun i j row a h1 h2=>by rw [zqt this.2];exact hc i j row a h1 h2) ih
 | rop row b o vs hR hb hc hr ih =>
  have:=hk b hR hb
  exact .rop row b o vs this.1 (by omega) (fun j a h1=>by rw [zqt this.2];exact hc j a h1) ih
 | agg cs vs hl hr ih=>exact .agg cs vs hl ih
 | tup cs vs hl hr ih=>exact .tup cs vs hl ih
 | err t v=>exact .err t v
inductive Rep (w:World) (ι:Pl) (R:Nat->Prop):AV->Value->Prop
 | p (x:PV) (v:Value) (h:RepP w R x v):Rep w ι R (.p x) v
 | own (k j c:Nat) (s:Nat × Nat) (h:ι[k]?=some (some c,s)):Rep w ι R (.own k j) (.pointer (some ⟨c,j,none⟩))
 | orw (k i j c:Nat) (s:Nat × Nat) (h:ι[k]?=some (some c,s)):Rep w ι R (.orw k i j) (.pointer (some ⟨c,i * s.1 + j,none⟩))
 | osl0 (k i:Nat):Rep w ι R (.osl k i 0) (.slice none 0 0)
 | osl (k i n c cap:Nat) (s:Nat × Nat) (h:ι[k]?=some (some c,s)) (hn:n<=cap) (hm:cap<=maxLen) (hz:s.2=(i + cap) * s.1) :
   Rep w ι R (.osl k i n) (.slice (some ⟨c,i * s.1,none⟩) n cap)
 | agg (cs:List AV) (vs:List Value) (hl:cs.length=vs.length) (hr:∀ (j:Nat) (a:AV) (v:Value),cs[j]?=some a->vs[j]?=some v->Rep w ι R a v):Rep w ι R (.agg cs) (.agg vs.toArray)
 | tup (cs:List AV) (vs:List Value) (hl:cs.length=vs.length) (hr:∀ (j:Nat) (a:AV) (v:Value),cs[j]?=some a->vs[j]?=some v->Rep w ι R a v):Rep w ι R (.tup cs) (.tuple vs.toArray)
 | clo (f:FuncId) (fs cs:List AV) (us vs:List Value) (hl:fs.length=us.length) (hr:∀ (j:Nat) (a:AV) (v:Value),fs[j]?=some a->us[j]?=some v->Rep w ι R a v)
   (hl':cs.length=vs.length) (hr':∀ (j:Nat) (a:AV) (v:Value),cs[j]?=some a->vs[j]?=some v->Rep w ι R a v):Rep w ι R (.clo f fs cs) (.func (.func f) us.toArray vs.toArray)
 | junk (v:Value):Rep w ι R .junk v
def one (k:Nat):Nat->Bool:=fun l=>Nat.beq l k
theorem z0q (k:Nat):one k k=true:=by simp [one]
theorem z69 {k l:Nat} (h:l ≠ k):one k l=false:=by
 unfold one
 cases hb:Nat.beq l k with
 | true=>exact absurd (Nat.eq_of_beq_eq_true hb) h
 | false=>rfl
def AV.scrub (p:Nat->Bool):AV->AV
 | .own l j=>(match p l with
  | true=>.junk
  | false=>.own l j)
 | .orw l i j=>(match p l with
  | true=>.junk
  | false=>.orw l i j)
 | .osl l i n=>(match p l with
  | true=>.junk
  | false=>.osl l i n)
 | .agg cs=>.agg (scrubL p cs)
 | .tup cs=>.tup (scrubL p cs)
 | .clo f fs cs=>.clo f (scrubL p fs) (scrubL p cs)
 | a=>a
where scrubL (p:Nat->Bool):List AV->List AV
 | []=>[]
 | a :: as=>a.scrub p :: scrubL p as
theorem zf8 (p:Nat->Bool):∀ (cs:List AV) (j:Nat),(AV.scrub.scrubL p cs)[j]?=(cs[j]?).map (AV.scrub p)
 | [],j=>by simp [AV.scrub.scrubL]
 | a :: as,0=>by simp [AV.scrub.scrubL]
 | a :: as,j + 1=>by simpa [AV.scrub.scrubL] using zf8 p as j
theorem zf7 (p:Nat->Bool):∀ (cs:List AV),(AV.scrub.scrubL p cs).length=cs.length
 | []=>rfl
 | a :: as=>by simp [AV.scrub.scrubL,zf7 p as]
def zgz (sc:Option (Nat->Bool)) (a:AV):AV:=match sc with
 | some p=>a.scrub p
 | none=>a
structure Keeps (sc:Option (Nat->Bool)) (w:World) (ι:Pl) (R:Nat->Prop) (w':World) (ι':Pl) (R':Nat->Prop):Prop where
 size:w.heap.size<=w'.heap.size
 read:∀ b,R b->b < w.heap.size->R' b/\w'.heap[b]?=w.heap[b]?
 place:∀ (k c:Nat) (s:Nat × Nat),(∀ p,sc=some p->p k=false)->ι[k]?=some (some c,s)->ι'[k]?=some (some c,s)
theorem Rep.keep {sc:Option (Nat->Bool)} {w w':World} {ι ι':Pl} {R R':Nat->Prop} (hk:Keeps sc w ι R w' ι' R') {a:AV} {v:Value} (h:Rep w ι R a v):Rep w' ι' R' (zgz sc a) v:=by
 cases sc with
 | none =>
  unfold zgz;simp only
  induction h with
  | p x v h=>exact .p x v (h.keep hk.size hk.read)
  | own k j c s h=>exact .own k j c s (hk.place k _ _ (fun p e=>by cases e) h)
  | orw k i j c s h=>exact .orw k i j c s (hk.place k _ _ (fun p e=>by cases e) h)
  | osl0 k i=>exact .osl0 k i
  | osl k i n c cap s h hn hm hz=>exact .osl k i n c cap s (hk.place k _ _ (fun p e=>by cases e) h) hn hm hz
  | agg cs vs hl hr ih=>exact .agg cs vs hl ih
  | tup cs vs hl hr ih=>exact .tup cs vs hl ih
  | clo f fs cs us vs hl hr hl' hr' ih ih'=>exact .clo f fs cs us vs hl ih hl' ih'
  | junk v=>exact .junk v
 | some x =>
  unfold zgz;simp only
  induction h with
  | p y v h=>exact .p y v (h.keep hk.size hk.read)
  | own k j c s h =>
   unfold AV.scrub
   split
   ·exact .junk _
   ·rename_i hne;exact .own k j c s (hk.place k _ _ (fun p e=>by cases e;exact hne) h)
  | orw k i j c s h =>
   unfold AV.scrub
   split
   ·exact .junk _
   ·rename_i hne;exact .orw k i j c s (hk.place k _ _ (fun p e=>by cases e;exact hne) h)
  | osl0 k i =>
   unfold AV.scrub
   split
   ·exact .junk _
   ·exact .osl0 k i
  | osl k i n c cap s h hn hm hz =>
   unfold AV.scrub
   split
   ·exact .junk _
   ·rename_i hne;exact .osl k i n c cap s (hk.place k _ _ (fun p e=>by cases e;exact hne) h) hn hm hz
  | agg cs vs hl hr ih =>
   unfold AV.scrub;refine .agg _ vs (by rw [zf7];exact hl) fun j a v ha hv=>?_
   rw [zf8] at ha
   cases hj:cs[j]? with
   | none=>rw [hj] at ha;cases ha
   | some y=>rw [hj] at ha;cases ha;exact ih j y v hj hv
  | tup cs vs hl hr ih =>
   unfold AV.scrub;refine .tup _ vs (by rw [zf7];exact hl) fun j a v ha hv=>?_
   rw [zf8] at ha
   cases hj:cs[j]? with
   | none=>rw [hj] at ha;cases ha
   | some y=>rw [hj] at ha;cases ha;exact ih j y v hj hv
  | clo f fs cs us vs hl hr hl' hr' ih ih' =>
   unfold AV.scrub;refine .clo f _ _ us vs (by rw [zf7];exact hl) (fun j a v ha hv=>?_) (by rw [zf7];exact hl') (fun j a v ha hv=>?_)
   ·rw [zf8] at ha
    cases hj:fs[j]? with
    | none=>rw [hj] at ha;cases ha
    | some y=>rw [hj] at ha;cases ha;exact ih j y v hj hv
   ·rw [zf8] at ha
    cases hj:cs[j]? with
    | none=>rw [hj] at ha;cases ha
    | some y=>rw [hj] at ha;cases ha;exact ih' j y v hj hv
  | junk v=>exact .junk v
theorem Rep.keep0 {w w':World} {ι ι':Pl} {R R':Nat->Prop} (hk:Keeps none w ι R w' ι' R') {a:AV} {v:Value} (h:Rep w ι R a v):Rep w' ι' R' a v:=h.keep hk
def zbg (ι:Pl) (H:AH) (c:Nat):Prop:=∃ (k:Nat) (b:ABlk) (s:Nat × Nat),H[k]?=some (some b)/\ι[k]?=some (some c,s)
def Rd (B:Nat->Prop) (ι:Pl) (H:AH) (b:Nat):Prop:=B b/\¬ zbg ι H b
def zi0 (w:World) (ι:Pl) (R:Nat->Prop) (c:Option Nat) (s:Nat × Nat):ABlk->Prop
 | .box cs t g=>(s=(0,0)/\∀ n,g=some n->c=some n)/\∃ (c':Nat) (arr:Array Value),c=some c'/\w.heap[c']?=some (.cells arr t (0,0))/\arr.size=cs.length/\∀ (j:Nat) (a:AV),cs[j]?=some a->∃ v,arr[j]?=some v/\v.oneCell'=true/\Rep w ι R a v
 | .rows s' rs t=>s'=s.1/\(∀ (i:Nat) (row:List PV),rs[i]?=some row->row.length=s.1)/\((c=none/\rs=[])\/∃ (c':Nat) (arr:Array Value),c=some c'/\w.heap[c']?=some (.cells arr t (0,0))/\arr.size=s.2 ∧
   ∀ (i j:Nat) (row:List PV) (a:PV),rs[i]?=some row->row[j]?=some a->∃ v,arr[i * s.1 + j]?=some v/\v.oneCell'=true/\RepP w R a v)
 | .iter str pos=>∃ (c':Nat),c=some c'/\w.heap[c']?=some (.stringIter str pos)
structure Base where
 w:World
 X:Nat->Prop
 ds:List Deferred
 pin:Nat->Option Value
def Base.own (b:Base) (c:Nat):Prop:=b.X c\/b.w.heap.size<=c
structure GrX (b:Base) (w:World):Prop where
 os:w.os=b.w.os
 tape:w.tape=b.w.tape
 output:w.output=b.w.output
 size:b.w.heap.size<=w.heap.size
 block:∀ k,k < b.w.heap.size->¬ b.X k->w.heap[k]?=b.w.heap[k]?
theorem GrX.trans {b:Base} {w w':World} (h:GrX b w) (hg:Gr w w'):GrX b w' :=
 ⟨hg.os.trans h.os,hg.tape.trans h.tape,hg.output.trans h.output,Nat.le_trans h.size hg.size,fun k hk hx=>by
  have:=h.size
  rw [hg.block k (by omega)];exact h.block k hk hx⟩
def Base.of (w:World):Base:=⟨w,fun _=>False,[],fun _=>none⟩
theorem GrX.of {w w':World} (h:Gr w w'):GrX (Base.of w) w':=⟨h.os,h.tape,h.output,h.size,fun k hk _=>h.block k hk⟩
theorem GrX.gr {w w':World} (h:GrX (Base.of w) w'):Gr w w':=⟨h.os,h.tape,h.output,h.size,fun k hk=>h.block k hk id⟩
structure Rel (w0:Base) (B:Nat->Prop) (w:World) (ι:Pl) (H:AH):Prop where
 gr:GrX w0 w
 fut:∀ b,w.heap.size<=b->B b
 len:ι.length=H.length
 blk:∀ (k:Nat) (b:ABlk) (c:Option Nat) (s:Nat × Nat),H[k]?=some (some b)->ι[k]?=some (c,s)->(∀ c',c=some c'->w0.own c')/\zi0 w ι (Rd B ι H) c s b
 inj:∀ (k l:Nat) (b b':ABlk) (c:Nat) (s s':Nat × Nat),H[k]?=some (some b)->H[l]?=some (some b')->ι[k]?=some (some c,s)->ι[l]?=some (some c,s')->k=l
theorem zi0.block {w:World} {ι:Pl} {R:Nat->Prop} {c:Nat} {s:Nat × Nat} {b:ABlk} (h:zi0 w ι R (some c) s b):∃ o,w.heap[c]?=some o:=by
 cases b with
 | box cs t g=>obtain ⟨_,c',arr,e,h1,_⟩:=h;cases e;exact ⟨_,h1⟩
 | rows s' rs t =>
  obtain ⟨_,_,h|⟨c',arr,e,h1,_⟩⟩:=h
  ·cases h.1
  ·cases e;exact ⟨_,h1⟩
 | iter str pos=>obtain ⟨c',e,h1⟩:=h;cases e;exact ⟨_,h1⟩
theorem zbx {w:World} {c:Nat} {o:Obj} (h:w.heap[c]?=some o):c < w.heap.size:=(Array.getElem?_eq_some_iff.1 h).1
theorem Rel.lt {w0:Base} {B:Nat->Prop} {w:World} {ι:Pl} {H:AH} (h:Rel w0 B w ι H) {c:Nat} (ho:zbg ι H c):c < w.heap.size:=by
 obtain ⟨k,b,s,h1,h2⟩:=ho;obtain ⟨o,ho⟩:=(h.blk k b _ s h1 h2).2.block;exact zbx ho
theorem Rel.ge {w0:Base} {B:Nat->Prop} {w:World} {ι:Pl} {H:AH} (h:Rel w0 B w ι H) {c:Nat} (ho:zbg ι H c):w0.own c:=by
 obtain ⟨k,b,s,h1,h2⟩:=ho;exact (h.blk k b _ s h1 h2).1 c rfl
def znn (sc:Option (Nat->Bool)):ABlk->ABlk
 | .box cs t g=>.box (cs.map (zgz sc)) t g
 | b=>b
theorem zi0.keep {sc:Option (Nat->Bool)} {w w':World} {ι ι':Pl} {R R':Nat->Prop} (hk:Keeps sc w ι R w' ι' R') {c:Option Nat} {s:Nat × Nat} {b:ABlk}
  (hb:∀ c',c=some c'->w'.heap[c']?=w.heap[c']?) (h:zi0 w ι R c s b) :
  zi0 w' ι' R' c s (znn sc b):=by
 cases b with
 | box cs t g =>
  obtain ⟨hg,c',arr,e,h1,h2,h3⟩:=h;refine ⟨hg,c',arr,e,by rw [hb c' e];exact h1,by simpa using h2,fun j a ha=>?_⟩
  rw [List.getElem?_map] at ha
  cases hj:cs[j]? with
  | none=>rw [hj] at ha;cases ha
  | some y =>
   rw [hj] at ha;cases ha
   obtain ⟨v,hv,h1',hr⟩:=h3 j y hj;exact ⟨v,hv,h1',hr.keep hk⟩
 | rows s' rs t =>
  obtain ⟨e,hl,h⟩:=h;refine ⟨e,hl,?_⟩
  rcases h with h|⟨c',arr,e,h1,hz,h3⟩
  ·exact .inl h
  ·refine .inr ⟨c',arr,e,by rw [hb c' e];exact h1,hz,fun i j row a h4 h5=>?_⟩
   obtain ⟨v,hv,h1',hr⟩:=h3 i j row a h4 h5;exact ⟨v,hv,h1',hr.keep hk.size hk.read⟩
 | iter str pos =>
  obtain ⟨c',e,h1⟩:=h;exact ⟨c',e,by rw [hb c' e];exact h1⟩
theorem zi0.keep0 {w w':World} {ι ι':Pl} {R R':Nat->Prop} (hk:Keeps none w ι R w' ι' R') {c:Option Nat} {s:Nat × Nat} {b:ABlk}
  (hb:∀ c',c=some c'->w'.heap[c']?=w.heap[c']?) (h:zi0 w ι R c s b):zi0 w' ι' R' c s b:=by
 have:=h.keep hk hb
 cases b with
 | box cs t g =>
  have e:cs.map (zgz none)=cs:=by
   have:zgz none=id:=rfl
   rw [this,List.map_id]
  unfold znn at this;simp only [e] at this;exact this
 | rows s' rs t=>exact this
 | iter str pos=>exact this
theorem Keeps.gr {B:Nat->Prop} {w w':World} {ι:Pl} {H:AH} (hg:Gr w w'):Keeps none w ι (Rd B ι H) w' ι (Rd B ι H) :=
 ⟨hg.size,fun b hb hlt=>⟨hb,hg.block b hlt⟩,fun _ _ _ _ h=>h⟩
theorem Rel.grow {w0:Base} {B:Nat->Prop} {w w':World} {ι:Pl} {H:AH} (h:Rel w0 B w ι H) (hg:Gr w w'):Rel w0 B w' ι H :=
 ⟨h.gr.trans hg,fun b hb=>h.fut b (Nat.le_trans hg.size hb),h.len,fun k b c s h1 h2=>⟨(h.blk k b c s h1 h2).1,(h.blk k b c s h1 h2).2.keep0 (Keeps.gr hg) fun c' e=>by
  subst e;exact hg.block c' (h.lt ⟨k,b,s,h1,h2⟩)⟩,h.inj⟩
theorem Rel.size {w0:Base} {B:Nat->Prop} {w:World} {ι:Pl} {H:AH} (h:Rel w0 B w ι H):w0.w.heap.size<=w.heap.size:=h.gr.size
/- Own work: operations that write nothing,over values as data. -/
structure TI where
 desc:TypeDesc
 size:Nat
 bytes:Nat
 zero:Value
 cmp:Bool:=false
abbrev TT:=TypeId->Option TI
def TOk (P:Program) (T:TT):Prop:=∀ t i,T t=some i->(P.underlying t=some i.desc/\(P.info? t).map (fun j=>(j.zero,j.size,j.bytes))=some (some i.zero,i.size,i.bytes))/\(i.cmp=true->P.stoodInHeld t=false/\P.eqGuardType P.depth t=false)
def zjn:TypeDesc->Bool
 | .struct _=>true
 | .array _ _=>true
 | _=>false
section
variable {P:Program} {T:TT} (hT:TOk P T)
include hT
theorem zco {t:TypeId} {i:TI} (h:T t=some i) (w:World):(underlying t).run P w=.ok i.desc w:=run_underlying (hT t i h).1.1 w
theorem zie {t:TypeId} {i:TI} (h:T t=some i) (w:World):(sizeOf t).run P w=.ok i.size w:=by
 obtain ⟨j,hj,_,hs,_⟩:=info_parts (hT t i h).1.2;simp [sizeOf,typeInfo,hj,hs]
theorem zpz {t:TypeId} {i:TI} (h:T t=some i) (w:World):(zeroValue t).run P w=.ok i.zero w:=by
 obtain ⟨j,hj,hz,_,_⟩:=info_parts (hT t i h).1.2;simp [zeroValue,typeInfo,hj,hz]
theorem zuj {t:TypeId} {i:TI} (h:T t=some i) (w:World):(isAgg t).run P w=.ok (zjn i.desc) w:=by
 unfold isAgg;rw [Sem.run_bind,zco hT h,Result.andThen_ok]
 cases i.desc <;> rfl
end
def ofV:Value->PV
 | .agg cs=>.agg (cs.toList.map .v)
 | x=>.v x
def aev (env:List AV):Operand->AV
 | .tmp t=>env.getD t .junk
 | .const x=>.p (ofV x)
 | .global g=>.p (.v (.pointer (some ⟨g,0,none⟩)))
 | .func f=>.p (.v (.func (.func f) #[] #[]))
theorem zol (w:World) (R:Nat->Prop) (x:Value):RepP w R (ofV x) x:=by
 unfold ofV
 split
 ·rename_i cs
  have:=RepP.agg (w:=w) (R:=R) (cs.toList.map .v) cs.toList (by simp) (fun j a v ha hv=>by
   rw [List.getElem?_map,hv] at ha
   cases ha
   exact .v v)
  simpa using this
 ·exact .v _
def zba:AV->List AV
 | .agg cs=>cs
 | .p (.agg cs)=>cs.map .p
 | a=>[a]
def AV.toP:AV->Option PV
 | .p x=>some x
 | .agg cs=>(toPL cs).map .agg
 | .tup cs=>(toPL cs).map .tup
 | _=>none
where toPL:List AV->Option (List PV)
 | []=>some []
 | a :: as=>match a.toP,toPL as with
  | some x,some xs=>some (x :: xs)
  | _,_=>none
theorem zez:∀ (cs:List AV) (xs:List PV),AV.toP.toPL cs=some xs->xs.length=cs.length/\∀ (j:Nat) (a:AV),cs[j]?=some a->∃ x,xs[j]?=some x/\a.toP=some x
 | [],xs,h=>by simp [AV.toP.toPL] at h;subst h;simp
 | a :: as,xs,h=>by
  unfold AV.toP.toPL at h
  split at h
  ·rename_i x ys hx hy
   cases h
   have ih:=zez as ys hy;refine ⟨by simp [ih.1],fun j b hb=>?_⟩
   cases j with
   | zero=>simp at hb;subst hb;exact ⟨x,rfl,hx⟩
   | succ j=>simpa using ih.2 j b (by simpa using hb)
  ·cases h
theorem Rep.toP {w:World} {ι:Pl} {R:Nat->Prop} {a:AV} {v:Value} (h:Rep w ι R a v):∀ x,a.toP=some x->RepP w R x v:=by
 induction h with
 | p x v h=>intro y hy;cases hy;exact h
 | own=>intro y hy;cases hy
 | orw=>intro y hy;cases hy
 | osl0=>intro y hy;cases hy
 | osl=>intro y hy;cases hy
 | junk=>intro y hy;cases hy
 | clo=>intro y hy;cases hy
 | agg cs vs hl hr ih =>
  intro y hy;unfold AV.toP at hy
  cases hp:AV.toP.toPL cs with
  | none=>rw [hp] at hy;cases hy
  | some xs =>
   rw [hp] at hy;cases hy
   have hg:=zez cs xs hp;refine .agg xs vs (by omega) fun j a v ha hv=>?_
   have hj:j < cs.length:=by have:=(List.getElem?_eq_some_iff.1 ha).1;omega
   obtain ⟨x,hx,hax⟩:=hg.2 j cs[j] (List.getElem?_eq_getElem hj);rw [hx] at ha;cases ha
   exact ih j cs[j] v (List.getElem?_eq_getElem hj) hv _ hax
 | tup cs vs hl hr ih =>
  intro y hy;unfold AV.toP at hy
  cases hp:AV.toP.toPL cs with
  | none=>rw [hp] at hy;cases hy
  | some xs =>
   rw [hp] at hy;cases hy
   have hg:=zez cs xs hp;refine .tup xs vs (by omega) fun j a v ha hv=>?_
   have hj:j < cs.length:=by have:=(List.getElem?_eq_some_iff.1 ha).1;omega
   obtain ⟨x,hx,hax⟩:=hg.2 j cs[j] (List.getElem?_eq_getElem hj);rw [hx] at ha;cases ha
   exact ih j cs[j] v (List.getElem?_eq_getElem hj) hv _ hax
def PV.toV:PV->Option Value
 | .v x=>some x
 | .agg cs=>(toVL cs).map fun vs=>.agg vs.toArray
 | _=>none
where toVL:List PV->Option (List Value)
 | []=>some []
 | a :: as=>match a.toV,toVL as with
  | some x,some xs=>some (x :: xs)
  | _,_=>none
theorem zs1:∀ (cs:List PV) (vs:List Value),PV.toV.toVL cs=some vs->vs.length=cs.length/\∀ (j:Nat) (a:PV),cs[j]?=some a->∃ v,vs[j]?=some v/\a.toV=some v
 | [],vs,h=>by simp [PV.toV.toVL] at h;subst h;simp
 | a :: as,vs,h=>by
  unfold PV.toV.toVL at h
  split at h
  ·rename_i x ys hx hy
   cases h
   have ih:=zs1 as ys hy;refine ⟨by simp [ih.1],fun j b hb=>?_⟩
   cases j with
   | zero=>simp at hb;subst hb;exact ⟨x,rfl,hx⟩
   | succ j=>simpa using ih.2 j b (by simpa using hb)
  ·cases h
theorem RepP.toV {w:World} {R:Nat->Prop} {p:PV} {u:Value} (h:RepP w R p u):∀ v,p.toV=some v->u=v:=by
 induction h with
 | v x=>intro v h;cases h;rfl
 | e0=>intro v h;cases h
 | ro0=>intro v h;cases h
 | ro=>intro v h;cases h
 | rop=>intro v h;cases h
 | tup=>intro v h;cases h
 | err=>intro v h;cases h
 | agg cs us hl hr ih =>
  intro v h;unfold PV.toV at h
  cases hp:PV.toV.toVL cs with
  | none=>rw [hp] at h;cases h
  | some vs =>
   rw [hp] at h;cases h
   have hg:=zs1 cs vs hp
   have:us=vs:=by
    apply List.ext_getElem?;intro j
    rcases Nat.lt_or_ge j cs.length with hj|hj
    ·obtain ⟨v,hv,hav⟩:=hg.2 j cs[j] (List.getElem?_eq_getElem hj);have hju:j < us.length:=by omega
     have:=ih j cs[j] us[j] (List.getElem?_eq_getElem hj) (List.getElem?_eq_getElem hju) v hav
     rw [hv,List.getElem?_eq_getElem hju,this]
    ·rw [List.getElem?_eq_none (by omega),List.getElem?_eq_none (by omega)]
   rw [this]
def zzq (w:World) (R:Nat->Prop):PV->Ending->Prop
 | .pan ch,e=>e=.panicked ch
 | r,e=>∃ v,e=.returned v/\RepP w R r v
theorem zzq.ret {w:World} {R:Nat->Prop} {r:PV} {v:Value} (h:RepP w R r v):zzq w R r (.returned v):=by
 cases h <;> exact ⟨_,rfl,by constructor <;> assumption⟩
def PV.isPan:PV->Bool
 | .pan _=>true
 | _=>false
theorem zzq.val {w:World} {R:Nat->Prop} {r:PV} {e:Ending} (h:zzq w R r e) (hp:r.isPan=false):∃ v,e=.returned v/\RepP w R r v:=by
 cases r <;> first|exact h|cases hp
def Ret (P:Program) (G:World->Prop) (f:FuncId) (as:List PV) (r:PV):Prop :=
 (∀ (args:Array Value) (w:World),(callFunc f args).run P w=.ok (.enter f args) w) ∧
 ∀ (w:World) (B:Nat->Prop) (args:List Value),G w->as.length=args.length->(∀ (j:Nat) (a:PV) (v:Value),as[j]?=some a->args[j]?=some v->RepP w B a v) →
  Calls P f args.toArray w fun e w'=>Gr w w'/\zzq w' (fun b=>B b\/w.heap.size<=b) r e
def z2l {α:Type} (P:Program):Sem α->(α->Prop)->Prop
 | .pure a,K=>K a
 | .program k,K=>z2l P (k P) K
 | _,_=>False
theorem z0d {α:Type} (P:Program) (s:Sem α) (K:α->Prop) (h:z2l P s K):∃ a,K a/\∀ w,s.run P w=.ok a w:=by
 induction s with
 | pure a=>exact ⟨a,h,fun _=>rfl⟩
 | program k ih =>
  obtain ⟨a,h1,h2⟩:=ih P h;exact ⟨a,h1,fun w=>by simpa [Sem.run] using h2 w⟩
 | _=>cases h
structure SO where
 eq:ByteArray->ByteArray->Bool
 lt:ByteArray->ByteArray->Bool
 add:ByteArray->ByteArray->ByteArray
 ext:ByteArray->Nat->Nat->ByteArray
 size:ByteArray->Int
 get:ByteArray->Nat->Option Int
 decR:ByteArray->Nat->Int
 decW:ByteArray->Nat->Nat
 wrap:IntKind->Int->Int
 enc:Int->ByteArray
 lti:Int->Int->Bool
 lei:Int->Int->Bool
 wadd:IntKind->Int->Int->Int
 wsub:IntKind->Int->Int->Int
 wmul:IntKind->Int->Int->Int
 wquo:IntKind->Int->Int->Int
 rem:Int->Int->Int
 max:Int->Int->Int
 min:Int->Int->Int
 rrows:ByteArray->List (List PV)
 encL:List Int->ByteArray
 nat:Int->Nat
 ofN:Nat->Int
 ple:Int->Int->Prop
 plt:Int->Int->Prop
 cat:ByteArray->ByteArray->Prop
 room:Nat->Nat->Nat->Prop
 band:IntKind->Int->Int->Int
 bor:IntKind->Int->Int->Int
 bxor:IntKind->Int->Int->Int
 shl:IntKind->Int->Int->Int
 shr:IntKind->Int->Int->Int
 fits:ByteArray->Prop
 addN:Nat->Nat->Nat
 pre:Nat->Nat->List (List PV)->Prop
 app:List (List PV)->Nat->List (List PV)->List (List PV)
 sub:List (List PV)->Nat->Nat->List (List PV)
 cut:List (List PV)->Nat->Nat->List (List PV)
 put:List (List PV)->Nat->List PV->List (List PV)
 brows:ByteArray->List (List PV)
def zal (s:ByteArray):List (List PV):=s.data.toList.map fun b=>[.v (.int .u8 (b.toNat:Nat))]
def zp2 (s:ByteArray):Nat->Nat->List Int
 | 0,_=>[]
 | b + 1,i=>if i < s.size then ((Utf8.decode s i).1:Int) :: zp2 s b (i + (Utf8.decode s i).2) else []
def zbc (s:ByteArray):List Int:=zp2 s s.size 0
theorem zp1 (s:ByteArray):∀ (b i:Nat) (acc:Array Value),Conv.runesFrom s b i acc=acc++((zp2 s b i).map (Value.int .i32)).toArray
 | 0,i,acc=>by simp [Conv.runesFrom,zp2]
 | b + 1,i,acc=>by
  unfold Conv.runesFrom zp2
  split
  ·generalize Utf8.decode s i=d;obtain ⟨r,wd⟩:=d;simp only;rw [zp1 s b];simp
  ·simp
theorem zhw (s:ByteArray):Conv.runesFrom s s.size 0 #[]=((zbc s).map (Value.int .i32)).toArray:=by
 rw [zp1];simp [zbc]
theorem zrn (s:ByteArray):(zbc s).length<=s.size:=by
 have:=size_runesFrom s s.size 0 #[]
 rw [zhw] at this;simpa using this
def pR (ns:List Int):List (List PV):=ns.map fun n=>[.v (.int .i32 n)]
theorem zju (a b:ByteArray):(a.toList == b.toList)=decide (a=b):=by
 rw [ByteArray.toList_eq,ByteArray.toList_eq]
 by_cases h:a=b
 ·subst h;simp
 ·have h2:¬ a.data=b.data:=fun e=>h (ByteArray.ext e)
  simp [h,h2]
def zas:SO:=⟨fun a b=>decide (a=b),fun a b=>Op.bytesLess a.toList b.toList,fun a b=>a++b,fun s l h=>s.extract l h,fun s=>(s.size:Nat),fun s n=>(s.data.toList[n]?).map fun b=>((b.toNat:Nat):Int),fun s p=>((Utf8.decode s p).1:Nat),fun s p=>(Utf8.decode s p).2,fun k n=>k.wrap n,fun r=>Utf8.encode r,fun a b=>decide (a < b),fun a b=>decide (a<=b),fun k a b=>k.wrap (a + b),fun k a b=>k.wrap (a - b),fun k a b=>k.wrap (a * b),fun k a b=>k.wrap (a.tdiv b),fun a b=>a.tmod b,fun a b=>if b > a then b else a,fun a b=>if b < a then b else a,fun s=>pR (zbc s),runesBytes,Int.toNat,fun n=>(n:Int),fun a b=>a<=b,fun a b=>a < b,fun a b=>((a.size:Nat):Int) + ((b.size:Nat):Int)<=9223372036854775807,fun n m s=>n + m<=maxLen/\(n + m) * s<=140737488355328,
 fun k a b=>k.wrap (BitVec.ofInt k.bits a &&& BitVec.ofInt k.bits b).toNat,fun k a b=>k.wrap (BitVec.ofInt k.bits a ||| BitVec.ofInt k.bits b).toNat,fun k a b=>k.wrap (BitVec.ofInt k.bits a ^^^ BitVec.ofInt k.bits b).toNat,fun k a b=>k.wrap (a * 2 ^ (min b.toNat k.bits)),fun k a b=>a.fdiv (2 ^ (min b.toNat k.bits)),fun s=>((s.size:Nat):Int)<=70368744177664,fun a b=>a + b,fun i n rs=>i + n<=rs.length,fun rs n rows=>rs.take n++rows,fun rs i n=>(rs.drop i).take n,fun rs l h=>(rs.take h).drop l,fun rs r row=>rs.set r row,zal⟩
theorem zd6 (n:Int):IntKind.i64.wrap n=(n + 9223372036854775808) % 18446744073709551616 - 9223372036854775808:=by
 have e1:((2:Int) ^ IntKind.i64.bits)=18446744073709551616:=by decide
 have e2:((2:Int) ^ (IntKind.i64.bits - 1))=9223372036854775808:=by decide
 have e3:IntKind.i64.signed=true:=rfl;simp only [IntKind.wrap,e1,e2,e3,Bool.true_and,decide_eq_true_eq]
 split <;> omega
theorem zra (n:Int):IntKind.u64.wrap n=n % 18446744073709551616:=by
 have e1:((2:Int) ^ IntKind.u64.bits)=18446744073709551616:=by decide
 have e3:IntKind.u64.signed=false:=rfl;simp only [IntKind.wrap,e1,e3,Bool.false_and,Bool.false_eq_true,if_false]
theorem zaf {n:Int} (h0:-9223372036854775808<=n) (h1:n<=9223372036854775807):IntKind.i64.wrap n=n:=by rw [zd6];omega
theorem z6z {E:SO} (hE:E=zas):∀ a b:Int,-1000000000<=a->a<=1000000000->-1000000000<=b->b<=1000000000->E.wadd .i64 a b=a + b:=fun a b h0 h1 h2 h3=>by rw [hE];exact zaf (by omega) (by omega)
theorem zp7 {E:SO} (hE:E=zas):∀ a b,a<=b->E.ple a b:=fun a b h=>by rw [hE];exact h
theorem zw5 {E:SO} (hE:E=zas):∀ a b,E.lti a b=decide (a < b):=fun a b=>by rw [hE];rfl
theorem qNe {E:SO} (hE:E=zas) (s:ByteArray):∀ k,¬ s=k->E.eq s k=false:=fun k h=>by rw [hE];exact dF h
def zvz (i:TI) (a:AV) (H:AH) (K:AV->Prop):Prop :=
 match a with
 | .own k j=>(match H[k]? with
  | some (some (.box cs _ _))=>if zjn i.desc then (if j + i.size<=cs.length then K (.agg ((cs.drop j).take i.size)) else False) else (match cs[j]? with
   | some x=>K x
   | none=>False)
  | _=>False)
 | .orw k r j=>(match H[k]? with
  | some (some (.rows _ rs _))=>∃ row,rs[r]?=some row/\(if zjn i.desc then (if j + i.size<=row.length then K (.p (.agg ((row.drop j).take i.size))) else False) else (match row[j]? with
   | some x=>K (.p x)
   | none=>False))
  | _=>False)
 | .p (.rop row)=>if zjn i.desc then (if i.size<=row.length then K (.p (.agg (row.take i.size))) else False) else (match row with
  | x :: _=>K (.p x)
  | []=>False)
 | _=>False
def zzi (off:Nat) (a:AV) (K:AV->Prop):Prop :=
 match a with
 | .own k j=>K (.own k (j + off))
 | .orw k i j=>K (.orw k i (j + off))
 | .p (.rop row)=>K (.p (.rop (row.drop off)))
 | _=>False
def zzh (E:SO) (s:Nat) (x:AV) (i:AV) (H:AH) (K:AV->Prop):Prop :=
 match i with
 | .p (.v (.int _ n))=>(match x with
  | .p (.ro s' rows)=>s'=s/\E.ple 0 n/\∃ row,rows[E.nat n]?=some row/\K (.p (.rop row))
  | .osl k i0 len=>(match H[k]? with
   | some (some (.rows s' _ _))=>s'=s/\E.ple 0 n/\E.plt n (E.ofN len)/\K (.orw k (E.addN i0 (E.nat n)) 0)
   | _=>False)
  | _=>False)
 | _=>False
def alen (E:SO) (d:TypeDesc) (x:AV) (K:AV->Prop):Prop :=
 match d with
 | .string=>(match x with
  | .p (.v (.string s))=>K (.p (.v (.int .i64 (E.size s))))
  | _=>False)
 | .slice _=>(match x with
  | .p (.v (.slice _ n _))=>K (.p (.v (.int .i64 (E.ofN n))))
  | .p .e0=>K (.p (.v (.int .i64 0)))
  | .p (.ro _ rows)=>K (.p (.v (.int .i64 (E.ofN rows.length))))
  | .osl _ _ n=>K (.p (.v (.int .i64 (E.ofN n))))
  | _=>False)
 | _=>False
def zqe:AV->Bool
 | .junk=>false
 | .p (.v x)=>x.oneCell'
 | _=>true
def zle {α:Type} (cells:List α) (off:Nat) (cs:List α):List α:=cells.take off++cs++cells.drop (off + cs.length)
def ziz (place:Nat->Option (Nat × Nat)) (cells:List AV):List (Nat × AV)->Option (List AV)
 | []=>some cells
 | (i,a) :: rest=>match place i with
  | none=>none
  | some (off,size)=>if zqe a=true/\(zba a).length=size/\off + size<=cells.length then ziz place (zle cells off (zba a)) rest else none
def zka (T:TT):List Field->Option (List (Nat × Nat))
 | []=>some []
 | f :: fs=>match T f.type,zka T fs with
  | some i,some r=>some ((f.offset,i.size) :: r)
  | _,_=>none
def zm1 (x:Option AV) (d:Int) (K:Int->Prop):Prop :=
 match x with
 | none=>K d
 | some (.p (.v (.int _ n)))=>K n
 | _=>False
def zmx (E:SO) (x:AV) (lo hi:Option AV) (K:AV->Prop):Prop :=
 match x with
 | .p (.v (.string s))=>zm1 hi (E.size s) fun h=>zm1 lo 0 fun l=>E.ple 0 l/\E.ple l h/\E.ple h (E.size s)/\K (.p (.v (.string (E.ext s (E.nat l) (E.nat h)))))
 | _=>False
def zzd (E:SO) (es:Nat) (x:AV) (lo hi:Option AV) (K:AV->Prop):Prop :=
 match x with
 | .p (.ro s rows)=>s=es/\(zm1 hi (E.ofN rows.length) fun h=>zm1 lo 0 fun l=>E.ple 0 l/\E.ple l h/\E.ple h (E.ofN rows.length)/\K (.p (.ro s (E.cut rows (E.nat l) (E.nat h)))))
 | .osl k i n=>(match lo with
  | none=>zm1 hi (E.ofN n) fun h=>E.ple 0 h/\E.ple h (E.ofN n)/\K (.osl k i (E.nat h))
  | _=>False)
 | _=>False
def zpi (x:AV) (i:Nat) (K:AV->Prop):Prop :=
 match x with
 | .tup cs=>(match cs[i]? with
  | some a=>K a
  | none=>False)
 | .p (.tup cs)=>(match cs[i]? with
  | some a=>K (.p a)
  | none=>False)
 | _=>False
def apart (x:AV) (off:Nat) (K:AV->Prop):Prop :=
 match x with
 | .agg cs=>(match cs[off]? with
  | some a=>K a
  | none=>False)
 | .p (.agg cs)=>(match cs[off]? with
  | some a=>K (.p a)
  | none=>False)
 | _=>False
def z86 (P:Program) (G:World->Prop) (E:SO) (T:TT) (env:List AV) (c:Call) (K:AV->Prop):Prop :=
 match c.callee with
 | .builtin .len=>(match c.args.toList,c.argTypes.toList with
  | [x],[t]=>(match T t with
   | some ti=>alen E ti.desc (aev env x) K
   | none=>False)
  | _,_=>False)
 | .builtin .max=>(match c.args.toList.map (aev env) with
  | [.p (.v (.int k a)),.p (.v (.int _ b))]=>K (.p (.v (.int k (E.max a b))))
  | _=>False)
 | .builtin .min=>(match c.args.toList.map (aev env) with
  | [.p (.v (.int k a)),.p (.v (.int _ b))]=>K (.p (.v (.int k (E.min a b))))
  | _=>False)
 | .value (.func f)=>(match AV.toP.toPL (c.args.toList.map (aev env)) with
  | some as=>∃ r,Ret P G f as r/\(match r.isPan with
   | true=>False
   | false=>K (.p r))
  | none=>False)
 | _=>False
def z89 (P:Program) (E:SO) (op:BinOp) (t:TypeId) (k:IntKind) (a b:Int) (K:AV->Prop):Prop :=
 match op with
 | .add=>K (.p (.v (.int k (E.wadd k a b))))
 | .sub=>K (.p (.v (.int k (E.wsub k a b))))
 | .mul=>K (.p (.v (.int k (E.wmul k a b))))
 | .quo=>b ≠ 0/\K (.p (.v (.int k (E.wquo k a b))))
 | .rem=>b ≠ 0/\K (.p (.v (.int k (E.rem a b))))
 | .eql=>K (.p (.v (.bool (decide (a=b)))))
 | .neq=>K (.p (.v (.bool (!decide (a=b)))))
 | .lss=>K (.p (.v (.bool (E.lti a b))))
 | .leq=>K (.p (.v (.bool (E.lei a b))))
 | .gtr=>K (.p (.v (.bool (E.lti b a))))
 | .geq=>K (.p (.v (.bool (E.lei b a))))
 | .and=>K (.p (.v (.int k (E.band k a b))))
 | .or=>K (.p (.v (.int k (E.bor k a b))))
 | .xor=>K (.p (.v (.int k (E.bxor k a b))))
 | op=>z2l P (binOp op t (.int k a) (.int k b)) fun v=>K (.p (.v v))
def z87 (E:SO) (op:BinOp) (a b:ByteArray) (K:AV->Prop):Prop :=
 match op with
 | .add=>E.cat a b/\K (.p (.v (.string (E.add a b))))
 | .eql=>K (.p (.v (.bool (E.eq a b))))
 | .neq=>K (.p (.v (.bool (!E.eq a b))))
 | .lss=>K (.p (.v (.bool (E.lt a b))))
 | .leq=>K (.p (.v (.bool (E.lt a b || E.eq a b))))
 | .gtr=>K (.p (.v (.bool (!(E.lt a b || E.eq a b)))))
 | .geq=>K (.p (.v (.bool (!E.lt a b))))
 | _=>False
def eqP (E:SO):PV->PV->Option Bool
 | .v (.int k a),.v (.int k' b)=>if k=k' then some (decide (a=b)) else none
 | .v (.string a),.v (.string b)=>some (E.eq a b)
 | .v (.bool a),.v (.bool b)=>some (a == b)
 | _,_=>none
def zgp (E:SO) (T:TT):List Field->List PV->List PV->Option Bool
 | [],_,_=>some true
 | f :: fs, xs, ys => if f.name = "_" then none else (match T f.type, xs[f.offset]?, ys[f.offset]? with
  | some i,some x,some y=>(match (match i.desc,x with
    | .int _,.v (.int _ _)=>true
    | .string,.v (.string _)=>true
    | .bool,.v (.bool _)=>true
    | _,_=>false),eqP E x y,zgp E T fs xs ys with
   | true,some b,some r=>some (b && r)
   | _,_,_=>none)
  | _,_,_=>none)
def aagg:AV->Option (List PV)
 | .p (.agg cs)=>some cs
 | .agg cs=>AV.toP.toPL cs
 | _=>none
def anil (c:Bool):AV->AV->Option Bool
 | .p .err,.p (.v .nilIface)=>some false
 | .p (.v (.iface _ _)),.p (.v .nilIface)=>some false
 | .p (.v .nilIface),.p (.v .nilIface)=>(match c with
  | true=>some true
  | false=>none)
 | _,_=>none
def isC:Operand->Bool
 | .const _=>true
 | _=>false
def z88 (T:TT) (op:BinOp) (t:TypeId) (b:Bool) (K:AV->Prop):Prop :=
 match T t with
 | some i=>(match i.desc,op with
  | .interface _,.eql=>K (.p (.v (.bool b)))
  | .interface _,.neq=>K (.p (.v (.bool (!b))))
  | _,_=>False)
 | none=>False
def abin (P:Program) (E:SO) (T:TT) (op:BinOp) (t:TypeId) (a b:AV) (K:AV->Prop):Prop :=
 match a,b with
 | .p (.v (.bool a)),.p (.v (.bool b))=>(match T t with
  | some i=>(match i.desc,op with
   | .bool,.eql=>K (.p (.v (.bool (a == b))))
   | .bool,.neq=>K (.p (.v (.bool (a != b))))
   | _,_=>False)
  | none=>False)
 | .p (.v (.int k a)),.p (.v (.int k' b))=>(match op with
  | .shl=>E.ple 0 b/\K (.p (.v (.int k (E.shl k a b))))
  | .shr=>E.ple 0 b/\K (.p (.v (.int k (E.shr k a b))))
  | op=>if k=k' then z89 P E op t k a b K else False)
 | .p (.v (.string a)),.p (.v (.string b))=>z87 E op a b K
 | a,b=>(match aagg a,aagg b,T t with
  | some xs,some ys,some i=>(match i.desc,i.cmp,op with
   | .struct fs,true,.eql=>(match zgp E T fs.toList xs ys with
    | some r=>K (.p (.v (.bool r)))
    | none=>False)
   | .struct fs,true,.neq=>(match zgp E T fs.toList xs ys with
    | some r=>K (.p (.v (.bool (!r))))
    | none=>False)
   | _,_,_=>False)
  | _,_,_=>False)
def z5q (P:Program) (E:SO) (op:UnOp) (a:AV) (K:AV->Prop):Prop :=
 match a with
 | .p (.v (.int k n))=>(match op with
  | .neg=>K (.p (.v (.int k (E.wsub k 0 n))))
  | op=>z2l P (Op.unary op (.int k n)) fun v=>K (.p (.v v)))
 | .p (.v (.bool b))=>(match op with
  | .not=>K (.p (.v (.bool (!b))))
  | _=>False)
 | _=>False
def z5x (E:SO) (T:TT) (dst:TypeId) (src:TypeId) (a:AV) (K:AV->Prop):Prop :=
 match T dst,T src,a with
 | some i,some _,.p (.v (.int _ n))=>(match i.desc with
  | .string=>K (.p (.v (.string (E.enc n))))
  | .int k=>K (.p (.v (.int k (E.wrap k n))))
  | _=>False)
 | some i,some _,.p (.v (.string s))=>(match i.desc with
  | .string=>K (.p (.v (.string s)))
  | .slice e=>(match T e with
   | some te=>(match te.desc with
    | .int .i32=>E.fits s/\K (.p (.ro 1 (E.rrows s)))
    | .int .u8=>K (.p (.ro 1 (E.brows s)))
    | _=>False)
   | none=>False)
  | _=>False)
 | some i,some j,.p (.ro n rows)=>(match i.desc,j.desc with
  | .string,.slice e=>(match T e with
   | some te=>(match te.desc with
    | .int .i32=>n=1/\∃ ns,rows=pR ns/\K (.p (.v (.string (E.encL ns))))
    | .int .u8=>n=1/\∃ b,rows=E.brows b/\K (.p (.v (.string b)))
    | _=>False)
   | none=>False)
  | _,_=>False)
 | _,_,_=>False
def zzk (E:SO) (T:TT) (dst src:TypeId) (k i n:Nat) (H:AH) (K:AV->Prop):Prop :=
 match T dst,T src with
 | some di,some si=>(match di.desc,si.desc with
  | .string,.slice e=>(match T e with
   | some te=>(match te.desc with
    | .int .u8=>(match H[k]? with
     | some (some (.rows s rs _))=>s=1/\E.pre i n rs/\∃ b,E.sub rs i n=E.brows b/\K (.p (.v (.string b)))
     | _=>False)
    | _=>False)
   | none=>False)
  | _,_=>False)
 | _,_=>False
def aarr (E:SO) (len:Nat) (x i:AV) (K:AV->Prop):Prop :=
 match x,i with
 | .own k j,.p (.v (.int _ n))=>E.ple 0 n/\E.plt n (E.ofN len)/\K (.own k (E.addN j (E.nat n)))
 | _,_=>False
def aq (P:Program) (G:World->Prop) (E:SO) (T:TT) (o:Oper) (env:List AV) (H:AH) (K:AV->Prop):Prop :=
 match o.op with
 | .move x=>K (aev env x)
 | .assign x=>K (aev env x)
 | .pick c a b=>(match aev env c with
  | .p (.v (.bool t))=>(match t with
   | true=>K (aev env a)
   | false=>K (aev env b))
  | _=>False)
 | .load t a=>(match T t with
  | some i=>zvz i (aev env a) H K
  | none=>False)
 | .fieldAddr s x f=>(match T s with
  | some i=>(match i.desc with
   | .struct fs=>(match fs[f]? with
    | some fd=>(match T fd.type with
     | some j=>if j.size=0 then False else zzi fd.offset (aev env x) K
     | none=>False)
    | none=>False)
   | _=>False)
  | none=>False)
 | .indexAddr t x i=>(match T t with
  | some ti=>(match ti.desc with
   | .slice e=>(match T e with
    | some te=>zzh E te.size (aev env x) (aev env i) H K
    | none=>False)
   | .array m e=>(match T e with
    | some te=>if te.size=1 then aarr E m (aev env x) (aev env i) K else False
    | none=>False)
   | _=>False)
  | none=>False)
 | .index t x i=>(match T t with
  | some ti=>(match ti.desc,aev env x,aev env i with
   | .string,.p (.v (.string s)),.p (.v (.int _ n))=>E.ple 0 n/\∃ b,E.get s (E.nat n)=some b/\K (.p (.v (.int .u8 b)))
   | _,_,_=>False)
  | none=>False)
 | .slice t x lo hi none=>(match T t with
  | some ti=>(match ti.desc with
   | .string=>zmx E (aev env x) (lo.map (aev env)) (hi.map (aev env)) K
   | .slice e=>(match T e with
    | some te=>zzd E te.size (aev env x) (lo.map (aev env)) (hi.map (aev env)) K
    | none=>False)
   | _=>False)
  | none=>False)
 | .extract x i=>zpi (aev env x) i K
 | .field s x f=>(match T s with
  | some i=>(match i.desc with
   | .struct fs=>(match fs[f]? with
    | some fd=>(match T fd.type with
     | some j=>if zjn j.desc then False else apart (aev env x) fd.offset K
     | none=>False)
    | none=>False)
   | _=>False)
  | none=>False)
 | .makeInterface t x=>(match T t with
  | some i=>(match i.desc with
   | .interface _=>False
   | _=>(match (aev env x).toP.bind PV.toV with
    | some v=>K (.p (.v (.iface t v)))
    | none=>False))
  | none=>False)
 | .makeFunc (.func f) fs cs=>K (.clo f (fs.toList.map (aev env)) (cs.toList.map (aev env)))
 | .nilCheck x=>(match aev env x with
  | .own k j=>K (.own k j)
  | .orw k i j=>K (.orw k i j)
  | .p (.rop row)=>K (.p (.rop row))
  | _=>False)
 | .unOp op _ x=>z5q P E op (aev env x) K
 | .convert src dst x=>(match aev env x with
  | .osl k i n=>zzk E T dst src k i n H K
  | _=>z5x E T dst src (aev env x) K)
 | .binOp op t x y _=>(match anil (isC x || isC y) (aev env x) (aev env y) with
  | some b=>z88 T op t b K
  | none=>abin P E T op t (aev env x) (aev env y) K)
 | .build t parts=>(match T t with
  | some i=>(match i.desc with
   | .struct fs=>(match zka T fs.toList with
    | some pl=>(match ziz (fun n=>pl[n]?) (i.zero.cells.toList.map fun x=>.p (.v x)) (parts.toList.map fun (n,x)=>(n,aev env x)) with
     | some cs=>K (.agg cs)
     | none=>False)
    | none=>False)
   | _=>False)
  | none=>False)
 | .call c=>z86 P G E T env c K
 | _=>False
def QS (P:Program) (G:World->Prop) (o:Oper) (env:List AV) (H:AH) (a:AV):Prop :=
 ∀ (w0:Base) (B:Nat->Prop) (w:World) (ι:Pl) (ρ:Operand->Value),Rel w0 B w ι H->G w->(∀ x,x ∈ o.op.operands->Rep w ι (Rd B ι H) (aev env x) (ρ x))->(∀ f,ρ (.func f)=.func (.func f) #[] #[]) →
  zbi P (fun v w'=>Gr w w'/\Rep w' ι (Rd B ι H) a v) ((execOp ρ o).run P w)
/- Own work: the operations that write nothing come to what is said of them. -/
theorem zsp {w:World} {b o:Nat} {arr:Array Value} {t:TypeId} {fz:Nat × Nat} (h:w.heap[b]?=some (.cells arr t fz)):w.cell? ⟨b,o,none⟩=arr[o]?:=by
 simp [World.cell?,h]
theorem zw4 {w:World} {R:Nat->Prop} {s:ByteArray} {c cap:Nat} {arr:Array Value} {t:TypeId} {fr:Nat × Nat} (hR:R c) (hb:w.heap[c]?=some (.cells arr t fr)) (hcap:s.size<=cap) (h:∀ (j:Nat) (b:UInt8),s.data.toList[j]?=some b->arr[j]?=some (.int .u8 (b.toNat:Nat))):RepP w R (.ro 1 (zal s)) (.slice (some ⟨c,0,none⟩) s.size cap):=by
 have hl:(zal s).length=s.size:=by simp [zal]
 have hrow:∀ (q:Nat) (row:List PV),(zal s)[q]?=some row->∃ b,s.data.toList[q]?=some b/\row=[.v (.int .u8 (b.toNat:Nat))]:=fun q row hq=>by
  unfold zal at hq;rw [List.getElem?_map] at hq
  cases hn:s.data.toList[q]? with
  | none=>rw [hn] at hq;cases hq
  | some n=>rw [hn] at hq;cases hq;exact ⟨n,rfl,rfl⟩
 have hcell:∀ (q j:Nat) (row:List PV) (a:PV),(zal s)[q]?=some row->row[j]?=some a->∃ b,s.data.toList[q]?=some b/\j=0/\a=.v (.int .u8 (b.toNat:Nat)):=fun q j row a hq ha=>by
  obtain ⟨n,hn,rfl⟩:=hrow q row hq
  cases j with
  | zero=>simp at ha;exact ⟨n,hn,rfl,ha.symm⟩
  | succ j=>simp at ha
 have:=RepP.ro (w:=w) (R:=R) 1 (zal s) c 0 cap (fun q _=>.int .u8 (((s.data.toList[q]?).getD 0).toNat:Nat)) hR (zbx hb) (by rw [hl];exact hcap)
  (fun q row hq=>by obtain ⟨n,_,rfl⟩:=hrow q row hq;rfl)
  (fun q j row a hq ha=>by
   obtain ⟨n,hn,rfl,rfl⟩:=hcell q j row a hq ha;refine ⟨?_,rfl⟩;rw [zsp hb,show 0 + (q * 1 + 0)=q by omega,h q n hn]
   simp [hn])
  (fun q j row a hq ha=>by
   obtain ⟨n,hn,rfl,rfl⟩:=hcell q j row a hq ha;simp only [hn,Option.getD_some];exact .v _)
 rw [hl] at this;exact this
theorem zy6 (w:World) (e:TypeId) (s:ByteArray):Gr w (Lib.bytesWorld w e s):=by
 refine ⟨rfl,rfl,rfl,?_,fun k hk=>Lib.bytesWorld_at_old w e s k hk⟩
 rw [Lib.bytesWorld_size];omega
theorem zbk {w:World} {ι:Pl} {R:Nat->Prop} {x v:Value} (h:Rep w ι R (.p (.v x)) v):v=x:=by
 cases h with
 | p _ _ h=>cases h;rfl
theorem z82 (a b:ByteArray):(a == b)=decide (a=b):=by
 cases a with
 | mk x=>cases b with
  | mk y =>
   show (x == y)=_
   by_cases h:x=y
   ·subst h;simp
   ·have h2:¬ ByteArray.mk x=ByteArray.mk y:=fun e=>h (by injection e)
    simp [h]
theorem zls {w:World} {ι:Pl} {R:Nat->Prop} {a:AV} {v:Value} {cs:List PV} (h:aagg a=some cs) (hv:Rep w ι R a v):∃ vs:List Value,v=.agg vs.toArray/\∀ (j:Nat) (x:Value),cs[j]?=some (.v x)->vs[j]?=some x:=by
 unfold aagg at h
 split at h
 ·cases h
  cases hv with
  | p _ _ hv =>
   cases hv with
   | agg _ vs hl hr =>
    refine ⟨vs,rfl,fun j x hx=>?_⟩
    have hj:j < vs.length:=by rw [<-hl];exact (List.getElem?_eq_some_iff.1 hx).1
    have:=hr j _ vs[j] hx (List.getElem?_eq_getElem hj)
    rw [List.getElem?_eq_getElem hj]
    cases this;rfl
 ·rename_i cs'
  cases hv with
  | agg _ vs hl hr =>
   have hg:=zez _ _ h;refine ⟨vs,rfl,fun j x hx=>?_⟩
   have hj:j < vs.length:=by rw [<-hl,<- hg.1];exact (List.getElem?_eq_some_iff.1 hx).1
   obtain ⟨y,hy,hyp⟩:=hg.2 j cs'[j] (List.getElem?_eq_getElem (by omega))
   rw [hy] at hx
   cases hx
   have:=(hr j _ vs[j] (List.getElem?_eq_getElem (by omega)) (List.getElem?_eq_getElem hj)).toP _ hyp
   rw [List.getElem?_eq_getElem hj]
   cases this;rfl
 ·cases h
section
variable {P:Program} {G:World->Prop} {T:TT} (hT:TOk P T)
theorem za7 {o:Oper} {env:List AV} {H:AH} {a:AV}
  (h:∀ (w0:Base) (B:Nat->Prop) (w:World) (ι:Pl) (ρ:Operand->Value),Rel w0 B w ι H->G w->(∀ x,x ∈ o.op.operands->Rep w ι (Rd B ι H) (aev env x) (ρ x)) →
   ∃ v,(execOp ρ o).run P w=.ok (.value v) w/\Rep w ι (Rd B ι H) a v):QS P G o env H a:=by
 intro w0 B w ι ρ hR hG hρ hf;obtain ⟨v,h1,h2⟩:=h w0 B w ι ρ hR hG hρ;rw [h1];exact ⟨Gr.refl _,h2⟩
include hT
theorem zhh {t:TypeId} {i:TI} (h:T t=some i) (ha:zjn i.desc=true) {w:World} {b o:Nat} (f:Nat->Value) (hc:∀ j,j < i.size->w.cell? ⟨b,o + j,none⟩=some (f j)) :
  (Instr.loadAt t (.pointer (some ⟨b,o,none⟩))).run P w=.ok (.agg ((List.range i.size).map f).toArray) w:=by
 simp only [Instr.loadAt,Instr.sureAddr,Sem.run_bind,Sem.run_pure,Result.andThen_ok,loadVar,zuj hT h,ha,if_true,zie hT h];rw [run_loadCells w ⟨b,o,none⟩ i.size f (fun j hj=>by rw [Addr.add_lit];exact hc j hj)]
 rfl
theorem zhg {t:TypeId} {i:TI} (h:T t=some i) (ha:zjn i.desc=false) {w:World} {b o:Nat} {v:Value} (hc:w.cell? ⟨b,o,none⟩=some v) :
  (Instr.loadAt t (.pointer (some ⟨b,o,none⟩))).run P w=.ok v w:=by
 simp only [Instr.loadAt,Instr.sureAddr,Sem.run_bind,Sem.run_pure,Result.andThen_ok,loadVar,zuj hT h,ha];simp [load,Sem.run,hc]
omit hT
theorem zw1 {w:World} {ι:Pl} {R:Nat->Prop} {cs:List AV} {n:Nat} (f:Nat->Value) (hl:cs.length=n) (h:∀ (j:Nat) (a:AV),cs[j]?=some a->Rep w ι R a (f j)):Rep w ι R (.agg cs) (.agg ((List.range n).map f).toArray):=by
 refine .agg cs _ (by simp [hl]) fun j a v ha hv=>?_
 have hj:j < n:=by rw [<-hl];exact (List.getElem?_eq_some_iff.1 ha).1
 rw [List.getElem?_map,List.getElem?_range hj] at hv
 cases hv
 exact h j a ha
theorem zno {w:World} {R:Nat->Prop} {cs:List PV} {n:Nat} (f:Nat->Value) (hl:cs.length=n) (h:∀ (j:Nat) (a:PV),cs[j]?=some a->RepP w R a (f j)):RepP w R (.agg cs) (.agg ((List.range n).map f).toArray):=by
 refine .agg cs _ (by simp [hl]) fun j a v ha hv=>?_
 have hj:j < n:=by rw [<-hl];exact (List.getElem?_eq_some_iff.1 ha).1
 rw [List.getElem?_map,List.getElem?_range hj] at hv
 cases hv
 exact h j a ha
theorem zdr {α:Type} {cs:List α} {j n m:Nat} {a:α} (h:((cs.drop j).take n)[m]?=some a):cs[j + m]?=some a/\m < n:=by
 rw [List.getElem?_take] at h
 split at h
 ·rename_i hm;rw [List.getElem?_drop] at h;exact ⟨h,hm⟩
 ·cases h
include hT
theorem zqz {t:TypeId} {i:TI} (ht:T t=some i) {x:Operand} {env:List AV} {H:AH} {K:AV->Prop} (h:zvz i (aev env x) H K) :
  ∃ a,K a/\∀ (w0:Base) (B:Nat->Prop) (w:World) (ι:Pl) (v:Value),Rel w0 B w ι H->Rep w ι (Rd B ι H) (aev env x) v->∃ u,(Instr.loadAt t v).run P w=.ok u w/\Rep w ι (Rd B ι H) a u:=by
 have fin:∀ a:AV,(∀ (w0:Base) (B:Nat->Prop) (w:World) (ι:Pl) (v:Value),Rel w0 B w ι H->Rep w ι (Rd B ι H) (aev env x) v->∃ u,(Instr.loadAt t v).run P w=.ok u w/\Rep w ι (Rd B ι H) a u) →
   (∀ (w0:Base) (B:Nat->Prop) (w:World) (ι:Pl) (v:Value),Rel w0 B w ι H->Rep w ι (Rd B ι H) (aev env x) v->∃ u,(Instr.loadAt t v).run P w=.ok u w/\Rep w ι (Rd B ι H) a u):=fun _ h=>h
 unfold zvz at h
 split at h
 ·rename_i k j e
  split at h
  ·rename_i cs t' g hk
   split at h
   ·rename_i hag
    split at h
    ·rename_i hle;refine ⟨_,h,fin _ fun w0 B w ι v hR hv=>?_⟩
     rw [e] at hv
     cases hv with
     | own _ _ c s hi =>
      obtain ⟨hg,c',arr,ec,hb,hsz,hcs⟩:=(hR.blk k _ _ s hk hi).2
      cases ec
      have hcs':∀ m a,cs[m]?=some a->Rep w ι (Rd B ι H) a ((arr[m]?).getD undef)/\arr[m]?=some ((arr[m]?).getD undef):=fun m a ha=>by
       obtain ⟨v,h1,_,h2⟩:=hcs m a ha;rw [h1];exact ⟨h2,rfl⟩
      refine ⟨_,zhh hT ht hag (fun m=>(arr[j + m]?).getD undef) fun m hm=>?_,zw1 _ (by simp;omega) fun m a ha=>?_⟩
      ·rw [zsp hb];exact (hcs' (j + m) cs[j + m] (List.getElem?_eq_getElem (by omega))).2
      ·exact (hcs' (j + m) a (zdr ha).1).1
    ·cases h
   ·rename_i hag
    split at h
    ·rename_i a hj;refine ⟨_,h,fin _ fun w0 B w ι v hR hv=>?_⟩
     rw [e] at hv
     cases hv with
     | own _ _ c s hi =>
      obtain ⟨hg,c',arr,ec,hb,hsz,hcs⟩:=(hR.blk k _ _ s hk hi).2
      cases ec
      obtain ⟨v,h1,_,h2⟩:=hcs j a hj;exact ⟨v,zhg hT ht (by simpa using hag) (by rw [zsp hb];exact h1),h2⟩
    ·cases h
  ·cases h
 ·rename_i k r j e
  split at h
  ·rename_i s' rs t' hk;obtain ⟨row,hrow,h⟩:=h
   split at h
   ·rename_i hag
    split at h
    ·rename_i hle;refine ⟨_,h,fin _ fun w0 B w ι v hR hv=>?_⟩
     rw [e] at hv
     cases hv with
     | orw _ _ _ c s hi =>
      obtain ⟨es,hl,hh⟩:=(hR.blk k _ _ s hk hi).2
      rcases hh with ⟨ec,_⟩|⟨c',arr,ec,hb,hz,hcs⟩
      ·cases ec
      ·cases ec
       have hcs':∀ m a,row[m]?=some a->RepP w (Rd B ι H) a ((arr[r * s.1 + m]?).getD undef)/\arr[r * s.1 + m]?=some ((arr[r * s.1 + m]?).getD undef):=fun m a ha=>by
        obtain ⟨v,h1,_,h2⟩:=hcs r m row a hrow ha;rw [h1];exact ⟨h2,rfl⟩
       refine ⟨_,zhh hT ht hag (fun m=>(arr[r * s.1 + (j + m)]?).getD undef) fun m hm=>?_,.p _ _ (zno _ (by simp;omega) fun m a ha=>?_)⟩
       ·rw [zsp hb,Nat.add_assoc];exact (hcs' (j + m) row[j + m] (List.getElem?_eq_getElem (by omega))).2
       ·exact (hcs' (j + m) a (zdr ha).1).1
    ·cases h
   ·rename_i hag
    split at h
    ·rename_i a hj;refine ⟨_,h,fin _ fun w0 B w ι v hR hv=>?_⟩
     rw [e] at hv
     cases hv with
     | orw _ _ _ c s hi =>
      obtain ⟨es,hl,hh⟩:=(hR.blk k _ _ s hk hi).2
      rcases hh with ⟨ec,_⟩|⟨c',arr,ec,hb,hz,hcs⟩
      ·cases ec
      ·cases ec
       obtain ⟨v,h1,_,h2⟩:=hcs r j row a hrow hj;exact ⟨v,zhg hT ht (by simpa using hag) (by rw [zsp hb];exact h1),.p _ _ h2⟩
    ·cases h
  ·cases h
 ·rename_i row e
  split at h
  ·rename_i hag
   split at h
   ·rename_i hle;refine ⟨_,h,fin _ fun w0 B w ι v hR hv=>?_⟩
    rw [e] at hv
    cases hv with
    | p _ _ hv =>
     cases hv with
     | rop _ b off vs hRb hb hc hr =>
      refine ⟨_,zhh hT ht hag vs fun m hm=>?_,.p _ _ (zno _ (by simp;omega) fun m a ha=>?_)⟩
      ·exact (hc m row[m] (List.getElem?_eq_getElem (by omega))).1
      ·rw [List.getElem?_take] at ha
       split at ha
       ·exact hr m a ha
       ·cases ha
   ·cases h
  ·rename_i hag
   split at h
   ·rename_i a rest;refine ⟨_,h,fin _ fun w0 B w ι v hR hv=>?_⟩
    rw [e] at hv
    cases hv with
    | p _ _ hv =>
     cases hv with
     | rop _ b off vs hRb hb hc hr =>
      exact ⟨_,zhg hT ht (by simpa using hag) (by simpa using (hc 0 a rfl).1),.p _ _ (hr 0 a rfl)⟩
   ·cases h
 ·cases h
theorem zso {t:TypeId} {i:TI} (ht:T t=some i) {o:Oper} {x:Operand} (ho:o.op=.load t x) {env:List AV} {H:AH} {K:AV->Prop} (h:zvz i (aev env x) H K):∃ a,K a/\QS P G o env H a:=by
 have hx:x ∈ o.op.operands:=by rw [ho];simp [Op.operands]
 obtain ⟨a,hK,hh⟩:=zqz hT ht h;refine ⟨a,hK,za7 fun w0 B w ι ρ hR hG hρ=>?_⟩
 obtain ⟨u,h1,h2⟩:=hh w0 B w ι (ρ x) hR (hρ x hx);exact ⟨u,by simp [execOp,ho,h1],h2⟩
theorem zq2 {s:TypeId} {i j:TI} {fs:Array Field} {fd:Field} {f:Nat} (ht:T s=some i) (hd:i.desc=.struct fs) (hf:fs[f]?=some fd) (hj:T fd.type=some j) (h0:¬ j.size=0)
  {o:Oper} {x:Operand} (ho:o.op=.fieldAddr s x f) {env:List AV} {H:AH} {K:AV->Prop} (h:zzi fd.offset (aev env x) K):∃ a,K a/\QS P G o env H a:=by
 have hx:x ∈ o.op.operands:=by rw [ho];simp [Op.operands]
 have run:∀ (b off:Nat) (w:World),(Instr.fieldAt s (.pointer (some ⟨b,off,none⟩)) f).run P w=.ok (.pointer (some ⟨b,off + fd.offset,none⟩)) w:=by
  intro b off w;simp only [Instr.fieldAt,Sem.run_bind,zco hT ht,Result.andThen_ok,hd,hf,Instr.sureAddr,Sem.run_pure,fieldPlace,zie hT hj,h0,if_false,Addr.add_lit]
 unfold zzi at h
 split at h
 ·rename_i k m e;refine ⟨_,h,za7 fun w0 B w ι ρ hR hG hρ=>?_⟩
  have hv:=hρ x hx;rw [e] at hv;generalize hq:ρ x=v at hv
  cases hv with
  | own _ _ c s' hi=>exact ⟨_,by simp [execOp,ho,hq,run],.own k _ c s' hi⟩
 ·rename_i k r m e;refine ⟨_,h,za7 fun w0 B w ι ρ hR hG hρ=>?_⟩
  have hv:=hρ x hx;rw [e] at hv;generalize hq:ρ x=v at hv
  cases hv with
  | orw _ _ _ c s' hi=>exact ⟨.pointer (some ⟨c,r * s'.1 + m + fd.offset,none⟩),by simp [execOp,ho,hq,run],by rw [Nat.add_assoc];exact .orw k r _ c s' hi⟩
 ·rename_i row e;refine ⟨_,h,za7 fun w0 B w ι ρ hR hG hρ=>?_⟩
  have hv:=hρ x hx;rw [e] at hv;generalize hq:ρ x=v at hv
  cases hv with
  | p _ _ hv =>
   cases hv with
   | rop _ b off vs hRb hb hc hr =>
    refine ⟨_,by simp only [execOp,ho,hq,Sem.run_bind,run,Result.andThen_ok,Sem.run_pure],.p _ _ (.rop _ b (off + fd.offset) (fun m=>vs (fd.offset + m)) hRb hb (fun m a ha=>?_) fun m a ha=>?_)⟩
    ·rw [List.getElem?_drop] at ha;rw [Nat.add_assoc];exact hc _ a ha
    ·rw [List.getElem?_drop] at ha;exact hr _ a ha
 ·cases h
theorem zv3 {t e:TypeId} {len:Nat} {ti te:TI} (ht:T t=some ti) (hd:ti.desc=.array len e) (he:T e=some te) (h1:te.size=1)
  {o:Oper} {x y:Operand} (ho:o.op=.indexAddr t x y) {env:List AV} {H:AH} {K:AV->Prop} (h:aarr zas len (aev env x) (aev env y) K):∃ a,K a/\QS P G o env H a:=by
 have hx:x ∈ o.op.operands:=by rw [ho];simp [Op.operands]
 have hy:y ∈ o.op.operands:=by rw [ho];simp [Op.operands]
 have run:∀ (b off:Nat) (k:IntKind) (n:Int) (w:World),0<=n->n < len->(Instr.indexAt t (.pointer (some ⟨b,off,none⟩)) (.int k n)).run P w=.ok (.pointer (some ⟨b,off + n.toNat,none⟩)) w:=by
  intro b off k n w h0 h2;simp only [Instr.indexAt,Sem.run_bind,zco hT ht,Result.andThen_ok,hd,asIntOf,Instr.sureAddr,Sem.run_pure,h0,h2,and_self,if_true,zie hT he,h1,Nat.mul_one,Addr.add_lit]
 unfold aarr at h
 split at h
 ·rename_i k j kk n e e';obtain ⟨h0,h2,h⟩:=h;refine ⟨_,h,za7 fun w0 B w ι ρ hR hG hρ=>?_⟩
  have hv:=hρ x hx;have hu:=hρ y hy;rw [e] at hv;rw [e'] at hu;generalize hq:ρ x=v at hv;generalize hq':ρ y=u at hu
  cases hu with
  | p _ _ hu =>
   cases hu
   cases hv with
   | own _ _ c s' hi=>exact ⟨_,by simp only [execOp,ho,hq,hq',Sem.run_bind,run _ _ _ n w h0 h2,Result.andThen_ok,Sem.run_pure];rfl,.own k _ c s' hi⟩
 ·cases h
theorem zq0 {t e:TypeId} {ti te:TI} (ht:T t=some ti) (hd:ti.desc=.slice e) (he:T e=some te)
  {o:Oper} {x y:Operand} (ho:o.op=.indexAddr t x y) {env:List AV} {H:AH} {K:AV->Prop} (h:zzh zas te.size (aev env x) (aev env y) H K):∃ a,K a/\QS P G o env H a:=by
 have hx:x ∈ o.op.operands:=by rw [ho];simp [Op.operands]
 have hy:y ∈ o.op.operands:=by rw [ho];simp [Op.operands]
 have run:∀ (b off len cap:Nat) (k:IntKind) (n:Int) (w:World),0<=n->n < len->(Instr.indexAt t (.slice (some ⟨b,off,none⟩) len cap) (.int k n)).run P w=.ok (.pointer (some ⟨b,off + n.toNat * te.size,none⟩)) w:=by
  intro b off len cap k n w h0 h1;simp only [Instr.indexAt,Sem.run_bind,zco hT ht,Result.andThen_ok,hd,asIntOf,Sem.run_pure,h0,h1,and_self,if_true,zie hT he,Addr.add_lit]
 unfold zzh at h;simp only [zas] at h
 split at h
 ·rename_i kk n en
  split at h
  ·rename_i s' rows e';obtain ⟨rfl,h0,row,hrow,h⟩:=h;refine ⟨_,h,za7 fun w0 B w ι ρ hR hG hρ=>?_⟩
   have hv:=hρ x hx;have hu:=hρ y hy;rw [e'] at hv;rw [en] at hu;generalize hq:ρ x=v at hv;generalize hq':ρ y=u at hu
   cases hu with
   | p _ _ hu =>
    cases hu
    have hlt:n < rows.length:=by have:=(List.getElem?_eq_some_iff.1 hrow).1;omega
    cases hv with
    | p _ _ hv =>
     cases hv with
     | ro0=>simp at hlt;omega
     | ro _ _ b off cap vs hRb hb hcap hs hc hr =>
      refine ⟨_,by simp only [execOp,ho,hq,hq',Sem.run_bind,run _ _ _ _ _ n w h0 hlt,Result.andThen_ok,Sem.run_pure],.p _ _ (.rop row b (off + n.toNat * te.size) (fun m=>vs n.toNat m) hRb hb (fun m a ha=>?_) fun m a ha=>?_)⟩
      ·rw [Nat.add_assoc];exact hc _ m row a hrow ha
      ·exact hr _ m row a hrow ha
  ·rename_i k i0 len e'
   split at h
   ·rename_i s' rs t' hk;obtain ⟨rfl,h0,h1,h⟩:=h;refine ⟨_,h,za7 fun w0 B w ι ρ hR hG hρ=>?_⟩
    have hv:=hρ x hx;have hu:=hρ y hy;rw [e'] at hv;rw [en] at hu;generalize hq:ρ x=v at hv;generalize hq':ρ y=u at hu
    cases hu with
    | p _ _ hu =>
     cases hu
     cases hv with
     | osl0=>omega
     | osl _ _ _ c cap s hi hn hm hz =>
      have es:=(hR.blk k _ _ s hk hi).2.1;refine ⟨_,by simp only [execOp,ho,hq,hq',Sem.run_bind,run _ _ _ _ _ n w h0 h1,Result.andThen_ok,Sem.run_pure];rfl,?_⟩
      have:=Rep.orw (w:=w) (ι:=ι) (R:=Rd B ι H) k (i0 + n.toNat) 0 c s hi
      rw [Nat.add_mul,Nat.add_zero] at this;rw [es];exact this
   ·cases h
  ·cases h
 ·cases h
theorem zig {t:TypeId} {i:TI} (h:T t=some i) (hd:i.desc=.bool) (a b:Bool) (w:World):(Op.equal t (.bool a) (.bool b)).run P w=.ok (a == b) w:=by
 unfold Op.equal Op.maxDepth;rw [show (10000:Nat)=9999 + 1 from rfl,Op.equalIn];simp only [Sem.run_bind,zco hT h,Result.andThen_ok,hd];rfl
theorem zm4 {t:TypeId} {ti:TI} (ht:T t=some ti) (hd:ti.desc=.string) {o:Oper} {x y:Operand} (ho:o.op=.index t x y) {env:List AV} {H:AH} {K:AV->Prop} {s:ByteArray} {kk:IntKind} {n:Int}
  (ex:aev env x=.p (.v (.string s))) (ey:aev env y=.p (.v (.int kk n))) {z:Int} (h0:0<=n) (hz:zas.get s n.toNat=some z) (h:K (.p (.v (.int .u8 z)))):∃ a,K a/\QS P G o env H a:=by
 refine ⟨_,h,za7 fun w0 B w ι ρ hR hG hρ=>?_⟩
 have hx:=hρ x (by rw [ho];simp [Op.operands])
 have hy:=hρ y (by rw [ho];simp [Op.operands])
 rw [ex] at hx;rw [ey] at hy;have hx':=zbk hx;have hy':=zbk hy;obtain ⟨b,hb,rfl⟩:∃ b,s.data.toList[n.toNat]?=some b/\((b.toNat:Nat):Int)=z:=by
  simp only [zas] at hz
  cases hx:s.data.toList[n.toNat]? with
  | none=>rw [hx] at hz;cases hz
  | some b=>rw [hx] at hz;exact ⟨b,rfl,by simpa using hz⟩
 have hs:s[n.toNat]?=some b:=by
  have h1:=(List.getElem?_eq_some_iff.1 hb).1;have h2:n.toNat < s.size:=by simpa using h1
  rw [getElem?_pos s n.toNat h2];have h3:=(List.getElem?_eq_some_iff.1 hb).2;rw [<-h3];rfl
 refine ⟨_,?_,.p _ _ (.v _)⟩;simp only [execOp,ho,hx',hy',Instr.index,asIntOf,Sem.run_bind,Sem.run_pure,Result.andThen_ok,zco hT ht,hd,h0,if_true,hs]
omit hT
theorem zm9 {o:Oper} {x:Operand} {i:Nat} (ho:o.op=.extract x i) {env:List AV} {H:AH} {K:AV->Prop} (h:zpi (aev env x) i K):∃ a,K a/\QS P G o env H a:=by
 have hx:x ∈ o.op.operands:=by rw [ho];simp [Op.operands]
 unfold zpi at h
 split at h
 ·rename_i cs e
  split at h
  ·rename_i a ha;refine ⟨_,h,za7 fun w0 B w ι ρ hR hG hρ=>?_⟩
   have hv:=hρ x hx;rw [e] at hv;generalize hq:ρ x=v at hv
   cases hv with
   | tup _ vs hl hr =>
    have hlt:i < vs.length:=by have:=(List.getElem?_eq_some_iff.1 ha).1;omega
    refine ⟨vs[i],?_,hr i a _ ha (List.getElem?_eq_getElem hlt)⟩;simp [execOp,ho,hq,Instr.extract,List.getElem?_eq_getElem hlt]
  ·cases h
 ·rename_i cs e
  split at h
  ·rename_i a ha;refine ⟨_,h,za7 fun w0 B w ι ρ hR hG hρ=>?_⟩
   have hv:=hρ x hx;rw [e] at hv;generalize hq:ρ x=v at hv
   cases hv with
   | p _ _ hv =>
    cases hv with
    | tup _ vs hl hr =>
     have hlt:i < vs.length:=by have:=(List.getElem?_eq_some_iff.1 ha).1;omega
     refine ⟨vs[i],?_,.p _ _ (hr i a _ ha (List.getElem?_eq_getElem hlt))⟩;simp [execOp,ho,hq,Instr.extract,List.getElem?_eq_getElem hlt]
  ·cases h
 ·cases h
include hT in
theorem zsm {o:Oper} {s:TypeId} {x:Operand} {f:Nat} {i:TI} {fs:Array Field} {fd:Field} {j:TI} (ht:T s=some i) (hd:i.desc=.struct fs) (hf:fs[f]?=some fd) (hj:T fd.type=some j) (h0:zjn j.desc=false) (ho:o.op=.field s x f) {env:List AV} {H:AH} {K:AV->Prop} (h:apart (aev env x) fd.offset K):∃ a,K a/\QS P G o env H a:=by
 have hx:x ∈ o.op.operands:=by rw [ho];simp [Op.operands]
 unfold apart at h
 split at h
 ·rename_i cs e
  split at h
  ·rename_i a ha;refine ⟨_,h,za7 fun w0 B w ι ρ hR hG hρ=>?_⟩
   have hv:=hρ x hx;rw [e] at hv;generalize hq:ρ x=v at hv
   cases hv with
   | agg _ vs hl hr =>
    have hlt:fd.offset < vs.length:=by have:=(List.getElem?_eq_some_iff.1 ha).1;omega
    refine ⟨vs[fd.offset],?_,hr _ a _ ha (List.getElem?_eq_getElem hlt)⟩;simp [execOp,ho,hq,Instr.field,zco hT ht,hd,hf,asAgg,part,zuj hT hj,h0,List.getElem?_eq_getElem hlt]
  ·cases h
 ·rename_i cs e
  split at h
  ·rename_i a ha;refine ⟨_,h,za7 fun w0 B w ι ρ hR hG hρ=>?_⟩
   have hv:=hρ x hx;rw [e] at hv;generalize hq:ρ x=v at hv
   cases hv with
   | p _ _ hv =>
    cases hv with
    | agg _ vs hl hr =>
     have hlt:fd.offset < vs.length:=by have:=(List.getElem?_eq_some_iff.1 ha).1;omega
     refine ⟨vs[fd.offset],?_,.p _ _ (hr _ a _ ha (List.getElem?_eq_getElem hlt))⟩;simp [execOp,ho,hq,Instr.field,zco hT ht,hd,hf,asAgg,part,zuj hT hj,h0,List.getElem?_eq_getElem hlt]
  ·cases h
 ·cases h
theorem znm {o:Oper} {env:List AV} {H:AH} {K:AV->Prop} {s:Sem Value} (hs:∀ (w0:Base) (B:Nat->Prop) (w:World) (ι:Pl) (ρ:Operand->Value),Rel w0 B w ι H->(∀ x,x ∈ o.op.operands->Rep w ι (Rd B ι H) (aev env x) (ρ x)) →
   (execOp ρ o).run P w=(s.run P w).andThen fun v w=>.ok (.value v) w) (h:z2l P s fun v=>K (.p (.v v))):∃ a,K a/\QS P G o env H a:=by
 obtain ⟨v,hk,hr⟩:=z0d P s _ h;refine ⟨_,hk,za7 fun w0 B w ι ρ hR hG hρ=>⟨v,?_,.p _ _ (.v _)⟩⟩
 rw [hs w0 B w ι ρ hR hρ,hr];rfl
include hT
theorem zwx {t:TypeId} {i:TI} (ht:T t=some i) {x y:PV} {b:Bool} (hk:(match i.desc,x with
    | .int _,.v (.int _ _)=>true
    | .string,.v (.string _)=>true
    | .bool,.v (.bool _)=>true
    | _,_=>false)=true) (he:eqP zas x y=some b):∃ u v,x=.v u/\y=.v v/\(zjn i.desc=false)/\∀ (d:Nat) (w:World),(Op.equalIn (d + 1) t u v).run P w=.ok b w:=by
 unfold eqP at he
 split at he
 ·rename_i k a k' b'
  split at he
  ·rename_i hkk;subst hkk
   cases he
   cases hd:i.desc <;> rw [hd] at hk <;> simp at hk
   refine ⟨_,_,rfl,rfl,rfl,fun d w=>?_⟩
   rw [Op.equalIn];simp only [Sem.run_bind,zco hT ht,Result.andThen_ok,hd,if_true];rfl
  ·cases he
 ·rename_i a b'
  cases he
  cases hd:i.desc <;> rw [hd] at hk <;> simp at hk
  refine ⟨_,_,rfl,rfl,rfl,fun d w=>?_⟩
  rw [Op.equalIn];simp only [Sem.run_bind,zco hT ht,Result.andThen_ok,hd];rw [z82];rfl
 ·rename_i a b'
  cases he
  cases hd:i.desc <;> rw [hd] at hk <;> simp at hk
  refine ⟨_,_,rfl,rfl,rfl,fun d w=>?_⟩
  rw [Op.equalIn];simp only [Sem.run_bind,zco hT ht,Result.andThen_ok,hd];rfl
 ·cases he
theorem zkx {pxs pys:List PV} {xs ys:List Value} (hx:∀ (j:Nat) (v:Value),pxs[j]?=some (.v v)->xs[j]?=some v) (hy:∀ (j:Nat) (v:Value),pys[j]?=some (.v v)->ys[j]?=some v) (d:Nat) (w:World):∀ (fs:List Field) (r:Bool),zgp zas T fs pxs pys=some r →
  (forIn fs ((none : Option Bool), ()) fun f __s => (if f.name ≠ "_" then do
    let __do_lift<-part f.type xs.toArray f.offset
    let __do_lift_1<-part f.type ys.toArray f.offset
    let __do_lift<-Op.equalIn (d + 1) f.type __do_lift __do_lift_1
    if (!__do_lift)=true then pure (ForInStep.done (some false,())) else pure (ForInStep.yield (none,()))
   else pure (ForInStep.yield (none,())):Sem (ForInStep (Option Bool × Unit)))).run P w=.ok ((if r then none else some false),()) w
 | [],r,h=>by
  simp [zgp] at h;subst h;rfl
 | f :: fs,r,h=>by
  unfold zgp at h
  split at h
  ·cases h
  rename_i hname
  split at h
  ·rename_i i x y hi hxo hyo
   split at h
   ·rename_i b r' hk hb hr'
    cases h
    obtain ⟨u,v,rfl,rfl,hag,hrun⟩:=zwx hT hi hk hb;have h1:=hx _ _ hxo;have h2:=hy _ _ hyo;have ih:=zkx hx hy d w fs r' hr';have p1:(part f.type xs.toArray f.offset).run P w=.ok u w:=by simp [part,zuj hT hi,hag,h1]
    have p2:(part f.type ys.toArray f.offset).run P w=.ok v w:=by simp [part,zuj hT hi,hag,h2]
    rw [List.forIn_cons];simp only [ne_eq,hname,not_false_eq_true,if_true,Sem.run_bind,p1,p2,Result.andThen_ok,hrun]
    cases b with
    | true =>
     simp only [Bool.not_true,Bool.false_eq_true,if_false,Sem.run_pure,Result.andThen_ok,Bool.true_and];exact ih
    | false =>
     simp only [Bool.not_false,if_true,Sem.run_pure,Result.andThen_ok,Bool.false_and];rfl
   ·cases h
  ·cases h
theorem zi4 {t:TypeId} {i:TI} (ht:T t=some i) {fs:Array Field} (hd:i.desc=.struct fs) (hc:i.cmp=true) {pxs pys:List PV} {xs ys:List Value} (hx:∀ (j:Nat) (v:Value),pxs[j]?=some (.v v)->xs[j]?=some v) (hy:∀ (j:Nat) (v:Value),pys[j]?=some (.v v)->ys[j]?=some v)
  {r:Bool} (h:zgp zas T fs.toList pxs pys=some r) (w:World):(Op.equal t (.agg xs.toArray) (.agg ys.toArray)).run P w=.ok r w:=by
 unfold Op.equal Op.maxDepth;rw [show (10000:Nat)=9998 + 1 + 1 from rfl,Op.equalIn];simp only [Sem.run_bind,zco hT ht,Result.andThen_ok,hd,program,Sem.run];rw [((hT t i ht).2 hc).1];simp only [Bool.false_eq_true,if_false];rw [<-Array.forIn_toList];simp only [Sem.run_bind];rw [zkx hT hx hy 9998 w fs.toList r h]
 cases r <;> rfl
theorem zhi {t:TypeId} {i:TI} (ht:T t=some i) (hc:i.cmp=true) (op:BinOp) (x y:Operand) (xs ys:Array Value) (w:World):(eqGuard op t x y (.agg xs) (.agg ys)).run P w=.ok () w:=by
 have h:=((hT t i ht).2 hc).2
 cases op <;> simp [eqGuard,program,Sem.run,h]
theorem zv2 {o:Oper} {op:BinOp} {t ty:TypeId} {x y:Operand} (ho:o.op=.binOp op t x y ty) {env:List AV} {H:AH} {K:AV->Prop} (h:abin P zas T op t (aev env x) (aev env y) K):∃ a,K a/\QS P G o env H a:=by
 have hx:x ∈ o.op.operands:=by rw [ho];simp [Op.operands]
 have hy:y ∈ o.op.operands:=by rw [ho];simp [Op.operands]
 unfold abin at h
 split at h
 ·rename_i a b ea eb
  split at h
  ·rename_i i hi
   split at h
   ·rename_i hd;refine ⟨_,h,za7 fun w0 B w ι ρ hR hG hρ=>⟨_,?_,.p _ _ (.v _)⟩⟩
    have h1:=hρ x hx;have h2:=hρ y hy;rw [ea] at h1;rw [eb] at h2;simp only [execOp,ho,zbk h1,zbk h2,Sem.run_bind];rw [show (eqGuard .eql t x y (.bool a) (.bool b)).run P w=.ok () w from rfl];rw [show binOp .eql t (.bool a) (.bool b)=(do pure (.bool (← Op.equal t (.bool a) (.bool b)))) from rfl]
    simp only [Sem.run_bind,Result.andThen_ok,zig hT hi hd];rfl
   ·rename_i hd;refine ⟨_,h,za7 fun w0 B w ι ρ hR hG hρ=>⟨_,?_,.p _ _ (.v _)⟩⟩
    have h1:=hρ x hx;have h2:=hρ y hy;rw [ea] at h1;rw [eb] at h2;simp only [execOp,ho,zbk h1,zbk h2,Sem.run_bind];rw [show (eqGuard .neq t x y (.bool a) (.bool b)).run P w=.ok () w from rfl];rw [show binOp .neq t (.bool a) (.bool b)=(do pure (.bool (!(← Op.equal t (.bool a) (.bool b))))) from rfl]
    simp only [Sem.run_bind,Result.andThen_ok,zig hT hi hd];rfl
   ·cases h
  ·cases h
 ·rename_i k a k' b ea eb;have hrun:∀ (w0:Base) (B:Nat->Prop) (w:World) (ι:Pl) (ρ:Operand->Value),(∀ x,x ∈ o.op.operands->Rep w ι (Rd B ι H) (aev env x) (ρ x))->(execOp ρ o).run P w=((binOp op t (.int k a) (.int k' b)).run P w).andThen fun v w=>.ok (.value v) w:=by
   intro w0 B w ι ρ hρ;have h1:=hρ x hx;have h2:=hρ y hy;rw [ea] at h1;rw [eb] at h2;have hg:(eqGuard op t x y (.int k a) (.int k' b)).run P w=.ok () w:=by
    unfold eqGuard
    split <;> rfl
   simp [execOp,ho,zbk h1,zbk h2,hg]
  split at h
  ·obtain ⟨h0,h⟩:=h;have h0':¬ b < 0:=by have:(0:Int)<=b:=h0;omega
   exact ⟨_,h,za7 fun w0 B w ι ρ hR hG hρ=>⟨_,by rw [hrun w0 B w ι ρ hρ];simp only [binOp,Op.shift,h0',if_false];rfl,.p _ _ (.v _)⟩⟩
  ·obtain ⟨h0,h⟩:=h;have h0':¬ b < 0:=by have:(0:Int)<=b:=h0;omega
   exact ⟨_,h,za7 fun w0 B w ι ρ hR hG hρ=>⟨_,by rw [hrun w0 B w ι ρ hρ];simp only [binOp,Op.shift,h0',if_false];rfl,.p _ _ (.v _)⟩⟩
  split at h
  ·rename_i hkk;subst hkk;have fin:∀ v,K (.p (.v v))->(∀ w,(binOp op t (.int k a) (.int k b)).run P w=.ok v w)->∃ a,K a/\QS P G o env H a:=fun v hv hr =>
    ⟨_,hv,za7 fun w0 B w ι ρ hR hG hρ=>⟨v,by rw [hrun w0 B w ι ρ hρ,hr];rfl,.p _ _ (.v _)⟩⟩
   unfold z89 at h
   split at h
   ·exact fin _ h fun w=>by simp [binOp,Op.intArith,zas]
   ·exact fin _ h fun w=>by simp [binOp,Op.intArith,zas]
   ·exact fin _ h fun w=>by simp [binOp,Op.intArith,zas]
   ·exact fin _ h.2 fun w=>by simp [binOp,Op.intDiv,zas,h.1]
   ·exact fin _ h.2 fun w=>by simp [binOp,Op.intDiv,h.1,zas]
   ·exact fin _ h fun w=>by simp only [binOp,ne_eq,not_true_eq_false,if_false,Op.intCmp];rfl
   ·exact fin _ h fun w=>by simp only [binOp,ne_eq,not_true_eq_false,if_false,Op.intCmp];rfl
   ·exact fin _ h fun w=>by simp only [binOp,ne_eq,not_true_eq_false,if_false,Op.intCmp];rfl
   ·exact fin _ h fun w=>by simp only [binOp,ne_eq,not_true_eq_false,if_false,Op.intCmp];rfl
   ·exact fin _ h fun w=>by simp only [binOp,ne_eq,not_true_eq_false,if_false,Op.intCmp];rfl
   ·exact fin _ h fun w=>by simp only [binOp,ne_eq,not_true_eq_false,if_false,Op.intCmp];rfl
   ·exact fin _ h fun w=>by simp [binOp,Op.intBits,zas]
   ·exact fin _ h fun w=>by simp [binOp,Op.intBits,zas]
   ·exact fin _ h fun w=>by simp [binOp,Op.intBits,zas]
   ·exact znm (fun w0 B w ι ρ hR hρ=>hrun w0 B w ι ρ hρ) h
  ·cases h
 ·rename_i a b ea eb;have hrun:∀ (w0:Base) (B:Nat->Prop) (w:World) (ι:Pl) (ρ:Operand->Value),(∀ x,x ∈ o.op.operands->Rep w ι (Rd B ι H) (aev env x) (ρ x))->(execOp ρ o).run P w=((binOp op t (.string a) (.string b)).run P w).andThen fun v w=>.ok (.value v) w:=by
   intro w0 B w ι ρ hρ;have h1:=hρ x hx;have h2:=hρ y hy;rw [ea] at h1;rw [eb] at h2;have hg:(eqGuard op t x y (.string a) (.string b)).run P w=.ok () w:=by
    unfold eqGuard
    split <;> rfl
   simp [execOp,ho,zbk h1,zbk h2,hg]
  have fin:∀ v,K (.p (.v v))->(∀ w,(binOp op t (.string a) (.string b)).run P w=.ok v w)->∃ a,K a/\QS P G o env H a:=fun v hv hr =>
   ⟨_,hv,za7 fun w0 B w ι ρ hR hG hρ=>⟨v,by rw [hrun w0 B w ι ρ hρ,hr];rfl,.p _ _ (.v _)⟩⟩
  unfold z87 at h
  split at h
  ·refine fin _ h.2 fun w=>?_
   have h1:((a.size:Nat):Int) + ((b.size:Nat):Int)<=9223372036854775807:=h.1;have h2:¬ (((a.size + b.size:Nat):Int) > IntKind.i64.max):=by rw [IntKind.max_i64];omega
   simp only [binOp,Op.stringOp,h2,if_false];rfl
  ·exact fin _ h fun w=>by rw [show zas.eq a b=(a.toList == b.toList) from (zju a b).symm];rfl
  ·exact fin _ h fun w=>by rw [show zas.eq a b=(a.toList == b.toList) from (zju a b).symm];rfl
  ·exact fin _ h fun w=>rfl
  ·exact fin _ h fun w=>by rw [show zas.eq a b=(a.toList == b.toList) from (zju a b).symm];rfl
  ·exact fin _ h fun w=>by rw [show zas.eq a b=(a.toList == b.toList) from (zju a b).symm];rfl
  ·exact fin _ h fun w=>rfl
  ·cases h
 ·split at h
  ·rename_i pxs pys i hax hay ht
   split at h
   ·rename_i fs hd hcm
    split at h
    ·rename_i r hr;refine ⟨_,h,za7 fun w0 B w ι ρ hR hG hρ=>⟨_,?_,.p _ _ (.v _)⟩⟩
     obtain ⟨xs,ex,hxs⟩:=zls hax (hρ x hx);obtain ⟨ys,ey,hys⟩:=zls hay (hρ y hy);simp only [execOp,ho,ex,ey,Sem.run_bind,zhi hT ht hcm,Result.andThen_ok];rw [show binOp .eql t (.agg xs.toArray) (.agg ys.toArray)=(do pure (.bool (← Op.equal t (.agg xs.toArray) (.agg ys.toArray)))) from rfl]
     simp only [Sem.run_bind,Result.andThen_ok,zi4 hT ht hd hcm hxs hys hr];rfl
    ·cases h
   ·rename_i fs hd hcm
    split at h
    ·rename_i r hr;refine ⟨_,h,za7 fun w0 B w ι ρ hR hG hρ=>⟨_,?_,.p _ _ (.v _)⟩⟩
     obtain ⟨xs,ex,hxs⟩:=zls hax (hρ x hx);obtain ⟨ys,ey,hys⟩:=zls hay (hρ y hy);simp only [execOp,ho,ex,ey,Sem.run_bind,zhi hT ht hcm,Result.andThen_ok];rw [show binOp .neq t (.agg xs.toArray) (.agg ys.toArray)=(do pure (.bool (!(← Op.equal t (.agg xs.toArray) (.agg ys.toArray))))) from rfl]
     simp only [Sem.run_bind,Result.andThen_ok,zi4 hT ht hd hcm hxs hys hr];rfl
    ·cases h
   ·cases h
  ·cases h
omit hT in
theorem zsi {o:Oper} {op:UnOp} {t:TypeId} {x:Operand} (ho:o.op=.unOp op t x) {env:List AV} {H:AH} {K:AV->Prop} (h:z5q P zas op (aev env x) K):∃ a,K a/\QS P G o env H a:=by
 have hx:x ∈ o.op.operands:=by rw [ho];simp [Op.operands]
 unfold z5q at h
 split at h
 ·rename_i k n e
  split at h
  ·refine ⟨_,h,za7 fun w0 B w ι ρ hR hG hρ=>⟨_,?_,.p _ _ (.v _)⟩⟩
   have hv:=hρ x hx;rw [e] at hv;simp [execOp,ho,zbk hv,Op.unary,Op.intArith,zas]
  ·refine znm (fun w0 B w ι ρ hR hρ=>?_) h
   have hv:=hρ x hx;rw [e] at hv;simp [execOp,ho,zbk hv]
 ·rename_i b e
  split at h
  ·refine ⟨_,h,za7 fun w0 B w ι ρ hR hG hρ=>⟨_,?_,.p _ _ (.v _)⟩⟩
   have hv:=hρ x hx;rw [e] at hv;simp [execOp,ho,zbk hv,Op.unary]
  ·cases h
 ·cases h
omit hT in
theorem zvn {w:World} {R:Nat->Prop} {src dst e:TypeId} (hs:P.underlying src=some (.slice e)) (he:P.underlying e=some (.int .u8)) (hd:P.underlying dst=some .string) {bs:ByteArray} {v:Value} (h:RepP w R (.ro 1 (zal bs)) v):(convert src dst v).run P w=.ok (.string bs) w:=by
 have hlen:(zal bs).length=bs.data.toList.length:=by simp [zal]
 generalize hr:zal bs=rows at h
 cases h with
 | ro0 _ A cap =>
  have hb0:bs=⟨#[]⟩:=by
   obtain ⟨⟨l⟩⟩:=bs;rw [hr] at hlen;have hl:l=[]:=List.eq_nil_of_length_eq_zero (by simpa using hlen.symm)
   subst hl;rfl
  subst hb0
  cases A with
  | none =>
   simp [convert,run_underlying hs,run_underlying hd,run_underlying he,Conv.bytesToString];rfl
  | some a=>exact run_convert_bytes_back (P:=P) w src dst e a cap [] hs he hd (fun j hj=>by simp at hj)
 | ro _ _ b off cap vs hR' hb hcap hs' hc hq' =>
  subst hr
  have:=run_convert_bytes_back (P:=P) w src dst e ⟨b,off,none⟩ cap bs.data.toList hs he hd (fun j hj=>by
   have hq:(zal bs)[j]?=some [.v (.int .u8 (bs.data.toList[j].toNat:Nat))]:=by
    unfold zal;rw [List.getElem?_map,List.getElem?_eq_getElem hj];rfl
   have h2:=(hc j 0 _ _ hq rfl).1;have h3:=hq' j 0 _ _ hq rfl;generalize vs j 0=u at h2 h3
   cases h3
   rw [Addr.add_lit];rw [show off + j=off + (j * 1 + 0) by omega]
   exact h2)
  rw [hlen];exact this
theorem zsq {o:Oper} {src dst:TypeId} {x:Operand} (ho:o.op=.convert src dst x) {env:List AV} {H:AH} {K:AV->Prop} (h:z5x zas T dst src (aev env x) K):∃ a,K a/\QS P G o env H a:=by
 have hx:x ∈ o.op.operands:=by rw [ho];simp [Op.operands]
 unfold z5x at h
 split at h
 ·rename_i i j k n hi hj e
  split at h
  ·rename_i hd;refine ⟨_,h,za7 fun w0 B w ι ρ hR hG hρ=>⟨_,?_,.p _ _ (.v _)⟩⟩
   have h1:=hρ x hx;rw [e] at h1;simp [execOp,ho,zbk h1,convert,zco hT hi,zco hT hj,hd,Conv.intToString,zas]
  ·rename_i k' hd;refine ⟨_,h,za7 fun w0 B w ι ρ hR hG hρ=>⟨_,?_,.p _ _ (.v _)⟩⟩
   have h1:=hρ x hx;rw [e] at h1;simp [execOp,ho,zbk h1,convert,zco hT hi,zco hT hj,hd,Conv.intToInt,zas]
  ·cases h
 ·rename_i i j s hi hj e
  split at h
  ·rename_i hd;refine ⟨_,h,za7 fun w0 B w ι ρ hR hG hρ=>⟨_,?_,.p _ _ (.v _)⟩⟩
   have h1:=hρ x hx;rw [e] at h1;simp [execOp,ho,zbk h1,convert,zco hT hi,zco hT hj,hd]
  ·rename_i e0 hd
   split at h
   ·rename_i te he
    split at h
    ·rename_i hde;obtain ⟨hsz,h⟩:=h;refine ⟨_,h,fun w0 B w ι ρ hR hG hρ hf=>?_⟩
     have h1:=hρ x hx;rw [e] at h1;have hsz':s.size<=70368744177664:=by
      have:((s.size:Nat):Int)<=70368744177664:=hsz
      omega
     have hlen:=zrn s;have hdst:P.underlying dst=some (.slice e0):=by rw [(hT _ _ hi).1.1,hd]
     have hel:P.underlying e0=some (.int .i32):=by rw [(hT _ _ he).1.1,hde]
     have hrun:(execOp ρ o).run P w=.ok (.value (.slice (some ⟨w.heap.size,0,none⟩) (zbc s).length (grownCap w (zbc s).length 0 e0))) (w.drew.alloc (.cells (((zbc s).map (Value.int .i32)).toArray++Array.replicate (grownCap w (zbc s).length 0 e0 - (zbc s).length) (.int .i32 0)) e0)):=by
      cases hk:j.desc with
      | string =>
       have hsrc:P.underlying src=some .string:=by rw [(hT _ _ hj).1.1,hk]
       have hc:=run_runes_of_string (P:=P) w src dst e0 s hsrc hdst hel (by rw [zhw];simp;omega)
       rw [zhw] at hc;simp only [List.size_toArray,lLM] at hc;simp [execOp,ho,zbk h1,hc]
      | _ =>
       have hc:(convert src dst (.string s)).run P w=(convert dst dst (.string s)).run P w:=by
        simp [convert,zco hT hi,zco hT hj,hd,hk]
       simp [execOp,ho,zbk h1,convert,zco hT hi,zco hT hj,hd,hk,run_underlying hel,Conv.stringToRunes,Question.forced,newRow,grownCap,zhw]
     rw [hrun];have hgr:Gr w (w.drew.alloc (.cells (((zbc s).map (Value.int .i32)).toArray++Array.replicate (grownCap w (zbc s).length 0 e0 - (zbc s).length) (.int .i32 0)) e0)):=((Below.refl _ w).drew).alloc (nR _) _;refine ⟨hgr,.p _ _ ?_⟩;have hnb:Rd B ι H w.heap.size:=⟨hR.fut _ (nR _),fun ho=>by have:=hR.lt ho;omega⟩
     have hpl:(pR (zbc s)).length=(zbc s).length:=by simp [pR]
     have hblk:(w.drew.alloc (.cells (((zbc s).map (Value.int .i32)).toArray++Array.replicate (grownCap w (zbc s).length 0 e0 - (zbc s).length) (.int .i32 0)) e0)).heap[w.heap.size]?=some (.cells (((zbc s).map (Value.int .i32)).toArray++Array.replicate (grownCap w (zbc s).length 0 e0 - (zbc s).length) (.int .i32 0)) e0 (0,0)):=by
      show (w.heap.push _)[w.heap.size]?=_;simp
     have hrow:∀ (q:Nat) (row:List PV),(pR (zbc s))[q]?=some row->∃ n,(zbc s)[q]?=some n/\row=[.v (.int .i32 n)]:=fun q row hq=>by
      unfold pR at hq;rw [List.getElem?_map] at hq
      cases hn:(zbc s)[q]? with
      | none=>rw [hn] at hq;cases hq
      | some n=>rw [hn] at hq;cases hq;exact ⟨n,rfl,rfl⟩
     have hcell:∀ (q jj:Nat) (row:List PV) (a:PV),(pR (zbc s))[q]?=some row->row[jj]?=some a->∃ n,(zbc s)[q]?=some n/\jj=0/\a=.v (.int .i32 n):=fun q jj row a hq ha=>by
      obtain ⟨n,hn,rfl⟩:=hrow q row hq
      cases jj with
      | zero=>simp at ha;exact ⟨n,hn,rfl,ha.symm⟩
      | succ jj=>simp at ha
     have:=RepP.ro (w:=w.drew.alloc (.cells (((zbc s).map (Value.int .i32)).toArray++Array.replicate (grownCap w (zbc s).length 0 e0 - (zbc s).length) (.int .i32 0)) e0)) (R:=Rd B ι H) 1 (pR (zbc s)) w.heap.size 0 (grownCap w (zbc s).length 0 e0) (fun q _=>.int .i32 (((zbc s)[q]?).getD 0)) hnb (by have:=zbx hblk;exact this) (by rw [hpl];exact grownCap_ge _ _ _ _)
      (fun q row hq=>by obtain ⟨n,_,rfl⟩:=hrow q row hq;rfl)
      (fun q jj row a hq ha=>by
       obtain ⟨n,hn,rfl,rfl⟩:=hcell q jj row a hq ha;refine ⟨?_,rfl⟩;rw [zsp hblk];have hql:q < (zbc s).length:=(List.getElem?_eq_some_iff.1 hn).1;rw [show 0 + (q * 1 + 0)=q by omega,Array.getElem?_append_left (by simpa using hql)]
       simp [hn])
      (fun q jj row a hq ha=>by
       obtain ⟨n,hn,rfl,rfl⟩:=hcell q jj row a hq ha;simp only [hn,Option.getD_some];exact .v _)
     rw [hpl] at this;exact this
    ·rename_i hde;refine ⟨_,h,fun w0 B w ι ρ hR hG hρ hf=>?_⟩
     have h1:=hρ x hx;rw [e] at h1;have hdst:P.underlying dst=some (.slice e0):=by rw [(hT _ _ hi).1.1,hd]
     have hel:P.underlying e0=some (.int .u8):=by rw [(hT _ _ he).1.1,hde]
     have hsrc:P.underlying src=some j.desc:=(hT _ _ hj).1.1;have hc:=Lib.run_convert_string_bytes (P:=P) w src dst e0 s hsrc hdst hel;have hrun:(execOp ρ o).run P w=.ok (.value (.slice (some ⟨w.heap.size,0,none⟩) s.size (grownCap w s.size 0 e0))) (Lib.bytesWorld w e0 s):=by
      simp [execOp,ho,zbk h1,hc]
     rw [hrun];have hnb:Rd B ι H w.heap.size:=⟨hR.fut _ (nR _),fun ho=>by have:=hR.lt ho;omega⟩
     refine ⟨zy6 w e0 s,.p _ _ (zw4 hnb (Lib.bytesWorld_at_new _ _ _) (grownCap_ge _ _ _ _) fun q b hb=>?_)⟩
     unfold Lib.bytesCells;have hj:q < s.data.size:=by have:=(List.getElem?_eq_some_iff.1 hb).1;simpa using this
     rw [Array.getElem?_append_left (by simpa using hj)]
     simp only [Array.getElem?_map]
     have:s.data[q]?=some b:=by simpa using hb
     rw [this];rfl
    ·cases h
   ·cases h
  ·cases h
 ·rename_i i j n rows hi hj e
  split at h
  ·rename_i e0 hd hd2
   split at h
   ·rename_i te he
    split at h
    ·rename_i hde;obtain ⟨rfl,ns,rfl,h⟩:=h;refine ⟨_,h,za7 fun w0 B w ι ρ hR hG hρ=>?_⟩
     have h1:=hρ x hx;rw [e] at h1;have hel:P.underlying e0=some (.int .i32):=by rw [(hT _ _ he).1.1,hde]
     have hgo:∀ v,(Conv.runesToString v).run P w=.ok (.string (runesBytes ns)) w->(∀ y,v ≠ .string y)->(∃ A l c,v=.slice A l c)->(convert src dst v).run P w=.ok (.string (runesBytes ns)) w:=by
      intro v hv _ hsl;obtain ⟨A,l,c,rfl⟩:=hsl;simp [convert,zco hT hi,zco hT hj,hd,hd2,run_underlying hel,hv]
     cases h1 with
     | p _ _ h1 =>
      generalize hv:ρ x=v at h1;have hns:(pR ns).length=ns.length:=by simp [pR]
      generalize hr:pR ns=rows at h1
      cases h1 with
      | ro0 _ A cap =>
       have hnil:ns=[]:=by cases ns with
        | nil=>rfl
        | cons a as=>simp [pR] at hr
       subst hnil;refine ⟨.string (runesBytes []),?_,.p _ _ (.v _)⟩
       have:=hgo (.slice A 0 cap) (by cases A <;> simp [Conv.runesToString,loadCells,loadCellsFrom,runesBytes]) (by simp) ⟨_,_,_,rfl⟩
       simp [execOp,ho,hv,this]
      | ro _ _ b off cap vs hR' hb hcap hs hc hq' =>
       subst hr;refine ⟨.string (runesBytes ns),?_,.p _ _ (.v _)⟩;have hld:(loadCells ⟨b,off,none⟩ ns.length).run P w=.ok (ns.map (Value.int .i32)).toArray w:=by
        have hl:=run_loadCells_list (P:=P) (w:=w) ⟨b,off,none⟩ (ns.map (Value.int .i32)) (fun q u hu=>by
         rw [List.getElem?_map] at hu
         cases hn:ns[q]? with
         | none=>rw [hn] at hu;cases hu
         | some m =>
          rw [hn] at hu;cases hu
          have hq:(pR ns)[q]?=some [.v (.int .i32 m)]:=by simp [pR,hn]
          have h2:=(hc q 0 _ _ hq rfl).1;have h3:=hq' q 0 _ _ hq rfl;have h4:vs q 0=.int .i32 m:=by
           generalize vs q 0=u at h3
           cases h3;rfl
          rw [h4] at h2;rw [Addr.add_lit];rw [show off + q=off + (q * 1 + 0) by omega]
          exact h2)
        simpa using hl
       have:=hgo (.slice (some ⟨b,off,none⟩) (pR ns).length cap) (by rw [hns];exact run_runesToString w _ _ cap ns hld) (by simp) ⟨_,_,_,rfl⟩
       simp [execOp,ho,hv,this]
    ·rename_i hde;obtain ⟨rfl,bs,rfl,h⟩:=h;refine ⟨_,h,za7 fun w0 B w ι ρ hR hG hρ=>⟨.string bs,?_,.p _ _ (.v _)⟩⟩
     have h1:=hρ x hx;rw [e] at h1;have hel:P.underlying e0=some (.int .u8):=by rw [(hT _ _ he).1.1,hde]
     have hdst:P.underlying dst=some .string:=by rw [(hT _ _ hi).1.1,hd]
     have hsrc:P.underlying src=some (.slice e0):=by rw [(hT _ _ hj).1.1,hd2]
     cases h1 with
     | p _ _ h1 =>
      have:=zvn (P:=P) hsrc hel hdst h1
      simp [execOp,ho,this]
    ·cases h
   ·cases h
  ·cases h
 ·cases h
theorem zq4 {o:Oper} {src dst:TypeId} {x:Operand} (ho:o.op=.convert src dst x) {env:List AV} {H:AH} {K:AV->Prop} {k i n:Nat} (ex:aev env x=.osl k i n) (h:zzk zas T dst src k i n H K):∃ a,K a/\QS P G o env H a:=by
 have hx:x ∈ o.op.operands:=by rw [ho];simp [Op.operands]
 unfold zzk at h
 split at h
 ·rename_i di si hdi hsi
  split at h
  ·rename_i e hd hd2
   split at h
   ·rename_i te he
    split at h
    ·rename_i hde
     split at h
     ·rename_i s rs ty hk;obtain ⟨rfl,hle,bs,hbs,h⟩:=h;change i + n<=rs.length at hle;change (rs.drop i).take n=zal bs at hbs;refine ⟨_,h,za7 fun w0 B w ι ρ hR hG hρ=>⟨.string bs,?_,.p _ _ (.v _)⟩⟩
      have h1:=hρ x hx;rw [ex] at h1;have hel:P.underlying e=some (.int .u8):=by rw [(hT _ _ he).1.1,hde]
      have hdst:P.underlying dst=some .string:=by rw [(hT _ _ hdi).1.1,hd]
      have hsrc:P.underlying src=some (.slice e):=by rw [(hT _ _ hsi).1.1,hd2]
      generalize hv:ρ x=v at h1;have hlen:bs.data.toList.length=n:=by
       have:((rs.drop i).take n).length=n:=by rw [List.length_take,lLD];omega
       rw [hbs] at this;simpa [zal] using this
      cases h1 with
      | osl0 =>
       have hb0:bs=⟨#[]⟩:=by
        obtain ⟨⟨l⟩⟩:=bs;simp at hlen;subst hlen;rfl
       subst hb0;have hn:(convert src dst (.slice none 0 0)).run P w=.ok (.string ⟨#[]⟩) w:=by
        simp [convert,run_underlying hsrc,run_underlying hdst,run_underlying hel,Conv.bytesToString];rfl
       simp [execOp,ho,hv,hn]
      | osl _ _ _ c cap sz hi hn' hm hz =>
       obtain ⟨es,hl,hh⟩:=(hR.blk k _ _ sz hk hi).2
       rcases hh with ⟨ec,_⟩|⟨c',arr,ec,hb,hz0,hcs⟩
       ·cases ec
       cases ec
       have:=run_convert_bytes_back (P:=P) w src dst e ⟨c,i * sz.1,none⟩ cap bs.data.toList hsrc hel hdst (fun j hj=>by
        have hq:(zal bs)[j]?=some [.v (.int .u8 (bs.data.toList[j].toNat:Nat))]:=by
         unfold zal;rw [List.getElem?_map,List.getElem?_eq_getElem hj];rfl
        rw [<-hbs] at hq;have hq2:rs[i + j]?=some [.v (.int .u8 (bs.data.toList[j].toNat:Nat))]:=by
         rw [List.getElem?_take,if_pos (by omega),List.getElem?_drop] at hq
         exact hq
        obtain ⟨u,hu,_,hru⟩:=hcs (i + j) 0 _ _ hq2 rfl
        cases hru
        rw [Addr.add_lit,zsp hb];rw [show i * sz.1 + j=(i + j) * sz.1 + 0 by rw [<-es];omega]
        exact hu)
       rw [hlen] at this;simp [execOp,ho,hv,this]
     ·cases h
    ·cases h
   ·cases h
  ·cases h
 ·cases h
omit hT
theorem zgg {env:List AV} {x:Option Operand} {d:Int} {K:Int->Prop} (h:zm1 (x.map (aev env)) d K) :
  ∃ n,K n/\((x=none/\n=d)\/∃ y k,x=some y/\aev env y=.p (.v (.int k n))):=by
 cases x with
 | none=>exact ⟨d,h,.inl ⟨rfl,rfl⟩⟩
 | some y =>
  simp only [Option.map_some] at h;unfold zm1 at h
  split at h
  ·rename_i e;cases e
  ·rename_i k n e;exact ⟨n,h,.inr ⟨y,k,rfl,by simpa using e⟩⟩
  ·cases h
def zpl (ρ:Operand->Value) (x:Option Operand) (d:Nat) (n:Int):Prop:=(x=none/\n=d)\/∃ y k,x=some y/\ρ y=.int k n
theorem zhf {ρ:Operand->Value} {b:Bool} {len cap:Nat} {lo hi:Option Operand} {l h:Int} (hh:zpl ρ hi len h) (hl:zpl ρ lo 0 l) (h0:0<=l) (h1:l<=h) (h2:h<=cap) (w:World) :
  (Instr.sliceBounds b len cap (lo.map ρ) (hi.map ρ) none).run P w=.ok (l.toNat,h.toNat,cap) w:=by
 have h3:(0:Int)<=h:=by omega
 have h4:l<=((h.toNat:Nat):Int):=by omega
 rcases hh with ⟨rfl,rfl⟩|⟨y,k,rfl,ey⟩
 ·rcases hl with ⟨rfl,rfl⟩|⟨z,k',rfl,ez⟩
  ·simp [Instr.sliceBounds]
  ·have h5:l<=((len:Nat):Int):=h1;simp [Instr.sliceBounds,Instr.sliceBound,ez,asIntOf,h0,h5]
 ·rcases hl with ⟨rfl,rfl⟩|⟨z,k',rfl,ez⟩
  ·simp [Instr.sliceBounds,Instr.sliceBound,ey,asIntOf,h3,h2]
  ·simp [Instr.sliceBounds,Instr.sliceBound,ey,ez,asIntOf,h3,h2,h0];intro h5;omega
include hT
theorem zmw {t:TypeId} {ti:TI} (ht:T t=some ti) (hd:ti.desc=.string) {o:Oper} {x:Operand} {lo hi:Option Operand} (ho:o.op=.slice t x lo hi none) {env:List AV} {H:AH} {K:AV->Prop}
  (h:zmx zas (aev env x) (lo.map (aev env)) (hi.map (aev env)) K):∃ a,K a/\QS P G o env H a:=by
 have hx:x ∈ o.op.operands:=by rw [ho];simp [Op.operands]
 have hlo:∀ y,lo=some y->y ∈ o.op.operands:=fun y e=>by rw [ho,e];simp [Op.operands]
 have hhi:∀ y,hi=some y->y ∈ o.op.operands:=fun y e=>by rw [ho,e];simp [Op.operands]
 unfold zmx at h
 split at h
 ·rename_i s e;obtain ⟨n,h,bn⟩:=zgg h;obtain ⟨m,h,bm⟩:=zgg h;obtain ⟨h0,h1,h2,h⟩:=h;change (0:Int)<=m at h0;change m<=n at h1;change n<=(s.size:Nat) at h2;change K (.p (.v (.string (s.extract m.toNat n.toNat)))) at h;refine ⟨_,h,za7 fun w0 B w ι ρ hR hG hρ=>⟨_,?_,.p _ _ (.v _)⟩⟩
  have hv:=hρ x hx;rw [e] at hv;have b1:zpl ρ hi s.size n:=by
   change (hi=none/\n=(s.size:Nat))\/_ at bn
   rcases bn with bn|⟨y,k,ey,ea⟩
   ·exact .inl bn
   ·exact .inr ⟨y,k,ey,by have:=hρ y (hhi y ey);rw [ea] at this;exact zbk this⟩
  have b2:zpl ρ lo 0 m:=by
   rcases bm with bm|⟨y,k,ey,ea⟩
   ·exact .inl bm
   ·exact .inr ⟨y,k,ey,by have:=hρ y (hlo y ey);rw [ea] at this;exact zbk this⟩
  simp only [execOp,ho,zbk hv,Option.map_none,Instr.sliceAt,Sem.run_bind,zco hT ht,Result.andThen_ok,hd,Instr.slice];simp [zhf (P:=P) b1 b2 h0 h1 h2]
 ·cases h
theorem zqv {t e:TypeId} {ti te:TI} (ht:T t=some ti) (hd:ti.desc=.slice e) (he:T e=some te) {o:Oper} {x:Operand} {lo hi:Option Operand} (ho:o.op=.slice t x lo hi none) {env:List AV} {H:AH} {K:AV->Prop}
  (h:zzd zas te.size (aev env x) (lo.map (aev env)) (hi.map (aev env)) K):∃ a,K a/\QS P G o env H a:=by
 have hx:x ∈ o.op.operands:=by rw [ho];simp [Op.operands]
 have hlo:∀ y,lo=some y->y ∈ o.op.operands:=fun y e=>by rw [ho,e];simp [Op.operands]
 have hhi:∀ y,hi=some y->y ∈ o.op.operands:=fun y e=>by rw [ho,e];simp [Op.operands]
 have run:∀ (A:Option Addr) (len cap:Nat) (ρ:Operand->Value) (l h:Int) (w:World),zpl ρ hi len h->zpl ρ lo 0 l->0<=l->l<=h->h<=cap->ρ x=.slice A len cap →
   (execOp ρ o).run P w=.ok (.value (.slice (if cap=l.toNat then A else A.map (·.add (l.toNat * te.size))) (h.toNat - l.toNat) (cap - l.toNat))) w:=by
  intro A len cap ρ l h w b1 b2 h0 h1 h2 hv;simp only [execOp,ho,hv,Option.map_none,Instr.sliceAt,Sem.run_bind,zco hT ht,Result.andThen_ok,hd,Instr.slice];simp [zhf (P:=P) b1 b2 h0 h1 h2,zie hT he]
 unfold zzd at h;simp only [zas] at h
 split at h
 ·rename_i s rows ex;obtain ⟨rfl,h⟩:=h;obtain ⟨n,h,bn⟩:=zgg h;obtain ⟨m,h,bm⟩:=zgg h;obtain ⟨h0,h1,h2,h⟩:=h;refine ⟨_,h,za7 fun w0 B w ι ρ hR hG hρ=>?_⟩
  have hv:=hρ x hx;rw [ex] at hv;generalize hq:ρ x=v at hv;have b1:zpl ρ hi rows.length n:=by
   rcases bn with bn|⟨y,k,ey,ea⟩
   ·exact .inl bn
   ·exact .inr ⟨y,k,ey,by have:=hρ y (hhi y ey);rw [ea] at this;exact zbk this⟩
  have b2:zpl ρ lo 0 m:=by
   rcases bm with bm|⟨y,k,ey,ea⟩
   ·exact .inl bm
   ·exact .inr ⟨y,k,ey,by have:=hρ y (hlo y ey);rw [ea] at this;exact zbk this⟩
  cases hv with
  | p _ _ hv =>
   cases hv with
   | ro0 _ A cap =>
    simp only [List.length_nil] at b1 h2;refine ⟨_,run A 0 cap ρ m n w b1 b2 h0 h1 (by omega) hq,?_⟩
    have hn0:n.toNat - m.toNat=0:=by omega
    rw [hn0];simp only [List.take_nil,List.drop_nil];exact .p _ _ (.ro0 _ _ _)
   | ro _ _ b off cap vs hRb hb hcap hs hc hr =>
    refine ⟨_,run _ _ cap ρ m n w b1 b2 h0 h1 (by omega) hq,?_⟩
    have hlen:((rows.take n.toNat).drop m.toNat).length=n.toNat - m.toNat:=by
     rw [lLD,List.length_take];omega
    have hget:∀ i row,((rows.take n.toNat).drop m.toNat)[i]?=some row->rows[m.toNat + i]?=some row:=fun i row hi=>by
     rw [List.getElem?_drop,List.getElem?_take] at hi
     split at hi
     ·exact hi
     ·cases hi
    by_cases hz:n.toNat - m.toNat=0
    ·have:(rows.take n.toNat).drop m.toNat=[]:=List.eq_nil_of_length_eq_zero (by omega)
     rw [hz,this];exact .p _ _ (.ro0 _ _ _)
    ·rw [if_neg (by omega),<- hlen]
     simp only [Option.map_some,Addr.add_lit];refine .p _ _ (.ro _ _ b _ _ (fun i j=>vs (m.toNat + i) j) hRb hb (by omega) (fun i row hi=>hs _ row (hget i row hi)) (fun i j row a hi hj=>?_) fun i j row a hi hj=>hr _ j row a (hget i row hi) hj)
     have:=hc _ j row a (hget i row hi) hj
     rw [Nat.add_mul,Nat.add_assoc,<- Nat.add_assoc] at this;rw [show off + m.toNat * te.size + (i * te.size + j)=off + m.toNat * te.size + (i * te.size + j) from rfl];have e2:off + (m.toNat * te.size + (i * te.size + j))=off + m.toNat * te.size + (i * te.size + j):=by omega
     rw [<-e2];have e3:off + m.toNat * te.size + (i * te.size + j)=off + (m.toNat * te.size + (i * te.size + j)):=by omega
     first
      | exact this
      | (rw [e3] at this;exact this)
 ·rename_i k i n ex
  split at h
  ·rename_i hlon;have hlon':lo=none:=by cases lo with|none=>rfl|some y=>simp at hlon
   subst hlon';obtain ⟨m,h,bm⟩:=zgg h;obtain ⟨h0,h1,h⟩:=h;refine ⟨_,h,za7 fun w0 B w ι ρ hR hG hρ=>?_⟩
   have hv:=hρ x hx;rw [ex] at hv;generalize hq:ρ x=v at hv;have b1:zpl ρ hi n m:=by
    rcases bm with bm|⟨y,k,ey,ea⟩
    ·exact .inl bm
    ·exact .inr ⟨y,k,ey,by have:=hρ y (hhi y ey);rw [ea] at this;exact zbk this⟩
   cases hv with
   | osl0 =>
    refine ⟨_,run none 0 0 ρ 0 m w b1 (.inl ⟨rfl,rfl⟩) (by omega) (by omega) (by omega) hq,?_⟩
    have:m.toNat=0:=by omega
    rw [this];exact .osl0 k i
   | osl _ _ _ c cap s hi' hn hm hz =>
    refine ⟨_,run _ n cap ρ 0 m w b1 (.inl ⟨rfl,rfl⟩) (by omega) (by omega) (by omega) hq,?_⟩
    have e0:(if cap=(0:Int).toNat then some (⟨c,i * s.1,none⟩:Addr) else (some (⟨c,i * s.1,none⟩:Addr)).map (·.add ((0:Int).toNat * te.size)))=some ⟨c,i * s.1,none⟩:=by
     split
     ·rfl
     ·simp [Addr.add]
    rw [e0];simp only [Int.toNat_zero,Nat.sub_zero];exact .osl k i m.toNat c cap s hi' (by omega) hm hz
  ·cases h
 ·cases h
end
/- Own work: the rest of the operations that write nothing;all of them together. -/
section
variable {P:Program} {G:World->Prop} {T:TT}
theorem zv0 (hT:TOk P T) {o:Oper} {x:Operand} {c:Call} (ho:o.op=.call c) (hc:c.callee=.builtin .len) (ha:c.args.toList=[x]) {t:TypeId} {ti:TI} (hat:c.argTypes.toList=[t]) (ht:T t=some ti)
  {env:List AV} {H:AH} {K:AV->Prop} (h:alen zas ti.desc (aev env x) K):∃ a,K a/\QS P G o env H a:=by
 have hargs:c.args=#[x]:=Array.toList_inj.1 (by simpa using ha)
 have hat':c.argTypes=#[t]:=Array.toList_inj.1 (by simpa using hat)
 have hx:x ∈ o.op.operands:=by rw [ho];simp [Op.operands,Call.operands,hc,hargs]
 have run:∀ (ρ:Operand->Value) (w:World) (n:Nat),(Builtin.len_ #[t] o.type #[ρ x]).run P w=.ok (.int .i64 n) w->(execOp ρ o).run P w=.ok (.value (.int .i64 n)) w:=by
  intro ρ w n hr;simp only [execOp,ho,resolve,hc,Sem.run_bind,Sem.run_pure,Result.andThen_ok,invoke,builtin,hargs,hat'];simp [hr]
 unfold alen at h
 split at h
 ·rename_i hd
  split at h
  ·rename_i s e;refine ⟨_,h,za7 fun w0 B w ι ρ hR hG hρ=>⟨_,run ρ w s.size ?_,.p _ _ (.v _)⟩⟩
   have hv:=hρ x hx;rw [e] at hv;rw [zbk hv];simp [Builtin.len_,zco hT ht,hd,goInt]
  ·cases h
 ·rename_i el hd;have slc:∀ (A:Option Addr) (n c:Nat) (w:World),(Builtin.len_ #[t] o.type #[.slice A n c]).run P w=.ok (.int .i64 n) w:=by
   intro A n c w;simp [Builtin.len_,zco hT ht,hd,goInt]
  split at h
  ·rename_i A n c e;refine ⟨_,h,za7 fun w0 B w ι ρ hR hG hρ=>⟨_,run ρ w n ?_,.p _ _ (.v _)⟩⟩
   have hv:=hρ x hx;rw [e] at hv;rw [zbk hv];exact slc _ _ _ _
  ·rename_i e;refine ⟨_,h,za7 fun w0 B w ι ρ hR hG hρ=>⟨_,run ρ w 0 ?_,.p _ _ (.v _)⟩⟩
   have hv:=hρ x hx;rw [e] at hv;generalize hq:ρ x=v at hv
   cases hv with
   | p _ _ hv=>cases hv;exact slc _ _ _ _
  ·rename_i s rows e;refine ⟨_,h,za7 fun w0 B w ι ρ hR hG hρ=>⟨_,run ρ w rows.length ?_,.p _ _ (.v _)⟩⟩
   have hv:=hρ x hx;rw [e] at hv;generalize hq:ρ x=v at hv
   cases hv with
   | p _ _ hv=>cases hv <;> exact slc _ _ _ _
  ·rename_i k i n e;refine ⟨_,h,za7 fun w0 B w ι ρ hR hG hρ=>⟨_,run ρ w n ?_,.p _ _ (.v _)⟩⟩
   have hv:=hρ x hx;rw [e] at hv;generalize hq:ρ x=v at hv
   cases hv <;> exact slc _ _ _ _
  ·cases h
 ·cases h
theorem zxn {α β:Type} {f:α->β} {l:List α} {a b:β} (h:l.map f=[a,b]):∃ x y,l=[x,y]/\f x=a/\f y=b:=by
 match l,h with
 | [x,y],h=>simp at h;exact ⟨x,y,rfl,h.1,h.2⟩
theorem zq5 {o:Oper} {c:Call} {f:FuncId} (ho:o.op=.call c) (hc:c.callee=.value (.func f)) {env:List AV} {H:AH} {as:List PV} {r:PV} (has:AV.toP.toPL (c.args.toList.map (aev env))=some as) (hr:Ret P G f as r) (hp:r.isPan=false):QS P G o env H (.p r):=by
 intro w0 B w ι ρ hR hG hρ hf;have hops:∀ x,x ∈ c.args->x ∈ o.op.operands:=fun x hx=>by rw [ho];simp [Op.operands,Call.operands,hc,hx]
 have hg:=zez _ _ has;have hexec:(execOp ρ o).run P w=.ok (.enter f (c.args.map ρ)) w:=by
  simp only [execOp,ho,resolve,hc,hf,Deferred.ofValue,Sem.run_bind,Sem.run_pure,Result.andThen_ok,invoke]
  have:=hr.1 (#[]++c.args.map ρ++#[]) w
  simpa using this
 rw [hexec];show Calls P f (c.args.map ρ) w _;have hlen:as.length=(c.args.toList.map ρ).length:=by rw [hg.1];simp
 have hrep:∀ (j:Nat) (a:PV) (v:Value),as[j]?=some a->(c.args.toList.map ρ)[j]?=some v->RepP w (Rd B ι H) a v:=by
  intro j a v ha hv;rw [List.getElem?_map] at hv
  cases hx:c.args.toList[j]? with
  | none=>rw [hx] at hv;cases hv
  | some x =>
   rw [hx] at hv;cases hv
   obtain ⟨p,hp,hap⟩:=hg.2 j (aev env x) (by rw [List.getElem?_map,hx];rfl)
   rw [hp] at ha;cases ha
   exact (hρ x (hops x (by have:=List.mem_of_getElem? hx;simpa using this))).toP _ hap
 have:=hr.2 w (Rd B ι H) (c.args.toList.map ρ) hG hlen hrep
 have e:(c.args.toList.map ρ).toArray=c.args.map ρ:=by
  apply Array.toList_inj.1;simp
 rw [e] at this;refine this.mono fun e w' ⟨hg',he⟩=>?_
 obtain ⟨v,rfl,hv⟩:=he.val hp;refine ⟨v,rfl,hg',.p _ _ (hv.keep (nR _) fun b hb hlt=>⟨?_,rfl⟩)⟩
 rcases hb with hb|hb
 ·exact hb
 ·exact ⟨hR.fut b hb,fun hown=>by have:=hR.lt hown;omega⟩
theorem zql {α:Type}:∀ (l:List α) (k off:Nat) (arr:Array α),((l.zipIdx k).foldl (fun cs (p:α × Nat)=>cs.setIfInBounds (off + p.2) p.1) arr).size=arr.size ∧
  ∀ m,((l.zipIdx k).foldl (fun cs (p:α × Nat)=>cs.setIfInBounds (off + p.2) p.1) arr)[m]?=if off + k<=m/\m < off + k + l.length/\m < arr.size then l[m - (off + k)]? else arr[m]?
 | [],k,off,arr=>by
  refine ⟨rfl,fun m=>?_⟩
  simp only [List.zipIdx_nil,List.foldl_nil,List.length_nil,Nat.add_zero];rw [if_neg (by omega)]
 | a :: l,k,off,arr=>by
  rw [List.zipIdx_cons,List.foldl_cons];have ih:=zql l (k + 1) off (arr.setIfInBounds (off + k) a);refine ⟨by rw [ih.1];simp,fun m=>?_⟩
  rw [ih.2 m];simp only [Array.size_setIfInBounds,lLC]
  by_cases h1:off + (k + 1)<=m/\m < off + (k + 1) + l.length/\m < arr.size
  ·rw [if_pos h1,if_pos (by omega)]
   rw [show m - (off + k)=(m - (off + (k + 1))) + 1 by omega,List.getElem?_cons_succ]
  ·rw [if_neg h1]
   by_cases h2:m=off + k
   ·subst h2
    by_cases h3:off + k < arr.size
    ·rw [if_pos (by omega),Array.getElem?_setIfInBounds_self_of_lt h3];simp
    ·rw [if_neg (by omega),Array.getElem?_eq_none (by simp;omega),Array.getElem?_eq_none (by omega)]
   ·rw [if_neg (by omega),Array.getElem?_setIfInBounds_ne (by omega)]
theorem zjw {α:Type} {cells cs:List α} {off m:Nat} (hle:off + cs.length<=cells.length):(zle cells off cs)[m]?=if off<=m/\m < off + cs.length then cs[m - off]? else cells[m]?:=by
 unfold zle;have hlt:(cells.take off).length=off:=by rw [List.length_take];omega
 rw [List.append_assoc]
 by_cases h1:m < off
 ·rw [List.getElem?_append_left (by omega),List.getElem?_take,if_pos h1,if_neg (by omega)]
 ·rw [List.getElem?_append_right (by omega),hlt]
  by_cases h2:m < off + cs.length
  ·rw [List.getElem?_append_left (by omega),if_pos (by omega)]
  ·rw [List.getElem?_append_right (by omega),List.getElem?_drop,if_neg (by omega)]
   congr 1;omega
theorem zgf {α:Type} {cells cs:List α} {off:Nat} (hle:off + cs.length<=cells.length):(zle cells off cs).length=cells.length:=by
 unfold zle;simp;omega
theorem zp4 {w:World} {ι:Pl} {R:Nat->Prop} {a:AV} {v:Value} (h:Rep w ι R a v) (hok:zqe a=true):(zba a).length=v.cells.size/\∀ (j:Nat) (c:AV),(zba a)[j]?=some c->∃ u,v.cells[j]?=some u/\Rep w ι R c u:=by
 have one:∀ (a:AV) (v:Value),Rep w ι R a v->v.cells=#[v]->[a].length=v.cells.size/\∀ (j:Nat) (c:AV),[a][j]?=some c->∃ u,v.cells[j]?=some u/\Rep w ι R c u:=by
  intro a v h hv;rw [hv];refine ⟨rfl,fun j c hc=>?_⟩
  cases j with
  | zero=>simp at hc;subst hc;exact ⟨v,rfl,h⟩
  | succ j=>simp at hc
 cases h with
 | agg cs vs hl hr =>
  refine ⟨by simpa [zba,Value.cells] using hl,fun j c hc=>?_⟩
  have hjl:j < vs.length:=by rw [<-hl];exact (List.getElem?_eq_some_iff.1 hc).1
  exact ⟨vs[j],by simp [Value.cells,hjl],hr j c _ hc (List.getElem?_eq_getElem hjl)⟩
 | p x v h =>
  cases h with
  | agg cs vs hl hr =>
   refine ⟨by simpa [zba,Value.cells] using hl,fun j c hc=>?_⟩
   simp only [zba,List.getElem?_map] at hc
   cases hcj:cs[j]? with
   | none=>rw [hcj] at hc;cases hc
   | some y =>
    rw [hcj] at hc;cases hc
    have hjl:j < vs.length:=by rw [<-hl];exact (List.getElem?_eq_some_iff.1 hcj).1
    exact ⟨vs[j],by simp [Value.cells,hjl],.p _ _ (hr j y _ hcj (List.getElem?_eq_getElem hjl))⟩
  | v x =>
   refine one _ _ (.p _ _ (.v _)) ?_;have h1:v.oneCell'=true:=hok
   cases v <;> first|rfl|(simp [Value.oneCell'] at h1)
  | e0 A=>exact one _ _ (.p _ _ (.e0 A)) rfl
  | ro0 s A cap=>exact one _ _ (.p _ _ (.ro0 s A cap)) rfl
  | ro s rows b o cap vs hR hb hcap hs hc hr=>exact one _ _ (.p _ _ (.ro s rows b o cap vs hR hb hcap hs hc hr)) rfl
  | rop row b o vs hR hb hc hr=>exact one _ _ (.p _ _ (.rop row b o vs hR hb hc hr)) rfl
  | tup cs vs hl hr=>exact one _ _ (.p _ _ (.tup cs vs hl hr)) rfl
  | err t v=>exact one _ _ (.p _ _ (.err t v)) rfl
 | own k j c s h=>exact one _ _ (.own k j c s h) rfl
 | orw k i j c s h=>exact one _ _ (.orw k i j c s h) rfl
 | osl0 k i=>exact one _ _ (.osl0 k i) rfl
 | osl k i n c cap s h hn' hm hz=>exact one _ _ (.osl k i n c cap s h hn' hm hz) rfl
 | tup cs vs hl hr=>exact one _ _ (.tup cs vs hl hr) rfl
 | clo f fs cs us vs hl hr hl' hr'=>exact one _ _ (.clo f fs cs us vs hl hr hl' hr') rfl
 | junk=>cases hok
def zj0 (w:World) (ι:Pl) (R:Nat->Prop):List (Nat × AV)->List (Nat × Value)->Prop
 | [],[]=>True
 | (i,a) :: as,(j,v) :: vs=>i=j/\Rep w ι R a v/\zj0 w ι R as vs
 | _,_=>False
theorem zgu {w:World} {ι:Pl} {R:Nat->Prop} {place:Nat->Option (Nat × Nat)}:∀ (parts:List (Nat × AV)) (vparts:List (Nat × Value)) (cells cs':List AV) (arr:Array Value),zj0 w ι R parts vparts->ziz place cells parts=some cs' →
  cells.length=arr.size->(∀ (j:Nat) (a:AV),cells[j]?=some a->∃ u,arr[j]?=some u/\Rep w ι R a u) →
  ∃ arr',Instr.fill place arr vparts=some arr'/\cs'.length=arr'.size/\∀ (j:Nat) (a:AV),cs'[j]?=some a->∃ u,arr'[j]?=some u/\Rep w ι R a u
 | [],[],cells,cs',arr,_,h,hl,hr=>by
  simp [ziz] at h;subst h;exact ⟨arr,by simp [Instr.fill],hl,hr⟩
 | [],_ :: _,_,_,_,h,_,_,_=>h.elim
 | _ :: _,[],_,_,_,h,_,_,_=>h.elim
 | (i,a) :: as,(j,v) :: vs,cells,cs',arr,hp,h,hl,hr=>by
  obtain ⟨rfl,hav,hp⟩:=hp;unfold ziz at h
  split at h
  ·cases h
  ·rename_i off size hpl
   split at h
   ·rename_i hc;obtain ⟨hok,hsz,hle⟩:=hc;have hcs:=zp4 hav hok;have hfs:=zql v.cells.toList 0 off arr;have hfold:v.cells.zipIdx.foldl (fun cs (p:Value × Nat)=>cs.setIfInBounds (off + p.2) p.1) arr=(v.cells.toList.zipIdx 0).foldl (fun cs (p:Value × Nat)=>cs.setIfInBounds (off + p.2) p.1) arr:=by
     rw [<-Array.foldl_toList]
     congr 1
     simp
    have hfill:Instr.fill place arr ((i,v) :: vs)=Instr.fill place ((v.cells.toList.zipIdx 0).foldl (fun cs (p:Value × Nat)=>cs.setIfInBounds (off + p.2) p.1) arr) vs:=by
     rw [<-hfold]
     conv=>lhs;unfold Instr.fill
     simp only [hpl];rw [if_neg (by simp;omega)]
    rw [hfill];refine zgu as vs _ cs' _ hp h (by rw [zgf (by omega),hfs.1];exact hl) fun m c hm=>?_
    rw [zjw (by omega)] at hm
    rw [hfs.2 m];have hvl:v.cells.toList.length=v.cells.size:=by simp
    split at hm
    ·rename_i hin;obtain ⟨u,hu,hru⟩:=hcs.2 _ c hm;rw [if_pos (by omega)]
     exact ⟨u,by simpa using hu,hru⟩
    ·rename_i hout;rw [if_neg (by omega)]
     exact hr m c hm
   ·cases h
theorem zl6 (hT:TOk P T) (w:World):∀ (fs:List Field) (pl:List (Nat × Nat)),zka T fs=some pl->(fs.mapM fun f=>do pure (f.offset,<- sizeOf f.type):Sem (List (Nat × Nat))).run P w=.ok pl w
 | [],pl,h=>by simp [zka] at h;subst h;rfl
 | f :: fs,pl,h=>by
  unfold zka at h
  split at h
  ·rename_i i r hi hr
   cases h
   rw [List.mapM_cons];simp only [Sem.run_bind,Sem.run_pure,Result.andThen_ok,zie hT hi,zl6 hT w fs r hr]
  ·cases h
theorem zq6 (hT:TOk P T) {o:Oper} {t:TypeId} {parts:Array (Nat × Operand)} (ho:o.op=.build t parts) {i:TI} (ht:T t=some i) {fs:Array Field} (hd:i.desc=.struct fs) {pl:List (Nat × Nat)} (hpl:zka T fs.toList=some pl)
  {env:List AV} {H:AH} {cs:List AV} (h:ziz (fun n=>pl[n]?) (i.zero.cells.toList.map fun x=>.p (.v x)) (parts.toList.map fun (n,x)=>(n,aev env x))=some cs):QS P G o env H (.agg cs):=by
 refine za7 fun w0 B w ι ρ hR hG hρ=>?_
 have hops:∀ (n:Nat) (x:Operand),(n,x) ∈ parts.toList->Rep w ι (Rd B ι H) (aev env x) (ρ x):=fun n x hx=>hρ x (by
  rw [ho];simp only [Op.operands];simp only [List.mem_toArray,List.mem_map];exact ⟨(n,x),hx,rfl⟩)
 have hparts:∀ l:List (Nat × Operand),(∀ n x,(n,x) ∈ l->Rep w ι (Rd B ι H) (aev env x) (ρ x))->zj0 w ι (Rd B ι H) (l.map fun (n,x)=>(n,aev env x)) (l.map fun (n,x)=>(n,ρ x)):=by
  intro l
  induction l with
  | nil=>intro _;trivial
  | cons p l ih =>
   intro hl;obtain ⟨n,x⟩:=p;exact ⟨rfl,hl n x (by simp),ih fun n x hx=>hl n x (by simp [hx])⟩
 obtain ⟨arr',h1,h2,h3⟩:=zgu (w:=w) (ι:=ι) (R:=Rd B ι H) _ _ _ cs i.zero.cells (hparts parts.toList hops) h (by simp) (fun j a ha=>by
  rw [List.getElem?_map] at ha
  cases hz:i.zero.cells.toList[j]? with
  | none=>rw [hz] at ha;cases ha
  | some z=>rw [hz] at ha;cases ha;exact ⟨z,by simpa using hz,.p _ _ (.v _)⟩)
 refine ⟨.agg arr',?_,?_⟩
 ·have hm:(fs.mapM fun f=>do pure (f.offset,<- sizeOf f.type):Sem (Array (Nat × Nat))).run P w=.ok pl.toArray w:=by
   rw [Array.mapM_eq_mapM_toList,Sem.run_map,zl6 hT w fs.toList pl hpl];rfl
  have e:(parts.map fun (p:Nat × Operand)=>(p.1,ρ p.2)).toList=parts.toList.map fun (n,x)=>(n,ρ x):=by simp
  simp only [execOp,ho,Instr.build,Sem.run_bind,zpz hT ht,zco hT ht,Result.andThen_ok,hd,hm];rw [show (parts.map fun x=>match x with|(i,x)=>(i,ρ x))=parts.map fun (p:Nat × Operand)=>(p.1,ρ p.2) from rfl,e]
  have e2:(fun (n:Nat)=>pl.toArray[n]?)=fun (n:Nat)=>pl[n]?:=by funext n;simp
  rw [e2,h1];rfl
 ·have:=Rep.agg (w:=w) (ι:=ι) (R:=Rd B ι H) cs arr'.toList (by simpa using h2) (fun j a v ha hv=>by
   obtain ⟨u,hu,hr⟩:=h3 j a ha
   have:u=v:=by
    have h4:arr'[j]?=some v:=by simpa using hv
    rw [hu] at h4;exact Option.some.inj h4
   subst this;exact hr)
  simpa using this
theorem zlr (hT:TOk P T) {o:Oper} {env:List AV} {H:AH} {K:AV->Prop} (h:aq P G zas T o env H K):∃ a,K a/\QS P G o env H a:=by
 unfold aq at h
 split at h
 ·rename_i x ho;exact ⟨_,h,za7 fun w0 B w ι ρ hR hG hρ=>⟨ρ x,by simp [execOp,ho],hρ x (by rw [ho];simp [Op.operands])⟩⟩
 ·rename_i x ho;exact ⟨_,h,za7 fun w0 B w ι ρ hR hG hρ=>⟨ρ x,by simp [execOp,ho],hρ x (by rw [ho];simp [Op.operands])⟩⟩
 ·rename_i c a b ho
  split at h
  ·rename_i t e;have hc:∀ (w0:Base) (B:Nat->Prop) (w:World) (ι:Pl) (ρ:Operand->Value),(∀ x,x ∈ o.op.operands->Rep w ι (Rd B ι H) (aev env x) (ρ x))->ρ c=.bool t:=fun w0 B w ι ρ hρ=>by
    have:=hρ c (by rw [ho];simp [Op.operands])
    rw [e] at this;exact zbk this
   cases t with
   | true=>exact ⟨_,h,za7 fun w0 B w ι ρ hR hG hρ=>⟨ρ a,by simp [execOp,ho,hc w0 B w ι ρ hρ,asBool],hρ a (by rw [ho];simp [Op.operands])⟩⟩
   | false=>exact ⟨_,h,za7 fun w0 B w ι ρ hR hG hρ=>⟨ρ b,by simp [execOp,ho,hc w0 B w ι ρ hρ,asBool],hρ b (by rw [ho];simp [Op.operands])⟩⟩
  ·cases h
 ·rename_i t a ho
  split at h
  ·rename_i i ht;exact zso hT ht ho h
  ·cases h
 ·rename_i s x f ho
  split at h
  ·rename_i i ht
   split at h
   ·rename_i fs hd
    split at h
    ·rename_i fd hf
     split at h
     ·rename_i j hj
      split at h
      ·cases h
      ·rename_i h0;exact zq2 hT ht hd hf hj h0 ho h
     ·cases h
    ·cases h
   ·cases h
  ·cases h
 ·rename_i t x y ho
  split at h
  ·rename_i ti ht
   split at h
   ·rename_i e hd
    split at h
    ·rename_i te he;exact zq0 hT ht hd he ho h
    ·cases h
   ·rename_i m e hd
    split at h
    ·rename_i te he
     split at h
     ·rename_i h1;exact zv3 hT ht hd he h1 ho h
     ·cases h
    ·cases h
   ·cases h
  ·cases h
 ·rename_i t x y ho
  split at h
  ·rename_i ti ht
   split at h
   ·rename_i s k n hd ex ey;obtain ⟨h0,b,hb,h⟩:=h;exact zm4 hT ht hd ho ex ey h0 hb h
   ·cases h
  ·cases h
 ·rename_i t x lo hi ho
  split at h
  ·rename_i ti ht
   split at h
   ·rename_i hd;exact zmw hT ht hd ho h
   ·rename_i e hd
    split at h
    ·rename_i te he;exact zqv hT ht hd he ho h
    ·cases h
   ·cases h
  ·cases h
 ·rename_i x i ho;exact zm9 ho h
 ·rename_i s x f ho
  split at h
  ·rename_i i ht
   split at h
   ·rename_i fs hd
    split at h
    ·rename_i fd hf
     split at h
     ·rename_i j hj
      split at h
      ·cases h
      ·rename_i h0;exact zsm hT ht hd hf hj (by simpa using h0) ho h
     ·cases h
    ·cases h
   ·cases h
  ·cases h
 ·rename_i t x ho;have hx:x ∈ o.op.operands:=by rw [ho];simp [Op.operands]
  split at h
  ·rename_i i ht
   split at h
   ·cases h
   ·rename_i hni
    split at h
    ·rename_i v hv;refine ⟨_,h,za7 fun w0 B w ι ρ hR hG hρ=>⟨_,?_,.p _ _ (.v _)⟩⟩
     cases hp:(aev env x).toP with
     | none=>rw [hp] at hv;cases hv
     | some p =>
      rw [hp] at hv;have e:=((hρ x hx).toP p hp).toV v hv;have hm:(Instr.makeInterface t v).run P w=.ok (.iface t v) w:=by
       simp only [Instr.makeInterface,Sem.run_bind,zco hT ht,Result.andThen_ok]
       cases hd:i.desc <;> first|rfl|exact absurd hd (hni _)
      simp [execOp,ho,e,hm]
    ·cases h
  ·cases h
 ·rename_i f fs cs ho;refine ⟨_,h,za7 fun w0 B w ι ρ hR hG hρ=>?_⟩
  refine ⟨.func (.func f) (fs.toList.map ρ).toArray (cs.toList.map ρ).toArray,?_,.clo f _ _ (fs.toList.map ρ) (cs.toList.map ρ) (by simp) (fun j a v ha hv=>?_) (by simp) (fun j a v ha hv=>?_)⟩
  ·have e1:(fs.toList.map ρ).toArray=fs.map ρ:=by apply Array.toList_inj.1;simp
   have e2:(cs.toList.map ρ).toArray=cs.map ρ:=by apply Array.toList_inj.1;simp
   rw [e1,e2];simp [execOp,ho,Instr.makeFunc]
  ·rw [List.getElem?_map] at ha hv
   cases hj:fs.toList[j]? with
   | none=>rw [hj] at ha;cases ha
   | some y =>
    rw [hj] at ha hv
    cases ha;cases hv
    have:=List.mem_of_getElem? hj
    exact hρ y (by rw [ho];simp only [Op.operands];exact Array.mem_append.2 (.inl (by simpa using this)))
  ·rw [List.getElem?_map] at ha hv
   cases hj:cs.toList[j]? with
   | none=>rw [hj] at ha;cases ha
   | some y =>
    rw [hj] at ha hv
    cases ha;cases hv
    have:=List.mem_of_getElem? hj
    exact hρ y (by rw [ho];simp only [Op.operands];exact Array.mem_append.2 (.inr (by simpa using this)))
 ·rename_i x ho;have hx:x ∈ o.op.operands:=by rw [ho];simp [Op.operands]
  split at h
  ·rename_i k j e;refine ⟨_,h,za7 fun w0 B w ι ρ hR hG hρ=>?_⟩
   have hv:=hρ x hx;rw [e] at hv;generalize hq:ρ x=v at hv
   cases hv with
   | own _ _ c s hi=>exact ⟨_,by simp [execOp,ho,hq],.own k j c s hi⟩
  ·rename_i k i j e;refine ⟨_,h,za7 fun w0 B w ι ρ hR hG hρ=>?_⟩
   have hv:=hρ x hx;rw [e] at hv;generalize hq:ρ x=v at hv
   cases hv with
   | orw _ _ _ c s hi=>exact ⟨_,by simp [execOp,ho,hq],.orw k i j c s hi⟩
  ·rename_i row e;refine ⟨_,h,za7 fun w0 B w ι ρ hR hG hρ=>?_⟩
   have hv:=hρ x hx;rw [e] at hv;generalize hq:ρ x=v at hv
   cases hv with
   | p _ _ hv =>
    cases hv with
    | rop _ b off vs hRb hb hc hr=>exact ⟨_,by simp [execOp,ho,hq],.p _ _ (.rop row b off vs hRb hb hc hr)⟩
  ·cases h
 ·rename_i op t x ho;exact zsi ho h
 ·rename_i src dst x ho
  split at h
  ·rename_i k i n ex;exact zq4 hT ho ex h
  ·exact zsq hT ho h
 ·rename_i op t x y ty ho
  split at h
  ·rename_i b hn;have hx:x ∈ o.op.operands:=by rw [ho];simp [Op.operands]
   have hy:y ∈ o.op.operands:=by rw [ho];simp [Op.operands]
   have hval:∀ (w0:Base) (B:Nat->Prop) (w:World) (ι:Pl) (ρ:Operand->Value),(∀ f,ρ (.func f)=.func (.func f) #[] #[])->(∀ x,x ∈ o.op.operands->Rep w ι (Rd B ι H) (aev env x) (ρ x)) →
     ρ y=.nilIface/\((b=false/\∃ tt v,ρ x=.iface tt v)\/(b=true/\ρ x=.nilIface/\(isC x || isC y)=true)):=fun w0 B w ι ρ _ hρ=>by
    have h1:=hρ x hx;have h2:=hρ y hy;unfold anil at hn
    split at hn
    ·rename_i e1 e2
     cases hn
     rw [e1] at h1;rw [e2] at h2;refine ⟨zbk h2,.inl ⟨rfl,?_⟩⟩;generalize ρ x=u at h1
     cases h1 with
     | p _ _ h1=>cases h1 with
      | err tt v=>exact ⟨tt,v,rfl⟩
    ·rename_i e1 e2
     cases hn
     rw [e1] at h1;rw [e2] at h2;exact ⟨zbk h2,.inl ⟨rfl,_,_,zbk h1⟩⟩
    ·rename_i e1 e2;rw [e1] at h1;rw [e2] at h2
     split at hn
     ·rename_i hc
      cases hn
      exact ⟨zbk h2,.inr ⟨rfl,zbk h1,hc⟩⟩
     ·cases hn
    ·cases hn
   have heq:∀ (i:TI) (ms:_),T t=some i->i.desc=.interface ms->∀ (u:Value),(b=false/\∃ tt v,u=.iface tt v)\/(b=true/\u=.nilIface)->∀ w,(Op.equal t u .nilIface).run P w=.ok b w:=fun i ms hi hd u hu w=>by
    unfold Op.equal Op.maxDepth;rw [show (10000:Nat)=9999 + 1 from rfl,Op.equalIn];simp only [Sem.run_bind,zco hT hi,Result.andThen_ok,hd]
    rcases hu with ⟨rfl,tt,v,rfl⟩|⟨rfl,rfl⟩ <;> rfl
   have hgd:∀ (u:Value),(∃ tt v,u=.iface tt v)\/(u=.nilIface/\(isC x || isC y)=true)->∀ w,(eqGuard op t x y u .nilIface).run P w=.ok () w:=fun u hu w=>by
    rcases hu with ⟨tt,v,rfl⟩|⟨rfl,hc⟩
    ·cases op <;> rfl
    ·cases x <;> cases y <;> first|(simp [isC] at hc;done)|(cases op <;> rfl)
   unfold z88 at h
   split at h
   ·rename_i i hi
    split at h
    ·rename_i ms hd;refine ⟨_,h,fun w0 B w ι ρ hR hG hρ hf=>?_⟩
     obtain ⟨e2,e1⟩:=hval w0 B w ι ρ hf hρ;have hr:(execOp ρ o).run P w=.ok (.value (.bool b)) w:=by
      have g:=hgd (ρ x) (by rcases e1 with ⟨_,tt,v,e⟩|⟨_,e,hc⟩;exact .inl ⟨tt,v,e⟩;exact .inr ⟨e,hc⟩) w
      have q:=heq i ms hi hd (ρ x) (by rcases e1 with ⟨e0,tt,v,e⟩|⟨e0,e,hc⟩;exact .inl ⟨e0,tt,v,e⟩;exact .inr ⟨e0,e⟩) w
      simp only [execOp,ho,e2,Sem.run_bind,g,Result.andThen_ok];have hb:binOp .eql t (ρ x) .nilIface=(do pure (.bool (← Op.equal t (ρ x) .nilIface))):=by
       rcases e1 with ⟨_,tt,v,e⟩|⟨_,e,_⟩ <;> rw [e] <;> rfl
      rw [hb];simp only [Sem.run_bind,q,Result.andThen_ok];rfl
     rw [hr];exact ⟨Gr.refl _,.p _ _ (.v _)⟩
    ·rename_i ms hd;refine ⟨_,h,fun w0 B w ι ρ hR hG hρ hf=>?_⟩
     obtain ⟨e2,e1⟩:=hval w0 B w ι ρ hf hρ;have hr:(execOp ρ o).run P w=.ok (.value (.bool (!b))) w:=by
      have g:=hgd (ρ x) (by rcases e1 with ⟨_,tt,v,e⟩|⟨_,e,hc⟩;exact .inl ⟨tt,v,e⟩;exact .inr ⟨e,hc⟩) w
      have q:=heq i ms hi hd (ρ x) (by rcases e1 with ⟨e0,tt,v,e⟩|⟨e0,e,hc⟩;exact .inl ⟨e0,tt,v,e⟩;exact .inr ⟨e0,e⟩) w
      simp only [execOp,ho,e2,Sem.run_bind,g,Result.andThen_ok];have hb:binOp .neq t (ρ x) .nilIface=(do pure (.bool (!(← Op.equal t (ρ x) .nilIface)))):=by
       rcases e1 with ⟨_,tt,v,e⟩|⟨_,e,_⟩ <;> rw [e] <;> rfl
      rw [hb];simp only [Sem.run_bind,q,Result.andThen_ok];rfl
     rw [hr];exact ⟨Gr.refl _,.p _ _ (.v _)⟩
    ·cases h
   ·cases h
  ·exact zv2 hT ho h
 ·rename_i t parts ho
  split at h
  ·rename_i i ht
   split at h
   ·rename_i fs hd
    split at h
    ·rename_i pl hpl
     split at h
     ·rename_i cs hcs;exact ⟨_,h,zq6 hT ho ht hd hpl hcs⟩
     ·cases h
    ·cases h
   ·cases h
  ·cases h
 ·rename_i c ho;unfold z86 at h
  split at h
  ·rename_i hc
   split at h
   ·rename_i x t hx ht
    split at h
    ·rename_i ti hti;exact zv0 hT ho hc hx ht hti h
    ·cases h
   ·cases h
  ·rename_i hc
   split at h
   ·rename_i k a k' b ha;obtain ⟨x,y,hxy,hx,hy⟩:=zxn ha;refine ⟨_,h,za7 fun w0 B w ι ρ hR hG hρ=>⟨_,?_,.p _ _ (.v _)⟩⟩
    have hargs:c.args=#[x,y]:=Array.toList_inj.1 (by simpa using hxy)
    have h1:=hρ x (by rw [ho];simp [Op.operands,Call.operands,hc,hargs])
    have h2:=hρ y (by rw [ho];simp [Op.operands,Call.operands,hc,hargs])
    rw [hx] at h1;rw [hy] at h2;simp [execOp,ho,resolve,hc,invoke,builtin,hargs,zbk h1,zbk h2,Builtin.max_,Builtin.max2,zas]
   ·cases h
  ·rename_i hc
   split at h
   ·rename_i k a k' b ha;obtain ⟨x,y,hxy,hx,hy⟩:=zxn ha;refine ⟨_,h,za7 fun w0 B w ι ρ hR hG hρ=>⟨_,?_,.p _ _ (.v _)⟩⟩
    have hargs:c.args=#[x,y]:=Array.toList_inj.1 (by simpa using hxy)
    have h1:=hρ x (by rw [ho];simp [Op.operands,Call.operands,hc,hargs])
    have h2:=hρ y (by rw [ho];simp [Op.operands,Call.operands,hc,hargs])
    rw [hx] at h1;rw [hy] at h2;simp [execOp,ho,resolve,hc,invoke,builtin,hargs,zbk h1,zbk h2,Builtin.min_,Builtin.min2,zas]
   ·cases h
  ·rename_i f hc
   split at h
   ·rename_i as has;obtain ⟨r,hr,h⟩:=h
    split at h
    ·cases h
    ·rename_i hp;exact ⟨_,h,zq5 ho hc has hr hp⟩
   ·cases h
  ·cases h
 ·cases h
end
/- Own work: operations that make or write memory of the walk's own,over values as data. -/
structure Can (G:World->Prop) (w0:Base) (B:Nat->Prop) (w:World) (ι:Pl) (H:AH):Prop where
 stab:∀ w',GrX ⟨w,zbg ι H,[],fun _=>none⟩ w'->G w'
 own:∀ b,w0.own b->B b
theorem Can.now {G:World->Prop} {w0:Base} {B:Nat->Prop} {w:World} {ι:Pl} {H:AH} (h:Can G w0 B w ι H):G w:=h.stab w ⟨rfl,rfl,rfl,nR _,fun _ _ _=>rfl⟩
def WS (P:Program) (G:World->Prop) (o:Oper) (env:List AV) (H:AH) (a:AV) (H':AH) (sc:Option (Nat->Bool)):Prop :=
 ∀ (w0:Base) (B:Nat->Prop) (w:World) (ι:Pl) (ρ:Operand->Value),Rel w0 B w ι H->Can G w0 B w ι H->(∀ x,x ∈ o.op.operands->Rep w ι (Rd B ι H) (aev env x) (ρ x))->(∀ f,ρ (.func f)=.func (.func f) #[] #[]) →
  zbi P (fun v w'=>∃ ι',Rel w0 B w' ι' H'/\Keeps sc w ι (Rd B ι H) w' ι' (Rd B ι' H')/\Rep w' ι' (Rd B ι' H') a v) ((execOp ρ o).run P w)
theorem za1 {α:Type} {l:List α} {x y:α} {k:Nat} (h:(l++[x])[k]?=some y):(k < l.length/\l[k]?=some y)\/(k=l.length/\y=x):=by
 rcases Nat.lt_trichotomy k l.length with h'|h'|h'
 ·rw [List.getElem?_append_left h'] at h;exact .inl ⟨h',h⟩
 ·subst h';rw [List.getElem?_append_right (nR _)] at h;simp at h;exact .inr ⟨rfl,h.symm⟩
 ·rw [List.getElem?_append_right (by omega)] at h
  rw [List.getElem?_eq_none (by simp;omega)] at h;cases h
theorem zfq {α:Type} {l:List α} {x y:α} {k:Nat} (h:l[k]?=some y):(l++[x])[k]?=some y:=by
 rw [List.getElem?_append_left (List.getElem?_eq_some_iff.1 h).1];exact h
theorem zaz {α:Type} (l:List α) (x:α):(l++[x])[l.length]?=some x:=by simp
theorem Rel.push {w0:Base} {B:Nat->Prop} {w:World} {ι:Pl} {H:AH} (h:Rel w0 B w ι H) (o:Obj) (b:ABlk) (s:Nat × Nat)
  (hb:∀ (ι':Pl) (R':Nat->Prop),Keeps none w ι (Rd B ι H) (w.alloc o) ι' R'->(w.alloc o).heap[w.heap.size]?=some o->zi0 (w.alloc o) ι' R' (some w.heap.size) s b) :
  Rel w0 B (w.alloc o) (ι++[(some w.heap.size,s)]) (H++[some b])/\Keeps none w ι (Rd B ι H) (w.alloc o) (ι++[(some w.heap.size,s)]) (Rd B (ι++[(some w.heap.size,s)]) (H++[some b])):=by
 have hown:∀ c,zbg (ι++[(some w.heap.size,s)]) (H++[some b]) c->zbg ι H c\/c=w.heap.size:=by
  rintro c ⟨k,b',s',h1,h2⟩
  rcases za1 h1 with ⟨hl,h1⟩|⟨rfl,e⟩
  ·rcases za1 h2 with ⟨hl',h2⟩|⟨e,_⟩
   ·exact .inl ⟨k,b',s',h1,h2⟩
   ·rw [h.len] at e;omega
  ·rw [<-h.len] at h2;rw [zaz] at h2
   cases h2;exact .inr rfl
 have hk:Keeps none w ι (Rd B ι H) (w.alloc o) (ι++[(some w.heap.size,s)]) (Rd B (ι++[(some w.heap.size,s)]) (H++[some b])) :=
  ⟨by simp,fun c hc hlt=>⟨⟨hc.1,fun ho=>by
   rcases hown c ho with ho|ho
   ·exact hc.2 ho
   ·omega⟩,heap_alloc_old w o hlt⟩,fun k c s _ hx=>zfq hx⟩
 refine ⟨⟨h.gr.trans ((Below.refl _ _).alloc (nR _) _),fun b hb=>h.fut b (by simp at hb;omega),by simp [h.len],fun k b' c s' h1 h2=>?_,fun k l b1 b2 c s1 s2 h1 h2 h3 h4=>?_⟩,hk⟩
 ·rcases za1 h1 with ⟨hl,h1⟩|⟨rfl,e⟩
  ·rcases za1 h2 with ⟨hl',h2⟩|⟨e,_⟩
   ·refine ⟨(h.blk k b' c s' h1 h2).1,(h.blk k b' c s' h1 h2).2.keep0 hk fun c' e=>?_⟩
    subst e;exact heap_alloc_old w o (h.lt ⟨k,b',s',h1,h2⟩)
   ·rw [h.len] at e;omega
  ·rw [<-h.len,zaz] at h2
   cases h2
   cases e
   exact ⟨fun c' e=>by cases e;exact .inr h.size,hb _ _ hk (heap_alloc_new w o)⟩
 ·rcases za1 h1 with ⟨hl,h1⟩|⟨rfl,e⟩
  ·rcases za1 h3 with ⟨_,h3⟩|⟨e,_⟩
   ·rcases za1 h2 with ⟨hl2,h2⟩|⟨rfl,e⟩
    ·rcases za1 h4 with ⟨_,h4⟩|⟨e,_⟩
     ·exact h.inj k l b1 b2 c s1 s2 h1 h2 h3 h4
     ·rw [h.len] at e;omega
    ·rw [<-h.len,zaz] at h4
     cases h4
     have:=h.lt ⟨k,b1,s1,h1,h3⟩
     omega
   ·rw [h.len] at e;omega
  ·rw [<-h.len,zaz] at h3
   cases h3
   rcases za1 h2 with ⟨hl2,h2⟩|⟨rfl,e⟩
   ·rcases za1 h4 with ⟨_,h4⟩|⟨e,_⟩
    ·have:=h.lt ⟨l,b2,s2,h2,h4⟩
     omega
    ·rw [h.len] at e;omega
   ·rfl
theorem zxc {ι:Pl} {H:AH} {k:Nat} {b b':ABlk} (hk:H[k]?=some (some b)) (c:Nat):zbg ι (H.set k (some b')) c ↔ zbg ι H c:=by
 have hlt:=(List.getElem?_eq_some_iff.1 hk).1
 constructor
 ·rintro ⟨l,b1,s,h1,h2⟩
  rw [List.getElem?_set] at h1
  split at h1
  ·rename_i e;subst e;exact ⟨k,b,s,hk,h2⟩
  ·exact ⟨l,b1,s,h1,h2⟩
 ·rintro ⟨l,b1,s,h1,h2⟩
  by_cases e:k=l
  ·subst e;exact ⟨k,b',s,by rw [List.getElem?_set];simp [hlt],h2⟩
  ·exact ⟨l,b1,s,by rw [List.getElem?_set,if_neg e];exact h1,h2⟩
theorem Rel.upd {w0:Base} {B:Nat->Prop} {w:World} {ι:Pl} {H:AH} (h:Rel w0 B w ι H) {k c:Nat} {s:Nat × Nat} {b b':ABlk} (hk:H[k]?=some (some b)) (hi:ι[k]?=some (some c,s)) {w':World}
  (hos:w'.os=w.os) (htape:w'.tape=w.tape) (hout:w'.output=w.output) (hsz:w'.heap.size=w.heap.size) (hoth:∀ d,d ≠ c->w'.heap[d]?=w.heap[d]?)
  (hb:∀ R',Keeps none w ι (Rd B ι H) w' ι R'->zi0 w' ι R' (some c) s b') :
  Rel w0 B w' ι (H.set k (some b'))/\Keeps none w ι (Rd B ι H) w' ι (Rd B ι (H.set k (some b'))):=by
 have hlt:=(List.getElem?_eq_some_iff.1 hk).1;have hkp:Keeps none w ι (Rd B ι H) w' ι (Rd B ι (H.set k (some b'))) :=
  ⟨by omega,fun d hd hdl=>⟨⟨hd.1,fun ho=>hd.2 ((zxc hk d).1 ho)⟩,hoth d fun e=>hd.2 (e ▸ ⟨k,b,s,hk,hi⟩)⟩,fun _ _ _ _ h=>h⟩
 have hc:=h.ge ⟨k,b,s,hk,hi⟩;refine ⟨⟨⟨hos.trans h.gr.os,htape.trans h.gr.tape,hout.trans h.gr.output,by have:=h.size;omega,fun d hd hx=>?_⟩,fun b hb=>h.fut b (by omega),by simp [h.len],fun l b1 c1 s1 h1 h2=>?_,fun l m b1 b2 c1 s1 s2 h1 h2 h3 h4=>?_⟩,hkp⟩
 ·rw [hoth d (fun e=>by subst e;rcases hc with h1|h1 <;> first|exact hx h1|omega)];exact h.gr.block d hd hx
 ·rw [List.getElem?_set] at h1
  split at h1
  ·rename_i e;subst e;rw [hi] at h2
   cases h2
   simp at h1;subst h1;exact ⟨fun c' e=>by cases e;exact hc,hb _ hkp⟩
  ·rename_i e;refine ⟨(h.blk l b1 c1 s1 h1 h2).1,(h.blk l b1 c1 s1 h1 h2).2.keep0 hkp fun c' e'=>?_⟩
   subst e';refine hoth c' fun ec=>?_
   subst ec;exact e (h.inj k l b b1 _ s s1 hk h1 hi h2)
 ·have g:∀ (n:Nat) (x:ABlk),(H.set k (some b'))[n]?=some (some x)->∃ y,H[n]?=some (some y):=fun n x hn=>by
   rw [List.getElem?_set] at hn
   split at hn
   ·rename_i e;subst e;exact ⟨b,hk⟩
   ·exact ⟨x,hn⟩
  obtain ⟨y1,g1⟩:=g l b1 h1;obtain ⟨y2,g2⟩:=g m b2 h2;exact h.inj l m y1 y2 c1 s1 s2 g1 g2 h3 h4
theorem zcs {P:Program} (o:Obj) (w:World):(newObj o).run P w=.ok w.heap.size (w.alloc o):=rfl
section
variable {P:Program} {G:World->Prop} {T:TT}
theorem zq7 (hT:TOk P T) {o:Oper} {t:TypeId} (ho:o.op=.alloc t) {i:TI} (ht:T t=some i) (h1:i.zero.cells.toList.all (·.oneCell')=true) {env:List AV} {H:AH} :
  WS P G o env H (.own H.length 0) (H++[some (.box (i.zero.cells.toList.map fun x=>.p (.v x)) t none)]) none:=by
 intro w0 B w ι ρ hR hG hρ hf;have hrun:(execOp ρ o).run P w=.ok (.value (.pointer (some ⟨w.heap.size,0,none⟩))) (w.alloc (.cells i.zero.cells t)):=by
  simp only [execOp,ho,Instr.alloc,Sem.run_bind,zpz hT ht,Result.andThen_ok,newVar,newRow,zcs,Sem.run_pure]
 rw [hrun]
 have:=hR.push (.cells i.zero.cells t) (.box (i.zero.cells.toList.map fun x=>.p (.v x)) t none) (0,0) (fun ι' R' hk hn=>by
  refine ⟨⟨rfl,fun n e=>by cases e⟩,_,_,rfl,hn,by simp,fun j a ha=>?_⟩
  rw [List.getElem?_map] at ha
  cases hz:i.zero.cells.toList[j]? with
  | none=>rw [hz] at ha;cases ha
  | some z =>
   rw [hz] at ha;cases ha
   exact ⟨z,by simpa using hz,by have:=List.all_eq_true.1 h1 z (List.mem_of_getElem? hz);simpa using this,.p _ _ (.v _)⟩)
 exact ⟨_,this.1,this.2,by rw [<-hR.len];exact .own _ 0 _ (0,0) (zaz _ _)⟩
def zjg:AV->Bool
 | .p (.v x)=>x.oneCell'
 | .p .e0=>true
 | .p (.ro _ _)=>true
 | .p (.rop _)=>true
 | .own _ _=>true
 | .orw _ _ _=>true
 | .osl _ _ _=>true
 | _=>false
theorem zrq {w:World} {ι:Pl} {R:Nat->Prop} {a:AV} {v:Value} (h:Rep w ι R a v) (ho:zjg a=true):v.oneCell'=true:=by
 cases h with
 | p x v h=>cases h <;> first|rfl|exact ho|(simp [zjg] at ho)
 | _=>first|rfl|(simp [zjg] at ho)
def zgl (a:AV):Bool:=zqe a && (zba a).all zjg
theorem zdp {w:World} {ι:Pl} {R:Nat->Prop} {a:AV} {v:Value} (h:Rep w ι R a v) (hok:zgl a=true) :
  (zba a).length=v.cells.size/\∀ (j:Nat) (c:AV),(zba a)[j]?=some c->∃ u,v.cells[j]?=some u/\u.oneCell'=true/\Rep w ι R c u:=by
 unfold zgl at hok;rw [bAT] at hok;have h1:=zp4 h hok.1;refine ⟨h1.1,fun j c hc=>?_⟩
 obtain ⟨u,hu,hr⟩:=h1.2 j c hc;exact ⟨u,hu,zrq hr (List.all_eq_true.1 hok.2 c (List.mem_of_getElem? hc)),hr⟩
theorem zv1 {o:Oper} {t:TypeId} {x:Operand} (ho:o.op=.box t x) {env:List AV} (hok:zgl (aev env x)=true) {H:AH} :
  WS P G o env H (.own H.length 0) (H++[some (.box (zba (aev env x)) t none)]) none:=by
 intro w0 B w ι ρ hR hG hρ hf;have hv:=hρ x (by rw [ho];simp [Op.operands])
 have hrun:(execOp ρ o).run P w=.ok (.value (.pointer (some ⟨w.heap.size,0,none⟩))) (w.alloc (.cells (ρ x).cells t)):=by
  simp only [execOp,ho,Instr.box,Sem.run_bind,Result.andThen_ok,newVar,newRow,zcs,Sem.run_pure]
 rw [hrun];have hc:=zdp hv hok
 have:=hR.push (.cells (ρ x).cells t) (.box (zba (aev env x)) t none) (0,0) (fun ι' R' hk hn=>by
  refine ⟨⟨rfl,fun n e=>by cases e⟩,_,_,rfl,hn,hc.1.symm,fun j a ha=>?_⟩
  obtain ⟨u,hu,h1,hr⟩:=hc.2 j a ha;exact ⟨u,hu,h1,hr.keep0 hk⟩)
 exact ⟨_,this.1,this.2,by rw [<-hR.len];exact .own _ 0 _ (0,0) (zaz _ _)⟩
theorem zl1 (hT:TOk P T) {o:Oper} {t:TypeId} {x y:Operand} (ho:o.op=.store t x y) {i:TI} (ht:T t=some i) {ρ:Operand->Value} {w:World} {c off:Nat} {arr:Array Value} {t':TypeId} (hx:ρ x=.pointer (some ⟨c,off,none⟩))
  (hc:w.heap[c]?=some (.cells arr t' (0,0))) (hsz:(ρ y).cells.size=i.size) (hle:off + (ρ y).cells.size<=arr.size) (h1:∀ v ∈ (ρ y).cells.toList,v.oneCell'=true) :
  (execOp ρ o).run P w=.ok .skip (w.setRow c (arr.toList.take off++(ρ y).cells.toList++arr.toList.drop (off + (ρ y).cells.toList.length)).toArray):=by
 have hst:=run_storeCells_at P c off t' (ρ y).cells.toList 0 arr w hc (by simpa using hle) h1
 simp only [Nat.add_zero] at hst;simp only [execOp,ho,hx,Instr.storeAt,Instr.sureAddr,storeVar,Sem.run_bind,Sem.run_pure,Result.andThen_ok,zie hT ht,hsz,ne_eq,not_true_eq_false,if_false];simp [hst]
theorem zix {arr:Array Value} {vs:List Value} {off m:Nat} (hle:off + vs.length<=arr.size):(arr.toList.take off++vs++arr.toList.drop (off + vs.length)).toArray[m]?=if off<=m/\m < off + vs.length then vs[m - off]? else arr[m]?:=by
 have:=zjw (cells:=arr.toList) (cs:=vs) (off:=off) (m:=m) (by simpa using hle)
 unfold zle at this;simpa using this
theorem zht {arr:Array Value} {vs:List Value} {off:Nat} (hle:off + vs.length<=arr.size):(arr.toList.take off++vs++arr.toList.drop (off + vs.length)).toArray.size=arr.size:=by
 simp;omega
theorem zvr (hT:TOk P T) {o:Oper} {t:TypeId} {x y:Operand} (ho:o.op=.store t x y) {i:TI} (ht:T t=some i) {env:List AV} {H:AH} {k j:Nat} {cs:List AV} {t':TypeId} {g:Option Nat}
  (ex:aev env x=.own k j) (hk:H[k]?=some (some (.box cs t' g))) (hok:zgl (aev env y)=true) (hsz:(zba (aev env y)).length=i.size) (hle:j + i.size<=cs.length) :
  WS P G o env H .junk (H.set k (some (.box (zle cs j (zba (aev env y))) t' g))) none:=by
 intro w0 B w ι ρ hR hG hρ hf;have hx:=hρ x (by rw [ho];simp [Op.operands])
 have hy:=hρ y (by rw [ho];simp [Op.operands])
 rw [ex] at hx;generalize hq:ρ x=vx at hx
 cases hx with
 | own _ _ c s hi =>
  obtain ⟨hg,c',arr,ec,hb,hal,hcs⟩:=(hR.blk k _ _ s hk hi).2
  cases ec
  have hyc:=zdp hy hok;have hone:∀ v ∈ (ρ y).cells.toList,v.oneCell'=true:=fun v hv=>by
   obtain ⟨n,hn⟩:=List.mem_iff_getElem?.1 hv;have hnl:n < (zba (aev env y)).length:=by rw [hyc.1];simpa using (List.getElem?_eq_some_iff.1 hn).1
   obtain ⟨u,hu,h1,_⟩:=hyc.2 n _ (List.getElem?_eq_getElem hnl)
   have:u=v:=by
    have h4:(ρ y).cells[n]?=some v:=by simpa using hn
    rw [hu] at h4;exact Option.some.inj h4
   subst this;exact h1
  have hlen:(ρ y).cells.toList.length=(zba (aev env y)).length:=by rw [hyc.1];simp
  have hle':j + (ρ y).cells.toList.length<=arr.size:=by rw [hlen,hal];omega
  rw [zl1 hT ho ht hq hb (by rw [<-hyc.1];exact hsz) (by simpa using hle') hone]
  have hh:=setRow_heap w c arr (arr.toList.take j++(ρ y).cells.toList++arr.toList.drop (j + (ρ y).cells.toList.length)).toArray t' (0,0) hb
  have:=hR.upd hk hi (b':=.box (zle cs j (zba (aev env y))) t' g) (w':=w.setRow c (arr.toList.take j++(ρ y).cells.toList++arr.toList.drop (j + (ρ y).cells.toList.length)).toArray) rfl rfl rfl (by simp) (fun d hd=>setRow_other w c d _ hd)
   (fun R' hkp=>⟨hg,c,_,rfl,hh,by rw [zht hle',zgf (by omega)];exact hal,fun m a ha=>by
    rw [zjw (by omega)] at ha
    rw [zix hle']
    split at ha
    ·rename_i hin;rw [if_pos (by omega)]
     obtain ⟨u,hu,h1,hr⟩:=hyc.2 _ a ha;exact ⟨u,by simpa using hu,h1,hr.keep0 hkp⟩
    ·rename_i hin;rw [if_neg (by omega)]
     obtain ⟨u,hu,h1,hr⟩:=hcs m a ha;exact ⟨u,hu,h1,hr.keep0 hkp⟩⟩)
  exact ⟨ι,this.1,this.2,.junk _⟩
theorem zvq (hT:TOk P T) {o:Oper} {t:TypeId} {x y:Operand} (ho:o.op=.store t x y) {i:TI} (ht:T t=some i) {env:List AV} {H:AH} {k r j s':Nat} {rs:List (List PV)} {row:List PV} {t':TypeId} {pcs:List PV}
  (ex:aev env x=.orw k r j) (hk:H[k]?=some (some (.rows s' rs t'))) (hrow:rs[r]?=some row) (hok:zgl (aev env y)=true) (hp:AV.toP.toPL (zba (aev env y))=some pcs) (hsz:(zba (aev env y)).length=i.size) (hle:j + i.size<=row.length) :
  WS P G o env H .junk (H.set k (some (.rows s' (rs.set r (zle row j pcs)) t'))) none:=by
 intro w0 B w ι ρ hR hG hρ hf;have hx:=hρ x (by rw [ho];simp [Op.operands])
 have hy:=hρ y (by rw [ho];simp [Op.operands])
 rw [ex] at hx;generalize hq:ρ x=vx at hx
 cases hx with
 | orw _ _ _ c s hi =>
  obtain ⟨es,hl,hh⟩:=(hR.blk k _ _ s hk hi).2;subst es
  rcases hh with ⟨ec,_⟩|⟨c',arr,ec,hb,hz,hcs⟩
  ·cases ec
  cases ec
  have hyc:=zdp hy hok;have hpg:=zez _ _ hp;have hone:∀ v ∈ (ρ y).cells.toList,v.oneCell'=true:=fun v hv=>by
   obtain ⟨n,hn⟩:=List.mem_iff_getElem?.1 hv;have hnl:n < (zba (aev env y)).length:=by rw [hyc.1];simpa using (List.getElem?_eq_some_iff.1 hn).1
   obtain ⟨u,hu,h1,_⟩:=hyc.2 n _ (List.getElem?_eq_getElem hnl)
   have:u=v:=by
    have h4:(ρ y).cells[n]?=some v:=by simpa using hn
    rw [hu] at h4;exact Option.some.inj h4
   subst this;exact h1
  have hlen:(ρ y).cells.toList.length=(zba (aev env y)).length:=by rw [hyc.1];simp
  have hrl:=hl r row hrow;have hle':r * s.1 + j + (ρ y).cells.toList.length<=arr.size:=by
   by_cases h0:row.length=0
   ·have:arr.size=arr.size:=rfl
    have h00:j=0/\i.size=0:=by omega
    rw [hlen,hsz,h00.2,h00.1];rw [<-hrl,h0];simp
   ·obtain ⟨v,hv,_,_⟩:=hcs r (row.length - 1) row _ hrow (List.getElem?_eq_getElem (by omega))
    have:=(Array.getElem?_eq_some_iff.1 hv).1
    omega
  rw [zl1 hT ho ht hq hb (by rw [<-hyc.1];exact hsz) (by simpa using hle') hone]
  have hh:=setRow_heap w c arr (arr.toList.take (r * s.1 + j)++(ρ y).cells.toList++arr.toList.drop (r * s.1 + j + (ρ y).cells.toList.length)).toArray t' (0,0) hb
  have:=hR.upd hk hi (b':=.rows s.1 (rs.set r (zle row j pcs)) t') (w':=w.setRow c (arr.toList.take (r * s.1 + j)++(ρ y).cells.toList++arr.toList.drop (r * s.1 + j + (ρ y).cells.toList.length)).toArray) rfl rfl rfl (by simp) (fun d hd=>setRow_other w c d _ hd)
   (fun R' hkp=>by
    refine ⟨rfl,fun m row2 hm=>?_,.inr ⟨c,_,rfl,hh,by rw [zht hle'];exact hz,fun m n row2 a hm hn=>?_⟩⟩
    ·rw [List.getElem?_set] at hm
     split at hm
     ·split at hm
      ·cases hm
       rw [zgf (by omega)];exact hrl
      ·cases hm
     ·exact hl m row2 hm
    ·rw [zix hle'];have hns:n < s.1:=by
      rw [List.getElem?_set] at hm
      split at hm
      ·split at hm
       ·cases hm
        have:=(List.getElem?_eq_some_iff.1 hn).1
        rw [zgf (by omega)] at this;omega
       ·cases hm
      ·have:=(List.getElem?_eq_some_iff.1 hn).1
       have:=hl m row2 hm;omega
     rw [List.getElem?_set] at hm
     split at hm
     ·rename_i e;subst e
      split at hm
      ·cases hm
       rw [zjw (by omega)] at hn
       split at hn
       ·rename_i hin;rw [if_pos (by omega)]
        have hcl:n - j < (zba (aev env y)).length:=by omega
        obtain ⟨u,hu,h1,hr⟩:=hyc.2 (n - j) _ (List.getElem?_eq_getElem hcl);obtain ⟨p,hp1,hp2⟩:=hpg.2 (n - j) _ (List.getElem?_eq_getElem hcl);rw [hp1] at hn;cases hn
        refine ⟨u,?_,h1,(hr.toP _ hp2).keep hkp.size hkp.read⟩;rw [show r * s.1 + n - (r * s.1 + j)=n - j by omega]
        simpa using hu
       ·rename_i hin;rw [if_neg (by omega)]
        obtain ⟨u,hu,h1,hr⟩:=hcs r n row a hrow hn;exact ⟨u,hu,h1,hr.keep hkp.size hkp.read⟩
      ·cases hm
     ·rename_i e;have hne:¬ (r * s.1 + j<=m * s.1 + n/\m * s.1 + n < r * s.1 + j + (ρ y).cells.toList.length):=by
       rintro ⟨h1,h2⟩
       rcases Nat.lt_or_gt_of_ne e with hlt|hgt
       ·have:(r + 1) * s.1<=m * s.1:=Nat.mul_le_mul_right _ hlt
        rw [Nat.succ_mul] at this;omega
       ·have:(m + 1) * s.1<=r * s.1:=Nat.mul_le_mul_right _ hgt
        rw [Nat.succ_mul] at this;omega
      rw [if_neg hne];obtain ⟨u,hu,h1,hr⟩:=hcs m n row2 a hm hn;exact ⟨u,hu,h1,hr.keep hkp.size hkp.read⟩)
  exact ⟨ι,this.1,this.2,.junk _⟩
end
/- Own work: append onto a row of the walk's own;slice literals;ranging over a string. -/
def zar (p:Nat->Bool):Option ABlk->Option ABlk
 | some (.box cs t g)=>some (.box (cs.map (AV.scrub p)) t g)
 | b=>b
theorem ze7 {H:AH} {p:Nat->Bool} {l:Nat} {b:ABlk} (h:(H.map (zar p))[l]?=some (some b)):∃ b0,H[l]?=some (some b0)/\b=znn (some p) b0:=by
 rw [List.getElem?_map] at h
 cases hl:H[l]? with
 | none=>rw [hl] at h;cases h
 | some ob =>
  rw [hl] at h
  cases ob with
  | none=>cases h
  | some b0 =>
   refine ⟨b0,rfl,?_⟩;simp only [Option.map_some,Option.some.injEq] at h
   cases b0 <;> simp [zar] at h <;> exact h.symm
theorem Rel.move {w0:Base} {B:Nat->Prop} {w:World} {ι:Pl} {H:AH} (h:Rel w0 B w ι H) {k:Nat} {c c':Option Nat} {s s':Nat × Nat} {b b':ABlk} (hk:H[k]?=some (some b)) (hi:ι[k]?=some (c,s)) {w':World}
  (hg:w.grownBy w' c) (hc':c'=none\/c'=c\/c'=some w.heap.size)
  (hb:∀ ι' R',Keeps (some (one k)) w ι (Rd B ι H) w' ι' R'->zi0 w' ι' R' c' s' b') :
  Rel w0 B w' (ι.set k (c',s')) ((H.map (zar (one k))).set k (some b'))/\Keeps (some (one k)) w ι (Rd B ι H) w' (ι.set k (c',s')) (Rd B (ι.set k (c',s')) ((H.map (zar (one k))).set k (some b'))):=by
 have hkl:k < H.length:=(List.getElem?_eq_some_iff.1 hk).1;have hil:k < ι.length:=(List.getElem?_eq_some_iff.1 hi).1;have hget:∀ (l:Nat) (x:ABlk),((H.map (zar (one k))).set k (some b'))[l]?=some (some x)->(l=k/\x=b')\/(l ≠ k/\∃ x0,H[l]?=some (some x0)/\x=znn (some (one k)) x0):=by
  intro l x hx;rw [List.getElem?_set] at hx
  split at hx
  ·rename_i e;subst e;simp [hkl] at hx;exact .inl ⟨rfl,hx.symm⟩
  ·rename_i e;exact .inr ⟨fun e'=>e e'.symm,ze7 hx⟩
 have hplace:∀ (l:Nat),l ≠ k->(ι.set k (c',s'))[l]?=ι[l]?:=fun l hl=>by rw [List.getElem?_set,if_neg (Ne.symm hl)]
 have hplk:(ι.set k (c',s'))[k]?=some (c',s'):=by rw [List.getElem?_set];simp [hil]
 have hown:∀ d,zbg (ι.set k (c',s')) ((H.map (zar (one k))).set k (some b')) d->zbg ι H d\/d=w.heap.size:=by
  rintro d ⟨l,x,s1,h1,h2⟩
  rcases hget l x h1 with ⟨rfl,rfl⟩|⟨hne,x0,h3,_⟩
  ·rw [hplk] at h2
   rcases hc' with e|e|e
   ·rw [e] at h2;cases h2
   ·rw [e] at h2;refine .inl ⟨l,b,s,hk,?_⟩
    cases h2
    exact hi
   ·rw [e] at h2;cases h2;exact .inr rfl
  ·rw [hplace l hne] at h2;exact .inl ⟨l,x0,s1,h3,h2⟩
 have hrow:∀ d,some d=c->zbg ι H d:=fun d e=>⟨k,b,s,hk,by rw [hi,<- e]⟩
 have hkp:Keeps (some (one k)) w ι (Rd B ι H) w' (ι.set k (c',s')) (Rd B (ι.set k (c',s')) ((H.map (zar (one k))).set k (some b'))) :=
  ⟨hg.size,fun d hd hlt=>⟨⟨hd.1,fun ho=>by
   rcases hown d ho with ho|ho
   ·exact hd.2 ho
   ·omega⟩,hg.block d hlt fun e=>hd.2 (hrow d e)⟩,fun l x s2 hl hx=>by
   rw [hplace l fun e=>by have:=hl _ rfl;rw [e,z0q] at this;cases this];exact hx⟩
 refine ⟨⟨⟨hg.os.trans h.gr.os,hg.tape.trans h.gr.tape,hg.output.trans h.gr.output,Nat.le_trans h.size hg.size,fun d hd hx=>?_⟩,fun b hb=>h.fut b (Nat.le_trans hg.size hb),by simp [h.len],fun l x d s1 h1 h2=>?_,fun l m x y d s1 s2 h1 h2 h3 h4=>?_⟩,hkp⟩
 ·rw [hg.block d (by have:=h.size;omega) fun e=>by rcases h.ge (hrow d e) with h1|h1 <;> first|exact hx h1|omega]
  exact h.gr.block d hd hx
 ·rcases hget l x h1 with ⟨rfl,rfl⟩|⟨hne,x0,h3,hx⟩
  ·rw [hplk] at h2
   cases h2
   refine ⟨fun d e=>?_,hb _ _ hkp⟩
   rcases hc' with e'|e'|e'
   ·rw [e'] at e;cases e
   ·exact h.ge (hrow d (by rw [<-e',e]))
   ·rw [e'] at e;cases e;exact .inr h.size
  ·rw [hplace l hne] at h2;refine ⟨(h.blk l x0 d s1 h3 h2).1,?_⟩;rw [hx];refine (h.blk l x0 d s1 h3 h2).2.keep hkp fun d' e=>?_
   subst e;refine hg.block d' (h.lt ⟨l,x0,s1,h3,h2⟩) fun e=>?_
   exact hne (h.inj l k x0 b d' s1 s h3 hk h2 (by rw [hi,<- e]))
 ·rcases hget l x h1 with ⟨rfl,rfl⟩|⟨hne,x0,g1,_⟩
  ·rcases hget m y h2 with ⟨rfl,rfl⟩|⟨hne',y0,g2,_⟩
   ·rfl
   ·rw [hplk] at h3;rw [hplace m hne'] at h4;have hm:=h.lt ⟨m,y0,s2,g2,h4⟩
    rcases hc' with e|e|e
    ·rw [e] at h3;cases h3
    ·rw [e] at h3
     cases h3
     exact h.inj l m b y0 d s s2 hk g2 hi h4
    ·rw [e] at h3
     cases h3
     omega
  ·rw [hplace l hne] at h3;have hm:=h.lt ⟨l,x0,s1,g1,h3⟩
   rcases hget m y h2 with ⟨rfl,rfl⟩|⟨hne',y0,g2,_⟩
   ·rw [hplk] at h4
    rcases hc' with e|e|e
    ·rw [e] at h4;cases h4
    ·rw [e] at h4
     cases h4
     exact h.inj l m x0 b d s1 s g1 hk h3 hi
    ·rw [e] at h4
     cases h4
     omega
   ·rw [hplace m hne'] at h4;exact h.inj l m x0 y0 d s1 s2 g1 g2 h3 h4
theorem zwy {rows:List (List PV)} {s:Nat} (hs:∀ (i:Nat) (row:List PV),rows[i]?=some row->row.length=s) {q:Nat} (hq:q < rows.length * s) :
  ∃ row a,rows[q / s]?=some row/\row[q % s]?=some a/\q / s * s + q % s=q:=by
 have hs0:0 < s:=by
  rcases Nat.eq_zero_or_pos s with h|h
  ·subst h;simp at hq
  ·exact h
 have h1:q / s < rows.length:=(Nat.div_lt_iff_lt_mul hs0).2 hq;have h2:q % s < s:=Nat.mod_lt _ hs0;have hr:rows[q / s]?=some rows[q / s]:=List.getElem?_eq_getElem h1;have hl:=hs _ _ hr;exact ⟨_,_,hr,List.getElem?_eq_getElem (by omega),by rw [Nat.mul_comm];exact Nat.div_add_mod q s⟩
section
variable {P:Program} {G:World->Prop} {T:TT}
structure SrcAt (w:World) (R:Nat->Prop) (s:Nat) (rows:List (List PV)) (v:Value):Prop where
 len:∀ (i:Nat) (row:List PV),rows[i]?=some row->row.length=s
 at_:(∃ A cap,v=.slice A 0 cap/\rows=[])\/∃ (b o cap:Nat) (vs:Nat->Nat->Value),v=.slice (some ⟨b,o,none⟩) rows.length cap ∧
  (∀ (i j:Nat) (row:List PV) (a:PV),rows[i]?=some row->row[j]?=some a->w.cell? ⟨b,o + (i * s + j),none⟩=some (vs i j)/\(vs i j).oneCell'=true/\RepP w R a (vs i j))
theorem z6n {w:World} {R:Nat->Prop} {s:Nat} {rows:List (List PV)} {v:Value} (h:RepP w R (.ro s rows) v):SrcAt w R s rows v:=by
 cases h with
 | ro0 s A cap=>exact ⟨fun i row h=>by simp at h,.inl ⟨A,cap,rfl,rfl⟩⟩
 | ro s rows b o cap vs hR hb hcap hs hc hr=>exact ⟨hs,.inr ⟨b,o,cap,vs,rfl,fun i j row a h1 h2=>⟨(hc i j row a h1 h2).1,(hc i j row a h1 h2).2,hr i j row a h1 h2⟩⟩⟩
theorem zl2 (hT:TOk P T) {t ty e:TypeId} {ti te:TI} (ht:T t=some ti) (hd:ti.desc=.slice e) (he:T e=some te)
  {A A':Option Addr} {n cap cap':Nat} (hn:n<=cap) (w:World):(Builtin.append_ #[t,t] ty #[.slice A n cap,.slice A' 0 cap']).run P w=.ok (.slice A n cap) w:=by
 cases A' <;> cases A <;> simp [Builtin.append_,zco hT ht,hd,zie hT he,Builtin.lenOf,Builtin.firstCells,loadCells,loadCellsFrom,storeCells,hn]
theorem zla (hT:TOk P T) {t e ty:TypeId} {ti te:TI} (ht:T t=some ti) (hd:ti.desc=.slice e) (he:T e=some te)
  (hz:te.zero.cells.size=te.size) (hs0:0 < te.size) {H:AH} {k n:Nat} {rs:List (List PV)} (hk:H[k]?=some (some (.rows te.size rs e))) (hn:n<=rs.length)
  {rows:List (List PV)} (h63:n + rows.length<=maxLen) (hby:(n + rows.length) * te.bytes<=140737488355328)
  {w0:Base} {B:Nat->Prop} {w:World} {ι:Pl} (hR:Rel w0 B w ι H) {vx vy:Value} (hx:Rep w ι (Rd B ι H) (.osl k 0 n) vx) (hyv:SrcAt w (Rd B ι H) te.size rows vy) :
  ∃ v' w' ι',(Builtin.append_ #[t,t] ty #[vx,vy]).run P w=.ok v' w'/\Rel w0 B w' ι' ((H.map (zar (one k))).set k (some (.rows te.size (rs.take n++rows) e))) ∧
   Keeps (some (one k)) w ι (Rd B ι H) w' ι' (Rd B ι' ((H.map (zar (one k))).set k (some (.rows te.size (rs.take n++rows) e)))) ∧
   Rep w' ι' (Rd B ι' ((H.map (zar (one k))).set k (some (.rows te.size (rs.take n++rows) e)))) (.osl k 0 (n + rows.length)) v':=by
 obtain ⟨⟨cc,sz⟩,hi⟩:∃ p,ι[k]?=some p:=by
  have hl:=(List.getElem?_eq_some_iff.1 hk).1;exact ⟨_,List.getElem?_eq_getElem (by rw [hR.len];exact hl)⟩
 obtain ⟨hge,hblk⟩:=hR.blk k _ cc sz hk hi;obtain ⟨es,hrl,hcells⟩:=hblk;have htk:∀ (i:Nat) (row:List PV),(rs.take n)[i]?=some row->rs[i]?=some row/\i < n:=fun i row h=>by
  rw [List.getElem?_take] at h
  split at h
  ·rename_i h';exact ⟨h,h'⟩
  ·cases h
 have htl:(rs.take n).length=n:=by rw [List.length_take];omega
 obtain ⟨info,hinfo,hiz,his,hib⟩:=info_parts (hT e te he).1.2;have hund:P.underlying t=some (.slice e):=by rw [(hT t ti ht).1.1,hd]
 rcases hyv.at_ with ⟨A,cap,rfl,rfl⟩|⟨b,off,cap,vs,rfl,hvs⟩
 ·
  simp only [List.length_nil,Nat.add_zero,List.append_nil] at h63 hby ⊢;have hcase:∃ A0 cap0,vx=.slice A0 n cap0/\n<=cap0/\((A0=none/\n=0/\cap0=0)\/∃ c0,cc=some c0/\A0=some ⟨c0,0,none⟩/\cap0<=maxLen/\sz.2=(0 + cap0) * sz.1):=by
   cases hx with
   | osl0=>exact ⟨none,0,rfl,nR _,.inl ⟨rfl,rfl,rfl⟩⟩
   | osl _ _ _ c0 cap0 s hi' hn' hm hz' =>
    rw [hi] at hi';cases hi'
    exact ⟨some ⟨c0,0 * sz.1,none⟩,cap0,rfl,hn',.inr ⟨c0,rfl,by simp,hm,hz'⟩⟩
  obtain ⟨A0,cap0,rfl,hn0,hA⟩:=hcase;have hrz:=zl2 (P:=P) (ty:=ty) (A:=A0) (A':=A) (cap':=cap) hT ht hd he hn0 w;have hgb:w.grownBy w cc:=⟨rfl,rfl,rfl,nR _,fun _ _ _=>rfl⟩
  have hmv:=hR.move (b':=.rows te.size (rs.take n) e) (s':=sz) (c':=cc) hk hi hgb (.inr (.inl rfl)) (fun ι' R' hkp=>by
   refine ⟨es,fun i row hrow=>hrl i row (htk i row hrow).1,?_⟩
   rcases hcells with ⟨e1,e2⟩|⟨c0,arr,e1,hb,hz0,hcs⟩
   ·refine .inl ⟨e1,?_⟩;rw [e2];simp
   ·refine .inr ⟨c0,arr,e1,hb,hz0,fun i j row a h1 h2=>?_⟩
    obtain ⟨v,hv,h1',hr⟩:=hcs i j row a (htk i row h1).1 h2;exact ⟨v,hv,h1',hr.keep hkp.size hkp.read⟩)
  refine ⟨_,_,_,hrz,hmv.1,hmv.2,?_⟩;have hplk:(ι.set k (cc,sz))[k]?=some (cc,sz):=by
   have hil:k < ι.length:=(List.getElem?_eq_some_iff.1 hi).1;rw [List.getElem?_set];simp [hil]
  rcases hA with ⟨rfl,rfl,rfl⟩|⟨c0,rfl,rfl,hm,hz'⟩
  ·exact .osl0 k 0
  ·have:=Rep.osl (w:=w) (ι:=ι.set k (some c0,sz)) (R:=Rd B (ι.set k (some c0,sz)) ((H.map (zar (one k))).set k (some (.rows te.size (rs.take n) e)))) k 0 n c0 cap0 sz hplk hn0 hm hz'
   simpa using this
 ·
  have hnews:∀ q,q < rows.length * te.size->∃ row a,rows[q / te.size]?=some row/\row[q % te.size]?=some a/\q / te.size * te.size + q % te.size=q:=fun q hq=>zwy hyv.len hq
  have hlen:((List.range (rows.length * te.size)).map fun q=>vs (q / te.size) (q % te.size)).length=rows.length * te.size:=by simp
  have hcell:∀ j u,((List.range (rows.length * te.size)).map fun q=>vs (q / te.size) (q % te.size))[j]?=some u->w.cell? ((⟨b,off,none⟩:Addr).add j)=some u:=by
   intro j u hj;have hjl:j < rows.length * te.size:=by
    have:=(List.getElem?_eq_some_iff.1 hj).1
    simpa using this
   rw [List.getElem?_map,List.getElem?_range hjl] at hj
   cases hj
   obtain ⟨row,a,h1,h2,h3⟩:=hnews j hjl;rw [Addr.add_lit]
   have:=(hvs _ _ row a h1 h2).1
   rw [h3] at this;exact this
  have hone:∀ u ∈ (List.range (rows.length * te.size)).map (fun q=>vs (q / te.size) (q % te.size)),u.oneCell'=true:=by
   intro u hu;obtain ⟨q,hq,rfl⟩:=List.mem_map.1 hu;obtain ⟨row,a,h1,h2,_⟩:=hnews q (List.mem_range.1 hq);exact (hvs _ _ row a h1 h2).2.1
  have hownx:∃ xs:List Value,w.ownsRow 0 e te.size vx n xs/\(vx.ownBlock=none\/vx.ownBlock=cc) ∧
    ∀ (i j:Nat) (row:List PV) (a:PV),(rs.take n)[i]?=some row->row[j]?=some a->∃ v,xs[i * te.size + j]?=some v/\v.oneCell'=true/\RepP w (Rd B ι H) a v:=by
   cases hx with
   | osl0 =>
    refine ⟨[],World.ownsRow_nil w _ _ _,.inl rfl,fun i j row a h1 _=>?_⟩
    simp at h1
   | osl _ _ _ c0 cap0 s hi' hn' hm hz' =>
    rw [hi] at hi';cases hi'
    rcases hcells with ⟨e1,_⟩|⟨c1,arr,e1,hb,hz0,hcs⟩
    ·cases e1
    cases e1
    refine ⟨arr.toList.take (n * te.size),⟨?_,.inr ⟨c0,cap0,arr,by simp,Nat.zero_le _,hb,hn',hm,?_,rfl⟩⟩,?_,fun i j row a h1 h2=>?_⟩
    ·rw [List.length_take,Array.length_toList,hz0,hz',<- es,Nat.zero_add]
     have:n * te.size<=cap0 * te.size:=Nat.mul_le_mul_right _ hn'
     omega
    ·rw [hz0,hz',<- es,Nat.zero_add]
    ·exact .inr rfl
    ·obtain ⟨h1',hlt⟩:=htk i row h1;obtain ⟨v,hv,h3,hr⟩:=hcs i j row a h1' h2;refine ⟨v,?_,h3,hr⟩;have hjl:j < te.size:=by
      have:=(List.getElem?_eq_some_iff.1 h2).1
      have:=hrl i row h1'
      omega
     have hlt2:i * te.size + j < n * te.size:=by
      have:(i + 1) * te.size<=n * te.size:=Nat.mul_le_mul_right _ hlt
      rw [Nat.succ_mul] at this;omega
     rw [List.getElem?_take,if_pos hlt2];rw [<-es] at hv;simpa using hv
  obtain ⟨xs,hown,hob,hxs⟩:=hownx;obtain ⟨v',w',hrun,hown',hgrow,hnil,hat⟩:=run_append_own_at (P:=P) w 0 t ty e info te.zero te.size te.bytes hund hinfo hiz his hib hz hs0 vx n xs hown ⟨b,off,none⟩ rows.length cap _ hlen hcell hone h63 hby (Nat.zero_le _);have hgb:w.grownBy w' cc:=by
   rcases hob with hob|hob
   ·exact ⟨hgrow.os,hgrow.tape,hgrow.output,hgrow.size,fun d hd _=>hgrow.block d hd (by rw [hob];simp)⟩
   ·rw [hob] at hgrow;exact hgrow
  have hxl:xs.length=n * te.size:=hown.1
  rcases hown'.2 with ⟨rfl,hn0⟩|⟨g,cap',cur,rfl,hbg,hg,hnc,hcm,hcs,htake⟩
  ·
   have hr0:rows.length=0:=by omega
   have hr1:rows=[]:=List.eq_nil_of_length_eq_zero hr0;have hn1:n=0:=by omega
   subst hr1;subst hn1;have hmv:=hR.move (b':=.rows te.size (rs.take 0++[]) e) (s':=sz) (c':=none) hk hi hgb (.inl rfl) (fun ι' R' hkp=>by
    refine ⟨es,fun i row hrow=>by simp at hrow,.inl ⟨rfl,by simp⟩⟩)
   exact ⟨_,_,_,hrun,hmv.1,hmv.2,.osl0 k 0⟩
  ·have hc':some g=none\/some g=cc\/some g=some w.heap.size:=by
    rcases hat with h1|h1
    ·change some g=vx.ownBlock at h1
     rcases hob with hob|hob
     ·rw [hob] at h1;cases h1
     ·rw [hob] at h1;exact .inr (.inl h1)
    ·exact .inr (.inr h1)
   have hmv:=hR.move (b':=.rows te.size (rs.take n++rows) e) (s':=(te.size,cap' * te.size)) (c':=some g) hk hi hgb hc' (fun ι' R' hkp=>by
    refine ⟨rfl,fun i row hrow=>?_,.inr ⟨g,cur,rfl,hg,hcs,fun i j row a h1 h2=>?_⟩⟩
    ·rcases Nat.lt_or_ge i n with hlt|hge'
     ·rw [List.getElem?_append_left (by omega)] at hrow
      have:=hrl i row (htk i row hrow).1
      rw [es];exact this
     ·rw [List.getElem?_append_right (by omega),htl] at hrow
      exact hyv.len _ row hrow
    ·have hlook:∀ q,q < (n + rows.length) * te.size->cur[q]?=(xs++(List.range (rows.length * te.size)).map fun q=>vs (q / te.size) (q % te.size))[q]?:=by
      intro q hq;rw [<-htake,List.getElem?_take,if_pos hq];simp
     rcases Nat.lt_or_ge i n with hlt|hge'
     ·rw [List.getElem?_append_left (by omega)] at h1
      have hrl':=hrl i row (htk i row h1).1;have hjl:j < te.size:=by
       have:=(List.getElem?_eq_some_iff.1 h2).1
       rw [es];omega
      obtain ⟨v,hv,h3,hr⟩:=hxs i j row a h1 h2;have hq:i * te.size + j < n * te.size:=by
       have:(i + 1) * te.size<=n * te.size:=Nat.mul_le_mul_right _ hlt
       rw [Nat.succ_mul] at this;omega
      refine ⟨v,?_,h3,hr.keep hkp.size hkp.read⟩;show cur[i * te.size + j]?=some v;rw [hlook _ (by rw [Nat.add_mul];omega),List.getElem?_append_left (by rw [hxl];exact hq)]
      exact hv
     ·rw [List.getElem?_append_right (by omega),htl] at h1
      have hrl':=hyv.len _ row h1;have hjl:j < te.size:=by
       have:=(List.getElem?_eq_some_iff.1 h2).1
       omega
      have hil2:i - n < rows.length:=(List.getElem?_eq_some_iff.1 h1).1;obtain ⟨_,h3,h4⟩:=hvs _ j row a h1 h2;have hq:(i - n) * te.size + j < rows.length * te.size:=by
       have:(i - n + 1) * te.size<=rows.length * te.size:=Nat.mul_le_mul_right _ hil2
       rw [Nat.succ_mul] at this;omega
      have hie:i * te.size=n * te.size + (i - n) * te.size:=by
       rw [<-Nat.add_mul];congr 1;omega
      refine ⟨vs (i - n) j,?_,h3,h4.keep hkp.size hkp.read⟩;show cur[i * te.size + j]?=some _;rw [hlook _ (by rw [Nat.add_mul];omega),List.getElem?_append_right (by rw [hxl];omega),hxl]
      rw [show i * te.size + j - n * te.size=(i - n) * te.size + j by omega]
      rw [List.getElem?_map,List.getElem?_range hq];have hd1:((i - n) * te.size + j) / te.size=i - n:=by
       rw [Nat.mul_comm,Nat.mul_add_div hs0,Nat.div_eq_of_lt hjl];rfl
      have hd2:((i - n) * te.size + j) % te.size=j:=by
       rw [Nat.mul_comm,Nat.mul_add_mod];exact Nat.mod_eq_of_lt hjl
      simp [hd1,hd2])
   refine ⟨_,_,_,hrun,hmv.1,hmv.2,?_⟩;have hil:k < ι.length:=(List.getElem?_eq_some_iff.1 hi).1
   have:=Rep.osl (w:=w') (ι:=ι.set k (some g,te.size,cap' * te.size)) (R:=Rd B (ι.set k (some g,te.size,cap' * te.size)) ((H.map (zar (one k))).set k (some (.rows te.size (rs.take n++rows) e)))) k 0 (n + rows.length) g cap' (te.size,cap' * te.size) (by rw [List.getElem?_set];simp [hil]) hnc hcm (by simp)
   simpa using this
theorem zi5 {o:Oper} {c:Call} {x y:Operand} (ho:o.op=.call c) (hc:c.callee=.builtin .append) (ha:c.args.toList=[x,y]) {t:TypeId} (hat:c.argTypes.toList=[t,t]) {ρ:Operand->Value} {w w':World} {v:Value}
  (hr:(Builtin.append_ #[t,t] o.type #[ρ x,ρ y]).run P w=.ok v w'):(execOp ρ o).run P w=.ok (.value v) w':=by
 have hargs:c.args=#[x,y]:=Array.toList_inj.1 (by simpa using ha)
 have hat':c.argTypes=#[t,t]:=Array.toList_inj.1 (by simpa using hat)
 simp only [execOp,ho,resolve,hc,Sem.run_bind,Sem.run_pure,Result.andThen_ok,invoke,builtin,hargs,hat'];simp [hr]
theorem zfv {o:Oper} {c:Call} {x y:Operand} (ho:o.op=.call c) (hc:c.callee=.builtin .append) (ha:c.args.toList=[x,y]):x ∈ o.op.operands/\y ∈ o.op.operands:=by
 have hargs:c.args=#[x,y]:=Array.toList_inj.1 (by simpa using ha)
 rw [ho];simp [Op.operands,Call.operands,hc,hargs]
theorem zpk (hT:TOk P T) {o:Oper} {c:Call} {x y:Operand} (ho:o.op=.call c) (hc:c.callee=.builtin .append) (ha:c.args.toList=[x,y]) {t e:TypeId} (hat:c.argTypes.toList=[t,t]) {ti te:TI} (ht:T t=some ti) (hd:ti.desc=.slice e) (he:T e=some te)
  (hz:te.zero.cells.size=te.size) (hs0:0 < te.size) {env:List AV} {H:AH} {k n:Nat} {rs:List (List PV)} (ex:aev env x=.osl k 0 n) (hk:H[k]?=some (some (.rows te.size rs e))) (hn:n<=rs.length)
  {rows:List (List PV)} (hy:∀ (w0:Base) (B:Nat->Prop) (w:World) (ι:Pl) (v:Value),Rel w0 B w ι H->Rep w ι (Rd B ι H) (aev env y) v->SrcAt w (Rd B ι H) te.size rows v)
  (h63:n + rows.length<=maxLen) (hby:(n + rows.length) * te.bytes<=140737488355328) :
  WS P G o env H (.osl k 0 (n + rows.length)) ((H.map (zar (one k))).set k (some (.rows te.size (rs.take n++rows) e))) (some (one k)):=by
 intro w0 B w ι ρ hR hG hρ hf;have hm:=zfv ho hc ha;have hx:=hρ x hm.1;rw [ex] at hx;obtain ⟨v',w',ι',h1,h2,h3,h4⟩:=zla (P:=P) (ty:=o.type) hT ht hd he hz hs0 hk hn h63 hby hR hx (hy w0 B w ι (ρ y) hR (hρ y hm.2));rw [zi5 ho hc ha hat h1];exact ⟨ι',h2,h3,h4⟩
theorem Rel.ghost {w0:Base} {B:Nat->Prop} {w:World} {ι:Pl} {H:AH} (h:Rel w0 B w ι H) (s:Nat) (t:TypeId) :
  Rel w0 B w (ι++[(none,s,0)]) (H++[some (.rows s [] t)])/\Keeps none w ι (Rd B ι H) w (ι++[(none,s,0)]) (Rd B (ι++[(none,s,0)]) (H++[some (.rows s [] t)])):=by
 have hown:∀ c,zbg (ι++[(none,s,0)]) (H++[some (.rows s [] t)]) c->zbg ι H c:=by
  rintro c ⟨k,b',s',h1,h2⟩
  rcases za1 h2 with ⟨hl',h2⟩|⟨_,e⟩
  ·rcases za1 h1 with ⟨hl,h1⟩|⟨e,_⟩
   ·exact ⟨k,b',s',h1,h2⟩
   ·rw [h.len] at hl';omega
  ·cases e
 have hk:Keeps none w ι (Rd B ι H) w (ι++[(none,s,0)]) (Rd B (ι++[(none,s,0)]) (H++[some (.rows s [] t)])) :=
  ⟨nR _,fun c hc hlt=>⟨⟨hc.1,fun ho=>hc.2 (hown c ho)⟩,rfl⟩,fun k c s _ hx=>zfq hx⟩
 refine ⟨⟨h.gr,h.fut,by simp [h.len],fun k b' c s' h1 h2=>?_,fun k l b1 b2 c s1 s2 h1 h2 h3 h4=>?_⟩,hk⟩
 ·rcases za1 h1 with ⟨hl,h1⟩|⟨rfl,e⟩
  ·rcases za1 h2 with ⟨hl',h2⟩|⟨e,_⟩
   ·exact ⟨(h.blk k b' c s' h1 h2).1,(h.blk k b' c s' h1 h2).2.keep0 hk fun c' e=>rfl⟩
   ·rw [h.len] at e;omega
  ·rw [<-h.len,zaz] at h2
   cases h2
   cases e
   exact ⟨(fun c' e=>by cases e),rfl,(fun i row h=>by simp at h),.inl ⟨rfl,rfl⟩⟩
 ·rcases za1 h3 with ⟨hl3,h3⟩|⟨_,e⟩
  ·rcases za1 h4 with ⟨hl4,h4⟩|⟨_,e⟩
   ·rcases za1 h1 with ⟨_,h1⟩|⟨e,_⟩
    ·rcases za1 h2 with ⟨_,h2⟩|⟨e,_⟩
     ·exact h.inj k l b1 b2 c s1 s2 h1 h2 h3 h4
     ·rw [h.len] at hl4;omega
    ·rw [h.len] at hl3;omega
   ·cases e
  ·cases e
theorem SrcAt.keep {w w':World} {R R':Nat->Prop} {s:Nat} {rows:List (List PV)} {v:Value} (h:SrcAt w R s rows v) (hw:w'=w) (hR:∀ b,R b->R' b):SrcAt w' R' s rows v:=by
 subst hw;refine ⟨h.len,?_⟩
 rcases h.at_ with h1|⟨b,o,cap,vs,e,h1⟩
 ·exact .inl h1
 ·exact .inr ⟨b,o,cap,vs,e,fun i j row a h2 h3=>⟨(h1 i j row a h2 h3).1,(h1 i j row a h2 h3).2.1,(h1 i j row a h2 h3).2.2.keep (nR _) fun b hb _=>⟨hR b hb,rfl⟩⟩⟩
theorem zst (hT:TOk P T) {o:Oper} {c:Call} {x y:Operand} (ho:o.op=.call c) (hc:c.callee=.builtin .append) (ha:c.args.toList=[x,y]) {t e:TypeId} (hat:c.argTypes.toList=[t,t]) {ti te:TI} (ht:T t=some ti) (hd:ti.desc=.slice e) (he:T e=some te)
  (hz:te.zero.cells.size=te.size) (hs0:0 < te.size) {env:List AV} {H:AH} (ex:aev env x=.p (.v (.slice none 0 0)))
  {rows:List (List PV)} (hy:∀ (w0:Base) (B:Nat->Prop) (w:World) (ι:Pl) (v:Value),Rel w0 B w ι H->Rep w ι (Rd B ι H) (aev env y) v->SrcAt w (Rd B ι H) te.size rows v)
  (h63:rows.length<=maxLen) (hby:rows.length * te.bytes<=140737488355328) :
  WS P G o env H (.osl H.length 0 rows.length) (((H++[some (ABlk.rows te.size [] e)]).map (zar (one H.length))).set H.length (some (ABlk.rows te.size rows e))) none:=by
 intro w0 B w ι ρ hR hG hρ hf;have hm:=zfv ho hc ha;have hx:=hρ x hm.1;rw [ex] at hx;have hvx:=zbk hx;have hg:=hR.ghost te.size e;have hsrc:=(hy w0 B w ι (ρ y) hR (hρ y hm.2)).keep (w':=w) (R':=Rd B (ι++[(none,te.size,0)]) (H++[some (ABlk.rows te.size [] e)])) rfl (fun b hb=>⟨hb.1,fun ho=>hb.2 (by
  obtain ⟨k,b',s',h1,h2⟩:=ho
  rcases za1 h2 with ⟨hl',h2⟩|⟨_,e⟩
  ·rcases za1 h1 with ⟨hl,h1⟩|⟨e,_⟩
   ·exact ⟨k,b',s',h1,h2⟩
   ·rw [hR.len] at hl';omega
  ·cases e)⟩)
 have hxo:Rep w (ι++[(none,te.size,0)]) (Rd B (ι++[(none,te.size,0)]) (H++[some (ABlk.rows te.size [] e)])) (.osl H.length 0 0) (ρ x):=by rw [hvx];exact .osl0 _ _
 obtain ⟨v',w',ι',h1,h2,h3,h4⟩:=zla (P:=P) (ty:=o.type) hT ht hd he hz hs0 (n:=0) (rs:=[]) (zaz _ _) (nR _) (by simpa using h63) (by simpa using hby) hg.1 hxo hsrc
 rw [zi5 ho hc ha hat h1];simp only [List.take_nil,lNA,Nat.zero_add] at h2 h3 h4;refine ⟨ι',h2,⟨h3.size,fun b hb hlt=>?_,fun k c2 p _ hp=>?_⟩,h4⟩
 ·exact h3.read b (hg.2.read b hb hlt).1 hlt
 ·refine h3.place k c2 p (fun q e=>?_) (zfq hp)
  cases e
  have:=(List.getElem?_eq_some_iff.1 hp).1
  rw [hR.len] at this;exact z69 (by omega)
end
/- Own work: the bytes of a string,appended onto a row of the walk's own. -/
theorem zt8 {s:ByteArray} {i:Nat} {row:List PV} (h:(zal s)[i]?=some row):∃ b:UInt8,s.data.toList[i]?=some b/\row=[.v (.int .u8 (b.toNat:Nat))]:=by
 unfold zal at h;rw [List.getElem?_map] at h
 cases hb:s.data.toList[i]? with
 | none=>rw [hb] at h;cases h
 | some b=>rw [hb] at h;cases h;exact ⟨b,rfl,rfl⟩
theorem zt7 (s:ByteArray):(zal s).length=s.size:=by
 simp only [zal,lLM,Array.length_toList];rfl
section
variable {P:Program} {G:World->Prop} {T:TT}
theorem zlg (hT:TOk P T) {t u e ty:TypeId} {ti ui te:TI} (ht:T t=some ti) (hd:ti.desc=.slice e) (hu:T u=some ui) (hud:ui.desc=.string) (he:T e=some te)
  (hz:te.zero=.int .u8 0) (hs1:te.size=1) (hb1:te.bytes=1) {H:AH} {k n:Nat} {rs:List (List PV)} (hk:H[k]?=some (some (.rows 1 rs e))) (hn:n<=rs.length)
  {s:ByteArray} (h63:n + s.size<=maxLen) (hby:n + s.size<=140737488355328)
  {w0:Base} {B:Nat->Prop} {w:World} {ι:Pl} (hR:Rel w0 B w ι H) {vx:Value} (hx:Rep w ι (Rd B ι H) (.osl k 0 n) vx) :
  ∃ v' w' ι',(Builtin.append_ #[t,u] ty #[vx,.string s]).run P w=.ok v' w'/\Rel w0 B w' ι' ((H.map (zar (one k))).set k (some (.rows 1 (rs.take n++zal s) e))) ∧
   Keeps (some (one k)) w ι (Rd B ι H) w' ι' (Rd B ι' ((H.map (zar (one k))).set k (some (.rows 1 (rs.take n++zal s) e)))) ∧
   Rep w' ι' (Rd B ι' ((H.map (zar (one k))).set k (some (.rows 1 (rs.take n++zal s) e)))) (.osl k 0 (n + s.size)) v':=by
 obtain ⟨⟨cc,sz⟩,hi⟩:∃ p,ι[k]?=some p:=by
  have hl:=(List.getElem?_eq_some_iff.1 hk).1;exact ⟨_,List.getElem?_eq_getElem (by rw [hR.len];exact hl)⟩
 have hil:k < ι.length:=(List.getElem?_eq_some_iff.1 hi).1;obtain ⟨hge,es,hrl,hcells⟩:=hR.blk k _ cc sz hk hi;have hsmall:n + s.size<=9223372036854775807:=by simp only [maxLen] at h63;omega
 obtain ⟨info,hinfo,hiz,his,hib⟩:=info_parts (hT e te he).1.2;have hut:P.underlying t=some (.slice e):=by rw [(hT t ti ht).1.1,hd]
 have huu:P.underlying u=some .string:=by rw [(hT u ui hu).1.1,hud]
 rw [hz] at hiz;rw [hs1] at his;rw [hb1] at hib;have htl:(rs.take n).length=n:=by rw [List.length_take];omega
 have htk:∀ (i:Nat) (row:List PV),(rs.take n)[i]?=some row->rs[i]?=some row/\i < n:=fun i row h=>by
  rw [List.getElem?_take] at h
  split at h
  ·rename_i h';exact ⟨h,h'⟩
  ·cases h
 have hsl:(Lib.strCells s).length=s.size:=Lib.strCells_length s;have hrows:∀ (i:Nat) (row:List PV),(rs.take n++zal s)[i]?=some row->row.length=1:=fun i row h=>by
  rcases Nat.lt_or_ge i n with hlt|hge'
  ·rw [List.getElem?_append_left (by omega)] at h
   rw [hrl i row (htk i row h).1,<- es]
  ·rw [List.getElem?_append_right (by omega)] at h
   obtain ⟨b,_,rfl⟩:=zt8 h;rfl
 have fin:∀ (xs:List Value) (w':World) (g cap':Nat) (cur:Array Value),xs.length=n →
   (∀ (i j:Nat) (row:List PV) (a:PV),(rs.take n)[i]?=some row->row[j]?=some a->∃ v,xs[i]?=some v/\v.oneCell'=true/\RepP w (Rd B ι H) a v) →
   w.grownBy w' cc->(some g=none\/some g=cc\/some g=some w.heap.size)->w'.heap[g]?=some (.cells cur e (0,0))->n + s.size<=cap'->cap'<=maxLen->cur.size=cap' →
   (∀ q,q < n + s.size->cur[q]?=(xs++Lib.strCells s)[q]?) →
   Rel w0 B w' (ι.set k (some g,(1,cap'))) ((H.map (zar (one k))).set k (some (.rows 1 (rs.take n++zal s) e))) ∧
   Keeps (some (one k)) w ι (Rd B ι H) w' (ι.set k (some g,(1,cap'))) (Rd B (ι.set k (some g,(1,cap'))) ((H.map (zar (one k))).set k (some (.rows 1 (rs.take n++zal s) e)))) ∧
   Rep w' (ι.set k (some g,(1,cap'))) (Rd B (ι.set k (some g,(1,cap'))) ((H.map (zar (one k))).set k (some (.rows 1 (rs.take n++zal s) e)))) (.osl k 0 (n + s.size)) (.slice (some ⟨g,0,none⟩) (n + s.size) cap'):=by
  intro xs w' g cap' cur hxl hxs hgb hc' hg hnc hcm hcs hlook;have hmv:=hR.move (b':=.rows 1 (rs.take n++zal s) e) (s':=(1,cap')) (c':=some g) hk hi hgb hc' (fun ι' R' hkp=>by
   refine ⟨rfl,hrows,.inr ⟨g,cur,rfl,hg,hcs,fun i j row a h1 h2=>?_⟩⟩
   have hj0:j=0:=by
    have:=hrows i row h1
    have:=(List.getElem?_eq_some_iff.1 h2).1
    omega
   subst hj0;have hil2:i < n + s.size:=by
    have:=(List.getElem?_eq_some_iff.1 h1).1
    rw [lLA,htl,zt7] at this;exact this
   show ∃ v,cur[i * 1 + 0]?=some v/\_
   rw [show i * 1 + 0=i by omega,hlook i hil2]
   rcases Nat.lt_or_ge i n with hlt|hge'
   ·rw [List.getElem?_append_left (by omega)] at h1
    obtain ⟨v,hv,h3,hr⟩:=hxs i 0 row a h1 h2;exact ⟨v,by rw [List.getElem?_append_left (by omega)];exact hv,h3,hr.keep hkp.size hkp.read⟩
   ·rw [List.getElem?_append_right (by omega),htl] at h1
    obtain ⟨b,hb,rfl⟩:=zt8 h1;simp at h2;subst h2;refine ⟨.int .u8 (b.toNat:Nat),?_,rfl,.v _⟩;rw [List.getElem?_append_right (by omega),hxl]
    simp only [Lib.strCells,List.getElem?_map,hb,Option.map_some])
  refine ⟨hmv.1,hmv.2,?_⟩
  have:=Rep.osl (w:=w') (ι:=ι.set k (some g,(1,cap'))) (R:=Rd B (ι.set k (some g,(1,cap'))) ((H.map (zar (one k))).set k (some (.rows 1 (rs.take n++zal s) e)))) k 0 (n + s.size) g cap' (1,cap') (by rw [List.getElem?_set];simp [hil]) hnc hcm (by simp)
  simpa using this
 have grown:∀ (xs:List Value) (old:Nat),xs.length=n->old < n + s.size →
   (∀ (i j:Nat) (row:List PV) (a:PV),(rs.take n)[i]?=some row->row[j]?=some a->∃ v,xs[i]?=some v/\v.oneCell'=true/\RepP w (Rd B ι H) a v) →
   (Builtin.append_ #[t,u] ty #[vx,.string s]).run P w=.ok (.slice (some ⟨w.heap.size,0,none⟩) (n + s.size) (grownCap w (n + s.size) old e)) (w.drew.alloc (.cells (xs.toArray++(Lib.strCells s).toArray++Builtin.zeroCells (Value.int .u8 0).cells (grownCap w (n + s.size) old e - (n + s.size))) e)) →
   ∃ v' w' ι',(Builtin.append_ #[t,u] ty #[vx,.string s]).run P w=.ok v' w'/\Rel w0 B w' ι' ((H.map (zar (one k))).set k (some (.rows 1 (rs.take n++zal s) e))) ∧
   Keeps (some (one k)) w ι (Rd B ι H) w' ι' (Rd B ι' ((H.map (zar (one k))).set k (some (.rows 1 (rs.take n++zal s) e)))) ∧
   Rep w' ι' (Rd B ι' ((H.map (zar (one k))).set k (some (.rows 1 (rs.take n++zal s) e)))) (.osl k 0 (n + s.size)) v':=by
  intro xs old hxl ho hxs hr;have hcg:=grownCap_ge w (n + s.size) old e;have hcm:grownCap w (n + s.size) old e<=maxLen:=grownCap_le_maxLen w (n + s.size) old e h63;have hz1:(Value.int IntKind.u8 0).cells.size=1:=rfl;have h3:=fin xs (w.drew.alloc (.cells (xs.toArray++(Lib.strCells s).toArray++Builtin.zeroCells (Value.int .u8 0).cells (grownCap w (n + s.size) old e - (n + s.size))) e)) w.heap.size _ _ hxl hxs ⟨rfl,rfl,rfl,by simp,fun k hk _=>heap_alloc_old w.drew _ hk⟩ (.inr (.inr rfl)) (heap_alloc_new w.drew _) hcg hcm (by
    simp only [Array.size_append,List.size_toArray,size_zeroCells,hz1,hxl,hsl];omega) (fun q hq=>by
    rw [Array.getElem?_append_left (by simp only [Array.size_append,List.size_toArray,hxl,hsl];omega)]
    simp [<-List.getElem?_toArray])
  exact ⟨_,_,_,hr,h3.1,h3.2.1,h3.2.2⟩
 generalize hvx:vx=v at hx
 cases hx with
 | osl0 =>
  subst hvx
  by_cases hm:s.size=0
  ·have hgb:w.grownBy w cc:=⟨rfl,rfl,rfl,nR _,fun _ _ _=>rfl⟩
   have hb0:zal s=[]:=List.eq_nil_of_length_eq_zero (by rw [zt7];exact hm)
   have hf:=Lib.run_firstCells_string (P:=P) w 1 s;rw [hm] at hf;have hr:(Builtin.append_ #[t,u] ty #[.slice none 0 0,.string s]).run P w=.ok (.slice none 0 0) w:=by
    simp [Builtin.append_,run_underlying hut,run_underlying huu,sizeOf,typeInfo,hinfo,his,Builtin.lenOf,hm,hf]
   have hmv:=hR.move (b':=.rows 1 (rs.take 0++zal s) e) (s':=sz) (c':=none) hk hi hgb (.inl rfl) (fun ι' R' hkp=>by
    rw [hb0];refine ⟨es,fun i row hrow=>by simp at hrow,.inl ⟨rfl,by simp⟩⟩)
   refine ⟨_,_,_,hr,hmv.1,hmv.2,?_⟩;rw [hm];exact .osl0 k 0
  ·have hr:=run_append_nil_string (P:=P) w t u ty e info (.int .u8 0) hut huu hinfo hiz s (by omega) (by omega) (by rw [hib];omega)
   have e1:(s.data.map fun b=>Value.int .u8 b.toNat)=(Lib.strCells s).toArray:=by
    apply Array.ext';simp [Lib.strCells]
   rw [e1] at hr;refine grown [] 0 rfl (by omega) (fun i j row a h1 h2=>by simp at h1) ?_
   simpa using hr
 | osl _ _ _ c0 cap0 sz0 hi' hn' hm hz' =>
  subst hvx;rw [hi] at hi';cases hi'
  rcases hcells with ⟨e1,_⟩|⟨c1,arr,e1,hb,hz0,hcs⟩
  ·cases e1
  cases e1
  have hca:arr.size=cap0:=by rw [hz0,hz',<- es];omega
  have hxl:(arr.toList.take n).length=n:=by rw [List.length_take,Array.length_toList];omega
  have hxs:∀ (i j:Nat) (row:List PV) (a:PV),(rs.take n)[i]?=some row->row[j]?=some a->∃ v,(arr.toList.take n)[i]?=some v/\v.oneCell'=true/\RepP w (Rd B ι H) a v:=fun i j row a h1 h2=>by
   obtain ⟨h1',hlt⟩:=htk i row h1;have hj0:j=0:=by
    have:=hrl i row h1'
    have:=(List.getElem?_eq_some_iff.1 h2).1
    omega
   subst hj0;obtain ⟨v,hv,h3,hr⟩:=hcs i 0 row a h1' h2;refine ⟨v,?_,h3,hr⟩;rw [<-es] at hv;rw [List.getElem?_take,if_pos hlt];simpa using hv
  have e0:(0 * sz.1:Nat)=0:=Nat.zero_mul _;rw [e0]
  by_cases hroom:n + s.size<=cap0
  ·have hr:=Lib.run_append_room_string (P:=P) w t u ty e info hut huu hinfo his c0 n cap0 arr hb s hroom (by omega)
   have h3:=fin (arr.toList.take n) (w.setRow c0 (arr.toList.take n++Lib.strCells s++arr.toList.drop (n + s.size)).toArray) c0 cap0 _ hxl hxs ⟨rfl,rfl,rfl,by simp,fun k _ hk=>setRow_other w c0 k _ (fun e=>hk (by rw [e]))⟩ (.inr (.inl rfl)) (setRow_heap w c0 arr (arr.toList.take n++Lib.strCells s++arr.toList.drop (n + s.size)).toArray e _ hb) hroom hm (by
    simp only [List.size_toArray,lLA,List.length_take,lLD,Array.length_toList,hsl];omega) (fun q hq=>by
    rw [List.getElem?_toArray,List.getElem?_append_left (by rw [lLA,hxl,hsl];exact hq)])
   exact ⟨_,_,_,hr,h3.1,h3.2.1,h3.2.2⟩
  ·have hr:=Lib.run_append_grow_string (P:=P) w t u ty e info (.int .u8 0) hut huu hinfo hiz ⟨c0,0,none⟩ n cap0 (arr.toList.take n) (by rw [his];simpa using hxl) (fun j v hj=>by
    rw [Addr.add_lit,zsp hb,Nat.zero_add];rw [List.getElem?_take] at hj
    split at hj
    ·simpa using hj
    ·cases hj) s (by omega) (by omega) (by rw [hib];exact growslice_fits (by omega) (by omega))
   rw [e0] at grown;exact grown _ cap0 hxl (by omega) hxs hr
theorem zm6 {o:Oper} {c:Call} {x y:Operand} (ho:o.op=.call c) (hc:c.callee=.builtin .append) (ha:c.args.toList=[x,y]) {t u:TypeId} (hat:c.argTypes.toList=[t,u]) {ρ:Operand->Value} {w w':World} {v:Value}
  (hr:(Builtin.append_ #[t,u] o.type #[ρ x,ρ y]).run P w=.ok v w'):(execOp ρ o).run P w=.ok (.value v) w':=by
 have hargs:c.args=#[x,y]:=Array.toList_inj.1 (by simpa using ha)
 have hat':c.argTypes=#[t,u]:=Array.toList_inj.1 (by simpa using hat)
 simp only [execOp,ho,resolve,hc,Sem.run_bind,Sem.run_pure,Result.andThen_ok,invoke,builtin,hargs,hat'];simp [hr]
theorem zss (hT:TOk P T) {o:Oper} {c:Call} {x y:Operand} (ho:o.op=.call c) (hc:c.callee=.builtin .append) (ha:c.args.toList=[x,y]) {t u e:TypeId} (hat:c.argTypes.toList=[t,u]) {ti ui te:TI} (ht:T t=some ti) (hd:ti.desc=.slice e) (hu:T u=some ui) (hud:ui.desc=.string) (he:T e=some te)
  (hz:te.zero=.int .u8 0) (hs1:te.size=1) (hb1:te.bytes=1) {env:List AV} {H:AH} {k n:Nat} {rs:List (List PV)} (ex:aev env x=.osl k 0 n) (hk:H[k]?=some (some (.rows 1 rs e))) (hn:n<=rs.length)
  {s:ByteArray} (ey:aev env y=.p (.v (.string s))) (h63:n + s.size<=maxLen) (hby:n + s.size<=140737488355328) :
  WS P G o env H (.osl k 0 (n + s.size)) ((H.map (zar (one k))).set k (some (.rows 1 (rs.take n++zal s) e))) (some (one k)):=by
 intro w0 B w ι ρ hR hG hρ hf;have hm:=zfv ho hc ha;have hx:=hρ x hm.1;have hy:=hρ y hm.2;rw [ex] at hx;rw [ey] at hy;obtain ⟨v',w',ι',h1,h2,h3,h4⟩:=zlg (P:=P) (ty:=o.type) hT ht hd hu hud he hz hs1 hb1 hk hn h63 hby hR hx;rw [zm6 ho hc ha hat (by rw [zbk hy];exact h1)]
 exact ⟨ι',h2,h3,h4⟩
end
/- Own work: slice literals;ranging over a string;all operations that write,together. -/
def zk5 (s:Nat):Nat->List AV->Option (List (List PV))
 | 0,_=>some []
 | n + 1,cs=>match AV.toP.toPL (cs.take s),zk5 s n (cs.drop s) with
  | some r,some rs=>some (r :: rs)
  | _,_=>none
theorem zh9 (s:Nat):∀ (n:Nat) (cs:List AV) (rs:List (List PV)),zk5 s n cs=some rs->cs.length=n * s->rs.length=n/\∀ (i:Nat) (row:List PV),rs[i]?=some row->row.length=s/\∀ (j:Nat) (a:PV),row[j]?=some a->∃ c,cs[i * s + j]?=some c/\c.toP=some a
 | 0,cs,rs,h,_=>by simp [zk5] at h;subst h;simp
 | n + 1,cs,rs,h,hl=>by
  unfold zk5 at h
  split at h
  ·rename_i r rs' h1 h2
   cases h
   rw [Nat.succ_mul] at hl;have ih:=zh9 s n (cs.drop s) rs' h2 (by rw [lLD];omega)
   have hg:=zez _ _ h1;refine ⟨by simp [ih.1],fun i row hrow=>?_⟩
   cases i with
   | zero =>
    simp at hrow;subst hrow;refine ⟨by rw [hg.1,List.length_take];omega,fun j a ha=>?_⟩
    have hjl:j < (cs.take s).length:=by rw [<-hg.1];exact (List.getElem?_eq_some_iff.1 ha).1
    obtain ⟨x,hx,hax⟩:=hg.2 j _ (List.getElem?_eq_getElem hjl);rw [hx] at ha;cases ha
    refine ⟨_,?_,hax⟩;have h3:(cs.take s)[j]?=some (cs.take s)[j]:=List.getElem?_eq_getElem hjl;rw [List.getElem?_take] at h3
    split at h3
    ·simp
    ·cases h3
   | succ i =>
    have hrow':rs'[i]?=some row:=by simpa using hrow
    obtain ⟨h3,h4⟩:=ih.2 i row hrow';refine ⟨h3,fun j a ha=>?_⟩
    obtain ⟨c,hc,hca⟩:=h4 j a ha;rw [List.getElem?_drop] at hc;exact ⟨c,by rw [Nat.succ_mul,show i * s + s + j=s + (i * s + j) by omega];exact hc,hca⟩
  ·cases h
section
variable {P:Program} {G:World->Prop} {T:TT}
theorem zkr (hT:TOk P T) {o:Oper} {t e:TypeId} {len:Nat} {parts:Array (Nat × Operand)} (ho:o.op=.buildSlice t len parts) {ti te:TI} (ht:T t=some ti) (hd:ti.desc=.slice e) (he:T e=some te) (hs0:0 < te.size) (hlim:len * te.size<=16777216)
  {env:List AV} {H:AH} {cs:List AV} (h:ziz (fun i=>some (i * te.size,te.size)) ((List.range (len * te.size)).map fun m=>.p (.v (te.zero.cells[m % te.zero.cells.size]!))) (parts.toList.map fun (n,x)=>(n,aev env x))=some cs)
  (hone:cs.all zjg=true) {rs:List (List PV)} (hrs:zk5 te.size len cs=some rs):WS P G o env H (.osl H.length 0 len) (H++[some (.rows te.size rs e)]) none:=by
 intro w0 B w ι ρ hR hG hρ hf;have hops:∀ (n:Nat) (x:Operand),(n,x) ∈ parts.toList->Rep w ι (Rd B ι H) (aev env x) (ρ x):=fun n x hx=>hρ x (by
  rw [ho];simp only [Op.operands];simp only [List.mem_toArray,List.mem_map];exact ⟨(n,x),hx,rfl⟩)
 have hparts:∀ l:List (Nat × Operand),(∀ n x,(n,x) ∈ l->Rep w ι (Rd B ι H) (aev env x) (ρ x))->zj0 w ι (Rd B ι H) (l.map fun (n,x)=>(n,aev env x)) (l.map fun (n,x)=>(n,ρ x)):=by
  intro l
  induction l with
  | nil=>intro _;trivial
  | cons p l ih =>
   intro hl;obtain ⟨n,x⟩:=p;exact ⟨rfl,hl n x (by simp),ih fun n x hx=>hl n x (by simp [hx])⟩
 obtain ⟨arr',h1,h2,h3⟩:=zgu (w:=w) (ι:=ι) (R:=Rd B ι H) _ _ _ cs ((Array.range (len * te.size)).map (te.zero.cells[· % te.zero.cells.size]!)) (hparts parts.toList hops) h (by simp) (fun j a ha=>by
  rw [List.getElem?_map] at ha;have hjl:j < len * te.size:=by
   cases hz:(List.range (len * te.size))[j]? with
   | none=>rw [hz] at ha;cases ha
   | some z=>have:=(List.getElem?_eq_some_iff.1 hz).1;simpa using this
  rw [List.getElem?_range hjl] at ha
  cases ha
  exact ⟨_,by simp [hjl],.p _ _ (.v _)⟩)
 have hrun:(execOp ρ o).run P w=.ok (.value (.slice (some ⟨w.heap.size,0,none⟩) len len)) (w.alloc (.cells arr' e)):=by
  have e1:(parts.map fun (p:Nat × Operand)=>(p.1,ρ p.2)).toList=parts.toList.map fun (n,x)=>(n,ρ x):=by simp
  have hlim':¬ (len * te.size > 2 ^ 24):=by
   have:(2:Nat) ^ 24=16777216:=by decide
   omega
  simp only [execOp,ho,Instr.buildSlice,Sem.run_bind,zco hT ht,Result.andThen_ok,hd,zie hT he,hlim',if_false];rw [show (parts.map fun x=>match x with|(i,x)=>(i,ρ x))=parts.map fun (p:Nat × Operand)=>(p.1,ρ p.2) from rfl,e1]
  have e2:(List.map (fun (p:Nat × Operand)=>(p.1,ρ p.2)) parts.toList)=parts.toList.map fun (n,x)=>(n,ρ x):=rfl
  by_cases h0:len * te.size=0
  ·have e3:((Array.range (len * te.size)).map fun x=>(#[]:Array Value)[x % (#[]:Array Value).size]!)=(Array.range (len * te.size)).map (te.zero.cells[· % te.zero.cells.size]!):=by rw [h0];simp
   rw [if_pos h0];simp only [Sem.run_pure,Result.andThen_ok,Sem.run_bind,e3,h1,newRow,zcs]
  ·rw [if_neg h0];simp only [Sem.run_pure,Result.andThen_ok,Sem.run_bind,zpz hT he,h1,newRow,zcs]
 rw [hrun];have hcl:cs.length=len * te.size:=by
  rw [h2]
  have:=arr'.size
  have hf:∀ (parts:List (Nat × AV)) (cells cs':List AV),ziz (fun i=>some (i * te.size,te.size)) cells parts=some cs'->cs'.length=cells.length:=by
   intro parts
   induction parts with
   | nil=>intro cells cs' h;simp [ziz] at h;rw [h]
   | cons p ps ih =>
    intro cells cs' h;obtain ⟨n,a⟩:=p;unfold ziz at h;simp only at h
    split at h
    ·rename_i hc;rw [ih _ _ h,zgf (by omega)]
    ·cases h
  have:=hf _ _ _ h
  rw [<-h2,this];simp
 have hch:=zh9 te.size len cs rs hrs hcl
 have:=hR.push (.cells arr' e) (.rows te.size rs e) (te.size,arr'.size) (fun ι' R' hk hn=>by
  refine ⟨rfl,fun i row hrow=>(hch.2 i row hrow).1,.inr ⟨_,_,rfl,hn,rfl,fun i j row a hrow ha=>?_⟩⟩
  obtain ⟨c,hc,hca⟩:=(hch.2 i row hrow).2 j a ha;obtain ⟨u,hu,hr⟩:=h3 _ c hc;exact ⟨u,hu,zrq hr (List.all_eq_true.1 hone c (List.mem_of_getElem? hc)),(hr.toP _ hca).keep hk.size hk.read⟩)
 refine ⟨_,this.1,this.2,?_⟩;have hlm:len<=maxLen:=by
  have:len * 1<=len * te.size:=Nat.mul_le_mul_left _ hs0
  unfold maxLen;omega
 have hr:=Rep.osl (w:=w.alloc (.cells arr' e)) (ι:=ι++[(some w.heap.size,te.size,arr'.size)]) (R:=Rd B (ι++[(some w.heap.size,te.size,arr'.size)]) (H++[some (ABlk.rows te.size rs e)])) ι.length 0 len w.heap.size len (te.size,arr'.size) (zaz _ _) (nR _) hlm (by simp [<-h2,hcl])
 rw [<-hR.len];simpa using hr
theorem zlf (hT:TOk P T) {o:Oper} {t e:TypeId} {x y:Operand} (ho:o.op=.makeSlice t x y) {ti te:TI} (ht:T t=some ti) (hd:ti.desc=.slice e) (he:T e=some te) {kz:IntKind} {z:Int} (hz:te.zero=.int kz z) (hs:te.size=1)
  {env:List AV} {H:AH} {kx ky:IntKind} {n:Int} (ex:aev env x=.p (.v (.int kx n))) (ey:aev env y=.p (.v (.int ky n))) (h0:0<=n) (h63:n.toNat<=maxLen) (hb:te.bytes * n.toNat<=281474976710656) :
  WS P G o env H (.osl H.length 0 n.toNat) (H++[some (.rows 1 (List.replicate n.toNat [.v (.int kz z)]) e)]) none:=by
 intro w0 B w ι ρ hR hG hρ hf;have hx:ρ x=.int kx n:=zbk (x:=.int kx n) (by
  have:=hρ x (by rw [ho];simp [Op.operands])
  rw [ex] at this;exact this)
 have hy:ρ y=.int ky n:=zbk (x:=.int ky n) (by
  have:=hρ y (by rw [ho];simp [Op.operands])
  rw [ey] at this;exact this)
 obtain ⟨info,hinfo,hiz,his,hib⟩:=info_parts (hT e te he).1.2;have hut:P.underlying t=some (.slice e):=by have:=(hT t ti ht).1.1;rw [hd] at this;exact this
 have hbz:(info.bytes:Int) * n<=281474976710656:=by
  rw [hib];obtain ⟨m,rfl⟩:=Int.eq_ofNat_of_zero_le h0;rw [Int.toNat_natCast] at hb;rw [<-Int.natCast_mul];omega
 have hm:=run_make (P:=P) w t e info te.zero hut hinfo hiz kx ky n n h0 (Int.le_refl _) hbz (by unfold maxLen at h63;omega)
 have hrun:(execOp ρ o).run P w=.ok (.value (.slice (some ⟨w.heap.size,0,none⟩) n.toNat n.toNat)) (w.alloc (.cells (madeCells te.zero.cells (n.toNat * info.size)) e)):=by
  simp only [execOp,ho,hx,hy,Sem.run_bind,hm,Result.andThen_ok,Sem.run_pure]
 rw [his,hs,Nat.mul_one,hz] at hrun;rw [hrun];have hcz:(Value.int kz z).cells=#[Value.int kz z]:=rfl;rw [hcz];have hget:∀ i,i < n.toNat->(madeCells #[Value.int kz z] n.toNat)[i]?=some (.int kz z):=fun i hi=>by
  unfold madeCells;simp [hi,Nat.mod_one]
 have:=hR.push (.cells (madeCells #[Value.int kz z] n.toNat) e) (.rows 1 (List.replicate n.toNat [.v (.int kz z)]) e) (1,n.toNat) (fun ι' R' hk hn=>by
  refine ⟨rfl,fun i row hrow=>?_,.inr ⟨_,_,rfl,hn,size_madeCells _ _,fun i j row a hrow ha=>?_⟩⟩
  ·have hrow':=List.getElem?_replicate (a:=[PV.v (.int kz z)]) (n:=n.toNat) (i:=i);rw [hrow] at hrow'
   split at hrow'
   ·cases hrow';rfl
   ·cases hrow'
  ·have hrow':=List.getElem?_replicate (a:=[PV.v (.int kz z)]) (n:=n.toNat) (i:=i);rw [hrow] at hrow'
   split at hrow'
   ·rename_i hi
    cases hrow'
    cases j with
    | zero=>simp at ha;subst ha;exact ⟨_,by simpa using hget i hi,rfl,.v _⟩
    | succ j=>simp at ha
   ·cases hrow')
 refine ⟨_,this.1,this.2,?_⟩;have hr:=Rep.osl (w:=w.alloc (.cells (madeCells #[Value.int kz z] n.toNat) e)) (ι:=ι++[(some w.heap.size,1,n.toNat)]) (R:=Rd B (ι++[(some w.heap.size,1,n.toNat)]) (H++[some (ABlk.rows 1 (List.replicate n.toNat [.v (.int kz z)]) e)])) ι.length 0 n.toNat w.heap.size n.toNat (1,n.toNat) (zaz _ _) (nR _) h63 (by simp)
 rw [<-hR.len];simpa using hr
theorem zqx (hT:TOk P T) {o:Oper} {t:TypeId} {x:Operand} (ho:o.op=.range t x) {ti:TI} (ht:T t=some ti) (hd:ti.desc=.string) {env:List AV} {H:AH} {s:ByteArray} (ex:aev env x=.p (.v (.string s))) :
  WS P G o env H (.own H.length 0) (H++[some (.iter s 0)]) none:=by
 intro w0 B w ι ρ hR hG hρ hf;have hx:=hρ x (by rw [ho];simp [Op.operands])
 rw [ex] at hx;have hrun:(execOp ρ o).run P w=.ok (.value (.pointer (some ⟨w.heap.size,0,none⟩))) (w.alloc (.stringIter s 0)):=by
  simp only [execOp,ho,zbk hx,Instr.range,Sem.run_bind,zco hT ht,Result.andThen_ok,hd,Sem.run_pure,zcs]
 rw [hrun]
 have:=hR.push (.stringIter s 0) (.iter s 0) (0,0) (fun ι' R' hk hn=>⟨_,rfl,hn⟩)
 exact ⟨_,this.1,this.2,by rw [<-hR.len];exact .own _ 0 _ (0,0) (zaz _ _)⟩
theorem zvx {o:Oper} {x:Operand} (ho:o.op=.next x true) {env:List AV} {H:AH} {k:Nat} {s:ByteArray} {pos:Nat} (ex:aev env x=.own k 0) (hk:H[k]?=some (some (.iter s pos))) (hp:pos < s.size) :
  WS P G o env H (.p (.tup [.v (.bool true),.v (.int .i64 pos),.v (.int .i32 (Utf8.decode s pos).1)])) (H.set k (some (.iter s (pos + (Utf8.decode s pos).2)))) none:=by
 intro w0 B w ι ρ hR hG hρ hf;have hx:=hρ x (by rw [ho];simp [Op.operands])
 rw [ex] at hx;generalize hq:ρ x=vx at hx
 cases hx with
 | own _ _ c sz hi =>
  obtain ⟨c',ec,hb⟩:=(hR.blk k _ _ sz hk hi).2
  cases ec
  have hrun:(execOp ρ o).run P w=.ok (.value (.tuple #[.bool true,.int .i64 pos,.int .i32 (Utf8.decode s pos).1])) { w with heap:=w.heap.setIfInBounds c (.stringIter s (pos + (Utf8.decode s pos).2)) }:=by
   simp [execOp,ho,hq,Instr.next,getObj,setObj,Sem.run,hb,hp,goInt]
  rw [hrun];have hlt:=zbx hb
  have:=hR.upd hk hi (b':=.iter s (pos + (Utf8.decode s pos).2)) (w':={ w with heap:=w.heap.setIfInBounds c (.stringIter s (pos + (Utf8.decode s pos).2)) }) rfl rfl rfl (by simp) (fun d hd=>by simp [Array.getElem?_setIfInBounds_ne (Ne.symm hd)])
   (fun R' hkp=>⟨c,rfl,by simp [hlt]⟩)
  refine ⟨ι,this.1,this.2,.p _ _ ?_⟩;refine RepP.tup [.v (.bool true),.v (.int .i64 pos),.v (.int .i32 (Utf8.decode s pos).1)] [.bool true,.int .i64 pos,.int .i32 (Utf8.decode s pos).1] rfl fun j a v ha hv=>?_
  rcases j with _|_|_|j
  ·simp at ha hv;subst ha;subst hv;exact .v _
  ·simp at ha hv;subst ha;subst hv;exact .v _
  ·simp at ha hv;subst ha;subst hv;exact .v _
  ·simp at ha
theorem zzg {o:Oper} {x:Operand} (ho:o.op=.next x true) {env:List AV} {H:AH} {k:Nat} {s:ByteArray} {pos:Nat} (ex:aev env x=.own k 0) (hk:H[k]?=some (some (.iter s pos))) (hp:¬ pos < s.size) :
  WS P G o env H (.p (.tup [.v (.bool false)])) H none:=by
 intro w0 B w ι ρ hR hG hρ hf;have hx:=hρ x (by rw [ho];simp [Op.operands])
 rw [ex] at hx;generalize hq:ρ x=vx at hx
 cases hx with
 | own _ _ c sz hi =>
  obtain ⟨c',ec,hb⟩:=(hR.blk k _ _ sz hk hi).2
  cases ec
  have hrun:(execOp ρ o).run P w=.ok (.value (.tuple #[.bool false])) w:=by
   simp [execOp,ho,hq,Instr.next,getObj,Sem.run,hb,hp]
  rw [hrun];refine ⟨ι,hR,⟨nR _,fun b hb _=>⟨hb,rfl⟩,fun _ _ _ _ h=>h⟩,.p _ _ ?_⟩
  refine RepP.tup [.v (.bool false)] [.bool false] rfl fun j a v ha hv=>?_
  rcases j with _|j
  ·simp at ha hv;subst ha;subst hv;exact .v _
  ·simp at ha
end
end Go.Proofs.YtcfecmeocimclaaGreatDoor
