/- Own work: a region that draws its order,in which memory of the walk's own is changed by a chain of operations;the others only read,whenever they come up. -/
import Derived.Test.YtcfecmeocimclaaGreatDoorYAA0
import Derived.Test.YtcfecmeocimclaaGreatDoorYAGB
namespace Go.Proofs.YtcfecmeocimclaaGreatDoor
set_option linter.unusedSimpArgs false
set_option linter.unusedSectionVars false
open Go.RowKit
inductive AMem (P:Program) (G:World->Prop) (f:FuncId) (ls:List AV) (H:AH) (K:AV->AH->Option (Nat->Bool)->Prop):Prop
 | mk (σ:List Nat) (cs:List AV) (Hc:AH) (r:AV) (Hc':AH) (h:zd4 P G f cs Hc r Hc') (hc:ls=AV.ren.renL (ze4 σ H.length) cs) (hb:z0v σ H Hc cs=true)
  (hp:σ.map (fun l=>zhb (H.getD l none))=Hc.map (zpp (ze4 σ H.length) none)) (hr:r.panOf=none) (k:K (r.ren (ze4 σ H.length)) (zg8 σ H Hc') (some (zic σ H Hc')))
def amem (P:Program) (G:World->Prop) (E:SO) (T:TT) (o:Oper) (env:List AV) (H:AH) (K:AV->AH->Option (Nat->Bool)->Prop):Prop:=match o.op with
 | .call c=>(match c.callee with
  | .value (.func f)=>AMem P G f (c.args.toList.map (aev env)) H K
  | _=>zzc P G E T o env H K)
 | _=>zzc P G E T o env H K
def z4t (i:Nat):List (Nat × AV)->AV
 | []=>.junk
 | (j,a) :: r=>(match Nat.beq j i with
  | true=>a
  | false=>z4t i r)
def inM (i:Nat):List Nat->Bool
 | []=>false
 | j :: r=>(match Nat.beq j i with
  | true=>true
  | false=>inM i r)
theorem zr9 {i:Nat}:∀ {M:List Nat},inM i M=true->∃ j:Nat,M[j]?=some i
 | [],h=>by cases h
 | m :: M,h=>by
  unfold inM at h
  split at h
  ·rename_i e;exact ⟨0,by rw [Nat.eq_of_beq_eq_true e];rfl⟩
  ·obtain ⟨j,hj⟩:=zr9 h;exact ⟨j + 1,hj⟩
theorem zyf {i:Nat}:∀ {M:List Nat} {j:Nat},M[j]?=some i->inM i M=true
 | [],j,h=>by simp at h
 | m :: M,0,h=>by
  simp at h;subst h;unfold inM;simp
 | m :: M,j + 1,h=>by
  unfold inM
  split
  ·rfl
  ·exact zyf (M:=M) (j:=j) (by simpa using h)
def isBS (o:Oper):Bool:=match o.op with
 | .buildSlice _ _ _=>true
 | _=>false
def zik (P:Program) (G:World->Prop) (E:SO) (T:TT) (M:List Nat) (lo:Nat->Nat) (p:Nat) (mv:List (Nat × AV)) (H:AH):Nat->Nat->List Oper->List AV->List (Option AV)->(List AV->List (Option AV)->Prop)->Prop
 | 0,_,_,env,vs,K=>K env vs
 | _ + 1,_,[],env,vs,K=>K env vs
 | n + 1,i,o :: os,env,vs,K=>(match Nat.ble (lo i) p with
  | false=>zik P G E T M lo p mv H n (i + 1) os (zj3 env o.dst .junk) (vs++[none]) K
  | true=>(match inM i M with
   | true=>zik P G E T M lo p mv H n (i + 1) os (zj3 env o.dst (z4t i mv)) (vs++[some (z4t i mv)]) K
   | false=>(match isBS o with
    | true=>zpj T o env fun a=>zik P G E T M lo p mv H n (i + 1) os (zj3 env o.dst a) (vs++[some a]) K
    | false=>aq P G E T o env H fun a=>zik P G E T M lo p mv H n (i + 1) os (zj3 env o.dst a) (vs++[some a]) K)))
def zt5:List (Option AV)->List (Option AV)->Prop
 | [],_=>True
 | none :: r,_ :: s=>zt5 r s
 | some a :: r,some b :: s=>a=b/\zt5 r s
 | _,_=>False
theorem zh7:∀ {r s:List (Option AV)} {i:Nat} {x:AV},zt5 r s->r[i]?=some (some x)->s[i]?=some (some x)
 | [],_,i,x,_,h=>by simp at h
 | none :: r,_ :: s,0,x,_,h=>by simp at h
 | none :: r,_ :: s,i + 1,x,hc,h=>by simpa using zh7 (r:=r) (s:=s) hc (by simpa using h)
 | some a :: r,some b :: s,0,x,hc,h=>by
  simp at h;subst h;obtain ⟨rfl,_⟩:=hc;rfl
 | some a :: r,some b :: s,i + 1,x,hc,h=>by simpa using zh7 (r:=r) (s:=s) hc.2 (by simpa using h)
 | none :: r,[],_,_,hc,_=>hc.elim
 | some _ :: r,[],_,_,hc,_=>hc.elim
 | some _ :: r,none :: _,_,_,hc,_=>hc.elim
inductive Chk (ex vs:List (Option AV)):Prop
 | mk (h:zt5 ex vs)
def mvS (sc:Option (Nat->Bool)) (mv:List (Nat × AV)):List (Nat × AV):=mv.map fun x=>(x.1,zgz sc x.2)
def exS (sc:Option (Nat->Bool)) (m:Nat) (a:AV) (vs:List (Option AV)):List (Option AV):=(vs.map fun x=>x.map (zgz sc)).set m (some a)
def zpf (P:Program) (G:World->Prop) (E:SO) (T:TT) (all:List Oper) (M:List Nat) (lo:Nat->Nat) (k:Nat):List Nat->Nat->List (Nat × AV)->List (Option AV)->List AV->AH->(List AV->AH->Prop)->Prop
 | [],p,mv,ex,e0,H,K=>zik P G E T M lo p mv H k 0 all e0 [] fun env vs=>Chk ex vs/\K env H
 | m :: Ms,p,mv,ex,e0,H,K=>zik P G E T M lo p mv H k 0 all e0 [] fun env vs=>Chk ex vs/\(match all[m]? with
  | some o=>amem P G E T o env H fun a H' sc=>zpf P G E T all M lo k Ms (p + 1) (mvS sc mv++[(m,a)]) (exS sc m a vs) (zde sc e0) H' K
  | none=>False)
def zrw (ops:List Oper) (k:Nat) (M:List Nat) (lo:Nat->Nat) (i:Nat) (o:Oper):Bool :=
 (o.op.operands.all fun x=>match x with
  | .tmp t=>z1l ops k t || (zau ops.toArray i).any fun d=>(ops[d]?).bind (·.dst) == some t
  | _=>true) && o.guard.isNone && (inM i M || Nat.beq (lo i) 0 || (zau ops.toArray i).any fun d=>Nat.ble (lo i) (lo d))
def zsh (ops:List Oper) (k:Nat) (M:List Nat) (lo:Nat->Nat):Bool:=(List.range M.length).all fun j=>match M[j]? with
 | some m=>Nat.blt m k && Nat.beq (lo m) (j + 1) && (match j with
  | 0=>true
  | j' + 1=>(match M[j']? with
   | some m'=>(zau ops.toArray m).contains m'
   | none=>false))
 | none=>false
def zfc (nt:Nat) (ops:List Oper) (k:Nat) (M:List Nat) (lo:Nat->Nat):Bool :=
 rgB ops.toArray k 8 && decide (k<=ops.length) && (ops.all fun o=>match o.dst with
  | some t=>decide (t < nt)
  | none=>true) && ((List.range k).all fun i=>match ops[i]? with
  | some o=>zrw ops k M lo i o
  | none=>true) && zsh ops k M lo
theorem zml {P:Program} {R R':Value->World->Prop} {x:Result Next} (h:∀ v w,R v w->R' v w) (hx:zbi P R x):zbi P R' x:=by
 cases x with
 | ok n w =>
  cases n <;> simp only [zbi] at hx ⊢
  ·exact h _ _ hx
  ·exact h _ _ hx
  ·exact Calls.mono hx fun e w' ⟨v,he,hr⟩=>⟨v,he,h _ _ hr⟩
 | halt y w=>exact hx
section
variable {P:Program} {G:World->Prop} {T:TT}
theorem zvy (hT:TOk P T) {o:Oper} {env:List AV} {H:AH} {K:AV->AH->Option (Nat->Bool)->Prop} (h:amem P G zas T o env H K):∃ a H' sc,K a H' sc/\WS P G o env H a H' sc:=by
 unfold amem at h
 split at h
 ·rename_i c ho
  split at h
  ·rename_i f hc;obtain ⟨σ,cs,Hc,r,Hc',hr,hcs,hb,hp,hpan,k⟩:=h;refine ⟨_,_,_,k,fun w0 B w ι ρ hR hC hρ hf=>?_⟩
   have hops:∀ x,x ∈ c.args->x ∈ o.op.operands:=fun x hx=>by rw [ho];simp [Op.operands,Call.operands,hc,hx]
   have hexec:(execOp ρ o).run P w=.ok (.enter f (c.args.map ρ)) w:=by
    simp only [execOp,ho,resolve,hc,hf,Deferred.ofValue,Sem.run_bind,Sem.run_pure,Result.andThen_ok,invoke]
    have:=hr.1 (#[]++c.args.map ρ++#[]) w
    simpa using this
   rw [hexec];show Calls P f (c.args.map ρ) w _;unfold z0v at hb;simp only [bAT] at hb;obtain ⟨⟨⟨hb1,hb2⟩,hb3⟩,hb4⟩:=hb;have hl:cs.length=(c.args.toList.map ρ).length:=by
    have:=congrArg List.length hcs
    rw [zb4] at this;simpa using this.symm
   have hm:=zis hR hC hr hb1 (Nat.eq_of_beq_eq_true hb2) hp hb3 hb4 hl fun j x v hx hv=>by
    rw [List.getElem?_map] at hv
    cases hy:c.args.toList[j]? with
    | none=>rw [hy] at hv;cases hv
    | some y =>
     rw [hy] at hv;cases hv
     have h1:(c.args.toList.map (aev env))[j]?=some (aev env y):=by rw [List.getElem?_map,hy];rfl
     rw [hcs,zc5,hx] at h1;have h2:=Option.some.inj h1;rw [h2];exact hρ y (hops y (by have:=List.mem_of_getElem? hy;simpa using this))
   have e:(c.args.toList.map ρ).toArray=c.args.map ρ:=by
    apply Array.toList_inj.1;simp
   rw [e] at hm;refine hm.mono fun e w' ⟨ι',h1,h2,h3⟩=>?_
   rcases zes h3 with ⟨ch,h4,_⟩|⟨_,v,h4,h5⟩
   ·rw [zfd,hpan] at h4
    cases h4
   ·exact ⟨v,h4,ι',h1,h2,h5⟩
  ·exact ziw hT h
 ·exact ziw hT h
def zqf (lo:Nat->Nat) (p:Nat) (avs:Nat->AV):Nat->Nat->List (Option AV)
 | _,0=>[]
 | m,n + 1=>(match Nat.ble (lo m) p with
  | true=>some (avs m)
  | false=>none) :: zqf lo p avs (m + 1) n
theorem ztm {lo:Nat->Nat} {p:Nat} {avs:Nat->AV}:∀ (m n q:Nat),q < n->lo (m + q)<=p->(zqf lo p avs m n)[q]?=some (some (avs (m + q)))
 | _,0,_,h,_=>by omega
 | m,n + 1,0,_,hl=>by
  unfold zqf;rw [Nat.ble_eq_true_of_le (by simpa using hl)]
  simp
 | m,n + 1,q + 1,h,hl=>by
  unfold zqf;rw [List.getElem?_cons_succ,ztm (m + 1) n q (by omega) (by rw [show m + 1 + q=m + (q + 1) by omega];exact hl),show m + 1 + q=m + (q + 1) by omega]
theorem zl8 {lo:Nat->Nat} {p:Nat} {avs:Nat->AV}:∀ (m n q:Nat) (x:AV),(zqf lo p avs m n)[q]?=some (some x)->x=avs (m + q)
 | _,0,_,_,h=>by simp [zqf] at h
 | m,n + 1,0,x,h=>by
  unfold zqf at h
  split at h
  ·simp at h;exact h.symm
  ·simp at h
 | m,n + 1,q + 1,x,h=>by
  unfold zqf at h;rw [List.getElem?_cons_succ] at h;rw [zl8 (m + 1) n q x h,show m + 1 + q=m + (q + 1) by omega]
theorem ztl {lo:Nat->Nat} {p:Nat} {avs:Nat->AV}:∀ (m n:Nat),(zqf lo p avs m n).length=n
 | _,0=>rfl
 | m,n + 1=>by simp [zqf,ztl (m + 1) n]
theorem znu {lo:Nat->Nat} {p:Nat} {avs avs':Nat->AV}:∀ (m n:Nat),(∀ i,m<=i->avs i=avs' i)->zqf lo p avs m n=zqf lo p avs' m n
 | _,0,_=>rfl
 | m,n + 1,h=>by
  unfold zqf;rw [h m (nR _),znu (m + 1) n fun i hi=>h i (by omega)]
theorem zia (hT:TOk P T) {all:List Oper} {M:List Nat} {lo:Nat->Nat} {p:Nat} {mv:List (Nat × AV)} {H:AH} (hg:∀ o ∈ all,True):∀ (n m:Nat) (env:List AV) (vs:List (Option AV)) (K:List AV->List (Option AV)->Prop),m + n<=all.length →
  zik P G zas T M lo p mv H n m (all.drop m) env vs K →
  ∃ avs:Nat->AV,K (zam all avs m n env) (vs++zqf lo p avs m n)/\∀ q o,q < n->all[m + q]?=some o->lo (m + q)<=p->inM (m + q) M=false->QS P G o (zam all avs m q env) H (avs (m + q))
 | 0,m,env,vs,K,_,h=>⟨fun _=>.junk,by unfold zqf;rw [List.append_nil];exact h,fun q o hq=>by omega⟩
 | n + 1,m,env,vs,K,hle,h=>by
  have hm:m < all.length:=by omega
  rw [List.drop_eq_getElem_cons hm] at h;have ho:all[m]?=some all[m]:=List.getElem?_eq_getElem hm;have go:∀ (x:AV) (y:Option AV),(y=match Nat.ble (lo m) p with
    | true=>some x
    | false=>none)->(lo m<=p->inM m M=false->QS P G all[m] env H x)->zik P G zas T M lo p mv H n (m + 1) (all.drop (m + 1)) (zj3 env all[m].dst x) (vs++[y]) K →
    ∃ avs:Nat->AV,K (zam all avs m (n + 1) env) (vs++zqf lo p avs m (n + 1))/\∀ q o,q < n + 1->all[m + q]?=some o->lo (m + q)<=p->inM (m + q) M=false->QS P G o (zam all avs m q env) H (avs (m + q)):=by
   intro x y hy hx h;obtain ⟨avs,hK,hF⟩:=zia hT hg n (m + 1) _ _ K (by omega) h
   have hc:∀ q env,zam all (fun i=>if i=m then x else avs i) (m + 1) q env=zam all avs (m + 1) q env:=fun q env=>zgq q env fun i h1 _=>by rw [if_neg (by omega)]
   refine ⟨fun i=>if i=m then x else avs i,?_,fun q o hq hqo hlo hin=>?_⟩
   ·rw [zer,hc,ho];unfold zqf;rw [znu (avs':=avs) (m + 1) n fun i hi=>by rw [if_neg (by omega)]]
    simp only [if_true,<- hy];rw [List.append_assoc] at hK;simpa using hK
   ·cases q with
    | zero =>
     rw [Nat.add_zero,ho] at hqo
     cases hqo
     simpa [zam] using hx (by simpa using hlo) (by simpa using hin)
    | succ q =>
     have:=hF q o (by omega) (by rw [<-hqo];congr 1;omega) (by rw [show m + 1 + q=m + (q + 1) by omega];exact hlo) (by rw [show m + 1 + q=m + (q + 1) by omega];exact hin)
     rw [zer,hc,ho];simp only [Option.bind_some,if_true];rw [if_neg (by omega)]
     rw [show m + (q + 1)=m + 1 + q by omega]
     exact this
  unfold zik at h
  cases hb:Nat.ble (lo m) p with
  | false =>
   rw [hb] at h;exact go .junk none (by rw [hb]) (fun hl=>by rw [Nat.ble_eq_true_of_le hl] at hb;cases hb) h
  | true =>
   rw [hb] at h;simp only at h
   cases hi:inM m M with
   | true =>
    rw [hi] at h;exact go _ _ (by rw [hb]) (fun _ hh=>by rw [hi] at hh;cases hh) h
   | false =>
    rw [hi] at h;simp only at h
    split at h
    ·obtain ⟨_,x,hK,hq⟩:=zjy (P:=P) (G:=G) (H:=H) hT h;exact go x _ (by rw [hb]) (fun _ _=>hq) hK
    ·obtain ⟨x,hK,hq⟩:=zlr hT h;exact go x _ (by rw [hb]) (fun _ _=>hq) hK
theorem zqw (hT:TOk P T) {all:List Oper} {M:List Nat} {lo:Nat->Nat} {k:Nat} (hk:k<=all.length):∀ (Ms:List Nat) (p:Nat) (mv:List (Nat × AV)) (ex:List (Option AV)) (e0:List AV) (H:AH) (K:List AV->AH->Prop),
  (∀ (j m:Nat),Ms[j]?=some m->lo m=p + j + 1/\m < k)->zpf P G zas T all M lo k Ms p mv ex e0 H K →
  ∃ (V:Nat->Nat->AV) (Hs:Nat->AH) (es:Nat->List AV) (sc:Nat->Option (Nat->Bool)),Hs p=H/\es p=e0/\(∀ i x,ex[i]?=some (some x)->V p i=x) ∧
   (∀ r,p<=r->r<=p + Ms.length->∀ i o,i < k->all[i]?=some o->lo i<=r->inM i M=false->QS P G o (zam all (V r) 0 i (es r)) (Hs r) (V r i)) ∧
   (∀ r,p<=r->∀ m o,Ms[r - p]?=some m->all[m]?=some o->WS P G o (zam all (V r) 0 k (es r)) (Hs r) (V (r + 1) m) (Hs (r + 1)) (sc r)) ∧
   (∀ r,p<=r->r < p + Ms.length->es (r + 1)=zde (sc r) (es r)/\∀ i,i < k->lo i<=r->V (r + 1) i=zgz (sc r) (V r i)) ∧
   K (zam all (V (p + Ms.length)) 0 k (es (p + Ms.length))) (Hs (p + Ms.length))
 | [],p,mv,ex,e0,H,K,_,h=>by
  unfold zpf at h;obtain ⟨avs,⟨⟨hch⟩,hK⟩,hF⟩:=zia (all:=all) hT (fun _ _=>trivial) k 0 e0 [] _ (by omega) (by simpa using h)
  rw [lNA] at hch;refine ⟨fun _=>avs,fun _=>H,fun _=>e0,fun _=>none,rfl,rfl,fun i x hx=>?_,fun r h1 h2 i o hi ho hl hin=>?_,fun r _ m o hm=>by simp at hm,fun r h1 h2=>by simp at h2;omega,hK⟩
  ·have:=zl8 0 k i x (zh7 hch hx)
   rw [Nat.zero_add] at this;exact this.symm
  ·have er:r=p:=by simp at h2;omega
   have:=hF i o hi (by rw [Nat.zero_add];exact ho) (by rw [Nat.zero_add];omega) (by rw [Nat.zero_add];exact hin)
   rw [Nat.zero_add] at this;exact this
 | m :: Ms,p,mv,ex,e0,H,K,hMs,h=>by
  unfold zpf at h;obtain ⟨avs,⟨⟨hch⟩,hK⟩,hF⟩:=zia (all:=all) hT (fun _ _=>trivial) k 0 e0 [] _ (by omega) (by simpa using h)
  rw [lNA] at hch hK;obtain ⟨hlm,hmk⟩:=hMs 0 m rfl
  split at hK
  ·rename_i om hom;obtain ⟨a,H',sc0,hK',hW⟩:=zvy hT hK;obtain ⟨V,Hs,es,sc,e1,e2,e3,e4,e5,e6,e7⟩:=zqw hT hk Ms (p + 1) _ _ _ _ K (fun j m' hj=>by
    have:=hMs (j + 1) m' (by simpa using hj)
    exact ⟨by omega,this.2⟩) hK'
   have hlen:p + 1 + Ms.length=p + (m :: Ms).length:=by simp;omega
   rw [hlen] at e4 e6 e7;have hne:∀ r,p + 1<=r->¬ r=p:=fun r h=>by omega
   have hVm:V (p + 1) m=a:=e3 m a (by
    unfold exS;rw [List.getElem?_set_self];rw [lLM,ztl];exact hmk)
   have hVi:∀ i,i < k->lo i<=p->V (p + 1) i=zgz sc0 (avs i):=fun i hi hl=>e3 i _ (by
    unfold exS;rw [List.getElem?_set_ne (fun e=>by subst e;omega),List.getElem?_map,ztm 0 k i hi (by rw [Nat.zero_add];exact hl)]
    simp)
   refine ⟨fun r=>if r=p then avs else V r,fun r=>if r=p then H else Hs r,fun r=>if r=p then e0 else es r,fun r=>if r=p then sc0 else sc r,if_pos rfl,if_pos rfl,fun i x hx=>?_,fun r h1 h2 i o hi ho hl hin=>?_,fun r h1 m' o hm' ho=>?_,fun r h1 h2=>?_,?_⟩
   ·have:=zl8 0 k i x (zh7 hch hx)
    rw [Nat.zero_add] at this;simp only [if_true];exact this.symm
   ·by_cases er:r=p
    ·subst er;simp only [if_true]
     have:=hF i o hi (by rw [Nat.zero_add];exact ho) (by rw [Nat.zero_add];omega) (by rw [Nat.zero_add];exact hin)
     rw [Nat.zero_add] at this;exact this
    ·simp only [if_neg er];exact e4 r (by omega) h2 i o hi ho hl hin
   ·by_cases er:r=p
    ·subst er;have em:m'=m:=by simpa using hm'.symm
     subst em;rw [hom] at ho
     cases ho
     simp only [if_true,if_neg (show ¬ r + 1=r by omega)]
     rw [hVm,e1];exact hW
    ·simp only [if_neg er,if_neg (show ¬ r + 1=p by omega)]
     refine e5 r (by omega) m' o ?_ ho
     rw [show r - p=(r - (p + 1)) + 1 by omega] at hm'
     simpa using hm'
   ·by_cases er:r=p
    ·subst er;simp only [if_true,if_neg (show ¬ r + 1=r by omega)]
     exact ⟨e2,fun i hi hl=>hVi i hi hl⟩
    ·simp only [if_neg er,if_neg (show ¬ r + 1=p by omega)]
     exact e6 r (by omega) h2
   ·simp only [if_neg (show ¬ p + (m :: Ms).length=p by simp)]
    exact e7
  ·cases hK
end
/- Own work: a region with a chain of memory operations: soundness. -/
section
variable {P:Program} {G:World->Prop} {T:TT} {w0:Base} {B:Nat->Prop} {nt:Nat}
theorem zzj (sc:Option (Nat->Bool)) (env:List AV) (t:Nat):aev (zde sc env) (.tmp t)=zgz sc (aev env (.tmp t)):=by
 cases sc with
 | none=>rfl
 | some p =>
  simp only [aev,zde,zgz,List.getD_eq_getElem?_getD,List.getElem?_map]
  cases env[t]? with
  | none=>rfl
  | some a=>rfl
theorem zum (sc:Option (Nat->Bool)) (env:List AV):(zde sc env).length=env.length:=by
 unfold zde
 split <;> simp
structure JM (all:List Oper) (k:Nat) (M:List Nat) (lo:Nat->Nat) (w0:Base) (B:Nat->Prop) (n0:Nat) (V:Nat->Nat->AV) (Hs:Nat->AH) (es:Nat->List AV) (listed:Array Bool) (a:Act) (w:World) (r:Nat) (ι:Pl):Prop where
 defers:a.defers=w0.ds
 size:a.tmps.size=n0
 pin:∀ t v,w0.pin t=some v->a.tmps[t]?=some v
 le:r<=M.length
 pre:∀ (j m:Nat),M[j]?=some m->(listed.getD m false=true ↔ j < r)
 lok:∀ i,i < k->listed.getD i false=true->lo i<=r
 rel:Rel w0 B w ι (Hs r)
 vals:∀ (i:Nat) (o:Oper) (t:Tmp),all[i]?=some o->i < k->listed.getD i false=true->o.dst=some t->Rep w ι (Rd B ι (Hs r)) (V r i) (a.eval (.tmp t))
 rest:∀ (t:Tmp),(∀ (i:Nat) (o:Oper),all[i]?=some o->i < k->listed.getD i false=true->o.dst ≠ some t)->Rep w ι (Rd B ι (Hs r)) (aev (es r) (.tmp t)) (a.eval (.tmp t))
theorem ziy (hT:TOk P T) (hG0:∀ w,GrX w0 w->G w) (hB0:∀ b,w0.own b->B b) (hm:P.follows .mixedOrders=true) {id:Nat} {all:List Oper} {k:Nat} {M:List Nat} {lo:Nat->Nat} (hpd:∀ o ∈ all,∀ t,o.dst=some t->w0.pin t=none) (hok:zfc nt all k M lo=true) {Q:Exit->List AV->AH->Prop} {env0:List AV} {H:AH} {a:Act} {w:World}
  (h:zpf P G zas T all M lo k M 0 [] [] env0 H fun env2 H2=>zmz P G zas T all Q (all.drop k) env2 H2) (hS:St w0 B nt env0 H a w) :
  (Code.region id all.toArray true).wp P (zj4 w0 B nt Q) a w:=by
 obtain ⟨hd0,hn0,hp0,ι,hR0,hE0⟩:=hS;have hlen0:env0.length=nt:=by rw [hE0.len];exact hn0
 unfold zfc at hok;simp only [bAT,decide_eq_true_eq] at hok;obtain ⟨⟨⟨⟨hrg,hkl⟩,hdst⟩,hops⟩,hchain⟩:=hok;have hdlt:∀ (i:Nat) (o:Oper) (t:Tmp),all[i]?=some o->o.dst=some t->t < env0.length:=fun i o t ho ht=>by
  have:=List.all_eq_true.1 hdst o (List.mem_of_getElem? ho)
  rw [ht] at this;rw [hlen0];simpa using this
 rw [lAT] at hops;have hopOk:∀ i o,i < k->all[i]?=some o->zrw all k M lo i o=true:=fun i o hi ho=>by
  have:=hops i (List.mem_range.2 hi)
  rw [ho] at this;exact this
 unfold zsh at hchain;rw [lAT] at hchain;have hch:∀ (j m:Nat),M[j]?=some m->m < k/\lo m=j + 1/\∀ j' m',j=j' + 1->M[j']?=some m'->m' ∈ zau all.toArray m:=fun j m hj=>by
  have hjl:=(List.getElem?_eq_some_iff.1 hj).1
  have:=hchain j (List.mem_range.2 hjl)
  rw [hj] at this;simp only [bAT] at this;obtain ⟨⟨h1,h2⟩,h3⟩:=this;refine ⟨by have:=Nat.le_of_ble_eq_true h1;omega,Nat.eq_of_beq_eq_true h2,fun j' m' e hm'=>?_⟩
  subst e;simp only [hm'] at h3;simpa using h3
 obtain ⟨V,Hs,es,sc,e1,e2,_,hq,hw,hsc,hK⟩:=zqw hT hkl M 0 [] [] env0 H _ (fun j m hj=>⟨by have:=(hch j m hj).2.1;omega,(hch j m hj).1⟩) h
 rw [Nat.zero_add] at hq hsc hK;have hdis:∀ (i j:Nat) (oi oj:Oper) (t:Tmp),all[i]?=some oi->all[j]?=some oj->i ≠ j->oi.dst=some t->oj.dst ≠ some t:=by
  have hB:=hrg;simp only [rgB,bAT,lAT,lMR,decide_eq_true_eq,Bool.or_eq_true] at hB;intro i j oi oj t hi hj hne hti htj;have hil:=(List.getElem?_eq_some_iff.1 hi).1;have hjl:=(List.getElem?_eq_some_iff.1 hj).1
  rcases hB.2 i (by simpa using hil) j (by simpa using hjl) with hh|hh
  ·rcases hh with hh|hh
   ·exact hne hh
   ·simp [hi,hti] at hh
  ·simp [hi,hj,hti,htj] at hh
 have hback:∀ i d,d ∈ zau all.toArray i->d < i:=fun i d hd=>by
  have hB:=hrg;simp only [rgB,bAT,lAT,lMR,decide_eq_true_eq] at hB
  rcases Nat.lt_or_ge i all.toArray.size with h|h
  ·exact hB.1.1 i h d hd
  ·simp [zau,Array.getElem?_eq_none h] at hd
 have hesl:∀ r,r<=M.length->(es r).length=env0.length:=by
  intro r
  induction r with
  | zero=>intro _;rw [e2]
  | succ r ih =>
   intro hr;rw [(hsc r (Nat.zero_le _) (by omega)).1,zum]
   exact ih (by omega)
 have hopd:∀ (listed:Array Bool) (a:Act) (w:World) (r:Nat) (ι:Pl) (i q:Nat) (o:Oper),JM all k M lo w0 B env0.length V Hs es listed a w r ι->(∀ d ∈ zau all.toArray i,listed.getD d false=true)->all[i]?=some o->i < k->i<=q->q<=k →
   ∀ x,x ∈ o.op.operands->Rep w ι (Rd B ι (Hs r)) (aev (zam all (V r) 0 q (es r)) x) (a.eval x):=by
  intro listed a w r ι i q o hJ hdeps ho hik hiq hqk x hx;have hopk:=hopOk i o hik ho;unfold zrw at hopk;simp only [bAT] at hopk;have hx':=(Array.all_eq_true_iff_forall_mem.1 hopk.1.1) x hx
  cases x with
  | const v=>exact .p _ _ (zol _ _ _)
  | global g=>exact .p _ _ (.v _)
  | func f=>exact .p _ _ (.v _)
  | tmp t =>
   simp only [Bool.or_eq_true] at hx'
   rcases hx' with hfree|hdep
   ·have he:(zam all (V r) 0 q (es r))[t]?=(es r)[t]?:=zdf q (es r) fun j hj=>zh2 hfree (by omega)
    have hr:=hJ.rest t fun j oj hj hjk _=>by
     have:=zh2 hfree hjk
     rw [hj] at this;simpa using this
    have e1:aev (zam all (V r) 0 q (es r)) (.tmp t)=aev (es r) (.tmp t):=by
     simp only [aev,List.getD_eq_getElem?_getD,he]
    rw [e1];exact hr
   ·rw [List.any_eq_true] at hdep;obtain ⟨d,hdm,hdt⟩:=hdep;have hdt':(all[d]?).bind (·.dst)=some t:=by simpa using hdt
    cases hdo:all[d]? with
    | none=>rw [hdo] at hdt';cases hdt'
    | some od =>
     have hdst:od.dst=some t:=by rw [hdo] at hdt';simpa using hdt'
     have hdi:=hback i d hdm;have hl:=hdeps d hdm
     rcases Nat.lt_or_ge t env0.length with htl|htl
     ·have he:(zam all (V r) 0 q (es r))[t]?=some (V r d):=zee hdt' q (es r) (by omega) (by rw [hesl r hJ.le];exact htl) fun j hj hjd=>by
       cases hjo:all[j]? with
       | none=>simp
       | some oj=>simpa using hdis d j od oj t hdo hjo (Ne.symm hjd) hdst
      have e1:aev (zam all (V r) 0 q (es r)) (.tmp t)=V r d:=by simp only [aev,List.getD_eq_getElem?_getD,he];rfl
      rw [e1];exact hJ.vals d od t hdo (by omega) hl hdst
     ·exact absurd (hdlt d od t hdo hdst) (Nat.not_lt.2 htl)
 refine zi1 k 8 (fun listed a w=>∃ r ι,JM all k M lo w0 B env0.length V Hs es listed a w r ι) hm hrg hkl ?_ ?_ ?_
 ·
  have hnot:∀ i,(Array.replicate all.length false).getD i false=false:=fun i=>by by_cases h:i < all.length <;> simp [h]
  have hg:Gr w w.drew:=(Below.refl _ _).drew;refine ⟨0,ι,hd0,by rw [hlen0];exact hn0,hp0,Nat.zero_le _,fun j m _=>⟨(fun hh=>by rw [hnot] at hh;cases hh),fun hh=>by omega⟩,(fun i _ hl=>by rw [hnot] at hl;cases hl),(by rw [e1];exact hR0.grow hg),(fun i o t _ _ hl=>by rw [hnot] at hl;cases hl),fun t _=>?_⟩
  rw [e1,e2];exact (hE0.eval (.tmp t)).keep0 (Keeps.gr hg)
 ·
  rintro listed a' w' i o ⟨r,ι,hJ⟩ hls hdeps ho hik hun
  have hGw:G w':=hG0 _ hJ.rel.gr;have hfun:∀ f,a'.eval (.func f)=.func (.func f) #[] #[]:=fun _=>rfl
  have hopk:=hopOk i o hik ho;unfold zrw at hopk;simp only [bAT] at hopk;have hgd:o.guard=none:=by simpa using hopk.1.2
  rw [if_pos (by simp [Region.wanted,hgd])]
  have hil:i < listed.size:=by rw [hls];exact (List.getElem?_eq_some_iff.1 ho).1
  have hset:∀ x,x ≠ i->(listed.setIfInBounds i true).getD x false=listed.getD x false:=fun x hx=>getD_set_ne false (Ne.symm hx)
  cases hin:inM i M with
  | true =>
   obtain ⟨j,hj⟩:=zr9 hin;obtain ⟨_,hlo,hprev⟩:=hch j i hj;have hjl:=(List.getElem?_eq_some_iff.1 hj).1;have hjr:j=r:=by
    have h1:¬ j < r:=fun hh=>by
     have:=(hJ.pre j i hj).2 hh
     rw [hun] at this
     cases this
    rcases Nat.eq_zero_or_pos j with h0|h0
    ·omega
    ·have hm':M[j - 1]?=some M[j - 1]:=List.getElem?_eq_getElem (by omega)
     have hd:=hprev (j - 1) _ (by omega) hm'
     have:=(hJ.pre (j - 1) _ hm').1 (hdeps _ hd)
     omega
   subst hjr;have hC:Can G w0 B w' ι (Hs j):=⟨fun w2 hg=>hG0 w2 ⟨hg.os.trans hJ.rel.gr.os,hg.tape.trans hJ.rel.gr.tape,hg.output.trans hJ.rel.gr.output,Nat.le_trans hJ.rel.size hg.size,fun k hk hx=>by
    have:=hJ.rel.size
    rw [hg.block k (by change k < w'.heap.size;omega) fun ho=>by rcases hJ.rel.ge ho with h|h <;> first|exact hx h|omega]
    exact hJ.rel.gr.block k hk hx⟩,hB0⟩
   have hW:=hw j (Nat.zero_le _) i o (by rw [Nat.sub_zero];exact hj) ho w0 B w' ι a'.eval hJ.rel hC (hopd listed a' w' j ι i k o hJ hdeps ho hik (by omega) (nR _)) hfun
   refine zml (fun v w2 hv=>?_) hW
   obtain ⟨ι',hR',hkp,hrv⟩:=hv;obtain ⟨he,hV⟩:=hsc j (Nat.zero_le _) hjl;refine ⟨j + 1,ι',by rw [zbw];exact hJ.defers,by rw [zc6];exact hJ.size,zd8 hJ.pin (hpd o (List.mem_of_getElem? ho)) _,hjl,fun j2 m2 hj2=>?_,fun x hx hl=>?_,hR',fun x ox t hox hxk hxl hxd=>?_,fun t ht=>?_⟩
   ·by_cases em:m2=i
    ·subst em;rw [za9 hil];have h2:=(hch j2 m2 hj2).2.1;exact ⟨fun _=>by omega,fun _=>rfl⟩
    ·rw [hset m2 em,hJ.pre j2 m2 hj2]
     constructor
     ·intro h;omega
     ·intro h
      rcases Nat.lt_or_ge j2 j with h2|h2
      ·exact h2
      ·have:j2=j:=by omega
       subst this;rw [hj] at hj2
       cases hj2
       exact absurd rfl em
   ·by_cases ex:x=i
    ·subst ex;omega
    ·rw [hset x ex] at hl
     have:=hJ.lok x hx hl
     omega
   ·by_cases ex:x=i
    ·subst ex;rw [ho] at hox;cases hox
     rw [hxd,zdt (by rw [hJ.size];exact hdlt x o t ho hxd)]
     exact hrv
    ·rw [hset x ex] at hxl;rw [zbt (hdis x i ox o t hox ho ex hxd),hV x hxk (hJ.lok x hxk hxl)];exact (hJ.vals x ox t hox hxk hxl hxd).keep hkp
   ·have hne:o.dst ≠ some t:=ht i o ho hik (za9 hil);rw [zbt hne,he,zzj];exact (hJ.rest t fun x ox hox hxk hxl=>ht x ox hox hxk (getD_set_true hxl)).keep hkp
  | false =>
   have hlo:lo i<=r:=by
    have h3:=hopk.2;rw [hin] at h3;simp only [Bool.or_eq_true,Bool.false_eq_true,false_or] at h3
    rcases h3 with h3|h3
    ·have:=Nat.eq_of_beq_eq_true h3
     omega
    ·rw [List.any_eq_true] at h3;obtain ⟨d,hd,hle⟩:=h3;have h4:=hJ.lok d (by have:=hback i d hd;omega) (hdeps d hd)
     have:=Nat.le_of_ble_eq_true hle
     omega
   have hQ:=hq r (Nat.zero_le _) hJ.le i o hik ho hlo hin w0 B w' ι a'.eval hJ.rel hGw (hopd listed a' w' r ι i i o hJ hdeps ho hik (nR _) (by omega)) hfun
   refine zml (fun v w2 hv=>?_) hQ
   obtain ⟨hg,hrv⟩:=hv;have hkp:Keeps none w' ι (Rd B ι (Hs r)) w2 ι (Rd B ι (Hs r)):=Keeps.gr hg;refine ⟨r,ι,by rw [zbw];exact hJ.defers,by rw [zc6];exact hJ.size,zd8 hJ.pin (hpd o (List.mem_of_getElem? ho)) _,hJ.le,fun j2 m2 hj2=>?_,fun x hx hl=>?_,hJ.rel.grow hg,fun x ox t hox hxk hxl hxd=>?_,fun t ht=>?_⟩
   ·have em:m2 ≠ i:=fun e=>by
     subst e;rw [zyf hj2] at hin
     cases hin
    rw [hset m2 em];exact hJ.pre j2 m2 hj2
   ·by_cases ex:x=i
    ·subst ex;exact hlo
    ·rw [hset x ex] at hl;exact hJ.lok x hx hl
   ·by_cases ex:x=i
    ·subst ex;rw [ho] at hox;cases hox
     rw [hxd,zdt (by rw [hJ.size];exact hdlt x o t ho hxd)]
     exact hrv
    ·rw [hset x ex] at hxl;rw [zbt (hdis x i ox o t hox ho ex hxd)];exact (hJ.vals x ox t hox hxk hxl hxd).keep0 hkp
   ·have hne:o.dst ≠ some t:=ht i o ho hik (za9 hil);rw [zbt hne];exact (hJ.rest t fun x ox hox hxk hxl=>ht x ox hox hxk (getD_set_true hxl)).keep0 hkp
 ·
  rintro listed a' w' ⟨r,ι,hJ⟩ hall
  have hr:r=M.length:=by
   have hle:=hJ.le
   rcases Nat.lt_or_ge r M.length with h1|h1
   ·have hm':M[r]?=some M[r]:=List.getElem?_eq_getElem h1
    have:=(hJ.pre r _ hm').1 (hall _ (hch r _ hm').1)
    omega
   ·omega
  subst hr;refine zdg hT hG0 hB0 _ (fun o ho=>hpd o (List.mem_of_mem_drop ho)) _ _ a' w' hK ⟨hJ.defers,by rw [hJ.size];exact hlen0,hJ.pin,ι,hJ.rel,?_⟩
  refine ⟨by rw [zda,hesl _ (nR _)];exact hJ.size.symm,fun t x v hx hv=>?_⟩
  have hev:a'.eval (.tmp t)=v:=by simp only [Act.eval,Array.getD_eq_getD_getElem?,hv];rfl
  have htl:t < env0.length:=by have:=(List.getElem?_eq_some_iff.1 hx).1;rw [zda,hesl _ (nR _)] at this;exact this
  rcases cEm (∃ i o,i < k/\all[i]?=some o/\o.dst=some t) with ⟨i,o,hik,ho,hdst'⟩|hno
  ·have hbind:(all[i]?).bind (·.dst)=some t:=by rw [ho];simpa using hdst'
   have he:(zam all (V M.length) 0 k (es M.length))[t]?=some (V M.length i):=zee hbind k _ hik (by rw [hesl _ (nR _)];exact htl) fun x hx hxi=>by
    cases hxo:all[x]? with
    | none=>simp
    | some ox=>simpa using hdis i x o ox t ho hxo (Ne.symm hxi) hdst'
   rw [he] at hx;cases hx
   have:=hJ.vals i o t ho hik (hall i hik) hdst'
   rw [hev] at this;exact this
  ·have he:(zam all (V M.length) 0 k (es M.length))[t]?=(es M.length)[t]?:=zdf (all:=all) (avs:=V M.length) k _ fun i hi=>by
    cases hio:all[i]? with
    | none=>simp
    | some o=>simpa using fun e=>hno ⟨i,o,hi,hio,e⟩
   rw [he] at hx
   have:=hJ.rest t fun i o ho hi _ e=>hno ⟨i,o,hi,ho,e⟩
   rw [hev] at this;have e2:aev (es M.length) (.tmp t)=x:=by simp only [aev,List.getD_eq_getElem?_getD,hx];rfl
   rw [e2] at this;exact this
end
section
variable {P:Program} {G:World->Prop} {T:TT} {nt:Nat}
theorem Seg.regM (hT:TOk P T) (hm:P.follows .mixedOrders=true) {id:Nat} {ops:Array Oper} (k:Nat) (M:List Nat) (lo:Nat->Nat) (hok:zfc nt ops.toList k M lo=true) (Q:SO->Exit->List AV->AH->Prop) {env:List AV} {H:AH}
  (h:∀ (P':Program) (G':World->Prop) (E:SO),(∀ f l r,Ret P G f l r->Ret P' G' f l r)->(∀ f as H r H',zd4 P G f as H r H'->zd4 P' G' f as H r H')->E=zas->zpf P' G' E T ops.toList M lo k M 0 [] [] env H fun env2 H2=>zmz P' G' E T ops.toList (Q E) (ops.toList.drop k) env2 H2):Seg P G nt (.region id ops true) (Q zas) env H:=by
 intro w0 B hG hB hpk a w hS;obtain ⟨l⟩:=ops;exact ziy hT hG hB hm hpk hok (h P G zas (fun _ _ _ h=>h) (fun _ _ _ _ _ h=>h) rfl) hS
theorem Seg.loop {γ:Type} (n:Nat) (live:List Nat) (m:Nat) (S:γ->List AV) (h:γ->AH) (I:γ->Prop) (μ:γ->Nat) (x0:γ) {c:Code} {Q:Exit->List AV->AH->Prop} {env:List AV} {H:AH}
  (h0:HeadIs n live m S h env H x0) (hI:I x0) (hr:∀ x,I x->Seg P G nt c (zce (Again n live m S h I μ (μ x)) Q) (zbf live (S x) n 0) (h x)):Seg P G nt (.loop c) Q env H:=by
 classical
 intro w0 B hG hB hpk a w hS;have hwk:∀ env H env' H' a w,Wk env H env' H'->St w0 B nt env H a w->St w0 B nt env' H' a w:=fun env H env' H' a w hw hS=>by
  obtain ⟨ι,hR,hE⟩:=hS.rep;exact ⟨hS.defers,hS.size,hS.pin,hw w0 B w ι a.tmps hB hR hE⟩
 have key:∃ f:Act->World->Nat,(∀ a w,(∃ x,I x/\St w0 B nt (zbf live (S x) n 0) (h x) a w)->∃ x,I x/\μ x=f a w/\St w0 B nt (zbf live (S x) n 0) (h x) a w)/\∀ a w x,I x->St w0 B nt (zbf live (S x) n 0) (h x) a w->f a w<=μ x:=by
  refine ⟨fun a w=>if h:∃ k,∃ x,I x/\μ x=k/\St w0 B nt (zbf live (S x) n 0) (h x) a w then Classical.choose (zor h) else 0,fun a w ⟨x,h1,h2⟩=>?_,fun a w x h1 h2=>?_⟩
  ·have hex:∃ k,∃ x,I x/\μ x=k/\St w0 B nt (zbf live (S x) n 0) (h x) a w:=⟨_,x,h1,rfl,h2⟩
   simp only [hex,dif_pos];exact (Classical.choose_spec (zor hex)).1
  ·have hex:∃ k,∃ x,I x/\μ x=k/\St w0 B nt (zbf live (S x) n 0) (h x) a w:=⟨_,x,h1,rfl,h2⟩
   simp only [hex,dif_pos];exact (Classical.choose_spec (zor hex)).2 _ ⟨x,h1,rfl,h2⟩
 obtain ⟨f,hf1,hf2⟩:=key;refine wp_loop (fun a w=>∃ x,I x/\St w0 B nt (zbf live (S x) n 0) (h x) a w) f ⟨x0,hI,hwk _ _ _ _ a w h0.wk hS⟩ fun a' w' hex=>?_
 obtain ⟨x,hx,hμ,hSx⟩:=hf1 a' w' hex;refine wp_mono (hr x hx w0 B hG hB hpk a' w' hSx) ?_;refine zgb _ fun env3 H3 a3 w3 hn3 hS3=>?_
 obtain ⟨y,hh,hIy,hlt⟩:=hn3;have hS4:=hwk _ _ _ _ a3 w3 hh.wk hS3;refine ⟨⟨y,hIy,hS4⟩,?_⟩
 have:=hf2 a3 w3 y hIy hS4
 omega
theorem Seg.block {id:Nat} {c:Code} {Q:Exit->List AV->AH->Prop} {env:List AV} {H:AH} (h:Seg P G nt c (zet id Q) env H):Seg P G nt (.block id c) Q env H:=by
 intro w0 B hG hB hpk a w hS;refine wp_block (wp_mono (h w0 B hG hB hpk a w hS) ?_)
 rintro e a w ⟨env,H,h,hS⟩
 cases e with
 | exit i =>
  simp only [zet] at h;simp only [Exit.inBlock]
  split at h
  ·rename_i e;rw [if_pos e];exact ⟨env,H,h,hS⟩
  ·rename_i e;rw [if_neg e];exact ⟨env,H,h,hS⟩
 | normal=>exact ⟨env,H,h,hS⟩
 | goto l=>exact ⟨env,H,h,hS⟩
 | ret=>exact ⟨env,H,h,hS⟩
 | panic c=>exact ⟨env,H,h,hS⟩
 | outgrown=>exact ⟨env,H,h,hS⟩
end
/- Own work: more ways to take a body apart. -/
section
variable {P:Program} {G:World->Prop} {T:TT} {nt:Nat}
theorem Seg.of0 (hT:TOk P T) (hm:P.follows .mixedOrders=true) (kOf:Nat->Nat) {c:Code} (hok:zcd nt kOf c=true) {Q:Exit->List AV->AH->Prop} {env:List AV} {H:AH}
  (h:∀ (P':Program) (G':World->Prop) (E:SO),(∀ f l r,Ret P G f l r->Ret P' G' f l r)->(∀ f as H r H',zd4 P G f as H r H'->zd4 P' G' f as H r H')->E=zas->awp P' G' E T kOf c Q env H):Seg P G nt c Q env H :=
 Seg.of hT hm kOf hok (fun _=>Q) h
theorem Seg.condT {x:Operand} {c d:Code} {Q:Exit->List AV->AH->Prop} {env:List AV} {H:AH} (he:aev env x=.p (.v (.bool true))) (h:Seg P G nt c Q env H):Seg P G nt (.cond x c d) Q env H:=by
 intro w0 B hG hB hpk a w hS;obtain ⟨ι,hR,hE⟩:=hS.rep;have hc:=hE.eval x;rw [he] at hc;refine wp_cond_split (zbk hc) (fun _=>h w0 B hG hB hpk.1 a w hS) (fun hb=>by cases hb)
theorem Seg.condF {x:Operand} {c d:Code} {Q:Exit->List AV->AH->Prop} {env:List AV} {H:AH} (he:aev env x=.p (.v (.bool false))) (h:Seg P G nt d Q env H):Seg P G nt (.cond x c d) Q env H:=by
 intro w0 B hG hB hpk a w hS;obtain ⟨ι,hR,hE⟩:=hS.rep;have hc:=hE.eval x;rw [he] at hc;refine wp_cond_split (zbk hc) (fun hb=>by cases hb) (fun _=>h w0 B hG hB hpk.2 a w hS)
theorem Seg.never {c d:Code} {Q:Exit->List AV->AH->Prop} {env:List AV} {H:AH} (h:Seg P G nt c (zce (fun _ _=>False) Q) env H):Seg P G nt (.seq c d) Q env H :=
 .seq _ h fun _ _ h=>h.elim
end
/- Own work: a body cut behind its first statements;what it comes to is not looked at there. -/
section
variable {P:Program} {G:World->Prop} {T:TT} {nt:Nat}
end
/- Own work: a region that draws its order and in which a call always panics. -/
section
variable {P:Program} {ops:Array Oper} {Q:Exit->Act->World->Prop}
def zsb (P:Program) (R:Value->World->Prop) (Z:List PanicEntry->World->Prop):Result Next->Prop
 | .ok (.value v) w'=>R v w'
 | .ok .skip w'=>R undef w'
 | .ok (.enter f args) w'=>Calls P f args w' fun e w''=>(∃ v,e=.returned v/\R v w'')\/∃ ch,e=.panicked ch/\Z ch w''
 | _=>False
theorem z1i {R:Value->World->Prop} {Z:List PanicEntry->World->Prop} {x:Result Next} (h:zbi P R x):zsb P R Z x:=by
 cases x with
 | ok n w =>
  cases n <;> simp only [zbi,zsb] at h ⊢
  ·exact h
  ·exact h
  ·exact h.mono fun e w' h=>.inl h
 | halt y w=>exact h
theorem zrc {o:Oper} {a:Act} {w:World} {R:Value->World->Prop} {Z:List PanicEntry->World->Prop} {K:Act->World->Prop}
  (h:zsb P R Z ((execOp a.eval o).run P w)) (hK:∀ v w',R v w'->K (a.put o.dst v) w') (hZ:∀ ch w',Z ch w'->Q (.panic ch) a w'):o.wp P a w K Q:=by
 unfold Oper.wp;generalize (execOp a.eval o).run P w=r at *
 cases r with
 | ok n w' =>
  cases n <;> simp only [zsb] at h <;> simp only [Oper.upon]
  case value v=>exact hK _ _ h
  case skip=>exact hK _ _ h
  case enter f args =>
   refine h.mono fun e w'' h=>?_
   rcases h with ⟨v,he,hr⟩|⟨ch,he,hz⟩
   ·subst he;exact hK _ _ hr
   ·subst he;exact hZ _ _ hz
 | halt x w'=>simp only [zsb] at h
theorem zue (J:Array Bool->Act->World->Prop) (k r:Nat) (hB:rgB ops k r=true) (hk:k<=ops.size)
  (hstep:∀ (listed:Array Bool) (a:Act) (w:World) (i:Nat) (o:Oper),J listed a w->listed.size=ops.size->(∀ d ∈ zau ops i,listed.getD d false=true)->ops[i]?=some o->i < k->listed.getD i false=false →
   (if Region.wanted o (zdi ops a.eval) then zsb P (fun v w'=>J (listed.setIfInBounds i true) (a.put o.dst v) w') (fun ch w'=>Q (.panic ch) a w') ((execOp a.eval o).run P w) else J (listed.setIfInBounds i true) (a.put o.dst undef) w))
  (hend:∀ (listed:Array Bool) (a:Act) (w:World),J listed a w->(∀ i,i < k->listed.getD i false=true)->wpList P ops Q (ops.toList.drop k) a w) :
  ∀ (m:Nat) (listed:Array Bool) (a:Act) (w:World),J listed a w->listed.size=ops.size->(∀ i,listed.getD i false=true->∀ d ∈ zau ops i,listed.getD d false=true)->(∀ i,k<=i->listed.getD i false=false) →
   ((List.range k).filter fun i=>!listed.getD i false).length=m->wpAny P .any ops Q (m + (ops.size - k)) listed a w:=by
 simp only [rgB,bAT,lAT,lMR,decide_eq_true_eq,Bool.or_eq_true,List.contains_iff_mem] at hB;obtain ⟨⟨hB1,hB2⟩,hB3⟩:=hB;have hback:∀ i d,d ∈ zau ops i->d < i:=fun i d hd=>by
  rcases Nat.lt_or_ge i ops.size with h|h
  ·exact hB1 i h d hd
  ·simp [zau,Array.getElem?_eq_none h] at hd
 have htail:∀ j,k<=j->j < ops.size->∀ i,i < j->i ∈ zfy ops r (zau ops j):=fun j hkj hj i hi=>by
  rcases hB2 j hj with h|h
  ·omega
  ·exact h i hi
 intro m
 induction m with
 | zero =>
  intro listed a w hJ hls hcl hu hm;have hall:∀ i,i < k->listed.getD i false=true:=fun i hi=>by
   have h0:=List.eq_nil_of_length_eq_zero hm
   have:=List.eq_nil_iff_forall_not_mem.1 h0 i
   simp only [List.mem_filter,lMR,not_and,Bool.not_eq_true',Bool.not_eq_false] at this;exact this hi
  exact zj6 hback r k htail (ops.size - k) k listed a w (nR _) (by omega) hls hall (fun i h1 _=>hu i h1) hcl (hend listed a w hJ hall) _ (by omega)
 | succ m ih =>
  intro listed a w hJ hls hcl hu hm;obtain ⟨i0,hi0,hun0⟩:∃ i,i < k/\listed.getD i false=false:=by
   cases hf:(List.range k).filter fun i=>!listed.getD i false with
   | nil=>rw [hf] at hm;simp at hm
   | cons x xs =>
    have hx:x ∈ (List.range k).filter fun i=>!listed.getD i false:=by rw [hf];simp
    simp only [List.mem_filter,lMR,Bool.not_eq_true'] at hx;exact ⟨x,hx.1,hx.2⟩
  have hfu:m + 1 + (ops.size - k)=(m + (ops.size - k)) + 1:=by omega
  rw [hfu];refine ⟨fun h0=>?_,fun i hi=>?_⟩
  ·obtain ⟨i,_,hi⟩:=zfo hback hls i0 i0 (nR _) (by omega) hun0
   rw [h0] at hi
   cases hi
  ·obtain ⟨hun,o,ho,_⟩:=mem_ready.1 hi;have hilt:=(Array.getElem?_eq_some_iff.1 ho).1;obtain ⟨hunf,hil⟩:=zbp hun;have hik:i < k:=by
    rcases Nat.lt_or_ge i k with h|h
    ·exact h
    ·have:=zc2 hcl r _ (zbq hi) i0 (htail i h hilt i0 (by omega))
     rw [hun0] at this
     cases this
   have hs:=hstep listed a w i o hJ hls (zbq hi) ho hik hunf;have hcount:((List.range k).filter fun x=>!(listed.setIfInBounds i true).getD x false).length=m:=by
    have h1:((List.range k).filter fun x=>!(listed.setIfInBounds i true).getD x false)=((List.range k).filter fun x=>!listed.getD x false).erase i:=by
     have hnd:((List.range k).filter fun x=>!listed.getD x false).Nodup:=List.Pairwise.filter _ List.nodup_range
     rw [List.Nodup.erase_eq_filter hnd,List.filter_filter];refine List.filter_congr fun x _=>?_
     by_cases hxi:i=x
     ·subst hxi;rw [za9 hil];simp
     ·rw [getD_set_ne false hxi]
      have:(x != i)=true:=by simp;omega
      rw [this,Bool.true_and]
    rw [h1,List.length_erase_of_mem]
    ·omega
    ·simp only [List.mem_filter,lMR,Bool.not_eq_true'];exact ⟨hik,hunf⟩
   have hu':∀ x,k<=x->(listed.setIfInBounds i true).getD x false=false:=fun x hx=>by
    rw [getD_set_ne false (by omega)];exact hu x hx
   have hcl':∀ x,(listed.setIfInBounds i true).getD x false=true->∀ d ∈ zau ops x,(listed.setIfInBounds i true).getD d false=true:=fun x hx d hd=>by
    by_cases hxi:i=x
    ·subst hxi;exact getD_set_true (zbq hi d hd)
    ·rw [getD_set_ne false hxi] at hx;exact getD_set_true (hcl x hx d hd)
   unfold wpOp;simp only [ho];rw [zdc]
   split
   ·rename_i hw;rw [if_pos hw] at hs;exact .inl (zrc hs (fun v w' hv=>ih _ _ _ hv (by simpa using hls) hcl' hu' hcount) (fun ch w' hz=>hz))
   ·rename_i hw;rw [if_neg hw] at hs;exact ih _ _ _ hs (by simpa using hls) hcl' hu' hcount
theorem zm3 {id:Nat} {l:List Oper} {a:Act} {w:World} (k r:Nat) (J:Array Bool->Act->World->Prop)
  (hm:P.follows .mixedOrders=true) (hB:rgB l.toArray k r=true) (hk:k<=l.length) (h0:J (Array.replicate l.length false) a w.drew)
  (hstep:∀ (listed:Array Bool) (a:Act) (w:World) (i:Nat) (o:Oper),J listed a w->listed.size=l.length->(∀ d ∈ zau l.toArray i,listed.getD d false=true)->l[i]?=some o->i < k->listed.getD i false=false →
   (if Region.wanted o (zdi l.toArray a.eval) then zsb P (fun v w'=>J (listed.setIfInBounds i true) (a.put o.dst v) w') (fun ch w'=>Q (.panic ch) a w') ((execOp a.eval o).run P w) else J (listed.setIfInBounds i true) (a.put o.dst undef) w))
  (hend:∀ (listed:Array Bool) (a:Act) (w:World),J listed a w->(∀ i,i < k->listed.getD i false=true)->wpList P l.toArray Q (l.drop k) a w) :
  (Code.region id l.toArray true).wp P Q a w:=by
 refine wp_region_any hm ?_;have hnot:∀ n i,(Array.replicate n false).getD i false=false:=fun n i=>by
  by_cases h:i < n <;> simp [h]
 have hsz:l.toArray.size=k + (l.toArray.size - k):=by simp;omega
 have hsz2:l.toArray.size=l.length:=by simp
 have hall:=zue (P:=P) (ops:=l.toArray) (Q:=Q) J k r hB (by simpa using hk) (fun listed a w i o hJ hls hd ho hik hun=>hstep listed a w i o hJ (by simpa using hls) hd (by simpa using ho) hik hun) (fun listed a w hJ hl=>by simpa using hend listed a w hJ hl)
  k (Array.replicate l.length false) a w.drew h0 (by simp) (fun i h=>by rw [hnot] at h;cases h) (fun i _=>hnot _ i) (by
   have:((List.range k).filter fun i=>!(Array.replicate l.length false).getD i false)=List.range k:=by
    rw [List.filter_eq_self];intro i _;rw [hnot];rfl
   rw [this];simp)
 rw [hsz2] at hsz ⊢;rw [hsz2] at hall;rw [<-hsz] at hall;exact hall
end
inductive APan (P:Program) (G:World->Prop) (f:FuncId) (ls:List AV) (H:AH) (K:List PanicEntry->AH->Prop):Prop
 | mk (σ:List Nat) (cs:List AV) (Hc:AH) (r:AV) (Hc':AH) (h:zd4 P G f cs Hc r Hc') (hc:ls=AV.ren.renL (ze4 σ H.length) cs) (hb:z0v σ H Hc cs=true)
  (hp:σ.map (fun l=>zhb (H.getD l none))=Hc.map (zpp (ze4 σ H.length) none)) (ch:List PanicEntry) (hr:r.panOf=some ch) (k:K ch (zg8 σ H Hc'))
def z5t (P:Program) (G:World->Prop) (E:SO) (T:TT) (all:List Oper) (m:Nat) (lo:Nat->Nat) (k:Nat) (e0:List AV) (H:AH) (Q:Exit->List AV->AH->Prop):Prop :=
 zik P G E T [m] lo 0 [] H k 0 all e0 [] fun env _=>(match all[m]? with
  | some o=>(match o.op with
   | .call c=>(match c.callee with
    | .value (.func f)=>APan P G f (c.args.toList.map (aev env)) H fun ch H'=>Q (.panic ch) (e0.map fun _=>AV.junk) H'
    | _=>False)
   | _=>False)
  | none=>False)
section
variable {P:Program} {G:World->Prop} {T:TT} {w0:Base} {B:Nat->Prop} {nt:Nat}
theorem zsl (hT:TOk P T) (hG0:∀ w,GrX w0 w->G w) (hB0:∀ b,w0.own b->B b) (hm:P.follows .mixedOrders=true) {id:Nat} {all:List Oper} {k:Nat} {m0:Nat} {lo:Nat->Nat} (hpd:∀ o ∈ all,∀ t,o.dst=some t->w0.pin t=none) (hok:zfc nt all k [m0] lo=true) {Q:Exit->List AV->AH->Prop} {env0:List AV} {H:AH} {a:Act} {w:World}
  (h:z5t P G zas T all m0 lo k env0 H Q) (hS:St w0 B nt env0 H a w) :
  (Code.region id all.toArray true).wp P (zj4 w0 B nt Q) a w:=by
 obtain ⟨hd0,hn0,hp0,ι,hR0,hE0⟩:=hS;have hlen0:env0.length=nt:=by rw [hE0.len];exact hn0
 unfold zfc at hok;simp only [bAT,decide_eq_true_eq] at hok;obtain ⟨⟨⟨⟨hrg,hkl⟩,hdst⟩,hops⟩,hchain⟩:=hok;have hdlt:∀ (i:Nat) (o:Oper) (t:Tmp),all[i]?=some o->o.dst=some t->t < env0.length:=fun i o t ho ht=>by
  have:=List.all_eq_true.1 hdst o (List.mem_of_getElem? ho)
  rw [ht] at this;rw [hlen0];simpa using this
 rw [lAT] at hops;have hopOk:∀ i o,i < k->all[i]?=some o->zrw all k [m0] lo i o=true:=fun i o hi ho=>by
  have:=hops i (List.mem_range.2 hi)
  rw [ho] at this;exact this
 unfold zsh at hchain;rw [lAT] at hchain;have hch:∀ (j m:Nat),[m0][j]?=some m->m < k/\lo m=j + 1/\∀ j' m',j=j' + 1->[m0][j']?=some m'->m' ∈ zau all.toArray m:=fun j m hj=>by
  have hjl:=(List.getElem?_eq_some_iff.1 hj).1
  have:=hchain j (List.mem_range.2 hjl)
  rw [hj] at this;simp only [bAT] at this;obtain ⟨⟨h1,h2⟩,h3⟩:=this;refine ⟨by have:=Nat.le_of_ble_eq_true h1;omega,Nat.eq_of_beq_eq_true h2,fun j' m' e hm'=>?_⟩
  subst e;simp only [hm'] at h3;simpa using h3
 unfold z5t at h;obtain ⟨avs,hK,hF⟩:=zia (all:=all) hT (fun _ _=>trivial) k 0 env0 [] _ (by omega) (by simpa using h)
 have hpan:∃ om c f,all[m0]?=some om/\om.op=.call c/\c.callee=.value (.func f)/\APan P G f (c.args.toList.map (aev (zam all avs 0 k env0))) H fun ch H'=>Q (.panic ch) (env0.map fun _=>AV.junk) H':=by
  split at hK
  ·rename_i om hom
   split at hK
   ·rename_i c hc
    split at hK
    ·rename_i f hf;exact ⟨om,c,f,hom,hc,hf,hK⟩
    ·cases hK
   ·cases hK
  ·cases hK
 obtain ⟨V,Hs,es,e1,e2,hesl,hq,hpan⟩:∃ (V:Nat->Nat->AV) (Hs:Nat->AH) (es:Nat->List AV),Hs 0=H/\es 0=env0/\(∀ r,r<=[m0].length->(es r).length=env0.length)/\(∀ i o,i < k->all[i]?=some o->lo i<=0->inM i [m0]=false->QS P G o (zam all (V 0) 0 i (es 0)) (Hs 0) (V 0 i)) ∧
   ∃ om c f,all[m0]?=some om/\om.op=.call c/\c.callee=.value (.func f)/\APan P G f (c.args.toList.map (aev (zam all (V 0) 0 k (es 0)))) (Hs 0) fun ch H'=>Q (.panic ch) (env0.map fun _=>AV.junk) H' :=
  ⟨fun _=>avs,fun _=>H,fun _=>env0,rfl,rfl,fun _ _=>rfl,fun i o hi ho hl hin=>by
   have:=hF i o hi (by rw [Nat.zero_add];exact ho) (by rw [Nat.zero_add];exact hl) (by rw [Nat.zero_add];exact hin)
   rw [Nat.zero_add] at this;exact this,hpan⟩
 have hdis:∀ (i j:Nat) (oi oj:Oper) (t:Tmp),all[i]?=some oi->all[j]?=some oj->i ≠ j->oi.dst=some t->oj.dst ≠ some t:=by
  have hB:=hrg;simp only [rgB,bAT,lAT,lMR,decide_eq_true_eq,Bool.or_eq_true] at hB;intro i j oi oj t hi hj hne hti htj;have hil:=(List.getElem?_eq_some_iff.1 hi).1;have hjl:=(List.getElem?_eq_some_iff.1 hj).1
  rcases hB.2 i (by simpa using hil) j (by simpa using hjl) with hh|hh
  ·rcases hh with hh|hh
   ·exact hne hh
   ·simp [hi,hti] at hh
  ·simp [hi,hj,hti,htj] at hh
 have hback:∀ i d,d ∈ zau all.toArray i->d < i:=fun i d hd=>by
  have hB:=hrg;simp only [rgB,bAT,lAT,lMR,decide_eq_true_eq] at hB
  rcases Nat.lt_or_ge i all.toArray.size with h|h
  ·exact hB.1.1 i h d hd
  ·simp [zau,Array.getElem?_eq_none h] at hd
 have hopd:∀ (listed:Array Bool) (a:Act) (w:World) (r:Nat) (ι:Pl) (i q:Nat) (o:Oper),JM all k [m0] lo w0 B env0.length V Hs es listed a w r ι->(∀ d ∈ zau all.toArray i,listed.getD d false=true)->all[i]?=some o->i < k->i<=q->q<=k →
   ∀ x,x ∈ o.op.operands->Rep w ι (Rd B ι (Hs r)) (aev (zam all (V r) 0 q (es r)) x) (a.eval x):=by
  intro listed a w r ι i q o hJ hdeps ho hik hiq hqk x hx;have hopk:=hopOk i o hik ho;unfold zrw at hopk;simp only [bAT] at hopk;have hx':=(Array.all_eq_true_iff_forall_mem.1 hopk.1.1) x hx
  cases x with
  | const v=>exact .p _ _ (zol _ _ _)
  | global g=>exact .p _ _ (.v _)
  | func f=>exact .p _ _ (.v _)
  | tmp t =>
   simp only [Bool.or_eq_true] at hx'
   rcases hx' with hfree|hdep
   ·have he:(zam all (V r) 0 q (es r))[t]?=(es r)[t]?:=zdf q (es r) fun j hj=>zh2 hfree (by omega)
    have hr:=hJ.rest t fun j oj hj hjk _=>by
     have:=zh2 hfree hjk
     rw [hj] at this;simpa using this
    have e1:aev (zam all (V r) 0 q (es r)) (.tmp t)=aev (es r) (.tmp t):=by
     simp only [aev,List.getD_eq_getElem?_getD,he]
    rw [e1];exact hr
   ·rw [List.any_eq_true] at hdep;obtain ⟨d,hdm,hdt⟩:=hdep;have hdt':(all[d]?).bind (·.dst)=some t:=by simpa using hdt
    cases hdo:all[d]? with
    | none=>rw [hdo] at hdt';cases hdt'
    | some od =>
     have hdst:od.dst=some t:=by rw [hdo] at hdt';simpa using hdt'
     have hdi:=hback i d hdm;have hl:=hdeps d hdm
     rcases Nat.lt_or_ge t env0.length with htl|htl
     ·have he:(zam all (V r) 0 q (es r))[t]?=some (V r d):=zee hdt' q (es r) (by omega) (by rw [hesl r hJ.le];exact htl) fun j hj hjd=>by
       cases hjo:all[j]? with
       | none=>simp
       | some oj=>simpa using hdis d j od oj t hdo hjo (Ne.symm hjd) hdst
      have e1:aev (zam all (V r) 0 q (es r)) (.tmp t)=V r d:=by simp only [aev,List.getD_eq_getElem?_getD,he];rfl
      rw [e1];exact hJ.vals d od t hdo (by omega) hl hdst
     ·exact absurd (hdlt d od t hdo hdst) (Nat.not_lt.2 htl)
 refine zm3 k 8 (fun listed a w=>∃ ι,JM all k [m0] lo w0 B env0.length V Hs es listed a w 0 ι) hm hrg hkl ?_ ?_ ?_
 ·
  have hnot:∀ i,(Array.replicate all.length false).getD i false=false:=fun i=>by by_cases h:i < all.length <;> simp [h]
  have hg:Gr w w.drew:=(Below.refl _ _).drew;refine ⟨ι,hd0,by rw [hlen0];exact hn0,hp0,Nat.zero_le _,fun j m _=>⟨(fun hh=>by rw [hnot] at hh;cases hh),fun hh=>by omega⟩,(fun i _ hl=>by rw [hnot] at hl;cases hl),(by rw [e1];exact hR0.grow hg),(fun i o t _ _ hl=>by rw [hnot] at hl;cases hl),fun t _=>?_⟩
  rw [e1,e2];exact (hE0.eval (.tmp t)).keep0 (Keeps.gr hg)
 ·
  rintro listed a' w' i o ⟨ι,hJ⟩ hls hdeps ho hik hun
  have hGw:G w':=hG0 _ hJ.rel.gr;have hfun:∀ f,a'.eval (.func f)=.func (.func f) #[] #[]:=fun _=>rfl
  have hopk:=hopOk i o hik ho;unfold zrw at hopk;simp only [bAT] at hopk;have hgd:o.guard=none:=by simpa using hopk.1.2
  rw [if_pos (by simp [Region.wanted,hgd])]
  have hil:i < listed.size:=by rw [hls];exact (List.getElem?_eq_some_iff.1 ho).1
  have hset:∀ x,x ≠ i->(listed.setIfInBounds i true).getD x false=listed.getD x false:=fun x hx=>getD_set_ne false (Ne.symm hx)
  cases hin:inM i [m0] with
  | true =>
   have him:i=m0:=by
    obtain ⟨j,hj⟩:=zr9 hin
    cases j with
    | zero=>simpa using hj.symm
    | succ j=>simp at hj
   subst him;obtain ⟨om,c,f,hom,hoc,hcf,σ,cs,Hc,r,Hc',hr,hcs,hb,hp,ch,hpn,kq⟩:=hpan;rw [ho] at hom
   cases hom
   have hC:Can G w0 B w' ι (Hs 0):=⟨fun w2 hg=>hG0 w2 ⟨hg.os.trans hJ.rel.gr.os,hg.tape.trans hJ.rel.gr.tape,hg.output.trans hJ.rel.gr.output,Nat.le_trans hJ.rel.size hg.size,fun k hk hx=>by
    have:=hJ.rel.size
    rw [hg.block k (by change k < w'.heap.size;omega) fun ho=>by rcases hJ.rel.ge ho with h|h <;> first|exact hx h|omega]
    exact hJ.rel.gr.block k hk hx⟩,hB0⟩
   have hρ:=hopd listed a' w' 0 ι i k o hJ hdeps ho hik (by omega) (nR _)
   have hops2:∀ x,x ∈ c.args->x ∈ o.op.operands:=fun x hx=>by rw [hoc];simp [Op.operands,Call.operands,hcf,hx]
   have hexec:(execOp a'.eval o).run P w'=.ok (.enter f (c.args.map a'.eval)) w':=by
    simp only [execOp,hoc,resolve,hcf,hfun,Deferred.ofValue,Sem.run_bind,Sem.run_pure,Result.andThen_ok,invoke]
    have:=hr.1 (#[]++c.args.map a'.eval++#[]) w'
    simpa using this
   rw [hexec];show Calls P f (c.args.map a'.eval) w' _;unfold z0v at hb;simp only [bAT] at hb;obtain ⟨⟨⟨hb1,hb2⟩,hb3⟩,hb4⟩:=hb;have hl:cs.length=(c.args.toList.map a'.eval).length:=by
    have:=congrArg List.length hcs
    rw [zb4] at this;simpa using this.symm
   have hmc:=zis hJ.rel hC hr hb1 (Nat.eq_of_beq_eq_true hb2) hp hb3 hb4 hl fun j x v hx hv=>by
    rw [List.getElem?_map] at hv
    cases hy:c.args.toList[j]? with
    | none=>rw [hy] at hv;cases hv
    | some y =>
     rw [hy] at hv;cases hv
     have h1:(c.args.toList.map (aev (zam all (V 0) 0 k (es 0))))[j]?=some (aev (zam all (V 0) 0 k (es 0)) y):=by rw [List.getElem?_map,hy];rfl
     rw [hcs,zc5,hx] at h1;have h2:=Option.some.inj h1;rw [h2];exact hρ y (hops2 y (by have:=List.mem_of_getElem? hy;simpa using this))
   have e:(c.args.toList.map a'.eval).toArray=c.args.map a'.eval:=by
    apply Array.toList_inj.1;simp
   rw [e] at hmc;refine hmc.mono fun e w2 ⟨ι',h1,h2,h3⟩=>?_
   rcases zes h3 with ⟨ch2,h4,h5⟩|⟨h4,v,_,_⟩
   ·rw [zfd,hpn] at h4
    cases h4
    exact .inr ⟨ch,h5,_,_,kq,hJ.defers,by rw [hJ.size];exact hlen0,hJ.pin,ι',h1,by rw [lLM];exact hJ.size.symm,fun t x v hx _=>by
     rw [List.getElem?_map] at hx
     cases hz:env0[t]? with
     | none=>rw [hz] at hx;cases hx
     | some z=>rw [hz] at hx;cases hx;exact .junk v⟩
   ·rw [zfd,hpn] at h4
    cases h4
  | false =>
   have hlo:lo i<=0:=by
    have h3:=hopk.2;rw [hin] at h3;simp only [Bool.or_eq_true,Bool.false_eq_true,false_or] at h3
    rcases h3 with h3|h3
    ·have:=Nat.eq_of_beq_eq_true h3
     omega
    ·rw [List.any_eq_true] at h3;obtain ⟨d,hd,hle⟩:=h3;have h4:=hJ.lok d (by have:=hback i d hd;omega) (hdeps d hd)
     have:=Nat.le_of_ble_eq_true hle
     omega
   have hQ:=hq i o hik ho hlo hin w0 B w' ι a'.eval hJ.rel hGw (hopd listed a' w' 0 ι i i o hJ hdeps ho hik (nR _) (by omega)) hfun
   refine z1i (zml (fun v w2 hv=>?_) hQ)
   obtain ⟨hg,hrv⟩:=hv;have hkp:Keeps none w' ι (Rd B ι (Hs 0)) w2 ι (Rd B ι (Hs 0)):=Keeps.gr hg;refine ⟨ι,by rw [zbw];exact hJ.defers,by rw [zc6];exact hJ.size,zd8 hJ.pin (hpd o (List.mem_of_getElem? ho)) _,hJ.le,fun j2 m2 hj2=>?_,fun x hx hl=>?_,hJ.rel.grow hg,fun x ox t hox hxk hxl hxd=>?_,fun t ht=>?_⟩
   ·have em:m2 ≠ i:=fun e=>by
     subst e;rw [zyf hj2] at hin
     cases hin
    rw [hset m2 em];exact hJ.pre j2 m2 hj2
   ·by_cases ex:x=i
    ·subst ex;exact hlo
    ·rw [hset x ex] at hl;exact hJ.lok x hx hl
   ·by_cases ex:x=i
    ·subst ex;rw [ho] at hox;cases hox
     rw [hxd,zdt (by rw [hJ.size];exact hdlt x o t ho hxd)]
     exact hrv
    ·rw [hset x ex] at hxl;rw [zbt (hdis x i ox o t hox ho ex hxd)];exact (hJ.vals x ox t hox hxk hxl hxd).keep0 hkp
   ·have hne:o.dst ≠ some t:=ht i o ho hik (za9 hil);rw [zbt hne];exact (hJ.rest t fun x ox hox hxk hxl=>ht x ox hox hxk (getD_set_true hxl)).keep0 hkp
 ·
  rintro listed a' w' ⟨ι,hJ⟩ hall
  have h1:=(hJ.pre 0 m0 rfl).1 (hall m0 (hch 0 m0 rfl).1);omega
end
/- Own work: a region that draws its order,walked in each of its orders. -/
def aop1 (P:Program) (G:World->Prop) (E:SO) (T:TT) (all:List Oper) (o:Oper) (env:List AV) (H:AH) (K:List AV->AH->Prop) (Q:Exit->List AV->AH->Prop):Prop :=
 match o.guard with
 | none=>zg2 P G E T o env H K Q
 | some (j,want)=>(match z5g all env j with
  | some b=>(match zqk want b with
   | true=>zg2 P G E T o env H K Q
   | false=>K (zj3 env o.dst (.p (.v undef))) H)
  | none=>False)
def z4r (i:Nat):List Nat->Bool
 | []=>false
 | x :: l=>Nat.beq i x || z4r i l
def z50:List Nat->List Nat->Bool
 | [],_=>true
 | x :: l,done=>z4r x done && z50 l done
def rdy (done:List Nat):Nat->List (List Nat)->List Nat
 | _,[]=>[]
 | i,d :: ds=>(match !z4r i done && z50 d done with
  | true=>i :: rdy done (i + 1) ds
  | false=>rdy done (i + 1) ds)
def allR (f:Nat->Prop):List Nat->Prop
 | []=>True
 | [i]=>f i
 | i :: j :: is=>f i/\allR f (j :: is)
def ziv (ops:List Oper):List (List Nat):=(List.range ops.length).map (zau ops.toArray)
def z5v (P:Program) (G:World->Prop) (E:SO) (T:TT) (all:List Oper) (ds:List (List Nat)) (Q:Exit->List AV->AH->Prop):Nat->List Nat->List AV->AH->Prop
 | 0,done,env,H=>(match rdy done 0 ds with
  | []=>Q .normal env H
  | _ :: _=>False)
 | n + 1,done,env,H=>(match rdy done 0 ds with
  | []=>Q .normal env H
  | i :: is=>allR (fun i=>match all[i]? with
   | some o=>aop1 P G E T all o env H (fun env' H'=>z5v P G E T all ds Q n (i :: done) env' H') Q
   | none=>False) (i :: is))
theorem zom {i:Nat}:∀ {l:List Nat},z4r i l=true ↔ i ∈ l
 | []=>by simp [z4r]
 | x :: l=>by
  rw [z4r,Bool.or_eq_true,zom,List.mem_cons]
  have:(Nat.beq i x=true ↔ i=x):=by rw [Nat.beq_eq]
  rw [this]
theorem zs3 {done:List Nat}:∀ {l:List Nat},z50 l done=true ↔ ∀ x ∈ l,x ∈ done
 | []=>by simp [z50]
 | x :: l=>by simp [z50,zom,zs3]
theorem zxm {done:List Nat} {j:Nat}:∀ {k:Nat} {ds:List (List Nat)},j ∈ rdy done k ds ↔ ∃ d,k<=j/\ds[j - k]?=some d/\j ∉ done/\∀ x ∈ d,x ∈ done
 | k,[]=>by simp [rdy]
 | k,d :: ds=>by
  have ih:=zxm (done:=done) (j:=j) (k:=k + 1) (ds:=ds);have hstep:(∃ d',k<=j/\(d :: ds)[j - k]?=some d'/\j ∉ done/\∀ x ∈ d',x ∈ done) ↔ (j=k/\j ∉ done/\∀ x ∈ d,x ∈ done)\/∃ d',k + 1<=j/\ds[j - (k + 1)]?=some d'/\j ∉ done/\∀ x ∈ d',x ∈ done:=by
   constructor
   ·rintro ⟨d',h1,h2,h3⟩
    rcases Nat.eq_or_lt_of_le h1 with e|h
    ·subst e;rw [Nat.sub_self] at h2
     cases h2
     exact .inl ⟨rfl,h3⟩
    ·refine .inr ⟨d',h,?_,h3⟩;rw [show j - k=(j - (k + 1)) + 1 by omega] at h2
     simpa using h2
   ·rintro (⟨e,h⟩|⟨d',h1,h2,h3⟩)
    ·subst e;exact ⟨d,nR _,by rw [Nat.sub_self];rfl,h⟩
    ·refine ⟨d',by omega,?_,h3⟩
     rw [show j - k=(j - (k + 1)) + 1 by omega]
     simpa using h2
  rw [hstep,<- ih];have hc:(!z4r k done && z50 d done)=true ↔ k ∉ done/\∀ x ∈ d,x ∈ done:=by
   rw [bAT,zs3,Bool.not_eq_true',<- Bool.not_eq_true,zom]
  rw [rdy]
  split
  ·rename_i e;have e':=hc.1 e
   constructor
   ·intro h
    rcases List.mem_cons.1 h with rfl|h
    ·exact .inl ⟨rfl,e'⟩
    ·exact .inr h
   ·rintro (⟨rfl,_⟩|h)
    ·exact List.mem_cons_self ..
    ·exact List.mem_cons_of_mem _ h
  ·rename_i e
   constructor
   ·exact .inr
   ·rintro (⟨rfl,h⟩|h)
    ·rw [hc.2 h] at e;cases e
    ·exact h
theorem zud {f:Nat->Prop}:∀ {l:List Nat},allR f l->∀ i ∈ l,f i
 | [],_,i,hi=>by cases hi
 | [x],h,i,hi=>by
  rcases List.mem_singleton.1 hi with rfl
  exact h
 | x :: y :: l,h,i,hi=>by
  rcases List.mem_cons.1 hi with rfl|hi
  ·exact h.1
  ·exact zud h.2 i hi
section
variable {P:Program} {G:World->Prop} {T:TT} {w0:Base} {B:Nat->Prop} {nt:Nat}
theorem zms {ops:List Oper} {j:Nat} {d:List Nat}:(ziv ops)[j]?=some d ↔ j < ops.length/\d=zau ops.toArray j:=by
 unfold ziv;rw [List.getElem?_map]
 rcases Nat.lt_or_ge j ops.length with h|h
 ·rw [List.getElem?_range h];simp [h,eq_comm]
 ·rw [List.getElem?_eq_none (by simpa using h)]
  simp;omega
theorem zp6 {ops:List Oper} {listed:Array Bool} {done:List Nat} (hs:listed.size=ops.length) (hl:∀ i,listed.getD i false=true ↔ i ∈ done) (j:Nat):j ∈ Region.ready .any ops.toArray listed ↔ j ∈ rdy done 0 (ziv ops):=by
 rw [zxm,mem_ready]
 constructor
 ·rintro ⟨h1,o,ho,h2⟩
  obtain ⟨h3,h4⟩:=zbp h1;refine ⟨_,Nat.zero_le _,by rw [Nat.sub_zero];exact zms.2 ⟨by rw [<-hs];exact h4,rfl⟩,fun hm=>?_,fun x hx=>?_⟩
  ·rw [(hl j).2 hm] at h3;cases h3
  ·unfold zau at hx;rw [ho] at hx;simp only [List.mem_map,List.mem_filter] at hx;obtain ⟨e,⟨he,hb⟩,rfl⟩:=hx;exact (hl _).1 (h2 e (by simpa using he) hb)
 ·rintro ⟨d,_,h1,h2,h3⟩
  rw [Nat.sub_zero] at h1;obtain ⟨h4,rfl⟩:=zms.1 h1;have hu:listed.getD j false=false:=by
   cases e:listed.getD j false with
   | false=>rfl
   | true=>exact absurd ((hl j).1 e) h2
  have h5:j < listed.size:=by rw [hs];exact h4
  refine ⟨by simpa [h5] using hu,ops[j],by simp [h4],fun e he hb=>(hl _).2 (h3 _ ?_)⟩
  have ho:ops.toArray[j]?=some ops[j]:=by simp [h4]
  unfold zau;rw [ho];simp only [List.mem_map,List.mem_filter];exact ⟨e,⟨by simpa using he,hb⟩,rfl⟩
theorem zkq (hT:TOk P T) (hG0:∀ w,GrX w0 w->G w) (hB0:∀ b,w0.own b->B b) {all:List Oper} {Q:Exit->List AV->AH->Prop} (hpd:∀ o ∈ all,∀ t,o.dst=some t->w0.pin t=none) :
  ∀ (n:Nat) (done:List Nat) (listed:Array Bool) (env:List AV) (H:AH) (a:Act) (w:World),listed.size=all.length->(∀ i,listed.getD i false=true ↔ i ∈ done)->z5v P G zas T all (ziv all) Q n done env H->St w0 B nt env H a w →
   wpAny P .any all.toArray (zj4 w0 B nt Q) n listed a w
 | 0,done,listed,env,H,a,w,hs,hl,h,hS=>by
  have key:=zp6 hs hl;unfold z5v at h;unfold wpAny
  split at h
  ·rename_i e;rw [e] at key;exact ⟨List.eq_nil_iff_forall_not_mem.2 fun j hj=>List.not_mem_nil ((key j).1 hj),env,H,h,hS⟩
  ·cases h
 | n + 1,done,listed,env,H,a,w,hs,hl,h,hS=>by
  have key:=zp6 hs hl;unfold z5v at h;unfold wpAny
  split at h
  ·rename_i e;rw [e] at key;exact ⟨fun _=>⟨env,H,h,hS⟩,fun j hj=>absurd ((key j).1 hj) List.not_mem_nil⟩
  ·rename_i i is e;refine ⟨fun e2=>?_,fun j hj=>?_⟩
   ·have hi:i ∈ Region.ready .any all.toArray listed:=(key i).2 (by rw [e];exact List.mem_cons_self ..)
    rw [e2] at hi
    cases hi
   ·have hj':=(key j).1 hj;rw [e] at hj';have h2:=zud h j hj';obtain ⟨h3,_⟩:=mem_ready.1 hj;obtain ⟨hun,hil⟩:=zbp h3;have hls':(listed.setIfInBounds j true).size=all.length:=by simpa using hs
    have hl':∀ x,(listed.setIfInBounds j true).getD x false=true ↔ x ∈ j :: done:=fun x=>by
     by_cases hx:j=x
     ·subst hx;rw [za9 hil];simp
     ·rw [getD_set_ne false hx,hl x,List.mem_cons]
      constructor
      ·exact .inr
      ·rintro (rfl|hm)
       ·exact absurd rfl hx
       ·exact hm
    unfold wpOp;simp only [List.getElem?_toArray]
    split at h2
    ·rename_i o ho;rw [ho];have hdst:=hpd o (List.mem_of_getElem? ho);have run:zg2 P G zas T o env H (fun env' H'=>z5v P G zas T all (ziv all) Q n (j :: done) env' H') Q->o.wp P a w (wpAny P .any all.toArray (zj4 w0 B nt Q) n (listed.setIfInBounds j true)) (zj4 w0 B nt Q):=fun h =>
      zhu hT hG0 hB0 hdst h hS fun env' H' a' w' hK hS'=>zkq hT hG0 hB0 hpd n (j :: done) _ env' H' a' w' hls' hl' hK hS'
     obtain ⟨hd,hn,hpins,ι,hR,hE⟩:=hS;unfold aop1 at h2;simp only
     split at h2
     ·rename_i hg;rw [if_pos (by simp [Region.wanted,hg])]
      exact .inl (run h2)
     ·rename_i j' want hg
      split at h2
      ·rename_i b hb;have hy:=zkj hb hE;rw [zdc]
       split at h2
       ·rename_i ht;rw [if_pos (by simp [Region.wanted,hg,hy,zh1 ht])]
        exact .inl (run h2)
       ·rename_i ht;rw [if_neg (by simpa [Region.wanted,hg,hy] using zgn ht)]
        refine zkq hT hG0 hB0 hpd n (j :: done) _ _ H _ w hls' hl' h2 ⟨by rw [zbw];exact hd,by rw [zc6];exact hn,zd8 hpins hdst _,ι,hR,?_⟩
        exact hE.put (sc:=none) (Keeps.gr (Gr.refl _)) (.p _ _ (.v _))
      ·cases h2
    ·cases h2
theorem St.drew {env:List AV} {H:AH} {a:Act} {w:World} (h:St w0 B nt env H a w):St w0 B nt env H a w.drew:=by
 obtain ⟨h1,h2,h3,ι,hR,hE⟩:=h;have hg:Gr w w.drew:=(Below.refl _ _).drew;exact ⟨h1,h2,h3,ι,hR.grow hg,hE.len,fun q x v hx hv=>(hE.at_ q x v hx hv).keep0 (Keeps.gr hg)⟩
theorem zsn (hT:TOk P T) (hG0:∀ w,GrX w0 w->G w) (hB0:∀ b,w0.own b->B b) (hm:P.follows .mixedOrders=true) {id:Nat} {all:List Oper} {Q:Exit->List AV->AH->Prop} (hpd:∀ o ∈ all,∀ t,o.dst=some t->w0.pin t=none) {env:List AV} {H:AH} {a:Act} {w:World}
  (h:z5v P G zas T all (ziv all) Q all.length [] env H) (hS:St w0 B nt env H a w):(Code.region id all.toArray true).wp P (zj4 w0 B nt Q) a w:=by
 refine wp_region_any hm ?_;have hnot:∀ n i,(Array.replicate n false).getD i false=false:=fun n i=>by
  by_cases h:i < n <;> simp [h]
 have:=zkq hT hG0 hB0 hpd all.length [] (Array.replicate all.length false) env H a w.drew (by simp) (fun i=>by rw [hnot];simp) h hS.drew
 simpa using this
end
/- Own work: the walk over values as data,for whole functions,with regions in which memory is changed by a chain of operations. -/
inductive FzW (env:List AV) (H:AH) (K:List AV->AH->Prop):Prop
 | mk (env':List AV) (H':AH) (hw:Wk env H env' H') (k:K env' H')
theorem MCall.z {P:Program} {G:World->Prop} {f:FuncId} {o:Oper} {env:List AV} {H:AH} {K:List AV->AH->Prop} {Q:Exit->List AV->AH->Prop} (σ:List Nat) {as:List AV} {Hc:AH} {r:AV} {Hc':AH} (h:zd4 P G f as Hc r Hc') (hc:zqu env o=some (f,AV.ren.renL (ze4 σ H.length) as)) (hb:z0v σ H Hc as=true)
  (hp:σ.map (fun l=>zhb (H.getD l none))=Hc.map (zpp (ze4 σ H.length) none))
  (k:match r.panOf with
   | some ch=>Q (.panic ch) (zde (some (zic σ H Hc')) env) (zg8 σ H Hc')
   | none=>K (zj3 (zde (some (zic σ H Hc')) env) o.dst (r.ren (ze4 σ H.length))) (zg8 σ H Hc')):MCall P G f o env H K Q:=.mk env H (Wk.refl _ _) σ as Hc r Hc' h hc hb hp k
def zld (P:Program) (G:World->Prop) (E:SO) (T:TT) (kOf:Nat->Nat) (mOf:Nat->List Nat) (lo:Nat->Nat->Nat):Code->(Exit->List AV->AH->Prop)->List AV->AH->Prop
 | .skip,Q,env,H=>Q .normal env H
 | .region id ops false,Q,env,H=>(match mOf id with
  | _ :: _=>FzW env H fun env H=>zmz P G E T ops.toList Q ops.toList env H
  | []=>zmz P G E T ops.toList Q ops.toList env H)
 | .region id ops true,Q,env,H=>(match mOf id with
   | []=>(match lo id 0 with
    | 0=>zm0 P G E T ops.toList H (kOf id) ops.toList env fun env1=>zgw T ops.toList (kOf id) env1 (kOf id) ops.toList env1 H fun env2 H2=>zmz P G E T ops.toList Q (ops.toList.drop (kOf id)) env2 H2
    | _ + 1=>z5v P G E T ops.toList (ziv ops.toList) Q ops.toList.length [] env H)
   | [m]=>zpf P G E T ops.toList [m] (lo id) (kOf id) [m] 0 [] [] env H (fun env2 H2=>zmz P G E T ops.toList Q (ops.toList.drop (kOf id)) env2 H2)\/z5t P G E T ops.toList m (lo id) (kOf id) env H Q
   | m :: m' :: Ms=>zpf P G E T ops.toList (m :: m' :: Ms) (lo id) (kOf id) (m :: m' :: Ms) 0 [] [] env H fun env2 H2=>zmz P G E T ops.toList Q (ops.toList.drop (kOf id)) env2 H2)
 | .seq a b,Q,env,H=>zld P G E T kOf mOf lo a (zce (zld P G E T kOf mOf lo b Q) Q) env H
 | .cond c a b,Q,env,H=>(match aev env c with
  | .p (.v (.bool x))=>(match x with
   | true=>zld P G E T kOf mOf lo a Q env H
   | false=>zld P G E T kOf mOf lo b Q env H)
  | _=>False)
 | .block id c,Q,env,H=>zld P G E T kOf mOf lo c (zet id Q) env H
 | .loop c,Q,env,H=>LoopA (zld P G E T kOf mOf lo c) Q env H
 | .exit id,Q,env,H=>Q (.exit id) env H
 | .ret,Q,env,H=>Q .ret env H
 | _,_,_,_=>False
def zb9 (nt:Nat) (kOf:Nat->Nat) (mOf:Nat->List Nat) (lo:Nat->Nat->Nat):Code->Bool
 | .region id ops draw=>!draw || (match mOf id with
  | []=>(match lo id 0 with
   | 0=>zli nt ops.toList (kOf id)
   | _ + 1=>true)
  | m :: Ms=>zfc nt ops.toList (kOf id) (m :: Ms) (lo id))
 | .seq a b=>zb9 nt kOf mOf lo a && zb9 nt kOf mOf lo b
 | .cond _ a b=>zb9 nt kOf mOf lo a && zb9 nt kOf mOf lo b
 | .block _ c=>zb9 nt kOf mOf lo c
 | .loop c=>zb9 nt kOf mOf lo c
 | _=>true
section
variable {P:Program} {G:World->Prop} {T:TT} {w0:Base} {B:Nat->Prop} {nt:Nat}
theorem zcl (hT:TOk P T) (hG0:∀ w,GrX w0 w->G w) (hB0:∀ b,w0.own b->B b) (hm:P.follows .mixedOrders=true) (kOf:Nat->Nat) (mOf:Nat->List Nat) (lo:Nat->Nat->Nat):∀ (c:Code),zq8 w0 c->zb9 nt kOf mOf lo c=true->∀ (Q:Exit->List AV->AH->Prop) (env:List AV) (H:AH) (a:Act) (w:World),zld P G zas T kOf mOf lo c Q env H->St w0 B nt env H a w->c.wp P (zj4 w0 B nt Q) a w
 | .skip,_,_,Q,env,H,a,w,h,hS=>wp_skip ⟨env,H,h,hS⟩
 | .region id ops false,hpk,hok,Q,env,H,a,w,h,hS=>by
  obtain ⟨l⟩:=ops;unfold zld at h
  split at h
  ·obtain ⟨env',H',hw,h⟩:=h;obtain ⟨ι,hR,hE⟩:=hS.rep;exact wp_region_list (zdg hT hG0 hB0 _ hpk env' H' a w h ⟨hS.defers,hS.size,hS.pin,hw w0 B w ι a.tmps hB0 hR hE⟩)
  ·exact wp_region_list (zdg hT hG0 hB0 _ hpk env H a w h hS)
 | .region id ops true,hpk,hok,Q,env,H,a,w,h,hS=>by
  obtain ⟨l⟩:=ops;unfold zld at h;simp only [zb9,Bool.not_true,Bool.false_or] at hok
  cases hm2:mOf id with
  | nil =>
   rw [hm2] at h hok
   cases hl:lo id 0 with
   | zero =>
    rw [hl] at h hok;exact zk9 hT hG0 hB0 hm hpk hok h hS
   | succ _ =>
    rw [hl] at h;exact zsn hT hG0 hB0 hm hpk h hS
  | cons m Ms =>
   cases Ms with
   | nil =>
    rw [hm2] at h hok
    rcases h with h|h
    ·exact ziy hT hG0 hB0 hm hpk hok h hS
    ·exact zsl hT hG0 hB0 hm hpk hok h hS
   | cons m' Ms =>
    rw [hm2] at h hok;exact ziy hT hG0 hB0 hm hpk hok h hS
 | .seq x y,hpk,hok,Q,env,H,a,w,h,hS=>by
  simp only [zb9,bAT] at hok;unfold zld at h;refine wp_seq (wp_mono (zcl hT hG0 hB0 hm kOf mOf lo x hpk.1 hok.1 _ env H a w h hS) ?_);exact zgb _ fun env H a w h hS=>zcl hT hG0 hB0 hm kOf mOf lo y hpk.2 hok.2 Q env H a w h hS
 | .cond c x y,hpk,hok,Q,env,H,a,w,h,hS=>by
  simp only [zb9,bAT] at hok;unfold zld at h
  split at h
  ·rename_i b e;obtain ⟨ι,hR,hE⟩:=hS.rep;have hc:=hE.eval c;rw [e] at hc;refine wp_cond_split (zbk hc) (fun hb=>?_) (fun hb=>?_)
   ·subst hb;exact zcl hT hG0 hB0 hm kOf mOf lo x hpk.1 hok.1 Q env H a w h hS
   ·subst hb;exact zcl hT hG0 hB0 hm kOf mOf lo y hpk.2 hok.2 Q env H a w h hS
  ·cases h
 | .block id c,hpk,hok,Q,env,H,a,w,h,hS=>by
  simp only [zb9] at hok;unfold zld at h;refine wp_block (wp_mono (zcl hT hG0 hB0 hm kOf mOf lo c hpk hok _ env H a w h hS) ?_)
  rintro e a w ⟨env,H,h,hS⟩
  cases e with
  | exit i =>
   simp only [zet] at h;simp only [Exit.inBlock]
   split at h
   ·rename_i e;rw [if_pos e];exact ⟨env,H,h,hS⟩
   ·rename_i e;rw [if_neg e];exact ⟨env,H,h,hS⟩
  | normal=>exact ⟨env,H,h,hS⟩
  | goto l=>exact ⟨env,H,h,hS⟩
  | ret=>exact ⟨env,H,h,hS⟩
  | panic c=>exact ⟨env,H,h,hS⟩
  | outgrown=>exact ⟨env,H,h,hS⟩
 | .loop c,hpk,hok,Q,env,H,a,w,h,hS=>by
  classical
  simp only [zb9] at hok;unfold zld at h;obtain ⟨I,N,⟨k1,env1,H1,hw1,hI1⟩,hN,hround⟩:=h;have hwk:∀ env H env' H' a w,Wk env H env' H'->St w0 B nt env H a w->St w0 B nt env' H' a w:=fun env H env' H' a w hw hS=>by
   obtain ⟨ι,hR,hE⟩:=hS.rep;exact ⟨hS.defers,hS.size,hS.pin,hw w0 B w ι a.tmps hB0 hR hE⟩
  have key:∃ f:Act->World->Nat,(∀ a w,(∃ k env H,I k env H/\St w0 B nt env H a w)->∃ env H,I (f a w) env H/\St w0 B nt env H a w)/\∀ a w k env H,I k env H->St w0 B nt env H a w->f a w<=k:=by
   refine ⟨fun a w=>if h:∃ n,∃ env H,I n env H/\St w0 B nt env H a w then Classical.choose (zor h) else 0,fun a w hex=>?_,fun a w k env H h1 h2=>?_⟩
   ·simp only [hex,dif_pos];exact (Classical.choose_spec (zor hex)).1
   ·have hex:∃ n,∃ env H,I n env H/\St w0 B nt env H a w:=⟨_,env,H,h1,h2⟩
    simp only [hex,dif_pos];exact (Classical.choose_spec (zor hex)).2 _ ⟨env,H,h1,h2⟩
  obtain ⟨f,hf1,hf2⟩:=key;refine wp_loop (fun a w=>∃ k env H,I k env H/\St w0 B nt env H a w) f ⟨k1,env1,H1,hI1,hwk _ _ _ _ a w hw1 hS⟩ fun a' w' hI=>?_
  obtain ⟨env2,H2,hI2,hS2⟩:=hf1 a' w' hI;refine wp_mono (zcl hT hG0 hB0 hm kOf mOf lo c hpk hok _ env2 H2 a' w' (hround _ env2 H2 hI2) hS2) ?_;refine zgb _ fun env3 H3 a3 w3 hn3 hS3=>?_
  obtain ⟨k4,env4,H4,hw4,hI4,hlt⟩:=hN _ _ _ hn3;have hS4:=hwk _ _ _ _ a3 w3 hw4 hS3;refine ⟨⟨k4,env4,H4,hI4,hS4⟩,?_⟩
  have:=hf2 a3 w3 k4 env4 H4 hI4 hS4
  omega
 | .exit id,_,_,Q,env,H,a,w,h,hS=>wp_exit ⟨env,H,h,hS⟩
 | .ret,_,_,Q,env,H,a,w,h,hS=>wp_ret ⟨env,H,h,hS⟩
 | .rangeFunc _ _ _ _,_,_,_,_,_,_,_,h,_=>h.elim
 | .scope _,_,_,_,_,_,_,_,h,_=>h.elim
 | .label _,_,_,_,_,_,_,_,h,_=>h.elim
 | .goto _,_,_,_,_,_,_,_,h,_=>h.elim
 | .refuse _,_,_,_,_,_,_,_,h,_=>h.elim
end
section
variable {P:Program} {G:World->Prop} {T:TT} {nt:Nat}
theorem Seg.ofM (hT:TOk P T) (hm:P.follows .mixedOrders=true) (kOf:Nat->Nat) (mOf:Nat->List Nat) (lo:Nat->Nat->Nat) {c:Code} (hok:zb9 nt kOf mOf lo c=true) (Q:SO->Exit->List AV->AH->Prop) {env:List AV} {H:AH}
  (h:∀ (P':Program) (G':World->Prop) (E:SO),(∀ f l r,Ret P G f l r->Ret P' G' f l r)->(∀ f as H r H',zd4 P G f as H r H'->zd4 P' G' f as H r H')->E=zas->zld P' G' E T kOf mOf lo c (Q E) env H):Seg P G nt c (Q zas) env H:=by
 intro w0 B hG hB hpk a w hS;exact zcl hT hG hB hm kOf mOf lo c hpk hok (Q zas) env H a w (h P G zas (fun _ _ _ h=>h) (fun _ _ _ _ _ h=>h) rfl) hS
theorem zmj (hT:TOk P T) (hm:P.follows .mixedOrders=true) {kOf:Nat->Nat} {mOf:Nat->List Nat} {lo:Nat->Nat->Nat} {w0:Base} {B:Nat->Prop} (hG:∀ w,GrX w0 w->G w) (hB:∀ b,w0.own b->B b) {R:List AV->AH->Prop} {Q:Exit->List AV->AH->Prop}:∀ (k:Nat) (c:Code),zq8 w0 c->zb9 nt kOf mOf lo (ze3 k c)=true->(∀ env H a w,R env H->St w0 B nt env H a w->(zlb k c).wp P (zj4 w0 B nt Q) a w) →
  ∀ (env:List AV) (H:AH) (a:Act) (w:World),zld P G zas T kOf mOf lo (ze3 k c) (zce R Q) env H->St w0 B nt env H a w->c.wp P (zj4 w0 B nt Q) a w
 | 0,c,_,_,hR,env,H,a,w,h,hS=>hR env H a w h hS
 | k + 1,c,hpk,hok,hR,env,H,a,w,h,hS=>by
  cases c with
  | seq x y =>
   simp only [ze3,zb9,bAT] at hok;unfold ze3 zld at h;refine wp_seq (wp_mono (zcl hT hG hB hm kOf mOf lo x hpk.1 hok.1 _ env H a w h hS) ?_)
   rintro e a w ⟨env,H,h,hS⟩
   cases e with
   | normal=>exact zmj hT hm hG hB k y hpk.2 hok.2 hR env H a w h hS
   | _=>exact ⟨env,H,h,hS⟩
  | _=>exact False.elim h
theorem Seg.cutKM {γ:Type} (k:Nat) (n:Nat) (live:List Nat) (m:Nat) (S:γ->List AV) (h:γ->AH) (I:γ->Prop) (hT:TOk P T) (hm:P.follows .mixedOrders=true) (kOf:Nat->Nat) (mOf:Nat->List Nat) (lo:Nat->Nat->Nat) {c:Code} (Q:SO->Exit->List AV->AH->Prop) {env:List AV} {H:AH} (hok:zb9 nt kOf mOf lo (ze3 k c)=true)
  (h1:∀ (P':Program) (G':World->Prop) (E:SO),(∀ f l r,Ret P G f l r->Ret P' G' f l r)->(∀ f as H r H',zd4 P G f as H r H'->zd4 P' G' f as H r H')->E=zas->zld P' G' E T kOf mOf lo (ze3 k c) (zce (CutIs n live m S h I) (Q E)) env H)
  (h2:∀ y,I y->Seg P G nt (zlb k c) (Q zas) (zbf live (S y) n 0) (h y)):Seg P G nt c (Q zas) env H:=by
 intro w0 B hG hB hpk a w hS;refine zmj hT hm hG hB k c hpk hok ?_ env H a w (h1 P G zas (fun _ _ _ h=>h) (fun _ _ _ _ _ h=>h) rfl) hS
 intro env1 H1 a1 w1 hc hS1
 cases hc with
 | mk y hh hI=>exact Seg.wk hh.wk (h2 y hI) w0 B hG hB (zfg k c hpk) a1 w1 hS1
 | wk y env2 H2 hw hh hI=>exact Seg.wk (hw.trans hh.wk) (h2 y hI) w0 B hG hB (zfg k c hpk) a1 w1 hS1
end
end Go.Proofs.YtcfecmeocimclaaGreatDoor
