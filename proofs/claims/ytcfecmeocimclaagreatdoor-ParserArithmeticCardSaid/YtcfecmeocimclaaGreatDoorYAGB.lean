/- Own work: what is forgotten of a state;values that are frozen;a call that is lent blocks of the walk's own. -/
import Derived.Test.YtcfecmeocimclaaGreatDoorYAA0
import Derived.Test.YtcfecmeocimclaaGreatDoorYAGA
namespace Go.Proofs.YtcfecmeocimclaaGreatDoor
set_option linter.unusedSectionVars false
open Go.RowKit
structure RepE (w:World) (ι:Pl) (R:Nat->Prop) (env:List AV) (tmps:Array Value):Prop where
 len:env.length=tmps.size
 at_:∀ (t:Nat) (a:AV) (v:Value),env[t]?=some a->tmps[t]?=some v->Rep w ι R a v
def Wk (env:List AV) (H:AH) (env':List AV) (H':AH):Prop :=
 ∀ (w0:Base) (B:Nat->Prop) (w:World) (ι:Pl) (tmps:Array Value),(∀ b,w0.own b->B b)->Rel w0 B w ι H->RepE w ι (Rd B ι H) env tmps->∃ ι',Rel w0 B w ι' H'/\RepE w ι' (Rd B ι' H') env' tmps
theorem Wk.refl (env:List AV) (H:AH):Wk env H env H:=fun _ _ _ ι _ _ hR hE=>⟨ι,hR,hE⟩
theorem Wk.trans {env env1 env2:List AV} {H H1 H2:AH} (h:Wk env H env1 H1) (h':Wk env1 H1 env2 H2):Wk env H env2 H2:=fun w0 B w ι tmps hB hR hE=>by
 obtain ⟨ι1,hR1,hE1⟩:=h w0 B w ι tmps hB hR hE;exact h' w0 B w ι1 tmps hB hR1 hE1
theorem Rel.regrow {w0:Base} {B B':Nat->Prop} {w w':World} {ι:Pl} {H:AH} (h:Rel w0 B w ι H) (hg:Gr w w') (hB:∀ b,b < w.heap.size->B b->B' b) (hfut:∀ b,w'.heap.size<=b->B' b) :
  Rel w0 B' w' ι H/\Keeps none w ι (Rd B ι H) w' ι (Rd B' ι H):=by
 have hk:Keeps none w ι (Rd B ι H) w' ι (Rd B' ι H):=⟨hg.size,fun b hb hlt=>⟨⟨hB b hlt hb.1,hb.2⟩,hg.block b hlt⟩,fun _ _ _ _ h=>h⟩
 exact ⟨⟨h.gr.trans hg,hfut,h.len,fun k b c s h1 h2=>⟨(h.blk k b c s h1 h2).1,(h.blk k b c s h1 h2).2.keep0 hk fun c' e=>by
  subst e;exact hg.block c' (h.lt ⟨k,b,s,h1,h2⟩)⟩,h.inj⟩,hk⟩
def AV.low (m:Nat):AV->Bool
 | .own k _=>decide (k < m)
 | .orw k _ _=>decide (k < m)
 | .osl k _ _=>decide (k < m)
 | .agg cs=>lowL m cs
 | .tup cs=>lowL m cs
 | .clo _ fs cs=>lowL m fs && lowL m cs
 | _=>true
where lowL (m:Nat):List AV->Bool
 | []=>true
 | a :: as=>a.low m && lowL m as
theorem zb5 {m:Nat}:∀ {cs:List AV} {j:Nat} {a:AV},AV.low.lowL m cs=true->cs[j]?=some a->a.low m=true
 | [],j,a,_,h=>by simp at h
 | c :: cs,0,a,hl,h=>by
  simp only [AV.low.lowL,bAT] at hl;simp at h;subst h;exact hl.1
 | c :: cs,j + 1,a,hl,h=>by
  simp only [AV.low.lowL,bAT] at hl;exact zb5 hl.2 (by simpa using h)
def ABlk.low (m:Nat):ABlk->Bool
 | .box cs _ _=>AV.low.lowL m cs
 | _=>true
def zeq (m:Nat):AH->Bool
 | []=>true
 | some b :: r=>b.low m && zeq m r
 | none :: r=>zeq m r
theorem zjo {m:Nat}:∀ {H:AH} {k:Nat} {b:ABlk},zeq m H=true->H[k]?=some (some b)->b.low m=true
 | [],k,b,_,h=>by simp at h
 | some c :: H,0,b,hl,h=>by
  simp only [zeq,bAT] at hl;simp at h;subst h;exact hl.1
 | none :: H,0,b,hl,h=>by simp at h
 | some c :: H,k + 1,b,hl,h=>by
  simp only [zeq,bAT] at hl;exact zjo hl.2 (by simpa using h)
 | none :: H,k + 1,b,hl,h=>by
  simp only [zeq] at hl;exact zjo hl (by simpa using h)
theorem zoa {α:Type} {l:List α} {m k:Nat} (h:k < m):(l.take m)[k]?=l[k]?:=by rw [List.getElem?_take,if_pos h]
theorem zbe {α:Type} {l:List α} {m k:Nat} {x:α} (h:(l.take m)[k]?=some x):k < m/\l[k]?=some x:=by
 rw [List.getElem?_take] at h
 split at h
 ·exact ⟨by assumption,h⟩
 ·cases h
theorem Rep.trunc {w:World} {ι:Pl} {R R':Nat->Prop} {m:Nat} (hk:∀ b,R b->R' b) {a:AV} {v:Value} (h:Rep w ι R a v) (hl:a.low m=true):Rep w (ι.take m) R' a v:=by
 induction h with
 | p x v h=>exact .p x v (h.keep (nR _) fun b hb _=>⟨hk b hb,rfl⟩)
 | own k j c s h=>exact .own k j c s (by rw [zoa (oT hl)];exact h)
 | orw k i j c s h=>exact .orw k i j c s (by rw [zoa (oT hl)];exact h)
 | osl0 k i=>exact .osl0 k i
 | osl k i n c cap s h hn hm hz=>exact .osl k i n c cap s (by rw [zoa (oT hl)];exact h) hn hm hz
 | agg cs vs hlen hr ih=>exact .agg cs vs hlen fun j a v ha hv=>ih j a v ha hv (zb5 hl ha)
 | tup cs vs hlen hr ih=>exact .tup cs vs hlen fun j a v ha hv=>ih j a v ha hv (zb5 hl ha)
 | clo f fs cs us vs h1 hr h2 hr' ih ih' =>
  simp only [AV.low,bAT] at hl;exact .clo f fs cs us vs h1 (fun j a v ha hv=>ih j a v ha hv (zb5 hl.1 ha)) h2 (fun j a v ha hv=>ih' j a v ha hv (zb5 hl.2 ha))
 | junk v=>exact .junk v
theorem zi0.trunc {w:World} {ι:Pl} {R R':Nat->Prop} {m:Nat} (hk:∀ b,R b->R' b) {c:Option Nat} {s:Nat × Nat} {b:ABlk} (h:zi0 w ι R c s b) (hl:b.low m=true):zi0 w (ι.take m) R' c s b:=by
 cases b with
 | box cs t g =>
  obtain ⟨hg,c',arr,e,h1,h2,h3⟩:=h;refine ⟨hg,c',arr,e,h1,h2,fun j a ha=>?_⟩
  obtain ⟨v,hv,h1',hr⟩:=h3 j a ha;exact ⟨v,hv,h1',hr.trunc hk (zb5 hl ha)⟩
 | rows s' rs t =>
  obtain ⟨e,hlen,h⟩:=h;refine ⟨e,hlen,?_⟩
  rcases h with h|⟨c',arr,e,h1,hz,h3⟩
  ·exact .inl h
  ·refine .inr ⟨c',arr,e,h1,hz,fun i j row a h4 h5=>?_⟩
   obtain ⟨v,hv,h1',hr⟩:=h3 i j row a h4 h5;exact ⟨v,hv,h1',hr.keep (nR _) fun b hb _=>⟨hk b hb,rfl⟩⟩
 | iter str pos=>exact h
theorem zuu {ι:Pl} {H:AH} {m c:Nat} (h:zbg (ι.take m) (H.take m) c):zbg ι H c:=by
 obtain ⟨k,b,s,h1,h2⟩:=h;exact ⟨k,b,s,(zbe h1).2,(zbe h2).2⟩
theorem zgj {B:Nat->Prop} {ι:Pl} {H:AH} {m:Nat}:∀ b,Rd B ι H b->Rd B (ι.take m) (H.take m) b:=fun _ h=>⟨h.1,fun ho=>h.2 (zuu ho)⟩
theorem Rel.trunc {w0:Base} {B:Nat->Prop} {w:World} {ι:Pl} {H:AH} {m:Nat} (h:Rel w0 B w ι H) (hl:zeq m (H.take m)=true):Rel w0 B w (ι.take m) (H.take m) :=
 ⟨h.gr,h.fut,by simp [h.len],fun k b c s h1 h2=>⟨(h.blk k b c s (zbe h1).2 (zbe h2).2).1,(h.blk k b c s (zbe h1).2 (zbe h2).2).2.trunc zgj (zjo hl h1)⟩,
  fun k l b b' c s s' h1 h2 h3 h4=>h.inj k l b b' c s s' (zbe h1).2 (zbe h2).2 (zbe h3).2 (zbe h4).2⟩
def frz (E:SO) (H:AH):AV->(PV->Prop)->Prop
 | .p x,K=>K x
 | .osl k i n,K=>(match H[k]? with
  | some (some (.rows s rs _))=>E.pre i n rs/\K (.ro s (E.sub rs i n))
  | _=>False)
 | .agg cs,K=>frzL cs fun ps=>K (.agg ps)
 | .tup cs,K=>frzL cs fun ps=>K (.tup ps)
 | _,_=>False
where frzL:List AV->(List PV->Prop)->Prop
 | [],K=>K []
 | a :: as,K=>frz E H a fun p=>frzL as fun ps=>K (p :: ps)
section
variable {w0:Base} {B:Nat->Prop}
theorem zrr {w:World} {ι:Pl} {H:AH} {x:PV} {v:Value} (h:RepP w (Rd B ι H) x v):RepP w B x v:=h.keep (nR _) fun _ hb _=>⟨hb.1,rfl⟩
theorem zge {H:AH} {w:World} {ι:Pl} (hR:Rel w0 B w ι H) (hB:∀ b,w0.own b->B b):∀ (a:AV) (v:Value) (K:PV->Prop),frz zas H a K->Rep w ι (Rd B ι H) a v->∃ p,K p/\RepP w B p v
 | .p x,v,K,h,hv=>by
  cases hv with
  | p _ _ hv=>exact ⟨x,h,zrr hv⟩
 | .osl k i n,v,K,h,hv=>by
  unfold frz at h
  split at h
  ·rename_i s rs t hk;obtain ⟨hle,h⟩:=h;change i + n<=rs.length at hle;change K (.ro s ((rs.drop i).take n)) at h;refine ⟨_,h,?_⟩
   cases hv with
   | osl0 =>
    have e:(rs.drop i).take 0=[]:=by simp
    rw [e];exact .ro0 _ _ _
   | osl _ _ _ c cap sz hi hn hm hz =>
    obtain ⟨es,hl,hh⟩:=(hR.blk k _ _ sz hk hi).2;have hge:=(hR.blk k _ _ sz hk hi).1 c rfl
    rcases hh with ⟨ec,_⟩|⟨c',arr,ec,hb,hz0,hcs⟩
    ·cases ec
    cases ec
    have hlen:((rs.drop i).take n).length=n:=by rw [List.length_take,lLD];omega
    have hget:∀ (q:Nat) (row:List PV),((rs.drop i).take n)[q]?=some row->rs[i + q]?=some row:=fun q row hr=>(zdr hr).1
    have hcell:∀ (q j:Nat) (row:List PV) (a:PV),((rs.drop i).take n)[q]?=some row->row[j]?=some a->∃ u,(arr[(i + q) * sz.1 + j]?).getD undef=u/\w.cell? ⟨c,i * sz.1 + (q * s + j),none⟩=some u/\u.oneCell'=true/\RepP w B a u:=by
     intro q j row a hr ha;obtain ⟨u,hu,h1,hru⟩:=hcs _ j row a (hget q row hr) ha;have e2:i * sz.1 + (q * s + j)=(i + q) * sz.1 + j:=by rw [es,Nat.add_mul];omega
     exact ⟨u,by rw [hu];rfl,by rw [zsp hb,e2];exact hu,h1,zrr hru⟩
    have:=RepP.ro (w:=w) (R:=B) s ((rs.drop i).take n) c (i * sz.1) cap (fun q j=>(arr[(i + q) * sz.1 + j]?).getD undef) (hB c hge) (zbx hb) (by omega) (fun q row hr=>by rw [es];exact hl _ row (hget q row hr))
     (fun q j row a hr ha=>by obtain ⟨u,e1,e2,e3,_⟩:=hcell q j row a hr ha;rw [e1];exact ⟨e2,e3⟩) (fun q j row a hr ha=>by obtain ⟨u,e1,_,_,e4⟩:=hcell q j row a hr ha;rw [e1];exact e4)
    rw [hlen] at this;exact this
  ·cases h
 | .agg cs,v,K,h,hv=>by
  unfold frz at h
  cases hv with
  | agg _ vs hl hr =>
   obtain ⟨ps,hK,hpl,hpr⟩:=frzL_sound hR hB cs vs _ hl hr h;exact ⟨_,hK,.agg ps vs (by omega) hpr⟩
 | .tup cs,v,K,h,hv=>by
  unfold frz at h
  cases hv with
  | tup _ vs hl hr =>
   obtain ⟨ps,hK,hpl,hpr⟩:=frzL_sound hR hB cs vs _ hl hr h;exact ⟨_,hK,.tup ps vs (by omega) hpr⟩
 | .own _ _,_,_,h,_=>h.elim
 | .orw _ _ _,_,_,h,_=>h.elim
 | .junk,_,_,h,_=>h.elim
where frzL_sound {H:AH} {w:World} {ι:Pl} (hR:Rel w0 B w ι H) (hB:∀ b,w0.own b->B b):∀ (as:List AV) (vs:List Value) (K:List PV->Prop),as.length=vs.length->(∀ (j:Nat) (a:AV) (v:Value),as[j]?=some a->vs[j]?=some v->Rep w ι (Rd B ι H) a v)->frz.frzL zas H as K →
  ∃ ps,K ps/\ps.length=as.length/\∀ (j:Nat) (p:PV) (v:Value),ps[j]?=some p->vs[j]?=some v->RepP w B p v
 | [],vs,K,hl,hr,h=>⟨[],h,rfl,fun j p v hp=>by simp at hp⟩
 | a :: as,[],K,hl,hr,h=>by simp at hl
 | a :: as,v :: vs,K,hl,hr,h=>by
  unfold frz.frzL at h;obtain ⟨p,hp,hpr⟩:=zge hR hB a v _ h (hr 0 a v rfl rfl);obtain ⟨ps,hK,hpl,hps⟩:=frzL_sound hR hB as vs _ (by simpa using hl) (fun j b u hb hu=>hr (j + 1) b u (by simpa using hb) (by simpa using hu)) hp
  refine ⟨p :: ps,hK,by simp [hpl],fun j q u hq hu=>?_⟩
  cases j with
  | zero=>simp at hq hu;subst hq;subst hu;exact hpr
  | succ j=>exact hps j q u (by simpa using hq) (by simpa using hu)
end
def PV.flat:PV->Bool
 | .v _=>true
 | .e0=>true
 | .err=>true
 | .agg cs=>flatL cs
 | .tup cs=>flatL cs
 | _=>false
where flatL:List PV->Bool
 | []=>true
 | a :: as=>a.flat && flatL as
theorem zmm:∀ {cs:List PV} {j:Nat} {a:PV},PV.flat.flatL cs=true->cs[j]?=some a->a.flat=true
 | [],j,a,_,h=>by simp at h
 | c :: cs,0,a,hl,h=>by
  simp only [PV.flat.flatL,bAT] at hl;simp at h;subst h;exact hl.1
 | c :: cs,j + 1,a,hl,h=>by
  simp only [PV.flat.flatL,bAT] at hl;exact zmm hl.2 (by simpa using h)
theorem RepP.free {w w':World} {R R':Nat->Prop} {p:PV} {v:Value} (h:RepP w R p v):p.flat=true->RepP w' R' p v:=by
 induction h with
 | v x=>exact fun _=>.v x
 | e0 A=>exact fun _=>.e0 A
 | ro0=>exact fun h=>by cases h
 | ro=>exact fun h=>by cases h
 | rop=>exact fun h=>by cases h
 | err t v=>exact fun _=>.err t v
 | agg cs vs hl hr ih=>exact fun h=>.agg cs vs hl fun j a v ha hv=>ih j a v ha hv (zmm h ha)
 | tup cs vs hl hr ih=>exact fun h=>.tup cs vs hl fun j a v ha hv=>ih j a v ha hv (zmm h ha)
def AV.ren (f:Nat->Nat):AV->AV
 | .own k j=>.own (f k) j
 | .orw k i j=>.orw (f k) i j
 | .osl k i n=>.osl (f k) i n
 | .agg cs=>.agg (renL f cs)
 | .tup cs=>.tup (renL f cs)
 | .clo g fs cs=>.clo g (renL f fs) (renL f cs)
 | a=>a
where renL (f:Nat->Nat):List AV->List AV
 | []=>[]
 | a :: as=>a.ren f :: renL f as
theorem zc5 (f:Nat->Nat):∀ (cs:List AV) (j:Nat),(AV.ren.renL f cs)[j]?=(cs[j]?).map (AV.ren f)
 | [],j=>by simp [AV.ren.renL]
 | a :: as,0=>by simp [AV.ren.renL]
 | a :: as,j + 1=>by simpa [AV.ren.renL] using zc5 f as j
theorem zb4 (f:Nat->Nat):∀ (cs:List AV),(AV.ren.renL f cs).length=cs.length
 | []=>rfl
 | a :: as=>by simp [AV.ren.renL,zb4 f as]
theorem zct {f:Nat->Nat} {cs:List AV} {j:Nat} {a:AV} (h:(AV.ren.renL f cs)[j]?=some a):∃ b,cs[j]?=some b/\a=b.ren f:=by
 rw [zc5] at h
 cases hj:cs[j]? with
 | none=>rw [hj] at h;cases h
 | some b=>rw [hj] at h;cases h;exact ⟨b,rfl,rfl⟩
theorem Rep.ren {w:World} {ι ι2:Pl} {R R':Nat->Prop} {f:Nat->Nat} (hp:∀ k c s,ι[k]?=some (some c,s)->ι2[f k]?=some (some c,s)) (hR:∀ b,R b->b < w.heap.size->R' b) {a:AV} {v:Value} (h:Rep w ι R a v):Rep w ι2 R' (a.ren f) v:=by
 induction h with
 | p x v h=>exact .p x v (h.keep (nR _) fun b hb hl=>⟨hR b hb hl,rfl⟩)
 | own k j c s h=>exact .own _ j c s (hp k c s h)
 | orw k i j c s h=>exact .orw _ i j c s (hp k c s h)
 | osl0 k i=>exact .osl0 _ i
 | osl k i n c cap s h hn hm hz=>exact .osl _ i n c cap s (hp k c s h) hn hm hz
 | agg cs vs hl hr ih=>exact .agg _ vs (by rw [zb4];exact hl) fun j a v ha hv=>by obtain ⟨b,hb,rfl⟩:=zct ha;exact ih j b v hb hv
 | tup cs vs hl hr ih=>exact .tup _ vs (by rw [zb4];exact hl) fun j a v ha hv=>by obtain ⟨b,hb,rfl⟩:=zct ha;exact ih j b v hb hv
 | clo g fs cs us vs hl hr hl' hr' ih ih'=>exact .clo g _ _ us vs (by rw [zb4];exact hl) (fun j a v ha hv=>by obtain ⟨b,hb,rfl⟩:=zct ha;exact ih j b v hb hv) (by rw [zb4];exact hl') (fun j a v ha hv=>by obtain ⟨b,hb,rfl⟩:=zct ha;exact ih' j b v hb hv)
 | junk v=>exact .junk v
theorem Rep.unren {w:World} {ι ι2:Pl} {R R':Nat->Prop} {f:Nat->Nat} {m:Nat} (hp:∀ k c s,k < m->ι2[f k]?=some (some c,s)->ι[k]?=some (some c,s)) (hR:∀ b,R b->b < w.heap.size->R' b) {b:AV} {v:Value} (h:Rep w ι2 R b v):∀ a:AV,b=a.ren f->a.low m=true->Rep w ι R' a v:=by
 induction h with
 | p x v h =>
  intro a e hl
  cases a <;> simp [AV.ren] at e
  subst e;exact .p x v (h.keep (nR _) fun b hb hlt=>⟨hR b hb hlt,rfl⟩)
 | own k j c s h =>
  intro a e hl
  cases a <;> simp [AV.ren] at e
  obtain ⟨rfl,rfl⟩:=e;exact .own _ _ c s (hp _ c s (oT hl) h)
 | orw k i j c s h =>
  intro a e hl
  cases a <;> simp [AV.ren] at e
  obtain ⟨rfl,rfl,rfl⟩:=e;exact .orw _ _ _ c s (hp _ c s (oT hl) h)
 | osl0 k i =>
  intro a e hl
  cases a <;> simp [AV.ren] at e
  obtain ⟨rfl,rfl,rfl⟩:=e;exact .osl0 _ _
 | osl k i n c cap s h hn hm hz =>
  intro a e hl
  cases a <;> simp [AV.ren] at e
  obtain ⟨rfl,rfl,rfl⟩:=e;exact .osl _ _ _ c cap s (hp _ c s (oT hl) h) hn hm hz
 | agg cs vs hl hr ih =>
  intro a e zeq
  cases a <;> simp [AV.ren] at e
  subst e;exact .agg _ vs (by rw [<-hl,zb4]) fun j a v ha hv=>ih j _ v (by rw [zc5,ha];rfl) hv a rfl (zb5 zeq ha)
 | tup cs vs hl hr ih =>
  intro a e zeq
  cases a <;> simp [AV.ren] at e
  subst e;exact .tup _ vs (by rw [<-hl,zb4]) fun j a v ha hv=>ih j _ v (by rw [zc5,ha];rfl) hv a rfl (zb5 zeq ha)
 | clo g fs cs us vs hl hr hl' hr' ih ih' =>
  intro a e zeq
  cases a <;> simp [AV.ren] at e
  obtain ⟨rfl,rfl,rfl⟩:=e;simp only [AV.low,bAT] at zeq;exact .clo _ _ _ us vs (by rw [<-hl,zb4]) (fun j a v ha hv=>ih j _ v (by rw [zc5,ha];rfl) hv a rfl (zb5 zeq.1 ha)) (by rw [<-hl',zb4]) (fun j a v ha hv=>ih' j _ v (by rw [zc5,ha];rfl) hv a rfl (zb5 zeq.2 ha))
 | junk v =>
  intro a e hl
  cases a <;> simp [AV.ren] at e
  exact .junk v
def ze4 (σ:List Nat) (n k:Nat):Nat:=match σ[k]? with
 | some l=>l
 | none=>n + (k - σ.length)
def z2s (f:Nat->Nat) (g:Option Nat):ABlk->ABlk
 | .box cs t _=>.box (AV.ren.renL f cs) t g
 | b=>b
def zpp (f:Nat->Nat) (g:Option Nat):Option ABlk->Option ABlk
 | some b=>some (z2s f g b)
 | none=>none
def znx:Option ABlk->Option Nat
 | some (.box _ _ g)=>g
 | _=>none
def zoz:Option ABlk->Bool
 | some (.box _ _ _)=>true
 | _=>false
def zzt (c:Nat):Option ABlk->Option ABlk
 | some (.box cs t _)=>some (.box cs t (some c))
 | b=>b
def za2:List Nat->AH->AH
 | c :: cs,b :: H=>zzt c b :: za2 cs H
 | [],H=>H
 | _,[]=>[]
theorem zc4:∀ (tags:List Nat) (H:AH),(za2 tags H).length=H.length
 | [],H=>by simp [za2]
 | c :: cs,[]=>by simp [za2]
 | c :: cs,b :: H=>by simp [za2,zc4 cs H]
theorem zgh:∀ (tags:List Nat) (H:AH) (k:Nat) (b:Option ABlk),(za2 tags H)[k]?=some b->∃ b0,H[k]?=some b0/\((∃ c,tags[k]?=some c/\b=zzt c b0)\/(tags[k]?=none/\b=b0))
 | [],H,k,b,h=>⟨b,by simpa [za2] using h,.inr ⟨by simp,rfl⟩⟩
 | c :: cs,[],k,b,h=>by simp [za2] at h
 | c :: cs,b0 :: H,0,b,h=>by
  simp [za2] at h;exact ⟨b0,rfl,.inl ⟨c,rfl,h.symm⟩⟩
 | c :: cs,b0 :: H,k + 1,b,h=>by
  have:=zgh cs H k b (by simpa [za2] using h)
  simpa using this
def zgx (w:World) (ι:Pl) (R:Nat->Prop):AV->Ending->Prop
 | .p (.pan ch),e=>e=.panicked ch
 | r,e=>∃ v,e=.returned v/\Rep w ι R r v
def AV.isPan:AV->Bool
 | .p (.pan _)=>true
 | _=>false
theorem zgx.val {w:World} {ι:Pl} {R:Nat->Prop} {r:AV} {e:Ending} (h:zgx w ι R r e) (hp:r.isPan=false):∃ v,e=.returned v/\Rep w ι R r v:=by
 cases r with
 | p x=>cases x <;> first|exact h|cases hp
 | _=>exact h
theorem zgx.ret {w:World} {ι:Pl} {R:Nat->Prop} {r:AV} {v:Value} (h:Rep w ι R r v):zgx w ι R r (.returned v):=by
 cases r with
 | p x =>
  cases x with
  | pan ch=>cases h with
   | p _ _ h=>cases h
  | _=>exact ⟨_,rfl,h⟩
 | _=>exact ⟨_,rfl,h⟩
def zd4 (P:Program) (G:World->Prop) (f:FuncId) (as:List AV) (H:AH) (r:AV) (H':AH):Prop :=
 (∀ (args:Array Value) (w:World),(callFunc f args).run P w=.ok (.enter f args) w) ∧
 ∀ (B:Nat->Prop) (w:World) (ι:Pl) (args:List Value) (tags:List Nat),tags.length=H.length->Can G ⟨w,zbg ι (za2 tags H),[],fun _=>none⟩ B w ι (za2 tags H)->Rel ⟨w,zbg ι (za2 tags H),[],fun _=>none⟩ B w ι (za2 tags H) →
  as.length=args.length->(∀ (j:Nat) (a:AV) (v:Value),as[j]?=some a->args[j]?=some v->Rep w ι (Rd B ι (za2 tags H)) a v) →
  Calls P f args.toArray w fun e w'=>∃ ι',Rel ⟨w,zbg ι (za2 tags H),[],fun _=>none⟩ B w' ι' (za2 tags H')/\zgx w' ι' (Rd B ι' (za2 tags H')) r e
def zv7 (P:Program) (G:World->Prop) (f:FuncId) (as:List AV) (H:AH) (r:AV) (H':AH) (kp:Nat->Bool):Prop :=
 (∀ (args:Array Value) (w:World),(callFunc f args).run P w=.ok (.enter f args) w) ∧
 ∀ (B:Nat->Prop) (w:World) (ι:Pl) (args:List Value) (tags:List Nat),tags.length=H.length->Can G ⟨w,zbg ι (za2 tags H),[],fun _=>none⟩ B w ι (za2 tags H)->Rel ⟨w,zbg ι (za2 tags H),[],fun _=>none⟩ B w ι (za2 tags H) →
  as.length=args.length->(∀ (j:Nat) (a:AV) (v:Value),as[j]?=some a->args[j]?=some v->Rep w ι (Rd B ι (za2 tags H)) a v) →
  Calls P f args.toArray w fun e w'=>∃ ι',Rel ⟨w,zbg ι (za2 tags H),[],fun _=>none⟩ B w' ι' (za2 tags H')/\zgx w' ι' (Rd B ι' (za2 tags H')) r e/\∀ (k c:Nat) (s:Nat × Nat),kp k=true->ι[k]?=some (some c,s)->ι'[k]?=some (some c,s)
/- Own work: a call that is lent blocks of the walk's own: seen from the caller. -/
def zgd:List Nat->Nat->Nat->Option Nat
 | [],_,_=>none
 | x :: xs,l,i=>(match Nat.beq x l with
  | true=>some i
  | false=>zgd xs l (i + 1))
theorem zd9 {l:Nat}:∀ {σ:List Nat} {i k:Nat},zgd σ l i=some k->i<=k/\σ[k - i]?=some l
 | [],i,k,h=>by simp [zgd] at h
 | x :: xs,i,k,h=>by
  unfold zgd at h
  split at h
  ·rename_i e
   cases h
   rw [Nat.eq_of_beq_eq_true e];simp
  ·obtain ⟨h1,h2⟩:=zd9 h;refine ⟨by omega,?_⟩
   rw [show k - i=(k - (i + 1)) + 1 by omega,List.getElem?_cons_succ];exact h2
theorem zgc {l:Nat}:∀ {σ:List Nat} {i:Nat},zgd σ l i=none->∀ k:Nat,σ[k]? ≠ some l
 | [],i,_,k=>by simp
 | x :: xs,i,h,k=>by
  unfold zgd at h
  split at h
  ·cases h
  ·rename_i e
   cases k with
   | zero =>
    intro hx;simp at hx;subst hx;simp at e
   | succ k=>simpa using zgc h k
def zs6 (σ:List Nat) (n:Nat):Bool:=(List.range σ.length).all fun k=>(match zgd σ (σ.getD k 0) 0 with
 | some k'=>Nat.beq k' k
 | none=>false) && Nat.blt (σ.getD k 0) n
theorem zb2 {σ:List Nat} {n:Nat} (h:zs6 σ n=true) {k l:Nat} (hk:σ[k]?=some l):zgd σ l 0=some k/\l < n:=by
 have hlt:=(List.getElem?_eq_some_iff.1 hk).1
 have:=List.all_eq_true.1 h k (List.mem_range.2 hlt)
 rw [List.getD_eq_getElem?_getD,hk] at this;simp only [Option.getD_some,bAT] at this;obtain ⟨h1,h2⟩:=this;refine ⟨?_,by have:=Nat.le_of_ble_eq_true h2;omega⟩
 split at h1
 ·rename_i k' e;rw [e,Nat.eq_of_beq_eq_true h1]
 ·cases h1
def zhb:Option ABlk->Option ABlk
 | some (.box cs t _)=>some (.box cs t none)
 | b=>b
def zic (σ:List Nat) (H Hc':AH):Nat->Bool:=fun l=>match zgd σ l 0 with
 | some k=>!(zoz (H.getD l none) && zoz (Hc'.getD k none))
 | none=>false
def zpc (σ:List Nat) (f:Nat->Nat) (p:Nat->Bool) (Hc':AH):Nat->AH->AH
 | _,[]=>[]
 | l,b :: H=>(match zgd σ l 0 with
  | some k=>zpp f (znx b) (Hc'.getD k none)
  | none=>zar p b) :: zpc σ f p Hc' (l + 1) H
def zg8 (σ:List Nat) (H Hc':AH):AH:=zpc σ (ze4 σ H.length) (zic σ H Hc') Hc' 0 H++(Hc'.drop σ.length).map (zpp (ze4 σ H.length) none)
def zko (σ:List Nat) (ι':Pl):Nat->Pl->Pl
 | _,[]=>[]
 | l,x :: ι=>(match zgd σ l 0 with
  | some k=>ι'.getD k (none,0,0)
  | none=>x) :: zko σ ι' (l + 1) ι
theorem zmv {σ:List Nat} {f:Nat->Nat} {p:Nat->Bool} {Hc':AH}:∀ (l:Nat) (H:AH) (i:Nat),(zpc σ f p Hc' l H)[i]?=(H[i]?).map fun b=>match zgd σ (l + i) 0 with
  | some k=>zpp f (znx b) (Hc'.getD k none)
  | none=>zar p b
 | l,[],i=>by simp [zpc]
 | l,b :: H,0=>by simp [zpc]
 | l,b :: H,i + 1=>by
  simp only [zpc,List.getElem?_cons_succ];rw [zmv (l + 1) H i,show l + 1 + i=l + (i + 1) by omega]
theorem zhs {σ:List Nat} {ι':Pl}:∀ (l:Nat) (ι:Pl) (i:Nat),(zko σ ι' l ι)[i]?=(ι[i]?).map fun x=>match zgd σ (l + i) 0 with
  | some k=>ι'.getD k (none,0,0)
  | none=>x
 | l,[],i=>by simp [zko]
 | l,x :: ι,0=>by simp [zko]
 | l,x :: ι,i + 1=>by
  simp only [zko,List.getElem?_cons_succ];rw [zhs (l + 1) ι i,show l + 1 + i=l + (i + 1) by omega]
theorem zdy {σ:List Nat} {f:Nat->Nat} {p:Nat->Bool} {Hc':AH}:∀ (l:Nat) (H:AH),(zpc σ f p Hc' l H).length=H.length
 | l,[]=>rfl
 | l,b :: H=>by simp [zpc,zdy (l + 1) H]
theorem zcr {σ:List Nat} {ι':Pl}:∀ (l:Nat) (ι:Pl),(zko σ ι' l ι).length=ι.length
 | l,[]=>rfl
 | l,x :: ι=>by simp [zko,zcr (l + 1) ι]
theorem z0l (f:Nat->Nat) (g:Option Nat) (c:Nat) (b:Option ABlk):zpp f g (zzt c b)=zpp f g b:=by
 cases b with
 | none=>rfl
 | some b=>cases b <;> rfl
theorem zi8 (f:Nat->Nat) (g:Option Nat) (tags:List Nat) (H:AH) (k:Nat):zpp f g ((za2 tags H).getD k none)=zpp f g (H.getD k none):=by
 rw [List.getD_eq_getElem?_getD,List.getD_eq_getElem?_getD]
 cases h:(za2 tags H)[k]? with
 | none =>
  have:H[k]?=none:=by
   rw [List.getElem?_eq_none_iff] at h ⊢
   rwa [zc4] at h
  rw [this]
 | some b =>
  obtain ⟨b0,h0,h1⟩:=zgh tags H k b h;rw [h0];simp only [Option.getD_some]
  rcases h1 with ⟨c,_,rfl⟩|⟨_,rfl⟩
  ·exact z0l f g c b0
  ·rfl
theorem zi9 {f:Nat->Nat} {g:Option Nat} {b:Option ABlk} {x:ABlk} (h:zpp f g b=some x):∃ b0,b=some b0/\x=z2s f g b0:=by
 cases b with
 | none=>cases h
 | some b0=>cases h;exact ⟨b0,rfl,rfl⟩
theorem zhz {tags:List Nat} {H:AH} {k:Nat}:zoz ((za2 tags H).getD k none)=zoz (H.getD k none):=by
 rw [List.getD_eq_getElem?_getD,List.getD_eq_getElem?_getD]
 cases h:(za2 tags H)[k]? with
 | none =>
  have:H[k]?=none:=by
   rw [List.getElem?_eq_none_iff] at h ⊢
   rwa [zc4] at h
  rw [this]
 | some b =>
  obtain ⟨b0,h0,h1⟩:=zgh tags H k b h;rw [h0];simp only [Option.getD_some]
  rcases h1 with ⟨c,_,rfl⟩|⟨_,rfl⟩
  ·cases b0 with
   | none=>rfl
   | some b0=>cases b0 <;> rfl
  ·rfl
section
variable {P:Program} {G:World->Prop} {w0:Base} {B:Nat->Prop}
set_option maxHeartbeats 1000000 in
theorem zis {w:World} {ι:Pl} {H:AH} (hR:Rel w0 B w ι H) (hC:Can G w0 B w ι H) {f:FuncId} {as:List AV} {Hc:AH} {r:AV} {Hc':AH} (h:zd4 P G f as Hc r Hc') {σ:List Nat}
  (hσ:zs6 σ H.length=true) (hlen:σ.length=Hc.length) (hpick:σ.map (fun l=>zhb (H.getD l none))=Hc.map (zpp (ze4 σ H.length) none)) (hlo:zeq σ.length Hc=true) (hla:AV.low.lowL σ.length as=true)
  {args:List Value} (hal:as.length=args.length) (hargs:∀ (j:Nat) (a:AV) (v:Value),as[j]?=some a->args[j]?=some v->Rep w ι (Rd B ι H) (a.ren (ze4 σ H.length)) v) :
  Calls P f args.toArray w fun e w'=>∃ ι',Rel w0 B w' ι' (zg8 σ H Hc')/\Keeps (some (zic σ H Hc')) w ι (Rd B ι H) w' ι' (Rd B ι' (zg8 σ H Hc'))/\zgx w' ι' (Rd B ι' (zg8 σ H Hc')) (r.ren (ze4 σ H.length)) e:=by
 have hιl:∀ l:Nat,l < H.length->∃ x,ι[l]?=some x:=fun l hl=>⟨_,List.getElem?_eq_getElem (by rw [hR.len];exact hl)⟩
 generalize hιc:σ.map (fun l=>ι.getD l (none,0,0))=ιc
 generalize htg:ιc.map (fun x=>x.1.getD 0)=tags
 have hcl:ιc.length=σ.length:=by rw [<-hιc];simp
 have htl:tags.length=Hc.length:=by rw [<-htg];simp [hcl,hlen]
 have hcat:∀ (k:Nat) (x:Option Nat × Nat × Nat),ιc[k]?=some x->∃ l,σ[k]?=some l/\ι[l]?=some x:=fun k x hx=>by
  rw [<-hιc,List.getElem?_map] at hx
  cases hk:σ[k]? with
  | none=>rw [hk] at hx;cases hx
  | some l =>
   rw [hk] at hx;obtain ⟨y,hy⟩:=hιl l (zb2 hσ hk).2;simp only [Option.map_some,Option.some.injEq,List.getD_eq_getElem?_getD,hy,Option.getD_some] at hx;subst hx;exact ⟨l,by first|rfl|exact hk,hy⟩
 have hcof:∀ (k l:Nat),σ[k]?=some l->∃ x,ιc[k]?=some x/\ι[l]?=some x:=fun k l hk=>by
  obtain ⟨y,hy⟩:=hιl l (zb2 hσ hk).2;refine ⟨y,?_,hy⟩;rw [<-hιc,List.getElem?_map,hk];simp [List.getD_eq_getElem?_getD,hy]
 have htag:∀ (k:Nat) (x:Option Nat × Nat × Nat),ιc[k]?=some x->tags[k]?=some (x.1.getD 0):=fun k x hx=>by
  rw [<-htg,List.getElem?_map,hx];rfl
 have hblk:∀ (k:Nat) (b:ABlk) (l:Nat),(za2 tags Hc)[k]?=some (some b)->σ[k]?=some l->∃ (b2 b0:ABlk),H[l]?=some (some b2)/\Hc[k]?=some (some b0)/\zhb (some b2)=some (z2s (ze4 σ H.length) none b0)/\∃ c,tags[k]?=some c/\some b=zzt c (some b0):=fun k b l hb hk=>by
  obtain ⟨b0,h0,h1⟩:=zgh tags Hc k _ hb;have hkl:k < tags.length:=by rw [htl,<- hlen];exact (List.getElem?_eq_some_iff.1 hk).1
  rcases h1 with ⟨c,hc,e⟩|⟨hc,_⟩
  ·cases b0 with
   | none=>cases e
   | some b0 =>
    have hp:=congrArg (fun L=>L[k]?) hpick
    simp only [List.getElem?_map,hk,h0,Option.map_some,Option.some.injEq,zpp] at hp;rw [List.getD_eq_getElem?_getD] at hp
    cases hH:H[l]? with
    | none=>rw [hH] at hp;cases hp
    | some ob =>
     rw [hH] at hp
     cases ob with
     | none=>cases hp
     | some b2=>exact ⟨b2,b0,by first|rfl|exact hH,h0,hp,c,hc,e⟩
  ·rw [List.getElem?_eq_getElem hkl] at hc;cases hc
 have hlσ:∀ (k:Nat) (b:Option ABlk),(za2 tags Hc)[k]?=some b->∃ l,σ[k]?=some l:=fun k b hb=>by
  have:=(List.getElem?_eq_some_iff.1 hb).1
  rw [zc4,<- hlen] at this;exact ⟨_,List.getElem?_eq_getElem this⟩
 have hownc:∀ c,zbg ιc (za2 tags Hc) c->∃ (k l:Nat) (b2:ABlk) (s:Nat × Nat),σ[k]?=some l/\H[l]?=some (some b2)/\ι[l]?=some (some c,s):=by
  rintro c ⟨k,b,s,h1,h2⟩
  obtain ⟨l,hl,hi⟩:=hcat k _ h2;obtain ⟨b2,b0,h3,_⟩:=hblk k b l h1 hl;exact ⟨k,l,b2,s,hl,h3,hi⟩
 have hsub:∀ c,zbg ιc (za2 tags Hc) c->zbg ι H c:=fun c hc=>by
  obtain ⟨k,l,b2,s,_,h1,h2⟩:=hownc c hc;exact ⟨l,b2,s,h1,h2⟩
 obtain ⟨B',hB'⟩:∃ B':Nat->Prop,∀ b,B' b ↔ (B b/\¬ ∃ (l:Nat) (b2:ABlk) (s:Nat × Nat),(∀ k:Nat,σ[k]? ≠ some l)/\H[l]?=some (some b2)/\ι[l]?=some (some b,s)):=⟨_,fun _=>Iff.rfl⟩
 have hrd:∀ b,Rd B ι H b->Rd B' ιc (za2 tags Hc) b:=fun b hb=>⟨(hB' b).2 ⟨hb.1,fun ⟨l,b2,s,_,h1,h2⟩=>hb.2 ⟨l,b2,s,h1,h2⟩⟩,fun ho=>hb.2 (hsub b ho)⟩
 have hnew:∀ b,w.heap.size<=b->B' b:=fun b hb=>(hB' b).2 ⟨hR.fut b hb,fun ⟨l,b2,s,_,h1,h2⟩=>by have:=hR.lt ⟨l,b2,s,h1,h2⟩;omega⟩
 have hlent:∀ b,zbg ιc (za2 tags Hc) b->B' b:=fun b hb=>by
  obtain ⟨k,l,b2,s,hk,h1,h2⟩:=hownc b hb;refine (hB' b).2 ⟨hC.own b (hR.ge ⟨l,b2,s,h1,h2⟩),fun ⟨l',b3,s',hn,h3,h4⟩=>?_⟩
  have:=hR.inj l l' b2 b3 b s s' h1 h3 h2 h4
  subst this;exact hn k hk
 have hRc:Rel ⟨w,zbg ιc (za2 tags Hc),[],fun _=>none⟩ B' w ιc (za2 tags Hc):=by
  refine ⟨⟨rfl,rfl,rfl,nR _,fun _ _ _=>rfl⟩,hnew,by rw [zc4,hcl,hlen],fun k b c s h1 h2=>?_,fun k k' b b' c s s' h1 h2 h3 h4=>?_⟩
  ·refine ⟨fun c' e=>.inl ⟨k,b,s,h1,by rw [h2,e]⟩,?_⟩
   obtain ⟨l,hl,hi⟩:=hcat k _ h2;obtain ⟨b2,b0,h3,h0,hs,t,ht,hb⟩:=hblk k b l h1 hl;have hbk:=(hR.blk l b2 c s h3 hi).2;have hlow0:=zjo hlo h0;have hun:∀ (k' c':Nat) (s':Nat × Nat),k' < σ.length->ι[ze4 σ H.length k']?=some (some c',s')->ιc[k']?=some (some c',s'):=fun k' c' s' hk' hx=>by
    have hσk:σ[k']?=some σ[k']:=List.getElem?_eq_getElem hk';obtain ⟨x,hx1,hx2⟩:=hcof k' _ hσk;unfold ze4 at hx;rw [hσk] at hx;simp only at hx;rw [hx2] at hx;cases hx
    exact hx1
   cases b2 with
   | box cs t2 g2 =>
    cases b0 with
    | box cs0 t0 g0 =>
     simp only [zhb,z2s,Option.some.injEq,ABlk.box.injEq] at hs;obtain ⟨rfl,rfl,_⟩:=hs;simp only [zzt,Option.some.injEq] at hb;subst hb;obtain ⟨⟨hs0,hg⟩,c',arr,ec,hh,hsz,hcs⟩:=hbk;refine ⟨⟨hs0,fun n e=>?_⟩,c',arr,ec,hh,by rw [hsz,zb4],fun j a ha=>?_⟩
     ·have:=htag k _ h2
      rw [ht] at this
      cases e
      rw [Option.some.inj this,ec];rfl
     ·obtain ⟨v,hv,h1',hr⟩:=hcs j (a.ren _) (by rw [zc5,ha];rfl)
      exact ⟨v,hv,h1',hr.unren hun (fun b hb _=>hrd b hb) a rfl (zb5 hlow0 ha)⟩
    | rows s0 rs0 t0=>cases hs
    | iter s0 p0=>cases hs
   | rows s2 rs2 t2 =>
    cases b0 with
    | box cs0 t0 g0=>cases hs
    | rows s0 rs0 t0 =>
     cases hs
     cases hb
     obtain ⟨e,hl2,hh⟩:=hbk;refine ⟨e,hl2,?_⟩
     rcases hh with hh|⟨c',arr,ec,hh,hz,hcs⟩
     ·exact .inl hh
     ·refine .inr ⟨c',arr,ec,hh,hz,fun i j row a g1 g2=>?_⟩
      obtain ⟨v,hv,h1',hr⟩:=hcs i j row a g1 g2;exact ⟨v,hv,h1',hr.keep (nR _) fun b hb _=>⟨hrd b hb,rfl⟩⟩
    | iter s0 p0=>cases hs
   | iter s2 p2 =>
    cases b0 with
    | box cs0 t0 g0=>cases hs
    | rows s0 rs0 t0=>cases hs
    | iter s0 p0 =>
     cases hs
     cases hb
     exact hbk
  ·obtain ⟨l,hl,hi⟩:=hcat k _ h3;obtain ⟨l',hl',hi'⟩:=hcat k' _ h4;obtain ⟨b2,_,g1,_⟩:=hblk k b l h1 hl;obtain ⟨b3,_,g2,_⟩:=hblk k' b' l' h2 hl'
   have:=hR.inj l l' b2 b3 c s s' g1 g2 hi hi'
   subst this;have e1:=(zb2 hσ hl).1;rw [(zb2 hσ hl').1] at e1;exact (Option.some.inj e1).symm
 have hCc:Can G ⟨w,zbg ιc (za2 tags Hc),[],fun _=>none⟩ B' w ιc (za2 tags Hc) :=
  ⟨fun w' hg=>hC.stab w' ⟨hg.os,hg.tape,hg.output,hg.size,fun k hk hx=>hg.block k hk fun ho=>hx (hsub k ho)⟩,fun b hb=>hb.elim (hlent b) (hnew b)⟩
 have hfst:∀ (k l:Nat),σ[k]?=some l->ze4 σ H.length k=l:=fun k l hk=>by unfold ze4;rw [hk]
 refine (h.2 B' w ιc args tags htl hCc hRc hal fun j a v ha hv=>(hargs j a v ha hv).unren (m:=σ.length) (fun k' c' s' hk' hx=>?_) (fun b hb _=>hrd b hb) a rfl (zb5 hla ha)).mono ?_
 ·have hσk:σ[k']?=some σ[k']:=List.getElem?_eq_getElem hk';obtain ⟨x,hx1,hx2⟩:=hcof k' _ hσk;rw [hfst k' _ hσk,hx2] at hx;cases hx
  exact hx1
 rintro e w' ⟨ι',hR',hE⟩
 have hl':ι'.length=Hc'.length:=by rw [hR'.len,zc4]
 have hι3:∀ (k:Nat) (x:Option Nat × Nat × Nat),ι'[k]?=some x->(zko σ ι' 0 ι++ι'.drop σ.length)[ze4 σ H.length k]?=some x:=fun k x hx=>by
  cases hk:σ[k]? with
  | some l =>
   rw [hfst k l hk];have hll:=(zb2 hσ hk).2;rw [List.getElem?_append_left (by rw [zcr,hR.len];exact hll),zhs]
   obtain ⟨y,hy⟩:=hιl l hll;rw [hy];simp [(zb2 hσ hk).1,List.getD_eq_getElem?_getD,hx]
  | none =>
   have hge:σ.length<=k:=by simpa using hk
   unfold ze4;rw [hk];simp only;rw [List.getElem?_append_right (by rw [zcr,hR.len];omega),zcr,hR.len,List.getElem?_drop,show σ.length + (H.length + (k - σ.length) - H.length)=k by omega]
   exact hx
 have hfree:∀ (l:Nat) (x:Option Nat × Nat × Nat),(∀ k:Nat,σ[k]? ≠ some l)->ι[l]?=some x->(zko σ ι' 0 ι++ι'.drop σ.length)[l]?=some x:=fun l x hn hx=>by
  have hll:l < ι.length:=(List.getElem?_eq_some_iff.1 hx).1;rw [List.getElem?_append_left (by rw [zcr];exact hll),zhs,hx]
  cases hp:zgd σ l 0 with
  | none=>simp [hp]
  | some k=>exact absurd (by simpa using (zd9 hp).2) (hn k)
 generalize hI:zko σ ι' 0 ι++ι'.drop σ.length=ι3 at hι3 hfree;have hget:∀ (l:Nat) (b:ABlk) (c:Option Nat) (s:Nat × Nat),(zg8 σ H Hc')[l]?=some (some b)->ι3[l]?=some (c,s) →
   ((∀ k:Nat,σ[k]? ≠ some l)/\∃ b0:ABlk,H[l]?=some (some b0)/\b=znn (some (zic σ H Hc')) b0/\ι[l]?=some (c,s)) ∨
   (∃ (k:Nat) (b1:ABlk) (g:Option Nat),(za2 tags Hc')[k]?=some (some b1)/\b=z2s (ze4 σ H.length) g b1/\ze4 σ H.length k=l/\ι'[k]?=some (c,s)/\(g=none\/∃ l':Nat,σ[k]?=some l'/\g=znx (H.getD l' none))):=by
  intro l b c s hb hi;unfold zg8 at hb
  rcases Nat.lt_or_ge l H.length with hll|hge
  ·rw [List.getElem?_append_left (by rw [zdy];exact hll),zmv] at hb
   have hH:H[l]?=some H[l]:=List.getElem?_eq_getElem hll;rw [hH] at hb;simp only [Option.map_some,Nat.zero_add,Option.some.injEq] at hb
   cases hp:zgd σ l 0 with
   | none =>
    rw [hp] at hb;simp only at hb;have hn:=zgc hp;refine .inl ⟨hn,?_⟩;obtain ⟨y,hy⟩:=hιl l hll
    have:=hfree l y hn hy
    rw [hi] at this;cases this
    obtain ⟨b0,h0,e0⟩:=ze7 (p:=zic σ H Hc') (l:=l) (H:=H) (b:=b) (by rw [List.getElem?_map,hH];simpa using hb)
    exact ⟨b0,h0,e0,hy⟩
   | some k =>
    rw [hp] at hb;simp only at hb;have hk:σ[k]?=some l:=by simpa using (zd9 hp).2
    rw [<-zi8 _ _ tags] at hb;obtain ⟨b1,e1,e2⟩:=zi9 hb;have hb1:(za2 tags Hc')[k]?=some (some b1):=by
     rw [List.getD_eq_getElem?_getD] at e1
     cases hx:(za2 tags Hc')[k]? with
     | none=>rw [hx] at e1;cases e1
     | some z=>rw [hx] at e1;cases e1;rfl
    have hkl:k < ι'.length:=by rw [hR'.len];exact (List.getElem?_eq_some_iff.1 hb1).1
    have:=hι3 k _ (List.getElem?_eq_getElem hkl)
    rw [hfst k l hk,hi] at this;refine .inr ⟨k,b1,_,hb1,e2,hfst k l hk,?_,.inr ⟨l,hk,by rw [List.getD_eq_getElem?_getD,hH];rfl⟩⟩
    rw [List.getElem?_eq_getElem hkl];exact this.symm
  ·rw [List.getElem?_append_right (by rw [zdy];exact hge),zdy,List.getElem?_map,List.getElem?_drop] at hb
   obtain ⟨k,hk⟩:∃ k,k=σ.length + (l - H.length):=⟨_,rfl⟩
   rw [<-hk] at hb;have hkn:σ[k]?=none:=by simp;omega
   have hkl':ze4 σ H.length k=l:=by unfold ze4;rw [hkn];simp only;omega
   cases hx:Hc'[k]? with
   | none=>rw [hx] at hb;cases hb
   | some ob =>
    rw [hx] at hb;simp only [Option.map_some,Option.some.injEq] at hb;have e0:Hc'.getD k none=ob:=by rw [List.getD_eq_getElem?_getD,hx];rfl
    rw [<-e0,<- zi8 _ _ tags] at hb;obtain ⟨b1,e1,e2⟩:=zi9 hb;have hb1:(za2 tags Hc')[k]?=some (some b1):=by
     rw [List.getD_eq_getElem?_getD] at e1
     cases hy:(za2 tags Hc')[k]? with
     | none=>rw [hy] at e1;cases e1
     | some z=>rw [hy] at e1;cases e1;rfl
    have hkl:k < ι'.length:=by rw [hR'.len];exact (List.getElem?_eq_some_iff.1 hb1).1
    have:=hι3 k _ (List.getElem?_eq_getElem hkl)
    rw [hkl',hi] at this;refine .inr ⟨k,b1,none,hb1,e2,hkl',?_,.inl rfl⟩;rw [List.getElem?_eq_getElem hkl];exact this.symm
 have hown3:∀ c,zbg ι3 (zg8 σ H Hc') c->(∃ (l:Nat) (b0:ABlk) (s:Nat × Nat),(∀ k:Nat,σ[k]? ≠ some l)/\H[l]?=some (some b0)/\ι[l]?=some (some c,s))\/zbg ι' (za2 tags Hc') c:=by
  rintro c ⟨l,b,s,h1,h2⟩
  rcases hget l b _ s h1 h2 with ⟨hn,b0,h0,_,hi⟩|⟨k,b1,g,hb1,_,_,hi,_⟩
  ·exact .inl ⟨l,b0,s,hn,h0,hi⟩
  ·exact .inr ⟨k,b1,s,hb1,hi⟩
 have hrd3:∀ b,Rd B' ι' (za2 tags Hc') b->Rd B ι3 (zg8 σ H Hc') b:=fun b hb=>⟨((hB' b).1 hb.1).1,fun ho=>by
  rcases hown3 b ho with ⟨l,b0,s,hn,h1,h2⟩|ho
  ·exact ((hB' b).1 hb.1).2 ⟨l,b0,s,hn,h1,h2⟩
  ·exact hb.2 ho⟩
 have hgx:∀ b,b < w.heap.size->¬ zbg ιc (za2 tags Hc) b->w'.heap[b]?=w.heap[b]?:=fun b hb hn=>hR'.gr.block b hb hn
 have hsz:w.heap.size<=w'.heap.size:=hR'.gr.size;have hstay:∀ (k l c:Nat) (s:Nat × Nat),σ[k]?=some l->zic σ H Hc' l=false->ι[l]?=some (some c,s)->ι'[k]?=some (some c,s):=fun k l c s hk hp hi=>by
  have hps:=(zb2 hσ hk).1;unfold zic at hp;rw [hps] at hp;simp only [Bool.not_eq_false',bAT] at hp;obtain ⟨hp1,hp2⟩:=hp;rw [<-zhz (tags:=tags) (H:=Hc')] at hp2;have hbox:∀ (L:AH) (m:Nat),zoz (L.getD m none)=true->∃ (cs:List AV) (t:TypeId) (g:Option Nat),L[m]?=some (some (.box cs t g)):=fun L m hm=>by
   rw [List.getD_eq_getElem?_getD] at hm
   cases hx:L[m]? with
   | none=>rw [hx] at hm;cases hm
   | some ob =>
    rw [hx] at hm
    cases ob with
    | none=>cases hm
    | some bb =>
     cases bb with
     | box cs t g=>exact ⟨cs,t,g,rfl⟩
     | rows a b c=>cases hm
     | iter a b=>cases hm
  obtain ⟨cs,t,g,hH⟩:=hbox _ _ hp1;obtain ⟨cs1,t1,g1,hH1⟩:=hbox _ _ hp2;have hs0:=(hR.blk l _ _ s hH hi).2.1.1;have hkl:k < ι'.length:=by rw [hR'.len];exact (List.getElem?_eq_some_iff.1 hH1).1
  have hik:ι'[k]?=some ι'[k]:=List.getElem?_eq_getElem hkl;have hb1:=(hR'.blk k _ ι'[k].1 ι'[k].2 hH1 hik).2;obtain ⟨b0,h0,h1⟩:=zgh tags Hc' k _ hH1;obtain ⟨x,hx1,hx2⟩:=hcof k l hk;rw [hi] at hx2;cases hx2
  have htk:=htag k _ hx1
  rcases h1 with ⟨c0,hc0,e0⟩|⟨hc0,_⟩
  ·rw [htk] at hc0;cases hc0
   have hg1:g1=some c:=by
    cases b0 with
    | none=>cases e0
    | some b0=>cases b0 <;> simp [zzt] at e0;exact e0.2.2
   have h3:=hb1.1.2 c hg1;have h4:=hb1.1.1;rw [hik];generalize ι'[k]=y at h3 h4;obtain ⟨y1,y2⟩:=y;simp only at h3 h4;rw [h3,h4,hs0]
  ·rw [htk] at hc0;cases hc0
 have hk3:Keeps (some (zic σ H Hc')) w ι (Rd B ι H) w' ι3 (Rd B ι3 (zg8 σ H Hc')):=by
  refine ⟨hsz,fun b hb hlt=>⟨⟨hb.1,fun ho=>?_⟩,hgx b hlt fun ho=>hb.2 (hsub b ho)⟩,fun l c s hp hi=>?_⟩
  ·rcases hown3 b ho with ⟨l,b0,s,_,h1,h2⟩|ho
   ·exact hb.2 ⟨l,b0,s,h1,h2⟩
   ·rcases hR'.ge ho with ho|ho
    ·exact hb.2 (hsub b ho)
    ·change w.heap.size<=b at ho;omega
  ·have hp':=hp _ rfl
   cases hps:zgd σ l 0 with
   | none=>exact hfree l _ (zgc hps) hi
   | some k =>
    have hk:σ[k]?=some l:=by simpa using (zd9 hps).2
    have:=hι3 k _ (hstay k l c s hk hp' hi)
    rwa [hfst k l hk] at this
 have hren:∀ (k c:Nat) (s:Nat × Nat),ι'[k]?=some (some c,s)->ι3[ze4 σ H.length k]?=some (some c,s):=fun k c s hx=>hι3 k _ hx
 have hi3l:ι3.length=(zg8 σ H Hc').length:=by
  rw [<-hI];simp [zg8,zcr,zdy,hR.len,hl']
 refine ⟨ι3,⟨?_,fun b hb=>hR.fut b (by omega),hi3l,fun l b c s h1 h2=>?_,fun l l2 b b2 c s s2 h1 h2 h3 h4=>?_⟩,hk3,?_⟩
 ·refine ⟨hR'.gr.os.trans hR.gr.os,hR'.gr.tape.trans hR.gr.tape,hR'.gr.output.trans hR.gr.output,Nat.le_trans hR.size hsz,fun d hd hx=>?_⟩
  have:=hR.size
  rw [hgx d (by omega) fun ho=>?_]
  ·exact hR.gr.block d hd hx
  ·rcases hR.ge (hsub d ho) with h|h
   ·exact hx h
   ·omega
 ·rcases hget l b c s h1 h2 with ⟨hn,b0,h0,rfl,hi⟩|⟨k,b1,g,hb1,rfl,hkl,hi,hg⟩
  ·refine ⟨(hR.blk l b0 c s h0 hi).1,(hR.blk l b0 c s h0 hi).2.keep hk3 fun c' e=>?_⟩
   subst e;refine hgx c' (hR.lt ⟨l,b0,s,h0,hi⟩) fun ho=>?_
   obtain ⟨k,l',b2,s',hk,g1,g2⟩:=hownc c' ho
   have:=hR.inj l l' b0 b2 c' s s' h0 g1 hi g2
   subst this;exact hn k hk
  ·refine ⟨fun c' e=>?_,?_⟩
   ·subst e
    rcases hR'.ge ⟨k,b1,s,hb1,hi⟩ with ho|ho
    ·exact hR.ge (hsub c' ho)
    ·exact .inr (Nat.le_trans hR.size ho)
   ·have hbk:=(hR'.blk k b1 c s hb1 hi).2
    cases b1 with
    | box cs t g1 =>
     obtain ⟨⟨hs0,_⟩,c',arr,ec,hh,hz,hcs⟩:=hbk;refine ⟨⟨hs0,fun n e=>?_⟩,c',arr,ec,hh,by rw [zb4];exact hz,fun j a ha=>?_⟩
     ·rcases hg with hg|⟨l',hk,hg⟩
      ·rw [hg] at e;cases e
      ·have hl'':=hfst k l' hk;rw [hg] at e;have hHl:∃ (cs2:List AV) (t2:TypeId),H[l']?=some (some (.box cs2 t2 (some n))):=by
        rw [List.getD_eq_getElem?_getD] at e
        cases hx:H[l']? with
        | none=>rw [hx] at e;cases e
        | some ob =>
         rw [hx] at e
         cases ob with
         | none=>cases e
         | some bb =>
          cases bb with
          | box cs2 t2 g2=>simp [znx] at e;subst e;exact ⟨cs2,t2,rfl⟩
          | rows a b c=>cases e
          | iter a b=>cases e
       obtain ⟨cs2,t2,hHl⟩:=hHl;obtain ⟨y,hy⟩:=hιl l' (zb2 hσ hk).2;obtain ⟨y1,y2⟩:=y;have h5:=(hR.blk l' _ y1 y2 hHl hy).2.1.2 n rfl;subst h5;have hlp:zic σ H Hc' l'=false:=by
        unfold zic;rw [(zb2 hσ hk).1];simp only;rw [<-zhz (tags:=tags) (H:=Hc'),List.getD_eq_getElem?_getD,List.getD_eq_getElem?_getD,hHl,hb1];rfl
       have:=hstay k l' n y2 hk hlp hy
       rw [hi] at this;exact (Prod.mk.inj (Option.some.inj this)).1
     ·obtain ⟨a0,ha0,rfl⟩:=zct ha;obtain ⟨v,hv,h1',hr⟩:=hcs j a0 ha0;exact ⟨v,hv,h1',hr.ren hren fun b hb _=>hrd3 b hb⟩
    | rows s1 rs t =>
     obtain ⟨e,hl2,hh⟩:=hbk;refine ⟨e,hl2,?_⟩
     rcases hh with hh|⟨c',arr,ec,hh,hz,hcs⟩
     ·exact .inl hh
     ·refine .inr ⟨c',arr,ec,hh,hz,fun i j row a g1 g2=>?_⟩
      obtain ⟨v,hv,h1',hr⟩:=hcs i j row a g1 g2;exact ⟨v,hv,h1',hr.keep (nR _) fun b hb _=>⟨hrd3 b hb,rfl⟩⟩
    | iter s1 p1=>exact hbk
 ·rcases hget l b _ s h1 h3 with ⟨hn,b0,h0,_,hi⟩|⟨k,b1,g,hb1,_,hkl,hi,_⟩
  ·rcases hget l2 b2 _ s2 h2 h4 with ⟨hn2,b02,h02,_,hi2⟩|⟨k2,b12,g2,hb12,_,hkl2,hi2,_⟩
   ·exact hR.inj l l2 b0 b02 c s s2 h0 h02 hi hi2
   ·exfalso
    rcases hR'.ge ⟨k2,b12,s2,hb12,hi2⟩ with ho|ho
    ·obtain ⟨k,l',b3,s',hk,g1,g2⟩:=hownc c ho
     have:=hR.inj l l' b0 b3 c s s' h0 g1 hi g2
     subst this;exact hn k hk
    ·have:=hR.lt ⟨l,b0,s,h0,hi⟩
     change w.heap.size<=c at ho;omega
  ·rcases hget l2 b2 _ s2 h2 h4 with ⟨hn2,b02,h02,_,hi2⟩|⟨k2,b12,g2,hb12,_,hkl2,hi2,_⟩
   ·exfalso
    rcases hR'.ge ⟨k,b1,s,hb1,hi⟩ with ho|ho
    ·obtain ⟨k',l',b3,s',hk,g1,g2⟩:=hownc c ho
     have:=hR.inj l2 l' b02 b3 c s2 s' h02 g1 hi2 g2
     subst this;exact hn2 k' hk
    ·have:=hR.lt ⟨l2,b02,s2,h02,hi2⟩
     change w.heap.size<=c at ho;omega
   ·have:=hR'.inj k k2 b1 b12 c s s2 hb1 hb12 hi hi2
    subst this;rw [<-hkl,<- hkl2]
 ·cases hrp:r.isPan with
  | true =>
   cases r with
   | p x =>
    cases x with
    | pan ch=>exact hE
    | _=>cases hrp
   | _=>cases hrp
  | false =>
   obtain ⟨v,rfl,hv⟩:=hE.val hrp;exact .ret (hv.ren hren fun b hb _=>hrd3 b hb)
def zkg (kp:Nat->Bool) (σ:List Nat) (H Hc':AH):Nat->Bool:=fun l=>match zgd σ l 0 with
 | some k=>!(kp k || (zoz (H.getD l none) && zoz (Hc'.getD k none)))
 | none=>false
def zfs (kp:Nat->Bool) (σ:List Nat) (H Hc':AH):AH:=zpc σ (ze4 σ H.length) (zkg kp σ H Hc') Hc' 0 H++(Hc'.drop σ.length).map (zpp (ze4 σ H.length) none)
theorem zqh {kp:Nat->Bool} {w:World} {ι:Pl} {H:AH} (hR:Rel w0 B w ι H) (hC:Can G w0 B w ι H) {f:FuncId} {as:List AV} {Hc:AH} {r:AV} {Hc':AH} (h:zv7 P G f as Hc r Hc' kp) {σ:List Nat}
  (hσ:zs6 σ H.length=true) (hlen:σ.length=Hc.length) (hpick:σ.map (fun l=>zhb (H.getD l none))=Hc.map (zpp (ze4 σ H.length) none)) (hlo:zeq σ.length Hc=true) (hla:AV.low.lowL σ.length as=true)
  {args:List Value} (hal:as.length=args.length) (hargs:∀ (j:Nat) (a:AV) (v:Value),as[j]?=some a->args[j]?=some v->Rep w ι (Rd B ι H) (a.ren (ze4 σ H.length)) v) :
  Calls P f args.toArray w fun e w'=>∃ ι',Rel w0 B w' ι' (zfs kp σ H Hc')/\Keeps (some (zkg kp σ H Hc')) w ι (Rd B ι H) w' ι' (Rd B ι' (zfs kp σ H Hc'))/\zgx w' ι' (Rd B ι' (zfs kp σ H Hc')) (r.ren (ze4 σ H.length)) e:=by
 have hιl:∀ l:Nat,l < H.length->∃ x,ι[l]?=some x:=fun l hl=>⟨_,List.getElem?_eq_getElem (by rw [hR.len];exact hl)⟩
 generalize hιc:σ.map (fun l=>ι.getD l (none,0,0))=ιc
 generalize htg:ιc.map (fun x=>x.1.getD 0)=tags
 have hcl:ιc.length=σ.length:=by rw [<-hιc];simp
 have htl:tags.length=Hc.length:=by rw [<-htg];simp [hcl,hlen]
 have hcat:∀ (k:Nat) (x:Option Nat × Nat × Nat),ιc[k]?=some x->∃ l,σ[k]?=some l/\ι[l]?=some x:=fun k x hx=>by
  rw [<-hιc,List.getElem?_map] at hx
  cases hk:σ[k]? with
  | none=>rw [hk] at hx;cases hx
  | some l =>
   rw [hk] at hx;obtain ⟨y,hy⟩:=hιl l (zb2 hσ hk).2;simp only [Option.map_some,Option.some.injEq,List.getD_eq_getElem?_getD,hy,Option.getD_some] at hx;subst hx;exact ⟨l,by first|rfl|exact hk,hy⟩
 have hcof:∀ (k l:Nat),σ[k]?=some l->∃ x,ιc[k]?=some x/\ι[l]?=some x:=fun k l hk=>by
  obtain ⟨y,hy⟩:=hιl l (zb2 hσ hk).2;refine ⟨y,?_,hy⟩;rw [<-hιc,List.getElem?_map,hk];simp [List.getD_eq_getElem?_getD,hy]
 have htag:∀ (k:Nat) (x:Option Nat × Nat × Nat),ιc[k]?=some x->tags[k]?=some (x.1.getD 0):=fun k x hx=>by
  rw [<-htg,List.getElem?_map,hx];rfl
 have hblk:∀ (k:Nat) (b:ABlk) (l:Nat),(za2 tags Hc)[k]?=some (some b)->σ[k]?=some l->∃ (b2 b0:ABlk),H[l]?=some (some b2)/\Hc[k]?=some (some b0)/\zhb (some b2)=some (z2s (ze4 σ H.length) none b0)/\∃ c,tags[k]?=some c/\some b=zzt c (some b0):=fun k b l hb hk=>by
  obtain ⟨b0,h0,h1⟩:=zgh tags Hc k _ hb;have hkl:k < tags.length:=by rw [htl,<- hlen];exact (List.getElem?_eq_some_iff.1 hk).1
  rcases h1 with ⟨c,hc,e⟩|⟨hc,_⟩
  ·cases b0 with
   | none=>cases e
   | some b0 =>
    have hp:=congrArg (fun L=>L[k]?) hpick
    simp only [List.getElem?_map,hk,h0,Option.map_some,Option.some.injEq,zpp] at hp;rw [List.getD_eq_getElem?_getD] at hp
    cases hH:H[l]? with
    | none=>rw [hH] at hp;cases hp
    | some ob =>
     rw [hH] at hp
     cases ob with
     | none=>cases hp
     | some b2=>exact ⟨b2,b0,by first|rfl|exact hH,h0,hp,c,hc,e⟩
  ·rw [List.getElem?_eq_getElem hkl] at hc;cases hc
 have hlσ:∀ (k:Nat) (b:Option ABlk),(za2 tags Hc)[k]?=some b->∃ l,σ[k]?=some l:=fun k b hb=>by
  have:=(List.getElem?_eq_some_iff.1 hb).1
  rw [zc4,<- hlen] at this;exact ⟨_,List.getElem?_eq_getElem this⟩
 have hownc:∀ c,zbg ιc (za2 tags Hc) c->∃ (k l:Nat) (b2:ABlk) (s:Nat × Nat),σ[k]?=some l/\H[l]?=some (some b2)/\ι[l]?=some (some c,s):=by
  rintro c ⟨k,b,s,h1,h2⟩
  obtain ⟨l,hl,hi⟩:=hcat k _ h2;obtain ⟨b2,b0,h3,_⟩:=hblk k b l h1 hl;exact ⟨k,l,b2,s,hl,h3,hi⟩
 have hsub:∀ c,zbg ιc (za2 tags Hc) c->zbg ι H c:=fun c hc=>by
  obtain ⟨k,l,b2,s,_,h1,h2⟩:=hownc c hc;exact ⟨l,b2,s,h1,h2⟩
 obtain ⟨B',hB'⟩:∃ B':Nat->Prop,∀ b,B' b ↔ (B b/\¬ ∃ (l:Nat) (b2:ABlk) (s:Nat × Nat),(∀ k:Nat,σ[k]? ≠ some l)/\H[l]?=some (some b2)/\ι[l]?=some (some b,s)):=⟨_,fun _=>Iff.rfl⟩
 have hrd:∀ b,Rd B ι H b->Rd B' ιc (za2 tags Hc) b:=fun b hb=>⟨(hB' b).2 ⟨hb.1,fun ⟨l,b2,s,_,h1,h2⟩=>hb.2 ⟨l,b2,s,h1,h2⟩⟩,fun ho=>hb.2 (hsub b ho)⟩
 have hnew:∀ b,w.heap.size<=b->B' b:=fun b hb=>(hB' b).2 ⟨hR.fut b hb,fun ⟨l,b2,s,_,h1,h2⟩=>by have:=hR.lt ⟨l,b2,s,h1,h2⟩;omega⟩
 have hlent:∀ b,zbg ιc (za2 tags Hc) b->B' b:=fun b hb=>by
  obtain ⟨k,l,b2,s,hk,h1,h2⟩:=hownc b hb;refine (hB' b).2 ⟨hC.own b (hR.ge ⟨l,b2,s,h1,h2⟩),fun ⟨l',b3,s',hn,h3,h4⟩=>?_⟩
  have:=hR.inj l l' b2 b3 b s s' h1 h3 h2 h4
  subst this;exact hn k hk
 have hRc:Rel ⟨w,zbg ιc (za2 tags Hc),[],fun _=>none⟩ B' w ιc (za2 tags Hc):=by
  refine ⟨⟨rfl,rfl,rfl,nR _,fun _ _ _=>rfl⟩,hnew,by rw [zc4,hcl,hlen],fun k b c s h1 h2=>?_,fun k k' b b' c s s' h1 h2 h3 h4=>?_⟩
  ·refine ⟨fun c' e=>.inl ⟨k,b,s,h1,by rw [h2,e]⟩,?_⟩
   obtain ⟨l,hl,hi⟩:=hcat k _ h2;obtain ⟨b2,b0,h3,h0,hs,t,ht,hb⟩:=hblk k b l h1 hl;have hbk:=(hR.blk l b2 c s h3 hi).2;have hlow0:=zjo hlo h0;have hun:∀ (k' c':Nat) (s':Nat × Nat),k' < σ.length->ι[ze4 σ H.length k']?=some (some c',s')->ιc[k']?=some (some c',s'):=fun k' c' s' hk' hx=>by
    have hσk:σ[k']?=some σ[k']:=List.getElem?_eq_getElem hk';obtain ⟨x,hx1,hx2⟩:=hcof k' _ hσk;unfold ze4 at hx;rw [hσk] at hx;simp only at hx;rw [hx2] at hx;cases hx
    exact hx1
   cases b2 with
   | box cs t2 g2 =>
    cases b0 with
    | box cs0 t0 g0 =>
     simp only [zhb,z2s,Option.some.injEq,ABlk.box.injEq] at hs;obtain ⟨rfl,rfl,_⟩:=hs;simp only [zzt,Option.some.injEq] at hb;subst hb;obtain ⟨⟨hs0,hg⟩,c',arr,ec,hh,hsz,hcs⟩:=hbk;refine ⟨⟨hs0,fun n e=>?_⟩,c',arr,ec,hh,by rw [hsz,zb4],fun j a ha=>?_⟩
     ·have:=htag k _ h2
      rw [ht] at this
      cases e
      rw [Option.some.inj this,ec];rfl
     ·obtain ⟨v,hv,h1',hr⟩:=hcs j (a.ren _) (by rw [zc5,ha];rfl)
      exact ⟨v,hv,h1',hr.unren hun (fun b hb _=>hrd b hb) a rfl (zb5 hlow0 ha)⟩
    | rows s0 rs0 t0=>cases hs
    | iter s0 p0=>cases hs
   | rows s2 rs2 t2 =>
    cases b0 with
    | box cs0 t0 g0=>cases hs
    | rows s0 rs0 t0 =>
     cases hs
     cases hb
     obtain ⟨e,hl2,hh⟩:=hbk;refine ⟨e,hl2,?_⟩
     rcases hh with hh|⟨c',arr,ec,hh,hz,hcs⟩
     ·exact .inl hh
     ·refine .inr ⟨c',arr,ec,hh,hz,fun i j row a g1 g2=>?_⟩
      obtain ⟨v,hv,h1',hr⟩:=hcs i j row a g1 g2;exact ⟨v,hv,h1',hr.keep (nR _) fun b hb _=>⟨hrd b hb,rfl⟩⟩
    | iter s0 p0=>cases hs
   | iter s2 p2 =>
    cases b0 with
    | box cs0 t0 g0=>cases hs
    | rows s0 rs0 t0=>cases hs
    | iter s0 p0 =>
     cases hs
     cases hb
     exact hbk
  ·obtain ⟨l,hl,hi⟩:=hcat k _ h3;obtain ⟨l',hl',hi'⟩:=hcat k' _ h4;obtain ⟨b2,_,g1,_⟩:=hblk k b l h1 hl;obtain ⟨b3,_,g2,_⟩:=hblk k' b' l' h2 hl'
   have:=hR.inj l l' b2 b3 c s s' g1 g2 hi hi'
   subst this;have e1:=(zb2 hσ hl).1;rw [(zb2 hσ hl').1] at e1;exact (Option.some.inj e1).symm
 have hCc:Can G ⟨w,zbg ιc (za2 tags Hc),[],fun _=>none⟩ B' w ιc (za2 tags Hc) :=
  ⟨fun w' hg=>hC.stab w' ⟨hg.os,hg.tape,hg.output,hg.size,fun k hk hx=>hg.block k hk fun ho=>hx (hsub k ho)⟩,fun b hb=>hb.elim (hlent b) (hnew b)⟩
 have hfst:∀ (k l:Nat),σ[k]?=some l->ze4 σ H.length k=l:=fun k l hk=>by unfold ze4;rw [hk]
 refine (h.2 B' w ιc args tags htl hCc hRc hal fun j a v ha hv=>(hargs j a v ha hv).unren (m:=σ.length) (fun k' c' s' hk' hx=>?_) (fun b hb _=>hrd b hb) a rfl (zb5 hla ha)).mono ?_
 ·have hσk:σ[k']?=some σ[k']:=List.getElem?_eq_getElem hk';obtain ⟨x,hx1,hx2⟩:=hcof k' _ hσk;rw [hfst k' _ hσk,hx2] at hx;cases hx
  exact hx1
 rintro e w' ⟨ι',hR',hE,hkeep⟩
 have hl':ι'.length=Hc'.length:=by rw [hR'.len,zc4]
 have hι3:∀ (k:Nat) (x:Option Nat × Nat × Nat),ι'[k]?=some x->(zko σ ι' 0 ι++ι'.drop σ.length)[ze4 σ H.length k]?=some x:=fun k x hx=>by
  cases hk:σ[k]? with
  | some l =>
   rw [hfst k l hk];have hll:=(zb2 hσ hk).2;rw [List.getElem?_append_left (by rw [zcr,hR.len];exact hll),zhs]
   obtain ⟨y,hy⟩:=hιl l hll;rw [hy];simp [(zb2 hσ hk).1,List.getD_eq_getElem?_getD,hx]
  | none =>
   have hge:σ.length<=k:=by simpa using hk
   unfold ze4;rw [hk];simp only;rw [List.getElem?_append_right (by rw [zcr,hR.len];omega),zcr,hR.len,List.getElem?_drop,show σ.length + (H.length + (k - σ.length) - H.length)=k by omega]
   exact hx
 have hfree:∀ (l:Nat) (x:Option Nat × Nat × Nat),(∀ k:Nat,σ[k]? ≠ some l)->ι[l]?=some x->(zko σ ι' 0 ι++ι'.drop σ.length)[l]?=some x:=fun l x hn hx=>by
  have hll:l < ι.length:=(List.getElem?_eq_some_iff.1 hx).1;rw [List.getElem?_append_left (by rw [zcr];exact hll),zhs,hx]
  cases hp:zgd σ l 0 with
  | none=>simp [hp]
  | some k=>exact absurd (by simpa using (zd9 hp).2) (hn k)
 generalize hI:zko σ ι' 0 ι++ι'.drop σ.length=ι3 at hι3 hfree;have hget:∀ (l:Nat) (b:ABlk) (c:Option Nat) (s:Nat × Nat),(zfs kp σ H Hc')[l]?=some (some b)->ι3[l]?=some (c,s) →
   ((∀ k:Nat,σ[k]? ≠ some l)/\∃ b0:ABlk,H[l]?=some (some b0)/\b=znn (some (zkg kp σ H Hc')) b0/\ι[l]?=some (c,s)) ∨
   (∃ (k:Nat) (b1:ABlk) (g:Option Nat),(za2 tags Hc')[k]?=some (some b1)/\b=z2s (ze4 σ H.length) g b1/\ze4 σ H.length k=l/\ι'[k]?=some (c,s)/\(g=none\/∃ l':Nat,σ[k]?=some l'/\g=znx (H.getD l' none))):=by
  intro l b c s hb hi;unfold zfs at hb
  rcases Nat.lt_or_ge l H.length with hll|hge
  ·rw [List.getElem?_append_left (by rw [zdy];exact hll),zmv] at hb
   have hH:H[l]?=some H[l]:=List.getElem?_eq_getElem hll;rw [hH] at hb;simp only [Option.map_some,Nat.zero_add,Option.some.injEq] at hb
   cases hp:zgd σ l 0 with
   | none =>
    rw [hp] at hb;simp only at hb;have hn:=zgc hp;refine .inl ⟨hn,?_⟩;obtain ⟨y,hy⟩:=hιl l hll
    have:=hfree l y hn hy
    rw [hi] at this;cases this
    obtain ⟨b0,h0,e0⟩:=ze7 (p:=zkg kp σ H Hc') (l:=l) (H:=H) (b:=b) (by rw [List.getElem?_map,hH];simpa using hb)
    exact ⟨b0,h0,e0,hy⟩
   | some k =>
    rw [hp] at hb;simp only at hb;have hk:σ[k]?=some l:=by simpa using (zd9 hp).2
    rw [<-zi8 _ _ tags] at hb;obtain ⟨b1,e1,e2⟩:=zi9 hb;have hb1:(za2 tags Hc')[k]?=some (some b1):=by
     rw [List.getD_eq_getElem?_getD] at e1
     cases hx:(za2 tags Hc')[k]? with
     | none=>rw [hx] at e1;cases e1
     | some z=>rw [hx] at e1;cases e1;rfl
    have hkl:k < ι'.length:=by rw [hR'.len];exact (List.getElem?_eq_some_iff.1 hb1).1
    have:=hι3 k _ (List.getElem?_eq_getElem hkl)
    rw [hfst k l hk,hi] at this;refine .inr ⟨k,b1,_,hb1,e2,hfst k l hk,?_,.inr ⟨l,hk,by rw [List.getD_eq_getElem?_getD,hH];rfl⟩⟩
    rw [List.getElem?_eq_getElem hkl];exact this.symm
  ·rw [List.getElem?_append_right (by rw [zdy];exact hge),zdy,List.getElem?_map,List.getElem?_drop] at hb
   obtain ⟨k,hk⟩:∃ k,k=σ.length + (l - H.length):=⟨_,rfl⟩
   rw [<-hk] at hb;have hkn:σ[k]?=none:=by simp;omega
   have hkl':ze4 σ H.length k=l:=by unfold ze4;rw [hkn];simp only;omega
   cases hx:Hc'[k]? with
   | none=>rw [hx] at hb;cases hb
   | some ob =>
    rw [hx] at hb;simp only [Option.map_some,Option.some.injEq] at hb;have e0:Hc'.getD k none=ob:=by rw [List.getD_eq_getElem?_getD,hx];rfl
    rw [<-e0,<- zi8 _ _ tags] at hb;obtain ⟨b1,e1,e2⟩:=zi9 hb;have hb1:(za2 tags Hc')[k]?=some (some b1):=by
     rw [List.getD_eq_getElem?_getD] at e1
     cases hy:(za2 tags Hc')[k]? with
     | none=>rw [hy] at e1;cases e1
     | some z=>rw [hy] at e1;cases e1;rfl
    have hkl:k < ι'.length:=by rw [hR'.len];exact (List.getElem?_eq_some_iff.1 hb1).1
    have:=hι3 k _ (List.getElem?_eq_getElem hkl)
    rw [hkl',hi] at this;refine .inr ⟨k,b1,none,hb1,e2,hkl',?_,.inl rfl⟩;rw [List.getElem?_eq_getElem hkl];exact this.symm
 have hown3:∀ c,zbg ι3 (zfs kp σ H Hc') c->(∃ (l:Nat) (b0:ABlk) (s:Nat × Nat),(∀ k:Nat,σ[k]? ≠ some l)/\H[l]?=some (some b0)/\ι[l]?=some (some c,s))\/zbg ι' (za2 tags Hc') c:=by
  rintro c ⟨l,b,s,h1,h2⟩
  rcases hget l b _ s h1 h2 with ⟨hn,b0,h0,_,hi⟩|⟨k,b1,g,hb1,_,_,hi,_⟩
  ·exact .inl ⟨l,b0,s,hn,h0,hi⟩
  ·exact .inr ⟨k,b1,s,hb1,hi⟩
 have hrd3:∀ b,Rd B' ι' (za2 tags Hc') b->Rd B ι3 (zfs kp σ H Hc') b:=fun b hb=>⟨((hB' b).1 hb.1).1,fun ho=>by
  rcases hown3 b ho with ⟨l,b0,s,hn,h1,h2⟩|ho
  ·exact ((hB' b).1 hb.1).2 ⟨l,b0,s,hn,h1,h2⟩
  ·exact hb.2 ho⟩
 have hgx:∀ b,b < w.heap.size->¬ zbg ιc (za2 tags Hc) b->w'.heap[b]?=w.heap[b]?:=fun b hb hn=>hR'.gr.block b hb hn
 have hsz:w.heap.size<=w'.heap.size:=hR'.gr.size;have hstay:∀ (k l c:Nat) (s:Nat × Nat),σ[k]?=some l->zkg kp σ H Hc' l=false->ι[l]?=some (some c,s)->ι'[k]?=some (some c,s):=fun k l c s hk hp hi=>by
  have hps:=(zb2 hσ hk).1;unfold zkg at hp;rw [hps] at hp;simp only [Bool.not_eq_false',Bool.or_eq_true,bAT] at hp
  rcases hp with hp|⟨hp1,hp2⟩
  ·obtain ⟨x,hx1,hx2⟩:=hcof k l hk;rw [hi] at hx2
   cases hx2
   exact hkeep k c s hp hx1
  rw [<-zhz (tags:=tags) (H:=Hc')] at hp2;have hbox:∀ (L:AH) (m:Nat),zoz (L.getD m none)=true->∃ (cs:List AV) (t:TypeId) (g:Option Nat),L[m]?=some (some (.box cs t g)):=fun L m hm=>by
   rw [List.getD_eq_getElem?_getD] at hm
   cases hx:L[m]? with
   | none=>rw [hx] at hm;cases hm
   | some ob =>
    rw [hx] at hm
    cases ob with
    | none=>cases hm
    | some bb =>
     cases bb with
     | box cs t g=>exact ⟨cs,t,g,rfl⟩
     | rows a b c=>cases hm
     | iter a b=>cases hm
  obtain ⟨cs,t,g,hH⟩:=hbox _ _ hp1;obtain ⟨cs1,t1,g1,hH1⟩:=hbox _ _ hp2;have hs0:=(hR.blk l _ _ s hH hi).2.1.1;have hkl:k < ι'.length:=by rw [hR'.len];exact (List.getElem?_eq_some_iff.1 hH1).1
  have hik:ι'[k]?=some ι'[k]:=List.getElem?_eq_getElem hkl;have hb1:=(hR'.blk k _ ι'[k].1 ι'[k].2 hH1 hik).2;obtain ⟨b0,h0,h1⟩:=zgh tags Hc' k _ hH1;obtain ⟨x,hx1,hx2⟩:=hcof k l hk;rw [hi] at hx2;cases hx2
  have htk:=htag k _ hx1
  rcases h1 with ⟨c0,hc0,e0⟩|⟨hc0,_⟩
  ·rw [htk] at hc0;cases hc0
   have hg1:g1=some c:=by
    cases b0 with
    | none=>cases e0
    | some b0=>cases b0 <;> simp [zzt] at e0;exact e0.2.2
   have h3:=hb1.1.2 c hg1;have h4:=hb1.1.1;rw [hik];generalize ι'[k]=y at h3 h4;obtain ⟨y1,y2⟩:=y;simp only at h3 h4;rw [h3,h4,hs0]
  ·rw [htk] at hc0;cases hc0
 have hk3:Keeps (some (zkg kp σ H Hc')) w ι (Rd B ι H) w' ι3 (Rd B ι3 (zfs kp σ H Hc')):=by
  refine ⟨hsz,fun b hb hlt=>⟨⟨hb.1,fun ho=>?_⟩,hgx b hlt fun ho=>hb.2 (hsub b ho)⟩,fun l c s hp hi=>?_⟩
  ·rcases hown3 b ho with ⟨l,b0,s,_,h1,h2⟩|ho
   ·exact hb.2 ⟨l,b0,s,h1,h2⟩
   ·rcases hR'.ge ho with ho|ho
    ·exact hb.2 (hsub b ho)
    ·change w.heap.size<=b at ho;omega
  ·have hp':=hp _ rfl
   cases hps:zgd σ l 0 with
   | none=>exact hfree l _ (zgc hps) hi
   | some k =>
    have hk:σ[k]?=some l:=by simpa using (zd9 hps).2
    have:=hι3 k _ (hstay k l c s hk hp' hi)
    rwa [hfst k l hk] at this
 have hren:∀ (k c:Nat) (s:Nat × Nat),ι'[k]?=some (some c,s)->ι3[ze4 σ H.length k]?=some (some c,s):=fun k c s hx=>hι3 k _ hx
 have hi3l:ι3.length=(zfs kp σ H Hc').length:=by
  rw [<-hI];simp [zfs,zcr,zdy,hR.len,hl']
 refine ⟨ι3,⟨?_,fun b hb=>hR.fut b (by omega),hi3l,fun l b c s h1 h2=>?_,fun l l2 b b2 c s s2 h1 h2 h3 h4=>?_⟩,hk3,?_⟩
 ·refine ⟨hR'.gr.os.trans hR.gr.os,hR'.gr.tape.trans hR.gr.tape,hR'.gr.output.trans hR.gr.output,Nat.le_trans hR.size hsz,fun d hd hx=>?_⟩
  have:=hR.size
  rw [hgx d (by omega) fun ho=>?_]
  ·exact hR.gr.block d hd hx
  ·rcases hR.ge (hsub d ho) with h|h
   ·exact hx h
   ·omega
 ·rcases hget l b c s h1 h2 with ⟨hn,b0,h0,rfl,hi⟩|⟨k,b1,g,hb1,rfl,hkl,hi,hg⟩
  ·refine ⟨(hR.blk l b0 c s h0 hi).1,(hR.blk l b0 c s h0 hi).2.keep hk3 fun c' e=>?_⟩
   subst e;refine hgx c' (hR.lt ⟨l,b0,s,h0,hi⟩) fun ho=>?_
   obtain ⟨k,l',b2,s',hk,g1,g2⟩:=hownc c' ho
   have:=hR.inj l l' b0 b2 c' s s' h0 g1 hi g2
   subst this;exact hn k hk
  ·refine ⟨fun c' e=>?_,?_⟩
   ·subst e
    rcases hR'.ge ⟨k,b1,s,hb1,hi⟩ with ho|ho
    ·exact hR.ge (hsub c' ho)
    ·exact .inr (Nat.le_trans hR.size ho)
   ·have hbk:=(hR'.blk k b1 c s hb1 hi).2
    cases b1 with
    | box cs t g1 =>
     obtain ⟨⟨hs0,_⟩,c',arr,ec,hh,hz,hcs⟩:=hbk;refine ⟨⟨hs0,fun n e=>?_⟩,c',arr,ec,hh,by rw [zb4];exact hz,fun j a ha=>?_⟩
     ·rcases hg with hg|⟨l',hk,hg⟩
      ·rw [hg] at e;cases e
      ·have hl'':=hfst k l' hk;rw [hg] at e;have hHl:∃ (cs2:List AV) (t2:TypeId),H[l']?=some (some (.box cs2 t2 (some n))):=by
        rw [List.getD_eq_getElem?_getD] at e
        cases hx:H[l']? with
        | none=>rw [hx] at e;cases e
        | some ob =>
         rw [hx] at e
         cases ob with
         | none=>cases e
         | some bb =>
          cases bb with
          | box cs2 t2 g2=>simp [znx] at e;subst e;exact ⟨cs2,t2,rfl⟩
          | rows a b c=>cases e
          | iter a b=>cases e
       obtain ⟨cs2,t2,hHl⟩:=hHl;obtain ⟨y,hy⟩:=hιl l' (zb2 hσ hk).2;obtain ⟨y1,y2⟩:=y;have h5:=(hR.blk l' _ y1 y2 hHl hy).2.1.2 n rfl;subst h5;have hlp:zkg kp σ H Hc' l'=false:=by
        unfold zkg;rw [(zb2 hσ hk).1];simp only;rw [<-zhz (tags:=tags) (H:=Hc'),List.getD_eq_getElem?_getD,List.getD_eq_getElem?_getD,hHl,hb1];simp [zoz]
       have:=hstay k l' n y2 hk hlp hy
       rw [hi] at this;exact (Prod.mk.inj (Option.some.inj this)).1
     ·obtain ⟨a0,ha0,rfl⟩:=zct ha;obtain ⟨v,hv,h1',hr⟩:=hcs j a0 ha0;exact ⟨v,hv,h1',hr.ren hren fun b hb _=>hrd3 b hb⟩
    | rows s1 rs t =>
     obtain ⟨e,hl2,hh⟩:=hbk;refine ⟨e,hl2,?_⟩
     rcases hh with hh|⟨c',arr,ec,hh,hz,hcs⟩
     ·exact .inl hh
     ·refine .inr ⟨c',arr,ec,hh,hz,fun i j row a g1 g2=>?_⟩
      obtain ⟨v,hv,h1',hr⟩:=hcs i j row a g1 g2;exact ⟨v,hv,h1',hr.keep (nR _) fun b hb _=>⟨hrd3 b hb,rfl⟩⟩
    | iter s1 p1=>exact hbk
 ·rcases hget l b _ s h1 h3 with ⟨hn,b0,h0,_,hi⟩|⟨k,b1,g,hb1,_,hkl,hi,_⟩
  ·rcases hget l2 b2 _ s2 h2 h4 with ⟨hn2,b02,h02,_,hi2⟩|⟨k2,b12,g2,hb12,_,hkl2,hi2,_⟩
   ·exact hR.inj l l2 b0 b02 c s s2 h0 h02 hi hi2
   ·exfalso
    rcases hR'.ge ⟨k2,b12,s2,hb12,hi2⟩ with ho|ho
    ·obtain ⟨k,l',b3,s',hk,g1,g2⟩:=hownc c ho
     have:=hR.inj l l' b0 b3 c s s' h0 g1 hi g2
     subst this;exact hn k hk
    ·have:=hR.lt ⟨l,b0,s,h0,hi⟩
     change w.heap.size<=c at ho;omega
  ·rcases hget l2 b2 _ s2 h2 h4 with ⟨hn2,b02,h02,_,hi2⟩|⟨k2,b12,g2,hb12,_,hkl2,hi2,_⟩
   ·exfalso
    rcases hR'.ge ⟨k,b1,s,hb1,hi⟩ with ho|ho
    ·obtain ⟨k',l',b3,s',hk,g1,g2⟩:=hownc c ho
     have:=hR.inj l2 l' b02 b3 c s2 s' h02 g1 hi2 g2
     subst this;exact hn2 k' hk
    ·have:=hR.lt ⟨l2,b02,s2,h02,hi2⟩
     change w.heap.size<=c at ho;omega
   ·have:=hR'.inj k k2 b1 b12 c s s2 hb1 hb12 hi hi2
    subst this;rw [<-hkl,<- hkl2]
 ·cases hrp:r.isPan with
  | true =>
   cases r with
   | p x =>
    cases x with
    | pan ch=>exact hE
    | _=>cases hrp
   | _=>cases hrp
  | false =>
   obtain ⟨v,rfl,hv⟩:=hE.val hrp;exact .ret (hv.ren hren fun b hb _=>hrd3 b hb)
end
/- Own work: a walk over values as data: operations,regions,control;its soundness for what is run in the order of the text. -/
def zde (sc:Option (Nat->Bool)) (env:List AV):List AV:=match sc with
 | none=>env
 | some k=>env.map (AV.scrub k)
def zj3 (env:List AV) (d:Option Tmp) (a:AV):List AV:=match d with
 | some t=>env.set t a
 | none=>env
def gbool:Value->Option Bool
 | .bool b=>some b
 | _=>none
def z5g (all:List Oper) (env:List AV) (j:Nat):Option (Option Bool):=match (all[j]?).bind (·.dst) with
 | some t=>(match env.getD t .junk with
  | .p (.v x)=>some (gbool x)
  | _=>none)
 | none=>none
def zqk (want:Bool) (b:Option Bool):Bool:=match b with
 | none=>false
 | some b=>(match want with
  | true=>b
  | false=>!b)
theorem zh1 {want:Bool} {b:Option Bool} (h:zqk want b=true):b=some want:=by
 cases b with
 | none=>simp [zqk] at h
 | some b=>cases want <;> cases b <;> simp [zqk] at h <;> rfl
theorem zgn {want:Bool} {b:Option Bool} (h:zqk want b=false):b ≠ some want:=by
 cases b with
 | none=>simp
 | some b=>cases want <;> cases b <;> simp [zqk] at h <;> simp
def isW:Op->Bool
 | .alloc _=>true
 | .box _ _=>true
 | .store _ _ _=>true
 | .buildSlice _ _ _=>true
 | .makeSlice _ _ _=>true
 | .range _ _=>true
 | .next _ _=>true
 | .call c=>(match c.callee with
  | .builtin .append=>true
  | _=>false)
 | _=>false
def asrc (E:SO) (es:Nat) (H:AH) (y:AV) (K:List (List PV)->Nat->Prop):Prop :=
 match y with
 | .p (.ro s rows)=>s=es/\K rows rows.length
 | .osl k2 i2 m=>(match H[k2]? with
  | some (some (.rows s rs _))=>s=es/\E.pre i2 m rs/\K (E.sub rs i2 m) m
  | _=>False)
 | .p (.v (.slice none 0 _))=>K [] 0
 | _=>False
def z5y (E:SO) (T:TT) (env:List AV) (H:AH) (x y:Operand) (t u:TypeId) (K:AV->AH->Option (Nat->Bool)->Prop):Prop :=
 match T t,T u,aev env x,aev env y with
 | some ti,some ui,.osl k 0 n,.p (.v (.string s))=>(match ti.desc,ui.desc,H[k]? with
  | .slice e,.string,some (some (.rows s' rs e'))=>(match T e with
   | some te=>(match te.zero,te.size,te.bytes with
    | .int .u8 (Int.ofNat 0),1,1=>s'=1/\e'=e/\E.pre 0 n rs/\E.room n (E.nat (E.size s)) 1/\K (.osl k 0 (E.addN n (E.nat (E.size s)))) ((H.map (zar (one k))).set k (some (.rows 1 (E.app rs n (E.brows s)) e))) (some (one k))
    | _,_,_=>False)
   | none=>False)
  | _,_,_=>False)
 | _,_,_,_=>False
def zzm (E:SO) (T:TT) (env:List AV) (H:AH) (c:Call) (K:AV->AH->Option (Nat->Bool)->Prop):Prop :=
 match c.args.toList,c.argTypes.toList with
 | [x,y],[t,t']=>if t=t' then (match T t with
  | some ti=>(match ti.desc with
   | .slice e=>(match T e with
    | some te=>if te.zero.cells.size=te.size/\0 < te.size then asrc E te.size H (aev env y) fun rows c=>(match aev env x with
     | .osl k 0 n=>(match H[k]? with
      | some (some (.rows s rs e'))=>s=te.size/\e'=e/\E.pre 0 n rs/\E.room n c te.bytes ∧
        K (.osl k 0 (E.addN n c)) ((H.map (zar (one k))).set k (some (.rows te.size (E.app rs n rows) e))) (some (one k))
      | _=>False)
     | .p (.v (.slice none 0 0))=>E.room 0 c te.bytes ∧
       K (.osl H.length 0 c) (((H++[some (ABlk.rows te.size [] e)]).map (zar (one H.length))).set H.length (some (ABlk.rows te.size rows e))) none
     | _=>False) else False
    | none=>False)
   | _=>False)
  | none=>False) else z5y E T env H x y t t' K
 | _,_=>False
def aw (E:SO) (T:TT) (o:Oper) (env:List AV) (H:AH) (K:AV->AH->Option (Nat->Bool)->Prop):Prop :=
 match o.op with
 | .alloc t=>(match T t with
  | some i=>if i.zero.cells.toList.all (·.oneCell')=true then K (.own H.length 0) (H++[some (.box (i.zero.cells.toList.map fun x=>.p (.v x)) t none)]) none else False
  | none=>False)
 | .box t x=>if zgl (aev env x)=true then K (.own H.length 0) (H++[some (.box (zba (aev env x)) t none)]) none else False
 | .store t x y=>(match T t with
  | some i=>if zgl (aev env y)=true/\(zba (aev env y)).length=i.size then (match aev env x with
   | .own k j=>(match H[k]? with
    | some (some (.box cs t' g))=>if j + i.size<=cs.length then K .junk (H.set k (some (.box (zle cs j (zba (aev env y))) t' g))) none else False
    | _=>False)
   | .orw k r j=>(match H[k]?,AV.toP.toPL (zba (aev env y)) with
    | some (some (.rows s rs t')),some pcs=>∃ row,rs[r]?=some row/\j + i.size<=row.length/\K .junk (H.set k (some (.rows s (E.put rs r (zle row j pcs)) t'))) none
    | _,_=>False)
   | _=>False) else False
  | none=>False)
 | .buildSlice t len parts=>(match T t with
  | some ti=>(match ti.desc with
   | .slice e=>(match T e with
    | some te=>if 0 < te.size/\len * te.size<=16777216 then (match ziz (fun i=>some (i * te.size,te.size)) ((List.range (len * te.size)).map fun m=>.p (.v (te.zero.cells[m % te.zero.cells.size]!))) (parts.toList.map fun (n,x)=>(n,aev env x)) with
     | some cs=>(match cs.all zjg,zk5 te.size len cs with
      | true,some rs=>K (.osl H.length 0 len) (H++[some (.rows te.size rs e)]) none
      | _,_=>False)
     | none=>False) else False
    | none=>False)
   | _=>False)
  | none=>False)
 | .makeSlice t x y=>(match T t with
  | some ti=>(match ti.desc with
   | .slice e=>(match T e with
    | some te=>(match te.zero,te.size,aev env x,aev env y with
     | .int kz z,1,.p (.v (.int _ n)),.p (.v (.int _ m))=>n=m/\E.ple 0 n/\E.room 0 (E.nat n) te.bytes/\K (.osl H.length 0 (E.nat n)) (H++[some (.rows 1 (List.replicate (E.nat n) [.v (.int kz z)]) e)]) none
     | _,_,_,_=>False)
    | none=>False)
   | _=>False)
  | none=>False)
 | .range t x=>(match T t with
  | some ti=>(match ti.desc,aev env x with
   | .string,.p (.v (.string s))=>K (.own H.length 0) (H++[some (.iter s 0)]) none
   | _,_=>False)
  | none=>False)
 | .next x true=>(match aev env x with
  | .own k 0=>(match H[k]? with
   | some (some (.iter s pos))=>(match E.lti (E.ofN pos) (E.size s) with
    | true=>K (.p (.tup [.v (.bool true),.v (.int .i64 (E.ofN pos)),.v (.int .i32 (E.decR s pos))])) (H.set k (some (.iter s (E.addN pos (E.decW s pos))))) none
    | false=>K (.p (.tup [.v (.bool false)])) H none)
   | _=>False)
  | _=>False)
 | .call c=>zzm E T env H c K
 | _=>False
def zzc (P:Program) (G:World->Prop) (E:SO) (T:TT) (o:Oper) (env:List AV) (H:AH) (K:AV->AH->Option (Nat->Bool)->Prop):Prop :=
 if isW o.op=true then aw E T o env H K else aq P G E T o env H fun a=>K a H none
section
variable {P:Program} {G:World->Prop} {T:TT}
theorem zz0 {o:Oper} {env:List AV} {H:AH} {a:AV} (h:QS P G o env H a):WS P G o env H a H none:=by
 intro w0 B w ι ρ hR hG hρ hf
 have:=h w0 B w ι ρ hR hG.now hρ hf
 generalize (execOp ρ o).run P w=r at *
 cases r with
 | ok n w' =>
  cases n <;> simp only [zbi] at this ⊢
  ·exact ⟨ι,hR.grow this.1,Keeps.gr this.1,this.2⟩
  ·exact ⟨ι,hR.grow this.1,Keeps.gr this.1,this.2⟩
  ·exact this.mono fun e w' ⟨v,he,h1,h2⟩=>⟨v,he,ι,hR.grow h1,Keeps.gr h1,h2⟩
 | halt x w'=>simp only [zbi] at this
theorem zvt {es:Nat} {H:AH} {y:AV} {K:List (List PV)->Nat->Prop} (h:asrc zas es H y K) :
  ∃ rows,K rows rows.length/\∀ (w0:Base) (B:Nat->Prop) (w:World) (ι:Pl) (v:Value),Rel w0 B w ι H->Rep w ι (Rd B ι H) y v->SrcAt w (Rd B ι H) es rows v:=by
 unfold asrc at h
 split at h
 ·obtain ⟨rfl,h⟩:=h;refine ⟨_,h,fun w0 B w ι v hR hv=>?_⟩
  cases hv with
  | p _ _ hv=>exact z6n hv
 ·rename_i k2 i2 m
  split at h
  ·rename_i s rs t hk;obtain ⟨rfl,hle,h⟩:=h;change i2 + m<=rs.length at hle;change K ((rs.drop i2).take m) m at h;have hml:((rs.drop i2).take m).length=m:=by rw [List.length_take,lLD];omega
   refine ⟨(rs.drop i2).take m,by rw [hml];exact h,fun w0 B w ι v hR hv=>?_⟩
   have hget:∀ (i:Nat) (row:List PV),((rs.drop i2).take m)[i]?=some row->rs[i2 + i]?=some row:=fun i row hr=>(zdr hr).1
   have hlen:((rs.drop i2).take m).length=m:=by rw [List.length_take,lLD];omega
   cases hv with
   | osl0 =>
    have e:(rs.drop i2).take 0=[]:=by simp
    exact ⟨(fun i row hr=>by rw [e] at hr;simp at hr),.inl ⟨none,0,rfl,e⟩⟩
   | osl _ _ _ c cap sz hi hn hm hz =>
    obtain ⟨es,hl,hh⟩:=(hR.blk k2 _ _ sz hk hi).2
    rcases hh with ⟨ec,_⟩|⟨c',arr,ec,hb,hz0,hcs⟩
    ·cases ec
    cases ec
    refine ⟨fun i row hr=>by rw [es];exact hl _ row (hget i row hr),.inr ⟨c,i2 * sz.1,cap,fun i j=>(arr[(i2 + i) * sz.1 + j]?).getD undef,by rw [hlen],fun i j row a hr ha=>?_⟩⟩
    obtain ⟨u,hu,h1,hru⟩:=hcs _ j row a (hget i row hr) ha;have e2:i2 * sz.1 + (i * s + j)=(i2 + i) * sz.1 + j:=by rw [es,Nat.add_mul];omega
    have e3:(arr[(i2 + i) * sz.1 + j]?).getD undef=u:=by rw [hu];rfl
    refine ⟨?_,?_,?_⟩
    ·rw [zsp hb,e2];simp only;rw [e3];exact hu
    ·simp only;rw [e3];exact h1
    ·simp only;rw [e3];exact hru
  ·cases h
 ·rename_i cap;refine ⟨_,h,fun w0 B w ι v hR hv=>?_⟩
  have:=zbk hv
  subst this;exact ⟨(fun i row hr=>by simp at hr),.inl ⟨none,cap,rfl,rfl⟩⟩
 ·cases h
theorem zsu (hT:TOk P T) {o:Oper} {c:Call} {x y:Operand} (ho:o.op=.call c) (hc:c.callee=.builtin .append) (ha:c.args.toList=[x,y]) {t u:TypeId} (hat:c.argTypes.toList=[t,u]) {env:List AV} {H:AH} {K:AV->AH->Option (Nat->Bool)->Prop} (h:z5y zas T env H x y t u K):∃ a H' sc,K a H' sc/\WS P G o env H a H' sc:=by
 unfold z5y at h
 split at h
 ·rename_i ti ui k n s hti hui ex ey
  split at h
  ·rename_i e s' rs e' hd hud hk
   split at h
   ·rename_i te he
    split at h
    ·rename_i hz hs1 hb1;obtain ⟨rfl,rfl,hn,⟨h63,hby⟩,h⟩:=h;have hn:n<=rs.length:=by have hn':0 + n<=rs.length:=hn;omega
     have hsz:(((s.size:Nat):Int)).toNat=s.size:=by omega
     change n + (((s.size:Nat):Int)).toNat<=maxLen at h63;change (n + (((s.size:Nat):Int)).toNat) * 1<=140737488355328 at hby;change K (.osl k 0 (n + (((s.size:Nat):Int)).toNat)) _ _ at h;rw [hsz] at h63 hby h;exact ⟨_,_,_,h,zss hT ho hc ha hat hti hd hui hud he hz hs1 hb1 ex hk hn ey h63 (by omega)⟩
    ·cases h
   ·cases h
  ·cases h
 ·cases h
theorem ziw (hT:TOk P T) {o:Oper} {env:List AV} {H:AH} {K:AV->AH->Option (Nat->Bool)->Prop} (h:zzc P G zas T o env H K):∃ a H' sc,K a H' sc/\WS P G o env H a H' sc:=by
 unfold zzc at h
 split at h
 ·rename_i hW;unfold aw at h
  split at h
  ·rename_i t ho
   split at h
   ·rename_i i ht
    split at h
    ·rename_i h1;exact ⟨_,_,_,h,zq7 hT ho ht h1⟩
    ·cases h
   ·cases h
  ·rename_i t x ho
   split at h
   ·rename_i h1;exact ⟨_,_,_,h,zv1 ho h1⟩
   ·cases h
  ·rename_i t x y ho
   split at h
   ·rename_i i ht
    split at h
    ·rename_i h1
     split at h
     ·rename_i k j ex
      split at h
      ·rename_i cs t' g hk
       split at h
       ·rename_i hle;exact ⟨_,_,_,h,zvr hT ho ht ex hk h1.1 h1.2 hle⟩
       ·cases h
      ·cases h
     ·rename_i k r j ex
      split at h
      ·rename_i s rs t' pcs hk hp;obtain ⟨row,hrow,hle,h⟩:=h;exact ⟨_,_,_,h,zvq hT ho ht ex hk hrow h1.1 hp h1.2 hle⟩
      ·cases h
     ·cases h
    ·cases h
   ·cases h
  ·rename_i t len parts ho
   split at h
   ·rename_i ti ht
    split at h
    ·rename_i e hd
     split at h
     ·rename_i te he
      split at h
      ·rename_i hc
       split at h
       ·rename_i cs hcs
        split at h
        ·rename_i rs h1 h2;exact ⟨_,_,_,h,zkr hT ho ht hd he hc.1 hc.2 hcs h1 h2⟩
        ·cases h
       ·cases h
      ·cases h
     ·cases h
    ·cases h
   ·cases h
  ·rename_i t x y ho
   split at h
   ·rename_i ti ht
    split at h
    ·rename_i e hd
     split at h
     ·rename_i te he
      split at h
      ·rename_i kz z kx n ky m hz hs ex ey;obtain ⟨hnm,h0,⟨h63,hby⟩,h⟩:=h;subst hnm;rw [Nat.zero_add] at h63 hby;exact ⟨_,_,_,h,zlf hT ho ht hd he hz hs ex ey h0 h63 (by have hby':n.toNat * te.bytes<=140737488355328:=hby;rw [Nat.mul_comm] at hby';omega)⟩
      ·cases h
     ·cases h
    ·cases h
   ·cases h
  ·rename_i t x ho
   split at h
   ·rename_i ti ht
    split at h
    ·rename_i s hd ex;exact ⟨_,_,_,h,zqx hT ho ht hd ex⟩
    ·cases h
   ·cases h
  ·rename_i x ho
   split at h
   ·rename_i k ex
    split at h
    ·rename_i s pos hk
     split at h
     ·rename_i hp;exact ⟨_,_,_,h,zvx ho ex hk (by have h1:(pos:Int) < ((s.size:Nat):Int):=oT hp;omega)⟩
     ·rename_i hp;exact ⟨_,_,_,h,zzg ho ex hk (by have h1:¬ (pos:Int) < ((s.size:Nat):Int):=of_decide_eq_false hp;omega)⟩
    ·cases h
   ·cases h
  ·rename_i c ho;have hc:c.callee=.builtin .append:=by
    unfold isW at hW;rw [ho] at hW;simp only at hW
    split at hW
    ·assumption
    ·cases hW
   unfold zzm at h
   split at h
   ·rename_i x y t t' ha hat
    split at h
    ·rename_i htt;subst htt
     split at h
     ·rename_i ti ht
      split at h
      ·rename_i e hd
       split at h
       ·rename_i te he
        split at h
        ·rename_i hz;obtain ⟨rows,h,hsrc⟩:=zvt h
         split at h
         ·rename_i k n ex
          split at h
          ·rename_i s rs e' hk;obtain ⟨rfl,rfl,hn,⟨h63,hby⟩,h⟩:=h;have hn:n<=rs.length:=by have hn':0 + n<=rs.length:=hn;omega
           exact ⟨_,_,_,h,zpk hT ho hc ha hat ht hd he hz.1 hz.2 ex hk hn hsrc h63 hby⟩
          ·cases h
         ·rename_i ex;obtain ⟨⟨h63,hby⟩,h⟩:=h;rw [Nat.zero_add] at h63 hby;exact ⟨_,_,_,h,zst hT ho hc ha hat ht hd he hz.1 hz.2 ex hsrc h63 hby⟩
         ·cases h
        ·cases h
       ·cases h
      ·cases h
     ·cases h
    ·exact zsu hT ho hc ha hat h
   ·cases h
  ·cases h
 ·obtain ⟨a,hK,hq⟩:=zlr hT h;exact ⟨_,_,_,hK,zz0 hq⟩
theorem RepE.eval {w:World} {ι:Pl} {R:Nat->Prop} {env:List AV} {a:Act} (h:RepE w ι R env a.tmps) (x:Operand):Rep w ι R (aev env x) (a.eval x):=by
 cases x with
 | tmp t =>
  simp only [aev,Act.eval,List.getD_eq_getElem?_getD]
  rcases Nat.lt_or_ge t env.length with hl|hl
  ·have h1:=List.getElem?_eq_getElem hl;have hl2:t < a.tmps.size:=by rw [<-h.len];exact hl
   have h2:a.tmps[t]?=some a.tmps[t]:=Array.getElem?_eq_getElem hl2
   have:=h.at_ t _ _ h1 h2
   simpa [h1,h2,Array.getD_eq_getD_getElem?] using this
  ·rw [List.getElem?_eq_none hl];exact .junk _
 | const c=>exact .p _ _ (zol _ _ _)
 | global g=>exact .p _ _ (.v _)
 | func f=>exact .p _ _ (.v _)
theorem RepE.put {sc:Option (Nat->Bool)} {w w':World} {ι ι':Pl} {R R':Nat->Prop} {env:List AV} {a:Act} {d:Option Tmp} {x:AV} {v:Value} (h:RepE w ι R env a.tmps) (hk:Keeps sc w ι R w' ι' R') (hx:Rep w' ι' R' x v):RepE w' ι' R' (zj3 (zde sc env) d x) (a.put d v).tmps:=by
 have hs:RepE w' ι' R' (zde sc env) a.tmps:=by
  refine ⟨by unfold zde;split <;> simp [h.len],fun t y u hy hu=>?_⟩
  cases sc with
  | none=>exact (h.at_ t y u hy hu).keep0 hk
  | some k =>
   simp only [zde,List.getElem?_map] at hy
   cases he:env[t]? with
   | none=>rw [he] at hy;cases hy
   | some z=>rw [he] at hy;cases hy;exact (h.at_ t z u he hu).keep hk
 cases d with
 | none=>exact hs
 | some t =>
  refine ⟨by simp [zj3,Act.put,hs.len],fun t' y u hy hu=>?_⟩
  simp only [zj3,Act.put] at hy hu
  by_cases e:t=t'
  ·subst e
   rcases Nat.lt_or_ge t (zde sc env).length with hlt|hge
   ·rw [List.getElem?_set_self hlt] at hy;rw [Array.getElem?_setIfInBounds_self_of_lt (by rw [<-hs.len];exact hlt)] at hu
    cases hy
    cases hu;exact hx
   ·rw [List.getElem?_eq_none (by simpa using hge)] at hy;cases hy
  ·rw [List.getElem?_set_ne e] at hy;rw [Array.getElem?_setIfInBounds_ne e] at hu;exact hs.at_ t' y u hy hu
structure St (w0:Base) (B:Nat->Prop) (nt:Nat) (env:List AV) (H:AH) (a:Act) (w:World):Prop where
 defers:a.defers=w0.ds
 size:a.tmps.size=nt
 pin:∀ t v,w0.pin t=some v->a.tmps[t]?=some v
 rep:∃ ι,Rel w0 B w ι H/\RepE w ι (Rd B ι H) env a.tmps
def zj4 (w0:Base) (B:Nat->Prop) (nt:Nat) (Q:Exit->List AV->AH->Prop) (e:Exit) (a:Act) (w:World):Prop:=∃ env H,Q e env H/\St w0 B nt env H a w
def PV.panOf:PV->Option (List PanicEntry)
 | .pan ch=>some ch
 | _=>none
def AV.panOf:AV->Option (List PanicEntry)
 | .p (.pan ch)=>some ch
 | _=>none
def zt6 (x:AV) (args:List AV):Option (FuncId × List AV) :=
 match x with
 | .p (.v (.func (.func f) us vs))=>some (f,(us.toList.map fun v=>.p (.v v))++(args++(vs.toList.map fun v=>.p (.v v))))
 | .clo f fs cs=>some (f,fs++(args++cs))
 | _=>none
def zqu (env:List AV) (o:Oper):Option (FuncId × List AV) :=
 match o.op with
 | .call c=>(match c.callee with
  | .value x=>zt6 (aev env x) (c.args.toList.map (aev env))
  | _=>none)
 | _=>none
def AV.still:AV->Bool
 | .p _=>true
 | .osl _ _ _=>true
 | .agg cs=>stillL cs
 | .tup cs=>stillL cs
 | _=>false
where stillL:List AV->Bool
 | []=>true
 | a :: as=>a.still && stillL as
inductive CK where
 | no
 | pure (f:FuncId) (as:List PV)
 | froz (f:FuncId) (as:List AV)
 | mem (f:FuncId)
 | pan (v:Value)
def z8u (env:List AV) (o:Oper):CK :=
 match o.op with
 | .panic x=>(match aev env x with
  | .p (.v (.iface t v))=>.pan (.iface t v)
  | _=>.no)
 | _=>(match zqu env o with
  | some (f,as)=>(match AV.toP.toPL as with
   | some ps=>.pure f ps
   | none=>(match AV.still.stillL as with
    | true=>.froz f as
    | false=>.mem f))
  | none=>.no)
def z0v (σ:List Nat) (H Hc:AH) (as:List AV):Bool:=zs6 σ H.length && Nat.beq σ.length Hc.length && zeq σ.length Hc && AV.low.lowL σ.length as
inductive MCall (P:Program) (G:World->Prop) (f:FuncId) (o:Oper) (env:List AV) (H:AH) (K:List AV->AH->Prop) (Q:Exit->List AV->AH->Prop):Prop
 | mk (env2:List AV) (H2:AH) (hw:Wk env H env2 H2) (σ:List Nat) (as:List AV) (Hc:AH) (r:AV) (Hc':AH) (h:zd4 P G f as Hc r Hc') (hc:zqu env2 o=some (f,AV.ren.renL (ze4 σ H2.length) as)) (hb:z0v σ H2 Hc as=true)
  (hp:σ.map (fun l=>zhb (H2.getD l none))=Hc.map (zpp (ze4 σ H2.length) none))
  (k:match r.panOf with
   | some ch=>Q (.panic ch) (zde (some (zic σ H2 Hc')) env2) (zg8 σ H2 Hc')
   | none=>K (zj3 (zde (some (zic σ H2 Hc')) env2) o.dst (r.ren (ze4 σ H2.length))) (zg8 σ H2 Hc'))
 | mkK (kp:Nat->Bool) (env2:List AV) (H2:AH) (hw:Wk env H env2 H2) (σ:List Nat) (as:List AV) (Hc:AH) (r:AV) (Hc':AH) (h:zv7 P G f as Hc r Hc' kp) (hc:zqu env2 o=some (f,AV.ren.renL (ze4 σ H2.length) as)) (hb:z0v σ H2 Hc as=true)
  (hp:σ.map (fun l=>zhb (H2.getD l none))=Hc.map (zpp (ze4 σ H2.length) none))
  (k:match r.panOf with
   | some ch=>Q (.panic ch) (zde (some (zkg kp σ H2 Hc')) env2) (zfs kp σ H2 Hc')
   | none=>K (zj3 (zde (some (zkg kp σ H2 Hc')) env2) o.dst (r.ren (ze4 σ H2.length))) (zfs kp σ H2 Hc'))
def zg2 (P:Program) (G:World->Prop) (E:SO) (T:TT) (o:Oper) (env:List AV) (H:AH) (K:List AV->AH->Prop) (Q:Exit->List AV->AH->Prop):Prop :=
 match z8u env o with
 | .no=>zzc P G E T o env H fun a H' sc=>K (zj3 (zde sc env) o.dst a) H'
 | .pure f ps=>∃ r,Ret P G f ps r/\(match r.panOf with
  | some ch=>Q (.panic ch) env H
  | none=>K (zj3 env o.dst (.p r)) H)
 | .froz f as=>(frz.frzL E H as fun ps=>∃ r,Ret P G f ps r/\(match r.panOf with
  | some ch=>Q (.panic ch) env H
  | none=>(match r.flat with
   | true=>K (zj3 env o.dst (.p r)) H
   | false=>False)))\/MCall P G f o env H K Q
 | .mem f=>MCall P G f o env H K Q
 | .pan v=>Q (.panic [{ v:=v,recovered:=false }]) env H
def zmz (P:Program) (G:World->Prop) (E:SO) (T:TT) (all:List Oper) (Q:Exit->List AV->AH->Prop):List Oper->List AV->AH->Prop
 | [],env,H=>Q .normal env H
 | o :: os,env,H=>match o.guard with
  | none=>zg2 P G E T o env H (fun env' H'=>zmz P G E T all Q os env' H') Q
  | some (j,want)=>(match z5g all env j with
   | some b=>(match zqk want b with
    | true=>zg2 P G E T o env H (fun env' H'=>zmz P G E T all Q os env' H') Q
    | false=>zmz P G E T all Q os (zj3 env o.dst (.p (.v undef))) H)
   | none=>False)
theorem zkj {all:List Oper} {env:List AV} {j:Nat} {b:Option Bool} (h:z5g all env j=some b) {w:World} {ι:Pl} {R:Nat->Prop} {a:Act} (hE:RepE w ι R env a.tmps):zdi all.toArray a.eval j=b:=by
 unfold z5g at h;unfold zdi;simp only [List.getElem?_toArray]
 split at h
 ·rename_i t ht;rw [ht];simp only
  split at h
  ·rename_i x e
   cases h
   have:=hE.eval (.tmp t)
   simp only [aev,e] at this;rw [zbk this]
   cases x <;> rfl
  ·cases h
 ·cases h
theorem zd8 {w0:Base} {a:Act} (h:∀ t v,w0.pin t=some v->a.tmps[t]?=some v) {d:Option Tmp} (hd:∀ t,d=some t->w0.pin t=none) (x:Value):∀ t v,w0.pin t=some v->(a.put d x).tmps[t]?=some v:=by
 intro t v ht
 cases d with
 | none=>exact h t v ht
 | some d =>
  have hne:d ≠ t:=fun e=>by
   subst e;rw [hd d rfl] at ht
   cases ht
  have:=h t v ht
  simp only [Act.put];rw [Array.getElem?_setIfInBounds_ne hne];exact this
theorem zc6 (a:Act) (d:Option Tmp) (v:Value):(a.put d v).tmps.size=a.tmps.size:=by cases d <;> simp [Act.put]
theorem zbw (a:Act) (d:Option Tmp) (v:Value):(a.put d v).defers=a.defers:=by cases d <;> rfl
variable {w0:Base} {B:Nat->Prop} {nt:Nat}
theorem zkm {o:Oper} {a:Act} {w:World} {next:Act->World->Prop} {Q:Exit->Act->World->Prop} {f:FuncId} {args:Array Value} (he:(execOp a.eval o).run P w=.ok (.enter f args) w) {R:Ending->World->Prop} (h:Calls P f args w R)
  (hv:∀ v w',R (.returned v) w'->next (a.put o.dst v) w') (hp:∀ ch w',R (.panicked ch) w'->Q (.panic ch) a w') (ho:∀ w',¬ R .outgrown w'):o.wp P a w next Q:=by
 unfold Oper.wp;rw [he,Oper.upon_enter];refine h.mono fun e w' hR=>?_
 cases e with
 | returned v=>exact hv v w' hR
 | panicked ch=>exact hp ch w' hR
 | outgrown=>exact absurd hR (ho w')
theorem ztb {w:World} {ι:Pl} {R:Nat->Prop} {env:List AV} {a:Act} (hE:RepE w ι R env a.tmps) (args:Array Operand):∀ (j:Nat) (x:AV) (v:Value),(args.toList.map (aev env))[j]?=some x->(args.toList.map a.eval)[j]?=some v->Rep w ι R x v:=fun j x v hx hv=>by
 rw [List.getElem?_map] at hx hv
 cases hj:args.toList[j]? with
 | none=>rw [hj] at hx;cases hx
 | some y =>
  rw [hj] at hx hv
  cases hx;cases hv
  exact hE.eval y
theorem zhy {w:World} {ι:Pl} {R:Nat->Prop} {as bs:List AV} {us vs:List Value} (hl:as.length=us.length) (ha:∀ (j:Nat) (x:AV) (v:Value),as[j]?=some x->us[j]?=some v->Rep w ι R x v) (hb:∀ (j:Nat) (x:AV) (v:Value),bs[j]?=some x->vs[j]?=some v->Rep w ι R x v) :
  ∀ (j:Nat) (x:AV) (v:Value),(as++bs)[j]?=some x->(us++vs)[j]?=some v->Rep w ι R x v:=fun j x v hx hv=>by
 rcases Nat.lt_or_ge j as.length with h|h
 ·rw [List.getElem?_append_left h] at hx;rw [List.getElem?_append_left (by omega)] at hv
  exact ha j x v hx hv
 ·rw [List.getElem?_append_right h] at hx;rw [List.getElem?_append_right (by omega),<- hl] at hv
  exact hb _ x v hx hv
theorem z2r {w:World} {ι:Pl} {R:Nat->Prop} (us:List Value):∀ (j:Nat) (x:AV) (v:Value),(us.map fun v=>AV.p (.v v))[j]?=some x->us[j]?=some v->Rep w ι R x v:=fun j x v hx hv=>by
 rw [List.getElem?_map,hv] at hx
 cases hx
 exact .p _ _ (.v _)
theorem zjt {o:Oper} {env:List AV} {f:FuncId} {as:List AV} (h:zqu env o=some (f,as)) {w:World} {ι:Pl} {R:Nat->Prop} {a:Act} (hE:RepE w ι R env a.tmps) :
  ∃ vs:List Value,as.length=vs.length/\(∀ (j:Nat) (x:AV) (v:Value),as[j]?=some x->vs[j]?=some v->Rep w ι R x v)/\(execOp a.eval o).run P w=(callFunc f vs.toArray).run P w:=by
 unfold zqu at h
 split at h
 ·rename_i c ho
  split at h
  ·rename_i x hc;have hx:=hE.eval x;unfold zt6 at h
   split at h
   ·rename_i f' us vs e
    cases h
    rw [e] at hx;have hev:=zbk hx;refine ⟨us.toList++(c.args.toList.map a.eval++vs.toList),by simp,zhy (by simp) (z2r _) (zhy (by simp) (ztb hE c.args) (z2r _)),?_⟩
    have e2:(us.toList++(c.args.toList.map a.eval++vs.toList)).toArray=us++c.args.map a.eval++vs:=by
     apply Array.toList_inj.1;simp
    rw [e2];simp [execOp,ho,resolve,hc,hev,Deferred.ofValue,invoke]
   ·rename_i f' fs cs e
    cases h
    rw [e] at hx;generalize hev:a.eval x=xv at hx
    cases hx with
    | clo _ _ _ us vs hl hr hl' hr' =>
     refine ⟨us++(c.args.toList.map a.eval++vs),by simp [hl,hl'],zhy hl hr (zhy (by simp) (ztb hE c.args) hr'),?_⟩
     have e2:(us++(c.args.toList.map a.eval++vs)).toArray=us.toArray++c.args.map a.eval++vs.toArray:=by
      apply Array.toList_inj.1;simp
     rw [e2];simp [execOp,ho,resolve,hc,hev,Deferred.ofValue,invoke]
   ·cases h
  ·cases h
 ·cases h
theorem zo3 {w:World} {R:Nat->Prop} {r:PV} {e:Ending} (h:zzq w R r e):(∃ ch,r.panOf=some ch/\e=.panicked ch)\/(r.panOf=none/\∃ v,e=.returned v/\RepP w R r v):=by
 cases r with
 | pan ch=>exact .inl ⟨ch,rfl,h⟩
 | _=>exact .inr ⟨rfl,h⟩
theorem zes {w:World} {ι:Pl} {R:Nat->Prop} {r:AV} {e:Ending} (h:zgx w ι R r e):(∃ ch,r.panOf=some ch/\e=.panicked ch)\/(r.panOf=none/\∃ v,e=.returned v/\Rep w ι R r v):=by
 cases r with
 | p x =>
  cases x with
  | pan ch=>exact .inl ⟨ch,rfl,h⟩
  | _=>exact .inr ⟨rfl,h⟩
 | _=>exact .inr ⟨rfl,h⟩
theorem zfd (r:AV) (f:Nat->Nat):(r.ren f).panOf=r.panOf:=by
 cases r with
 | p x=>rfl
 | _=>rfl
theorem zta {f:FuncId} {ps:List PV} {r:PV} (hr:Ret P G f ps r) {o:Oper} {a:Act} {w:World} (hG:G w) {vs:List Value} (he:(execOp a.eval o).run P w=(callFunc f vs.toArray).run P w) {B':Nat->Prop} (hl:ps.length=vs.length)
  (hp:∀ (j:Nat) (p:PV) (v:Value),ps[j]?=some p->vs[j]?=some v->RepP w B' p v) {next:Act->World->Prop} {Q:Exit->Act->World->Prop}
  (hv:r.panOf=none->∀ v w',Gr w w'->RepP w' (fun b=>B' b\/w.heap.size<=b) r v->next (a.put o.dst v) w') (hq:∀ ch w',r.panOf=some ch->Gr w w'->Q (.panic ch) a w'):o.wp P a w next Q:=by
 have hc:=hr.2 w B' vs hG hl hp;refine zkm (he.trans (hr.1 _ _)) hc (fun v w' ⟨hg,h⟩=>?_) (fun ch w' ⟨hg,h⟩=>?_) fun w' ⟨hg,h⟩=>?_
 ·rcases zo3 h with ⟨ch,_,e⟩|⟨h1,v',e,h2⟩
  ·cases e
  ·cases e;exact hv h1 v w' hg h2
 ·rcases zo3 h with ⟨ch',h1,e⟩|⟨h1,v',e,h2⟩
  ·cases e;exact hq ch w' h1 hg
  ·cases e
 ·rcases zo3 h with ⟨ch',h1,e⟩|⟨h1,v',e,h2⟩ <;> cases e
theorem znw (hG0:∀ w,GrX w0 w->G w) (hB0:∀ b,w0.own b->B b) {f:FuncId} {o:Oper} (hdst:∀ t,o.dst=some t->w0.pin t=none) {env:List AV} {H:AH} {K:List AV->AH->Prop} {Q:Exit->List AV->AH->Prop} {a:Act} {w:World} {next:Act->World->Prop}
  (h:MCall P G f o env H K Q) (hS:St w0 B nt env H a w) (hK:∀ env' H' a' w',K env' H'->St w0 B nt env' H' a' w'->next a' w'):o.wp P a w next (zj4 w0 B nt Q):=by
 obtain ⟨hd,hn,hpins,ι,hR,hE⟩:=hS;have hC:∀ (H:AH) (ι:Pl),Rel w0 B w ι H->Can G w0 B w ι H:=fun H ι hR=>⟨fun w' hg=>hG0 w' ⟨hg.os.trans hR.gr.os,hg.tape.trans hR.gr.tape,hg.output.trans hR.gr.output,Nat.le_trans hR.size hg.size,fun k hk hx=>by
  have:=hR.size
  rw [hg.block k (by change k < w.heap.size;omega) fun ho=>by rcases hR.ge ho with h|h <;> first|exact hx h|omega]
  exact hR.gr.block k hk hx⟩,hB0⟩
 cases h with
 | mk env2 H2 hw σ as Hc r Hc' hr hc hb hp k =>
  obtain ⟨ι2,hR2,hE2⟩:=hw w0 B w ι a.tmps hB0 hR hE;obtain ⟨vs,hl,hrep,hrun⟩:=zjt (P:=P) (a:=a) hc hE2;unfold z0v at hb;simp only [bAT] at hb;obtain ⟨⟨⟨hb1,hb2⟩,hb3⟩,hb4⟩:=hb;rw [zb4] at hl;have hm:=zis hR2 (hC H2 ι2 hR2) hr hb1 (Nat.eq_of_beq_eq_true hb2) hp hb3 hb4 hl fun j x v hx hv=>hrep j _ v (by rw [zc5,hx];rfl) hv
  have hput:∀ w' ι' ,Keeps (some (zic σ H2 Hc')) w ι2 (Rd B ι2 H2) w' ι' (Rd B ι' (zg8 σ H2 Hc'))->RepE w' ι' (Rd B ι' (zg8 σ H2 Hc')) (zde (some (zic σ H2 Hc')) env2) a.tmps:=fun w' ι' hk=>by
   have:=hE2.put (a:=a) (d:=none) hk (.junk undef)
   exact this
  refine zkm (hrun.trans (hr.1 _ _)) hm (fun v w' ⟨ι',hR',hk,he⟩=>?_) (fun ch w' ⟨ι',hR',hk,he⟩=>?_) fun w' ⟨ι',hR',hk,he⟩=>?_
  ·rcases zes he with ⟨ch,_,e⟩|⟨h1,v',e,h2⟩
   ·cases e
   ·cases e
    rw [zfd] at h1;rw [h1] at k;exact hK _ _ _ w' k ⟨by rw [zbw];exact hd,by rw [zc6];exact hn,zd8 hpins hdst _,ι',hR',hE2.put hk h2⟩
  ·rcases zes he with ⟨ch',h1,e⟩|⟨h1,v',e,h2⟩
   ·cases e
    rw [zfd] at h1;rw [h1] at k;exact ⟨_,_,k,hd,hn,hpins,ι',hR',hput w' ι' hk⟩
   ·cases e
  ·rcases zes he with ⟨ch',h1,e⟩|⟨h1,v',e,h2⟩ <;> cases e
 | mkK kp env2 H2 hw σ as Hc r Hc' hr hc hb hp k =>
  obtain ⟨ι2,hR2,hE2⟩:=hw w0 B w ι a.tmps hB0 hR hE;obtain ⟨vs,hl,hrep,hrun⟩:=zjt (P:=P) (a:=a) hc hE2;unfold z0v at hb;simp only [bAT] at hb;obtain ⟨⟨⟨hb1,hb2⟩,hb3⟩,hb4⟩:=hb;rw [zb4] at hl;have hm:=zqh hR2 (hC H2 ι2 hR2) hr hb1 (Nat.eq_of_beq_eq_true hb2) hp hb3 hb4 hl fun j x v hx hv=>hrep j _ v (by rw [zc5,hx];rfl) hv
  have hput:∀ w' ι' ,Keeps (some (zkg kp σ H2 Hc')) w ι2 (Rd B ι2 H2) w' ι' (Rd B ι' (zfs kp σ H2 Hc'))->RepE w' ι' (Rd B ι' (zfs kp σ H2 Hc')) (zde (some (zkg kp σ H2 Hc')) env2) a.tmps:=fun w' ι' hk=>by
   have:=hE2.put (a:=a) (d:=none) hk (.junk undef)
   exact this
  refine zkm (hrun.trans (hr.1 _ _)) hm (fun v w' ⟨ι',hR',hk,he⟩=>?_) (fun ch w' ⟨ι',hR',hk,he⟩=>?_) fun w' ⟨ι',hR',hk,he⟩=>?_
  ·rcases zes he with ⟨ch,_,e⟩|⟨h1,v',e,h2⟩
   ·cases e
   ·cases e
    rw [zfd] at h1;rw [h1] at k;exact hK _ _ _ w' k ⟨by rw [zbw];exact hd,by rw [zc6];exact hn,zd8 hpins hdst _,ι',hR',hE2.put hk h2⟩
  ·rcases zes he with ⟨ch',h1,e⟩|⟨h1,v',e,h2⟩
   ·cases e
    rw [zfd] at h1;rw [h1] at k;exact ⟨_,_,k,hd,hn,hpins,ι',hR',hput w' ι' hk⟩
   ·cases e
  ·rcases zes he with ⟨ch',h1,e⟩|⟨h1,v',e,h2⟩ <;> cases e
theorem zhu (hT:TOk P T) (hG0:∀ w,GrX w0 w->G w) (hB0:∀ b,w0.own b->B b) {o:Oper} (hdst:∀ t,o.dst=some t->w0.pin t=none) {env:List AV} {H:AH} {K:List AV->AH->Prop} {Q:Exit->List AV->AH->Prop} {a:Act} {w:World} {next:Act->World->Prop}
  (h:zg2 P G zas T o env H K Q) (hS:St w0 B nt env H a w) (hK:∀ env' H' a' w',K env' H'->St w0 B nt env' H' a' w'->next a' w'):o.wp P a w next (zj4 w0 B nt Q):=by
 obtain ⟨hd,hn,hpins,ι,hR,hE⟩:=hS;have hC:∀ (H:AH) (ι:Pl),Rel w0 B w ι H->Can G w0 B w ι H:=fun H ι hR=>⟨fun w' hg=>hG0 w' ⟨hg.os.trans hR.gr.os,hg.tape.trans hR.gr.tape,hg.output.trans hR.gr.output,Nat.le_trans hR.size hg.size,fun k hk hx=>by
  have:=hR.size
  rw [hg.block k (by change k < w.heap.size;omega) fun ho=>by rcases hR.ge ho with h|h <;> first|exact hx h|omega]
  exact hR.gr.block k hk hx⟩,hB0⟩
 unfold zg2 at h
 split at h
 ·obtain ⟨x,H',sc,hK',hW⟩:=ziw hT h;have hg:=hW w0 B w ι a.eval hR (hC H ι hR) (fun y _=>hE.eval y) (fun _=>rfl)
  refine zj5 hg fun v w' ⟨ι',hR',hk,hv⟩=>?_
  exact hK _ H' _ w' hK' ⟨by rw [zbw];exact hd,by rw [zc6];exact hn,zd8 hpins hdst _,ι',hR',hE.put hk hv⟩
 ·rename_i f ps hck;obtain ⟨r,hr,h⟩:=h;have hcg:∃ as,zqu env o=some (f,as)/\AV.toP.toPL as=some ps:=by
   unfold z8u at hck
   split at hck
   ·split at hck <;> cases hck
   ·split at hck
    ·rename_i f' as e
     split at hck
     ·rename_i ps' e2;cases hck;exact ⟨as,e,e2⟩
     ·split at hck <;> cases hck
    ·cases hck
  obtain ⟨as,hca,hto⟩:=hcg;obtain ⟨vs,hl,hrep,hrun⟩:=zjt (P:=P) hca hE;have hpl:=zez as ps hto;refine zta hr (hC H ι hR).now hrun (B':=Rd B ι H) (by rw [hpl.1];exact hl) (fun j p v hp hv=>?_) (fun hpn v w' hg hv=>?_) (fun ch w' hpn hg=>?_)
  ·have hj:j < as.length:=by have:=(List.getElem?_eq_some_iff.1 hp).1;omega
   obtain ⟨p',hp',hap⟩:=hpl.2 j as[j] (List.getElem?_eq_getElem hj);rw [hp'] at hp;cases hp
   exact (hrep j _ v (List.getElem?_eq_getElem hj) hv).toP _ hap
  ·rw [hpn] at h;refine hK _ H _ w' h ⟨by rw [zbw];exact hd,by rw [zc6];exact hn,zd8 hpins hdst _,ι,hR.grow hg,?_⟩
   refine hE.put (sc:=none) (Keeps.gr hg) (.p _ _ (hv.keep (nR _) fun b hb hlt=>⟨?_,rfl⟩))
   rcases hb with hb|hb
   ·exact hb
   ·exact ⟨hR.fut b hb,fun hown=>by have:=hR.lt hown;omega⟩
  ·rw [hpn] at h;refine ⟨env,H,h,hd,hn,hpins,ι,hR.grow hg,⟨hE.len,fun t x v hx hv=>(hE.at_ t x v hx hv).keep0 (Keeps.gr hg)⟩⟩
 ·rename_i f as hck;have hca:zqu env o=some (f,as):=by
   unfold z8u at hck
   split at hck
   ·split at hck <;> cases hck
   ·split at hck
    ·rename_i f' as' e
     split at hck
     ·cases hck
     ·split at hck
      ·cases hck;exact e
      ·cases hck
    ·cases hck
  rcases h with h|h
  case inr=>exact znw hG0 hB0 hdst h ⟨hd,hn,hpins,ι,hR,hE⟩ hK
  obtain ⟨vs,hl,hrep,hrun⟩:=zjt (P:=P) hca hE;have hre:=hR.regrow (B':=fun _=>True) (Gr.refl _) (fun _ _ _=>trivial) (fun _ _=>trivial)
  obtain ⟨ps,⟨r,hr,h⟩,hpl,hps⟩:=zge.frzL_sound hre.1 (fun _ _=>trivial) as vs _ hl (fun j x v hx hv=>(hrep j x v hx hv).keep0 hre.2) h
  refine zta hr (hC H ι hR).now hrun (B':=fun _=>True) (by omega) hps (fun hpn v w' hg hv=>?_) (fun ch w' hpn hg=>?_)
  ·rw [hpn] at h;simp only at h
   split at h
   ·rename_i hfl;refine hK _ H _ w' h ⟨by rw [zbw];exact hd,by rw [zc6];exact hn,zd8 hpins hdst _,ι,hR.grow hg,?_⟩
    exact hE.put (sc:=none) (Keeps.gr hg) (.p _ _ (hv.free hfl))
   ·cases h
  ·rw [hpn] at h;refine ⟨env,H,h,hd,hn,hpins,ι,hR.grow hg,⟨hE.len,fun t x v hx hv=>(hE.at_ t x v hx hv).keep0 (Keeps.gr hg)⟩⟩
 ·rename_i f hck;exact znw hG0 hB0 hdst h ⟨hd,hn,hpins,ι,hR,hE⟩ hK
 ·rename_i pv hck;have hx:∃ x t v,o.op=.panic x/\aev env x=.p (.v (.iface t v))/\pv=.iface t v:=by
   unfold z8u at hck
   split at hck
   ·rename_i x ho
    split at hck
    ·rename_i t v e;cases hck;exact ⟨x,t,v,ho,e,rfl⟩
    ·cases hck
   ·split at hck
    ·split at hck
     ·cases hck
     ·split at hck <;> cases hck
    ·cases hck
  obtain ⟨x,t,v,ho,e,rfl⟩:=hx;have hv:=hE.eval x;rw [e] at hv;have hrun:(execOp a.eval o).run P w=.halt (.panic (.iface t v)) w:=by
   simp [execOp,ho,zbk hv,Instr.panic,goPanic,Sem.run]
  unfold Oper.wp;rw [hrun,Oper.upon_panic];exact ⟨env,H,h,hd,hn,hpins,ι,hR,hE⟩
theorem zdg (hT:TOk P T) (hG0:∀ w,GrX w0 w->G w) (hB0:∀ b,w0.own b->B b) {all:List Oper} {Q:Exit->List AV->AH->Prop}:∀ (os:List Oper),(∀ o ∈ os,∀ t,o.dst=some t->w0.pin t=none)->∀ (env:List AV) (H:AH) (a:Act) (w:World),zmz P G zas T all Q os env H->St w0 B nt env H a w->wpList P all.toArray (zj4 w0 B nt Q) os a w
 | [],_,env,H,a,w,h,hS=>⟨env,H,h,hS⟩
 | o :: os,hos,env,H,a,w,h,hS=>by
  have hdst:=hos o (by simp)
  have hos':∀ o ∈ os,∀ t,o.dst=some t->w0.pin t=none:=fun x hx=>hos x (by simp [hx])
  have run:zg2 P G zas T o env H (fun env' H'=>zmz P G zas T all Q os env' H') Q->o.wp P a w (wpList P all.toArray (zj4 w0 B nt Q) os) (zj4 w0 B nt Q):=fun h =>
   zhu hT hG0 hB0 hdst h hS fun env' H' a' w' hK hS'=>zdg hT hG0 hB0 os hos' env' H' a' w' hK hS'
  obtain ⟨hd,hn,hpins,ι,hR,hE⟩:=hS;unfold zmz at h;unfold wpList
  split at h
  ·rename_i hg;rw [if_pos (by simp [Region.wanted,hg])]
   exact .inl (run h)
  ·rename_i j want hg
   split at h
   ·rename_i b hb;have hy:=zkj hb hE;rw [zdc]
    split at h
    ·rename_i ht;rw [if_pos (by simp [Region.wanted,hg,hy,zh1 ht])]
     exact .inl (run h)
    ·rename_i ht;rw [if_neg (by simpa [Region.wanted,hg,hy] using zgn ht)]
     refine zdg hT hG0 hB0 os hos' _ H _ w h ⟨by rw [zbw];exact hd,by rw [zc6];exact hn,zd8 hpins hdst _,ι,hR,?_⟩
     exact hE.put (sc:=none) (Keeps.gr (Gr.refl _)) (.p _ _ (.v _))
   ·cases h
end
/- Own work: a region that draws its order,over values as data: read and reckoned in the order of the text,whatever the order;then its tail. -/
def zft (w:World) (ι:Pl) (R:Nat->Prop) (cs:List AV) (arr:Array Value):Prop:=arr.size=cs.length/\∀ (j:Nat) (a:AV),cs[j]?=some a->∃ v,arr[j]?=some v/\v.oneCell'=true/\Rep w ι R a v
theorem zft.keep0 {w w':World} {ι ι':Pl} {R R':Nat->Prop} (hk:Keeps none w ι R w' ι' R') {cs:List AV} {arr:Array Value} (h:zft w ι R cs arr):zft w' ι' R' cs arr :=
 ⟨h.1,fun j a ha=>let ⟨v,h1,h2,h3⟩:=h.2 j a ha;⟨v,h1,h2,h3.keep0 hk⟩⟩
structure MK where
 t:TypeId
 cs:List AV
 rows:Option (Nat × Nat × List (List PV))
def MK.val (m:MK) (c:Nat):Value:=match m.rows with
 | none=>.pointer (some ⟨c,0,none⟩)
 | some (_,len,_)=>.slice (some ⟨c,0,none⟩) len len
def MK.av (m:MK) (k:Nat):AV:=match m.rows with
 | none=>.own k 0
 | some (_,len,_)=>.osl k 0 len
def MK.blk (m:MK) (cs:List AV):ABlk:=match m.rows with
 | none=>.box cs m.t none
 | some (s,_,rs)=>.rows s rs m.t
def MK.shape (m:MK) (n:Nat):Nat × Nat:=match m.rows with
 | none=>(0,0)
 | some (s,_,_)=>(s,n)
def MK.Ok (m:MK) (cs:List AV):Prop:=∀ s len rs,m.rows=some (s,len,rs)->cs=m.cs/\zk5 s len m.cs=some rs/\0 < s/\m.cs.length=len * s/\len<=maxLen
def mkD (T:TT) (e:List AV) (o:Oper):Option MK:=match o.op with
 | .alloc t=>(match T t with
  | some i=>if i.zero.cells.toList.all (·.oneCell')=true then some ⟨t,i.zero.cells.toList.map fun x=>.p (.v x),none⟩ else none
  | none=>none)
 | .box t x=>if zgl (aev e x)=true then some ⟨t,zba (aev e x),none⟩ else none
 | .buildSlice t len parts=>(match T t with
  | some ti=>(match ti.desc with
   | .slice el=>(match T el with
    | some te=>if 0 < te.size/\len * te.size<=16777216 then (match ziz (fun i=>some (i * te.size,te.size)) ((List.range (len * te.size)).map fun m=>.p (.v (te.zero.cells[m % te.zero.cells.size]!))) (parts.toList.map fun (n,x)=>(n,aev e x)) with
     | some cs=>(match cs.all zjg,zk5 te.size len cs with
      | true,some rs=>some ⟨el,cs,some (te.size,len,rs)⟩
      | _,_=>none)
     | none=>none) else none
    | none=>none)
   | _=>none)
  | none=>none)
 | _=>none
theorem zq1 {s:Nat}:∀ (parts:List (Nat × AV)) (cells cs':List AV),ziz (fun i=>some (i * s,s)) cells parts=some cs'->cs'.length=cells.length
 | [],cells,cs',h=>by simp [ziz] at h;rw [h]
 | (n,a) :: ps,cells,cs',h=>by
  unfold ziz at h;simp only at h
  split at h
  ·rename_i hc;rw [zq1 ps _ _ h,zgf (by omega)]
  ·cases h
theorem zwu {n s:Nat} (h:0 < s) (h2:n * s<=16777216):n<=maxLen:=by
 have:n * 1<=n * s:=Nat.mul_le_mul_left _ h
 unfold maxLen;omega
theorem z24 {T:TT} {o:Oper} {e:List AV} {m:MK} (h:mkD T e o=some m):m.Ok m.cs:=by
 unfold mkD at h
 split at h
 ·split at h
  ·split at h
   ·cases h;exact fun s len rs e=>by cases e
   ·cases h
  ·cases h
 ·split at h
  ·cases h;exact fun s len rs e=>by cases e
  ·cases h
 ·split at h
  ·split at h
   ·split at h
    ·split at h
     ·rename_i hlim
      split at h
      ·rename_i cs hcs
       split at h
       ·rename_i rs hone hrs
        cases h
        intro s len' rs' e;simp only [Option.some.injEq,Prod.mk.injEq] at e;obtain ⟨rfl,rfl,rfl⟩:=e;refine ⟨rfl,hrs,hlim.1,by rw [zq1 _ _ _ hcs];simp,?_⟩
        exact zwu hlim.1 hlim.2
       ·cases h
      ·cases h
     ·cases h
    ·cases h
   ·cases h
  ·cases h
 ·cases h
theorem z22 {P:Program} {T:TT} (hT:TOk P T) {o:Oper} {e:List AV} {m:MK} (h:mkD T e o=some m) {w:World} {ι:Pl} {R:Nat->Prop} {ρ:Operand->Value} (hρ:∀ x,x ∈ o.op.operands->Rep w ι R (aev e x) (ρ x)) :
  ∃ arr,(execOp ρ o).run P w=.ok (.value (m.val w.heap.size)) (w.alloc (.cells arr m.t))/\zft w ι R m.cs arr:=by
 unfold mkD at h
 split at h
 ·rename_i t ho
  split at h
  ·rename_i i ht
   split at h
   ·rename_i hone
    cases h
    refine ⟨i.zero.cells,?_,by simp,fun j a ha=>?_⟩
    ·simp only [execOp,ho,Instr.alloc,Sem.run_bind,zpz hT ht,Result.andThen_ok,newVar,newRow,zcs,Sem.run_pure,MK.val]
    ·rw [List.getElem?_map] at ha
     cases hz:i.zero.cells.toList[j]? with
     | none=>rw [hz] at ha;cases ha
     | some z =>
      rw [hz] at ha;cases ha
      exact ⟨z,by simpa using hz,List.all_eq_true.1 hone z (List.mem_of_getElem? hz),.p _ _ (.v _)⟩
   ·cases h
  ·cases h
 ·rename_i t x ho
  split at h
  ·rename_i hok
   cases h
   have hc:=zdp (hρ x (by rw [ho];simp [Op.operands])) hok
   refine ⟨(ρ x).cells,?_,hc.1.symm,hc.2⟩;simp only [execOp,ho,Instr.box,Sem.run_bind,Result.andThen_ok,newVar,newRow,zcs,Sem.run_pure,MK.val]
  ·cases h
 ·rename_i t len parts ho
  split at h
  ·rename_i ti ht
   split at h
   ·rename_i el hd
    split at h
    ·rename_i te he
     split at h
     ·rename_i hlim
      split at h
      ·rename_i cs hcs
       split at h
       ·rename_i rs hone hrs
        cases h
        have hops:∀ (n:Nat) (x:Operand),(n,x) ∈ parts.toList->Rep w ι R (aev e x) (ρ x):=fun n x hx=>hρ x (by
         rw [ho];simp only [Op.operands,List.mem_toArray,List.mem_map];exact ⟨(n,x),hx,rfl⟩)
        have hparts:∀ l:List (Nat × Operand),(∀ n x,(n,x) ∈ l->Rep w ι R (aev e x) (ρ x))->zj0 w ι R (l.map fun (n,x)=>(n,aev e x)) (l.map fun (n,x)=>(n,ρ x)):=by
         intro l
         induction l with
         | nil=>intro _;trivial
         | cons p l ih =>
          intro hl;obtain ⟨n,x⟩:=p;exact ⟨rfl,hl n x (by simp),ih fun n x hx=>hl n x (by simp [hx])⟩
        obtain ⟨arr',h1,h2,h3⟩:=zgu (w:=w) (ι:=ι) (R:=R) _ _ _ cs ((Array.range (len * te.size)).map (te.zero.cells[· % te.zero.cells.size]!)) (hparts parts.toList hops) hcs (by simp) (fun j a ha=>by
         rw [List.getElem?_map] at ha;have hjl:j < len * te.size:=by
          cases hz:(List.range (len * te.size))[j]? with
          | none=>rw [hz] at ha;cases ha
          | some z=>have:=(List.getElem?_eq_some_iff.1 hz).1;simpa using this
         rw [List.getElem?_range hjl] at ha
         cases ha
         exact ⟨_,by simp [hjl],.p _ _ (.v _)⟩)
        refine ⟨arr',?_,h2.symm,fun j a ha=>?_⟩
        ·have e1:(parts.map fun (p:Nat × Operand)=>(p.1,ρ p.2)).toList=parts.toList.map fun (n,x)=>(n,ρ x):=by simp
         have hlim':¬ (len * te.size > 2 ^ 24):=by
          have:(2:Nat) ^ 24=16777216:=by decide
          have:=hlim.2
          omega
         simp only [execOp,ho,Instr.buildSlice,Sem.run_bind,zco hT ht,Result.andThen_ok,hd,zie hT he,hlim',if_false];rw [show (parts.map fun x=>match x with|(i,x)=>(i,ρ x))=parts.map fun (p:Nat × Operand)=>(p.1,ρ p.2) from rfl,e1]
         by_cases h0:len * te.size=0
         ·have e3:((Array.range (len * te.size)).map fun x=>(#[]:Array Value)[x % (#[]:Array Value).size]!)=(Array.range (len * te.size)).map (te.zero.cells[· % te.zero.cells.size]!):=by rw [h0];simp
          rw [if_pos h0];simp only [Sem.run_pure,Result.andThen_ok,Sem.run_bind,e3,h1,newRow,zcs,MK.val]
         ·rw [if_neg h0];simp only [Sem.run_pure,Result.andThen_ok,Sem.run_bind,zpz hT he,h1,newRow,zcs,MK.val]
        ·obtain ⟨u,hu,hr⟩:=h3 j a ha;exact ⟨u,hu,zrq hr (List.all_eq_true.1 hone a (List.mem_of_getElem? ha)),hr⟩
       ·cases h
      ·cases h
     ·cases h
    ·cases h
   ·cases h
  ·cases h
 ·cases h
theorem Rel.poke {w0:Base} {B:Nat->Prop} {w:World} {ι:Pl} {H:AH} (h:Rel w0 B w ι H) {c:Nat} (hge:w0.own c) (hno:¬ zbg ι H c) (hnB:¬ B c) {w':World}
  (hos:w'.os=w.os) (htape:w'.tape=w.tape) (hout:w'.output=w.output) (hsz:w'.heap.size=w.heap.size) (hoth:∀ d,d ≠ c->w'.heap[d]?=w.heap[d]?):Rel w0 B w' ι H/\Keeps none w ι (Rd B ι H) w' ι (Rd B ι H):=by
 have hk:Keeps none w ι (Rd B ι H) w' ι (Rd B ι H):=⟨by omega,fun d hd _=>⟨hd,hoth d fun e=>hnB (e ▸ hd.1)⟩,fun _ _ _ _ h=>h⟩
 refine ⟨⟨⟨hos.trans h.gr.os,htape.trans h.gr.tape,hout.trans h.gr.output,by have:=h.size;omega,fun d hd hx=>?_⟩,fun b hb=>h.fut b (by omega),h.len,fun k b c1 s h1 h2=>⟨(h.blk k b c1 s h1 h2).1,(h.blk k b c1 s h1 h2).2.keep0 hk fun c' e=>?_⟩,h.inj⟩,hk⟩
 ·rw [hoth d (fun e=>by subst e;rcases hge with h1|h1 <;> first|exact hx h1|omega)];exact h.gr.block d hd hx
 ·subst e;exact hoth c' fun e=>hno (e ▸ ⟨k,b,s,h1,h2⟩)
theorem Rel.adopt {w0:Base} {B B':Nat->Prop} {w:World} {ι:Pl} {H:AH} (h:Rel w0 B w ι H) {c:Nat} {arr:Array Value} {m:MK} {cs:List AV} (hc:w.heap[c]?=some (.cells arr m.t (0,0))) (hge:w0.own c) (hno:¬ zbg ι H c) (hnB:¬ B c)
  (hB:∀ b,B b->B' b) (hcr:zft w ι (Rd B ι H) cs arr) (hmo:m.Ok cs) :
  Rel w0 B' w (ι++[(some c,m.shape arr.size)]) (H++[some (m.blk cs)])/\Keeps none w ι (Rd B ι H) w (ι++[(some c,m.shape arr.size)]) (Rd B' (ι++[(some c,m.shape arr.size)]) (H++[some (m.blk cs)])):=by
 have hown:∀ d,zbg (ι++[(some c,m.shape arr.size)]) (H++[some (m.blk cs)]) d->zbg ι H d\/d=c:=by
  rintro d ⟨k,b',s',h1,h2⟩
  rcases za1 h1 with ⟨hl,h1⟩|⟨rfl,e⟩
  ·rcases za1 h2 with ⟨hl',h2⟩|⟨e,_⟩
   ·exact .inl ⟨k,b',s',h1,h2⟩
   ·rw [h.len] at e;omega
  ·rw [<-h.len] at h2;rw [zaz] at h2
   cases h2;exact .inr rfl
 have hk:Keeps none w ι (Rd B ι H) w (ι++[(some c,m.shape arr.size)]) (Rd B' (ι++[(some c,m.shape arr.size)]) (H++[some (m.blk cs)])) :=
  ⟨nR _,fun d hd hlt=>⟨⟨hB d hd.1,fun ho=>by
   rcases hown d ho with ho|ho
   ·exact hd.2 ho
   ·subst ho;exact hnB hd.1⟩,rfl⟩,fun k c s _ hx=>zfq hx⟩
 refine ⟨⟨h.gr,fun b hb=>hB b (h.fut b hb),by simp [h.len],fun k b' d s' g1 g2=>?_,fun k l b1 b2 d s1 s2 g1 g2 g3 g4=>?_⟩,hk⟩
 ·rcases za1 g1 with ⟨hl,g1⟩|⟨rfl,e⟩
  ·rcases za1 g2 with ⟨hl',g2⟩|⟨e,_⟩
   ·exact ⟨(h.blk k b' d s' g1 g2).1,(h.blk k b' d s' g1 g2).2.keep0 hk fun c' e=>rfl⟩
   ·rw [h.len] at e;omega
  ·rw [<-h.len,zaz] at g2
   cases g2
   cases e
   refine ⟨fun c' e=>by cases e;exact hge,?_⟩
   have hcr':=hcr.keep0 hk;unfold MK.blk MK.shape at *
   cases hr:m.rows with
   | none =>
    simp only [hr] at hcr' ⊢;exact ⟨⟨rfl,fun n e=>by cases e⟩,c,arr,rfl,hc,hcr.1,hcr'.2⟩
   | some x =>
    obtain ⟨s,len,rs⟩:=x;obtain ⟨rfl,hch,hs,hl,_⟩:=hmo s len rs hr;simp only [hr] at hcr' ⊢;have hg:=zh9 s len m.cs rs hch hl;refine ⟨rfl,fun i row hrow=>(hg.2 i row hrow).1,.inr ⟨c,arr,rfl,hc,rfl,fun i j row a hrow ha=>?_⟩⟩
    obtain ⟨x,hx,hxa⟩:=(hg.2 i row hrow).2 j a ha;obtain ⟨v,hv,h1,h2⟩:=hcr'.2 _ x hx;exact ⟨v,hv,h1,h2.toP _ hxa⟩
 ·rcases za1 g1 with ⟨hl,g1⟩|⟨rfl,e⟩
  ·rcases za1 g3 with ⟨_,g3⟩|⟨e,_⟩
   ·rcases za1 g2 with ⟨hl2,g2⟩|⟨rfl,e⟩
    ·rcases za1 g4 with ⟨_,g4⟩|⟨e,_⟩
     ·exact h.inj k l b1 b2 d s1 s2 g1 g2 g3 g4
     ·rw [h.len] at e;omega
    ·rw [<-h.len,zaz] at g4
     cases g4
     exact absurd ⟨k,b1,s1,g1,g3⟩ hno
   ·rw [h.len] at e;omega
  ·rw [<-h.len,zaz] at g3
   cases g3
   rcases za1 g2 with ⟨hl2,g2⟩|⟨rfl,e⟩
   ·rcases za1 g4 with ⟨_,g4⟩|⟨e,_⟩
    ·exact absurd ⟨l,b2,s2,g2,g4⟩ hno
    ·rw [h.len] at e;omega
   ·rfl
def z8s (all:List Oper) (o:Oper):Bool:=match o.op,o.dst with
 | .buildSlice _ _ _,some d=>all.any fun o'=>(match o'.op with
  | .call c=>(match c.callee with
   | .value _=>c.args.toList.any fun x=>(match x with
    | .tmp t=>Nat.beq t d
    | _=>false)
   | _=>false)
  | _=>false)
 | _,_=>false
def zhl (all:List Oper) (o:Oper):Bool:=match o.op with
 | .alloc _=>true
 | .box _ _=>true
 | .buildSlice _ _ _=>!z8s all o
 | _=>false
def zr8 (o:Oper):Bool:=match o.op with
 | .store _ _ _=>true
 | _=>false
theorem zyc {all:List Oper} {o:Oper} (h:zhl all o=true):zr8 o=false:=by
 unfold zhl at h;unfold zr8
 split at h <;> simp_all
def zpj (T:TT) (o:Oper) (env:List AV) (K:AV->Prop):Prop:=match o.guard,mkD T env o with
 | none,some m=>(match m.rows with
  | some (s,_,rs)=>K (.p (.ro s rs))
  | none=>False)
 | _,_=>False
theorem zjy {P:Program} {G:World->Prop} {T:TT} (hT:TOk P T) {o:Oper} {env:List AV} {H:AH} {K:AV->Prop} (h:zpj T o env K):o.guard=none/\∃ a,K a/\QS P G o env H a:=by
 unfold zpj at h
 split at h
 ·rename_i m hg hm
  split at h
  ·rename_i s len rs hr;refine ⟨hg,_,h,fun w0 B w ι ρ hR _ hρ _=>?_⟩
   obtain ⟨arr,hrun,hcr⟩:=z22 (P:=P) hT hm hρ;rw [hrun];have hok:=z24 hm;obtain ⟨_,hch,hs,hl,hml⟩:=hok s len rs hr;have hgr:Gr w (w.alloc (.cells arr m.t)):=(Below.refl _ w).alloc (nR _) _;refine ⟨hgr,.p _ _ ?_⟩;have hg2:=zh9 s len m.cs rs hch hl;have hblk:(w.alloc (.cells arr m.t)).heap[w.heap.size]?=some (.cells arr m.t (0,0)):=heap_alloc_new w _;have hnb:Rd B ι H w.heap.size:=⟨hR.fut _ (nR _),fun ho=>by have:=hR.lt ho;omega⟩
   have hcell:∀ (i j:Nat) (row:List PV) (a:PV),rs[i]?=some row->row[j]?=some a->∃ v,arr[i * s + j]?=some v/\v.oneCell'=true/\RepP w (Rd B ι H) a v:=fun i j row a hrow ha=>by
    obtain ⟨x,hx,hxa⟩:=(hg2.2 i row hrow).2 j a ha;obtain ⟨v,hv,h1,h2⟩:=hcr.2 _ x hx;exact ⟨v,hv,h1,h2.toP _ hxa⟩
   have hlen:rs.length=len:=hg2.1;have hv:m.val w.heap.size=.slice (some ⟨w.heap.size,0,none⟩) len len:=by unfold MK.val;rw [hr]
   rw [hv,<- hlen];have hkp:Keeps none w ι (Rd B ι H) (w.alloc (.cells arr m.t)) ι (Rd B ι H):=Keeps.gr hgr;exact RepP.ro (w:=w.alloc (.cells arr m.t)) (R:=Rd B ι H) s rs w.heap.size 0 rs.length (fun i j=>(arr[i * s + j]?).getD undef) hnb (zbx hblk) (nR _) (fun i row hrow=>(hg2.2 i row hrow).1)
    (fun i j row a hrow ha=>by
     obtain ⟨v,hv,h1,h2⟩:=hcell i j row a hrow ha;rw [zsp hblk,Nat.zero_add,hv];exact ⟨rfl,h1⟩)
    (fun i j row a hrow ha=>by
     obtain ⟨v,hv,h1,h2⟩:=hcell i j row a hrow ha;simp only [hv,Option.getD_some];exact h2.keep hkp.size hkp.read)
  ·cases h
 ·cases h
def z2h:Nat->List Oper->Nat->Tmp->Option (Nat × TypeId × Operand)
 | 0,_,_,_=>none
 | _ + 1,[],_,_=>none
 | n + 1,o :: os,i,d=>match o.op with
  | .store t (.tmp d') y=>(match Nat.beq d' d with
   | true=>some (i,t,y)
   | false=>z2h n os (i + 1) d)
  | _=>z2h n os (i + 1) d
def zlc (all:List Oper) (k:Nat) (d:Tmp):Option (Nat × TypeId × Operand):=z2h k all 0 d
theorem zs5 {all:List Oper} {d s:Nat} {t:TypeId} {y:Operand}:∀ (n m:Nat),z2h n (all.drop m) m d=some (s,t,y)->s < m + n/\∃ o,all[s]?=some o/\o.op=.store t (.tmp d) y
 | 0,m,h=>by simp [z2h] at h
 | n + 1,m,h=>by
  cases hd:all.drop m with
  | nil=>rw [hd] at h;simp [z2h] at h
  | cons o os =>
   rw [hd] at h;have hml:m < all.length:=by
    rcases Nat.lt_or_ge m all.length with h'|h'
    ·exact h'
    ·rw [List.drop_eq_nil_of_le h'] at hd;cases hd
   have hos:os=all.drop (m + 1)/\all[m]?=some o:=by
    rw [List.drop_eq_getElem_cons hml] at hd
    cases hd
    exact ⟨rfl,List.getElem?_eq_getElem hml⟩
   have again:z2h n os (m + 1) d=some (s,t,y)->s < m + (n + 1)/\∃ o,all[s]?=some o/\o.op=.store t (.tmp d) y:=fun h=>by
    rw [hos.1] at h;obtain ⟨h1,h2⟩:=zs5 n (m + 1) h;exact ⟨by omega,h2⟩
   unfold z2h at h
   split at h
   ·rename_i t' d' y' hop
    split at h
    ·rename_i hb
     cases h
     have:=Nat.eq_of_beq_eq_true hb
     subst this;exact ⟨by omega,o,hos.2,hop⟩
    ·exact again h
   ·exact again h
theorem zhc {all:List Oper} {k d s:Nat} {t:TypeId} {y:Operand} (h:zlc all k d=some (s,t,y)):s < k/\∃ o,all[s]?=some o/\o.op=.store t (.tmp d) y:=by
 have:=zs5 (all:=all) k 0 (by simpa [zlc] using h)
 simpa using this
def z3c (T:TT) (all:List Oper) (k:Nat) (e:List AV) (o:Oper) (m:MK):Option (List AV):=match o.dst.bind (zlc all k) with
 | none=>some m.cs
 | some (_,t,y)=>(match o.op,T t with
  | .alloc _,some i=>if zgl (aev e y)=true/\(zba (aev e y)).length=i.size/\i.size=m.cs.length then some (zba (aev e y)) else none
  | _,_=>none)
def zm0 (P:Program) (G:World->Prop) (E:SO) (T:TT) (all:List Oper) (H:AH):Nat->List Oper->List AV->(List AV->Prop)->Prop
 | 0,_,env,K=>K env
 | _ + 1,[],env,K=>K env
 | n + 1,o :: os,env,K=>if (zhl all o || zr8 o)=true then zm0 P G E T all H n os (zj3 env o.dst .junk) K else if z8s all o=true then zpj T o env fun a=>zm0 P G E T all H n os (zj3 env o.dst a) K else (match o.guard with
  | none=>aq P G E T o env H fun a=>zm0 P G E T all H n os (zj3 env o.dst a) K
  | some (j,want)=>(match z5g all env j with
   | some b=>(match zqk want b with
    | true=>aq P G E T o env H fun a=>zm0 P G E T all H n os (zj3 env o.dst a) K
    | false=>zm0 P G E T all H n os (zj3 env o.dst (.p (.v undef))) K)
   | none=>False))
def zgw (T:TT) (all:List Oper) (k:Nat) (e:List AV):Nat->List Oper->List AV->AH->(List AV->AH->Prop)->Prop
 | 0,_,env,H,K=>K env H
 | _ + 1,[],env,H,K=>K env H
 | n + 1,o :: os,env,H,K=>if zhl all o=true then (match mkD T e o,o.dst with
  | some m,some d=>(match z3c T all k e o m with
   | some cs=>zgw T all k e n os (env.set d (m.av H.length)) (H++[some (m.blk cs)]) K
   | none=>False)
  | _,_=>False) else zgw T all k e n os env H K
def z1l (ops:List Oper) (k:Nat) (t:Tmp):Bool:=(List.range k).all fun j=>(ops[j]?).bind (·.dst) != some t
theorem zh2 {ops:List Oper} {k:Nat} {t:Tmp} (h:z1l ops k t=true) {j:Nat} (hj:j < k):(ops[j]?).bind (·.dst) ≠ some t:=by
 unfold z1l at h;simpa using List.all_eq_true.1 h j (List.mem_range.2 hj)
def z4i (ops:List Oper) (k i:Nat) (o:Oper):Bool :=
 (o.op.operands.all fun x=>match x with
  | .tmp t=>z1l ops k t || (zau ops.toArray i).any fun d=>(ops[d]?).bind (·.dst) == some t
  | _=>true) &&
 (match o.guard with
  | none=>true
  | some (j,_)=>(zau ops.toArray i).contains j && ((ops[j]?).bind (·.dst)).isSome) &&
 (!zhl ops o || (o.guard.isNone && o.dst.isSome)) &&
 (!zr8 o || (o.guard.isNone && o.dst.isNone && (match o.op with
  | .store _ (.tmp d) _=>((zlc ops k d).map (·.1) == some i) && (zau ops.toArray i).any fun j=>(match ops[j]? with
   | some oj=>zhl ops oj && oj.dst == some d
   | none=>false)
  | _=>false)))
def zli (nt:Nat) (ops:List Oper) (k:Nat):Bool :=
 rgB ops.toArray k 8 && decide (k<=ops.length) && (ops.all fun o=>match o.dst with
  | some t=>decide (t < nt)
  | none=>true) && (List.range k).all fun i=>match ops[i]? with
  | some o=>z4i ops k i o
  | none=>true
def zam (all:List Oper) (avs:Nat->AV) (m:Nat):Nat->List AV->List AV
 | 0,env=>env
 | q + 1,env=>zj3 (zam all avs m q env) ((all[m + q]?).bind (·.dst)) (avs (m + q))
theorem zer (all:List Oper) (avs:Nat->AV) (m:Nat):∀ (q:Nat) (env:List AV),zam all avs m (q + 1) env=zam all avs (m + 1) q (zj3 env ((all[m]?).bind (·.dst)) (avs m))
 | 0,env=>rfl
 | q + 1,env=>by
  rw [zam,zer all avs m q env,zam];rw [show m + (q + 1)=m + 1 + q by omega]
theorem zgq {all:List Oper} {avs avs':Nat->AV} {m:Nat}:∀ (q:Nat) (env:List AV),(∀ i,m<=i->i < m + q->avs i=avs' i)->zam all avs m q env=zam all avs' m q env
 | 0,_,_=>rfl
 | q + 1,env,h=>by
  rw [zam,zam,zgq q env fun i h1 h2=>h i h1 (by omega),h (m + q) (by omega) (by omega)]
theorem zda (all:List Oper) (avs:Nat->AV) (m:Nat):∀ (q:Nat) (env:List AV),(zam all avs m q env).length=env.length
 | 0,_=>rfl
 | q + 1,env=>by
  rw [zam]
  have:=zda all avs m q env
  cases (all[m + q]?).bind (·.dst) <;> simp [zj3,this]
theorem zdf {all:List Oper} {avs:Nat->AV} {t:Nat}:∀ (q:Nat) (env:List AV),(∀ i,i < q->(all[i]?).bind (·.dst) ≠ some t)->(zam all avs 0 q env)[t]?=env[t]?
 | 0,_,_=>rfl
 | q + 1,env,h=>by
  rw [zam];have ih:=zdf (avs:=avs) q env fun i hi=>h i (by omega)
  have h0:=h q (by omega)
  rw [Nat.zero_add]
  cases hd:(all[q]?).bind (·.dst) with
  | none=>exact ih
  | some s =>
   simp only [zj3];rw [List.getElem?_set_ne (fun e=>h0 (by rw [hd,e]))];exact ih
theorem zee {all:List Oper} {avs:Nat->AV} {t d:Nat} (hd:(all[d]?).bind (·.dst)=some t):∀ (q:Nat) (env:List AV),d < q->t < env.length->(∀ i,i < q->i ≠ d->(all[i]?).bind (·.dst) ≠ some t)->(zam all avs 0 q env)[t]?=some (avs d)
 | 0,_,h,_,_=>by omega
 | q + 1,env,h,hl,hu=>by
  rw [zam,Nat.zero_add]
  by_cases e:d=q
  ·subst e;rw [hd];simp only [zj3];rw [List.getElem?_set_self (by rw [zda];exact hl)]
  ·have ih:=zee (avs:=avs) hd q env (by omega) hl fun i hi=>hu i (by omega)
   have h0:=hu q (by omega) (fun e'=>e e'.symm)
   cases hq:(all[q]?).bind (·.dst) with
   | none=>exact ih
   | some s =>
    simp only [zj3];rw [List.getElem?_set_ne (fun e'=>h0 (by rw [hq,e']))];exact ih
section
variable {P:Program} {G:World->Prop} {T:TT}
def OpF (P:Program) (G:World->Prop) (all:List Oper) (H:AH) (o:Oper) (env:List AV) (x:AV):Prop :=
 ((zhl all o || zr8 o)=true/\x=.junk)\/((zhl all o || zr8 o)=false/\((o.guard=none/\QS P G o env H x)\/∃ j want b,o.guard=some (j,want)/\z5g all env j=some b/\((b=some want/\QS P G o env H x)\/(b ≠ some want/\x=.p (.v undef)))))
theorem zq3 (hT:TOk P T) {all:List Oper} {H:AH}:∀ (n m:Nat) (env:List AV) (K:List AV->Prop),m + n<=all.length->zm0 P G zas T all H n (all.drop m) env K →
  ∃ avs:Nat->AV,K (zam all avs m n env)/\∀ q o,q < n->all[m + q]?=some o->OpF P G all H o (zam all avs m q env) (avs (m + q))
 | 0,m,env,K,_,h=>⟨fun _=>.junk,h,fun q o hq _=>by omega⟩
 | n + 1,m,env,K,hle,h=>by
  have hm:m < all.length:=by omega
  rw [List.drop_eq_getElem_cons hm] at h;have ho:all[m]?=some all[m]:=List.getElem?_eq_getElem hm;have go:∀ x:AV,OpF P G all H all[m] env x->zm0 P G zas T all H n (all.drop (m + 1)) (zj3 env all[m].dst x) K->∃ avs:Nat->AV,K (zam all avs m (n + 1) env)/\∀ q o,q < n + 1->all[m + q]?=some o->OpF P G all H o (zam all avs m q env) (avs (m + q)):=by
   intro x hx h;obtain ⟨avs,hK,hF⟩:=zq3 hT n (m + 1) _ K (by omega) h
   have hc:∀ q env,zam all (fun i=>if i=m then x else avs i) (m + 1) q env=zam all avs (m + 1) q env:=fun q env=>zgq q env fun i h1 _=>by rw [if_neg (by omega)]
   refine ⟨fun i=>if i=m then x else avs i,?_,fun q o hq hqo=>?_⟩
   ·rw [zer,hc,ho];simpa using hK
   ·cases q with
    | zero =>
     rw [Nat.add_zero,ho] at hqo
     cases hqo
     simpa [zam] using hx
    | succ q =>
     have:=hF q o (by omega) (by rw [<-hqo];congr 1;omega)
     rw [zer,hc,ho];simp only [Option.bind_some,if_true];rw [if_neg (by omega)]
     rw [show m + (q + 1)=m + 1 + q by omega]
     exact this
  unfold zm0 at h
  split at h
  ·rename_i hal;exact go .junk (.inl ⟨hal,rfl⟩) h
  ·rename_i hal;have hal':(zhl all all[m] || zr8 all[m])=false:=by simpa using hal
   split at h
   ·obtain ⟨hg,x,hK,hq⟩:=zjy (P:=P) (G:=G) (H:=H) hT h;exact go x (.inr ⟨hal',.inl ⟨hg,hq⟩⟩) hK
   split at h
   ·rename_i hg;obtain ⟨x,hK,hq⟩:=zlr hT h;exact go x (.inr ⟨hal',.inl ⟨hg,hq⟩⟩) hK
   ·rename_i j want hg
    split at h
    ·rename_i b hb
     split at h
     ·rename_i ht;obtain ⟨x,hK,hq⟩:=zlr hT h;exact go x (.inr ⟨hal',.inr ⟨j,want,b,hg,hb,.inl ⟨zh1 ht,hq⟩⟩⟩) hK
     ·rename_i ht;exact go _ (.inr ⟨hal',.inr ⟨j,want,b,hg,hb,.inr ⟨zgn ht,rfl⟩⟩⟩) h
    ·cases h
end
/- Own work: a region that draws its order: soundness. -/
section
variable {P:Program} {G:World->Prop} {T:TT} {w0:Base} {B:Nat->Prop} {nt:Nat}
def LA (all:List Oper) (k:Nat) (listed:Array Bool) (i:Nat):Prop:=i < k/\listed.getD i false=true/\∃ o,all[i]?=some o/\zhl all o=true
def BX (all:List Oper) (k:Nat) (B:Nat->Prop) (c:Nat->Nat) (listed:Array Bool) (b:Nat):Prop:=B b/\∀ i,LA all k listed i->b ≠ c i
def zsg (all:List Oper) (k:Nat) (e:List AV) (listed:Array Bool) (o:Oper) (m:MK):List AV:=match o.dst.bind (zlc all k) with
 | none=>m.cs
 | some (s,_,y)=>(match listed.getD s false with
  | true=>zba (aev e y)
  | false=>m.cs)
structure JS (T:TT) (all:List Oper) (k:Nat) (w0:Base) (B:Nat->Prop) (ws:Nat) (ι:Pl) (H:AH) (env0:List AV) (avs:Nat->AV) (e1:List AV) (c:Nat->Nat) (listed:Array Bool) (a:Act) (w:World):Prop where
 defers:a.defers=w0.ds
 size:a.tmps.size=env0.length
 pin:∀ t v,w0.pin t=some v->a.tmps[t]?=some v
 grow:ws<=w.heap.size
 rel:Rel w0 (BX all k B c listed) w ι H
 made:∀ (i:Nat) (o:Oper) (m:MK),LA all k listed i->all[i]?=some o->mkD T e1 o=some m->ws<=c i/\(∃ arr,w.heap[c i]?=some (.cells arr m.t (0,0))/\zft w ι (Rd (BX all k B c listed) ι H) (zsg all k e1 listed o m) arr)/\∀ d,o.dst=some d->a.eval (.tmp d)=m.val (c i)
 inj:∀ i j,LA all k listed i->LA all k listed j->c i=c j->i=j
 closed:∀ i,listed.getD i false=true->∀ d ∈ zau all.toArray i,listed.getD d false=true
 vals:∀ (i:Nat) (o:Oper) (t:Tmp),all[i]?=some o->i < k->listed.getD i false=true->zhl all o=false->o.dst=some t->Rep w ι (Rd (BX all k B c listed) ι H) (avs i) (a.eval (.tmp t))
 rest:∀ (t:Tmp),(∀ (i:Nat) (o:Oper),all[i]?=some o->i < k->listed.getD i false=true->o.dst ≠ some t)->Rep w ι (Rd (BX all k B c listed) ι H) (aev env0 (.tmp t)) (a.eval (.tmp t))
theorem zgv {all:List Oper} {k:Nat} {e:List AV} {K:List AV->AH->Prop}:∀ (n:Nat) (os:List Oper) (env:List AV) (H:AH),zgw T all k e n os env H K->∀ (i:Nat) (o:Oper),i < n->os[i]?=some o->zhl all o=true->∃ m cs d,mkD T e o=some m/\z3c T all k e o m=some cs/\o.dst=some d
 | 0,_,_,_,_,i,_,h,_,_=>by omega
 | _ + 1,[],_,_,_,i,o,_,h,_=>by simp at h
 | n + 1,o :: os,env,H,h,i,o',hi,ho,hal=>by
  unfold zgw at h
  cases i with
  | zero =>
   simp at ho;subst ho;rw [if_pos hal] at h
   split at h
   ·rename_i m d hm hd
    split at h
    ·rename_i cs hcs;exact ⟨m,cs,d,hm,hcs,hd⟩
    ·cases h
   ·cases h
  | succ i =>
   have ho':os[i]?=some o':=by simpa using ho
   split at h
   ·split at h
    ·split at h
     ·exact zgv n os _ _ h i o' (by omega) ho' hal
     ·cases h
    ·cases h
   ·exact zgv n os _ _ h i o' (by omega) ho' hal
theorem zyj {all:List Oper} {k:Nat} {e:List AV} {o:Oper} {m:MK} {cs:List AV} (hm:mkD T e o=some m) (h:z3c T all k e o m=some cs) (hok:m.Ok m.cs):m.Ok cs:=by
 unfold z3c at h
 split at h
 ·cases h;exact hok
 ·split at h
  ·rename_i t hop _
   split at h
   ·intro s len rs hr;unfold mkD at hm;rw [hop] at hm;simp only at hm
    split at hm
    ·split at hm
     ·cases hm;cases hr
     ·cases hm
    ·cases hm
   ·cases h
  ·cases h
theorem zdt {a:Act} {d:Tmp} {v:Value} (h:d < a.tmps.size):(a.put (some d) v).eval (.tmp d)=v:=by simp [Act.eval,Act.put,h]
theorem zbt {a:Act} {d:Option Tmp} {t:Tmp} {v:Value} (h:d ≠ some t):(a.put d v).eval (.tmp t)=a.eval (.tmp t):=by
 cases d with
 | none=>rfl
 | some s =>
  have hne:s ≠ t:=fun e=>h (by rw [e])
  simp only [Act.eval,Act.put,Array.getD_eq_getD_getElem?];rw [Array.getElem?_setIfInBounds_ne hne]
theorem zdz {all:List Oper} {k:Nat} {listed:Array Bool} {i x:Nat} (h:LA all k (listed.setIfInBounds i true) x) (hne:x ≠ i):LA all k listed x:=⟨h.1,by have:=h.2.1;rw [getD_set_ne false (Ne.symm hne)] at this;exact this,h.2.2⟩
theorem zk9 (hT:TOk P T) (hG0:∀ w,GrX w0 w->G w) (hB0:∀ b,w0.own b->B b) (hm:P.follows .mixedOrders=true) {id:Nat} {all:List Oper} {k:Nat} (hpd:∀ o ∈ all,∀ t,o.dst=some t->w0.pin t=none) (hok:zli nt all k=true) {Q:Exit->List AV->AH->Prop} {env0:List AV} {H:AH} {a:Act} {w:World}
  (h:zm0 P G zas T all H k all env0 fun env1=>zgw T all k env1 k all env1 H fun env2 H2=>zmz P G zas T all Q (all.drop k) env2 H2) (hS:St w0 B nt env0 H a w) :
  (Code.region id all.toArray true).wp P (zj4 w0 B nt Q) a w:=by
 obtain ⟨hd0,hn0,hp0,ι,hR0,hE0⟩:=hS;have hlen0:env0.length=nt:=by rw [hE0.len];exact hn0
 unfold zli at hok;simp only [bAT,decide_eq_true_eq] at hok;obtain ⟨⟨⟨hrg,hkl⟩,hdst⟩,hops⟩:=hok;have hdlt:∀ (i:Nat) (o:Oper) (t:Tmp),all[i]?=some o->o.dst=some t->t < env0.length:=fun i o t ho ht=>by
  have:=List.all_eq_true.1 hdst o (List.mem_of_getElem? ho)
  rw [ht] at this;rw [hlen0];simpa using this
 rw [lAT] at hops;have hopOk:∀ i o,i < k->all[i]?=some o->z4i all k i o=true:=fun i o hi ho=>by
  have:=hops i (List.mem_range.2 hi)
  rw [ho] at this;exact this
 obtain ⟨avs,hK,hF⟩:=zq3 (all:=all) hT k 0 env0 _ (by omega) (by simpa using h)
 obtain ⟨e1,he1⟩:∃ e1,zam all avs 0 k env0=e1:=⟨_,rfl⟩
 rw [he1] at hK;have hTal:∀ (i:Nat) (o:Oper),i < k->all[i]?=some o->zhl all o=true->∃ m cs d,mkD T e1 o=some m/\z3c T all k e1 o m=some cs/\o.dst=some d:=fun i o hi ho hal=>zgv k all _ H hK i o hi ho hal
 have hdis:∀ (i j:Nat) (oi oj:Oper) (t:Tmp),all[i]?=some oi->all[j]?=some oj->i ≠ j->oi.dst=some t->oj.dst ≠ some t:=by
  have hB:=hrg;simp only [rgB,bAT,lAT,lMR,decide_eq_true_eq,Bool.or_eq_true] at hB;intro i j oi oj t hi hj hne hti htj;have hil:=(List.getElem?_eq_some_iff.1 hi).1;have hjl:=(List.getElem?_eq_some_iff.1 hj).1
  rcases hB.2 i (by simpa using hil) j (by simpa using hjl) with hh|hh
  ·rcases hh with hh|hh
   ·exact hne hh
   ·simp [hi,hti] at hh
  ·simp [hi,hj,hti,htj] at hh
 have hback:∀ i d,d ∈ zau all.toArray i->d < i:=fun i d hd=>by
  have hB:=hrg;simp only [rgB,bAT,lAT,lMR,decide_eq_true_eq] at hB
  rcases Nat.lt_or_ge i all.toArray.size with h|h
  ·exact hB.1.1 i h d hd
  ·simp [zau,Array.getElem?_eq_none h] at hd
 have hopd:∀ (ws:Nat) (c:Nat->Nat) (listed:Array Bool) (a:Act) (w:World) (i q:Nat) (o:Oper),JS T all k w0 B ws ι H env0 avs e1 c listed a w->(∀ d ∈ zau all.toArray i,listed.getD d false=true)->all[i]?=some o->i < k->i<=q->q<=k →
   ∀ x,x ∈ o.op.operands->Rep w ι (Rd (BX all k B c listed) ι H) (aev (zam all avs 0 q env0) x) (a.eval x):=by
  intro ws c listed a w i q o hJ hdeps ho hik hiq hqk x hx;have hopk:=hopOk i o hik ho;unfold z4i at hopk;simp only [bAT] at hopk;have hx':=(Array.all_eq_true_iff_forall_mem.1 hopk.1.1.1) x hx
  cases x with
  | const v=>exact .p _ _ (zol _ _ _)
  | global g=>exact .p _ _ (.v _)
  | func f=>exact .p _ _ (.v _)
  | tmp t =>
   simp only [Bool.or_eq_true] at hx'
   rcases hx' with hfree|hdep
   ·have he:(zam all avs 0 q env0)[t]?=env0[t]?:=zdf q env0 fun j hj=>zh2 hfree (by omega)
    have hr:=hJ.rest t fun j oj hj hjk _=>by
     have:=zh2 hfree hjk
     rw [hj] at this;simpa using this
    have e1:aev (zam all avs 0 q env0) (.tmp t)=aev env0 (.tmp t):=by
     simp only [aev,List.getD_eq_getElem?_getD,he]
    rw [e1];exact hr
   ·rw [List.any_eq_true] at hdep;obtain ⟨d,hdm,hdt⟩:=hdep;have hdt':(all[d]?).bind (·.dst)=some t:=by simpa using hdt
    cases hdo:all[d]? with
    | none=>rw [hdo] at hdt';cases hdt'
    | some od =>
     have hdst:od.dst=some t:=by rw [hdo] at hdt';simpa using hdt'
     have hdi:=hback i d hdm;have hl:=hdeps d hdm
     rcases Nat.lt_or_ge t env0.length with htl|htl
     ·have he:(zam all avs 0 q env0)[t]?=some (avs d):=zee hdt' q env0 (by omega) htl fun j hj hjd=>by
       cases hjo:all[j]? with
       | none=>simp
       | some oj=>simpa using hdis d j od oj t hdo hjo (Ne.symm hjd) hdst
      have e1:aev (zam all avs 0 q env0) (.tmp t)=avs d:=by simp only [aev,List.getD_eq_getElem?_getD,he];rfl
      rw [e1]
      cases hal:zhl all od with
      | true =>
       have:=hF d od (by omega) (by simpa using hdo)
       rcases this with ⟨_,hj⟩|⟨hh,_⟩
       ·rw [Nat.zero_add] at hj;rw [hj];exact .junk _
       ·rw [hal] at hh;simp at hh
      | false=>exact hJ.vals d od t hdo (by omega) hl hal hdst
     ·have he:(zam all avs 0 q env0)[t]?=none:=List.getElem?_eq_none (by rw [zda];exact htl)
      have e1:aev (zam all avs 0 q env0) (.tmp t)=.junk:=by simp only [aev,List.getD_eq_getElem?_getD,he];rfl
      rw [e1];exact .junk _
 have hcur:∀ (listed:Array Bool) (i:Nat) (o ox:Oper) (m:MK),all[i]?=some o->zr8 o=false->zsg all k e1 (listed.setIfInBounds i true) ox m=zsg all k e1 listed ox m:=by
  intro listed i o ox m ho hst;unfold zsg
  cases hs:ox.dst.bind (zlc all k) with
  | none=>rfl
  | some x =>
   obtain ⟨s,t,y⟩:=x;have hne:i ≠ s:=fun e=>by
    subst e;obtain ⟨d,_,hd⟩:=Option.bind_eq_some_iff.1 hs;obtain ⟨_,os,h1,h2⟩:=zhc hd;rw [ho] at h1;cases h1
    unfold zr8 at hst;rw [h2] at hst
    cases hst
   simp only [getD_set_ne false hne]
 have hclos:∀ (listed:Array Bool) (i:Nat),(∀ x,listed.getD x false=true->∀ d ∈ zau all.toArray x,listed.getD d false=true)->(∀ d ∈ zau all.toArray i,listed.getD d false=true)->∀ x,(listed.setIfInBounds i true).getD x false=true->∀ d ∈ zau all.toArray x,(listed.setIfInBounds i true).getD d false=true:=by
  intro listed i h1 h2 x hx d hd
  by_cases e:i=x
  ·subst e;exact getD_set_true (h2 d hd)
  ·rw [getD_set_ne false e] at hx;exact getD_set_true (h1 x hx d hd)
 have hput:∀ (ws:Nat) (c:Nat->Nat) (listed:Array Bool) (a:Act) (w w':World) (i:Nat) (o:Oper) (v:Value),JS T all k w0 B ws ι H env0 avs e1 c listed a w->listed.size=all.length->all[i]?=some o->i < k->listed.getD i false=false->(∀ d ∈ zau all.toArray i,listed.getD d false=true)->(zhl all o || zr8 o)=false →
   Gr w w'->Rep w' ι (Rd (BX all k B c listed) ι H) (avs i) v->JS T all k w0 B ws ι H env0 avs e1 c (listed.setIfInBounds i true) (a.put o.dst v) w':=by
  intro ws c listed a w w' i o v hJ hls ho hik hun hdp hals hg hv;rw [Bool.or_eq_false_iff] at hals;obtain ⟨hal,hst⟩:=hals;have hil:i < listed.size:=by rw [hls];exact (List.getElem?_eq_some_iff.1 ho).1
  have hLA:∀ x,LA all k (listed.setIfInBounds i true) x->LA all k listed x:=fun x hx=>zdz hx fun e=>by
   subst e;obtain ⟨o',h1,h2⟩:=hx.2.2;rw [ho] at h1;cases h1;rw [hal] at h2;cases h2
  have hBX:∀ b,BX all k B c listed b->BX all k B c (listed.setIfInBounds i true) b:=fun b hb=>⟨hb.1,fun x hx=>hb.2 x (hLA x hx)⟩
  have hre:=hJ.rel.regrow (B':=BX all k B c (listed.setIfInBounds i true)) hg (fun b _ hb=>hBX b hb) (fun b hb=>hBX b ((hJ.rel.grow hg).fut b hb))
  have hv':Rep w' ι (Rd (BX all k B c (listed.setIfInBounds i true)) ι H) (avs i) v:=by
   have hk0:Keeps none w' ι (Rd (BX all k B c listed) ι H) w' ι (Rd (BX all k B c (listed.setIfInBounds i true)) ι H):=⟨nR _,fun b hb _=>⟨⟨hBX b hb.1,hb.2⟩,rfl⟩,fun _ _ _ _ h=>h⟩
   exact hv.keep0 hk0
  refine ⟨by rw [zbw];exact hJ.defers,by cases o.dst <;> simp [Act.put,hJ.size],zd8 hJ.pin (hpd o (List.mem_of_getElem? ho)) _,Nat.le_trans hJ.grow hg.size,hre.1,fun x ox m hx hox hm=>?_,fun x y hx hy=>hJ.inj x y (hLA x hx) (hLA y hy),hclos listed i hJ.closed hdp,fun x ox t hox hxk hxl hxal hxd=>?_,fun t ht=>?_⟩
  ·obtain ⟨h1,⟨arr,h3,h3'⟩,h4⟩:=hJ.made x ox m (hLA x hx) hox hm;refine ⟨h1,⟨arr,by rw [hg.block _ (zbx h3)];exact h3,by rw [hcur listed i o ox m ho hst];exact h3'.keep0 hre.2⟩,fun d hd=>?_⟩
   have hxi:x ≠ i:=fun e=>by
    subst e;obtain ⟨o',g1,g2⟩:=hx.2.2;rw [ho] at g1;cases g1
    rw [hal] at g2;cases g2
   rw [zbt (hdis x i ox o d hox ho hxi hd)];exact h4 d hd
  ·by_cases hxi:x=i
   ·subst hxi;rw [ho] at hox;cases hox
    rw [hxd];rw [zdt (by rw [hJ.size];exact hdlt x o t ho hxd)];exact hv'
   ·rw [getD_set_ne false (fun e=>hxi e.symm)] at hxl
    rw [zbt (hdis x i ox o t hox ho hxi hxd)];exact (hJ.vals x ox t hox hxk hxl hxal hxd).keep0 hre.2
  ·have hne:o.dst ≠ some t:=ht i o ho hik (za9 hil);rw [zbt hne];exact (hJ.rest t fun x ox hox hxk hxl=>ht x ox hox hxk (getD_set_true hxl)).keep0 hre.2
 have hadopt:∀ (c:Nat->Nat) (a:Act) (w:World) (n m:Nat) (ι:Pl) (H:AH) (env:List AV),m + n=k →
   Rel w0 (fun b=>B b/\∀ i o,m<=i->i < k->all[i]?=some o->zhl all o=true->b ≠ c i) w ι H->RepE w ι (Rd (fun b=>B b/\∀ i o,m<=i->i < k->all[i]?=some o->zhl all o=true->b ≠ c i) ι H) env a.tmps →
   (∀ i o,m<=i->i < k->all[i]?=some o->zhl all o=true->w0.own (c i)/\¬ zbg ι H (c i)/\(∃ mk cs arr,mkD T e1 o=some mk/\z3c T all k e1 o mk=some cs/\mk.Ok mk.cs/\w.heap[c i]?=some (.cells arr mk.t (0,0))/\zft w ι (Rd (fun b=>B b/\∀ i o,m<=i->i < k->all[i]?=some o->zhl all o=true->b ≠ c i) ι H) cs arr/\∀ d,o.dst=some d->a.eval (.tmp d)=mk.val (c i))) →
   (∀ i j oi oj,m<=i->i < k->m<=j->j < k->all[i]?=some oi->all[j]?=some oj->zhl all oi=true->zhl all oj=true->c i=c j->i=j)->(a.defers=w0.ds/\∀ t v,w0.pin t=some v->a.tmps[t]?=some v)->a.tmps.size=nt →
   zgw T all k e1 n (all.drop m) env H (fun env2 H2=>zmz P G zas T all Q (all.drop k) env2 H2)->wpList P all.toArray (zj4 w0 B nt Q) (all.drop k) a w:=by
  intro c a w n
  induction n with
  | zero =>
   intro m ι H env hmk hR hE _ _ hd hsz h;have hmk':m=k:=by omega
   have hre:=hR.regrow (B':=B) (Gr.refl _) (fun b _ hb=>hb.1) (fun b hb=>(hR.fut b hb).1)
   refine zdg hT hG0 hB0 _ (fun o ho=>hpd o (List.mem_of_mem_drop ho)) env H a w h ⟨hd.1,hsz,hd.2,ι,hre.1,⟨hE.len,fun t x v hx hv=>(hE.at_ t x v hx hv).keep0 hre.2⟩⟩
  | succ n ih =>
   intro m ι H env hmk hR hE hmade hinj hd hsz h;have hml:m < all.length:=by omega
   have ho:all[m]?=some all[m]:=List.getElem?_eq_getElem hml;rw [List.drop_eq_getElem_cons hml] at h;unfold zgw at h
   cases hal:zhl all all[m] with
   | false =>
    rw [if_neg (by rw [hal];simp)] at h
    have hre:=hR.regrow (B':=fun b=>B b/\∀ i o,m + 1<=i->i < k->all[i]?=some o->zhl all o=true->b ≠ c i) (Gr.refl _) (fun b _ hb=>⟨hb.1,fun i o h1 h2 h3 h4=>hb.2 i o (by omega) h2 h3 h4⟩) (fun b hb=>⟨(hR.fut b hb).1,fun i o h1 h2 h3 h4=>(hR.fut b hb).2 i o (by omega) h2 h3 h4⟩)
    exact ih (m + 1) ι H env (by omega) hre.1 ⟨hE.len,fun t x v hx hv=>(hE.at_ t x v hx hv).keep0 hre.2⟩ (fun i o h1 h2 h3 h4=>by
     obtain ⟨g1,g2,mk,cs,arr,g3,g4,g5,g6,g7,g8⟩:=hmade i o (by omega) h2 h3 h4
     exact ⟨g1,g2,mk,cs,arr,g3,g4,g5,g6,g7.keep0 hre.2,g8⟩) (fun i j oi oj h1 h2 h3 h4=>hinj i j oi oj (by omega) h2 (by omega) h4) hd hsz h
   | true =>
    rw [if_pos hal] at h;obtain ⟨hge,hno,mk,cs,arr,hmk',hfin,hok,hcell,hcr,hptr⟩:=hmade m all[m] (nR _) (by omega) ho hal
    rw [hmk'] at h
    split at h
    ·rename_i mk2 d e2 hdd
     cases e2
     rw [hfin] at h;simp only at h;have hnB:¬ (B (c m)/\∀ i o,m<=i->i < k->all[i]?=some o->zhl all o=true->c m ≠ c i):=fun hh=>hh.2 m all[m] (nR _) (by omega) ho hal rfl
     have hB':∀ b,(B b/\∀ i o,m<=i->i < k->all[i]?=some o->zhl all o=true->b ≠ c i)->(B b/\∀ i o,m + 1<=i->i < k->all[i]?=some o->zhl all o=true->b ≠ c i):=fun b hb=>⟨hb.1,fun i o h1 h2 h3 h4=>hb.2 i o (by omega) h2 h3 h4⟩
     have hokc:=zyj hmk' hfin hok;have had:=hR.adopt (B':=fun b=>B b/\∀ i o,m + 1<=i->i < k->all[i]?=some o->zhl all o=true->b ≠ c i) hcell hge hno hnB hB' hcr hokc
     refine ih (m + 1) _ _ _ (by omega) had.1 ⟨by simp [hE.len],fun t' x v hx hv=>?_⟩ (fun i o h2' h2 h3 h4=>?_) (fun i j oi oj h1 h2 h3 h4=>hinj i j oi oj (by omega) h2 (by omega) h4) hd hsz h
     ·by_cases e:d=t'
      ·subst e;have hdl:d < env.length:=by rw [hE.len,hsz,<- hlen0];exact hdlt m all[m] d ho hdd
       rw [List.getElem?_set_self hdl] at hx
       cases hx
       have hv':v=mk.val (c m):=by
        have:=hptr d hdd
        simp only [Act.eval,Array.getD_eq_getD_getElem?,hv] at this;exact this
       subst hv';rw [<-hR.len];unfold MK.av MK.val
       cases hr:mk.rows with
       | none=>exact .own _ 0 _ _ (zaz _ _)
       | some x =>
        obtain ⟨s,len,rs⟩:=x;obtain ⟨rfl,hch,hs,hl,hlm⟩:=hokc s len rs hr;have hsz':arr.size=len * s:=by rw [hcr.1,hl]
        have hsh:mk.shape arr.size=(s,arr.size):=by unfold MK.shape;rw [hr]
        rw [hsh]
        have:=Rep.osl (w:=w) (ι:=ι++[(some (c m),s,arr.size)]) (R:=Rd (fun b=>B b/\∀ i o,m + 1<=i->i < k->all[i]?=some o->zhl all o=true->b ≠ c i) (ι++[(some (c m),s,arr.size)]) (H++[some (mk.blk mk.cs)])) ι.length 0 len (c m) len (s,arr.size) (zaz _ _) (nR _) hlm (by simp [hsz'])
        simpa using this
      ·rw [List.getElem?_set_ne e] at hx;exact (hE.at_ t' x v hx hv).keep0 had.2
     ·obtain ⟨g1,g2,mk3,cs3,arr3,g3,g4,g5,g6,g7,g8⟩:=hmade i o (by omega) h2 h3 h4
      refine ⟨g1,fun hown=>?_,mk3,cs3,arr3,g3,g4,g5,g6,g7.keep0 had.2,g8⟩
      obtain ⟨kk,b',s',q1,q2⟩:=hown
      rcases za1 q1 with ⟨hl,q1⟩|⟨rfl,e⟩
      ·rcases za1 q2 with ⟨hl',q2⟩|⟨e,_⟩
       ·exact g2 ⟨kk,b',s',q1,q2⟩
       ·rw [hR.len] at e;omega
      ·rw [<-hR.len,zaz] at q2;have q3:c i=c m:=by
        simp only [Option.some.injEq,Prod.mk.injEq] at q2;exact q2.1.symm
       have:=hinj i m o all[m] (by omega) h2 (nR _) (by omega) h3 ho h4 hal q3
       omega
    ·rename_i hno';obtain ⟨_,_,d,_,_,hdd⟩:=hTal m all[m] (by omega) ho hal
     exact absurd rfl (hno' _ d · hdd)
 refine zi1 k 8 (fun listed a w'=>∃ c,JS T all k w0 B w.heap.size ι H env0 avs e1 c listed a w') hm hrg hkl ?_ ?_ ?_
 ·
  have hnot:∀ i,(Array.replicate all.length false).getD i false=false:=fun i=>by by_cases h:i < all.length <;> simp [h]
  have hre:=hR0.regrow (w':=w.drew) (B':=BX all k B (fun _=>0) (Array.replicate all.length false)) ((Below.refl _ _).drew) (fun b _ hb=>⟨hb,fun i hi=>by have:=hi.2.1;rw [hnot] at this;cases this⟩) (fun b hb=>⟨hR0.fut b (by simpa using hb),fun i hi=>by have:=hi.2.1;rw [hnot] at this;cases this⟩)
  have hnoL:∀ i,¬ LA all k (Array.replicate all.length false) i:=fun i hi=>by
   have:=hi.2.1
   rw [hnot] at this
   cases this
  exact ⟨fun _=>0,hd0,by rw [hlen0];exact hn0,hp0,nR _,hre.1,fun i o m hi=>absurd hi (hnoL i),fun i j hi=>absurd hi (hnoL i),(fun i hl=>by rw [hnot] at hl;cases hl),(fun i o t _ _ hl=>by rw [hnot] at hl;cases hl),fun t _=>(hE0.eval (.tmp t)).keep0 hre.2⟩
 ·
  intro listed a' w' i o ⟨c,hJ⟩ hls hdeps ho hik hun;have hGw:G w':=hG0 _ hJ.rel.gr;have hfun:∀ f,a'.eval (.func f)=.func (.func f) #[] #[]:=fun _=>rfl
  have hf:=hF i o hik (by simpa using ho)
  rw [Nat.zero_add] at hf;have hopds:=hopd w.heap.size c listed a' w' i i o hJ hdeps ho hik (nR _) (by omega)
  have hopd1:=hopd w.heap.size c listed a' w' i k o hJ hdeps ho hik (by omega) (nR _)
  rw [he1] at hopd1;have quiet:QS P G o (zam all avs 0 i env0) H (avs i)->(zhl all o || zr8 o)=false->zbi P (fun v w''=>∃ c,JS T all k w0 B w.heap.size ι H env0 avs e1 c (listed.setIfInBounds i true) (a'.put o.dst v) w'') ((execOp a'.eval o).run P w'):=by
   intro hq hal
   have:=hq w0 (BX all k B c listed) w' ι a'.eval hJ.rel hGw hopds hfun
   generalize (execOp a'.eval o).run P w'=r at *
   cases r with
   | ok n w'' =>
    cases n <;> simp only [zbi] at this ⊢
    ·exact ⟨c,hput _ c listed a' w' w'' i o _ hJ hls ho hik hun hdeps hal this.1 this.2⟩
    ·exact ⟨c,hput _ c listed a' w' w'' i o _ hJ hls ho hik hun hdeps hal this.1 this.2⟩
    ·exact this.mono fun e w'' ⟨v,he,h1,h2⟩=>⟨v,he,c,hput _ c listed a' w' w'' i o _ hJ hls ho hik hun hdeps hal h1 h2⟩
   | halt x w''=>simp only [zbi] at this
  rcases hf with ⟨hals,hjunk⟩|⟨hal,hf⟩
  ·have hil:i < listed.size:=by rw [hls];exact (List.getElem?_eq_some_iff.1 ho).1
   have hlt:∀ x,LA all k listed x->c x < w'.heap.size:=fun x hx=>by
    obtain ⟨ox,hox,hxal⟩:=hx.2.2;obtain ⟨m,_,_,hm,_,_⟩:=hTal x ox hx.1 hox hxal;obtain ⟨_,⟨_,h3,_⟩,_⟩:=hJ.made x ox m hx hox hm;exact zbx h3
   cases hal:zhl all o with
   | true =>
    obtain ⟨m,_,d,hm,_,hdd⟩:=hTal i o hik ho hal;have hopk:=hopOk i o hik ho;unfold z4i at hopk;simp only [bAT,hal,Bool.not_true,Bool.false_or] at hopk;have hgn:o.guard=none:=by simpa using hopk.1.2.1
    rw [if_pos (by simp [Region.wanted,hgn])]
    obtain ⟨arr,hrun,hcr⟩:=z22 hT hm hopd1;rw [hrun];obtain ⟨c',hci,hcx⟩:∃ c':Nat->Nat,c' i=w'.heap.size/\∀ x,x ≠ i->c' x=c x:=⟨fun x=>if x=i then w'.heap.size else c x,by simp,fun x hx=>by simp [hx]⟩
    have hg:Gr w' (w'.alloc (.cells arr m.t)):=(Below.refl _ _).alloc (nR _) _;have hBX:∀ b,b < w'.heap.size->BX all k B c listed b->BX all k B c' (listed.setIfInBounds i true) b:=fun b hb hbx=>⟨hbx.1,fun x hx=>by
     by_cases hxi:x=i
     ·subst hxi;rw [hci];omega
     ·rw [hcx x hxi];exact hbx.2 x (zdz hx hxi)⟩
    have hre:=hJ.rel.regrow (B':=BX all k B c' (listed.setIfInBounds i true)) hg hBX (fun b hb=>⟨(hJ.rel.fut b (by simp at hb;omega)).1,fun x hx=>by
     by_cases hxi:x=i
     ·subst hxi;rw [hci];simp at hb;omega
     ·rw [hcx x hxi];have:=hlt x (zdz hx hxi);simp at hb;omega⟩)
    have hcur0:zsg all k e1 listed o m=m.cs:=by
     unfold zsg
     cases hs:o.dst.bind (zlc all k) with
     | none=>rfl
     | some x =>
      obtain ⟨s,t,y⟩:=x;obtain ⟨d',hd',hsd⟩:=Option.bind_eq_some_iff.1 hs;obtain ⟨hsk,os,h1,h2⟩:=zhc hsd;have hun':listed.getD s false=false:=by
       cases hl:listed.getD s false with
       | false=>rfl
       | true =>
        have hst:zr8 os=true:=by unfold zr8;rw [h2]
        have hopk:=hopOk s os hsk h1;unfold z4i at hopk;simp only [bAT,hst,Bool.not_true,Bool.false_or,h2] at hopk;obtain ⟨j,hj,hjo⟩:=List.any_eq_true.1 hopk.2.2.2
        split at hjo
        ·rename_i oj hoj;simp only [bAT,beq_iff_eq] at hjo;have hji:j=i:=by
          apply Classical.byContradiction;intro hne;exact hdis j i oj o d' hoj ho hne hjo.2 hd'
         subst hji
         have:=hJ.closed s hl j hj
         rw [hun] at this
         cases this
        ·cases hjo
      simp only [hun']
    refine ⟨c',by rw [zbw];exact hJ.defers,by rw [zc6];exact hJ.size,zd8 hJ.pin (hpd o (List.mem_of_getElem? ho)) _,Nat.le_trans hJ.grow hg.size,hre.1,fun x ox mx hx hox hmx=>?_,fun x y hx hy hxy=>?_,hclos listed i hJ.closed hdeps,fun x ox tx hox hxk hxl hxal hxd=>?_,fun tx ht=>?_⟩
    ·by_cases hxi:x=i
     ·subst hxi;rw [ho] at hox;cases hox
      rw [hm] at hmx;cases hmx
      rw [hci];refine ⟨hJ.grow,⟨arr,heap_alloc_new _ _,?_⟩,fun d' hd'=>?_⟩
      ·rw [hcur listed x o o m ho (zyc hal),hcur0];exact hcr.keep0 hre.2
      ·rw [hdd] at hd';cases hd'
       rw [hdd,zdt (by rw [hJ.size];exact hdlt x o d ho hdd)]
     ·rw [hcx x hxi];obtain ⟨h1,⟨arr',h3,h3'⟩,h4⟩:=hJ.made x ox mx (zdz hx hxi) hox hmx;refine ⟨h1,⟨arr',by rw [hg.block _ (zbx h3)];exact h3,by rw [hcur listed i o ox mx ho (zyc hal)];exact h3'.keep0 hre.2⟩,fun d' hd'=>?_⟩
      rw [zbt (hdis x i ox o d' hox ho hxi hd')];exact h4 d' hd'
    ·by_cases hxi:x=i
     ·by_cases hyi:y=i
      ·rw [hxi,hyi]
      ·rw [hxi] at hxy;rw [hci,hcx y hyi] at hxy
       have:=hlt y (zdz hy hyi);omega
     ·by_cases hyi:y=i
      ·rw [hyi] at hxy;rw [hci,hcx x hxi] at hxy
       have:=hlt x (zdz hx hxi);omega
      ·rw [hcx x hxi,hcx y hyi] at hxy;exact hJ.inj x y (zdz hx hxi) (zdz hy hyi) hxy
    ·have hxi:x ≠ i:=fun e=>by subst e;rw [ho] at hox;cases hox;rw [hal] at hxal;cases hxal
     rw [getD_set_ne false (fun e=>hxi e.symm)] at hxl
     rw [zbt (hdis x i ox o tx hox ho hxi hxd)];exact (hJ.vals x ox tx hox hxk hxl hxal hxd).keep0 hre.2
    ·have hne:o.dst ≠ some tx:=ht i o ho hik (za9 hil);rw [zbt hne];exact (hJ.rest tx fun x ox hox hxk hxl=>ht x ox hox hxk (getD_set_true hxl)).keep0 hre.2
   | false =>
    have hst:zr8 o=true:=by rw [hal] at hals;simpa using hals
    obtain ⟨t,x,y,hop⟩:∃ t x y,o.op=.store t x y:=by
     unfold zr8 at hst
     split at hst
     ·exact ⟨_,_,_,by assumption⟩
     ·cases hst
    have hopk:=hopOk i o hik ho;unfold z4i at hopk;simp only [bAT,hst,Bool.not_true,Bool.false_or,hop] at hopk;obtain ⟨⟨hgn,hdn⟩,hm2⟩:=hopk.2;clear hopk;have hgn:o.guard=none:=by simpa using hgn
    have hdn:o.dst=none:=by simpa using hdn
    split at hm2
    ·rename_i t' d y' heq;simp only [Op.store.injEq] at heq;obtain ⟨rfl,rfl,rfl⟩:=heq;simp only [bAT,beq_iff_eq] at hm2;obtain ⟨hsf,hany⟩:=hm2;obtain ⟨j,hj,hjo⟩:=List.any_eq_true.1 hany
     split at hjo
     ·rename_i oj hoj;simp only [bAT,beq_iff_eq] at hjo;obtain ⟨hjal,hjd⟩:=hjo;have hji:=hback i j hj;have hjl:=hdeps j hj;have hjL:LA all k listed j:=⟨by omega,hjl,oj,hoj,hjal⟩
      obtain ⟨m,cs,d',hm,hfin,hdd⟩:=hTal j oj (by omega) hoj hjal
      rw [hjd] at hdd;cases hdd
      obtain ⟨s,hs⟩:∃ s,zlc all k d=some s:=by
       cases hs:zlc all k d with
       | none=>rw [hs] at hsf;cases hsf
       | some s=>exact ⟨s,rfl⟩
      obtain ⟨s,t',y'⟩:=s;rw [hs] at hsf;simp only [Option.map_some,Option.some.injEq] at hsf;subst hsf;obtain ⟨_,os,h1,h2⟩:=zhc hs;rw [ho] at h1;cases h1
      rw [hop] at h2;simp only [Op.store.injEq,true_and] at h2;obtain ⟨rfl,rfl⟩:=h2;have hbind:oj.dst.bind (zlc all k)=some (s,t,y):=by rw [hjd];exact hs
      unfold z3c at hfin;rw [hbind] at hfin;simp only at hfin
      split at hfin
      ·rename_i ta ti hja hti
       split at hfin
       ·rename_i hc
        cases hfin
        obtain ⟨hws,⟨arr,harr,hcr⟩,hptr⟩:=hJ.made j oj m hjL hoj hm;have hcur0:zsg all k e1 listed oj m=m.cs:=by
         unfold zsg;rw [hbind];simp only [hun]
        rw [hcur0] at hcr;have hmr:m.rows=none:=by
         unfold mkD at hm;rw [hja] at hm;simp only at hm
         split at hm
         ·split at hm
          ·cases hm;rfl
          ·cases hm
         ·cases hm
        have hp:=hptr d hjd;unfold MK.val at hp;rw [hmr] at hp;simp only at hp;have hy:=zdp (hopd1 y (by rw [hop];simp [Op.operands])) hc.1
        have hone:∀ v ∈ (a'.eval y).cells.toList,v.oneCell'=true:=fun v hv=>by
         obtain ⟨n,hn⟩:=List.mem_iff_getElem?.1 hv;have hnl:n < (zba (aev e1 y)).length:=by rw [hy.1];simpa using (List.getElem?_eq_some_iff.1 hn).1
         obtain ⟨u,hu,h1,_⟩:=hy.2 n _ (List.getElem?_eq_getElem hnl)
         have:u=v:=by
          have h4:(a'.eval y).cells[n]?=some v:=by simpa using hn
          rw [hu] at h4;exact Option.some.inj h4
         subst this;exact h1
        have hysz:(a'.eval y).cells.size=ti.size:=by rw [<-hy.1];exact hc.2.1
        have harsz:arr.size=ti.size:=by rw [hcr.1];exact hc.2.2.symm
        have hle:0 + (a'.eval y).cells.toList.length<=arr.size:=by simp [hysz,harsz]
        rw [if_pos (by simp [Region.wanted,hgn]),zl1 hT hop hti hp harr hysz (by simp [hysz,harsz]) hone]
        have hh:=setRow_heap w' (c j) arr (arr.toList.take 0++(a'.eval y).cells.toList++arr.toList.drop (0 + (a'.eval y).cells.toList.length)).toArray m.t (0,0) harr;obtain ⟨arr2,harr2⟩:∃ x,(arr.toList.take 0++(a'.eval y).cells.toList++arr.toList.drop (0 + (a'.eval y).cells.toList.length)).toArray=x:=⟨_,rfl⟩
        have hcr2:zft w' ι (Rd (BX all k B c listed) ι H) (zba (aev e1 y)) arr2:=by
         rw [<-harr2];refine ⟨by rw [zht hle,harsz];exact hc.2.1.symm,fun n an hn=>?_⟩
         have hnl:=(List.getElem?_eq_some_iff.1 hn).1;rw [zix hle,if_pos ⟨by omega,by simp [hysz];have:=hc.2.1;omega⟩]
         obtain ⟨u,hu,h1,hr⟩:=hy.2 n an hn;exact ⟨u,by simpa using hu,h1,hr⟩
        rw [harr2] at hh ⊢;have hpk:=hJ.rel.poke (c:=c j) (.inr (Nat.le_trans hR0.size hws)) (fun hown=>by have:=hR0.lt hown;omega) (fun hb=>hb.2 j hjL rfl) (w':=w'.setRow (c j) arr2) rfl rfl rfl (by simp) (fun d hd=>setRow_other w' (c j) d _ hd)
        have hLA:∀ x,LA all k (listed.setIfInBounds s true) x->LA all k listed x:=fun x hx=>zdz hx fun e=>by
         subst e;obtain ⟨o',h1,h2⟩:=hx.2.2;rw [ho] at h1;cases h1;rw [hal] at h2;cases h2
        have hBX:∀ b,BX all k B c listed b->BX all k B c (listed.setIfInBounds s true) b:=fun b hb=>⟨hb.1,fun x hx=>hb.2 x (hLA x hx)⟩
        have hre:=hpk.1.regrow (B':=BX all k B c (listed.setIfInBounds s true)) (Gr.refl _) (fun b _ hb=>hBX b hb) (fun b hb=>hBX b (hpk.1.fut b hb))
        have hsz2:(w'.setRow (c j) arr2).heap.size=w'.heap.size:=by simp
        simp only [zbi];rw [hdn];refine ⟨c,hJ.defers,hJ.size,hJ.pin,by rw [hsz2];exact hJ.grow,hre.1,fun x ox mx hx hox hmx=>?_,fun x y hx hy=>hJ.inj x y (hLA x hx) (hLA y hy),hclos listed s hJ.closed hdeps,fun x ox tx hox hxk hxl hxal hxd=>?_,fun tx ht=>?_⟩
        ·obtain ⟨g1,⟨arr',g3,g3'⟩,g4⟩:=hJ.made x ox mx (hLA x hx) hox hmx
         by_cases hxj:x=j
         ·subst hxj;rw [hoj] at hox;cases hox
          rw [hm] at hmx;cases hmx
          refine ⟨g1,⟨arr2,hh,?_⟩,g4⟩;have hcur1:zsg all k e1 (listed.setIfInBounds s true) oj m=zba (aev e1 y):=by
           unfold zsg;rw [hbind];simp only [za9 hil]
          rw [hcur1];exact (hcr2.keep0 hpk.2).keep0 hre.2
         ·have hcx:c x ≠ c j:=fun e=>hxj (hJ.inj x j (hLA x hx) hjL e)
          refine ⟨g1,⟨arr',by rw [setRow_other w' (c j) (c x) _ hcx];exact g3,?_⟩,g4⟩
          have hcur1:zsg all k e1 (listed.setIfInBounds s true) ox mx=zsg all k e1 listed ox mx:=by
           unfold zsg
           cases hs2:ox.dst.bind (zlc all k) with
           | none=>rfl
           | some z =>
            obtain ⟨s2,t2,y2⟩:=z;have hne:s ≠ s2:=fun e=>by
             subst e;obtain ⟨d2,hd2,hsd2⟩:=Option.bind_eq_some_iff.1 hs2;obtain ⟨_,o2,q1,q2⟩:=zhc hsd2;rw [ho] at q1;cases q1
             rw [hop] at q2;simp only [Op.store.injEq,Operand.tmp.injEq] at q2;have e2:=q2.2.1;subst e2;exact hdis x j ox oj d hox hoj hxj hd2 hjd
            simp only [getD_set_ne false hne]
          rw [hcur1];exact (g3'.keep0 hpk.2).keep0 hre.2
        ·have hxs:x ≠ s:=fun e=>by subst e;rw [ho] at hox;cases hox;rw [hdn] at hxd;cases hxd
         rw [getD_set_ne false (fun e=>hxs e.symm)] at hxl
         exact ((hJ.vals x ox tx hox hxk hxl hxal hxd).keep0 hpk.2).keep0 hre.2
        ·exact ((hJ.rest tx fun x ox hox hxk hxl=>ht x ox hox hxk (getD_set_true hxl)).keep0 hpk.2).keep0 hre.2
       ·cases hfin
      ·cases hfin
     ·cases hjo
    ·cases hm2
  ·rcases hf with ⟨hg,hq⟩|⟨j,want,b,hg,hb,hcase⟩
   ·rw [if_pos (by simp [Region.wanted,hg])]
    exact quiet hq hal
   ·
    have hopk:=hopOk i o hik ho;unfold z4i at hopk;simp only [bAT,hg] at hopk;have hjd:j ∈ zau all.toArray i:=by simpa using hopk.1.1.2.1
    obtain ⟨tj,htj⟩:=Option.isSome_iff_exists.1 hopk.1.1.2.2;have hji:=hback i j hjd;have hjl:=hdeps j hjd;have hyield:zdi all.toArray a'.eval j=b:=by
     unfold z5g at hb;rw [htj] at hb;simp only at hb
     cases hjo:all[j]? with
     | none=>rw [hjo] at htj;cases htj
     | some oj =>
      have hjdst:oj.dst=some tj:=by rw [hjo] at htj;simpa using htj
      have htl:=hdlt j oj tj hjo hjdst;have he:(zam all avs 0 i env0)[tj]?=some (avs j):=zee htj i env0 hji htl fun x hx hxj=>by
       cases hxo:all[x]? with
       | none=>simp
       | some ox=>simpa using hdis j x oj ox tj hjo hxo (Ne.symm hxj) hjdst
      rw [List.getD_eq_getElem?_getD,he] at hb;simp only [Option.getD_some] at hb;have hjal:zhl all oj=false:=by
       cases hjal:zhl all oj with
       | false=>rfl
       | true =>
        rcases hF j oj (by omega) (by simpa using hjo) with ⟨_,hjk⟩|⟨hh,_⟩
        ·rw [Nat.zero_add] at hjk;rw [hjk] at hb;cases hb
        ·rw [hjal] at hh;cases hh
      have hr:=hJ.vals j oj tj hjo (by omega) hjl hjal hjdst
      split at hb
      ·rename_i x' eb
       cases hb
       rw [eb] at hr;unfold zdi;simp only [List.getElem?_toArray];rw [htj];simp only;rw [zbk hr]
       cases x' <;> rfl
      ·cases hb
    rcases hcase with ⟨e,hq⟩|⟨e,hu⟩
    ·rw [if_pos (by simp [Region.wanted,hg,hyield,e])]
     exact quiet hq hal
    ·rw [if_neg (by simpa [Region.wanted,hg,hyield] using e)]
     refine ⟨c,hput _ c listed a' w' w' i o _ hJ hls ho hik hun hdeps hal (Gr.refl _) ?_⟩;rw [hu];exact .p _ _ (.v _)
 ·
  intro listed a' w' ⟨c,hJ⟩ hall;have hLA:∀ i o,i < k->all[i]?=some o->zhl all o=true->LA all k listed i:=fun i o hi ho hal=>⟨hi,hall i hi,o,ho,hal⟩
  have hre:=hJ.rel.regrow (B':=fun b=>B b/\∀ i o,0<=i->i < k->all[i]?=some o->zhl all o=true->b ≠ c i) (Gr.refl _) (fun b _ hb=>⟨hb.1,fun i o _ h2 h3 h4=>hb.2 i (hLA i o h2 h3 h4)⟩) (fun b hb=>⟨(hJ.rel.fut b hb).1,fun i o _ h2 h3 h4=>(hJ.rel.fut b hb).2 i (hLA i o h2 h3 h4)⟩)
  refine hadopt c a' w' k 0 ι H e1 (by omega) hre.1 ⟨by rw [<-he1,zda];exact hJ.size.symm,fun t x v hx hv=>?_⟩ (fun i o _ h2 h3 h4=>?_) (fun i j oi oj _ h2 _ h4 h5 h6 h7 h8 h9=>hJ.inj i j (hLA i oi h2 h5 h7) (hLA j oj h4 h6 h8) h9) ⟨hJ.defers,hJ.pin⟩ (by rw [hJ.size];exact hlen0) (by simpa using hK)
  ·rw [<-he1] at hx;have hev:a'.eval (.tmp t)=v:=by simp only [Act.eval,Array.getD_eq_getD_getElem?,hv];rfl
   have htl:t < env0.length:=by have:=(List.getElem?_eq_some_iff.1 hx).1;rw [zda] at this;exact this
   rcases cEm (∃ i o,i < k/\all[i]?=some o/\o.dst=some t) with ⟨i,o,hik,ho,hdst'⟩|hno
   ·have hbind:(all[i]?).bind (·.dst)=some t:=by rw [ho];simpa using hdst'
    have he:(zam all avs 0 k env0)[t]?=some (avs i):=zee hbind k env0 hik htl fun x hx hxi=>by
     cases hxo:all[x]? with
     | none=>simp
     | some ox=>simpa using hdis i x o ox t ho hxo (Ne.symm hxi) hdst'
    rw [he] at hx;cases hx
    cases hal:zhl all o with
    | true =>
     rcases hF i o hik (by simpa using ho) with ⟨_,hjk⟩|⟨hh,_⟩
     ·rw [Nat.zero_add] at hjk;rw [hjk];exact .junk _
     ·rw [hal] at hh;simp at hh
    | false =>
     have:=hJ.vals i o t ho hik (hall i hik) hal hdst'
     rw [hev] at this;exact this.keep0 hre.2
   ·have he:(zam all avs 0 k env0)[t]?=env0[t]?:=zdf (all:=all) (avs:=avs) k env0 fun i hi=>by
     cases hio:all[i]? with
     | none=>simp
     | some o=>simpa using fun e=>hno ⟨i,o,hi,hio,e⟩
    rw [he] at hx
    have:=hJ.rest t fun i o ho hi _ e=>hno ⟨i,o,hi,ho,e⟩
    rw [hev] at this;have e2:aev env0 (.tmp t)=x:=by simp only [aev,List.getD_eq_getElem?_getD,hx];rfl
    rw [e2] at this;exact this.keep0 hre.2
  ·obtain ⟨m,cs,d,hm,hfin,hdd⟩:=hTal i o h2 h3 h4;obtain ⟨g1,⟨arr,g2,g3⟩,g4⟩:=hJ.made i o m (hLA i o h2 h3 h4) h3 hm;have hcc:zsg all k e1 listed o m=cs:=by
    unfold z3c at hfin;unfold zsg
    cases hs:o.dst.bind (zlc all k) with
    | none=>rw [hs] at hfin;exact Option.some.inj hfin
    | some z =>
     obtain ⟨s,t,y⟩:=z;obtain ⟨d2,_,hsd⟩:=Option.bind_eq_some_iff.1 hs;have hl:=hall s (zhc hsd).1;rw [hs] at hfin;simp only [hl] at hfin ⊢
     split at hfin
     ·split at hfin
      ·exact Option.some.inj hfin
      ·cases hfin
     ·cases hfin
   rw [hcc] at g3;exact ⟨.inr (Nat.le_trans hR0.size g1),fun hown=>by have:=hR0.lt hown;omega,m,cs,arr,hm,hfin,z24 hm,g2,g3.keep0 hre.2,g4⟩
end
/- Own work: the walk over values as data,for whole functions. -/
def zce (next:List AV->AH->Prop) (Q:Exit->List AV->AH->Prop):Exit->List AV->AH->Prop
 | .normal,env,H=>next env H
 | e,env,H=>Q e env H
def zet (id:Nat) (Q:Exit->List AV->AH->Prop):Exit->List AV->AH->Prop
 | .exit i,env,H=>if i=id then Q .normal env H else Q (.exit i) env H
 | e,env,H=>Q e env H
inductive LoopA (body:(Exit->List AV->AH->Prop)->List AV->AH->Prop) (Q:Exit->List AV->AH->Prop) (env:List AV) (H:AH):Prop
 | mk (I N:Nat->List AV->AH->Prop) (h0:∃ k env' H',Wk env H env' H'/\I k env' H') (hN:∀ k env' H',N k env' H'->∃ k2 env2 H2,Wk env' H' env2 H2/\I k2 env2 H2/\k2 < k)
  (hr:∀ k env H,I k env H->body (zce (N k) Q) env H)
def awp (P:Program) (G:World->Prop) (E:SO) (T:TT) (kOf:Nat->Nat):Code->(Exit->List AV->AH->Prop)->List AV->AH->Prop
 | .skip,Q,env,H=>Q .normal env H
 | .region id ops draw,Q,env,H=>if draw=true then
   zm0 P G E T ops.toList H (kOf id) ops.toList env fun env1=>zgw T ops.toList (kOf id) env1 (kOf id) ops.toList env1 H fun env2 H2=>zmz P G E T ops.toList Q (ops.toList.drop (kOf id)) env2 H2
  else zmz P G E T ops.toList Q ops.toList env H
 | .seq a b,Q,env,H=>awp P G E T kOf a (zce (awp P G E T kOf b Q) Q) env H
 | .cond c a b,Q,env,H=>(match aev env c with
  | .p (.v (.bool x))=>(match x with
   | true=>awp P G E T kOf a Q env H
   | false=>awp P G E T kOf b Q env H)
  | _=>False)
 | .block id c,Q,env,H=>awp P G E T kOf c (zet id Q) env H
 | .loop c,Q,env,H=>LoopA (awp P G E T kOf c) Q env H
 | .exit id,Q,env,H=>Q (.exit id) env H
 | .ret,Q,env,H=>Q .ret env H
 | _,_,_,_=>False
def zcd (nt:Nat) (kOf:Nat->Nat):Code->Bool
 | .region id ops draw=>!draw || zli nt ops.toList (kOf id)
 | .seq a b=>zcd nt kOf a && zcd nt kOf b
 | .cond _ a b=>zcd nt kOf a && zcd nt kOf b
 | .block _ c=>zcd nt kOf c
 | .loop c=>zcd nt kOf c
 | _=>true
theorem zor {p:Nat->Prop} (h:∃ n,p n):∃ n,p n/\∀ m,p m->n<=m:=by
 obtain ⟨n,hn⟩:=h
 induction n using Nat.strongRecOn with
 | _ n ih =>
  rcases cEm (∃ m,m < n/\p m) with ⟨m,hm,hp⟩|hno
  ·exact ih m hm hp
  ·exact ⟨n,hn,fun m hm=>Classical.byContradiction fun hlt=>hno ⟨m,by omega,hm⟩⟩
section
variable {P:Program} {G:World->Prop} {T:TT} {w0:Base} {B:Nat->Prop} {nt:Nat}
theorem zgb {next:List AV->AH->Prop} {Q:Exit->List AV->AH->Prop} (K:Act->World->Prop) (hK:∀ env H a w,next env H->St w0 B nt env H a w->K a w):∀ e a w,zj4 w0 B nt (zce next Q) e a w->Exit.then K (zj4 w0 B nt Q) e a w:=by
 rintro e a w ⟨env,H,h,hS⟩
 cases e with
 | normal=>exact hK env H a w h hS
 | exit id=>exact ⟨env,H,h,hS⟩
 | goto l=>exact ⟨env,H,h,hS⟩
 | ret=>exact ⟨env,H,h,hS⟩
 | panic c=>exact ⟨env,H,h,hS⟩
 | outgrown=>exact ⟨env,H,h,hS⟩
def zq8 (w0:Base):Code->Prop
 | .region _ ops _=>∀ o ∈ ops.toList,∀ t,o.dst=some t->w0.pin t=none
 | .seq a b=>zq8 w0 a/\zq8 w0 b
 | .cond _ a b=>zq8 w0 a/\zq8 w0 b
 | .block _ c=>zq8 w0 c
 | .loop c=>zq8 w0 c
 | _=>True
theorem zb6 {w0:Base} (h:∀ t,w0.pin t=none):∀ c:Code,zq8 w0 c
 | .region _ _ _=>fun _ _ t _=>h t
 | .seq a b=>⟨zb6 h a,zb6 h b⟩
 | .cond _ a b=>⟨zb6 h a,zb6 h b⟩
 | .block _ c=>zb6 h c
 | .loop c=>zb6 h c
 | .skip=>trivial
 | .exit _=>trivial
 | .ret=>trivial
 | .rangeFunc _ _ _ _=>trivial
 | .scope _=>trivial
 | .label _=>trivial
 | .goto _=>trivial
 | .refuse _=>trivial
theorem zck (hT:TOk P T) (hG0:∀ w,GrX w0 w->G w) (hB0:∀ b,w0.own b->B b) (hm:P.follows .mixedOrders=true) (kOf:Nat->Nat):∀ (c:Code),zq8 w0 c->zcd nt kOf c=true->∀ (Q:Exit->List AV->AH->Prop) (env:List AV) (H:AH) (a:Act) (w:World),awp P G zas T kOf c Q env H->St w0 B nt env H a w->c.wp P (zj4 w0 B nt Q) a w
 | .skip,_,_,Q,env,H,a,w,h,hS=>wp_skip ⟨env,H,h,hS⟩
 | .region id ops draw,hpk,hok,Q,env,H,a,w,h,hS=>by
  obtain ⟨l⟩:=ops;unfold awp at h
  split at h
  ·rename_i hd;subst hd;simp only [zcd,Bool.not_true,Bool.false_or] at hok;exact zk9 hT hG0 hB0 hm hpk hok h hS
  ·rename_i hd;have hd':draw=false:=by simpa using hd
   subst hd';exact wp_region_list (zdg hT hG0 hB0 _ hpk env H a w h hS)
 | .seq x y,hpk,hok,Q,env,H,a,w,h,hS=>by
  simp only [zcd,bAT] at hok;unfold awp at h;refine wp_seq (wp_mono (zck hT hG0 hB0 hm kOf x hpk.1 hok.1 _ env H a w h hS) ?_);exact zgb _ fun env H a w h hS=>zck hT hG0 hB0 hm kOf y hpk.2 hok.2 Q env H a w h hS
 | .cond c x y,hpk,hok,Q,env,H,a,w,h,hS=>by
  simp only [zcd,bAT] at hok;unfold awp at h
  split at h
  ·rename_i b e;obtain ⟨ι,hR,hE⟩:=hS.rep;have hc:=hE.eval c;rw [e] at hc;refine wp_cond_split (zbk hc) (fun hb=>?_) (fun hb=>?_)
   ·subst hb;exact zck hT hG0 hB0 hm kOf x hpk.1 hok.1 Q env H a w h hS
   ·subst hb;exact zck hT hG0 hB0 hm kOf y hpk.2 hok.2 Q env H a w h hS
  ·cases h
 | .block id c,hpk,hok,Q,env,H,a,w,h,hS=>by
  simp only [zcd] at hok;unfold awp at h;refine wp_block (wp_mono (zck hT hG0 hB0 hm kOf c hpk hok _ env H a w h hS) ?_)
  rintro e a w ⟨env,H,h,hS⟩
  cases e with
  | exit i =>
   simp only [zet] at h;simp only [Exit.inBlock]
   split at h
   ·rename_i e;rw [if_pos e];exact ⟨env,H,h,hS⟩
   ·rename_i e;rw [if_neg e];exact ⟨env,H,h,hS⟩
  | normal=>exact ⟨env,H,h,hS⟩
  | goto l=>exact ⟨env,H,h,hS⟩
  | ret=>exact ⟨env,H,h,hS⟩
  | panic c=>exact ⟨env,H,h,hS⟩
  | outgrown=>exact ⟨env,H,h,hS⟩
 | .loop c,hpk,hok,Q,env,H,a,w,h,hS=>by
  classical
  simp only [zcd] at hok;unfold awp at h;obtain ⟨I,N,⟨k1,env1,H1,hw1,hI1⟩,hN,hround⟩:=h;have hwk:∀ env H env' H' a w,Wk env H env' H'->St w0 B nt env H a w->St w0 B nt env' H' a w:=fun env H env' H' a w hw hS=>by
   obtain ⟨ι,hR,hE⟩:=hS.rep;exact ⟨hS.defers,hS.size,hS.pin,hw w0 B w ι a.tmps hB0 hR hE⟩
  have key:∃ f:Act->World->Nat,(∀ a w,(∃ k env H,I k env H/\St w0 B nt env H a w)->∃ env H,I (f a w) env H/\St w0 B nt env H a w)/\∀ a w k env H,I k env H->St w0 B nt env H a w->f a w<=k:=by
   refine ⟨fun a w=>if h:∃ n,∃ env H,I n env H/\St w0 B nt env H a w then Classical.choose (zor h) else 0,fun a w hex=>?_,fun a w k env H h1 h2=>?_⟩
   ·simp only [hex,dif_pos];exact (Classical.choose_spec (zor hex)).1
   ·have hex:∃ n,∃ env H,I n env H/\St w0 B nt env H a w:=⟨_,env,H,h1,h2⟩
    simp only [hex,dif_pos];exact (Classical.choose_spec (zor hex)).2 _ ⟨env,H,h1,h2⟩
  obtain ⟨f,hf1,hf2⟩:=key;refine wp_loop (fun a w=>∃ k env H,I k env H/\St w0 B nt env H a w) f ⟨k1,env1,H1,hI1,hwk _ _ _ _ a w hw1 hS⟩ fun a' w' hI=>?_
  obtain ⟨env2,H2,hI2,hS2⟩:=hf1 a' w' hI;refine wp_mono (zck hT hG0 hB0 hm kOf c hpk hok _ env2 H2 a' w' (hround _ env2 H2 hI2) hS2) ?_;refine zgb _ fun env3 H3 a3 w3 hn3 hS3=>?_
  obtain ⟨k4,env4,H4,hw4,hI4,hlt⟩:=hN _ _ _ hn3;have hS4:=hwk _ _ _ _ a3 w3 hw4 hS3;refine ⟨⟨k4,env4,H4,hI4,hS4⟩,?_⟩
  have:=hf2 a3 w3 k4 env4 H4 hI4 hS4
  omega
 | .exit id,_,_,Q,env,H,a,w,h,hS=>wp_exit ⟨env,H,h,hS⟩
 | .ret,_,_,Q,env,H,a,w,h,hS=>wp_ret ⟨env,H,h,hS⟩
 | .rangeFunc _ _ _ _,_,_,_,_,_,_,_,h,_=>h.elim
 | .scope _,_,_,_,_,_,_,_,h,_=>h.elim
 | .label _,_,_,_,_,_,_,_,h,_=>h.elim
 | .goto _,_,_,_,_,_,_,_,h,_=>h.elim
 | .refuse _,_,_,_,_,_,_,_,h,_=>h.elim
end
/- Own work: what a function returns,out of the walk over its body. -/
section
variable {P:Program} {G:World->Prop} {T:TT} {w0:Base} {B:Nat->Prop} {nt:Nat}
def zgt (T:TT) (env:List AV) (H:AH):List ResultVar->(List AV->Prop)->Prop
 | [],K=>K []
 | .tmp t :: rs,K=>zgt T env H rs fun as=>K (env.getD t .junk :: as)
 | .cell a t :: rs,K=>(match T t with
  | some i=>zvz i (env.getD a .junk) H fun x=>zgt T env H rs fun as=>K (x :: as)
  | none=>False)
def zfm (E:SO) (T:TT) (rs:List ResultVar) (r:PV) (e:Exit) (env:List AV) (H:AH):Prop :=
 match e with
 | .ret=>zgt T env H rs fun as=>(match as with
  | [a]=>frz E H a fun p=>p=r
  | as=>frz E H (.tup as) fun p=>p=r)
 | .normal=>zgt T env H rs fun as=>(match as with
  | [a]=>frz E H a fun p=>p=r
  | as=>frz E H (.tup as) fun p=>p=r)
 | .panic ch=>r=.pan ch
 | _=>False
def z0j (tmps:Array Value) (r:ResultVar):Sem Value:=match r with
 | .tmp t=>pure (tmps.getD t undef)
 | .cell a t=>do loadVar t (← asAddr (tmps.getD a undef))
theorem zuo (fn:Func) (tmps:Array Value):results fn tmps=(do let vs<-fn.results.mapM (z0j tmps);pure (if h:vs.size=1 then vs[0] else .tuple vs)):=rfl
theorem zmy (hT:TOk P T) {w:World} {ι:Pl} {H:AH} {env:List AV} {tmps:Array Value} (hR:Rel w0 B w ι H) (hE:RepE w ι (Rd B ι H) env tmps):∀ (rs:List ResultVar) (K:List AV->Prop),zgt T env H rs K →
  ∃ as vs,K as/\(rs.mapM (z0j tmps)).run P w=.ok vs w/\as.length=vs.length/\∀ (j:Nat) (a:AV) (v:Value),as[j]?=some a->vs[j]?=some v->Rep w ι (Rd B ι H) a v
 | [],K,h=>⟨[],[],h,rfl,rfl,fun j a v ha=>by simp at ha⟩
 | .tmp t :: rs,K,h=>by
  unfold zgt at h;obtain ⟨as,vs,hK,hrun,hl,hr⟩:=zmy hT hR hE rs _ h;refine ⟨_,tmps.getD t undef :: vs,hK,?_,by simp [hl],fun j a v ha hv=>?_⟩
  ·rw [List.mapM_cons];simp only [z0j,Sem.run_bind,Sem.run_pure,Result.andThen_ok,hrun]
  ·cases j with
   | zero =>
    simp at ha hv
    have:=hE.eval (a:=⟨tmps,[]⟩) (.tmp t)
    simp only [aev,Act.eval] at this;rw [<-ha,<- hv];simpa [List.getD_eq_getElem?_getD] using this
   | succ j=>exact hr j a v (by simpa using ha) (by simpa using hv)
 | .cell c t :: rs,K,h=>by
  unfold zgt at h
  split at h
  ·rename_i i ht;have h':zvz i (aev env (.tmp c)) H fun x=>zgt T env H rs fun as=>K (x :: as):=h
   obtain ⟨x,hx,hld⟩:=zqz (P:=P) hT ht h';obtain ⟨as,vs,hK,hrun,hl,hr⟩:=zmy hT hR hE rs _ hx;have hc:=hE.eval (a:=⟨tmps,[]⟩) (.tmp c);simp only [Act.eval] at hc;obtain ⟨u,hu,hru⟩:=hld w0 B w ι _ hR hc;refine ⟨_,u :: vs,hK,?_,by simp [hl],fun j a v ha hv=>?_⟩
   ·have hu':(do loadVar t (← asAddr (tmps.getD c undef)):Sem Value).run P w=.ok u w:=by
     generalize tmps.getD c undef=p at hu
     cases p with
     | pointer ad =>
      cases ad with
      | none=>simp [Instr.loadAt,Instr.sureAddr,stuck,Sem.run] at hu
      | some ad=>simpa [Instr.loadAt,Instr.sureAddr,asAddr] using hu
     | _=>simp [Instr.loadAt,Instr.sureAddr,stuck,Sem.run] at hu
    rw [List.mapM_cons];simp only [z0j,Sem.run_bind] at hu' ⊢;rw [hu'];simp only [Sem.run_pure,Result.andThen_ok,hrun]
   ·cases j with
    | zero=>simp at ha hv;subst ha;subst hv;exact hru
    | succ j=>exact hr j a v (by simpa using ha) (by simpa using hv)
  ·cases h
theorem ze6 {w:World} {ι:Pl} {R:Nat->Prop} {as:List AV} {args:List Value} {nt:Nat} (_hl:as.length<=nt) (hlen:as.length=args.length) (h:∀ (j:Nat) (a:AV) (v:Value),as[j]?=some a->args[j]?=some v->Rep w ι R a v) :
  RepE w ι R (as++List.replicate (nt - as.length) (.p (.v undef))) (args.toArray++Array.replicate (nt - args.toArray.size) undef):=by
 refine ⟨by simp [hlen],fun t x v hx hv=>?_⟩
 rcases Nat.lt_or_ge t as.length with htl|htl
 ·rw [List.getElem?_append_left htl] at hx;rw [Array.getElem?_append_left (by simp;omega)] at hv
  exact h t x v hx (by simpa using hv)
 ·rw [List.getElem?_append_right htl] at hx;have hx':x=.p (.v undef):=by
   rw [List.getElem?_replicate] at hx
   split at hx
   ·exact (Option.some.inj hx).symm
   ·cases hx
  have hv':v=undef:=by
   rw [Array.getElem?_append_right (by simp;omega)] at hv
   rw [Array.getElem?_replicate] at hv
   split at hv
   ·exact (Option.some.inj hv).symm
   ·cases hv
  subst hx';subst hv';exact .p _ _ (.v _)
theorem zc9 (hT:TOk P T) {w:World} {ι:Pl} {H:AH} {env:List AV} {tmps:Array Value} (hR:Rel w0 B w ι H) (hE:RepE w ι (Rd B ι H) env tmps) {fn:Func} {K:AV->Prop} (h:zgt T env H fn.results.toList fun as=>(match as with
  | [a]=>K a
  | as=>K (.tup as))):∃ x v,K x/\(results fn tmps).run P w=.ok v w/\Rep w ι (Rd B ι H) x v:=by
 obtain ⟨xs,vs,hK,hrun,hxl,hxr⟩:=zmy hT hR hE _ _ h;have hres:(results fn tmps).run P w=.ok (if h:vs.toArray.size=1 then vs.toArray[0] else .tuple vs.toArray) w:=by
  rw [zuo,Array.mapM_eq_mapM_toList];simp only [Sem.run_bind,Sem.run_map,hrun,Result.andThen_ok];rfl
 split at hK
 ·rename_i x;have hv1:vs.length=1:=by simpa using hxl.symm
  obtain ⟨v,rfl⟩:=List.length_eq_one_iff.1 hv1;exact ⟨x,v,hK,by rw [hres];rfl,hxr 0 x v rfl rfl⟩
 ·rename_i hne;have hv1:¬ vs.toArray.size=1:=fun e=>by
   have:xs.length=1:=by rw [hxl];simpa using e
   obtain ⟨x,rfl⟩:=List.length_eq_one_iff.1 this;exact hne x rfl
  exact ⟨.tup xs,.tuple vs.toArray,hK,by rw [hres,dif_neg hv1],.tup xs vs hxl hxr⟩
theorem zdv {f : FuncId} {fn : Func} {c : Code} (hf : P.funcs[f]? = some fn) (hb : fn.body = some c) (hn : (fn.name == "runtime.NumGoroutine") = false) (args : Array Value) (w : World) : (callFunc f args).run P w = .ok (.enter f args) w := by
 have hn' : ¬ fn.name = "runtime.NumGoroutine" := by simpa using hn
 simp [callFunc,program,Sem.run,hf,hn',hb]
theorem z2p (hT : TOk P T) (hG : ∀ w w', Gr w w' → G w → G w') (hm : P.follows .mixedOrders = true) (kOf : Nat → Nat) {f : FuncId} {fn : Func} {c : Code} (hf : P.funcs[f]? = some fn) (hb : fn.body = some c) (hn : (fn.name == "runtime.NumGoroutine") = false)
  (hok:zcd fn.ntmps kOf c=true) {as:List PV} {r:PV} (hl:as.length<=fn.ntmps) (h:awp P G zas T kOf c (zfm zas T fn.results.toList r) (as.map .p++List.replicate (fn.ntmps - as.length) (.p (.v undef))) []):Ret P G f as r:=by
 refine ⟨zdv hf hb hn,fun w B args hGw hlen hargs=>?_⟩
 refine calls_of_wp hf hb ?_;have hS:St (Base.of w) (fun b=>B b\/w.heap.size<=b) fn.ntmps (as.map .p++List.replicate (fn.ntmps - as.length) (.p (.v undef))) [] { tmps:=args.toArray++Array.replicate (fn.ntmps - args.toArray.size) undef,defers:=[] } w:=by
  refine ⟨rfl,by simp;omega,(fun t v h=>by cases h),[],⟨.of (Gr.refl _),fun b hb=>.inr hb,rfl,fun k b c s h1=>by simp at h1,fun k l b b' c s s' h1=>by simp at h1⟩,?_⟩
  have:=ze6 (w:=w) (ι:=[]) (R:=Rd (fun b=>B b\/w.heap.size<=b) [] []) (as:=as.map .p) (args:=args) (nt:=fn.ntmps) (by simpa using hl) (by simpa using hlen) fun j a v ha hv=>by
   rw [List.getElem?_map] at ha
   cases hj:as[j]? with
   | none=>rw [hj] at ha;cases ha
   | some p =>
    rw [hj] at ha;cases ha
    refine .p _ _ ((hargs j p v hj hv).keep (nR _) fun b hb _=>⟨⟨.inl hb,?_⟩,rfl⟩)
    rintro ⟨k,b',s,h1,_⟩
    simp at h1
  simpa using this
 have hB0:∀ b,(Base.of w).own b->B b\/w.heap.size<=b:=fun b hb=>hb.elim (fun h=>h.elim) .inr
 refine wp_mono (zck hT (fun w' hg=>hG _ _ hg.gr hGw) hB0 hm kOf c (zb6 (fun _=>rfl) c) hok _ _ _ _ w h hS) ?_
 rintro e a w' ⟨env,H,hQ,hS'⟩
 obtain ⟨ι,hR,hE⟩:=hS'.rep;have fin:(zgt T env H fn.results.toList fun as=>(match as with
  | [a]=>frz zas H a fun p=>p=r
  | as=>frz zas H (.tup as) fun p=>p=r))->a.defers=[]/\∃ v,(results fn a.tmps).run P w'=.ok v w'/\Gr w w'/\zzq w' (fun b=>B b\/w.heap.size<=b) r (.returned v):=by
  intro h;obtain ⟨x,v,hx,hrun,hv⟩:=zc9 (K:=fun a=>frz zas H a fun p=>p=r) hT hR hE h
  obtain ⟨p,rfl,hp⟩:=zge hR hB0 x v _ hx hv;exact ⟨hS'.defers,v,hrun,hR.gr.gr,.ret hp⟩
 cases e with
 | ret=>exact fin hQ
 | normal=>exact fin hQ
 | exit id=>cases hQ
 | goto l=>cases hQ
 | panic c=>exact ⟨hS'.defers,hR.gr.gr,by cases hQ;rfl⟩
 | outgrown=>cases hQ
theorem zaq (hT : TOk P T) (hG : ∀ w w', Gr w w' → G w → G w') (hm : P.follows .mixedOrders = true) (kOf : Nat → Nat) {f : FuncId} {fn : Func} {c : Code} (hf : P.funcs[f]? = some fn) (hb : fn.body = some c) (hn : (fn.name == "runtime.NumGoroutine") = false)
  (hok:zcd fn.ntmps kOf c=true) {l:List PV} {r:PV} (hl:decide (l.length<=fn.ntmps)=true)
  (h:∀ (P':Program) (G':World->Prop) (E:SO),(∀ f l r,Ret P G f l r->Ret P' G' f l r)->E=zas->awp P' G' E T kOf c (zfm E T fn.results.toList r) (l.map .p++List.replicate (fn.ntmps - l.length) (.p (.v undef))) []):Ret P G f l r :=
 z2p hT hG hm kOf hf hb hn hok (oT hl) (h P G zas (fun _ _ _ h=>h) rfl)
theorem zfb (hT : TOk P T) (hG : ∀ w w', Gr w w' → G w → G w') (hm : P.follows .mixedOrders = true) (kOf : Nat → Nat) {f : FuncId} {fn : Func} {c : Code} (hf : P.funcs[f]? = some fn) (hb : fn.body = some c) (hn : (fn.name == "runtime.NumGoroutine") = false)
  (hok:zcd fn.ntmps kOf c=true) {l:List PV} {r:PV} (hl:decide (l.length<=fn.ntmps)=true)
  (h:∀ (P':Program) (G':World->Prop) (E:SO),(∀ f l r,Ret P G f l r->Ret P' G' f l r)->(∀ f as H r H',zd4 P G f as H r H'->zd4 P' G' f as H r H')->E=zas->awp P' G' E T kOf c (zfm E T fn.results.toList r) (l.map .p++List.replicate (fn.ntmps - l.length) (.p (.v undef))) []):Ret P G f l r :=
 z2p hT hG hm kOf hf hb hn hok (oT hl) (h P G zas (fun _ _ _ h=>h) (fun _ _ _ _ _ h=>h) rfl)
def zj9 (E:SO) (m:Nat) (H:AH):AV->(AV->Prop)->Prop
 | .osl k i n,K=>(match Nat.ble m k with
  | true=>(match H[k]? with
   | some (some (.rows s rs _))=>E.pre i n rs/\K (.p (.ro s (E.sub rs i n)))
   | _=>False)
  | false=>K (.osl k i n))
 | .agg cs,K=>resL cs fun as=>(match AV.toP.toPL as with
  | some ps=>K (.p (.agg ps))
  | none=>K (.agg as))
 | .tup cs,K=>resL cs fun as=>(match AV.toP.toPL as with
  | some ps=>K (.p (.tup ps))
  | none=>K (.tup as))
 | a,K=>K a
where resL:List AV->(List AV->Prop)->Prop
 | [],K=>K []
 | a :: as,K=>zj9 E m H a fun x=>resL as fun xs=>K (x :: xs)
theorem zwp (m:Nat):∀ (a:AV) (p:PV),a.toP=some p->a.low m=true
 | .p x,p,h=>rfl
 | .agg cs,p,h=>by
  unfold AV.toP at h
  cases hp:AV.toP.toPL cs with
  | none=>rw [hp] at h;cases h
  | some xs=>exact toPL_low m cs xs hp
 | .tup cs,p,h=>by
  unfold AV.toP at h
  cases hp:AV.toP.toPL cs with
  | none=>rw [hp] at h;cases h
  | some xs=>exact toPL_low m cs xs hp
 | .own _ _,_,h=>by cases h
 | .orw _ _ _,_,h=>by cases h
 | .osl _ _ _,_,h=>by cases h
 | .clo _ _ _,_,h=>by cases h
 | .junk,_,h=>by cases h
where toPL_low (m:Nat):∀ (cs:List AV) (ps:List PV),AV.toP.toPL cs=some ps->AV.low.lowL m cs=true
 | [],_,_=>rfl
 | a :: as,ps,h=>by
  unfold AV.toP.toPL at h
  split at h
  ·rename_i x ys hx hy;simp only [AV.low.lowL,bAT];exact ⟨zwp m a x hx,toPL_low m as ys hy⟩
  ·cases h
theorem ztg {w:World} {ι:Pl} {R:Nat->Prop} {m:Nat} {xs:List AV} {vs:List Value} {ps:List PV} (hp:AV.toP.toPL xs=some ps) (hl:xs.length=vs.length) (h:∀ (j:Nat) (x:AV) (v:Value),xs[j]?=some x->vs[j]?=some v->x.low m=true->Rep w ι R x v) :
  ps.length=vs.length/\∀ (j:Nat) (p:PV) (v:Value),ps[j]?=some p->vs[j]?=some v->RepP w R p v:=by
 have hg:=zez xs ps hp;refine ⟨by omega,fun j p v hpj hv=>?_⟩
 have hj:j < xs.length:=by have:=(List.getElem?_eq_some_iff.1 hpj).1;omega
 obtain ⟨p',hp',hap⟩:=hg.2 j xs[j] (List.getElem?_eq_getElem hj);rw [hp'] at hpj;cases hpj
 exact (h j _ v (List.getElem?_eq_getElem hj) hv (zwp m _ _ hap)).toP _ hap
theorem zga {H:AH} {w:World} {ι:Pl} {m:Nat} (hR:Rel w0 B w ι H) (hB:∀ b,w0.own b->B b):∀ (a:AV) (v:Value) (K:AV->Prop),zj9 zas m H a K->Rep w ι (Rd B ι H) a v->∃ x,K x/\(x.low m=true->Rep w (ι.take m) (Rd B (ι.take m) (H.take m)) x v)
 | .p x,v,K,h,hv=>⟨.p x,h,fun hl=>hv.trunc zgj hl⟩
 | .own k j,v,K,h,hv=>⟨_,h,fun hl=>hv.trunc zgj hl⟩
 | .orw k i j,v,K,h,hv=>⟨_,h,fun hl=>hv.trunc zgj hl⟩
 | .clo f fs cs,v,K,h,hv=>⟨_,h,fun hl=>hv.trunc zgj hl⟩
 | .junk,v,K,h,hv=>⟨_,h,fun hl=>hv.trunc zgj hl⟩
 | .osl k i n,v,K,h,hv=>by
  unfold zj9 at h
  split at h
  ·rename_i hmk;have hmk:=Nat.le_of_ble_eq_true hmk
   split at h
   ·rename_i s rs t hk;change i + n<=rs.length/\K (.p (.ro s ((rs.drop i).take n))) at h
    cases hv with
    | osl0 =>
     obtain ⟨hle,h⟩:=h;have e:(rs.drop i).take 0=[]:=by simp
     rw [e] at h;exact ⟨_,h,fun _=>.p _ _ (.ro0 _ _ _)⟩
    | osl _ _ _ c cap sz hi hn hm hz =>
     obtain ⟨hle,h⟩:=h;refine ⟨_,h,fun _=>.p _ _ ?_⟩
     obtain ⟨es,hl,hh⟩:=(hR.blk k _ _ sz hk hi).2;have hge:=(hR.blk k _ _ sz hk hi).1 c rfl
     rcases hh with ⟨ec,_⟩|⟨c',arr,ec,hb,hz0,hcs⟩
     ·cases ec
     cases ec
     have hlen:((rs.drop i).take n).length=n:=by rw [List.length_take,lLD];omega
     have hget:∀ (q:Nat) (row:List PV),((rs.drop i).take n)[q]?=some row->rs[i + q]?=some row:=fun q row hr=>(zdr hr).1
     have hrdc:Rd B (ι.take m) (H.take m) c:=⟨hB c hge,fun ⟨k',b',s',h1,h2⟩=>by
      obtain ⟨g1,g2⟩:=zbe h1
      have:=hR.inj k k' _ b' c sz s' hk g2 hi (zbe h2).2
      omega⟩
     have hcell:∀ (q j:Nat) (row:List PV) (a:PV),((rs.drop i).take n)[q]?=some row->row[j]?=some a->∃ u,(arr[(i + q) * sz.1 + j]?).getD undef=u/\w.cell? ⟨c,i * sz.1 + (q * s + j),none⟩=some u/\u.oneCell'=true/\RepP w (Rd B (ι.take m) (H.take m)) a u:=by
      intro q j row a hr ha;obtain ⟨u,hu,h1,hru⟩:=hcs _ j row a (hget q row hr) ha;have e2:i * sz.1 + (q * s + j)=(i + q) * sz.1 + j:=by rw [es,Nat.add_mul];omega
      exact ⟨u,by rw [hu];rfl,by rw [zsp hb,e2];exact hu,h1,hru.keep (nR _) fun b hb _=>⟨zgj b hb,rfl⟩⟩
     have:=RepP.ro (w:=w) (R:=Rd B (ι.take m) (H.take m)) s ((rs.drop i).take n) c (i * sz.1) cap (fun q j=>(arr[(i + q) * sz.1 + j]?).getD undef) hrdc (zbx hb) (by omega) (fun q row hr=>by rw [es];exact hl _ row (hget q row hr))
      (fun q j row a hr ha=>by obtain ⟨u,e1,e2,e3,_⟩:=hcell q j row a hr ha;rw [e1];exact ⟨e2,e3⟩) (fun q j row a hr ha=>by obtain ⟨u,e1,_,_,e4⟩:=hcell q j row a hr ha;rw [e1];exact e4)
     rw [hlen] at this;exact this
   ·cases h
  ·exact ⟨_,h,fun hl=>hv.trunc zgj hl⟩
 | .agg cs,v,K,h,hv=>by
  unfold zj9 at h
  cases hv with
  | agg _ vs hl hr =>
   obtain ⟨xs,hK,hxl,hxr⟩:=resL_sound hR hB cs vs _ hl hr h
   split at hK
   ·rename_i ps hp
    have:=ztg hp (hxl.trans hl) hxr
    exact ⟨_,hK,fun _=>.p _ _ (.agg ps vs this.1 this.2)⟩
   ·exact ⟨_,hK,fun zeq=>.agg xs vs (hxl.trans hl) fun j a v ha hv=>hxr j a v ha hv (zb5 zeq ha)⟩
 | .tup cs,v,K,h,hv=>by
  unfold zj9 at h
  cases hv with
  | tup _ vs hl hr =>
   obtain ⟨xs,hK,hxl,hxr⟩:=resL_sound hR hB cs vs _ hl hr h
   split at hK
   ·rename_i ps hp
    have:=ztg hp (hxl.trans hl) hxr
    exact ⟨_,hK,fun _=>.p _ _ (.tup ps vs this.1 this.2)⟩
   ·exact ⟨_,hK,fun zeq=>.tup xs vs (hxl.trans hl) fun j a v ha hv=>hxr j a v ha hv (zb5 zeq ha)⟩
where resL_sound {H:AH} {w:World} {ι:Pl} {m:Nat} (hR:Rel w0 B w ι H) (hB:∀ b,w0.own b->B b):∀ (as:List AV) (vs:List Value) (K:List AV->Prop),as.length=vs.length->(∀ (j:Nat) (a:AV) (v:Value),as[j]?=some a->vs[j]?=some v->Rep w ι (Rd B ι H) a v)->zj9.resL zas m H as K →
  ∃ xs,K xs/\xs.length=as.length/\∀ (j:Nat) (x:AV) (v:Value),xs[j]?=some x->vs[j]?=some v->x.low m=true->Rep w (ι.take m) (Rd B (ι.take m) (H.take m)) x v
 | [],vs,K,hl,hr,h=>⟨[],h,rfl,fun j p v hp=>by simp at hp⟩
 | a :: as,[],K,hl,hr,h=>by simp at hl
 | a :: as,v :: vs,K,hl,hr,h=>by
  unfold zj9.resL at h;obtain ⟨x,hx,hxr⟩:=zga hR hB a v _ h (hr 0 a v rfl rfl);obtain ⟨xs,hK,hxl,hxs⟩:=resL_sound hR hB as vs _ (by simpa using hl) (fun j b u hb hu=>hr (j + 1) b u (by simpa using hb) (by simpa using hu)) hx
  refine ⟨x :: xs,hK,by simp [hxl],fun j q u hq hu=>?_⟩
  cases j with
  | zero=>simp at hq hu;subst hq;subst hu;exact hxr
  | succ j=>exact hxs j q u (by simpa using hq) (by simpa using hu)
def zph:AH->Bool
 | []=>true
 | none :: H=>zph H
 | some _ :: _=>false
theorem zdb:∀ {H:AH} {k:Nat} {b:ABlk},zph H=true->H[k]? ≠ some (some b)
 | [],k,b,_=>by simp
 | none :: H,0,b,_=>by simp
 | none :: H,k + 1,b,h=>by simpa using zdb (k:=k) (b:=b) (H:=H) h
 | some _ :: _,_,_,h=>by cases h
def za0 (E:SO) (T:TT) (rs:List ResultVar) (tags:List Nat) (r:AV) (H':AH) (e:Exit) (env:List AV) (H:AH):Prop :=
 match e with
 | .ret=>zgt T env H rs fun as=>(match as with
  | [a]=>zj9 E H'.length H a fun x=>x=r/\H.take H'.length=za2 tags H'/\zeq H'.length (za2 tags H')=true/\r.low H'.length=true
  | as=>zj9 E H'.length H (.tup as) fun x=>x=r/\H.take H'.length=za2 tags H'/\zeq H'.length (za2 tags H')=true/\r.low H'.length=true)
 | .normal=>zgt T env H rs fun as=>(match as with
  | [a]=>zj9 E H'.length H a fun x=>x=r/\H.take H'.length=za2 tags H'/\zeq H'.length (za2 tags H')=true/\r.low H'.length=true
  | as=>zj9 E H'.length H (.tup as) fun x=>x=r/\H.take H'.length=za2 tags H'/\zeq H'.length (za2 tags H')=true/\r.low H'.length=true)
 | .panic ch=>r=.p (.pan ch)/\zph (za2 tags H')=true
 | _=>False
def zsv:Nat->(List Nat->Prop)->Prop
 | 0,K=>K []
 | n + 1,K=>∀ t,zsv n fun ts=>K (t :: ts)
theorem zlx:∀ {n:Nat} {K:List Nat->Prop},zsv n K->∀ tags:List Nat,tags.length=n->K tags
 | 0,K,h,tags,hl=>by have:=List.eq_nil_of_length_eq_zero hl;subst this;exact h
 | n + 1,K,h,[],hl=>by simp at hl
 | n + 1,K,h,t :: ts,hl=>zlx (h t) ts (by simpa using hl)
theorem z38 (hT : TOk P T) (hm : P.follows .mixedOrders = true) (kOf : Nat → Nat) {f : FuncId} {fn : Func} {c : Code} (hf : P.funcs[f]? = some fn) (hb : fn.body = some c) (hn : (fn.name == "runtime.NumGoroutine") = false)
  (hok:zcd fn.ntmps kOf c=true) {as:List AV} {H:AH} {r:AV} {H':AH} (hl:as.length<=fn.ntmps) (h:∀ tags:List Nat,tags.length=H.length->awp P G zas T kOf c (za0 zas T fn.results.toList tags r H') (as++List.replicate (fn.ntmps - as.length) (.p (.v undef))) (za2 tags H)):zd4 P G f as H r H':=by
 refine ⟨zdv hf hb hn,fun B w ι args tags htl hC hR hlen hargs=>?_⟩
 refine calls_of_wp hf hb ?_;have hS:St ⟨w,zbg ι (za2 tags H),[],fun _=>none⟩ B fn.ntmps (as++List.replicate (fn.ntmps - as.length) (.p (.v undef))) (za2 tags H) { tmps:=args.toArray++Array.replicate (fn.ntmps - args.toArray.size) undef,defers:=[] } w :=
  ⟨rfl,by simp;omega,(fun t v h=>by cases h),ι,hR,ze6 hl hlen hargs⟩
 refine wp_mono (zck hT (fun w' hg=>hC.stab w' hg) hC.own hm kOf c (zb6 (fun _=>rfl) c) hok _ _ _ _ w (h tags htl) hS) ?_
 rintro e a w' ⟨env,H2,hQ,hS'⟩
 obtain ⟨ι2,hR2,hE⟩:=hS'.rep;have fin:(zgt T env H2 fn.results.toList fun as=>(match as with
  | [a]=>zj9 zas H'.length H2 a fun x=>x=r/\H2.take H'.length=za2 tags H'/\zeq H'.length (za2 tags H')=true/\r.low H'.length=true
  | as=>zj9 zas H'.length H2 (.tup as) fun x=>x=r/\H2.take H'.length=za2 tags H'/\zeq H'.length (za2 tags H')=true/\r.low H'.length=true)) →
   a.defers=[]/\∃ v,(results fn a.tmps).run P w'=.ok v w'/\∃ ι',Rel ⟨w,zbg ι (za2 tags H),[],fun _=>none⟩ B w' ι' (za2 tags H')/\zgx w' ι' (Rd B ι' (za2 tags H')) r (.returned v):=by
  intro h;obtain ⟨x,v,hx,hrun,hv⟩:=zc9 (K:=fun a=>zj9 zas H'.length H2 a fun x=>x=r/\H2.take H'.length=za2 tags H'/\zeq H'.length (za2 tags H')=true/\r.low H'.length=true) hT hR2 hE h
  obtain ⟨y,⟨rfl,e1,e2,e3⟩,hy⟩:=zga hR2 hC.own x v _ hx hv;have hv':=hy e3;rw [<-e1] at e2;have hR3:=hR2.trunc (m:=H'.length) e2;rw [e1] at hR3 hv';exact ⟨hS'.defers,v,hrun,_,hR3,.ret hv'⟩
 cases e with
 | ret=>exact fin hQ
 | normal=>exact fin hQ
 | exit id=>cases hQ
 | goto l=>cases hQ
 | panic ch =>
  obtain ⟨rfl,hno⟩:=hQ;refine ⟨hS'.defers,List.replicate (za2 tags H').length (none,0,0),⟨hR2.gr,hR2.fut,by simp,fun k b c s h1=>absurd h1 (zdb hno),fun k l b b' c s s' h1=>absurd h1 (zdb hno)⟩,rfl⟩
 | outgrown=>cases hQ
theorem zwz (hT : TOk P T) (hm : P.follows .mixedOrders = true) (kOf : Nat → Nat) {f : FuncId} {fn : Func} {c : Code} (hf : P.funcs[f]? = some fn) (hb : fn.body = some c) (hn : (fn.name == "runtime.NumGoroutine") = false)
  (hok:zcd fn.ntmps kOf c=true) {as:List AV} {H:AH} {r:AV} {H':AH} (hl:decide (as.length<=fn.ntmps)=true)
  (h:∀ (P':Program) (G':World->Prop) (E:SO),(∀ f l r,Ret P G f l r->Ret P' G' f l r)->(∀ f as H r H',zd4 P G f as H r H'->zd4 P' G' f as H r H')->E=zas →
   zsv H.length fun tags=>awp P' G' E T kOf c (za0 E T fn.results.toList tags r H') (as++List.replicate (fn.ntmps - as.length) (.p (.v undef))) (za2 tags H)):zd4 P G f as H r H' :=
 z38 hT hm kOf hf hb hn hok (oT hl) fun tags htl=>zlx (h P G zas (fun _ _ _ h=>h) (fun _ _ _ _ _ h=>h) rfl) tags htl
end
/- Own work: a loop over values as data: what is forgotten at its head. -/
def zw8 (env:List AV) (live:List Nat):List AV:=live.map fun t=>env.getD t .junk
def zu1 (t:Nat):List Nat->List AV->AV
 | l :: ls,v :: vs=>(match Nat.beq t l with
  | true=>v
  | false=>zu1 t ls vs)
 | _,_=>.junk
def zbf (live:List Nat) (vs:List AV):Nat->Nat->List AV
 | 0,_=>[]
 | n + 1,t=>zu1 t live vs :: zbf live vs n (t + 1)
theorem zip (live:List Nat) (vs:List AV):∀ (n t:Nat),(zbf live vs n t).length=n
 | 0,_=>rfl
 | n + 1,t=>by simp [zbf,zip live vs n]
theorem zlz (live:List Nat) (vs:List AV):∀ (n t i:Nat),i < n->(zbf live vs n t)[i]?=some (zu1 (t + i) live vs)
 | 0,_,_,h=>by omega
 | n + 1,t,0,_=>by simp [zbf]
 | n + 1,t,i + 1,h=>by
  simp only [zbf,List.getElem?_cons_succ];rw [zlz live vs n (t + 1) i (by omega),show t + 1 + i=t + (i + 1) by omega]
theorem zmb (env:List AV) (t:Nat):∀ (live:List Nat),zu1 t live (zw8 env live)=env.getD t .junk/\env.getD t .junk ∈ zw8 env live\/zu1 t live (zw8 env live)=.junk
 | []=>.inr rfl
 | l :: ls=>by
  simp only [zw8,List.map_cons,zu1]
  split
  ·rename_i h;have e:=Nat.eq_of_beq_eq_true h;subst e;exact .inl ⟨rfl,by simp⟩
  ·rcases zmb env t ls with ⟨h1,h2⟩|h
   ·exact .inl ⟨h1,List.mem_cons_of_mem _ h2⟩
   ·exact .inr h
structure HeadIs {γ:Type} (n:Nat) (live:List Nat) (m:Nat) (S:γ->List AV) (h:γ->AH) (env:List AV) (H:AH) (x:γ):Prop where
 len:env.length=n
 slots:zw8 env live=S x
 mem:H.take m=h x
 low:AV.low.lowL m (S x)=true
 zeq:zeq m (h x)=true
theorem HeadIs.wk {γ:Type} {n:Nat} {live:List Nat} {m:Nat} {S:γ->List AV} {h:γ->AH} {env:List AV} {H:AH} {x:γ} (hh:HeadIs n live m S h env H x):Wk env H (zbf live (S x) n 0) (h x):=by
 obtain ⟨h1,h2,h3,h4,h5⟩:=hh;rw [<-h2] at h4 ⊢;rw [<-h3] at h5 ⊢;intro w0 B w ι tmps _ hR hE;refine ⟨ι.take m,hR.trunc h5,by rw [zip,<- h1];exact hE.len,fun t a v ha hv=>?_⟩
 have ht:t < n:=by
  have:=(List.getElem?_eq_some_iff.1 ha).1
  rw [zip] at this;exact this
 rw [zlz _ _ _ _ _ ht,Nat.zero_add] at ha
 cases ha
 rcases zmb env t live with ⟨e,hm⟩|e
 ·rw [e];have hx:env[t]?=some (env.getD t .junk):=by
   rw [List.getD_eq_getElem?_getD,List.getElem?_eq_getElem (by omega)];rfl
  obtain ⟨j,hj⟩:=List.getElem?_of_mem hm;exact (hE.at_ t _ v hx hv).trunc zgj (zb5 h4 hj)
 ·rw [e];exact .junk _
inductive Again {γ:Type} (n:Nat) (live:List Nat) (m:Nat) (S:γ->List AV) (h:γ->AH) (I:γ->Prop) (μ:γ->Nat) (k:Nat) (env:List AV) (H:AH):Prop
 | mk (y:γ) (hh:HeadIs n live m S h env H y) (hI:I y) (hμ:μ y < k)
theorem zbs {γ:Type} (n:Nat) (live:List Nat) (m:Nat) (S:γ->List AV) (h:γ->AH) (I:γ->Prop) (μ:γ->Nat) (x0:γ) {body:(Exit->List AV->AH->Prop)->List AV->AH->Prop} {Q:Exit->List AV->AH->Prop} {env:List AV} {H:AH}
  (h0:HeadIs n live m S h env H x0) (hI:I x0)
  (hr:∀ x,I x->body (zce (Again n live m S h I μ (μ x)) Q) (zbf live (S x) n 0) (h x)):LoopA body Q env H:=by
 refine .mk (fun k env H=>∃ x,I x/\env=zbf live (S x) n 0/\H=h x/\μ x=k) (Again n live m S h I μ) ⟨_,_,_,h0.wk,x0,hI,rfl,rfl,rfl⟩ ?_ ?_
 ·rintro k env' H' ⟨y,hh,hI,hμ⟩
  exact ⟨_,_,_,hh.wk,⟨y,hI,rfl,rfl,rfl⟩,hμ⟩
 ·rintro k env H ⟨x,hx,rfl,rfl,rfl⟩
  exact hr x hx
inductive AgainW {γ:Type} (n:Nat) (live:List Nat) (m:Nat) (S:γ->List AV) (h:γ->AH) (I:γ->Prop) (μ:γ->Nat) (k:Nat) (env:List AV) (H:AH):Prop
 | mk (y:γ) (hh:HeadIs n live m S h env H y) (hI:I y) (hμ:μ y < k)
 | wk (y:γ) (env1:List AV) (H1:AH) (hw:Wk env H env1 H1) (hh:HeadIs n live m S h env1 H1 y) (hI:I y) (hμ:μ y < k)
theorem z02 {γ:Type} (n:Nat) (live:List Nat) (m:Nat) (S:γ->List AV) (h:γ->AH) (I:γ->Prop) (μ:γ->Nat) (x0:γ) {body:(Exit->List AV->AH->Prop)->List AV->AH->Prop} {Q:Exit->List AV->AH->Prop} {env:List AV} {H:AH}
  (h0:HeadIs n live m S h env H x0) (hI:I x0)
  (hr:∀ x,I x->body (zce (AgainW n live m S h I μ (μ x)) Q) (zbf live (S x) n 0) (h x)):LoopA body Q env H:=by
 refine .mk (fun k env H=>∃ x,I x/\env=zbf live (S x) n 0/\H=h x/\μ x=k) (AgainW n live m S h I μ) ⟨_,_,_,h0.wk,x0,hI,rfl,rfl,rfl⟩ ?_ ?_
 ·rintro k env' H' h'
  cases h' with
  | mk y hh hI hμ=>exact ⟨_,_,_,hh.wk,⟨y,hI,rfl,rfl,rfl⟩,hμ⟩
  | wk y env1 H1 hw hh hI hμ=>exact ⟨_,_,_,hw.trans hh.wk,⟨y,hI,rfl,rfl,rfl⟩,hμ⟩
 ·rintro k env H ⟨x,hx,rfl,rfl,rfl⟩
  exact hr x hx
/- Own work: a nil slice,seen as a slice of the walk's own without rows. -/
theorem LoopA.wk {body:(Exit->List AV->AH->Prop)->List AV->AH->Prop} {Q:Exit->List AV->AH->Prop} {env env1:List AV} {H H1:AH} (hw:Wk env H env1 H1) (h:LoopA body Q env1 H1):LoopA body Q env H:=by
 obtain ⟨I,N,⟨k,e2,H2,hw2,hI⟩,hN,hr⟩:=h;exact .mk I N ⟨k,e2,H2,hw.trans hw2,hI⟩ hN hr
theorem zps {env:List AV} {H:AH} {k j:Nat} {cs:List AV} {t:TypeId} {g:Option Nat} (s:Nat) (ty:TypeId) (hk:H[k]?=some (some (.box cs t g))) (hj:cs[j]?=some (.p (.v (.slice none 0 0)))) :
  Wk env H env ((H++[some (ABlk.rows s [] ty)]).set k (some (.box (cs.set j (.osl H.length 0 0)) t g))):=by
 intro w0 B w ι tmps _ hR hE;obtain ⟨hg,hkp⟩:=hR.ghost s ty;have hkl:=(List.getElem?_eq_some_iff.1 hk).1;have hk':(H++[some (ABlk.rows s [] ty)])[k]?=some (some (.box cs t g)):=by rw [List.getElem?_append_left hkl];exact hk
 obtain ⟨⟨c,sh⟩,hi⟩:∃ x,(ι++[(none,s,0)])[k]?=some x:=⟨_,List.getElem?_eq_getElem (by simp [hR.len];omega)⟩
 obtain ⟨_,hs,c',arr,ec,hcell,hlen,hcs⟩:=hg.blk k _ c sh hk' hi;subst ec;have hu:=hg.upd hk' hi (b':=.box (cs.set j (.osl H.length 0 0)) t g) (w':=w) rfl rfl rfl rfl (fun _ _=>rfl) (fun R' hq=>⟨hs,c',arr,rfl,hcell,by simp [hlen],fun m a ha=>by
  rw [List.getElem?_set] at ha
  split at ha
  ·rename_i e;subst e
   split at ha
   ·cases ha
    obtain ⟨v,hv,h1,hr⟩:=hcs j _ hj;refine ⟨v,hv,h1,?_⟩
    have:=zbk hr
    subst this;exact .osl0 _ _
   ·cases ha
  ·obtain ⟨v,hv,h1,hr⟩:=hcs m a ha;exact ⟨v,hv,h1,hr.keep0 hq⟩⟩)
 exact ⟨_,hu.1,hE.len,fun q x v hx hv=>((hE.at_ q x v hx hv).keep0 hkp).keep0 hu.2⟩
theorem zrd {env:List AV} {H:AH} {d:Nat} (s:Nat) (ty:TypeId) (hd:env[d]?=some (.p (.v (.slice none 0 0)))):Wk env H (env.set d (.osl H.length 0 0)) (H++[some (ABlk.rows s [] ty)]):=by
 intro w0 B w ι tmps _ hR hE;obtain ⟨hg,hkp⟩:=hR.ghost s ty;refine ⟨_,hg,by simp [hE.len],fun q x v hx hv=>?_⟩
 rw [List.getElem?_set] at hx
 split at hx
 ·rename_i e;subst e
  split at hx
  ·cases hx
   have:=zbk (hE.at_ d _ v hd hv)
   subst this;exact .osl0 _ _
  ·cases hx
 ·exact (hE.at_ q x v hx hv).keep0 hkp
theorem z6b {env:List AV} {H:AH} {k j l n:Nat} {cs:List AV} {t:TypeId} {g:Option Nat} {s:Nat} {rs:List (List PV)} {ty:TypeId} (hk:H[k]?=some (some (.box cs t g))) (hj:cs[j]?=some (.osl l 0 n)) (hl:H[l]?=some (some (.rows s rs ty))) (hn:n<=rs.length) :
  Wk env H (env.map (AV.scrub (one l))) (((H.map (zar (one l))).set l none).set k (some (.box ((cs.map (AV.scrub (one l))).set j (.p (.ro s (rs.take n)))) t g))):=by
 intro w0 B w ι tmps hB hR hE;have hne:l ≠ k:=by
  intro e;subst e;rw [hk] at hl;cases hl
 have hkl:=(List.getElem?_eq_some_iff.1 hk).1;have hll:=(List.getElem?_eq_some_iff.1 hl).1;obtain ⟨H',hH'⟩:∃ x,((H.map (zar (one l))).set l none).set k (some (.box ((cs.map (AV.scrub (one l))).set j (.p (.ro s (rs.take n)))) t g))=x:=⟨_,rfl⟩
 have hK:H'[k]?=some (some (.box ((cs.map (AV.scrub (one l))).set j (.p (.ro s (rs.take n)))) t g)):=by rw [<-hH',List.getElem?_set_self (by simp;exact hkl)]
 have hL:H'[l]?=some none:=by rw [<-hH',List.getElem?_set_ne (Ne.symm hne),List.getElem?_set_self (by simp;exact hll)]
 have hO:∀ i,i ≠ k->i ≠ l->H'[i]?=(H.map (zar (one l)))[i]?:=fun i h1 h2=>by rw [<-hH',List.getElem?_set_ne (Ne.symm h1),List.getElem?_set_ne (Ne.symm h2)]
 have hback:∀ i b,H'[i]?=some (some b)->i ≠ l/\∃ b0,H[i]?=some (some b0):=by
  intro i b hi;refine ⟨(fun e=>by subst e;rw [hL] at hi;cases hi),?_⟩
  by_cases e:i=k
  ·subst e;exact ⟨_,hk⟩
  ·have e2:i ≠ l:=fun e=>by subst e;rw [hL] at hi;cases hi
   rw [hO i e e2] at hi;obtain ⟨b0,h0,_⟩:=ze7 hi;exact ⟨b0,h0⟩
 have hown:∀ d,zbg ι H' d->zbg ι H d:=by
  rintro d ⟨i,b,s',h1,h2⟩
  obtain ⟨_,b0,h0⟩:=hback i b h1;exact ⟨i,b0,s',h0,h2⟩
 have hkp:Keeps (some (one l)) w ι (Rd B ι H) w ι (Rd B ι H'):=⟨nR _,fun b hb _=>⟨⟨hb.1,fun ho=>hb.2 (hown b ho)⟩,rfl⟩,fun _ _ _ _ h=>h⟩
 have hro:∀ v,Rep w ι (Rd B ι H) (.osl l 0 n) v->RepP w (Rd B ι H') (.ro s (rs.take n)) v:=by
  intro v hv
  cases hv with
  | osl0=>exact .ro0 _ _ _
  | osl _ _ _ c cap sz hi hn' hm hz =>
   obtain ⟨es,hrl,hh⟩:=(hR.blk l _ _ sz hl hi).2;have hge:=(hR.blk l _ _ sz hl hi).1 c rfl
   rcases hh with ⟨ec,_⟩|⟨c',arr,ec,hb,hz0,hcs⟩
   ·cases ec
   cases ec
   have hno:¬ zbg ι H' c:=by
    rintro ⟨i,b,s',h1,h2⟩
    obtain ⟨e,b0,h0⟩:=hback i b h1;exact e (hR.inj i l b0 _ c s' sz h0 hl h2 hi)
   have hlen:(rs.take n).length=n:=by rw [List.length_take];omega
   have hget:∀ (q:Nat) (row:List PV),(rs.take n)[q]?=some row->rs[q]?=some row:=fun q row hr=>by
    have:=(List.getElem?_eq_some_iff.1 hr).1
    rw [List.length_take] at this
    rwa [List.getElem?_take_of_lt (by omega)] at hr
   have hcell:∀ (q j:Nat) (row:List PV) (a:PV),(rs.take n)[q]?=some row->row[j]?=some a->∃ u,(arr[q * sz.1 + j]?).getD undef=u/\w.cell? ⟨c,0 + (q * s + j),none⟩=some u/\u.oneCell'=true/\RepP w (Rd B ι H') a u:=by
    intro q j row a hr ha;obtain ⟨u,hu,h1,hru⟩:=hcs _ j row a (hget q row hr) ha;exact ⟨u,by rw [hu];rfl,by rw [zsp hb,es,Nat.zero_add];exact hu,h1,hru.keep hkp.size hkp.read⟩
   have:=RepP.ro (w:=w) (R:=Rd B ι H') s (rs.take n) c 0 cap (fun q j=>(arr[q * sz.1 + j]?).getD undef) ⟨hB c hge,hno⟩ (zbx hb) (by omega) (fun q row hr=>by rw [es];exact hrl _ row (hget q row hr))
    (fun q j row a hr ha=>by obtain ⟨u,e1,e2,e3,_⟩:=hcell q j row a hr ha;rw [e1];exact ⟨e2,e3⟩) (fun q j row a hr ha=>by obtain ⟨u,e1,_,_,e4⟩:=hcell q j row a hr ha;rw [e1];exact e4)
   rw [hlen] at this;simpa using this
 rw [hH'];refine ⟨ι,⟨hR.gr,hR.fut,by rw [<-hH'];simp [hR.len],fun i b c1 s1 h1 h2=>?_,fun i i' b b' c1 s1 s2 h1 h2 h3 h4=>?_⟩,by simp [hE.len],fun q y u hy hu=>?_⟩
 ·by_cases e:i=k
  ·subst e;rw [hK] at h1
   cases h1
   obtain ⟨hg,hs,c',arr,ec,hcell,hlen,hcs⟩:=hR.blk i _ c1 s1 hk h2;refine ⟨hg,hs,c',arr,ec,hcell,by simp [hlen],fun m a ha=>?_⟩
   rw [List.getElem?_set] at ha
   split at ha
   ·rename_i e;subst e
    split at ha
    ·cases ha
     obtain ⟨v,hv,h1,hr⟩:=hcs j _ hj;exact ⟨v,hv,h1,.p _ _ (hro v hr)⟩
    ·cases ha
   ·rw [List.getElem?_map] at ha
    cases hm:cs[m]? with
    | none=>rw [hm] at ha;cases ha
    | some y =>
     rw [hm] at ha;cases ha
     obtain ⟨v,hv,h1,hr⟩:=hcs m y hm;exact ⟨v,hv,h1,hr.keep hkp⟩
  ·have e2:=(hback i b h1).1;rw [hO i e e2] at h1;obtain ⟨b0,h0,rfl⟩:=ze7 h1;exact ⟨(hR.blk i b0 c1 s1 h0 h2).1,(hR.blk i b0 c1 s1 h0 h2).2.keep hkp fun c' e=>rfl⟩
 ·obtain ⟨_,b0,h0⟩:=hback i b h1;obtain ⟨_,b1,h5⟩:=hback i' b' h2;exact hR.inj i i' b0 b1 c1 s1 s2 h0 h5 h3 h4
 ·rw [List.getElem?_map] at hy
  cases hq:env[q]? with
  | none=>rw [hq] at hy;cases hy
  | some z=>rw [hq] at hy;cases hy;exact (hE.at_ q z u hq hu).keep hkp
section
variable {P:Program} {G:World->Prop} {T:TT}
theorem zhx (hT : TOk P T) (hm : P.follows .mixedOrders = true) (kOf : Nat → Nat) {f : FuncId} {fn : Func} {c : Code} (hf : P.funcs[f]? = some fn) (hb : fn.body = some c) (hn : (fn.name == "runtime.NumGoroutine") = false)
  (hok:zcd fn.ntmps kOf c=true) {as:List AV} {b0:Option ABlk} {r:AV} {H':AH} (hl:decide (as.length<=fn.ntmps)=true)
  (h:∀ (P':Program) (G':World->Prop) (E:SO),(∀ f l r,Ret P G f l r->Ret P' G' f l r)->(∀ f as H r H',zd4 P G f as H r H'->zd4 P' G' f as H r H')->E=zas->∀ t0:Nat,
   awp P' G' E T kOf c (za0 E T fn.results.toList [t0] r H') (as++List.replicate (fn.ntmps - as.length) (.p (.v undef))) (za2 [t0] [b0])):zd4 P G f as [b0] r H' :=
 zwz hT hm kOf hf hb hn hok hl fun P' G' E h1 h2 h3 t0=>h P' G' E h1 h2 h3 t0
theorem zd4.args {f:FuncId} {as as':List AV} {H:AH} {r:AV} {H':AH} (h:zd4 P G f as H r H') (hl:as'.length=as.length) (hr:∀ (j:Nat) (a a':AV),as[j]?=some a->as'[j]?=some a'->a'=a\/∃ x,a=.p x/\a'.toP=some x):zd4 P G f as' H r H' :=
 ⟨h.1,fun B w ι args tags ht hC hR hlen hrep=>h.2 B w ι args tags ht hC hR (by omega) fun j a v ha hv=>by
  have hj:=(List.getElem?_eq_some_iff.1 ha).1;have ha':as'[j]?=some as'[j]:=List.getElem?_eq_getElem (by omega)
  rcases hr j a _ ha ha' with e|⟨x,rfl,e⟩
  ·rw [e] at ha';exact hrep j a v ha' hv
  ·exact .p _ _ ((hrep j _ v ha' hv).toP _ e)⟩
end
/- Own work: a walk that is cut between two parts of a body: what lives on is told by a ghost,and may be weakened there. -/
section
variable {P:Program} {G:World->Prop} {T:TT} {nt:Nat}
def Seg (P:Program) (G:World->Prop) (nt:Nat) (c:Code) (Q:Exit->List AV->AH->Prop) (env:List AV) (H:AH):Prop :=
 ∀ (w0:Base) (B:Nat->Prop),(∀ w,GrX w0 w->G w)->(∀ b,w0.own b->B b)->zq8 w0 c->∀ a w,St w0 B nt env H a w->c.wp P (zj4 w0 B nt Q) a w
theorem Seg.of (hT:TOk P T) (hm:P.follows .mixedOrders=true) (kOf:Nat->Nat) {c:Code} (hok:zcd nt kOf c=true) (Q:SO->Exit->List AV->AH->Prop) {env:List AV} {H:AH}
  (h:∀ (P':Program) (G':World->Prop) (E:SO),(∀ f l r,Ret P G f l r->Ret P' G' f l r)->(∀ f as H r H',zd4 P G f as H r H'->zd4 P' G' f as H r H')->E=zas->awp P' G' E T kOf c (Q E) env H):Seg P G nt c (Q zas) env H :=
 fun _ _ hG hB hpk a w hS=>zck hT hG hB hm kOf c hpk hok _ env H a w (h P G zas (fun _ _ _ h=>h) (fun _ _ _ _ _ h=>h) rfl) hS
theorem Seg.wk {c:Code} {Q:Exit->List AV->AH->Prop} {env env':List AV} {H H':AH} (hw:Wk env H env' H') (h:Seg P G nt c Q env' H'):Seg P G nt c Q env H :=
 fun w0 B hG hB hpk a w hS=>h w0 B hG hB hpk a w (by
  obtain ⟨ι,hR,hE⟩:=hS.rep;exact ⟨hS.defers,hS.size,hS.pin,hw w0 B w ι a.tmps hB hR hE⟩)
theorem Seg.seq {c d:Code} {Q:Exit->List AV->AH->Prop} {env:List AV} {H:AH} (R:List AV->AH->Prop) (h:Seg P G nt c (zce R Q) env H) (h2:∀ env H,R env H->Seg P G nt d Q env H):Seg P G nt (.seq c d) Q env H :=
 fun w0 B hG hB hpk a w hS=>wp_seq (wp_mono (h w0 B hG hB hpk.1 a w hS) (zgb _ fun env H a w hR hS=>h2 env H hR w0 B hG hB hpk.2 a w hS))
inductive CutIs {γ:Type} (n:Nat) (live:List Nat) (m:Nat) (S:γ->List AV) (h:γ->AH) (I:γ->Prop) (env:List AV) (H:AH):Prop
 | mk (y:γ) (hh:HeadIs n live m S h env H y) (hI:I y)
 | wk (y:γ) (env1:List AV) (H1:AH) (hw:Wk env H env1 H1) (hh:HeadIs n live m S h env1 H1 y) (hI:I y)
theorem Seg.cut {γ:Type} (n:Nat) (live:List Nat) (m:Nat) (S:γ->List AV) (h:γ->AH) (I:γ->Prop) {c d:Code} {Q:Exit->List AV->AH->Prop} {env:List AV} {H:AH}
  (h1:Seg P G nt c (zce (CutIs n live m S h I) Q) env H) (h2:∀ y,I y->Seg P G nt d Q (zbf live (S y) n 0) (h y)):Seg P G nt (.seq c d) Q env H :=
 .seq _ h1 fun env H hc=>by
  cases hc with
  | mk y hh hI=>exact .wk hh.wk (h2 y hI)
  | wk y env1 H1 hw hh hI=>exact .wk (hw.trans hh.wk) (h2 y hI)
def ze3:Nat->Code->Code
 | 0,_=>.skip
 | k + 1,.seq a b=>.seq a (ze3 k b)
 | _ + 1,_=>.goto 0
def zlb:Nat->Code->Code
 | 0,c=>c
 | k + 1,.seq _ b=>zlb k b
 | _ + 1,c=>c
theorem zkh (hT:TOk P T) (hm:P.follows .mixedOrders=true) {kOf:Nat->Nat} {w0:Base} {B:Nat->Prop} (hG:∀ w,GrX w0 w->G w) (hB:∀ b,w0.own b->B b) {R:List AV->AH->Prop} {Q:Exit->List AV->AH->Prop}:∀ (k:Nat) (c:Code),zq8 w0 c->zcd nt kOf (ze3 k c)=true->(∀ env H a w,R env H->St w0 B nt env H a w->(zlb k c).wp P (zj4 w0 B nt Q) a w) →
  ∀ (env:List AV) (H:AH) (a:Act) (w:World),awp P G zas T kOf (ze3 k c) (zce R Q) env H->St w0 B nt env H a w->c.wp P (zj4 w0 B nt Q) a w
 | 0,c,_,_,hR,env,H,a,w,h,hS=>hR env H a w h hS
 | k + 1,.seq x y,hpk,hok,hR,env,H,a,w,h,hS=>by
  simp only [ze3,zcd,bAT] at hok;unfold ze3 awp at h;refine wp_seq (wp_mono (zck hT hG hB hm kOf x hpk.1 hok.1 _ env H a w h hS) ?_)
  rintro e a w ⟨env,H,h,hS⟩
  cases e with
  | normal=>exact zkh hT hm hG hB k y hpk.2 hok.2 hR env H a w h hS
  | exit id=>exact ⟨env,H,h,hS⟩
  | goto l=>exact ⟨env,H,h,hS⟩
  | ret=>exact ⟨env,H,h,hS⟩
  | panic c=>exact ⟨env,H,h,hS⟩
  | outgrown=>exact ⟨env,H,h,hS⟩
 | k + 1,.skip,_,_,_,_,_,_,_,h,_=>h.elim
 | k + 1,.region _ _ _,_,_,_,_,_,_,_,h,_=>h.elim
 | k + 1,.cond _ _ _,_,_,_,_,_,_,_,h,_=>h.elim
 | k + 1,.block _ _,_,_,_,_,_,_,_,h,_=>h.elim
 | k + 1,.loop _,_,_,_,_,_,_,_,h,_=>h.elim
 | k + 1,.exit _,_,_,_,_,_,_,_,h,_=>h.elim
 | k + 1,.ret,_,_,_,_,_,_,_,h,_=>h.elim
 | k + 1,.rangeFunc _ _ _ _,_,_,_,_,_,_,_,h,_=>h.elim
 | k + 1,.scope _,_,_,_,_,_,_,_,h,_=>h.elim
 | k + 1,.label _,_,_,_,_,_,_,_,h,_=>h.elim
 | k + 1,.goto _,_,_,_,_,_,_,_,h,_=>h.elim
 | k + 1,.refuse _,_,_,_,_,_,_,_,h,_=>h.elim
theorem zfg {w0:Base}:∀ (k:Nat) (c:Code),zq8 w0 c->zq8 w0 (zlb k c)
 | 0,_,h=>h
 | k + 1,.seq _ b,h=>zfg k b h.2
 | _ + 1,.skip,h=>h
 | _ + 1,.region _ _ _,h=>h
 | _ + 1,.cond _ _ _,h=>h
 | _ + 1,.block _ _,h=>h
 | _ + 1,.loop _,h=>h
 | _ + 1,.exit _,h=>h
 | _ + 1,.ret,h=>h
 | _ + 1,.rangeFunc _ _ _ _,h=>h
 | _ + 1,.scope _,h=>h
 | _ + 1,.label _,h=>h
 | _ + 1,.goto _,h=>h
 | _ + 1,.refuse _,h=>h
theorem Seg.cutK {γ:Type} (k:Nat) (n:Nat) (live:List Nat) (m:Nat) (S:γ->List AV) (h:γ->AH) (I:γ->Prop) (hT:TOk P T) (hm:P.follows .mixedOrders=true) (kOf:Nat->Nat) {c:Code} (Q:SO->Exit->List AV->AH->Prop) {env:List AV} {H:AH} (hok:zcd nt kOf (ze3 k c)=true)
  (h1:∀ (P':Program) (G':World->Prop) (E:SO),(∀ f l r,Ret P G f l r->Ret P' G' f l r)->(∀ f as H r H',zd4 P G f as H r H'->zd4 P' G' f as H r H')->E=zas->awp P' G' E T kOf (ze3 k c) (zce (CutIs n live m S h I) (Q E)) env H)
  (h2:∀ y,I y->Seg P G nt (zlb k c) (Q zas) (zbf live (S y) n 0) (h y)):Seg P G nt c (Q zas) env H:=by
 intro w0 B hG hB hpk a w hS;refine zkh hT hm hG hB k c hpk hok ?_ env H a w (h1 P G zas (fun _ _ _ h=>h) (fun _ _ _ _ _ h=>h) rfl) hS
 intro env1 H1 a1 w1 hc hS1
 cases hc with
 | mk y hh hI=>exact Seg.wk hh.wk (h2 y hI) w0 B hG hB (zfg k c hpk) a1 w1 hS1
 | wk y env2 H2 hw hh hI=>exact Seg.wk (hw.trans hh.wk) (h2 y hI) w0 B hG hB (zfg k c hpk) a1 w1 hS1
def zfx:AH->AH->Prop
 | [],[]=>True
 | _ :: xs,none :: ys=>zfx xs ys
 | x :: xs,some y :: ys=>x=some y/\zfx xs ys
 | _,_=>False
theorem zmq:∀ {H K:AH},zfx H K->K.length=H.length
 | [],[],_=>rfl
 | _ :: xs,none :: ys,h=>by simp [zmq (H:=xs) (K:=ys) h]
 | _ :: xs,some _ :: ys,h=>by simp [zmq (H:=xs) (K:=ys) h.2]
 | [],_ :: _,h=>h.elim
 | _ :: _,[],h=>h.elim
theorem zdw:∀ {H K:AH},zfx H K->∀ (k:Nat) (b:ABlk),K[k]?=some (some b)->H[k]?=some (some b)
 | [],[],_,k,b,h=>by simp at h
 | _ :: xs,none :: ys,h,0,b,hk=>by simp at hk
 | _ :: xs,none :: ys,h,k + 1,b,hk=>by simpa using zdw (H:=xs) (K:=ys) h k b (by simpa using hk)
 | x :: xs,some y :: ys,h,0,b,hk=>by
  obtain ⟨rfl,_⟩:=h;simpa using hk
 | x :: xs,some y :: ys,h,k + 1,b,hk=>by simpa using zdw (H:=xs) (K:=ys) h.2 k b (by simpa using hk)
 | [],_ :: _,h,_,_,_=>h.elim
 | _ :: _,[],h,_,_,_=>h.elim
theorem Rel.drop {w0:Base} {B:Nat->Prop} {w:World} {ι:Pl} {H K:AH} (h:Rel w0 B w ι H) (hd:zfx H K):Rel w0 B w ι K/\Keeps none w ι (Rd B ι H) w ι (Rd B ι K):=by
 have hkp:Keeps none w ι (Rd B ι H) w ι (Rd B ι K):=⟨nR _,fun b hb _=>⟨⟨hb.1,fun ⟨i,b',s',h1,h2⟩=>hb.2 ⟨i,b',s',zdw hd _ _ h1,h2⟩⟩,rfl⟩,fun _ _ _ _ h=>h⟩
 exact ⟨⟨h.gr,h.fut,by rw [zmq hd];exact h.len,fun i b c' s' h1 h2=>⟨(h.blk i b c' s' (zdw hd _ _ h1) h2).1,(h.blk i b c' s' (zdw hd _ _ h1) h2).2.keep0 hkp fun _ _=>rfl⟩,
  fun i j b b' c' s1 s2 h1 h2 h3 h4=>h.inj i j b b' c' s1 s2 (zdw hd _ _ h1) (zdw hd _ _ h2) h3 h4⟩,hkp⟩
def z6w (E:SO) (T:TT) (rs:List ResultVar) (tags:List Nat) (r:AV) (H':AH) (e:Exit) (env:List AV) (H:AH):Prop :=
 match e with
 | .ret=>zgt T env H rs fun as=>(match as with
  | [a]=>zj9 E H'.length H a fun x=>x=r/\zfx (H.take H'.length) (za2 tags H')/\zeq H'.length (za2 tags H')=true/\r.low H'.length=true
  | as=>zj9 E H'.length H (.tup as) fun x=>x=r/\zfx (H.take H'.length) (za2 tags H')/\zeq H'.length (za2 tags H')=true/\r.low H'.length=true)
 | .normal=>zgt T env H rs fun as=>(match as with
  | [a]=>zj9 E H'.length H a fun x=>x=r/\zfx (H.take H'.length) (za2 tags H')/\zeq H'.length (za2 tags H')=true/\r.low H'.length=true
  | as=>zj9 E H'.length H (.tup as) fun x=>x=r/\zfx (H.take H'.length) (za2 tags H')/\zeq H'.length (za2 tags H')=true/\r.low H'.length=true)
 | .panic ch=>r=.p (.pan ch)/\zph (za2 tags H')=true
 | _=>False
theorem zew (hT : TOk P T) (hG : ∀ w w', Gr w w' → G w → G w') {f : FuncId} {fn : Func} {c : Code} (hf : P.funcs[f]? = some fn) (hb : fn.body = some c) (hn : (fn.name == "runtime.NumGoroutine") = false)
  {as:List PV} {r:PV} (hl:as.length<=fn.ntmps) (h:Seg P G fn.ntmps c (zfm zas T fn.results.toList r) (as.map .p++List.replicate (fn.ntmps - as.length) (.p (.v undef))) []):Ret P G f as r:=by
 refine ⟨zdv hf hb hn,fun w B args hGw hlen hargs=>?_⟩
 refine calls_of_wp hf hb ?_;have hS:St (Base.of w) (fun b=>B b\/w.heap.size<=b) fn.ntmps (as.map .p++List.replicate (fn.ntmps - as.length) (.p (.v undef))) [] { tmps:=args.toArray++Array.replicate (fn.ntmps - args.toArray.size) undef,defers:=[] } w:=by
  refine ⟨rfl,by simp;omega,(fun t v h=>by cases h),[],⟨.of (Gr.refl _),fun b hb=>.inr hb,rfl,fun k b c s h1=>by simp at h1,fun k l b b' c s s' h1=>by simp at h1⟩,?_⟩
  have:=ze6 (w:=w) (ι:=[]) (R:=Rd (fun b=>B b\/w.heap.size<=b) [] []) (as:=as.map .p) (args:=args) (nt:=fn.ntmps) (by simpa using hl) (by simpa using hlen) fun j a v ha hv=>by
   rw [List.getElem?_map] at ha
   cases hj:as[j]? with
   | none=>rw [hj] at ha;cases ha
   | some p =>
    rw [hj] at ha;cases ha
    refine .p _ _ ((hargs j p v hj hv).keep (nR _) fun b hb _=>⟨⟨.inl hb,?_⟩,rfl⟩)
    rintro ⟨k,b',s,h1,_⟩
    simp at h1
  simpa using this
 have hB0:∀ b,(Base.of w).own b->B b\/w.heap.size<=b:=fun b hb=>hb.elim (fun h=>h.elim) .inr
 refine wp_mono (h _ _ (fun w' hg=>hG _ _ hg.gr hGw) hB0 (zb6 (fun _=>rfl) c) _ w hS) ?_
 rintro e a w' ⟨env,H,hQ,hS'⟩
 obtain ⟨ι,hR,hE⟩:=hS'.rep;have fin:(zgt T env H fn.results.toList fun as=>(match as with
  | [a]=>frz zas H a fun p=>p=r
  | as=>frz zas H (.tup as) fun p=>p=r))->a.defers=[]/\∃ v,(results fn a.tmps).run P w'=.ok v w'/\Gr w w'/\zzq w' (fun b=>B b\/w.heap.size<=b) r (.returned v):=by
  intro h;obtain ⟨x,v,hx,hrun,hv⟩:=zc9 (K:=fun a=>frz zas H a fun p=>p=r) hT hR hE h
  obtain ⟨p,rfl,hp⟩:=zge hR hB0 x v _ hx hv;exact ⟨hS'.defers,v,hrun,hR.gr.gr,.ret hp⟩
 cases e with
 | ret=>exact fin hQ
 | normal=>exact fin hQ
 | exit id=>cases hQ
 | goto l=>cases hQ
 | panic c=>exact ⟨hS'.defers,hR.gr.gr,by cases hQ;rfl⟩
 | outgrown=>cases hQ
theorem zad (hT : TOk P T) {f : FuncId} {fn : Func} {c : Code} (hf : P.funcs[f]? = some fn) (hb : fn.body = some c) (hn : (fn.name == "runtime.NumGoroutine") = false)
  {as:List AV} {H:AH} {r:AV} {H':AH} (hl:as.length<=fn.ntmps) (h:∀ tags:List Nat,tags.length=H.length->Seg P G fn.ntmps c (za0 zas T fn.results.toList tags r H') (as++List.replicate (fn.ntmps - as.length) (.p (.v undef))) (za2 tags H)):zd4 P G f as H r H':=by
 refine ⟨zdv hf hb hn,fun B w ι args tags htl hC hR hlen hargs=>?_⟩
 refine calls_of_wp hf hb ?_;have hS:St ⟨w,zbg ι (za2 tags H),[],fun _=>none⟩ B fn.ntmps (as++List.replicate (fn.ntmps - as.length) (.p (.v undef))) (za2 tags H) { tmps:=args.toArray++Array.replicate (fn.ntmps - args.toArray.size) undef,defers:=[] } w :=
  ⟨rfl,by simp;omega,(fun t v h=>by cases h),ι,hR,ze6 hl hlen hargs⟩
 refine wp_mono (h tags htl _ _ (fun w' hg=>hC.stab w' hg) hC.own (zb6 (fun _=>rfl) c) _ w hS) ?_
 rintro e a w' ⟨env,H2,hQ,hS'⟩
 obtain ⟨ι2,hR2,hE⟩:=hS'.rep;have fin:(zgt T env H2 fn.results.toList fun as=>(match as with
  | [a]=>zj9 zas H'.length H2 a fun x=>x=r/\H2.take H'.length=za2 tags H'/\zeq H'.length (za2 tags H')=true/\r.low H'.length=true
  | as=>zj9 zas H'.length H2 (.tup as) fun x=>x=r/\H2.take H'.length=za2 tags H'/\zeq H'.length (za2 tags H')=true/\r.low H'.length=true)) →
   a.defers=[]/\∃ v,(results fn a.tmps).run P w'=.ok v w'/\∃ ι',Rel ⟨w,zbg ι (za2 tags H),[],fun _=>none⟩ B w' ι' (za2 tags H')/\zgx w' ι' (Rd B ι' (za2 tags H')) r (.returned v):=by
  intro h;obtain ⟨x,v,hx,hrun,hv⟩:=zc9 (K:=fun a=>zj9 zas H'.length H2 a fun x=>x=r/\H2.take H'.length=za2 tags H'/\zeq H'.length (za2 tags H')=true/\r.low H'.length=true) hT hR2 hE h
  obtain ⟨y,⟨rfl,e1,e2,e3⟩,hy⟩:=zga hR2 hC.own x v _ hx hv;have hv':=hy e3;rw [<-e1] at e2;have hR3:=hR2.trunc (m:=H'.length) e2;rw [e1] at hR3 hv';exact ⟨hS'.defers,v,hrun,_,hR3,.ret hv'⟩
 cases e with
 | ret=>exact fin hQ
 | normal=>exact fin hQ
 | exit id=>cases hQ
 | goto l=>cases hQ
 | panic ch =>
  obtain ⟨rfl,hno⟩:=hQ;refine ⟨hS'.defers,List.replicate (za2 tags H').length (none,0,0),⟨hR2.gr,hR2.fut,by simp,fun k b c s h1=>absurd h1 (zdb hno),fun k l b b' c s s' h1=>absurd h1 (zdb hno)⟩,rfl⟩
 | outgrown=>cases hQ
def z5a:List (Nat × Nat × Nat)->List AV->Prop
 | [],_=>True
 | x :: r,env=>env.getD x.1 .junk=.osl x.2.1 0 x.2.2/\z5a r env
def retQK (E:SO) (T:TT) (rs:List ResultVar) (tags:List Nat) (r:AV) (H':AH) (ks:List (Nat × Nat × Nat)) (e:Exit) (env:List AV) (H:AH):Prop :=
 (match e with
 | .panic _=>False
 | e=>z6w E T rs tags r H' e env H)/\z5a ks env
def zzz (np:Nat):Code->Bool
 | .region _ ops _=>ops.toList.all fun o=>match o.dst with
  | some t=>decide (np<=t)
  | none=>true
 | .seq a b=>zzz np a && zzz np b
 | .cond _ a b=>zzz np a && zzz np b
 | .block _ c=>zzz np c
 | .loop c=>zzz np c
 | _=>true
theorem Rel.pin {w:World} {X:Nat->Prop} {ds:List Deferred} {p:Nat->Option Value} {B:Nat->Prop} {w':World} {ι:Pl} {H:AH} (h:Rel ⟨w,X,ds,p⟩ B w' ι H) (p':Nat->Option Value):Rel ⟨w,X,ds,p'⟩ B w' ι H :=
 ⟨⟨h.gr.os,h.gr.tape,h.gr.output,h.gr.size,h.gr.block⟩,h.fut,h.len,h.blk,h.inj⟩
theorem zv7.args {f:FuncId} {as as':List AV} {H:AH} {r:AV} {H':AH} {kp:Nat->Bool} (h:zv7 P G f as H r H' kp) (hl:as'.length=as.length) (hr:∀ (j:Nat) (a a':AV),as[j]?=some a->as'[j]?=some a'->a'=a\/∃ x,a=.p x/\a'.toP=some x):zv7 P G f as' H r H' kp :=
 ⟨h.1,fun B w ι args tags ht hC hR hlen hrep=>h.2 B w ι args tags ht hC hR (by omega) fun j a v ha hv=>by
  have hj:=(List.getElem?_eq_some_iff.1 ha).1;have ha':as'[j]?=some as'[j]:=List.getElem?_eq_getElem (by omega)
  rcases hr j a _ ha ha' with e|⟨x,rfl,e⟩
  ·rw [e] at ha';exact hrep j a v ha' hv
  ·exact .p _ _ ((hrep j _ v ha' hv).toP _ e)⟩
end
/- Own work: an own slice in a slot becomes data;a region that is cut between two of its operations. -/
theorem zin {env:List AV} {H:AH} {k j l n:Nat} {cs:List AV} {t:TypeId} {g:Option Nat} {s:Nat} {rs rs':List (List PV)} {ty:TypeId} (hk:H[k]?=some (some (.box cs t g))) (hj:cs[j]?=some (.osl l 0 n)) (hl:H[l]?=some (some (.rows s rs ty))) (hn:n<=rs.length) (he:rs.take n=rs') :
  Wk env H (env.map (AV.scrub (one l))) (((H.map (zar (one l))).set l none).set k (some (.box ((cs.map (AV.scrub (one l))).set j (.p (.ro s rs'))) t g))):=by
 subst he;exact z6b hk hj hl hn
section
variable {P:Program} {G:World->Prop} {T:TT} {nt:Nat} {w0:Base} {B:Nat->Prop}
theorem znv {f:FuncId} {o:Oper} {env:List AV} {H:AH} {K R:List AV->AH->Prop} {Q:Exit->List AV->AH->Prop} (h:MCall P G f o env H K (zce R Q)):MCall P G f o env H K Q:=by
 cases h with
 | mk env2 H2 hw σ as Hc r Hc' hr hc hb hp k =>
  refine .mk env2 H2 hw σ as Hc r Hc' hr hc hb hp ?_
  cases hx:r.panOf with
  | none=>rw [hx] at k;exact k
  | some ch=>rw [hx] at k;exact k
 | mkK kp env2 H2 hw σ as Hc r Hc' hr hc hb hp k =>
  refine .mkK kp env2 H2 hw σ as Hc r Hc' hr hc hb hp ?_
  cases hx:r.panOf with
  | none=>rw [hx] at k;exact k
  | some ch=>rw [hx] at k;exact k
theorem zsr {E:SO} {o:Oper} {env:List AV} {H:AH} {K R:List AV->AH->Prop} {Q:Exit->List AV->AH->Prop} (h:zg2 P G E T o env H K (zce R Q)):zg2 P G E T o env H K Q:=by
 unfold zg2 at h ⊢
 cases hck:z8u env o with
 | no=>rw [hck] at h;exact h
 | pure f ps=>rw [hck] at h;exact h
 | froz f as =>
  rw [hck] at h
  rcases h with h|h
  ·exact .inl h
  ·exact .inr (znv h)
 | mem f=>rw [hck] at h;exact znv h
 | pan v=>rw [hck] at h;exact h
theorem zpg (hT:TOk P T) (hG0:∀ w,GrX w0 w->G w) (hB0:∀ b,w0.own b->B b) {all:List Oper} {R:List AV->AH->Prop} {Q:Exit->List AV->AH->Prop} {ys:List Oper} (hR:∀ env H a w,R env H->St w0 B nt env H a w->wpList P all.toArray (zj4 w0 B nt Q) ys a w) :
  ∀ (xs:List Oper),(∀ o ∈ xs,∀ t,o.dst=some t->w0.pin t=none)->∀ (env:List AV) (H:AH) (a:Act) (w:World),zmz P G zas T all (zce R Q) xs env H->St w0 B nt env H a w->wpList P all.toArray (zj4 w0 B nt Q) (xs++ys) a w
 | [],_,env,H,a,w,h,hS=>hR env H a w h hS
 | o :: os,hos,env,H,a,w,h,hS=>by
  have hdst:=hos o (by simp)
  have hos':∀ o ∈ os,∀ t,o.dst=some t->w0.pin t=none:=fun x hx=>hos x (by simp [hx])
  have run:zg2 P G zas T o env H (fun env' H'=>zmz P G zas T all (zce R Q) os env' H') (zce R Q)->o.wp P a w (wpList P all.toArray (zj4 w0 B nt Q) (os++ys)) (zj4 w0 B nt Q):=fun h =>
   zhu hT hG0 hB0 hdst (zsr h) hS fun env' H' a' w' hK hS'=>zpg hT hG0 hB0 hR os hos' env' H' a' w' hK hS'
  obtain ⟨hd,hn,hpins,ι,hRl,hE⟩:=hS;unfold zmz at h;rw [lCA];unfold wpList
  split at h
  ·rename_i hg;rw [if_pos (by simp [Region.wanted,hg])]
   exact .inl (run h)
  ·rename_i j want hg
   split at h
   ·rename_i b hb;have hy:=zkj hb hE;rw [zdc]
    split at h
    ·rename_i ht;rw [if_pos (by simp [Region.wanted,hg,hy,zh1 ht])]
     exact .inl (run h)
    ·rename_i ht;rw [if_neg (by simpa [Region.wanted,hg,hy] using zgn ht)]
     refine zpg hT hG0 hB0 hR os hos' _ H _ w h ⟨by rw [zbw];exact hd,by rw [zc6];exact hn,zd8 hpins hdst _,ι,hRl,?_⟩
     exact hE.put (sc:=none) (Keeps.gr (Gr.refl _)) (.p _ _ (.v _))
   ·cases h
end
section
variable {P:Program} {G:World->Prop} {T:TT} {nt:Nat}
theorem Seg.cutOps {γ:Type} (k n:Nat) (live:List Nat) (m:Nat) (S:γ->List AV) (h:γ->AH) (I:γ->Prop) (hT:TOk P T) {id:Nat} {ops:Array Oper} (Q:SO->Exit->List AV->AH->Prop) {env:List AV} {H:AH}
  (h1:∀ (P':Program) (G':World->Prop) (E:SO),(∀ f l r,Ret P G f l r->Ret P' G' f l r)->(∀ f as H r H',zd4 P G f as H r H'->zd4 P' G' f as H r H')->E=zas->zmz P' G' E T ops.toList (zce (CutIs n live m S h I) (Q E)) (ops.toList.take k) env H)
  (h2:∀ y,I y->∀ (P':Program) (G':World->Prop) (E:SO),(∀ f l r,Ret P G f l r->Ret P' G' f l r)->(∀ f as H r H',zd4 P G f as H r H'->zd4 P' G' f as H r H')->E=zas->zmz P' G' E T ops.toList (Q E) (ops.toList.drop k) (zbf live (S y) n 0) (h y)):Seg P G nt (.region id ops false) (Q zas) env H:=by
 intro w0 B hG hB hpk a w hS;obtain ⟨l⟩:=ops;refine wp_region_list ?_
 have:=zpg (nt:=nt) (Q:=Q zas) hT hG hB (ys:=l.drop k) (fun env1 H1 a1 w1 hc hS1=>by
  have key:∀ y,I y->St w0 B nt (zbf live (S y) n 0) (h y) a1 w1->wpList P l.toArray (zj4 w0 B nt (Q zas)) (l.drop k) a1 w1:=fun y hI hS2 =>
   zdg hT hG hB _ (fun o ho=>hpk o (List.mem_of_mem_drop ho)) _ _ a1 w1 (h2 y hI P G zas (fun _ _ _ h=>h) (fun _ _ _ _ _ h=>h) rfl) hS2
  have wk:∀ {env env':List AV} {H H':AH},Wk env H env' H'->St w0 B nt env H a1 w1->St w0 B nt env' H' a1 w1:=fun hw hS=>by
   obtain ⟨ι,hR,hE⟩:=hS.rep;exact ⟨hS.defers,hS.size,hS.pin,hw w0 B w1 ι a1.tmps hB hR hE⟩
  cases hc with
  | mk y hh hI=>exact key y hI (wk hh.wk hS1)
  | wk y env2 H2 hw hh hI=>exact key y hI (wk (hw.trans hh.wk) hS1)) (l.take k) (fun o ho=>hpk o (List.mem_of_mem_take ho)) env H a w (h1 P G zas (fun _ _ _ h=>h) (fun _ _ _ _ _ h=>h) rfl) hS
 rwa [List.take_append_drop] at this
end
/- Own work: contracts over scalars,as the walk over data takes them. -/
theorem zyp {P : Program} {f : FuncId} {fn : Func} (hf : P.funcs[f]? = some fn) (hb : fn.body.isSome = true) (hn : (fn.name == "runtime.NumGoroutine") = false) (args : Array Value) (w : World) : (callFunc f args).run P w = .ok (.enter f args) w := by
 have hn' : ¬ fn.name = "runtime.NumGoroutine" := by simpa using hn
 obtain ⟨c,hc⟩:=Option.isSome_iff_exists.1 hb;simp [callFunc,program,Sem.run,hf,hn',hc]
theorem z3o {w:World} {B:Nat->Prop}:∀ (vs args:List Value),(vs.map PV.v).length=args.length->(∀ (j:Nat) (a:PV) (v:Value),(vs.map PV.v)[j]?=some a->args[j]?=some v->RepP w B a v)->args=vs
 | [],[],_,_=>rfl
 | [],_ :: _,h,_=>by simp at h
 | _ :: _,[],h,_=>by simp at h
 | v :: vs,a :: args,hl,h=>by
  have h0:=h 0 _ a rfl rfl;have ih:=z3o (w:=w) (B:=B) vs args (by simpa using hl) (fun j x y hx hy=>h (j + 1) x y (by simpa using hx) (by simpa using hy))
  cases h0
  rw [ih]
theorem zrp {P : Program} {G : World → Prop} {f : FuncId} {fn : Func} (hf : P.funcs[f]? = some fn) (hb : fn.body.isSome = true) (hn : (fn.name == "runtime.NumGoroutine") = false) (vs : List Value) (r : PV)
  (h:∀ w,G w->Calls P f vs.toArray w fun e w'=>∃ v,e=.returned v/\Gr w w'/\∀ R,RepP w' R r v):Ret P G f (vs.map .v) r :=
 ⟨zyp hf hb hn,fun w B args hG hl hr=>by
  have:=z3o vs args hl hr
  subst this;exact (h w hG).mono fun e w' ⟨v,h1,h2,h3⟩=>⟨h2,by rw [h1];exact .ret (h3 _)⟩⟩
end Go.Proofs.YtcfecmeocimclaaGreatDoor
