/- Own work: walks and laws of the parser and its reference. -/
import Derived.Test.YtjkcdcloomkooaaGreatDoorQYA
set_option linter.unusedVariables false
set_option linter.unusedSimpArgs false
set_option linter.unusedSectionVars false
set_option maxHeartbeats 4000000
set_option maxRecDepth 100000
namespace Go.Proofs.YtjkcdcloomkooaaGreatDoor
open Go.RowKit
structure nQ(w:World)(ι:Pl)(R:Nat->Prop)(env:List AV)(tmps:Array Value):Prop where
 len:env.length=tmps.size
 at_:∀(t:Nat)(a:AV)(v:Value),env[t]?=some a->tmps[t]?=some v->dG w ι R a v
def Wk(env:List AV)(H:AH)(env':List AV)(H':AH):Prop:=
 ∀(w0:cJ)(B:Nat->Prop)(w:World)(ι:Pl)(tmps:Array Value),(∀b,w0.own b->B b)->eX w0 B w ι H->nQ w ι (Rd B ι H) env tmps->∃ι',eX w0 B w ι' H'/\nQ w ι' (Rd B ι' H') env' tmps
theorem Wk.refl(env:List AV)(H:AH):Wk env H env H:=fun _ _ _ ι _ _ hR hE=>⟨ι,hR,hE⟩
theorem Wk.trans{env env1 env2:List AV}{H H1 H2:AH}(h:Wk env H env1 H1)(h':Wk env1 H1 env2 H2):Wk env H env2 H2:=fun w0 B w ι tmps hB hR hE=>by
 obtain⟨ι1,pA,hE1⟩:=h w0 B w ι tmps hB hR hE;exact h' w0 B w ι1 tmps hB pA hE1
theorem eX.regrow{w0:cJ}{B B':Nat->Prop}{w w':World}{ι:Pl}{H:AH}(h:eX w0 B w ι H)(hg:Gr w w')(hB:∀b,b<w.heap.size->B b->B' b)(M8:∀b,w'.heap.size<=b->B' b):
  eX w0 B' w' ι H/\bS none w ι (Rd B ι H) w' ι (Rd B' ι H):=by
 have hk:bS none w ι (Rd B ι H) w' ι (Rd B' ι H):=⟨hg.size,fun b hb cQ=>⟨⟨hB b cQ hb.1,hb.2⟩,hg.block b cQ⟩,fun _ _ _ _ h=>h⟩
 exact⟨⟨h.gr.trans hg,M8,h.len,fun k b c s h1 h2=>⟨(h.blk k b c s h1 h2).1,(h.blk k b c s h1 h2).2.keep0 hk fun c' e=>by
  subst e;exact hg.block c' (h.lt ⟨k,b,s,h1,h2⟩)⟩,h.inj⟩,hk⟩
def AV.low(m:Nat):AV->Bool
 | .own k _=>decide (k<m)
 | .orw k _ _=>decide (k<m)
 | .osl k _ _=>decide (k<m)
 | .agg cs=>lowL m cs
 | .tup cs=>lowL m cs
 | .clo _ fs cs=>lowL m fs&&lowL m cs
 |_=>true
where lowL (m:Nat):List AV->Bool
 |[]=>true
 |a::as=>a.low m&&lowL m as
theorem dt{m:Nat}:∀{cs:List AV}{j:Nat}{a:AV},AV.low.lowL m cs=true->cs[j]?=some a->a.low m=true
 |[],j,a,_,h=>by simp at h
 |c::cs,0,a,hl,h=>by
  simp only[AV.low.lowL,gK]at hl
  grind
 |c::cs,j+1,a,hl,h=>by
  simp only[AV.low.lowL,gK]at hl;exact dt hl.2 jk
def cE.low(m:Nat):cE->Bool
 | .box cs _ _=>AV.low.lowL m cs
 |_=>true
def kG(m:Nat):AH->Bool
 |[]=>true
 |some b::r=>b.low m&&kG m r
 |none::r=>kG m r
theorem A9{m:Nat}:∀{H:AH}{k:Nat}{b:cE},kG m H=true->H[k]?=some (some b)->b.low m=true
 |[],k,b,_,h=>by simp at h
 |some c::H,0,b,hl,h=>by
  simp only[kG,gK]at hl
  grind
 |none::H,0,b,hl,h=>by simp at h
 |some c::H,k+1,b,hl,h=>by
  simp only[kG,gK]at hl;exact A9 hl.2 jk
 |none::H,k+1,b,hl,h=>by
  simp only[kG]at hl;exact A9 hl jk
theorem Ei{α:Type}{l:List α}{m k:Nat}(h:k<m):(l.take m)[k]?=l[k]?:=aX
theorem n9{α:Type}{l:List α}{m k:Nat}{x:α}(h:(l.take m)[k]?=some x):k<m/\l[k]?=some x:=by
 grind
theorem dG.trunc{w:World}{ι:Pl}{R R':Nat->Prop}{m:Nat}(hk:∀b,R b->R' b){a:AV}{v:Value}(h:dG w ι R a v)(hl:a.low m=true):dG w (ι.take m) R' a v:=by
 induction h with
 |p x v h=>exact .p x v (h.keep (nR _) fun b hb _=>⟨hk b hb,rfl⟩)
 |own k j c s h=>exact .own k j c s (by rw[Ei (oT hl)];exact h)
 |orw k i j c s h=>exact .orw k i j c s (by rw[Ei (oT hl)];exact h)
 |osl0 k i=>exact .osl0 k i
 |osl k i n c cap s h hn hm hz=>exact .osl k i n c cap s (by rw[Ei (oT hl)];exact h) hn hm hz
 |agg cs vs hlen hr ih=>exact .agg cs vs hlen fun j a v ha hv=>ih j a v ha hv (dt hl ha)
 |tup cs vs hlen hr ih=>exact .tup cs vs hlen fun j a v ha hv=>ih j a v ha hv (dt hl ha)
 |clo f fs cs us vs h1 hr h2 gv ih ih'=>
  simp only[AV.low,gK]at hl;exact .clo f fs cs us vs h1 (fun j a v ha hv=>ih j a v ha hv (dt hl.1 ha)) h2 (fun j a v ha hv=>ih' j a v ha hv (dt hl.2 ha))
 |junk v=>exact .junk v
theorem ft.trunc{w:World}{ι:Pl}{R R':Nat->Prop}{m:Nat}(hk:∀b,R b->R' b){c:Option Nat}{s:Nat×Nat}{b:cE}(h:ft w ι R c s b)(hl:b.low m=true):ft w (ι.take m) R' c s b:=by
 cases b with
 |box cs t g=>
  obtain⟨hg,c',arr,e,h1,h2,h3⟩:=h;refine⟨hg,c',arr,e,h1,h2,fun j a ha=>?_⟩
  obtain⟨v,hv,vR,hr⟩:=h3 j a ha;exact⟨v,hv,vR,hr.trunc hk (dt hl ha)⟩
 |rows s' rs t=>
  obtain⟨e,hlen,h⟩:=h;refine⟨e,hlen,?_⟩
  rcases h with h|⟨c',arr,e,h1,hz,h3⟩
  ·exact .inl h
  ·refine .inr ⟨c',arr,e,h1,hz,fun i j row a h4 h5=>?_⟩
   obtain⟨v,hv,vR,hr⟩:=h3 i j row a h4 h5;exact⟨v,hv,vR,hr.keep (nR _) fun b hb _=>⟨hk b hb,rfl⟩⟩
 |iter str pos=>exact h
theorem Zx{ι:Pl}{H:AH}{m c:Nat}(h:jB (ι.take m) (H.take m) c):jB ι H c:=by
 obtain⟨k,b,s,h1,h2⟩:=h;exact⟨k,b,s,(n9 h1).2,(n9 h2).2⟩
theorem vw{B:Nat->Prop}{ι:Pl}{H:AH}{m:Nat}:∀b,Rd B ι H b->Rd B (ι.take m) (H.take m) b:=fun _ h=>⟨h.1,fun ho=>h.2 (Zx ho)⟩
theorem eX.trunc{w0:cJ}{B:Nat->Prop}{w:World}{ι:Pl}{H:AH}{m:Nat}(h:eX w0 B w ι H)(hl:kG m (H.take m)=true):eX w0 B w (ι.take m) (H.take m):=
 ⟨h.gr,h.fut,by simp[h.len],fun k b c s h1 h2=>⟨(h.blk k b c s (n9 h1).2 (n9 h2).2).1,(h.blk k b c s (n9 h1).2 (n9 h2).2).2.trunc vw (A9 hl h1)⟩,
  fun k l b b' c s s' h1 h2 h3 h4=>h.inj k l b b' c s s' (n9 h1).2 (n9 h2).2 (n9 h3).2 (n9 h4).2⟩
def cg(E:SO)(H:AH):AV->(PV->Prop)->Prop
 | .p x,K=>K x
 | .osl k i n,K=>(match H[k]? with
  |some (some (.rows s rs _))=>E.pre i n rs/\K (.ro s (E.sub rs i n))
  |_=>False)
 | .agg cs,K=>frzL cs fun ps=>K (.agg ps)
 | .tup cs,K=>frzL cs fun ps=>K (.tup ps)
 |_,_=>False
where frzL:List AV->(List PV->Prop)->Prop
 |[],K=>K []
 |a::as,K=>cg E H a fun p=>frzL as fun ps=>K (p::ps)
section
variable{w0:cJ}{B:Nat->Prop}
theorem E3{w:World}{ι:Pl}{H:AH}{x:PV}{v:Value}(h:cI w (Rd B ι H) x v):cI w B x v:=h.keep (nR _) fun _ hb _=>⟨hb.1,rfl⟩
theorem JV{H:AH}{w:World}{ι:Pl}(hR:eX w0 B w ι H)(hB:∀b,w0.own b->B b):∀(a:AV)(v:Value)(K:PV->Prop),cg bG H a K->dG w ι (Rd B ι H) a v->∃p,K p/\cI w B p v
 | .p x,v,K,h,hv=>by
  cases hv with
  |p _ _ hv=>exact⟨x,h,E3 hv⟩
 | .osl k i n,v,K,h,hv=>by
  unfold cg at h
  split at h
  ·rename_i s rs t hk;obtain⟨hle,h⟩:=h;change i+n<=rs.length at hle;change K (.ro s ((rs.drop i).take n))at h;refine⟨_,h,?_⟩
   cases hv with
   |osl0=>
    have e:(rs.drop i).take 0=[]:=dL
    exact .ro0 _ _ _
   |osl _ _ _ c cap sz hi hn hm hz=>
    obtain⟨es,hl,hh⟩:=(hR.blk k _ _ sz hk hi).2;have qV:=(hR.blk k _ _ sz hk hi).1 c rfl
    rcases hh with⟨ec,_⟩|⟨c',arr,ec,hb,vA,dC⟩
    ·cases ec
    cases ec
    have hlen:((rs.drop i).take n).length=n:=aX
    have aT:∀(q:Nat)(row:List PV),((rs.drop i).take n)[q]?=some row->rs[i+q]?=some row:=fun q row hr=>(G9 hr).1
    have gJ:∀(q j:Nat)(row:List PV)(a:PV),((rs.drop i).take n)[q]?=some row->row[j]?=some a->∃u,(arr[(i+q)*sz.1+j]?).getD undef=u/\w.cell? ⟨c,i*sz.1+(q*s+j),none⟩=some u/\u.oneCell'=true/\cI w B a u:=by
     intro q j row a hr ha;obtain⟨u,hu,h1,yd⟩:=dC _ j row a (aT q row hr) ha;have e2:i*sz.1+(q*s+j)=(i+q)*sz.1+j:=aX
     exact⟨u,by rw[hu];rfl,by rw[ku hb,e2];exact hu,h1,E3 yd⟩
    have:=cI.ro (w:=w) (R:=B) s ((rs.drop i).take n) c (i*sz.1) cap (fun q j=>(arr[(i+q)*sz.1+j]?).getD undef) (hB c qV) (n7 hb) oM (fun q row hr=>by grind)
     (fun q j row a hr ha=>by grind) (fun q j row a hr ha=>by grind)
    grind
  ·cases h
 | .agg cs,v,K,h,hv=>by
  cases hv with
  |agg _ vs hl hr=>
   obtain⟨ps,hK,jr,D4⟩:=frzL_sound hR hB cs vs _ hl hr h;exact⟨_,hK,.agg ps vs oM D4⟩
 | .tup cs,v,K,h,hv=>by
  cases hv with
  |tup _ vs hl hr=>
   obtain⟨ps,hK,jr,D4⟩:=frzL_sound hR hB cs vs _ hl hr h;exact⟨_,hK,.tup ps vs oM D4⟩
 | .own _ _,_,_,h,_=>h.elim
 | .orw _ _ _,_,_,h,_=>h.elim
 | .junk,_,_,h,_=>h.elim
where frzL_sound {H:AH} {w:World} {ι:Pl} (hR:eX w0 B w ι H) (hB:∀b,w0.own b->B b):∀(as:List AV)(vs:List Value)(K:List PV->Prop),as.length=vs.length->(∀(j:Nat)(a:AV)(v:Value),as[j]?=some a->vs[j]?=some v->dG w ι (Rd B ι H) a v)->cg.frzL bG H as K →
  ∃ps,K ps/\ps.length=as.length/\∀(j:Nat)(p:PV)(v:Value),ps[j]?=some p->vs[j]?=some v->cI w B p v
 |[],vs,K,hl,hr,h=>⟨[],h,rfl,fun j p v hp=>by simp at hp⟩
 |a::as,[],K,hl,hr,h=>by simp at hl
 |a::as,v::vs,K,hl,hr,h=>by
  obtain⟨p,hp,D4⟩:=JV hR hB a v _ h (hr 0 a v rfl rfl);obtain⟨ps,hK,jr,BS⟩:=frzL_sound hR hB as vs _ xp (fun j b u hb hu=>hr (j+1) b u (by simpa using hb) (by simpa using hu)) hp
  grind
end
def PV.flat:PV->Bool
 | .v _=>true
 | .e0=>true
 | .err=>true
 | .agg cs=>flatL cs
 | .tup cs=>flatL cs
 |_=>false
where flatL:List PV->Bool
 |[]=>true
 |a::as=>a.flat&&flatL as
theorem Eu:∀{cs:List PV}{j:Nat}{a:PV},PV.flat.flatL cs=true->cs[j]?=some a->a.flat=true
 |[],j,a,_,h=>by simp at h
 |c::cs,0,a,hl,h=>by
  simp only[PV.flat.flatL,gK]at hl
  grind
 |c::cs,j+1,a,hl,h=>by
  simp only[PV.flat.flatL,gK]at hl;exact Eu hl.2 jk
theorem cI.free{w w':World}{R R':Nat->Prop}{p:PV}{v:Value}(h:cI w R p v):p.flat=true->cI w' R' p v:=by
 induction h with
 |v x=>exact fun _=>.v x
 |e0 A=>exact fun _=>.e0 A
 |ro0=>exact fun h=>by cases h
 |ro=>exact fun h=>by cases h
 |rop=>exact fun h=>by cases h
 |err t v=>exact fun _=>.err t v
 |agg cs vs hl hr ih=>exact fun h=>.agg cs vs hl fun j a v ha hv=>ih j a v ha hv (Eu h ha)
 |tup cs vs hl hr ih=>exact fun h=>.tup cs vs hl fun j a v ha hv=>ih j a v ha hv (Eu h ha)
def AV.ren(f:Nat->Nat):AV->AV
 | .own k j=>.own (f k) j
 | .orw k i j=>.orw (f k) i j
 | .osl k i n=>.osl (f k) i n
 | .agg cs=>.agg (renL f cs)
 | .tup cs=>.tup (renL f cs)
 | .clo g fs cs=>.clo g (renL f fs) (renL f cs)
 |a=>a
where renL (f:Nat->Nat):List AV->List AV
 |[]=>[]
 |a::as=>a.ren f::renL f as
theorem EE(f:Nat->Nat):∀(cs:List AV)(j:Nat),(AV.ren.renL f cs)[j]?=(cs[j]?).map (AV.ren f)
 |[],j=>by simp[AV.ren.renL]
 |a::as,0=>by simp[AV.ren.renL]
 |a::as,j+1=>by simpa [AV.ren.renL]using EE f as j
theorem du(f:Nat->Nat):∀(cs:List AV),(AV.ren.renL f cs).length=cs.length
 |[]=>rfl
 |a::as=>by simp[AV.ren.renL,du f as]
theorem KJ{f:Nat->Nat}{cs:List AV}{j:Nat}{a:AV}(h:(AV.ren.renL f cs)[j]?=some a):∃b,cs[j]?=some b/\a=b.ren f:=by
 rw[EE]at h
 grind
theorem dG.ren{w:World}{ι ι2:Pl}{R R':Nat->Prop}{f:Nat->Nat}(hp:∀k c s,ι[k]?=some (some c,s)->ι2[f k]?=some (some c,s))(hR:∀b,R b->b<w.heap.size->R' b){a:AV}{v:Value}(h:dG w ι R a v):dG w ι2 R' (a.ren f) v:=by
 induction h with
 |p x v h=>exact .p x v (h.keep (nR _) fun b hb hl=>⟨hR b hb hl,rfl⟩)
 |own k j c s h=>exact .own _ j c s (hp k c s h)
 |orw k i j c s h=>exact .orw _ i j c s (hp k c s h)
 |osl0 k i=>exact .osl0 _ i
 |osl k i n c cap s h hn hm hz=>exact .osl _ i n c cap s (hp k c s h) hn hm hz
 |agg cs vs hl hr ih=>exact .agg _ vs (by rw[du];exact hl) fun j a v ha hv=>by obtain⟨b,hb,rfl⟩:=KJ ha;exact ih j b v hb hv
 |tup cs vs hl hr ih=>exact .tup _ vs (by rw[du];exact hl) fun j a v ha hv=>by obtain⟨b,hb,rfl⟩:=KJ ha;exact ih j b v hb hv
 |clo g fs cs us vs hl hr pM gv ih ih'=>exact .clo g _ _ us vs (by rw[du];exact hl) (fun j a v ha hv=>by obtain⟨b,hb,rfl⟩:=KJ ha;exact ih j b v hb hv) (by rw[du];exact pM) (fun j a v ha hv=>by obtain⟨b,hb,rfl⟩:=KJ ha;exact ih' j b v hb hv)
 |junk v=>exact .junk v
theorem dG.unren{w:World}{ι ι2:Pl}{R R':Nat->Prop}{f:Nat->Nat}{m:Nat}(hp:∀k c s,k<m->ι2[f k]?=some (some c,s)->ι[k]?=some (some c,s))(hR:∀b,R b->b<w.heap.size->R' b){b:AV}{v:Value}(h:dG w ι2 R b v):∀a:AV,b=a.ren f->a.low m=true->dG w ι R' a v:=by
 induction h with
 |p x v h=>
  intro a e hl
  cases a<;>simp[AV.ren]at e
  subst e;exact .p x v (h.keep (nR _) fun b hb cQ=>⟨hR b hb cQ,rfl⟩)
 |own k j c s h=>
  intro a e hl
  cases a<;>simp[AV.ren]at e
  obtain⟨rfl,rfl⟩:=e;exact .own _ _ c s (hp _ c s (oT hl) h)
 |orw k i j c s h=>
  intro a e hl
  cases a<;>simp[AV.ren]at e
  obtain⟨rfl,rfl,rfl⟩:=e;exact .orw _ _ _ c s (hp _ c s (oT hl) h)
 |osl0 k i=>
  intro a e hl
  cases a<;>simp[AV.ren]at e
  obtain⟨rfl,rfl,rfl⟩:=e;exact .osl0 _ _
 |osl k i n c cap s h hn hm hz=>
  intro a e hl
  cases a<;>simp[AV.ren]at e
  obtain⟨rfl,rfl,rfl⟩:=e;exact .osl _ _ _ c cap s (hp _ c s (oT hl) h) hn hm hz
 |agg cs vs hl hr ih=>
  intro a e kG
  cases a<;>simp[AV.ren]at e
  subst e;exact .agg _ vs (by rw[<-hl,du]) fun j a v ha hv=>ih j _ v US hv a rfl (dt kG ha)
 |tup cs vs hl hr ih=>
  intro a e kG
  cases a<;>simp[AV.ren]at e
  subst e;exact .tup _ vs (by rw[<-hl,du]) fun j a v ha hv=>ih j _ v US hv a rfl (dt kG ha)
 |clo g fs cs us vs hl hr pM gv ih ih'=>
  intro a e kG
  cases a<;>simp[AV.ren]at e
  obtain⟨rfl,rfl,rfl⟩:=e;simp only[AV.low,gK]at kG;exact .clo _ _ _ us vs (by rw[<-hl,du]) (fun j a v ha hv=>ih j _ v US hv a rfl (dt kG.1 ha)) (by rw[<-pM,du]) (fun j a v ha hv=>ih' j _ v US hv a rfl (dt kG.2 ha))
 |junk v=>
  intro a e hl
  cases a<;>simp[AV.ren]at e
  exact .junk v
def jU(σ:List Nat)(n k:Nat):Nat:=match σ[k]? with
 |some l=>l
 |none=>n+(k-σ.length)
def KY(f:Nat->Nat)(g:Option Nat):cE->cE
 | .box cs t _=>.box (AV.ren.renL f cs) t g
 |b=>b
def yX(f:Nat->Nat)(g:Option Nat):Option cE->Option cE
 |some b=>some (KY f g b)
 |none=>none
def NP:Option cE->Option Nat
 |some (.box _ _ g)=>g
 |_=>none
def vh:Option cE->Bool
 |some (.box _ _ _)=>true
 |_=>false
def AQ(c:Nat):Option cE->Option cE
 |some (.box cs t _)=>some (.box cs t (some c))
 |b=>b
def dE:List Nat->AH->AH
 |c::cs,b::H=>AQ c b::dE cs H
 |[],H=>H
 |_,[]=>[]
theorem KC:∀(tags:List Nat)(H:AH),(dE tags H).length=H.length
 |[],H=>by simp[dE]
 |c::cs,[]=>by simp[dE]
 |c::cs,b::H=>by simp[dE,KC cs H]
theorem JQ:∀(tags:List Nat)(H:AH)(k:Nat)(b:Option cE),(dE tags H)[k]?=some b->∃b0,H[k]?=some b0/\((∃c,tags[k]?=some c/\b=AQ c b0)\/(tags[k]?=none/\b=b0))
 |[],H,k,b,h=>⟨b,by simpa [dE]using h,.inr ⟨by simp,rfl⟩⟩
 |c::cs,[],k,b,h=>by simp[dE]at h
 |c::cs,b0::H,0,b,h=>by
  simp[dE]at h
  grind
 |c::cs,b0::H,k+1,b,h=>by
  have:=JQ cs H k b (by simpa [dE]using h)
  exact qh
def ak(w:World)(ι:Pl)(R:Nat->Prop):AV->Ending->Prop
 | .p (.pan ch),e=>e=.panicked ch
 |r,e=>∃v,e=.returned v/\dG w ι R r v
def AV.isPan:AV->Bool
 | .p (.pan _)=>true
 |_=>false
theorem ak.val{w:World}{ι:Pl}{R:Nat->Prop}{r:AV}{e:Ending}(h:ak w ι R r e)(hp:r.isPan=false):∃v,e=.returned v/\dG w ι R r v:=by
 cases r with
 |p x=>cases x<;>first|exact h|cases hp
 |_=>exact h
theorem ak.ret{w:World}{ι:Pl}{R:Nat->Prop}{r:AV}{v:Value}(h:dG w ι R r v):ak w ι R r (.returned v):=by
 cases r with
 |p x=>
  cases x with
  |pan ch=>cases h with
   |p _ _ h=>cases h
  |_=>exact⟨_,rfl,h⟩
 |_=>exact⟨_,rfl,h⟩
def jL(P:Program)(G:World->Prop)(f:FuncId)(as:List AV)(H:AH)(r:AV)(H':AH):Prop:=
 (∀(args:Array Value)(w:World),(callFunc f args).run P w=.ok (.enter f args) w) ∧
 ∀(B:Nat->Prop)(w:World)(ι:Pl)(args:List Value)(tags:List Nat),tags.length=H.length->m8 G ⟨w,jB ι (dE tags H),[],fun _=>none⟩ B w ι (dE tags H)->eX ⟨w,jB ι (dE tags H),[],fun _=>none⟩ B w ι (dE tags H) →
  as.length=args.length->(∀(j:Nat)(a:AV)(v:Value),as[j]?=some a->args[j]?=some v->dG w ι (Rd B ι (dE tags H)) a v) →
  Calls P f args.toArray w fun e w'=>∃ι',eX ⟨w,jB ι (dE tags H),[],fun _=>none⟩ B w' ι' (dE tags H')/\ak w' ι' (Rd B ι' (dE tags H')) r e
def PW(P:Program)(G:World->Prop)(f:FuncId)(as:List AV)(H:AH)(r:AV)(H':AH)(kp:Nat->Bool):Prop:=
 (∀(args:Array Value)(w:World),(callFunc f args).run P w=.ok (.enter f args) w) ∧
 ∀(B:Nat->Prop)(w:World)(ι:Pl)(args:List Value)(tags:List Nat),tags.length=H.length->m8 G ⟨w,jB ι (dE tags H),[],fun _=>none⟩ B w ι (dE tags H)->eX ⟨w,jB ι (dE tags H),[],fun _=>none⟩ B w ι (dE tags H) →
  as.length=args.length->(∀(j:Nat)(a:AV)(v:Value),as[j]?=some a->args[j]?=some v->dG w ι (Rd B ι (dE tags H)) a v) →
  Calls P f args.toArray w fun e w'=>∃ι',eX ⟨w,jB ι (dE tags H),[],fun _=>none⟩ B w' ι' (dE tags H')/\ak w' ι' (Rd B ι' (dE tags H')) r e/\∀(k c:Nat)(s:Nat×Nat),kp k=true->ι[k]?=some (some c,s)->ι'[k]?=some (some c,s)
def bx:List Nat->Nat->Nat->Option Nat
 |[],_,_=>none
 |x::xs,l,i=>(match Nat.beq x l with
  |true=>some i
  |false=>bx xs l (i+1))
theorem Aw{l:Nat}:∀{σ:List Nat}{i k:Nat},bx σ l i=some k->i<=k/\σ[k-i]?=some l
 |[],i,k,h=>by simp[bx]at h
 |x::xs,i,k,h=>by
  unfold bx at h
  split at h
  ·simp_all
  ·obtain⟨h1,h2⟩:=Aw h
   grind
theorem Fc{l:Nat}:∀{σ:List Nat}{i:Nat},bx σ l i=none->∀k:Nat,σ[k]?≠some l
 |[],i,_,k=>by simp
 |x::xs,i,h,k=>by
  unfold bx at h
  split at h
  ·cases h
  ·rename_i e
   cases k with
   |zero=>
    intro hx;simp_all
   |succ k=>simpa using Fc h k
def ZE(σ:List Nat)(n:Nat):Bool:=(List.range σ.length).all fun k=>(match bx σ (σ.getD k 0) 0 with
 |some k'=>Nat.beq k' k
 |none=>false)&&Nat.blt (σ.getD k 0) n
theorem pk{σ:List Nat}{n:Nat}(h:ZE σ n=true){k l:Nat}(hk:σ[k]?=some l):bx σ l 0=some k/\l<n:=by
 have cQ:=(aC.1 hk).1
 have:=aO.1 h k (bV.2 cQ)
 rw[aL,hk]at this;simp only[jK,gK]at this;obtain⟨h1,h2⟩:=this;refine⟨?_,by simp_all⟩
 split at h1
 ·simp_all
 ·cases h1
def ow:Option cE->Option cE
 |some (.box cs t _)=>some (.box cs t none)
 |b=>b
def yH(σ:List Nat)(H Hc':AH):Nat->Bool:=fun l=>match bx σ l 0 with
 |some k=>!(vh (H.getD l none)&&vh (Hc'.getD k none))
 |none=>false
def vg(σ:List Nat)(f:Nat->Nat)(p:Nat->Bool)(Hc':AH):Nat->AH->AH
 |_,[]=>[]
 |l,b::H=>(match bx σ l 0 with
  |some k=>yX f (NP b) (Hc'.getD k none)
  |none=>qA p b)::vg σ f p Hc' (l+1) H
def wV(σ:List Nat)(H Hc':AH):AH:=vg σ (jU σ H.length) (yH σ H Hc') Hc' 0 H++(Hc'.drop σ.length).map (yX (jU σ H.length) none)
def l7(σ:List Nat)(ι':Pl):Nat->Pl->Pl
 |_,[]=>[]
 |l,x::ι=>(match bx σ l 0 with
  |some k=>ι'.getD k (none,0,0)
  |none=>x)::l7 σ ι' (l+1) ι
theorem Er{σ:List Nat}{f:Nat->Nat}{p:Nat->Bool}{Hc':AH}:∀(l:Nat)(H:AH)(i:Nat),(vg σ f p Hc' l H)[i]?=(H[i]?).map fun b=>match bx σ (l+i) 0 with
  |some k=>yX f (NP b) (Hc'.getD k none)
  |none=>qA p b
 |l,[],i=>by simp[vg]
 |l,b::H,0=>by simp[vg]
 |l,b::H,i+1=>by
  simp only[vg,cD];rw[Er (l+1) H i,show l+1+i=l+(i+1) by omega]
theorem G1{σ:List Nat}{ι':Pl}:∀(l:Nat)(ι:Pl)(i:Nat),(l7 σ ι' l ι)[i]?=(ι[i]?).map fun x=>match bx σ (l+i) 0 with
  |some k=>ι'.getD k (none,0,0)
  |none=>x
 |l,[],i=>by simp[l7]
 |l,x::ι,0=>by simp[l7]
 |l,x::ι,i+1=>by
  simp only[l7,cD];rw[G1 (l+1) ι i,show l+1+i=l+(i+1) by omega]
theorem wg{σ:List Nat}{f:Nat->Nat}{p:Nat->Bool}{Hc':AH}:∀(l:Nat)(H:AH),(vg σ f p Hc' l H).length=H.length
 |l,[]=>rfl
 |l,b::H=>by simp[vg,wg (l+1) H]
theorem EA{σ:List Nat}{ι':Pl}:∀(l:Nat)(ι:Pl),(l7 σ ι' l ι).length=ι.length
 |l,[]=>rfl
 |l,x::ι=>by simp[l7,EA (l+1) ι]
theorem z7w(f:Nat->Nat)(g:Option Nat)(c:Nat)(b:Option cE):yX f g (AQ c b)=yX f g b:=by
 cases b with
 |none=>rfl
 |some b=>cases b<;>rfl
theorem Af(f:Nat->Nat)(g:Option Nat)(tags:List Nat)(H:AH)(k:Nat):yX f g ((dE tags H).getD k none)=yX f g (H.getD k none):=by
 rw[aL,aL]
 cases h:(dE tags H)[k]? with
 |none=>
  exact Vu
 |some b=>
  obtain⟨b0,h0,h1⟩:=JQ tags H k b h;rw[h0]
  rcases h1 with⟨c,_,rfl⟩|⟨_,rfl⟩
  ·exact z7w f g c b0
  ·rfl
theorem Ae{f:Nat->Nat}{g:Option Nat}{b:Option cE}{x:cE}(h:yX f g b=some x):∃b0,b=some b0/\x=KY f g b0:=by
 cases b with
 |none=>cases h
 |some b0=>cases h;grind
theorem Al{tags:List Nat}{H:AH}{k:Nat}:vh ((dE tags H).getD k none)=vh (H.getD k none):=by
 rw[aL,aL]
 cases h:(dE tags H)[k]? with
 |none=>
  exact Vu
 |some b=>
  obtain⟨b0,h0,h1⟩:=JQ tags H k b h;rw[h0]
  rcases h1 with⟨c,_,rfl⟩|⟨_,rfl⟩
  ·cases b0 with
   |none=>rfl
   |some b0=>cases b0<;>rfl
  ·rfl
section
variable{P:Program}{G:World->Prop}{w0:cJ}{B:Nat->Prop}
theorem Fq{w:World}{ι:Pl}{H:AH}(hR:eX w0 B w ι H)(hC:m8 G w0 B w ι H){f:FuncId}{as:List AV}{Hc:AH}{r:AV}{Hc':AH}(h:jL P G f as Hc r Hc'){σ:List Nat}
  (hσ:ZE σ H.length=true) (hlen:σ.length=Hc.length) (BT:σ.map (fun l=>ow (H.getD l none))=Hc.map (yX (jU σ H.length) none)) (jx:kG σ.length Hc=true) (D7:AV.low.lowL σ.length as=true)
  {args:List Value} (jA:as.length=args.length) (eG:∀(j:Nat)(a:AV)(v:Value),as[j]?=some a->args[j]?=some v->dG w ι (Rd B ι H) (a.ren (jU σ H.length)) v):
  Calls P f args.toArray w fun e w'=>∃ι',eX w0 B w' ι' (wV σ H Hc')/\bS (some (yH σ H Hc')) w ι (Rd B ι H) w' ι' (Rd B ι' (wV σ H Hc'))/\ak w' ι' (Rd B ι' (wV σ H Hc')) (r.ren (jU σ H.length)) e:=by
 have hιl:∀l:Nat,l<H.length->∃x,ι[l]?=some x:=fun l hl=>⟨_,aB (by rw[hR.len];exact hl)⟩
 generalize hιc:σ.map (fun l=>ι.getD l (none,0,0))=ιc
 generalize htg:ιc.map (fun x=>x.1.getD 0)=tags
 have dO:ιc.length=σ.length:=by rw[<-hιc];simp
 have cC:tags.length=Hc.length:=aX
 have yy:∀(k:Nat)(x:Option Nat×Nat×Nat),ιc[k]?=some x->∃l,σ[k]?=some l/\ι[l]?=some x:=fun k x hx=>by
  exact Wb
 have yx:∀(k l:Nat),σ[k]?=some l->∃x,ιc[k]?=some x/\ι[l]?=some x:=fun k l hk=>by
  exact Js
 have GM:∀(k:Nat)(x:Option Nat×Nat×Nat),ιc[k]?=some x->tags[k]?=some (x.1.getD 0):=fun k x hx=>by
  grind
 have yB:∀(k:Nat)(b:cE)(l:Nat),(dE tags Hc)[k]?=some (some b)->σ[k]?=some l->∃(b2 b0:cE),H[l]?=some (some b2)/\Hc[k]?=some (some b0)/\ow (some b2)=some (KY (jU σ H.length) none b0)/\∃c,tags[k]?=some c/\some b=AQ c (some b0):=fun k b l hb hk=>by
  exact Xg
 have jt:∀c,jB ιc (dE tags Hc) c->∃(k l:Nat)(b2:cE)(s:Nat×Nat),σ[k]?=some l/\H[l]?=some (some b2)/\ι[l]?=some (some c,s):=by
  rintro c ⟨k,b,s,h1,h2⟩
  grind
 have wG:∀c,jB ιc (dE tags Hc) c->jB ι H c:=fun c hc=>by
  obtain⟨k,l,b2,s,_,h1,h2⟩:=jt c hc;exact⟨l,b2,s,h1,h2⟩
 obtain⟨B',sy⟩:∃B':Nat->Prop,∀b,B' b ↔ (B b/\¬ ∃(l:Nat)(b2:cE)(s:Nat×Nat),(∀k:Nat,σ[k]?≠some l)/\H[l]?=some (some b2)/\ι[l]?=some (some b,s)):=⟨_,fun _=>Iff.rfl⟩
 have qz:∀b,Rd B ι H b->Rd B' ιc (dE tags Hc) b:=fun b hb=>⟨(sy b).2 ⟨hb.1,fun⟨l,b2,s,_,h1,h2⟩=>hb.2 ⟨l,b2,s,h1,h2⟩⟩,fun ho=>hb.2 (wG b ho)⟩
 have yj:∀b,w.heap.size<=b->B' b:=fun b hb=>(sy b).2 ⟨hR.fut b hb,fun⟨l,b2,s,_,h1,h2⟩=>by have:=hR.lt ⟨l,b2,s,h1,h2⟩;omega⟩
 have rh:∀b,jB ιc (dE tags Hc) b->B' b:=fun b hb=>by
  exact X9
 have su:eX ⟨w,jB ιc (dE tags Hc),[],fun _=>none⟩ B' w ιc (dE tags Hc):=by
  exact Xs
 have Mx:m8 G ⟨w,jB ιc (dE tags Hc),[],fun _=>none⟩ B' w ιc (dE tags Hc):=
  ⟨fun w' hg=>hC.stab w' ⟨hg.os,hg.tape,hg.output,hg.size,fun k hk hx=>hg.block k hk fun ho=>hx (wG k ho)⟩,fun b hb=>hb.elim (rh b) (yj b)⟩
 have XR:∀(k l:Nat),σ[k]?=some l->jU σ H.length k=l:=fun k l hk=>by unfold jU;rw[hk]
 refine(h.2 B' w ιc args tags cC Mx su jA fun j a v ha hv=>(eG j a v ha hv).unren (m:=σ.length) (fun k' c' s' BZ hx=>?_) (fun b hb _=>qz b hb) a rfl (dt D7 ha)).mono ?_
 ·grind
 rintro e w' ⟨ι',lT,hE⟩
 have pM:ι'.length=Hc'.length:=by rw[lT.len,KC]
 have hι3:∀(k:Nat)(x:Option Nat×Nat×Nat),ι'[k]?=some x->(l7 σ ι' 0 ι++ι'.drop σ.length)[jU σ H.length k]?=some x:=fun k x hx=>by
  exact Xi
 have mD:∀(l:Nat)(x:Option Nat×Nat×Nat),(∀k:Nat,σ[k]?≠some l)->ι[l]?=some x->(l7 σ ι' 0 ι++ι'.drop σ.length)[l]?=some x:=fun l x hn hx=>by
  exact Wt
 generalize hI:l7 σ ι' 0 ι++ι'.drop σ.length=ι3 at hι3 mD;have aT:∀(l:Nat)(b:cE)(c:Option Nat)(s:Nat×Nat),(wV σ H Hc')[l]?=some (some b)->ι3[l]?=some (c,s) →
   ((∀k:Nat,σ[k]?≠some l)/\∃b0:cE,H[l]?=some (some b0)/\b=IX (some (yH σ H Hc')) b0/\ι[l]?=some (c,s)) ∨
   (∃(k:Nat)(b1:cE)(g:Option Nat),(dE tags Hc')[k]?=some (some b1)/\b=KY (jU σ H.length) g b1/\jU σ H.length k=l/\ι'[k]?=some (c,s)/\(g=none\/∃l':Nat,σ[k]?=some l'/\g=NP (H.getD l' none))):=by
  intro l b c s hb hi;unfold wV at hb
  rcases aW l H.length with vE|qV
  ·rw[cT (by rw[wg];exact vE),Er]at hb
   have hH:H[l]?=some H[l]:=aB vE;rw[hH]at hb;simp only[fM,cF,bQ]at hb
   cases hp:bx σ l 0 with
   |none=>
    rw[hp]at hb;have hn:=Fc hp;refine .inl ⟨hn,?_⟩;obtain⟨y,hy⟩:=hιl l vE
    have:=mD l y hn hy
    rw[hi]at this;cases this
    obtain⟨b0,h0,e0⟩:=OX (p:=yH σ H Hc') (l:=l) (H:=H) (b:=b) aX
    grind
   |some k=>
    rw[hp]at hb;simp only at hb;have hk:σ[k]?=some l:=by simpa using(Aw hp).2
    rw[<-Af _ _ tags]at hb;obtain⟨b1,e1,e2⟩:=Ae hb;have dI:(dE tags Hc')[k]?=some (some b1):=by
     grind
    have lI:k<ι'.length:=Bq
    grind
  ·rw[bP (by rw[wg];exact qV),wg,aI,dK]at hb
   obtain⟨k,hk⟩:∃k,k=σ.length+(l-H.length):=⟨_,rfl⟩
   rw[<-hk]at hb;have D8:σ[k]?=none:=xo
   have M1:jU σ H.length k=l:=by unfold jU;grind
   cases hx:Hc'[k]? with
   |none=>rw[hx]at hb;cases hb
   |some ob=>
    rw[hx]at hb;simp only[fM,bQ]at hb;have e0:Hc'.getD k none=ob:=aX
    rw[<-e0,<- Af _ _ tags]at hb;obtain⟨b1,e1,e2⟩:=Ae hb
    grind
 have r8:∀c,jB ι3 (wV σ H Hc') c->(∃(l:Nat)(b0:cE)(s:Nat×Nat),(∀k:Nat,σ[k]?≠some l)/\H[l]?=some (some b0)/\ι[l]?=some (some c,s))\/jB ι' (dE tags Hc') c:=by
  exact W5
 have gq:∀b,Rd B' ι' (dE tags Hc') b->Rd B ι3 (wV σ H Hc') b:=fun b hb=>⟨((sy b).1 hb.1).1,fun ho=>by
  exact Vp⟩
 have Dc:∀b,b<w.heap.size->¬jB ιc (dE tags Hc) b->w'.heap[b]?=w.heap[b]?:=fun b hb hn=>lT.gr.block b hb hn
 have dR:w.heap.size<=w'.heap.size:=lT.gr.size;have WK:∀(k l c:Nat)(s:Nat×Nat),σ[k]?=some l->yH σ H Hc' l=false->ι[l]?=some (some c,s)->ι'[k]?=some (some c,s):=fun k l c s hk hp hi=>by
  have BS:=(pk hσ hk).1;unfold yH at hp;rw[BS]at hp;simp only[fl,gK]at hp;obtain⟨WT,BU⟩:=hp;rw[<-Al (tags:=tags) (H:=Hc')]at BU;have sl:∀(L:AH)(m:Nat),vh (L.getD m none)=true->∃(cs:List AV)(t:TypeId)(g:Option Nat),L[m]?=some (some (.box cs t g)):=fun L m hm=>by
   exact Wx
  obtain⟨cs,t,g,hH⟩:=sl _ _ WT;obtain⟨cs1,t1,g1,YO⟩:=sl _ _ BU;have zM:=(hR.blk l _ _ s hH hi).2.1.1;have lI:k<ι'.length:=Bq
  have jP:ι'[k]?=some ι'[k]:=aB lI;have dI:=(lT.blk k _ ι'[k].1 ι'[k].2 YO jP).2;obtain⟨b0,h0,h1⟩:=JQ tags Hc' k _ YO;obtain⟨x,wE,xG⟩:=yx k l hk;rw[hi]at xG;cases xG
  have bf:=GM k _ wE
  rcases h1 with⟨c0,dZ,e0⟩|⟨dZ,_⟩
  ·exact X8
  grind
 have XL:bS (some (yH σ H Hc')) w ι (Rd B ι H) w' ι3 (Rd B ι3 (wV σ H Hc')):=by
  exact X0
 have qy:∀(k c:Nat)(s:Nat×Nat),ι'[k]?=some (some c,s)->ι3[jU σ H.length k]?=some (some c,s):=fun k c s hx=>hι3 k _ hx
 have HK:ι3.length=(wV σ H Hc').length:=by
  rw[<-hI];simp[wV,EA,wg,hR.len,pM]
 refine⟨ι3,⟨?_,fun b hb=>hR.fut b oM,HK,fun l b c s h1 h2=>?_,fun l l2 b b2 c s s2 h1 h2 h3 h4=>?_⟩,XL,?_⟩
 ·refine⟨lT.gr.os.trans hR.gr.os,lT.gr.tape.trans hR.gr.tape,lT.gr.output.trans hR.gr.output,aR hR.size dR,fun d hd hx=>?_⟩
  have:=hR.size
  rw[Dc d oM fun ho=>?_]
  ·exact hR.gr.block d hd hx
  ·rcases hR.ge (wG d ho)with h|h
   ·exact hx h
   ·omega
 ·rcases aT l b c s h1 h2 with⟨hn,b0,h0,rfl,hi⟩|⟨k,b1,g,dI,rfl,lI,hi,hg⟩
  ·refine⟨(hR.blk l b0 c s h0 hi).1,(hR.blk l b0 c s h0 hi).2.keep XL fun c' e=>?_⟩
   grind
  ·refine⟨fun c' e=>?_,?_⟩
   ·subst e
    rcases lT.ge ⟨k,b1,s,dI,hi⟩with ho|ho
    ·exact hR.ge (wG c' ho)
    ·exact .inr (aR hR.size ho)
   ·have yC:=(lT.blk k b1 c s dI hi).2
    cases b1 with
    |box cs t g1=>
     obtain⟨⟨zM,_⟩,c',arr,ec,hh,hz,dC⟩:=yC;refine⟨⟨zM,fun n e=>?_⟩,c',arr,ec,hh,by rw[du];exact hz,fun j a ha=>?_⟩
     ·rcases hg with hg|⟨l',hk,hg⟩
      ·rw[hg]at e;cases e
      ·rw[hg]at e;have zd:∃(cs2:List AV)(t2:TypeId),H[l']?=some (some (.box cs2 t2 (some n))):=by
        exact X4
       obtain⟨cs2,t2,zd⟩:=zd;obtain⟨y,hy⟩:=hιl l' (pk hσ hk).2;obtain⟨y1,y2⟩:=y;have h5:=(hR.blk l' _ y1 y2 zd hy).2.1.2 n rfl;subst h5;have xJ:yH σ H Hc' l'=false:=by
        unfold yH;rw[(pk hσ hk).1];simp only;rw[<-Al (tags:=tags) (H:=Hc'),aL,aL,zd,dI];rfl
       grind
     ·obtain⟨a0,Mj,rfl⟩:=KJ ha;obtain⟨v,hv,vR,hr⟩:=dC j a0 Mj;exact⟨v,hv,vR,hr.ren qy fun b hb _=>gq b hb⟩
    |rows s1 rs t=>
     obtain⟨e,uH,hh⟩:=yC;refine⟨e,uH,?_⟩
     rcases hh with hh|⟨c',arr,ec,hh,hz,dC⟩
     ·exact .inl hh
     ·refine .inr ⟨c',arr,ec,hh,hz,fun i j row a g1 g2=>?_⟩
      obtain⟨v,hv,vR,hr⟩:=dC i j row a g1 g2;exact⟨v,hv,vR,hr.keep (nR _) fun b hb _=>⟨gq b hb,rfl⟩⟩
    |iter s1 p1=>exact yC
 ·rcases aT l b _ s h1 h3 with⟨hn,b0,h0,_,hi⟩|⟨k,b1,g,dI,_,lI,hi,_⟩
  ·rcases aT l2 b2 _ s2 h2 h4 with⟨D5,b02,NA,_,nF⟩|⟨k2,b12,g2,im,_,yo,nF,_⟩
   ·exact hR.inj l l2 b0 b02 c s s2 h0 NA hi nF
   ·exfalso
    rcases lT.ge ⟨k2,b12,s2,im,nF⟩with ho|ho
    ·grind
    grind
  ·rcases aT l2 b2 _ s2 h2 h4 with⟨D5,b02,NA,_,nF⟩|⟨k2,b12,g2,im,_,yo,nF,_⟩
   ·exfalso
    rcases lT.ge ⟨k,b1,s,dI,hi⟩with ho|ho
    ·grind
    grind
   ·have:=lT.inj k k2 b1 b12 c s s2 dI im hi nF
    subst this;rw[<-lI,<- yo]
 ·cases tD:r.isPan with
  |true=>
   cases r with
   |p x=>
    cases x with
    |pan ch=>exact hE
    |_=>cases tD
   |_=>cases tD
  |false=>
   obtain⟨v,rfl,hv⟩:=hE.val tD;exact .ret (hv.ren qy fun b hb _=>gq b hb)
def kw(kp:Nat->Bool)(σ:List Nat)(H Hc':AH):Nat->Bool:=fun l=>match bx σ l 0 with
 |some k=>!(kp k||(vh (H.getD l none)&&vh (Hc'.getD k none)))
 |none=>false
def j8(kp:Nat->Bool)(σ:List Nat)(H Hc':AH):AH:=vg σ (jU σ H.length) (kw kp σ H Hc') Hc' 0 H++(Hc'.drop σ.length).map (yX (jU σ H.length) none)
theorem zts{kp:Nat->Bool}{w:World}{ι:Pl}{H:AH}(hR:eX w0 B w ι H)(hC:m8 G w0 B w ι H){f:FuncId}{as:List AV}{Hc:AH}{r:AV}{Hc':AH}(h:PW P G f as Hc r Hc' kp){σ:List Nat}
  (hσ:ZE σ H.length=true) (hlen:σ.length=Hc.length) (BT:σ.map (fun l=>ow (H.getD l none))=Hc.map (yX (jU σ H.length) none)) (jx:kG σ.length Hc=true) (D7:AV.low.lowL σ.length as=true)
  {args:List Value} (jA:as.length=args.length) (eG:∀(j:Nat)(a:AV)(v:Value),as[j]?=some a->args[j]?=some v->dG w ι (Rd B ι H) (a.ren (jU σ H.length)) v):
  Calls P f args.toArray w fun e w'=>∃ι',eX w0 B w' ι' (j8 kp σ H Hc')/\bS (some (kw kp σ H Hc')) w ι (Rd B ι H) w' ι' (Rd B ι' (j8 kp σ H Hc'))/\ak w' ι' (Rd B ι' (j8 kp σ H Hc')) (r.ren (jU σ H.length)) e:=by
 have hιl:∀l:Nat,l<H.length->∃x,ι[l]?=some x:=fun l hl=>⟨_,aB (by rw[hR.len];exact hl)⟩
 generalize hιc:σ.map (fun l=>ι.getD l (none,0,0))=ιc
 generalize htg:ιc.map (fun x=>x.1.getD 0)=tags
 have dO:ιc.length=σ.length:=by rw[<-hιc];simp
 have cC:tags.length=Hc.length:=aX
 have yy:∀(k:Nat)(x:Option Nat×Nat×Nat),ιc[k]?=some x->∃l,σ[k]?=some l/\ι[l]?=some x:=fun k x hx=>by
  exact Wb
 have yx:∀(k l:Nat),σ[k]?=some l->∃x,ιc[k]?=some x/\ι[l]?=some x:=fun k l hk=>by
  exact Js
 have GM:∀(k:Nat)(x:Option Nat×Nat×Nat),ιc[k]?=some x->tags[k]?=some (x.1.getD 0):=fun k x hx=>by
  grind
 have yB:∀(k:Nat)(b:cE)(l:Nat),(dE tags Hc)[k]?=some (some b)->σ[k]?=some l->∃(b2 b0:cE),H[l]?=some (some b2)/\Hc[k]?=some (some b0)/\ow (some b2)=some (KY (jU σ H.length) none b0)/\∃c,tags[k]?=some c/\some b=AQ c (some b0):=fun k b l hb hk=>by
  exact Xg
 have jt:∀c,jB ιc (dE tags Hc) c->∃(k l:Nat)(b2:cE)(s:Nat×Nat),σ[k]?=some l/\H[l]?=some (some b2)/\ι[l]?=some (some c,s):=by
  rintro c ⟨k,b,s,h1,h2⟩
  grind
 have wG:∀c,jB ιc (dE tags Hc) c->jB ι H c:=fun c hc=>by
  obtain⟨k,l,b2,s,_,h1,h2⟩:=jt c hc;exact⟨l,b2,s,h1,h2⟩
 obtain⟨B',sy⟩:∃B':Nat->Prop,∀b,B' b ↔ (B b/\¬ ∃(l:Nat)(b2:cE)(s:Nat×Nat),(∀k:Nat,σ[k]?≠some l)/\H[l]?=some (some b2)/\ι[l]?=some (some b,s)):=⟨_,fun _=>Iff.rfl⟩
 have qz:∀b,Rd B ι H b->Rd B' ιc (dE tags Hc) b:=fun b hb=>⟨(sy b).2 ⟨hb.1,fun⟨l,b2,s,_,h1,h2⟩=>hb.2 ⟨l,b2,s,h1,h2⟩⟩,fun ho=>hb.2 (wG b ho)⟩
 have yj:∀b,w.heap.size<=b->B' b:=fun b hb=>(sy b).2 ⟨hR.fut b hb,fun⟨l,b2,s,_,h1,h2⟩=>by have:=hR.lt ⟨l,b2,s,h1,h2⟩;omega⟩
 have rh:∀b,jB ιc (dE tags Hc) b->B' b:=fun b hb=>by
  exact X9
 have su:eX ⟨w,jB ιc (dE tags Hc),[],fun _=>none⟩ B' w ιc (dE tags Hc):=by
  exact Xs
 have Mx:m8 G ⟨w,jB ιc (dE tags Hc),[],fun _=>none⟩ B' w ιc (dE tags Hc):=
  ⟨fun w' hg=>hC.stab w' ⟨hg.os,hg.tape,hg.output,hg.size,fun k hk hx=>hg.block k hk fun ho=>hx (wG k ho)⟩,fun b hb=>hb.elim (rh b) (yj b)⟩
 have XR:∀(k l:Nat),σ[k]?=some l->jU σ H.length k=l:=fun k l hk=>by unfold jU;rw[hk]
 refine(h.2 B' w ιc args tags cC Mx su jA fun j a v ha hv=>(eG j a v ha hv).unren (m:=σ.length) (fun k' c' s' BZ hx=>?_) (fun b hb _=>qz b hb) a rfl (dt D7 ha)).mono ?_
 ·grind
 rintro e w' ⟨ι',lT,hE,Yr⟩
 have pM:ι'.length=Hc'.length:=by rw[lT.len,KC]
 have hι3:∀(k:Nat)(x:Option Nat×Nat×Nat),ι'[k]?=some x->(l7 σ ι' 0 ι++ι'.drop σ.length)[jU σ H.length k]?=some x:=fun k x hx=>by
  exact Xi
 have mD:∀(l:Nat)(x:Option Nat×Nat×Nat),(∀k:Nat,σ[k]?≠some l)->ι[l]?=some x->(l7 σ ι' 0 ι++ι'.drop σ.length)[l]?=some x:=fun l x hn hx=>by
  exact Wt
 generalize hI:l7 σ ι' 0 ι++ι'.drop σ.length=ι3 at hι3 mD;have aT:∀(l:Nat)(b:cE)(c:Option Nat)(s:Nat×Nat),(j8 kp σ H Hc')[l]?=some (some b)->ι3[l]?=some (c,s) →
   ((∀k:Nat,σ[k]?≠some l)/\∃b0:cE,H[l]?=some (some b0)/\b=IX (some (kw kp σ H Hc')) b0/\ι[l]?=some (c,s)) ∨
   (∃(k:Nat)(b1:cE)(g:Option Nat),(dE tags Hc')[k]?=some (some b1)/\b=KY (jU σ H.length) g b1/\jU σ H.length k=l/\ι'[k]?=some (c,s)/\(g=none\/∃l':Nat,σ[k]?=some l'/\g=NP (H.getD l' none))):=by
  intro l b c s hb hi;unfold j8 at hb
  rcases aW l H.length with vE|qV
  ·rw[cT (by rw[wg];exact vE),Er]at hb
   have hH:H[l]?=some H[l]:=aB vE;rw[hH]at hb;simp only[fM,cF,bQ]at hb
   cases hp:bx σ l 0 with
   |none=>
    rw[hp]at hb;have hn:=Fc hp;refine .inl ⟨hn,?_⟩;obtain⟨y,hy⟩:=hιl l vE
    have:=mD l y hn hy
    rw[hi]at this;cases this
    obtain⟨b0,h0,e0⟩:=OX (p:=kw kp σ H Hc') (l:=l) (H:=H) (b:=b) aX
    grind
   |some k=>
    rw[hp]at hb;simp only at hb;have hk:σ[k]?=some l:=by simpa using(Aw hp).2
    rw[<-Af _ _ tags]at hb;obtain⟨b1,e1,e2⟩:=Ae hb;have dI:(dE tags Hc')[k]?=some (some b1):=by
     grind
    have lI:k<ι'.length:=Bq
    grind
  ·rw[bP (by rw[wg];exact qV),wg,aI,dK]at hb
   obtain⟨k,hk⟩:∃k,k=σ.length+(l-H.length):=⟨_,rfl⟩
   rw[<-hk]at hb;have D8:σ[k]?=none:=xo
   have M1:jU σ H.length k=l:=by unfold jU;grind
   cases hx:Hc'[k]? with
   |none=>rw[hx]at hb;cases hb
   |some ob=>
    rw[hx]at hb;simp only[fM,bQ]at hb;have e0:Hc'.getD k none=ob:=aX
    rw[<-e0,<- Af _ _ tags]at hb;obtain⟨b1,e1,e2⟩:=Ae hb
    grind
 have r8:∀c,jB ι3 (j8 kp σ H Hc') c->(∃(l:Nat)(b0:cE)(s:Nat×Nat),(∀k:Nat,σ[k]?≠some l)/\H[l]?=some (some b0)/\ι[l]?=some (some c,s))\/jB ι' (dE tags Hc') c:=by
  exact W5
 have gq:∀b,Rd B' ι' (dE tags Hc') b->Rd B ι3 (j8 kp σ H Hc') b:=fun b hb=>⟨((sy b).1 hb.1).1,fun ho=>by
  exact Vp⟩
 have Dc:∀b,b<w.heap.size->¬jB ιc (dE tags Hc) b->w'.heap[b]?=w.heap[b]?:=fun b hb hn=>lT.gr.block b hb hn
 have dR:w.heap.size<=w'.heap.size:=lT.gr.size;have WK:∀(k l c:Nat)(s:Nat×Nat),σ[k]?=some l->kw kp σ H Hc' l=false->ι[l]?=some (some c,s)->ι'[k]?=some (some c,s):=fun k l c s hk hp hi=>by
  have BS:=(pk hσ hk).1;unfold kw at hp;rw[BS]at hp;simp only[fl,bM,gK]at hp
  rcases hp with hp|⟨WT,BU⟩
  ·grind
  rw[<-Al (tags:=tags) (H:=Hc')]at BU;have sl:∀(L:AH)(m:Nat),vh (L.getD m none)=true->∃(cs:List AV)(t:TypeId)(g:Option Nat),L[m]?=some (some (.box cs t g)):=fun L m hm=>by
   exact Wx
  obtain⟨cs,t,g,hH⟩:=sl _ _ WT;obtain⟨cs1,t1,g1,YO⟩:=sl _ _ BU;have zM:=(hR.blk l _ _ s hH hi).2.1.1;have lI:k<ι'.length:=Bq
  have jP:ι'[k]?=some ι'[k]:=aB lI;have dI:=(lT.blk k _ ι'[k].1 ι'[k].2 YO jP).2;obtain⟨b0,h0,h1⟩:=JQ tags Hc' k _ YO;obtain⟨x,wE,xG⟩:=yx k l hk;rw[hi]at xG;cases xG
  have bf:=GM k _ wE
  rcases h1 with⟨c0,dZ,e0⟩|⟨dZ,_⟩
  ·exact X8
  grind
 have XL:bS (some (kw kp σ H Hc')) w ι (Rd B ι H) w' ι3 (Rd B ι3 (j8 kp σ H Hc')):=by
  exact X0
 have qy:∀(k c:Nat)(s:Nat×Nat),ι'[k]?=some (some c,s)->ι3[jU σ H.length k]?=some (some c,s):=fun k c s hx=>hι3 k _ hx
 have HK:ι3.length=(j8 kp σ H Hc').length:=by
  rw[<-hI];simp[j8,EA,wg,hR.len,pM]
 refine⟨ι3,⟨?_,fun b hb=>hR.fut b oM,HK,fun l b c s h1 h2=>?_,fun l l2 b b2 c s s2 h1 h2 h3 h4=>?_⟩,XL,?_⟩
 ·refine⟨lT.gr.os.trans hR.gr.os,lT.gr.tape.trans hR.gr.tape,lT.gr.output.trans hR.gr.output,aR hR.size dR,fun d hd hx=>?_⟩
  have:=hR.size
  rw[Dc d oM fun ho=>?_]
  ·exact hR.gr.block d hd hx
  ·rcases hR.ge (wG d ho)with h|h
   ·exact hx h
   ·omega
 ·rcases aT l b c s h1 h2 with⟨hn,b0,h0,rfl,hi⟩|⟨k,b1,g,dI,rfl,lI,hi,hg⟩
  ·refine⟨(hR.blk l b0 c s h0 hi).1,(hR.blk l b0 c s h0 hi).2.keep XL fun c' e=>?_⟩
   grind
  ·refine⟨fun c' e=>?_,?_⟩
   ·subst e
    rcases lT.ge ⟨k,b1,s,dI,hi⟩with ho|ho
    ·exact hR.ge (wG c' ho)
    ·exact .inr (aR hR.size ho)
   ·have yC:=(lT.blk k b1 c s dI hi).2
    cases b1 with
    |box cs t g1=>
     obtain⟨⟨zM,_⟩,c',arr,ec,hh,hz,dC⟩:=yC;refine⟨⟨zM,fun n e=>?_⟩,c',arr,ec,hh,by rw[du];exact hz,fun j a ha=>?_⟩
     ·rcases hg with hg|⟨l',hk,hg⟩
      ·rw[hg]at e;cases e
      ·rw[hg]at e;have zd:∃(cs2:List AV)(t2:TypeId),H[l']?=some (some (.box cs2 t2 (some n))):=by
        exact X4
       obtain⟨cs2,t2,zd⟩:=zd;obtain⟨y,hy⟩:=hιl l' (pk hσ hk).2;obtain⟨y1,y2⟩:=y;have h5:=(hR.blk l' _ y1 y2 zd hy).2.1.2 n rfl;subst h5;have xJ:kw kp σ H Hc' l'=false:=by
        unfold kw;rw[(pk hσ hk).1];simp only;rw[<-Al (tags:=tags) (H:=Hc'),aL,aL,zd,dI];simp[vh]
       grind
     ·obtain⟨a0,Mj,rfl⟩:=KJ ha;obtain⟨v,hv,vR,hr⟩:=dC j a0 Mj;exact⟨v,hv,vR,hr.ren qy fun b hb _=>gq b hb⟩
    |rows s1 rs t=>
     obtain⟨e,uH,hh⟩:=yC;refine⟨e,uH,?_⟩
     rcases hh with hh|⟨c',arr,ec,hh,hz,dC⟩
     ·exact .inl hh
     ·refine .inr ⟨c',arr,ec,hh,hz,fun i j row a g1 g2=>?_⟩
      obtain⟨v,hv,vR,hr⟩:=dC i j row a g1 g2;exact⟨v,hv,vR,hr.keep (nR _) fun b hb _=>⟨gq b hb,rfl⟩⟩
    |iter s1 p1=>exact yC
 ·rcases aT l b _ s h1 h3 with⟨hn,b0,h0,_,hi⟩|⟨k,b1,g,dI,_,lI,hi,_⟩
  ·rcases aT l2 b2 _ s2 h2 h4 with⟨D5,b02,NA,_,nF⟩|⟨k2,b12,g2,im,_,yo,nF,_⟩
   ·exact hR.inj l l2 b0 b02 c s s2 h0 NA hi nF
   ·exfalso
    rcases lT.ge ⟨k2,b12,s2,im,nF⟩with ho|ho
    ·grind
    ·have:=hR.lt ⟨l,b0,s,h0,hi⟩
     change w.heap.size<=c at ho;omega
  ·rcases aT l2 b2 _ s2 h2 h4 with⟨D5,b02,NA,_,nF⟩|⟨k2,b12,g2,im,_,yo,nF,_⟩
   ·exfalso
    rcases lT.ge ⟨k,b1,s,dI,hi⟩with ho|ho
    ·grind
    ·have:=hR.lt ⟨l2,b02,s2,NA,nF⟩
     change w.heap.size<=c at ho;omega
   ·have:=lT.inj k k2 b1 b12 c s s2 dI im hi nF
    grind
 ·cases tD:r.isPan with
  |true=>
   cases r with
   |p x=>
    cases x with
    |pan ch=>exact hE
    |_=>cases tD
   |_=>cases tD
  |false=>
   obtain⟨v,rfl,hv⟩:=hE.val tD;exact .ret (hv.ren qy fun b hb _=>gq b hb)
end
def vY(sc:Option (Nat->Bool))(env:List AV):List AV:=match sc with
 |none=>env
 |some k=>env.map (AV.scrub k)
def qY(env:List AV)(d:Option Tmp)(a:AV):List AV:=match d with
 |some t=>env.set t a
 |none=>env
def TH:Value->Option Bool
 | .bool b=>some b
 |_=>none
def EK(all:List Oper)(env:List AV)(j:Nat):Option (Option Bool):=match(all[j]?).bind (·.dst)with
 |some t=>(match env.getD t .junk with
  | .p (.v x)=>some (TH x)
  |_=>none)
 |none=>none
def zk(want:Bool)(b:Option Bool):Bool:=match b with
 |none=>false
 |some b=>(match want with
  |true=>b
  |false=>!b)
theorem Fy{want:Bool}{b:Option Bool}(h:zk want b=true):b=some want:=by
 cases b with
 |none=>simp[zk]at h
 |some b=>cases want<;>cases b<;>simp[zk]at h<;>rfl
theorem Qp{want:Bool}{b:Option Bool}(h:zk want b=false):b≠some want:=by
 cases b with
 |none=>simp
 |some b=>cases want<;>cases b<;>simp[zk]at h<;>simp
def Ui:Op->Bool
 | .alloc _=>true
 | .box _ _=>true
 | .store _ _ _=>true
 | .buildSlice _ _ _=>true
 | .makeSlice _ _ _=>true
 | .range _ _=>true
 | .next _ _=>true
 | .call c=>(match c.callee with
  | .builtin .append=>true
  |_=>false)
 |_=>false
def FI(E:SO)(es:Nat)(H:AH)(y:AV)(K:List (List PV)->Nat->Prop):Prop:=
 match y with
 | .p (.ro s rows)=>s=es/\K rows rows.length
 | .osl k2 i2 m=>(match H[k2]? with
  |some (some (.rows s rs _))=>s=es/\E.pre i2 m rs/\K (E.sub rs i2 m) m
  |_=>False)
 | .p (.v (.slice none 0 _))=>K [] 0
 |_=>False
def H8(E:SO)(T:TT)(env:List AV)(H:AH)(x y:Operand)(t u:TypeId)(K:AV->AH->Option (Nat->Bool)->Prop):Prop:=
 match T t,T u,bR env x,bR env y with
 |some ti,some ui,.osl k 0 n,.p (.v (.string s))=>(match ti.desc,ui.desc,H[k]? with
  | .slice e,.string,some (some (.rows s' rs e'))=>(match T e with
   |some te=>(match te.zero,te.size,te.bytes with
    | .int .u8 (Int.ofNat 0),1,1=>s'=1/\e'=e/\E.pre 0 n rs/\E.room n (E.nat (E.size s)) 1/\K (.osl k 0 (E.addN n (E.nat (E.size s)))) ((H.map (qA (one k))).set k (some (.rows 1 (E.app rs n (E.brows s)) e))) (some (one k))
    |_,_,_=>False)
   |none=>False)
  |_,_,_=>False)
 |_,_,_,_=>False
def Qr(E:SO)(T:TT)(env:List AV)(H:AH)(c:Call)(K:AV->AH->Option (Nat->Bool)->Prop):Prop:=
 match c.args.toList,c.argTypes.toList with
 |[x,y],[t,t']=>if t=t' then(match T t with
  |some ti=>(match ti.desc with
   | .slice e=>(match T e with
    |some te=>if te.zero.cells.size=te.size/\0<te.size then FI E te.size H (bR env y) fun rows c=>(match bR env x with
     | .osl k 0 n=>(match H[k]? with
      |some (some (.rows s rs e'))=>s=te.size/\e'=e/\E.pre 0 n rs/\E.room n c te.bytes ∧
        K (.osl k 0 (E.addN n c)) ((H.map (qA (one k))).set k (some (.rows te.size (E.app rs n rows) e))) (some (one k))
      |_=>False)
     | .p (.v (.slice none 0 0))=>E.room 0 c te.bytes ∧
       K (.osl H.length 0 c) (((H++[some (cE.rows te.size [] e)]).map (qA (one H.length))).set H.length (some (cE.rows te.size rows e))) none
     |_=>False)else False
    |none=>False)
   |_=>False)
  |none=>False)else H8 E T env H x y t t' K
 |_,_=>False
def aw(E:SO)(T:TT)(o:Oper)(env:List AV)(H:AH)(K:AV->AH->Option (Nat->Bool)->Prop):Prop:=
 match o.op with
 | .alloc t=>(match T t with
  |some i=>if i.zero.cells.toList.all (·.oneCell')=true then K (.own H.length 0) (H++[some (.box (i.zero.cells.toList.map fun x=>.p (.v x)) t none)]) none else False
  |none=>False)
 | .box t x=>if vu (bR env x)=true then K (.own H.length 0) (H++[some (.box (rA (bR env x)) t none)]) none else False
 | .store t x y=>(match T t with
  |some i=>if vu (bR env y)=true/\(rA (bR env y)).length=i.size then(match bR env x with
   | .own k j=>(match H[k]? with
    |some (some (.box cs t' g))=>if j+i.size<=cs.length then K .junk (H.set k (some (.box (ot cs j (rA (bR env y))) t' g))) none else False
    |_=>False)
   | .orw k r j=>(match H[k]?,AV.toP.toPL (rA (bR env y))with
    |some (some (.rows s rs t')),some pcs=>∃row,rs[r]?=some row/\j+i.size<=row.length/\K .junk (H.set k (some (.rows s (E.put rs r (ot row j pcs)) t'))) none
    |_,_=>False)
   |_=>False)else False
  |none=>False)
 | .buildSlice t len parts=>(match T t with
  |some ti=>(match ti.desc with
   | .slice e=>(match T e with
    |some te=>if 0<te.size/\len*te.size<=16777216 then(match fu (fun i=>some (i*te.size,te.size)) ((List.range (len*te.size)).map fun m=>.p (.v (te.zero.cells[m%te.zero.cells.size]!))) (parts.toList.map fun(n,x)=>(n,bR env x))with
     |some cs=>(match cs.all al,zn te.size len cs with
      |true,some rs=>K (.osl H.length 0 len) (H++[some (.rows te.size rs e)]) none
      |_,_=>False)
     |none=>False)else False
    |none=>False)
   |_=>False)
  |none=>False)
 | .makeSlice t x y=>(match T t with
  |some ti=>(match ti.desc with
   | .slice e=>(match T e with
    |some te=>(match te.zero,te.size,bR env x,bR env y with
     | .int kz z,1,.p (.v (.int _ n)),.p (.v (.int _ m))=>n=m/\E.ple 0 n/\E.room 0 (E.nat n) te.bytes/\K (.osl H.length 0 (E.nat n)) (H++[some (.rows 1 (List.replicate (E.nat n) [.v (.int kz z)]) e)]) none
     |_,_,_,_=>False)
    |none=>False)
   |_=>False)
  |none=>False)
 | .range t x=>(match T t with
  |some ti=>(match ti.desc,bR env x with
   | .string,.p (.v (.string s))=>K (.own H.length 0) (H++[some (.iter s 0)]) none
   |_,_=>False)
  |none=>False)
 | .next x true=>(match bR env x with
  | .own k 0=>(match H[k]? with
   |some (some (.iter s pos))=>(match E.lti (E.ofN pos) (E.size s)with
    |true=>K (.p (.tup [.v (.bool true),.v (.int .i64 (E.ofN pos)),.v (.int .i32 (E.decR s pos))])) (H.set k (some (.iter s (E.addN pos (E.decW s pos))))) none
    |false=>K (.p (.tup [.v (.bool false)])) H none)
   |_=>False)
  |_=>False)
 | .call c=>Qr E T env H c K
 |_=>False
def PG(P:Program)(G:World->Prop)(E:SO)(T:TT)(o:Oper)(env:List AV)(H:AH)(K:AV->AH->Option (Nat->Bool)->Prop):Prop:=
 if Ui o.op=true then aw E T o env H K else aq P G E T o env H fun a=>K a H none
section
variable{P:Program}{G:World->Prop}{T:TT}
theorem z64{o:Oper}{env:List AV}{H:AH}{a:AV}(h:QS P G o env H a):WS P G o env H a H none:=by
 intro w0 B w ι ρ hR hG hρ hf
 have:=h w0 B w ι ρ hR hG.now hρ hf
 generalize (execOp ρ o).run P w=r at *
 cases r with
 |ok n w'=>
  cases n<;>simp only[au]at this ⊢
  ·exact⟨ι,hR.grow this.1,bS.gr this.1,this.2⟩
  ·exact⟨ι,hR.grow this.1,bS.gr this.1,this.2⟩
  ·exact this.mono fun e w' ⟨v,he,h1,h2⟩=>⟨v,he,ι,hR.grow h1,bS.gr h1,h2⟩
 |halt x w'=>simp only[au]at this
theorem z03{es:Nat}{H:AH}{y:AV}{K:List (List PV)->Nat->Prop}(h:FI bG es H y K):
  ∃rows,K rows rows.length/\∀(w0:cJ)(B:Nat->Prop)(w:World)(ι:Pl)(v:Value),eX w0 B w ι H->dG w ι (Rd B ι H) y v->uO w (Rd B ι H) es rows v:=by
 unfold FI at h
 split at h
 ·obtain⟨rfl,h⟩:=h;refine⟨_,h,fun w0 B w ι v hR hv=>?_⟩
  cases hv with
  |p _ _ hv=>exact xg6 hv
 ·rename_i k2 i2 m
  split at h
  ·rename_i s rs t hk;obtain⟨rfl,hle,h⟩:=h;change i2+m<=rs.length at hle;have qJ:((rs.drop i2).take m).length=m:=aX
   refine⟨(rs.drop i2).take m,by rw[qJ];exact h,fun w0 B w ι v hR hv=>?_⟩
   have aT:∀(i:Nat)(row:List PV),((rs.drop i2).take m)[i]?=some row->rs[i2+i]?=some row:=fun i row hr=>(G9 hr).1
   have hlen:((rs.drop i2).take m).length=m:=eC
   cases hv with
   |osl0=>
    have e:(rs.drop i2).take 0=[]:=dL
    exact⟨(fun i row hr=>by grind),.inl ⟨none,0,rfl,e⟩⟩
   |osl _ _ _ c cap sz hi hn hm hz=>
    obtain⟨es,hl,hh⟩:=(hR.blk k2 _ _ sz hk hi).2
    rcases hh with⟨ec,_⟩|⟨c',arr,ec,hb,vA,dC⟩
    ·cases ec
    cases ec
    refine⟨fun i row hr=>by grind,.inr ⟨c,i2*sz.1,cap,fun i j=>(arr[(i2+i)*sz.1+j]?).getD undef,by rw[hlen],fun i j row a hr ha=>?_⟩⟩
    obtain⟨u,hu,h1,yd⟩:=dC _ j row a (aT i row hr) ha;have e2:i2*sz.1+(i*s+j)=(i2+i)*sz.1+j:=aX
    have e3:(arr[(i2+i)*sz.1+j]?).getD undef=u:=by rw[hu];rfl
    refine⟨?_,?_,?_⟩
    ·rw[ku hb,e2];grind
    ·grind
    grind
  ·cases h
 ·rename_i cap;refine⟨_,h,fun w0 B w ι v hR hv=>?_⟩
  have:=jW hv
  subst this;exact⟨(fun i row hr=>by simp at hr),.inl ⟨none,cap,rfl,rfl⟩⟩
 ·cases h
theorem zw5(hT:iE P T){o:Oper}{c:Call}{x y:Operand}(ho:o.op=.call c)(hc:c.callee=.builtin .append)(ha:c.args.toList=[x,y]){t u:TypeId}(mY:c.argTypes.toList=[t,u]){env:List AV}{H:AH}{K:AV->AH->Option (Nat->Bool)->Prop}(h:H8 bG T env H x y t u K):∃a H' sc,K a H' sc/\WS P G o env H a H' sc:=by
 unfold H8 at h
 split at h
 ·rename_i ti ui k n s BQ hui ex ey
  split at h
  ·rename_i e s' rs e' hd WD hk
   split at h
   ·rename_i te he
    split at h
    ·rename_i hz xI dI;obtain⟨rfl,rfl,hn,⟨tR,a7⟩,h⟩:=h;have hn:n<=rs.length:=by have ia:0+n<=rs.length:=hn;omega
     have dR:(((s.size:Nat):Int)).toNat=s.size:=eC
     change n+(((s.size:Nat):Int)).toNat<=maxLen at tR;change(n+(((s.size:Nat):Int)).toNat)*1<=140737488355328 at a7;change K (.osl k 0 (n+(((s.size:Nat):Int)).toNat)) _ _ at h;exact⟨_,_,_,h,zw3 hT ho hc ha mY BQ hd hui WD he hz xI dI ex hk hn ey tR oM⟩
    ·cases h
   ·cases h
  ·cases h
 ·cases h
theorem Fp(hT:iE P T){o:Oper}{env:List AV}{H:AH}{K:AV->AH->Option (Nat->Bool)->Prop}(h:PG P G bG T o env H K):∃a H' sc,K a H' sc/\WS P G o env H a H' sc:=by
 unfold PG at h
 split at h
 ·rename_i hW;unfold aw at h
  split at h
  ·rename_i t ho
   split at h
   ·rename_i i ht
    split at h
    ·rename_i h1;exact⟨_,_,_,h,zux hT ho ht h1⟩
    ·cases h
   ·cases h
  ·rename_i t x ho
   split at h
   ·rename_i h1;exact⟨_,_,_,h,z1c ho h1⟩
   ·cases h
  ·rename_i t x y ho
   split at h
   ·rename_i i ht
    split at h
    ·rename_i h1
     split at h
     ·rename_i k j ex
      split at h
      ·rename_i cs t' g hk
       split at h
       ·rename_i hle;exact⟨_,_,_,h,z01 hT ho ht ex hk h1.1 h1.2 hle⟩
       ·cases h
      ·cases h
     ·rename_i k r j ex
      split at h
      ·rename_i s rs t' pcs hk hp;obtain⟨row,cS,hle,h⟩:=h;exact⟨_,_,_,h,z00 hT ho ht ex hk cS h1.1 hp h1.2 hle⟩
      ·cases h
     ·cases h
    ·cases h
   ·cases h
  ·rename_i t len parts ho
   split at h
   ·rename_i ti ht
    split at h
    ·rename_i e hd
     split at h
     ·rename_i te he
      split at h
      ·rename_i hc
       split at h
       ·rename_i cs dC
        split at h
        ·rename_i rs h1 h2;exact⟨_,_,_,h,zm5 hT ho ht hd he hc.1 hc.2 dC h1 h2⟩
        ·cases h
       ·cases h
      ·cases h
     ·cases h
    ·cases h
   ·cases h
  ·rename_i t x y ho
   split at h
   ·rename_i ti ht
    split at h
    ·rename_i e hd
     split at h
     ·rename_i te he
      split at h
      ·rename_i kz z kx n ky m hz hs ex ey;obtain⟨MO,h0,⟨tR,a7⟩,h⟩:=h;subst MO;rw[cF]at tR a7;exact⟨_,_,_,h,znv hT ho ht hd he hz hs ex ey h0 tR (by have hby':n.toNat*te.bytes<=140737488355328:=a7;grind)⟩
      ·cases h
     ·cases h
    ·cases h
   ·cases h
  ·rename_i t x ho
   split at h
   ·rename_i ti ht
    split at h
    ·rename_i s hd ex;exact⟨_,_,_,h,zul hT ho ht hd ex⟩
    ·cases h
   ·cases h
  ·rename_i x ho
   split at h
   ·rename_i k ex
    split at h
    ·rename_i s pos hk
     split at h
     ·rename_i hp;exact⟨_,_,_,h,z08 ho ex hk (by have h1:(pos:Int)<((s.size:Nat):Int):=oT hp;omega)⟩
     ·rename_i hp;exact⟨_,_,_,h,z6l ho ex hk (by have h1:¬(pos:Int)<((s.size:Nat):Int):=gB hp;omega)⟩
    ·cases h
   ·cases h
  ·rename_i c ho;have hc:c.callee=.builtin .append:=by
    unfold Ui at hW
    grind
   unfold Qr at h
   split at h
   ·rename_i x y t t' ha mY
    split at h
    ·rename_i D1;subst D1
     split at h
     ·rename_i ti ht
      split at h
      ·rename_i e hd
       split at h
       ·rename_i te he
        split at h
        ·rename_i hz;obtain⟨rows,h,uF⟩:=z03 h
         split at h
         ·rename_i k n ex
          split at h
          ·rename_i s rs e' hk;obtain⟨rfl,rfl,hn,⟨tR,a7⟩,h⟩:=h;have hn:n<=rs.length:=by have ia:0+n<=rs.length:=hn;omega
           exact⟨_,_,_,h,zst hT ho hc ha mY ht hd he hz.1 hz.2 ex hk hn uF tR a7⟩
          ·cases h
         ·rename_i ex;obtain⟨⟨tR,a7⟩,h⟩:=h;rw[cF]at tR a7;exact⟨_,_,_,h,zw4 hT ho hc ha mY ht hd he hz.1 hz.2 ex uF tR a7⟩
         ·cases h
        ·cases h
       ·cases h
      ·cases h
     ·cases h
    ·exact zw5 hT ho hc ha mY h
   ·cases h
  ·cases h
 ·obtain⟨a,hK,hq⟩:=ZU hT h;exact⟨_,_,_,hK,z64 hq⟩
theorem nQ.eval{w:World}{ι:Pl}{R:Nat->Prop}{env:List AV}{a:Act}(h:nQ w ι R env a.tmps)(x:Operand):dG w ι R (bR env x) (a.eval x):=by
 cases x with
 |tmp t=>
  simp only[bR,Act.eval,aL]
  rcases aW t env.length with hl|hl
  ·have h1:=aB hl;have uH:t<a.tmps.size:=by rw[<-h.len];exact hl
   have h2:a.tmps[t]?=some a.tmps[t]:=eS uH
   have:=h.at_ t _ _ h1 h2
   simp_all
  ·rw[List.getElem?_eq_none hl];exact .junk _
 |const c=>exact .p _ _ (ZK _ _ _)
 |global g=>exact .p _ _ (.v _)
 |func f=>exact .p _ _ (.v _)
theorem nQ.put{sc:Option (Nat->Bool)}{w w':World}{ι ι':Pl}{R R':Nat->Prop}{env:List AV}{a:Act}{d:Option Tmp}{x:AV}{v:Value}(h:nQ w ι R env a.tmps)(hk:bS sc w ι R w' ι' R')(hx:dG w' ι' R' x v):nQ w' ι' R' (qY (vY sc env) d x) (a.put d v).tmps:=by
 have hs:nQ w' ι' R' (vY sc env) a.tmps:=by
  refine⟨by unfold vY;split<;>simp[h.len],fun t y u hy hu=>?_⟩
  cases sc with
  |none=>exact(h.at_ t y u hy hu).keep0 hk
  |some k=>
   simp only[vY,aI]at hy
   cases he:env[t]? with
   |none=>rw[he]at hy;cases hy
   |some z=>rw[he]at hy;cases hy;exact(h.at_ t z u he hu).keep hk
 cases d with
 |none=>exact hs
 |some t=>
  refine⟨by simp[qY,Act.put,hs.len],fun t' y u hy hu=>?_⟩
  simp only[qY,Act.put]at hy hu
  by_cases e:t=t'
  ·grind
  ·rw[oC e]at hy;rw[mZ e]at hu;exact hs.at_ t' y u hy hu
structure St(w0:cJ)(B:Nat->Prop)(nt:Nat)(env:List AV)(H:AH)(a:Act)(w:World):Prop where
 defers:a.defers=w0.ds
 size:a.tmps.size=nt
 pin:∀t v,w0.pin t=some v->a.tmps[t]?=some v
 rep:∃ι,eX w0 B w ι H/\nQ w ι (Rd B ι H) env a.tmps
def sJ(w0:cJ)(B:Nat->Prop)(nt:Nat)(Q:Exit->List AV->AH->Prop)(e:Exit)(a:Act)(w:World):Prop:=∃env H,Q e env H/\St w0 B nt env H a w
def PV.panOf:PV->Option (List PanicEntry)
 | .pan ch=>some ch
 |_=>none
def AV.panOf:AV->Option (List PanicEntry)
 | .p (.pan ch)=>some ch
 |_=>none
def N5(x:AV)(args:List AV):Option (FuncId×List AV):=
 match x with
 | .p (.v (.func (.func f) us vs))=>some (f,(us.toList.map fun v=>.p (.v v))++(args++(vs.toList.map fun v=>.p (.v v))))
 | .clo f fs cs=>some (f,fs++(args++cs))
 |_=>none
def td(env:List AV)(o:Oper):Option (FuncId×List AV):=
 match o.op with
 | .call c=>(match c.callee with
  | .value x=>N5 (bR env x) (c.args.toList.map (bR env))
  |_=>none)
 |_=>none
def AV.still:AV->Bool
 | .p _=>true
 | .osl _ _ _=>true
 | .agg cs=>stillL cs
 | .tup cs=>stillL cs
 |_=>false
where stillL:List AV->Bool
 |[]=>true
 |a::as=>a.still&&stillL as
inductive CK where
 |no
 |pure (f:FuncId) (as:List PV)
 |froz (f:FuncId) (as:List AV)
 |mem (f:FuncId)
 |pan (v:Value)
def KP(env:List AV)(o:Oper):CK:=
 match o.op with
 | .panic x=>(match bR env x with
  | .p (.v (.iface t v))=>.pan (.iface t v)
  |_=>.no)
 |_=>(match td env o with
  |some (f,as)=>(match AV.toP.toPL as with
   |some ps=>.pure f ps
   |none=>(match AV.still.stillL as with
    |true=>.froz f as
    |false=>.mem f))
  |none=>.no)
def pu(σ:List Nat)(H Hc:AH)(as:List AV):Bool:=ZE σ H.length&&Nat.beq σ.length Hc.length&&kG σ.length Hc&&AV.low.lowL σ.length as
inductive oB(P:Program)(G:World->Prop)(f:FuncId)(o:Oper)(env:List AV)(H:AH)(K:List AV->AH->Prop)(Q:Exit->List AV->AH->Prop):Prop
 |mk (env2:List AV) (H2:AH) (hw:Wk env H env2 H2) (σ:List Nat) (as:List AV) (Hc:AH) (r:AV) (Hc':AH) (h:jL P G f as Hc r Hc') (hc:td env2 o=some (f,AV.ren.renL (jU σ H2.length) as)) (hb:pu σ H2 Hc as=true)
  (hp:σ.map (fun l=>ow (H2.getD l none))=Hc.map (yX (jU σ H2.length) none))
  (k:match r.panOf with
   |some ch=>Q (.panic ch) (vY (some (yH σ H2 Hc')) env2) (wV σ H2 Hc')
   |none=>K (qY (vY (some (yH σ H2 Hc')) env2) o.dst (r.ren (jU σ H2.length))) (wV σ H2 Hc'))
 |mkK (kp:Nat->Bool) (env2:List AV) (H2:AH) (hw:Wk env H env2 H2) (σ:List Nat) (as:List AV) (Hc:AH) (r:AV) (Hc':AH) (h:PW P G f as Hc r Hc' kp) (hc:td env2 o=some (f,AV.ren.renL (jU σ H2.length) as)) (hb:pu σ H2 Hc as=true)
  (hp:σ.map (fun l=>ow (H2.getD l none))=Hc.map (yX (jU σ H2.length) none))
  (k:match r.panOf with
   |some ch=>Q (.panic ch) (vY (some (kw kp σ H2 Hc')) env2) (j8 kp σ H2 Hc')
   |none=>K (qY (vY (some (kw kp σ H2 Hc')) env2) o.dst (r.ren (jU σ H2.length))) (j8 kp σ H2 Hc'))
theorem oB.x{P:Program}{G:World->Prop}{f:FuncId}{o:Oper}{env:List AV}{H:AH}{K:List AV->AH->Prop}{Q:Exit->List AV->AH->Prop}{as:List AV}{Hc:AH}{r:AV}{Hc':AH}(h:jL P G f as Hc r Hc')
  (k:match r.panOf with
   |some ch=>Q (.panic ch) (vY (some (yH [0] H Hc')) env) (wV [0] H Hc')
   |none=>K (qY (vY (some (yH [0] H Hc')) env) o.dst (r.ren (jU [0] H.length))) (wV [0] H Hc'))
  (hc:td env o=some (f,AV.ren.renL (jU [0] H.length) as):=by exact rfl) (hb:pu [0] H Hc as=true:=by exact rfl)
  (hp:[0].map (fun l=>ow (H.getD l none))=Hc.map (yX (jU [0] H.length) none):=by exact rfl):oB P G f o env H K Q:=.mk env H (Wk.refl _ _) [0] as Hc r Hc' h hc hb hp k
theorem oB.y{P:Program}{G:World->Prop}{f:FuncId}{o:Oper}{env:List AV}{H:AH}{K:List AV->AH->Prop}{Q:Exit->List AV->AH->Prop}{V:FuncId->List AV->AH->AV->AH->Prop}{as:List AV}{Hc:AH}{r:AV}{Hc':AH}(hM:∀f as H r K,V f as H r K->jL P G f as H r K)(h:V f as Hc r Hc')
  (k:match r.panOf with
   |some ch=>Q (.panic ch) (vY (some (yH [0] H Hc')) env) (wV [0] H Hc')
   |none=>K (qY (vY (some (yH [0] H Hc')) env) o.dst (r.ren (jU [0] H.length))) (wV [0] H Hc'))
  (hc:td env o=some (f,AV.ren.renL (jU [0] H.length) as):=by exact rfl) (hb:pu [0] H Hc as=true:=by exact rfl)
  (hp:[0].map (fun l=>ow (H.getD l none))=Hc.map (yX (jU [0] H.length) none):=by exact rfl):oB P G f o env H K Q:=.mk env H (Wk.refl _ _) [0] as Hc r Hc' (hM _ _ _ _ _ h) hc hb hp k
def lb(P:Program)(G:World->Prop)(E:SO)(T:TT)(o:Oper)(env:List AV)(H:AH)(K:List AV->AH->Prop)(Q:Exit->List AV->AH->Prop):Prop:=
 match KP env o with
 | .no=>PG P G E T o env H fun a H' sc=>K (qY (vY sc env) o.dst a) H'
 | .pure f ps=>∃r,fS P G f ps r/\(match r.panOf with
  |some ch=>Q (.panic ch) env H
  |none=>K (qY env o.dst (.p r)) H)
 | .froz f as=>(cg.frzL E H as fun ps=>∃r,fS P G f ps r/\(match r.panOf with
  |some ch=>Q (.panic ch) env H
  |none=>(match r.flat with
   |true=>K (qY env o.dst (.p r)) H
   |false=>False)))\/oB P G f o env H K Q
 | .mem f=>oB P G f o env H K Q
 | .pan v=>Q (.panic [{ v:=v,recovered:=false }]) env H
def vW(P:Program)(G:World->Prop)(E:SO)(T:TT)(all:List Oper)(Q:Exit->List AV->AH->Prop):List Oper->List AV->AH->Prop
 |[],env,H=>Q .normal env H
 |o::os,env,H=>match o.guard with
  |none=>lb P G E T o env H (fun env' H'=>vW P G E T all Q os env' H') Q
  |some (j,want)=>(match EK all env j with
   |some b=>(match zk want b with
    |true=>lb P G E T o env H (fun env' H'=>vW P G E T all Q os env' H') Q
    |false=>vW P G E T all Q os (qY env o.dst (.p (.v undef))) H)
   |none=>False)
theorem F6{all:List Oper}{env:List AV}{j:Nat}{b:Option Bool}(h:EK all env j=some b){w:World}{ι:Pl}{R:Nat->Prop}{a:Act}(hE:nQ w ι R env a.tmps):u5 all.toArray a.eval j=b:=by
 unfold EK at h;unfold u5;simp only[xL]
 split at h
 ·rename_i t ht;rw[ht];simp only
  split at h
  ·rename_i x e
   cases h
   have:=hE.eval (.tmp t)
   simp only[bR,e]at this;rw[jW this]
   cases x<;>rfl
  ·cases h
 ·cases h
theorem j9{w0:cJ}{a:Act}(h:∀t v,w0.pin t=some v->a.tmps[t]?=some v){d:Option Tmp}(hd:∀t,d=some t->w0.pin t=none)(x:Value):∀t v,w0.pin t=some v->(a.put d x).tmps[t]?=some v:=by
 intro t v ht
 cases d with
 |none=>exact h t v ht
 |some d=>
  have dN:d≠t:=fun e=>by
   grind
  have:=h t v ht
  simp only[Act.put]
  grind
theorem lh(a:Act)(d:Option Tmp)(v:Value):(a.put d v).tmps.size=a.tmps.size:=by cases d<;>simp[Act.put]
theorem jd(a:Act)(d:Option Tmp)(v:Value):(a.put d v).defers=a.defers:=by cases d<;>rfl
variable{w0:cJ}{B:Nat->Prop}{nt:Nat}
theorem Fh{o:Oper}{a:Act}{w:World}{next:Act->World->Prop}{Q:Exit->Act->World->Prop}{f:FuncId}{args:Array Value}(he:(execOp a.eval o).run P w=.ok (.enter f args) w){R:Ending->World->Prop}(h:Calls P f args w R)
  (hv:∀v w',R (.returned v) w'->next (a.put o.dst v) w') (hp:∀ch w',R (.panicked ch) w'->Q (.panic ch) a w') (ho:∀w',¬R .outgrown w'):o.wp P a w next Q:=by
 unfold Oper.wp;rw[he,Oper.upon_enter];refine h.mono fun e w' hR=>?_
 grind
theorem Nh{w:World}{ι:Pl}{R:Nat->Prop}{env:List AV}{a:Act}(hE:nQ w ι R env a.tmps)(args:Array Operand):∀(j:Nat)(x:AV)(v:Value),(args.toList.map (bR env))[j]?=some x->(args.toList.map a.eval)[j]?=some v->dG w ι R x v:=fun j x v hx hv=>by
 rw[aI]at hx hv
 cases hj:args.toList[j]? with
 |none=>rw[hj]at hx;cases hx
 |some y=>
  rw[hj]at hx hv
  cases hx;cases hv
  exact hE.eval y
theorem An{w:World}{ι:Pl}{R:Nat->Prop}{as bs:List AV}{us vs:List Value}(hl:as.length=us.length)(ha:∀(j:Nat)(x:AV)(v:Value),as[j]?=some x->us[j]?=some v->dG w ι R x v)(hb:∀(j:Nat)(x:AV)(v:Value),bs[j]?=some x->vs[j]?=some v->dG w ι R x v):
  ∀(j:Nat)(x:AV)(v:Value),(as++bs)[j]?=some x->(us++vs)[j]?=some v->dG w ι R x v:=fun j x v hx hv=>by
 grind
theorem Tz{w:World}{ι:Pl}{R:Nat->Prop}(us:List Value):∀(j:Nat)(x:AV)(v:Value),(us.map fun v=>AV.p (.v v))[j]?=some x->us[j]?=some v->dG w ι R x v:=fun j x v hx hv=>by
 rw[aI,hv]at hx
 cases hx
 exact .p _ _ (.v _)
theorem Ag{o:Oper}{env:List AV}{f:FuncId}{as:List AV}(h:td env o=some (f,as)){w:World}{ι:Pl}{R:Nat->Prop}{a:Act}(hE:nQ w ι R env a.tmps):
  ∃vs:List Value,as.length=vs.length/\(∀(j:Nat)(x:AV)(v:Value),as[j]?=some x->vs[j]?=some v->dG w ι R x v)/\(execOp a.eval o).run P w=(callFunc f vs.toArray).run P w:=by
 unfold td at h
 split at h
 ·rename_i c ho
  split at h
  ·rename_i x hc;have hx:=hE.eval x;unfold N5 at h
   split at h
   ·rename_i f' us vs e
    cases h
    rw[e]at hx;have uv:=jW hx;refine⟨us.toList++(c.args.toList.map a.eval++vs.toList),by simp,An dL (Tz _) (An dL (Nh hE c.args) (Tz _)),?_⟩
    have e2:(us.toList++(c.args.toList.map a.eval++vs.toList)).toArray=us++c.args.map a.eval++vs:=by
     grind
    rw[e2];simp[execOp,ho,resolve,hc,uv,Deferred.ofValue,invoke]
   ·rename_i f' fs cs e
    cases h
    rw[e]at hx;generalize uv:a.eval x=xv at hx
    cases hx with
    |clo _ _ _ us vs hl hr pM gv=>
     refine⟨us++(c.args.toList.map a.eval++vs),by simp[hl,pM],An hl hr (An dL (Nh hE c.args) gv),?_⟩
     have e2:(us++(c.args.toList.map a.eval++vs)).toArray=us.toArray++c.args.map a.eval++vs.toArray:=by
      grind
     rw[e2];simp[execOp,ho,resolve,hc,uv,Deferred.ofValue,invoke]
   ·cases h
  ·cases h
 ·cases h
theorem Eb{w:World}{R:Nat->Prop}{r:PV}{e:Ending}(h:pp w R r e):(∃ch,r.panOf=some ch/\e=.panicked ch)\/(r.panOf=none/\∃v,e=.returned v/\cI w R r v):=by
 cases r with
 |pan ch=>exact .inl ⟨ch,rfl,h⟩
 |_=>exact .inr ⟨rfl,h⟩
theorem AG{w:World}{ι:Pl}{R:Nat->Prop}{r:AV}{e:Ending}(h:ak w ι R r e):(∃ch,r.panOf=some ch/\e=.panicked ch)\/(r.panOf=none/\∃v,e=.returned v/\dG w ι R r v):=by
 cases r with
 |p x=>
  cases x with
  |pan ch=>exact .inl ⟨ch,rfl,h⟩
  |_=>exact .inr ⟨rfl,h⟩
 |_=>exact .inr ⟨rfl,h⟩
theorem DO(r:AV)(f:Nat->Nat):(r.ren f).panOf=r.panOf:=by
 cases r with
 |p x=>rfl
 |_=>rfl
theorem Ni{f:FuncId}{ps:List PV}{r:PV}(hr:fS P G f ps r){o:Oper}{a:Act}{w:World}(hG:G w){vs:List Value}(he:(execOp a.eval o).run P w=(callFunc f vs.toArray).run P w){B':Nat->Prop}(hl:ps.length=vs.length)
  (hp:∀(j:Nat)(p:PV)(v:Value),ps[j]?=some p->vs[j]?=some v->cI w B' p v) {next:Act->World->Prop} {Q:Exit->Act->World->Prop}
  (hv:r.panOf=none->∀v w',Gr w w'->cI w' (fun b=>B' b\/w.heap.size<=b) r v->next (a.put o.dst v) w') (hq:∀ch w',r.panOf=some ch->Gr w w'->Q (.panic ch) a w'):o.wp P a w next Q:=by
 have hc:=hr.2 w B' vs hG hl hp;refine Fh (he.trans (hr.1 _ _)) hc (fun v w' ⟨hg,h⟩=>?_) (fun ch w' ⟨hg,h⟩=>?_) fun w' ⟨hg,h⟩=>?_
 ·rcases Eb h with⟨ch,_,e⟩|⟨h1,v',e,h2⟩
  ·cases e
  grind
 ·rcases Eb h with⟨ch',h1,e⟩|⟨h1,v',e,h2⟩
  ·grind
  ·cases e
 ·rcases Eb h with⟨ch',h1,e⟩|⟨h1,v',e,h2⟩<;>cases e
theorem Fa(iM:∀w,uD w0 w->G w)(gS:∀b,w0.own b->B b){f:FuncId}{o:Oper}(eR:∀t,o.dst=some t->w0.pin t=none){env:List AV}{H:AH}{K:List AV->AH->Prop}{Q:Exit->List AV->AH->Prop}{a:Act}{w:World}{next:Act->World->Prop}
  (h:oB P G f o env H K Q) (hS:St w0 B nt env H a w) (hK:∀env' H' a' w',K env' H'->St w0 B nt env' H' a' w'->next a' w'):o.wp P a w next (sJ w0 B nt Q):=by
 obtain⟨hd,hn,iB,ι,hR,hE⟩:=hS;have hC:∀(H:AH)(ι:Pl),eX w0 B w ι H->m8 G w0 B w ι H:=fun H ι hR=>⟨fun w' hg=>iM w' ⟨hg.os.trans hR.gr.os,hg.tape.trans hR.gr.tape,hg.output.trans hR.gr.output,aR hR.size hg.size,fun k hk hx=>by
  exact Vz⟩,gS⟩
 cases h with
 |mk env2 H2 hw σ as Hc r Hc' hr hc hb hp k=>
  obtain⟨ι2,cW,dj⟩:=hw w0 B w ι a.tmps gS hR hE;obtain⟨vs,hl,gR,dS⟩:=Ag (P:=P) (a:=a) hc dj;unfold pu at hb;simp only[gK]at hb;obtain⟨⟨⟨dI,gE⟩,fe⟩,ux⟩:=hb;rw[du]at hl;have hm:=Fq cW (hC H2 ι2 cW) hr dI (iP gE) hp fe ux hl fun j x v hx hv=>gR j _ v (by rw[EE,hx];rfl) hv
  have gy:∀w' ι' ,bS (some (yH σ H2 Hc')) w ι2 (Rd B ι2 H2) w' ι' (Rd B ι' (wV σ H2 Hc'))->nQ w' ι' (Rd B ι' (wV σ H2 Hc')) (vY (some (yH σ H2 Hc')) env2) a.tmps:=fun w' ι' hk=>by
   have:=dj.put (a:=a) (d:=none) hk (.junk undef)
   exact this
  refine Fh (dS.trans (hr.1 _ _)) hm (fun v w' ⟨ι',lT,hk,he⟩=>?_) (fun ch w' ⟨ι',lT,hk,he⟩=>?_) fun w' ⟨ι',lT,hk,he⟩=>?_
  ·rcases AG he with⟨ch,_,e⟩|⟨h1,v',e,h2⟩
   ·cases e
   ·cases e
    rw[DO]at h1;rw[h1]at k;exact hK _ _ _ w' k ⟨by rw[jd];exact hd,by rw[lh];exact hn,j9 iB eR _,ι',lT,dj.put hk h2⟩
  ·rcases AG he with⟨ch',h1,e⟩|⟨h1,v',e,h2⟩
   ·cases e
    rw[DO]at h1;rw[h1]at k;exact⟨_,_,k,hd,hn,iB,ι',lT,gy w' ι' hk⟩
   ·cases e
  ·rcases AG he with⟨ch',h1,e⟩|⟨h1,v',e,h2⟩<;>cases e
 |mkK kp env2 H2 hw σ as Hc r Hc' hr hc hb hp k=>
  obtain⟨ι2,cW,dj⟩:=hw w0 B w ι a.tmps gS hR hE;obtain⟨vs,hl,gR,dS⟩:=Ag (P:=P) (a:=a) hc dj;unfold pu at hb;simp only[gK]at hb;obtain⟨⟨⟨dI,gE⟩,fe⟩,ux⟩:=hb;rw[du]at hl;have hm:=zts cW (hC H2 ι2 cW) hr dI (iP gE) hp fe ux hl fun j x v hx hv=>gR j _ v (by rw[EE,hx];rfl) hv
  have gy:∀w' ι' ,bS (some (kw kp σ H2 Hc')) w ι2 (Rd B ι2 H2) w' ι' (Rd B ι' (j8 kp σ H2 Hc'))->nQ w' ι' (Rd B ι' (j8 kp σ H2 Hc')) (vY (some (kw kp σ H2 Hc')) env2) a.tmps:=fun w' ι' hk=>by
   have:=dj.put (a:=a) (d:=none) hk (.junk undef)
   exact this
  refine Fh (dS.trans (hr.1 _ _)) hm (fun v w' ⟨ι',lT,hk,he⟩=>?_) (fun ch w' ⟨ι',lT,hk,he⟩=>?_) fun w' ⟨ι',lT,hk,he⟩=>?_
  ·rcases AG he with⟨ch,_,e⟩|⟨h1,v',e,h2⟩
   ·cases e
   ·cases e
    rw[DO]at h1;rw[h1]at k;exact hK _ _ _ w' k ⟨by rw[jd];exact hd,by rw[lh];exact hn,j9 iB eR _,ι',lT,dj.put hk h2⟩
  ·rcases AG he with⟨ch',h1,e⟩|⟨h1,v',e,h2⟩
   ·cases e
    rw[DO]at h1;rw[h1]at k;exact⟨_,_,k,hd,hn,iB,ι',lT,gy w' ι' hk⟩
   ·cases e
  ·rcases AG he with⟨ch',h1,e⟩|⟨h1,v',e,h2⟩<;>cases e
theorem Ay(hT:iE P T)(iM:∀w,uD w0 w->G w)(gS:∀b,w0.own b->B b){o:Oper}(eR:∀t,o.dst=some t->w0.pin t=none){env:List AV}{H:AH}{K:List AV->AH->Prop}{Q:Exit->List AV->AH->Prop}{a:Act}{w:World}{next:Act->World->Prop}
  (h:lb P G bG T o env H K Q) (hS:St w0 B nt env H a w) (hK:∀env' H' a' w',K env' H'->St w0 B nt env' H' a' w'->next a' w'):o.wp P a w next (sJ w0 B nt Q):=by
 obtain⟨hd,hn,iB,ι,hR,hE⟩:=hS;have hC:∀(H:AH)(ι:Pl),eX w0 B w ι H->m8 G w0 B w ι H:=fun H ι hR=>⟨fun w' hg=>iM w' ⟨hg.os.trans hR.gr.os,hg.tape.trans hR.gr.tape,hg.output.trans hR.gr.output,aR hR.size hg.size,fun k hk hx=>by
  exact Vz⟩,gS⟩
 unfold lb at h
 split at h
 ·obtain⟨x,H',sc,YM,hW⟩:=Fp hT h;have hg:=hW w0 B w ι a.eval hR (hC H ι hR) (fun y _=>hE.eval y) (fun _=>rfl)
  refine Fz hg fun v w' ⟨ι',lT,hk,hv⟩=>?_
  exact hK _ H' _ w' YM ⟨by rw[jd];exact hd,by rw[lh];exact hn,j9 iB eR _,ι',lT,hE.put hk hv⟩
 ·rename_i f ps mn;obtain⟨r,hr,h⟩:=h;have Mf:∃as,td env o=some (f,as)/\AV.toP.toPL as=some ps:=by
   unfold KP at mn
   grind
  obtain⟨as,MV,hto⟩:=Mf;obtain⟨vs,hl,gR,dS⟩:=Ag (P:=P) MV hE;have jr:=u3 as ps hto;refine Ni hr (hC H ι hR).now dS (B':=Rd B ι H) (by rw[jr.1];exact hl) (fun j p v hp hv=>?_) (fun ul v w' hg hv=>?_) (fun ch w' ul hg=>?_)
  ·have hj:j<as.length:=aX
   obtain⟨p',Lq,so⟩:=jr.2 j as[j] (aB hj);rw[Lq]at hp;cases hp
   exact(gR j _ v (aB hj) hv).toP _ so
  ·rw[ul]at h;refine hK _ H _ w' h ⟨by rw[jd];exact hd,by rw[lh];exact hn,j9 iB eR _,ι,hR.grow hg,?_⟩
   refine hE.put (sc:=none) (bS.gr hg) (.p _ _ (hv.keep (nR _) fun b hb cQ=>⟨?_,rfl⟩))
   rcases hb with hb|hb
   ·exact hb
   ·exact⟨hR.fut b hb,fun iV=>by have:=hR.lt iV;omega⟩
  ·rw[ul]at h;refine⟨env,H,h,hd,hn,iB,ι,hR.grow hg,⟨hE.len,fun t x v hx hv=>(hE.at_ t x v hx hv).keep0 (bS.gr hg)⟩⟩
 ·rename_i f as mn;have MV:td env o=some (f,as):=by
   unfold KP at mn
   grind
  rcases h with h|h
  case inr=>exact Fa iM gS eR h ⟨hd,hn,iB,ι,hR,hE⟩ hK
  obtain⟨vs,hl,gR,dS⟩:=Ag (P:=P) MV hE;have qH:=hR.regrow (B':=fun _=>True) (Gr.refl _) (fun _ _ _=>trivial) (fun _ _=>trivial)
  obtain⟨ps,⟨r,hr,h⟩,jr,BS⟩:=JV.frzL_sound qH.1 (fun _ _=>trivial) as vs _ hl (fun j x v hx hv=>(gR j x v hx hv).keep0 qH.2) h
  refine Ni hr (hC H ι hR).now dS (B':=fun _=>True) oM BS (fun ul v w' hg hv=>?_) (fun ch w' ul hg=>?_)
  ·rw[ul]at h;simp only at h
   split at h
   ·rename_i hfl;refine hK _ H _ w' h ⟨by rw[jd];exact hd,by rw[lh];exact hn,j9 iB eR _,ι,hR.grow hg,?_⟩
    exact hE.put (sc:=none) (bS.gr hg) (.p _ _ (hv.free hfl))
   ·cases h
  ·rw[ul]at h;refine⟨env,H,h,hd,hn,iB,ι,hR.grow hg,⟨hE.len,fun t x v hx hv=>(hE.at_ t x v hx hv).keep0 (bS.gr hg)⟩⟩
 ·exact Fa iM gS eR h ⟨hd,hn,iB,ι,hR,hE⟩ hK
 ·rename_i pv mn;have hx:∃x t v,o.op=.panic x/\bR env x=.p (.v (.iface t v))/\pv=.iface t v:=by
   unfold KP at mn
   grind
  obtain⟨x,t,v,ho,e,rfl⟩:=hx;have hv:=hE.eval x;rw[e]at hv;have dS:(execOp a.eval o).run P w=.halt (.panic (.iface t v)) w:=by
   simp[execOp,ho,jW hv,Instr.panic,goPanic,Sem.run]
  unfold Oper.wp;rw[dS,Oper.upon_panic];exact⟨env,H,h,hd,hn,iB,ι,hR,hE⟩
theorem AO(hT:iE P T)(iM:∀w,uD w0 w->G w)(gS:∀b,w0.own b->B b){all:List Oper}{Q:Exit->List AV->AH->Prop}:∀(os:List Oper),(∀o∈os,∀t,o.dst=some t->w0.pin t=none)->∀(env:List AV)(H:AH)(a:Act)(w:World),vW P G bG T all Q os env H->St w0 B nt env H a w->wpList P all.toArray (sJ w0 B nt Q) os a w
 |[],_,env,H,a,w,h,hS=>⟨env,H,h,hS⟩
 |o::os,ju,env,H,a,w,h,hS=>by
  have eR:=ju o dL
  have i7:∀o∈os,∀t,o.dst=some t->w0.pin t=none:=fun x hx=>ju x (by simp[hx])
  have run:lb P G bG T o env H (fun env' H'=>vW P G bG T all Q os env' H') Q->o.wp P a w (wpList P all.toArray (sJ w0 B nt Q) os) (sJ w0 B nt Q):=fun h=>
   Ay hT iM gS eR h hS fun env' H' a' w' hK sV=>AO hT iM gS os i7 env' H' a' w' hK sV
  obtain⟨hd,hn,iB,ι,hR,hE⟩:=hS;unfold vW at h;unfold wpList
  split at h
  ·rename_i hg;rw[aF LP]
   exact .inl (run h)
  ·rename_i j want hg
   split at h
   ·rename_i b hb;have hy:=F6 hb hE;rw[PE]
    split at h
    ·exact V3
    ·rename_i ht;rw[aD Jk]
     refine AO hT iM gS os i7 _ H _ w h ⟨by rw[jd];exact hd,by rw[lh];exact hn,j9 iB eR _,ι,hR,?_⟩
     exact Kc
   ·cases h
end
def AF(w:World)(ι:Pl)(R:Nat->Prop)(cs:List AV)(arr:Array Value):Prop:=arr.size=cs.length/\∀(j:Nat)(a:AV),cs[j]?=some a->∃v,arr[j]?=some v/\v.oneCell'=true/\dG w ι R a v
theorem AF.keep0{w w':World}{ι ι':Pl}{R R':Nat->Prop}(hk:bS none w ι R w' ι' R'){cs:List AV}{arr:Array Value}(h:AF w ι R cs arr):AF w' ι' R' cs arr:=
 ⟨h.1,fun j a ha=>let⟨v,h1,h2,h3⟩:=h.2 j a ha;⟨v,h1,h2,h3.keep0 hk⟩⟩
structure MK where
 t:TypeId
 cs:List AV
 rows:Option (Nat×Nat×List (List PV))
def MK.val(m:MK)(c:Nat):Value:=match m.rows with
 |none=>.pointer (some ⟨c,0,none⟩)
 |some (_,len,_)=>.slice (some ⟨c,0,none⟩) len len
def MK.av(m:MK)(k:Nat):AV:=match m.rows with
 |none=>.own k 0
 |some (_,len,_)=>.osl k 0 len
def MK.blk(m:MK)(cs:List AV):cE:=match m.rows with
 |none=>.box cs m.t none
 |some (s,_,rs)=>.rows s rs m.t
def MK.shape(m:MK)(n:Nat):Nat×Nat:=match m.rows with
 |none=>(0,0)
 |some (s,_,_)=>(s,n)
def MK.Ok(m:MK)(cs:List AV):Prop:=∀s len rs,m.rows=some (s,len,rs)->cs=m.cs/\zn s len m.cs=some rs/\0<s/\m.cs.length=len*s/\len<=maxLen
def ly(T:TT)(e:List AV)(o:Oper):Option MK:=match o.op with
 | .alloc t=>(match T t with
  |some i=>if i.zero.cells.toList.all (·.oneCell')=true then some ⟨t,i.zero.cells.toList.map fun x=>.p (.v x),none⟩else none
  |none=>none)
 | .box t x=>if vu (bR e x)=true then some ⟨t,rA (bR e x),none⟩else none
 | .buildSlice t len parts=>(match T t with
  |some ti=>(match ti.desc with
   | .slice el=>(match T el with
    |some te=>if 0<te.size/\len*te.size<=16777216 then(match fu (fun i=>some (i*te.size,te.size)) ((List.range (len*te.size)).map fun m=>.p (.v (te.zero.cells[m%te.zero.cells.size]!))) (parts.toList.map fun(n,x)=>(n,bR e x))with
     |some cs=>(match cs.all al,zn te.size len cs with
      |true,some rs=>some ⟨el,cs,some (te.size,len,rs)⟩
      |_,_=>none)
     |none=>none)else none
    |none=>none)
   |_=>none)
  |none=>none)
 |_=>none
theorem O5{s:Nat}:∀(parts:List (Nat×AV))(cells cs':List AV),fu (fun i=>some (i*s,s)) cells parts=some cs'->cs'.length=cells.length
 |[],cells,cs',h=>by simp[fu]at h;rw[h]
 |(n,a)::ps,cells,cs',h=>by
  unfold fu at h;simp only at h
  split at h
  ·rw[O5 ps _ _ h,JR oM]
  ·cases h
theorem z18{n s:Nat}(h:0<s)(h2:n*s<=16777216):n<=maxLen:=by
 have:n*1<=n*s:=Nat.mul_le_mul_left _ h
 unfold maxLen;omega
theorem Te{T:TT}{o:Oper}{e:List AV}{m:MK}(h:ly T e o=some m):m.Ok m.cs:=by
 unfold ly at h
 split at h
 ·split at h
  ·split at h
   ·cases h;exact fun s len rs e=>by cases e
   ·cases h
  ·cases h
 ·split at h
  ·cases h;exact fun s len rs e=>by cases e
  ·cases h
 ·split at h
  ·split at h
   ·split at h
    ·split at h
     ·rename_i zO
      split at h
      ·rename_i cs dC
       split at h
       ·rename_i rs pK dY
        cases h
        intro s len' rs' e;obtain⟨rfl,rfl,rfl⟩:=e;refine⟨rfl,dY,zO.1,by rw[O5 _ _ _ dC];simp,?_⟩
        exact z18 zO.1 zO.2
       ·cases h
      ·cases h
     ·cases h
    ·cases h
   ·cases h
  ·cases h
 ·cases h
theorem Tf{P:Program}{T:TT}(hT:iE P T){o:Oper}{e:List AV}{m:MK}(h:ly T e o=some m){w:World}{ι:Pl}{R:Nat->Prop}{ρ:Operand->Value}(hρ:∀x,x∈o.op.operands->dG w ι R (bR e x) (ρ x)):
  ∃arr,(execOp ρ o).run P w=.ok (.value (m.val w.heap.size)) (w.alloc (.cells arr m.t))/\AF w ι R m.cs arr:=by
 unfold ly at h
 split at h
 ·rename_i t ho
  split at h
  ·rename_i i ht
   split at h
   ·rename_i pK
    cases h
    refine⟨i.zero.cells,?_,by simp,fun j a ha=>?_⟩
    ·simp only[execOp,ho,Instr.alloc,Sem.run_bind,NJ hT ht,Result.andThen_ok,newVar,newRow,wq,Sem.run_pure,MK.val]
    ·rw[aI]at ha
     cases hz:i.zero.cells.toList[j]? with
     |none=>rw[hz]at ha;cases ha
     |some z=>
      rw[hz]at ha;cases ha
      exact⟨z,by simpa using hz,aO.1 pK z (aH hz),.p _ _ (.v _)⟩
   ·cases h
  ·cases h
 ·rename_i t x ho
  split at h
  ·rename_i cV
   cases h
   have hc:=PD (hρ x oW) cV
   refine⟨(ρ x).cells,?_,hc.1.symm,hc.2⟩;simp only[execOp,ho,Instr.box,Sem.run_bind,Result.andThen_ok,newVar,newRow,wq,Sem.run_pure,MK.val]
  ·cases h
 ·rename_i t len parts ho
  split at h
  ·rename_i ti ht
   split at h
   ·rename_i el hd
    split at h
    ·rename_i te he
     split at h
     ·rename_i zO
      split at h
      ·rename_i cs dC
       split at h
       ·rename_i rs pK dY
        cases h
        have pH:∀(n:Nat)(x:Operand),(n,x)∈parts.toList->dG w ι R (bR e x) (ρ x):=fun n x hx=>hρ x (by
         rw[ho];simp only[Op.operands,List.mem_toArray,fT]
         grind)
        have wH:∀l:List (Nat×Operand),(∀n x,(n,x)∈l->dG w ι R (bR e x) (ρ x))->OB w ι R (l.map fun(n,x)=>(n,bR e x)) (l.map fun(n,x)=>(n,ρ x)):=by
         exact Km
        obtain⟨arr',h1,h2,h3⟩:=Av (w:=w) (ι:=ι) (R:=R) _ _ _ cs ((Array.range (len*te.size)).map (te.zero.cells[· % te.zero.cells.size]!)) (wH parts.toList pH) dC dL (fun j a ha=>by
         exact W8)
        refine⟨arr',?_,h2.symm,fun j a ha=>?_⟩
        ·have e1:(parts.map fun(p:Nat×Operand)=>(p.1,ρ p.2)).toList=parts.toList.map fun(n,x)=>(n,ρ x):=dL
         have rg:¬(len*te.size>2 ^ 24):=by
          omega
         simp only[execOp,ho,Instr.buildSlice,Sem.run_bind,qO hT ht,Result.andThen_ok,hd,tu hT he,rg,bN];rw[show(parts.map fun x=>match x with|(i,x)=>(i,ρ x))=parts.map fun(p:Nat×Operand)=>(p.1,ρ p.2)from rfl,e1]
         by_cases h0:len*te.size=0
         ·have e3:((Array.range (len*te.size)).map fun x=>(#[]:Array Value)[x%(#[]:Array Value).size]!)=(Array.range (len*te.size)).map (te.zero.cells[· % te.zero.cells.size]!):=by rw[h0];simp
          rw[aF h0];simp only[Sem.run_pure,Result.andThen_ok,Sem.run_bind,e3,h1,newRow,wq,MK.val]
         ·rw[aD h0];simp only[Sem.run_pure,Result.andThen_ok,Sem.run_bind,NJ hT he,h1,newRow,wq,MK.val]
        ·obtain⟨u,hu,hr⟩:=h3 j a ha;exact⟨u,hu,E4 hr (aO.1 pK a (aH ha)),hr⟩
       ·cases h
      ·cases h
     ·cases h
    ·cases h
   ·cases h
  ·cases h
 ·cases h
theorem eX.poke{w0:cJ}{B:Nat->Prop}{w:World}{ι:Pl}{H:AH}(h:eX w0 B w ι H){c:Nat}(qV:w0.own c)(mS:¬jB ι H c)(XF:¬B c){w':World}
  (ju:w'.os=w.os) (qu:w'.tape=w.tape) (nT:w'.output=w.output) (dR:w'.heap.size=w.heap.size) (i6:∀d,d≠c->w'.heap[d]?=w.heap[d]?):eX w0 B w' ι H/\bS none w ι (Rd B ι H) w' ι (Rd B ι H):=by
 have hk:bS none w ι (Rd B ι H) w' ι (Rd B ι H):=⟨by omega,fun d hd _=>⟨hd,i6 d fun e=>XF (e ▸ hd.1)⟩,fun _ _ _ _ h=>h⟩
 refine⟨⟨⟨ju.trans h.gr.os,qu.trans h.gr.tape,nT.trans h.gr.output,by have:=h.size;omega,fun d hd hx=>?_⟩,fun b hb=>h.fut b oM,h.len,fun k b c1 s h1 h2=>⟨(h.blk k b c1 s h1 h2).1,(h.blk k b c1 s h1 h2).2.keep0 hk fun c' e=>?_⟩,h.inj⟩,hk⟩
 ·rw[i6 d (fun e=>by subst e;rcases qV with h1|h1<;>first|exact hx h1|omega)];exact h.gr.block d hd hx
 ·subst e;exact i6 c' fun e=>mS (e ▸ ⟨k,b,s,h1,h2⟩)
theorem eX.adopt{w0:cJ}{B B':Nat->Prop}{w:World}{ι:Pl}{H:AH}(h:eX w0 B w ι H){c:Nat}{arr:Array Value}{m:MK}{cs:List AV}(hc:w.heap[c]?=some (.cells arr m.t (0,0)))(qV:w0.own c)(mS:¬jB ι H c)(XF:¬B c)
  (hB:∀b,B b->B' b) (zZ:AF w ι (Rd B ι H) cs arr) (hmo:m.Ok cs):
  eX w0 B' w (ι++[(some c,m.shape arr.size)]) (H++[some (m.blk cs)])/\bS none w ι (Rd B ι H) w (ι++[(some c,m.shape arr.size)]) (Rd B' (ι++[(some c,m.shape arr.size)]) (H++[some (m.blk cs)])):=by
 have iV:∀d,jB (ι++[(some c,m.shape arr.size)]) (H++[some (m.blk cs)]) d->jB ι H d\/d=c:=by
  rintro d ⟨k,b',s',h1,h2⟩
  exact W9
 have hk:bS none w ι (Rd B ι H) w (ι++[(some c,m.shape arr.size)]) (Rd B' (ι++[(some c,m.shape arr.size)]) (H++[some (m.blk cs)])):=
  ⟨nR _,fun d hd cQ=>⟨⟨hB d hd.1,fun ho=>by
   rcases iV d ho with ho|ho
   ·exact hd.2 ho
   ·subst ho;exact XF hd.1⟩,rfl⟩,fun k c s _ hx=>Az hx⟩
 refine⟨⟨h.gr,fun b hb=>hB b (h.fut b hb),by simp[h.len],fun k b' d s' g1 g2=>?_,fun k l b1 b2 d s1 s2 g1 g2 g3 g4=>?_⟩,hk⟩
 ·rcases rY g1 with⟨hl,g1⟩|⟨rfl,e⟩
  ·rcases rY g2 with⟨pM,g2⟩|⟨e,_⟩
   ·exact⟨(h.blk k b' d s' g1 g2).1,(h.blk k b' d s' g1 g2).2.keep0 hk fun c' e=>rfl⟩
   ·rw[h.len]at e;omega
  ·rw[<-h.len,dv]at g2
   cases g2
   cases e
   refine⟨fun c' e=>by cases e;exact qV,?_⟩
   have yw:=zZ.keep0 hk;unfold MK.blk MK.shape at *
   cases hr:m.rows with
   |none=>
    simp only[hr]at yw ⊢;exact⟨⟨rfl,fun n e=>by cases e⟩,c,arr,rfl,hc,zZ.1,yw.2⟩
   |some x=>
    obtain⟨s,len,rs⟩:=x;obtain⟨rfl,bl,hs,hl,_⟩:=hmo s len rs hr;simp only[hr]at yw ⊢;have hg:=Au s len m.cs rs bl hl;refine⟨rfl,fun i row cS=>(hg.2 i row cS).1,.inr ⟨c,arr,rfl,hc,rfl,fun i j row a cS ha=>?_⟩⟩
    obtain⟨x,hx,Lb⟩:=(hg.2 i row cS).2 j a ha;obtain⟨v,hv,h1,h2⟩:=yw.2 _ x hx;exact⟨v,hv,h1,h2.toP _ Lb⟩
 ·rcases rY g1 with⟨hl,g1⟩|⟨rfl,e⟩
  ·rcases rY g3 with⟨_,g3⟩|⟨e,_⟩
   ·rcases rY g2 with⟨uH,g2⟩|⟨rfl,e⟩
    ·rcases rY g4 with⟨_,g4⟩|⟨e,_⟩
     ·exact h.inj k l b1 b2 d s1 s2 g1 g2 g3 g4
     ·rw[h.len]at e;omega
    ·rw[<-h.len,dv]at g4
     cases g4
     exact absurd ⟨k,b1,s1,g1,g3⟩ mS
   ·rw[h.len]at e;omega
  ·rw[<-h.len,dv]at g3
   cases g3
   rcases rY g2 with⟨uH,g2⟩|⟨rfl,e⟩
   ·rcases rY g4 with⟨_,g4⟩|⟨e,_⟩
    ·exact absurd ⟨l,b2,s2,g2,g4⟩ mS
    ·rw[h.len]at e;omega
   ·rfl
def He(all:List Oper)(o:Oper):Bool:=match o.op,o.dst with
 | .buildSlice _ _ _,some d=>all.any fun o'=>(match o'.op with
  | .indexAddr _ (.tmp t) _=>Nat.beq t d
  | .call c=>(match c.callee with
   | .value _=>c.args.toList.any fun x=>(match x with
    | .tmp t=>Nat.beq t d
    |_=>false)
   |_=>false)
  |_=>false)
 |_,_=>false
def pC(all:List Oper)(o:Oper):Bool:=match o.op with
 | .alloc _=>true
 | .box _ _=>true
 | .buildSlice _ _ _=>!He all o
 |_=>false
def fo(o:Oper):Bool:=match o.op with
 | .store _ _ _=>true
 |_=>false
theorem R8{all:List Oper}{o:Oper}(h:pC all o=true):fo o=false:=by
 unfold pC at h;unfold fo
 split at h<;>simp_all
def JH(T:TT)(o:Oper)(env:List AV)(K:AV->Prop):Prop:=match o.guard,ly T env o with
 |none,some m=>(match m.rows with
  |some (s,_,rs)=>K (.p (.ro s rs))
  |none=>False)
 |_,_=>False
theorem G3{P:Program}{G:World->Prop}{T:TT}(hT:iE P T){o:Oper}{env:List AV}{H:AH}{K:AV->Prop}(h:JH T o env K):o.guard=none/\∃a,K a/\QS P G o env H a:=by
 unfold JH at h
 split at h
 ·rename_i m hg hm
  split at h
  ·rename_i s len rs hr;refine⟨hg,_,h,fun w0 B w ι ρ hR _ hρ _=>?_⟩
   obtain⟨arr,dS,zZ⟩:=Tf (P:=P) hT hm hρ;rw[dS];have cV:=Te hm;obtain⟨_,bl,hs,hl,qJ⟩:=cV s len rs hr;have vG:Gr w (w.alloc (.cells arr m.t)):=(Below.refl _ w).alloc (nR _) _;refine⟨vG,.p _ _ ?_⟩;have pO:=Au s len m.cs rs bl hl;have yB:(w.alloc (.cells arr m.t)).heap[w.heap.size]?=some (.cells arr m.t (0,0)):=heap_alloc_new w _;have XD:Rd B ι H w.heap.size:=⟨hR.fut _ (nR _),fun ho=>by have:=hR.lt ho;omega⟩
   have gJ:∀(i j:Nat)(row:List PV)(a:PV),rs[i]?=some row->row[j]?=some a->∃v,arr[i*s+j]?=some v/\v.oneCell'=true/\cI w (Rd B ι H) a v:=fun i j row a cS ha=>by
    obtain⟨x,hx,Lb⟩:=(pO.2 i row cS).2 j a ha;obtain⟨v,hv,h1,h2⟩:=zZ.2 _ x hx;exact⟨v,hv,h1,h2.toP _ Lb⟩
   have hlen:rs.length=len:=pO.1;have hv:m.val w.heap.size=.slice (some ⟨w.heap.size,0,none⟩) len len:=by unfold MK.val;rw[hr]
   rw[hv,<- hlen];have iK:bS none w ι (Rd B ι H) (w.alloc (.cells arr m.t)) ι (Rd B ι H):=bS.gr vG;exact cI.ro (w:=w.alloc (.cells arr m.t)) (R:=Rd B ι H) s rs w.heap.size 0 rs.length (fun i j=>(arr[i*s+j]?).getD undef) XD (n7 yB) (nR _) (fun i row cS=>(pO.2 i row cS).1)
    (fun i j row a cS ha=>by
     obtain⟨v,hv,h1,h2⟩:=gJ i j row a cS ha;simp_all)
    (fun i j row a cS ha=>by
     obtain⟨v,hv,h1,h2⟩:=gJ i j row a cS ha;simp only[hv,jK];exact h2.keep iK.size iK.read)
  ·cases h
 ·cases h
def AY:Nat->List Oper->Nat->Tmp->Option (Nat×TypeId×Operand)
 |0,_,_,_=>none
 |_+1,[],_,_=>none
 |n+1,o::os,i,d=>match o.op with
  | .store t (.tmp d') y=>(match Nat.beq d' d with
   |true=>some (i,t,y)
   |false=>AY n os (i+1) d)
  |_=>AY n os (i+1) d
def mw(all:List Oper)(k:Nat)(d:Tmp):Option (Nat×TypeId×Operand):=AY k all 0 d
theorem Nm{all:List Oper}{d s:Nat}{t:TypeId}{y:Operand}:∀(n m:Nat),AY n (all.drop m) m d=some (s,t,y)->s<m+n/\∃o,all[s]?=some o/\o.op=.store t (.tmp d) y
 |0,m,h=>by simp[AY]at h
 |n+1,m,h=>by
  cases hd:all.drop m with
  |nil=>rw[hd]at h;simp[AY]at h
  |cons o os=>
   rw[hd]at h;have qJ:m<all.length:=by
    rcases aW m all.length with h'|h'
    ·exact h'
    ·rw[vV h']at hd;cases hd
   have ju:os=all.drop (m+1)/\all[m]?=some o:=by
    rw[cU qJ]at hd
    grind
   have again:AY n os (m+1) d=some (s,t,y)->s<m+(n+1)/\∃o,all[s]?=some o/\o.op=.store t (.tmp d) y:=fun h=>by
    rw[ju.1]at h;obtain⟨h1,h2⟩:=Nm n (m+1) h
    grind
   unfold AY at h
   split at h
   ·rename_i t' d' y' nD
    split at h
    ·simp_all
    ·exact again h
   ·exact again h
theorem OL{all:List Oper}{k d s:Nat}{t:TypeId}{y:Operand}(h:mw all k d=some (s,t,y)):s<k/\∃o,all[s]?=some o/\o.op=.store t (.tmp d) y:=by
 have:=Nm (all:=all) k 0 (by simpa [mw]using h)
 exact qh
def AU(T:TT)(all:List Oper)(k:Nat)(e:List AV)(o:Oper)(m:MK):Option (List AV):=match o.dst.bind (mw all k)with
 |none=>some m.cs
 |some (_,t,y)=>(match o.op,T t with
  | .alloc _,some i=>if vu (bR e y)=true/\(rA (bR e y)).length=i.size/\i.size=m.cs.length then some (rA (bR e y))else none
  |_,_=>none)
def ol(P:Program)(G:World->Prop)(E:SO)(T:TT)(all:List Oper)(H:AH):Nat->List Oper->List AV->(List AV->Prop)->Prop
 |0,_,env,K=>K env
 |_+1,[],env,K=>K env
 |n+1,o::os,env,K=>if(pC all o||fo o)=true then ol P G E T all H n os (qY env o.dst .junk) K else if He all o=true then JH T o env fun a=>ol P G E T all H n os (qY env o.dst a) K else(match o.guard with
  |none=>aq P G E T o env H fun a=>ol P G E T all H n os (qY env o.dst a) K
  |some (j,want)=>(match EK all env j with
   |some b=>(match zk want b with
    |true=>aq P G E T o env H fun a=>ol P G E T all H n os (qY env o.dst a) K
    |false=>ol P G E T all H n os (qY env o.dst (.p (.v undef))) K)
   |none=>False))
def vp(T:TT)(all:List Oper)(k:Nat)(e:List AV):Nat->List Oper->List AV->AH->(List AV->AH->Prop)->Prop
 |0,_,env,H,K=>K env H
 |_+1,[],env,H,K=>K env H
 |n+1,o::os,env,H,K=>if pC all o=true then(match ly T e o,o.dst with
  |some m,some d=>(match AU T all k e o m with
   |some cs=>vp T all k e n os (env.set d (m.av H.length)) (H++[some (m.blk cs)]) K
   |none=>False)
  |_,_=>False)else vp T all k e n os env H K
def B2(ops:List Oper)(k:Nat)(t:Tmp):Bool:=(List.range k).all fun j=>(ops[j]?).bind (·.dst) != some t
theorem JO{ops:List Oper}{k:Nat}{t:Tmp}(h:B2 ops k t=true){j:Nat}(hj:j<k):(ops[j]?).bind (·.dst)≠some t:=by
 unfold B2 at h;simpa using aO.1 h j (bV.2 hj)
def EM(ops:List Oper)(k i:Nat)(o:Oper):Bool:=
 (o.op.operands.all fun x=>match x with
  | .tmp t=>B2 ops k t||(jN ops.toArray i).any fun d=>(ops[d]?).bind (·.dst)==some t
  |_=>true) &&
 (match o.guard with
  |none=>true
  |some (j,_)=>(jN ops.toArray i).contains j&&((ops[j]?).bind (·.dst)).isSome) &&
 (!pC ops o||(o.guard.isNone&&o.dst.isSome)) &&
 (!fo o||(o.guard.isNone&&o.dst.isNone&&(match o.op with
  | .store _ (.tmp d) _=>((mw ops k d).map (·.1)==some i)&&(jN ops.toArray i).any fun j=>(match ops[j]? with
   |some oj=>pC ops oj&&oj.dst==some d
   |none=>false)
  |_=>false)))
def A5(nt:Nat)(ops:List Oper)(k:Nat):Bool:=
 qc ops.toArray k 8&&decide (k<=ops.length)&&(ops.all fun o=>match o.dst with
  |some t=>decide (t<nt)
  |none=>true)&&(List.range k).all fun i=>match ops[i]? with
  |some o=>EM ops k i o
  |none=>true
def iJ(all:List Oper)(avs:Nat->AV)(m:Nat):Nat->List AV->List AV
 |0,env=>env
 |q+1,env=>qY (iJ all avs m q env) ((all[m+q]?).bind (·.dst)) (avs (m+q))
theorem OW(all:List Oper)(avs:Nat->AV)(m:Nat):∀(q:Nat)(env:List AV),iJ all avs m (q+1) env=iJ all avs (m+1) q (qY env ((all[m]?).bind (·.dst)) (avs m))
 |0,env=>rfl
 |q+1,env=>by
  rw[iJ,OW all avs m q env,iJ]
  grind
theorem G8{all:List Oper}{avs avs':Nat->AV}{m:Nat}:∀(q:Nat)(env:List AV),(∀i,m<=i->i<m+q->avs i=avs' i)->iJ all avs m q env=iJ all avs' m q env
 |0,_,_=>rfl
 |q+1,env,h=>by
  rw[iJ,iJ,G8 q env fun i h1 h2=>h i h1 oM,h (m+q) oM oM]
theorem ED(all:List Oper)(avs:Nat->AV)(m:Nat):∀(q:Nat)(env:List AV),(iJ all avs m q env).length=env.length
 |0,_=>rfl
 |q+1,env=>by
  rw[iJ]
  have:=ED all avs m q env
  cases(all[m+q]?).bind (·.dst)<;>simp[qY,this]
theorem KE{all:List Oper}{avs:Nat->AV}{t:Nat}:∀(q:Nat)(env:List AV),(∀i,i<q->(all[i]?).bind (·.dst)≠some t)->(iJ all avs 0 q env)[t]?=env[t]?
 |0,_,_=>rfl
 |q+1,env,h=>by
  rw[iJ];have ih:=KE (avs:=avs) q env fun i hi=>h i oM
  have h0:=h q oM
  rw[cF]
  cases hd:(all[q]?).bind (·.dst)with
  |none=>exact ih
  |some s=>
   simp only[qY]
   grind
theorem DX{all:List Oper}{avs:Nat->AV}{t d:Nat}(hd:(all[d]?).bind (·.dst)=some t):∀(q:Nat)(env:List AV),d<q->t<env.length->(∀i,i<q->i≠d->(all[i]?).bind (·.dst)≠some t)->(iJ all avs 0 q env)[t]?=some (avs d)
 |0,_,h,_,_=>by omega
 |q+1,env,h,hl,hu=>by
  rw[iJ,cF]
  by_cases e:d=q
  ·subst e;rw[hd];simp only[qY];rw[mH (by rw[ED];exact hl)]
  ·have ih:=DX (avs:=avs) hd q env oM hl fun i hi=>hu i oM
   have h0:=hu q oM (fun e'=>e e'.symm)
   cases hq:(all[q]?).bind (·.dst)with
   |none=>exact ih
   |some s=>
    simp only[qY]
    grind
section
variable{P:Program}{G:World->Prop}{T:TT}
def Ky(P:Program)(G:World->Prop)(all:List Oper)(H:AH)(o:Oper)(env:List AV)(x:AV):Prop:=
 ((pC all o||fo o)=true/\x=.junk)\/((pC all o||fo o)=false/\((o.guard=none/\QS P G o env H x)\/∃j want b,o.guard=some (j,want)/\EK all env j=some b/\((b=some want/\QS P G o env H x)\/(b≠some want/\x=.p (.v undef)))))
theorem O4(hT:iE P T){all:List Oper}{H:AH}:∀(n m:Nat)(env:List AV)(K:List AV->Prop),m+n<=all.length->ol P G bG T all H n (all.drop m) env K →
  ∃avs:Nat->AV,K (iJ all avs m n env)/\∀q o,q<n->all[m+q]?=some o->Ky P G all H o (iJ all avs m q env) (avs (m+q))
 |0,m,env,K,_,h=>⟨fun _=>.junk,h,fun q o hq _=>by omega⟩
 |n+1,m,env,K,hle,h=>by
  have hm:m<all.length:=eC
  rw[cU hm]at h;have ho:all[m]?=some all[m]:=aB hm;have go:∀x:AV,Ky P G all H all[m] env x->ol P G bG T all H n (all.drop (m+1)) (qY env all[m].dst x) K->∃avs:Nat->AV,K (iJ all avs m (n+1) env)/\∀q o,q<n+1->all[m+q]?=some o->Ky P G all H o (iJ all avs m q env) (avs (m+q)):=by
   intro x hx h;obtain⟨avs,hK,hF⟩:=O4 hT n (m+1) _ K oM h
   have hc:∀q env,iJ all (fun i=>if i=m then x else avs i) (m+1) q env=iJ all avs (m+1) q env:=fun q env=>G8 q env fun i h1 _=>by rw[aD oM]
   refine⟨fun i=>if i=m then x else avs i,?_,fun q o hq WO=>?_⟩
   ·rw[OW,hc,ho];simpa using hK
   ·cases q with
    |zero=>
     rw[km,ho]at WO
     cases WO
     simpa [iJ]using hx
    |succ q=>
     have:=hF q o oM aX
     rw[OW,hc,ho]
     grind
  unfold ol at h
  split at h
  ·rename_i jA;exact go .junk (.inl ⟨jA,rfl⟩) h
  ·rename_i jA;have yz:(pC all all[m]||fo all[m])=false:=by simpa using jA
   split at h
   ·obtain⟨hg,x,hK,hq⟩:=G3 (P:=P) (G:=G) (H:=H) hT h;exact go x (.inr ⟨yz,.inl ⟨hg,hq⟩⟩) hK
   split at h
   ·rename_i hg;obtain⟨x,hK,hq⟩:=ZU hT h;exact go x (.inr ⟨yz,.inl ⟨hg,hq⟩⟩) hK
   ·rename_i j want hg
    split at h
    ·rename_i b hb
     split at h
     ·rename_i ht;obtain⟨x,hK,hq⟩:=ZU hT h;exact go x (.inr ⟨yz,.inr ⟨j,want,b,hg,hb,.inl ⟨Fy ht,hq⟩⟩⟩) hK
     ·rename_i ht;exact go _ (.inr ⟨yz,.inr ⟨j,want,b,hg,hb,.inr ⟨Qp ht,rfl⟩⟩⟩) h
    ·cases h
end
section
variable{P:Program}{G:World->Prop}{T:TT}{w0:cJ}{B:Nat->Prop}{nt:Nat}
def LA(all:List Oper)(k:Nat)(listed:Array Bool)(i:Nat):Prop:=i<k/\listed.getD i false=true/\∃o,all[i]?=some o/\pC all o=true
def BX(all:List Oper)(k:Nat)(B:Nat->Prop)(c:Nat->Nat)(listed:Array Bool)(b:Nat):Prop:=B b/\∀i,LA all k listed i->b≠c i
def fm(all:List Oper)(k:Nat)(e:List AV)(listed:Array Bool)(o:Oper)(m:MK):List AV:=match o.dst.bind (mw all k)with
 |none=>m.cs
 |some (s,_,y)=>(match listed.getD s false with
  |true=>rA (bR e y)
  |false=>m.cs)
structure JS(T:TT)(all:List Oper)(k:Nat)(w0:cJ)(B:Nat->Prop)(ws:Nat)(ι:Pl)(H:AH)(env0:List AV)(avs:Nat->AV)(e1:List AV)(c:Nat->Nat)(listed:Array Bool)(a:Act)(w:World):Prop where
 defers:a.defers=w0.ds
 size:a.tmps.size=env0.length
 pin:∀t v,w0.pin t=some v->a.tmps[t]?=some v
 grow:ws<=w.heap.size
 rel:eX w0 (BX all k B c listed) w ι H
 made:∀(i:Nat)(o:Oper)(m:MK),LA all k listed i->all[i]?=some o->ly T e1 o=some m->ws<=c i/\(∃arr,w.heap[c i]?=some (.cells arr m.t (0,0))/\AF w ι (Rd (BX all k B c listed) ι H) (fm all k e1 listed o m) arr)/\∀d,o.dst=some d->a.eval (.tmp d)=m.val (c i)
 inj:∀i j,LA all k listed i->LA all k listed j->c i=c j->i=j
 closed:∀i,listed.getD i false=true->∀d∈jN all.toArray i,listed.getD d false=true
 vals:∀(i:Nat)(o:Oper)(t:Tmp),all[i]?=some o->i<k->listed.getD i false=true->pC all o=false->o.dst=some t->dG w ι (Rd (BX all k B c listed) ι H) (avs i) (a.eval (.tmp t))
 rest:∀(t:Tmp),(∀(i:Nat)(o:Oper),all[i]?=some o->i<k->listed.getD i false=true->o.dst≠some t)->dG w ι (Rd (BX all k B c listed) ι H) (bR env0 (.tmp t)) (a.eval (.tmp t))
theorem G2{all:List Oper}{k:Nat}{e:List AV}{K:List AV->AH->Prop}:∀(n:Nat)(os:List Oper)(env:List AV)(H:AH),vp T all k e n os env H K->∀(i:Nat)(o:Oper),i<n->os[i]?=some o->pC all o=true->∃m cs d,ly T e o=some m/\AU T all k e o m=some cs/\o.dst=some d
 |0,_,_,_,_,i,_,h,_,_=>by omega
 |_+1,[],_,_,_,i,o,_,h,_=>by simp at h
 |n+1,o::os,env,H,h,i,o',hi,ho,jA=>by
  unfold vp at h
  cases i with
  |zero=>
   simp at ho;subst ho;rw[aF jA]at h
   split at h
   ·rename_i m d hm hd
    split at h
    ·rename_i cs dC;exact⟨m,cs,d,hm,dC,hd⟩
    ·cases h
   ·cases h
  |succ i=>
   have MN:os[i]?=some o':=UQ
   split at h
   ·split at h
    ·split at h
     ·exact G2 n os _ _ h i o' oM MN jA
     ·cases h
    ·cases h
   ·exact G2 n os _ _ h i o' oM MN jA
theorem z5j{all:List Oper}{k:Nat}{e:List AV}{o:Oper}{m:MK}{cs:List AV}(hm:ly T e o=some m)(h:AU T all k e o m=some cs)(cV:m.Ok m.cs):m.Ok cs:=by
 unfold AU at h
 split at h
 ·cases h;exact cV
 ·split at h
  ·rename_i t nD _
   split at h
   ·intro s len rs hr;unfold ly at hm;rw[nD]at hm;simp only at hm
    split at hm
    ·split at hm
     ·cases hm;cases hr
     ·cases hm
    ·cases hm
   ·cases h
  ·cases h
theorem PC{a:Act}{d:Tmp}{v:Value}(h:d<a.tmps.size):(a.put (some d) v).eval (.tmp d)=v:=by simp[Act.eval,Act.put,h]
theorem n8{a:Act}{d:Option Tmp}{t:Tmp}{v:Value}(h:d≠some t):(a.put d v).eval (.tmp t)=a.eval (.tmp t):=by
 cases d with
 |none=>rfl
 |some s=>
  have dN:s≠t:=fun e=>h (by rw[e])
  simp only[Act.eval,Act.put,fU];rw[mZ dN]
theorem we{all:List Oper}{k:Nat}{listed:Array Bool}{i x:Nat}(h:LA all k (listed.setIfInBounds i true) x)(dN:x≠i):LA all k listed x:=⟨h.1,by have:=h.2.1;rw[getD_set_ne false (iW dN)]at this;exact this,h.2.2⟩
theorem Q4(hT:iE P T)(iM:∀w,uD w0 w->G w)(gS:∀b,w0.own b->B b)(hm:P.follows .mixedOrders=true){id:Nat}{all:List Oper}{k:Nat}(f9:∀o∈all,∀t,o.dst=some t->w0.pin t=none)(cV:A5 nt all k=true){Q:Exit->List AV->AH->Prop}{env0:List AV}{H:AH}{a:Act}{w:World}
  (h:ol P G bG T all H k all env0 fun env1=>vp T all k env1 k all env1 H fun env2 H2=>vW P G bG T all Q (all.drop k) env2 H2) (hS:St w0 B nt env0 H a w):
  (Code.region id all.toArray true).wp P (sJ w0 B nt Q) a w:=by
 obtain⟨kc,kM,nv,ι,gU,CH⟩:=hS;have rF:env0.length=nt:=by rw[CH.len];exact kM
 unfold A5 at cV;simp only[gK,bD]at cV;obtain⟨⟨⟨gp,lI⟩,eR⟩,pH⟩:=cV;have mj:∀(i:Nat)(o:Oper)(t:Tmp),all[i]?=some o->o.dst=some t->t<env0.length:=fun i o t ho ht=>by
  have:=aO.1 eR o (aH ho)
  rw[ht]at this;rw[rF];exact qh
 rw[qe]at pH;have pJ:∀i o,i<k->all[i]?=some o->EM all k i o=true:=fun i o hi ho=>by
  have:=pH i (bV.2 hi)
  rw[ho]at this;exact this
 obtain⟨avs,hK,hF⟩:=O4 (all:=all) hT k 0 env0 _ oM jk
 obtain⟨e1,rG⟩:∃e1,iJ all avs 0 k env0=e1:=⟨_,rfl⟩
 rw[rG]at hK;have sr:∀(i:Nat)(o:Oper),i<k->all[i]?=some o->pC all o=true->∃m cs d,ly T e1 o=some m/\AU T all k e1 o m=some cs/\o.dst=some d:=fun i o hi ho jA=>G2 k all _ H hK i o hi ho jA
 have nV:∀(i j:Nat)(oi oj:Oper)(t:Tmp),all[i]?=some oi->all[j]?=some oj->i≠j->oi.dst=some t->oj.dst≠some t:=by
  have hB:=gp;simp only[qc,gK,qe,SX,bD,bM]at hB;intro i j oi oj t hi hj dN BQ yb;have vP:=(aC.1 hi).1;have nU:=(aC.1 hj).1
  rcases hB.2 i (by simpa using vP) j (by simpa using nU)with hh|hh
  ·rcases hh with hh|hh
   ·exact dN hh
   ·simp[hi,BQ]at hh
  ·simp[hi,hj,BQ,yb]at hh
 have gW:∀i d,d∈jN all.toArray i->d<i:=fun i d hd=>by
  exact Kn
 have cw:∀(ws:Nat)(c:Nat->Nat)(listed:Array Bool)(a:Act)(w:World)(i q:Nat)(o:Oper),JS T all k w0 B ws ι H env0 avs e1 c listed a w->(∀d∈jN all.toArray i,listed.getD d false=true)->all[i]?=some o->i<k->i<=q->q<=k →
   ∀x,x∈o.op.operands->dG w ι (Rd (BX all k B c listed) ι H) (bR (iJ all avs 0 q env0) x) (a.eval x):=by
  intro ws c listed a w i q o hJ gT ho jP Yx Yh x hx;have gI:=pJ i o jP ho;unfold EM at gI;simp only[gK]at gI;have jo:=(mL.1 gI.1.1.1) x hx
  cases x with
  |const v=>exact .p _ _ (ZK _ _ _)
  |global g=>exact .p _ _ (.v _)
  |func f=>exact .p _ _ (.v _)
  |tmp t=>
   simp only[bM]at jo
   rcases jo with mD|yA
   ·have he:(iJ all avs 0 q env0)[t]?=env0[t]?:=KE q env0 fun j hj=>JO mD oM
    have hr:=hJ.rest t fun j oj hj rj _=>by
     have:=JO mD rj
     rw[hj]at this;exact qh
    have e1:bR (iJ all avs 0 q env0) (.tmp t)=bR env0 (.tmp t):=by
     exact Jr
    rw[e1];exact hr
   ·rw[fY]at yA;obtain⟨d,uw,YA⟩:=yA;have zX:(all[d]?).bind (·.dst)=some t:=by simpa using YA
    cases yv:all[d]? with
    |none=>rw[yv]at zX;cases zX
    |some od=>
     have eR:od.dst=some t:=by rw[yv]at zX;simpa using zX
     have rT:=gW i d uw;have hl:=gT d uw
     rcases aW t env0.length with cC|cC
     ·have he:(iJ all avs 0 q env0)[t]?=some (avs d):=DX zX q env0 oM cC fun j hj rl=>by
       cases bj:all[j]? with
       |none=>simp
       |some oj=>simpa using nV d j od oj t yv bj (iW rl) eR
      have e1:bR (iJ all avs 0 q env0) (.tmp t)=avs d:=C8
      rw[e1]
      cases jA:pC all od with
      |true=>
       have:=hF d od oM (by simpa using yv)
       rcases this with⟨_,hj⟩|⟨hh,_⟩
       ·rw[cF]at hj;rw[hj];exact .junk _
       ·rw[jA]at hh;simp at hh
      |false=>exact hJ.vals d od t yv oM hl jA eR
     ·have he:(iJ all avs 0 q env0)[t]?=none:=List.getElem?_eq_none (by rw[ED];exact cC)
      have e1:bR (iJ all avs 0 q env0) (.tmp t)=.junk:=C8
      rw[e1];exact .junk _
 have HR:∀(listed:Array Bool)(i:Nat)(o ox:Oper)(m:MK),all[i]?=some o->fo o=false->fm all k e1 (listed.setIfInBounds i true) ox m=fm all k e1 listed ox m:=by
  intro listed i o ox m ho mR;unfold fm
  cases hs:ox.dst.bind (mw all k)with
  |none=>rfl
  |some x=>
   obtain⟨s,t,y⟩:=x;have dN:i≠s:=fun e=>by
    subst e;obtain⟨d,_,hd⟩:=lL.1 hs;obtain⟨_,os,h1,h2⟩:=OL hd;rw[ho]at h1;cases h1
    unfold fo at mR;rw[h2]at mR
    cases mR
   simp only[getD_set_ne false dN]
 have s5:∀(listed:Array Bool)(i:Nat),(∀x,listed.getD x false=true->∀d∈jN all.toArray x,listed.getD d false=true)->(∀d∈jN all.toArray i,listed.getD d false=true)->∀x,(listed.setIfInBounds i true).getD x false=true->∀d∈jN all.toArray x,(listed.setIfInBounds i true).getD d false=true:=by
  intro listed i h1 h2 x hx d hd
  by_cases e:i=x
  ·subst e;exact getD_set_true (h2 d hd)
  ·rw[getD_set_ne false e]at hx;exact getD_set_true (h1 x hx d hd)
 have gy:∀(ws:Nat)(c:Nat->Nat)(listed:Array Bool)(a:Act)(w w':World)(i:Nat)(o:Oper)(v:Value),JS T all k w0 B ws ι H env0 avs e1 c listed a w->listed.size=all.length->all[i]?=some o->i<k->listed.getD i false=false->(∀d∈jN all.toArray i,listed.getD d false=true)->(pC all o||fo o)=false →
   Gr w w'->dG w' ι (Rd (BX all k B c listed) ι H) (avs i) v->JS T all k w0 B ws ι H env0 avs e1 c (listed.setIfInBounds i true) (a.put o.dst v) w':=by
  intro ws c listed a w w' i o v hJ tH ho jP oG hdp sp hg hv;rw[cG]at sp;obtain⟨jA,mR⟩:=sp;have vP:i<listed.size:=by rw[tH];exact(aC.1 ho).1
  have fg:∀x,LA all k (listed.setIfInBounds i true) x->LA all k listed x:=fun x hx=>we hx fun e=>by
   exact Vt
  have CJ:∀b,BX all k B c listed b->BX all k B c (listed.setIfInBounds i true) b:=fun b hb=>⟨hb.1,fun x hx=>hb.2 x (fg x hx)⟩
  have qH:=hJ.rel.regrow (B':=BX all k B c (listed.setIfInBounds i true)) hg (fun b _ hb=>CJ b hb) (fun b hb=>CJ b ((hJ.rel.grow hg).fut b hb))
  have be:dG w' ι (Rd (BX all k B c (listed.setIfInBounds i true)) ι H) (avs i) v:=by
   have ri:bS none w' ι (Rd (BX all k B c listed) ι H) w' ι (Rd (BX all k B c (listed.setIfInBounds i true)) ι H):=⟨nR _,fun b hb _=>⟨⟨CJ b hb.1,hb.2⟩,rfl⟩,fun _ _ _ _ h=>h⟩
   exact hv.keep0 ri
  refine⟨by rw[jd];exact hJ.defers,by cases o.dst<;>simp[Act.put,hJ.size],j9 hJ.pin (f9 o (aH ho)) _,aR hJ.grow hg.size,qH.1,fun x ox m hx jD hm=>?_,fun x y hx hy=>hJ.inj x y (fg x hx) (fg y hy),s5 listed i hJ.closed hdp,fun x ox t jD vB jT zJ wD=>?_,fun t ht=>?_⟩
  ·obtain⟨h1,⟨arr,h3,YQ⟩,h4⟩:=hJ.made x ox m (fg x hx) jD hm;refine⟨h1,⟨arr,by rw[hg.block _ (n7 h3)];exact h3,by rw[HR listed i o ox m ho mR];exact YQ.keep0 qH.2⟩,fun d hd=>?_⟩
   have nC:x≠i:=fun e=>by
    subst e;obtain⟨o',g1,g2⟩:=hx.2.2;rw[ho]at g1;cases g1
    rw[jA]at g2;cases g2
   rw[n8 (nV x i ox o d jD ho nC hd)];exact h4 d hd
  ·by_cases nC:x=i
   ·subst nC;rw[ho]at jD;cases jD
    rw[wD];rw[PC C2];exact be
   ·rw[getD_set_ne false (fun e=>nC e.symm)]at jT
    rw[n8 (nV x i ox o t jD ho nC wD)];exact(hJ.vals x ox t jD vB jT zJ wD).keep0 qH.2
  ·have dN:o.dst≠some t:=ht i o ho jP (AP vP);rw[n8 dN];exact(hJ.rest t fun x ox jD vB jT=>ht x ox jD vB (getD_set_true jT)).keep0 qH.2
 have HT:∀(c:Nat->Nat)(a:Act)(w:World)(n m:Nat)(ι:Pl)(H:AH)(env:List AV),m+n=k →
   eX w0 (fun b=>B b/\∀i o,m<=i->i<k->all[i]?=some o->pC all o=true->b≠c i) w ι H->nQ w ι (Rd (fun b=>B b/\∀i o,m<=i->i<k->all[i]?=some o->pC all o=true->b≠c i) ι H) env a.tmps →
   (∀i o,m<=i->i<k->all[i]?=some o->pC all o=true->w0.own (c i)/\¬jB ι H (c i)/\(∃mk cs arr,ly T e1 o=some mk/\AU T all k e1 o mk=some cs/\mk.Ok mk.cs/\w.heap[c i]?=some (.cells arr mk.t (0,0))/\AF w ι (Rd (fun b=>B b/\∀i o,m<=i->i<k->all[i]?=some o->pC all o=true->b≠c i) ι H) cs arr/\∀d,o.dst=some d->a.eval (.tmp d)=mk.val (c i))) →
   (∀i j oi oj,m<=i->i<k->m<=j->j<k->all[i]?=some oi->all[j]?=some oj->pC all oi=true->pC all oj=true->c i=c j->i=j)->(a.defers=w0.ds/\∀t v,w0.pin t=some v->a.tmps[t]?=some v)->a.tmps.size=nt →
   vp T all k e1 n (all.drop m) env H (fun env2 H2=>vW P G bG T all Q (all.drop k) env2 H2)->wpList P all.toArray (sJ w0 B nt Q) (all.drop k) a w:=by
  intro c a w n
  induction n with
  |zero=>
   intro m ι H env MQ hR hE _ _ hd dR h;have GZ:m=k:=eC
   have qH:=hR.regrow (B':=B) (Gr.refl _) (fun b _ hb=>hb.1) (fun b hb=>(hR.fut b hb).1)
   refine AO hT iM gS _ (fun o ho=>f9 o (jE ho)) env H a w h ⟨hd.1,dR,hd.2,ι,qH.1,⟨hE.len,fun t x v hx hv=>(hE.at_ t x v hx hv).keep0 qH.2⟩⟩
  |succ n ih=>
   intro m ι H env MQ hR hE rf HG hd dR h;have qJ:m<all.length:=eC
   have ho:all[m]?=some all[m]:=aB qJ;rw[cU qJ]at h;unfold vp at h
   cases jA:pC all all[m]with
   |false=>
    rw[aD (by rw[jA];simp)]at h
    have qH:=hR.regrow (B':=fun b=>B b/\∀i o,m+1<=i->i<k->all[i]?=some o->pC all o=true->b≠c i) (Gr.refl _) (fun b _ hb=>⟨hb.1,fun i o h1 h2 h3 h4=>hb.2 i o oM h2 h3 h4⟩) (fun b hb=>⟨(hR.fut b hb).1,fun i o h1 h2 h3 h4=>(hR.fut b hb).2 i o oM h2 h3 h4⟩)
    exact ih (m+1) ι H env oM qH.1 ⟨hE.len,fun t x v hx hv=>(hE.at_ t x v hx hv).keep0 qH.2⟩ (fun i o h1 h2 h3 h4=>by
     obtain⟨g1,g2,mk,cs,arr,g3,g4,g5,g6,g7,g8⟩:=rf i o oM h2 h3 h4
     exact⟨g1,g2,mk,cs,arr,g3,g4,g5,g6,g7.keep0 qH.2,g8⟩) (fun i j oi oj h1 h2 h3 h4=>HG i j oi oj oM h2 oM h4) hd dR h
   |true=>
    rw[aF jA]at h;obtain⟨qV,mS,mk,cs,arr,GZ,cZ,cV,gJ,zZ,GU⟩:=rf m all[m] (nR _) oM ho jA
    rw[GZ]at h
    split at h
    ·rename_i mk2 d e2 uJ
     cases e2
     rw[cZ]at h;simp only at h;have XF:¬(B (c m)/\∀i o,m<=i->i<k->all[i]?=some o->pC all o=true->c m≠c i):=fun hh=>hh.2 m all[m] (nR _) oM ho jA rfl
     have sy:∀b,(B b/\∀i o,m<=i->i<k->all[i]?=some o->pC all o=true->b≠c i)->(B b/\∀i o,m+1<=i->i<k->all[i]?=some o->pC all o=true->b≠c i):=fun b hb=>⟨hb.1,fun i o h1 h2 h3 h4=>hb.2 i o oM h2 h3 h4⟩
     have WY:=z5j GZ cZ cV;have Mi:=hR.adopt (B':=fun b=>B b/\∀i o,m+1<=i->i<k->all[i]?=some o->pC all o=true->b≠c i) gJ qV mS XF sy zZ WY
     refine ih (m+1) _ _ _ oM Mi.1 ⟨by simp[hE.len],fun t' x v hx hv=>?_⟩ (fun i o Zm h2 h3 h4=>?_) (fun i j oi oj h1 h2 h3 h4=>HG i j oi oj oM h2 oM h4) hd dR h
     ·by_cases e:d=t'
      ·subst e;have jJ:d<env.length:=by rw[hE.len,dR,<- rF];exact mj m all[m] d ho uJ
       rw[mH jJ]at hx
       cases hx
       have be:v=mk.val (c m):=by
        have:=GU d uJ
        simp only[Act.eval,fU,hv]at this;exact this
       subst be;rw[<-hR.len];unfold MK.av MK.val
       cases hr:mk.rows with
       |none=>exact .own _ 0 _ _ (dv _ _)
       |some x=>
        obtain⟨s,len,rs⟩:=x;obtain⟨rfl,bl,hs,hl,D6⟩:=WY s len rs hr;have WH:arr.size=len*s:=by rw[zZ.1,hl]
        have rP:mk.shape arr.size=(s,arr.size):=by unfold MK.shape;rw[hr]
        rw[rP]
        have:=dG.osl (w:=w) (ι:=ι++[(some (c m),s,arr.size)]) (R:=Rd (fun b=>B b/\∀i o,m+1<=i->i<k->all[i]?=some o->pC all o=true->b≠c i) (ι++[(some (c m),s,arr.size)]) (H++[some (mk.blk mk.cs)])) ι.length 0 len (c m) len (s,arr.size) (dv _ _) (nR _) D6 (by simp[WH])
        simpa using this
      ·rw[oC e]at hx;exact(hE.at_ t' x v hx hv).keep0 Mi.2
     ·obtain⟨g1,g2,mk3,cs3,arr3,g3,g4,g5,g6,g7,g8⟩:=rf i o oM h2 h3 h4
      refine⟨g1,fun iV=>?_,mk3,cs3,arr3,g3,g4,g5,g6,g7.keep0 Mi.2,g8⟩
      obtain⟨kk,b',s',q1,q2⟩:=iV
      rcases rY q1 with⟨hl,q1⟩|⟨rfl,e⟩
      ·rcases rY q2 with⟨pM,q2⟩|⟨e,_⟩
       ·exact g2 ⟨kk,b',s',q1,q2⟩
       ·rw[hR.len]at e;omega
      ·rw[<-hR.len,dv]at q2;have q3:c i=c m:=by
        simp only[bQ,Prod.mk.injEq]at q2;exact q2.1.symm
       have:=HG i m o all[m] oM h2 (nR _) oM h3 ho h4 jA q3
       omega
    ·rename_i Lt;obtain⟨_,_,d,_,_,uJ⟩:=sr m all[m] oM ho jA
     exact absurd rfl (Lt _ d · uJ)
 refine Qe k 8 (fun listed a w'=>∃c,JS T all k w0 B w.heap.size ι H env0 avs e1 c listed a w') hm gp lI ?_ ?_ ?_
 ·
  have rR:∀i,(Array.replicate all.length false).getD i false=false:=fun i=>by by_cases h:i<all.length<;>simp[h]
  have qH:=gU.regrow (w':=w.drew) (B':=BX all k B (fun _=>0) (Array.replicate all.length false)) ((Below.refl _ _).drew) (fun b _ hb=>⟨hb,fun i hi=>by have:=hi.2.1;rw[rR]at this;cases this⟩) (fun b hb=>⟨gU.fut b (by simpa using hb),fun i hi=>by have:=hi.2.1;rw[rR]at this;cases this⟩)
  have XA:∀i,¬LA all k (Array.replicate all.length false) i:=fun i hi=>by
   have:=hi.2.1
   rw[rR]at this
   cases this
  exact⟨fun _=>0,kc,by rw[rF];exact kM,nv,nR _,qH.1,fun i o m hi=>absurd hi (XA i),fun i j hi=>absurd hi (XA i),(fun i hl=>by rw[rR]at hl;cases hl),(fun i o t _ _ hl=>by rw[rR]at hl;cases hl),fun t _=>(CH.eval (.tmp t)).keep0 qH.2⟩
 ·
  intro listed a' w' i o ⟨c,hJ⟩ tH gT ho jP oG;have sw:G w':=iM _ hJ.rel.gr;have ig:∀f,a'.eval (.func f)=.func (.func f) #[] #[]:=fun _=>rfl
  have hf:=hF i o jP UQ
  rw[cF]at hf;have WX:=cw w.heap.size c listed a' w' i i o hJ gT ho jP (nR _) oM
  have r9:=cw w.heap.size c listed a' w' i k o hJ gT ho jP oM (nR _)
  rw[rG]at r9;have quiet:QS P G o (iJ all avs 0 i env0) H (avs i)->(pC all o||fo o)=false->au P (fun v w''=>∃c,JS T all k w0 B w.heap.size ι H env0 avs e1 c (listed.setIfInBounds i true) (a'.put o.dst v) w'') ((execOp a'.eval o).run P w'):=by
   intro hq jA
   have:=hq w0 (BX all k B c listed) w' ι a'.eval hJ.rel sw WX ig
   generalize (execOp a'.eval o).run P w'=r at *
   cases r with
   |ok n w''=>
    cases n<;>simp only[au]at this ⊢
    ·exact Vw
    ·exact Vw
    ·exact this.mono fun e w'' ⟨v,he,h1,h2⟩=>⟨v,he,c,gy _ c listed a' w' w'' i o _ hJ tH ho jP oG gT jA h1 h2⟩
   |halt x w''=>simp only[au]at this
  rcases hf with⟨sp,Yu⟩|⟨jA,hf⟩
  ·have vP:i<listed.size:=by rw[tH];exact(aC.1 ho).1
   have cQ:∀x,LA all k listed x->c x<w'.heap.size:=fun x hx=>by
    obtain⟨ox,jD,zJ⟩:=hx.2.2;obtain⟨m,_,_,hm,_,_⟩:=sr x ox hx.1 jD zJ;obtain⟨_,⟨_,h3,_⟩,_⟩:=hJ.made x ox m hx jD hm;exact n7 h3
   cases jA:pC all o with
   |true=>
    obtain⟨m,_,d,hm,_,uJ⟩:=sr i o jP ho jA;have gI:=pJ i o jP ho;unfold EM at gI;simp only[gK,jA,tU,bI]at gI;have XP:o.guard=none:=by simpa using gI.1.2.1
    rw[aF (by simp[Region.wanted,XP])]
    obtain⟨arr,dS,zZ⟩:=Tf hT hm r9;rw[dS];obtain⟨c',eP,cy⟩:∃c':Nat->Nat,c' i=w'.heap.size/\∀x,x≠i->c' x=c x:=⟨fun x=>if x=i then w'.heap.size else c x,by simp,fun x hx=>by simp[hx]⟩
    have hg:Gr w' (w'.alloc (.cells arr m.t)):=(Below.refl _ _).alloc (nR _) _;have CJ:∀b,b<w'.heap.size->BX all k B c listed b->BX all k B c' (listed.setIfInBounds i true) b:=fun b hb Z5=>⟨Z5.1,fun x hx=>by
     by_cases nC:x=i
     ·subst nC;rw[eP];omega
     ·rw[cy x nC];exact Z5.2 x (we hx nC)⟩
    have qH:=hJ.rel.regrow (B':=BX all k B c' (listed.setIfInBounds i true)) hg CJ (fun b hb=>⟨(hJ.rel.fut b (by simp at hb;omega)).1,fun x hx=>by
     by_cases nC:x=i
     ·subst nC;rw[eP];simp at hb;omega
     ·rw[cy x nC];have:=cQ x (we hx nC);simp at hb;omega⟩)
    have rv:fm all k e1 listed o m=m.cs:=by
     unfold fm
     cases hs:o.dst.bind (mw all k)with
     |none=>rfl
     |some x=>
      obtain⟨s,t,y⟩:=x;obtain⟨d',wO,Lm⟩:=lL.1 hs;obtain⟨lQ,os,h1,h2⟩:=OL Lm;have Li:listed.getD s false=false:=by
       cases hl:listed.getD s false with
       |false=>rfl
       |true=>
        have mR:fo os=true:=by unfold fo;rw[h2]
        have gI:=pJ s os lQ h1;unfold EM at gI;simp only[gK,mR,tU,bI,h2]at gI;obtain⟨j,hj,bj⟩:=fY.1 gI.2.2.2
        split at bj
        ·rename_i oj GV;simp only[gK,beq_iff_eq]at bj;have Db:j=i:=by
          apply jS;intro dN;exact nV j i oj o d' GV ho dN bj.2 wO
         subst Db
         have:=hJ.closed s hl j hj
         rw[oG]at this
         cases this
        ·cases bj
      simp only[Li]
    refine⟨c',by rw[jd];exact hJ.defers,by rw[lh];exact hJ.size,j9 hJ.pin (f9 o (aH ho)) _,aR hJ.grow hg.size,qH.1,fun x ox mx hx jD GY=>?_,fun x y hx hy gh=>?_,s5 listed i hJ.closed gT,fun x ox tx jD vB jT zJ wD=>?_,fun tx ht=>?_⟩
    ·by_cases nC:x=i
     ·subst nC;rw[ho]at jD;cases jD
      rw[hm]at GY;cases GY
      rw[eP];refine⟨hJ.grow,⟨arr,heap_alloc_new _ _,?_⟩,fun d' wO=>?_⟩
      ·rw[HR listed x o o m ho (R8 jA),rv];exact zZ.keep0 qH.2
      ·rw[uJ]at wO;cases wO
       rw[uJ,PC (by rw[hJ.size];exact mj x o d ho uJ)]
     ·rw[cy x nC];obtain⟨h1,⟨arr',h3,YQ⟩,h4⟩:=hJ.made x ox mx (we hx nC) jD GY;refine⟨h1,⟨arr',by rw[hg.block _ (n7 h3)];exact h3,by rw[HR listed i o ox mx ho (R8 jA)];exact YQ.keep0 qH.2⟩,fun d' wO=>?_⟩
      rw[n8 (nV x i ox o d' jD ho nC wO)];exact h4 d' wO
    ·by_cases nC:x=i
     ·by_cases GD:y=i
      ·rw[nC,GD]
      ·rw[nC]at gh;rw[eP,cy y GD]at gh
       have:=cQ y (we hy GD);omega
     ·by_cases GD:y=i
      ·rw[GD]at gh;rw[eP,cy x nC]at gh
       have:=cQ x (we hx nC);omega
      ·rw[cy x nC,cy y GD]at gh;exact hJ.inj x y (we hx nC) (we hy GD) gh
    ·have nC:x≠i:=fun e=>by subst e;rw[ho]at jD;cases jD;rw[jA]at zJ;cases zJ
     rw[getD_set_ne false (fun e=>nC e.symm)]at jT
     rw[n8 (nV x i ox o tx jD ho nC wD)];exact(hJ.vals x ox tx jD vB jT zJ wD).keep0 qH.2
    ·have dN:o.dst≠some tx:=ht i o ho jP (AP vP);rw[n8 dN];exact(hJ.rest tx fun x ox jD vB jT=>ht x ox jD vB (getD_set_true jT)).keep0 qH.2
   |false=>
    have mR:fo o=true:=by rw[jA]at sp;simpa using sp
    obtain⟨t,x,y,nD⟩:∃t x y,o.op=.store t x y:=by
     unfold fo at mR
     split at mR
     ·exact⟨_,_,_,by assumption⟩
     ·cases mR
    have gI:=pJ i o jP ho;unfold EM at gI;simp only[gK,mR,tU,bI,nD]at gI;obtain⟨⟨XP,vH⟩,kS⟩:=gI.2;clear gI;have XP:o.guard=none:=by simpa using XP
    have vH:o.dst=none:=by simpa using vH
    split at kS
    ·rename_i t' d y' iZ;simp only[Op.store.injEq]at iZ;obtain⟨rfl,rfl,rfl⟩:=iZ;simp only[gK,beq_iff_eq]at kS;obtain⟨WL,Mh⟩:=kS;obtain⟨j,hj,bj⟩:=fY.1 Mh
     split at bj
     ·rename_i oj GV;simp only[gK,beq_iff_eq]at bj;obtain⟨mf,rl⟩:=bj;have Db:=gW i j hj;have nU:=gT j hj;have M4:LA all k listed j:=⟨by omega,nU,oj,GV,mf⟩
      obtain⟨m,cs,d',hm,cZ,uJ⟩:=sr j oj oM GV mf
      rw[rl]at uJ;cases uJ
      obtain⟨s,hs⟩:∃s,mw all k d=some s:=by
       cases hs:mw all k d with
       |none=>rw[hs]at WL;cases WL
       |some s=>exact⟨s,rfl⟩
      obtain⟨s,t',y'⟩:=s;rw[hs]at WL;simp only[fM,bQ]at WL;subst WL;obtain⟨_,os,h1,h2⟩:=OL hs;rw[ho]at h1;cases h1
      rw[nD]at h2;simp only[Op.store.injEq,true_and]at h2;obtain⟨rfl,rfl⟩:=h2;have wS:oj.dst.bind (mw all k)=some (s,t,y):=by rw[rl];exact hs
      unfold AU at cZ;rw[wS]at cZ;simp only at cZ
      split at cZ
      ·rename_i ta ti hja BQ
       split at cZ
       ·rename_i hc
        cases cZ
        obtain⟨VY,⟨arr,iu,zZ⟩,GU⟩:=hJ.made j oj m M4 GV hm;have rv:fm all k e1 listed oj m=m.cs:=by
         unfold fm;rw[wS];simp only[oG]
        rw[rv]at zZ;have hmr:m.rows=none:=by
         unfold ly at hm;rw[hja]at hm;simp only at hm
         split at hm
         ·split at hm
          ·cases hm;rfl
          ·cases hm
         ·cases hm
        have hp:=GU d rl;unfold MK.val at hp;rw[hmr]at hp;simp only at hp;have hy:=PD (r9 y (by rw[nD];simp[Op.operands])) hc.1
        have pK:∀v∈(a'.eval y).cells.toList,v.oneCell'=true:=fun v hv=>by
         obtain⟨n,hn⟩:=nH.1 hv;have sH:n<(rA (bR e1 y)).length:=by rw[hy.1];simpa using(aC.1 hn).1
         obtain⟨u,hu,h1,_⟩:=hy.2 n _ (aB sH)
         have:u=v:=by
          have h4:(a'.eval y).cells[n]?=some v:=by simpa using hn
          rw[hu]at h4;exact bA h4
         subst this;exact h1
        have xy:(a'.eval y).cells.size=ti.size:=by rw[<-hy.1];exact hc.2.1
        have sn:arr.size=ti.size:=by rw[zZ.1];exact hc.2.2.symm
        have hle:0+(a'.eval y).cells.toList.length<=arr.size:=by simp[xy,sn]
        rw[aF (by simp[Region.wanted,XP]),Ey hT nD BQ hp iu xy (by simp[xy,sn]) pK]
        have hh:=setRow_heap w' (c j) arr (arr.toList.take 0++(a'.eval y).cells.toList++arr.toList.drop (0+(a'.eval y).cells.toList.length)).toArray m.t (0,0) iu;obtain⟨arr2,CD⟩:∃x,(arr.toList.take 0++(a'.eval y).cells.toList++arr.toList.drop (0+(a'.eval y).cells.toList.length)).toArray=x:=⟨_,rfl⟩
        have Me:AF w' ι (Rd (BX all k B c listed) ι H) (rA (bR e1 y)) arr2:=by
         rw[<-CD];refine⟨by rw[Q5 hle,sn];exact hc.2.1.symm,fun n an hn=>?_⟩
         have sH:=(aC.1 hn).1;rw[Fo hle,aF ⟨by omega,by simp[xy];have:=hc.2.1;omega⟩]
         obtain⟨u,hu,h1,hr⟩:=hy.2 n an hn;exact⟨u,by simpa using hu,h1,hr⟩
        rw[CD]at hh ⊢;have gD:=hJ.rel.poke (c:=c j) (.inr (aR gU.size VY)) (fun iV=>by have:=gU.lt iV;omega) (fun hb=>hb.2 j M4 rfl) (w':=w'.setRow (c j) arr2) rfl rfl rfl dL (fun d hd=>setRow_other w' (c j) d _ hd)
        have fg:∀x,LA all k (listed.setIfInBounds s true) x->LA all k listed x:=fun x hx=>we hx fun e=>by
         exact Vt
        have CJ:∀b,BX all k B c listed b->BX all k B c (listed.setIfInBounds s true) b:=fun b hb=>⟨hb.1,fun x hx=>hb.2 x (fg x hx)⟩
        have qH:=gD.1.regrow (B':=BX all k B c (listed.setIfInBounds s true)) (Gr.refl _) (fun b _ hb=>CJ b hb) (fun b hb=>CJ b (gD.1.fut b hb))
        have yc:(w'.setRow (c j) arr2).heap.size=w'.heap.size:=dL
        simp only[au];rw[vH];refine⟨c,hJ.defers,hJ.size,hJ.pin,by rw[yc];exact hJ.grow,qH.1,fun x ox mx hx jD GY=>?_,fun x y hx hy=>hJ.inj x y (fg x hx) (fg y hy),s5 listed s hJ.closed gT,fun x ox tx jD vB jT zJ wD=>?_,fun tx ht=>?_⟩
        ·obtain⟨g1,⟨arr',g3,g3'⟩,g4⟩:=hJ.made x ox mx (fg x hx) jD GY
         by_cases VW:x=j
         ·subst VW;rw[GV]at jD;cases jD
          rw[hm]at GY;cases GY
          refine⟨g1,⟨arr2,hh,?_⟩,g4⟩;have ru:fm all k e1 (listed.setIfInBounds s true) oj m=rA (bR e1 y):=by
           unfold fm;rw[wS];simp only[AP vP]
          rw[ru];exact(Me.keep0 gD.2).keep0 qH.2
         ·have cy:c x≠c j:=fun e=>VW (hJ.inj x j (fg x hx) M4 e)
          refine⟨g1,⟨arr',by rw[setRow_other w' (c j) (c x) _ cy];exact g3,?_⟩,g4⟩
          have ru:fm all k e1 (listed.setIfInBounds s true) ox mx=fm all k e1 listed ox mx:=by
           unfold fm
           cases D2:ox.dst.bind (mw all k)with
           |none=>rfl
           |some z=>
            obtain⟨s2,t2,y2⟩:=z;have dN:s≠s2:=fun e=>by
             subst e;obtain⟨d2,zY,Ll⟩:=lL.1 D2;obtain⟨_,o2,q1,q2⟩:=OL Ll;rw[ho]at q1;cases q1
             rw[nD]at q2;simp only[Op.store.injEq,Operand.tmp.injEq]at q2;have e2:=q2.2.1;subst e2;exact nV x j ox oj d jD GV VW zY rl
            simp only[getD_set_ne false dN]
          rw[ru];exact(g3'.keep0 gD.2).keep0 qH.2
        ·have zG:x≠s:=fun e=>by subst e;rw[ho]at jD;cases jD;rw[vH]at wD;cases wD
         rw[getD_set_ne false (fun e=>zG e.symm)]at jT
         exact((hJ.vals x ox tx jD vB jT zJ wD).keep0 gD.2).keep0 qH.2
        ·exact((hJ.rest tx fun x ox jD vB jT=>ht x ox jD vB (getD_set_true jT)).keep0 gD.2).keep0 qH.2
       ·cases cZ
      ·cases cZ
     ·cases bj
    ·cases kS
  ·rcases hf with⟨hg,hq⟩|⟨j,want,b,hg,hb,s9⟩
   ·rw[aF LP]
    exact quiet hq jA
   ·
    have gI:=pJ i o jP ho;unfold EM at gI;simp only[gK,hg]at gI;have rl:j∈jN all.toArray i:=by simpa using gI.1.1.2.1
    obtain⟨tj,yb⟩:=NB.1 gI.1.1.2.2;have Db:=gW i j rl;have nU:=gT j rl;have qo:u5 all.toArray a'.eval j=b:=by
     unfold EK at hb;rw[yb]at hb;simp only at hb
     cases bj:all[j]? with
     |none=>rw[bj]at yb;cases yb
     |some oj=>
      have rk:oj.dst=some tj:=by rw[bj]at yb;simpa using yb
      have cC:=mj j oj tj bj rk;have he:(iJ all avs 0 i env0)[tj]?=some (avs j):=DX yb i env0 Db cC fun x hx VW=>by
       cases GF:all[x]? with
       |none=>simp
       |some ox=>simpa using nV j x oj ox tj bj GF (iW VW) rk
      rw[aL,he]at hb;simp only[jK]at hb;have mf:pC all oj=false:=by
       cases mf:pC all oj with
       |false=>rfl
       |true=>
        rcases hF j oj oM (by simpa using bj)with⟨_,rj⟩|⟨hh,_⟩
        ·rw[cF]at rj;rw[rj]at hb;cases hb
        ·rw[mf]at hh;cases hh
      have hr:=hJ.vals j oj tj bj oM nU mf rk
      split at hb
      ·rename_i x' eb
       cases hb
       rw[eb]at hr;unfold u5;simp only[xL];rw[yb];simp only;rw[jW hr]
       cases x'<;>rfl
      ·cases hb
    rcases s9 with⟨e,hq⟩|⟨e,hu⟩
    ·rw[aF (by simp[Region.wanted,hg,qo,e])]
     exact quiet hq jA
    ·rw[aD (by simpa [Region.wanted,hg,qo]using e)]
     refine⟨c,gy _ c listed a' w' w' i o _ hJ tH ho jP oG gT jA (Gr.refl _) ?_⟩;rw[hu];exact .p _ _ (.v _)
 ·
  intro listed a' w' ⟨c,hJ⟩ eH;have fg:∀i o,i<k->all[i]?=some o->pC all o=true->LA all k listed i:=fun i o hi ho jA=>⟨hi,eH i hi,o,ho,jA⟩
  have qH:=hJ.rel.regrow (B':=fun b=>B b/\∀i o,0<=i->i<k->all[i]?=some o->pC all o=true->b≠c i) (Gr.refl _) (fun b _ hb=>⟨hb.1,fun i o _ h2 h3 h4=>hb.2 i (fg i o h2 h3 h4)⟩) (fun b hb=>⟨(hJ.rel.fut b hb).1,fun i o _ h2 h3 h4=>(hJ.rel.fut b hb).2 i (fg i o h2 h3 h4)⟩)
  refine HT c a' w' k 0 ι H e1 oM qH.1 ⟨by rw[<-rG,ED];exact hJ.size.symm,fun t x v hx hv=>?_⟩ (fun i o _ h2 h3 h4=>?_) (fun i j oi oj _ h2 _ h4 h5 h6 h7 h8 h9=>hJ.inj i j (fg i oi h2 h5 h7) (fg j oj h4 h6 h8) h9) ⟨hJ.defers,hJ.pin⟩ (by rw[hJ.size];exact rF) (by simpa using hK)
  ·rw[<-rG]at hx;have uv:a'.eval (.tmp t)=v:=Up
   have cC:t<env0.length:=by have:=(aC.1 hx).1;rw[ED]at this;exact this
   rcases dV (∃i o,i<k/\all[i]?=some o/\o.dst=some t)with⟨i,o,jP,ho,cx⟩|mS
   ·have wS:(all[i]?).bind (·.dst)=some t:=by rw[ho];simpa using cx
    have he:(iJ all avs 0 k env0)[t]?=some (avs i):=DX wS k env0 jP cC fun x hx nC=>by
     cases GF:all[x]? with
     |none=>simp
     |some ox=>simpa using nV i x o ox t ho GF (iW nC) cx
    rw[he]at hx;cases hx
    cases jA:pC all o with
    |true=>
     rcases hF i o jP UQ with⟨_,rj⟩|⟨hh,_⟩
     ·rw[cF]at rj;rw[rj];exact .junk _
     ·rw[jA]at hh;simp at hh
    |false=>
     have:=hJ.vals i o t ho jP (eH i jP) jA cx
     rw[uv]at this;exact this.keep0 qH.2
   ·have he:(iJ all avs 0 k env0)[t]?=env0[t]?:=KE (all:=all) (avs:=avs) k env0 fun i hi=>by
     cases hio:all[i]? with
     |none=>simp
     |some o=>simpa using fun e=>mS ⟨i,o,hi,hio,e⟩
    rw[he]at hx
    have:=hJ.rest t fun i o ho hi _ e=>mS ⟨i,o,hi,ho,e⟩
    rw[uv]at this;have e2:bR env0 (.tmp t)=x:=by simp only[bR,aL,hx];rfl
    rw[e2]at this;exact this.keep0 qH.2
  ·obtain⟨m,cs,d,hm,cZ,uJ⟩:=sr i o h2 h3 h4;obtain⟨g1,⟨arr,g2,g3⟩,g4⟩:=hJ.made i o m (fg i o h2 h3 h4) h3 hm;have oZ:fm all k e1 listed o m=cs:=by
    unfold AU at cZ;unfold fm
    cases hs:o.dst.bind (mw all k)with
    |none=>rw[hs]at cZ;exact bA cZ
    |some z=>
     obtain⟨s,t,y⟩:=z;obtain⟨d2,_,Lm⟩:=lL.1 hs;have hl:=eH s (OL Lm).1;rw[hs]at cZ;simp only[hl]at cZ ⊢
     split at cZ
     ·split at cZ
      ·exact bA cZ
      ·cases cZ
     ·cases cZ
   rw[oZ]at g3;exact⟨.inr (aR gU.size g1),fun iV=>by have:=gU.lt iV;omega,m,cs,arr,hm,cZ,Te hm,g2,g3.keep0 qH.2,g4⟩
end
def nI(next:List AV->AH->Prop)(Q:Exit->List AV->AH->Prop):Exit->List AV->AH->Prop
 | .normal,env,H=>next env H
 |e,env,H=>Q e env H
def lf(id:Nat)(Q:Exit->List AV->AH->Prop):Exit->List AV->AH->Prop
 | .exit i,env,H=>if i=id then Q .normal env H else Q (.exit i) env H
 |e,env,H=>Q e env H
inductive iU(body:(Exit->List AV->AH->Prop)->List AV->AH->Prop)(Q:Exit->List AV->AH->Prop)(env:List AV)(H:AH):Prop
 |mk (I N:Nat->List AV->AH->Prop) (h0:∃k env' H',Wk env H env' H'/\I k env' H') (hN:∀k env' H',N k env' H'->∃k2 env2 H2,Wk env' H' env2 H2/\I k2 env2 H2/\k2<k)
  (hr:∀k env H,I k env H->body (nI (N k) Q) env H)
def tC(P:Program)(G:World->Prop)(E:SO)(T:TT)(kOf:Nat->Nat):Code->(Exit->List AV->AH->Prop)->List AV->AH->Prop
 | .skip,Q,env,H=>Q .normal env H
 | .region id ops draw,Q,env,H=>if draw=true then
   ol P G E T ops.toList H (kOf id) ops.toList env fun env1=>vp T ops.toList (kOf id) env1 (kOf id) ops.toList env1 H fun env2 H2=>vW P G E T ops.toList Q (ops.toList.drop (kOf id)) env2 H2
  else vW P G E T ops.toList Q ops.toList env H
 | .seq a b,Q,env,H=>tC P G E T kOf a (nI (tC P G E T kOf b Q) Q) env H
 | .cond c a b,Q,env,H=>(match bR env c with
  | .p (.v (.bool x))=>(match x with
   |true=>tC P G E T kOf a Q env H
   |false=>tC P G E T kOf b Q env H)
  |_=>False)
 | .block id c,Q,env,H=>tC P G E T kOf c (lf id Q) env H
 | .loop c,Q,env,H=>iU (tC P G E T kOf c) Q env H
 | .exit id,Q,env,H=>Q (.exit id) env H
 | .ret,Q,env,H=>Q .ret env H
 |_,_,_,_=>False
def vZ(nt:Nat)(kOf:Nat->Nat):Code->Bool
 | .region id ops draw=>!draw||A5 nt ops.toList (kOf id)
 | .seq a b=>vZ nt kOf a&&vZ nt kOf b
 | .cond _ a b=>vZ nt kOf a&&vZ nt kOf b
 | .block _ c=>vZ nt kOf c
 | .loop c=>vZ nt kOf c
 |_=>true
theorem YV{p:Nat->Prop}(h:∃n,p n):∃n,p n/\∀m,p m->n<=m:=by
 obtain⟨n,hn⟩:=h
 induction n using Nat.strongRecOn with
 |_ n ih=>
  grind
section
variable{P:Program}{G:World->Prop}{T:TT}{w0:cJ}{B:Nat->Prop}{nt:Nat}
theorem JX{next:List AV->AH->Prop}{Q:Exit->List AV->AH->Prop}(K:Act->World->Prop)(hK:∀env H a w,next env H->St w0 B nt env H a w->K a w):∀e a w,sJ w0 B nt (nI next Q) e a w->Exit.then K (sJ w0 B nt Q) e a w:=by
 rintro e a w ⟨env,H,h,hS⟩
 cases e with
 |normal=>exact hK env H a w h hS
 |exit id=>exact⟨env,H,h,hS⟩
 |goto l=>exact⟨env,H,h,hS⟩
 |ret=>exact⟨env,H,h,hS⟩
 |panic c=>exact⟨env,H,h,hS⟩
 |outgrown=>exact⟨env,H,h,hS⟩
def fp(w0:cJ):Code->Prop
 | .region _ ops _=>∀o∈ops.toList,∀t,o.dst=some t->w0.pin t=none
 | .seq a b=>fp w0 a/\fp w0 b
 | .cond _ a b=>fp w0 a/\fp w0 b
 | .block _ c=>fp w0 c
 | .loop c=>fp w0 c
 |_=>True
theorem jb{w0:cJ}(h:∀t,w0.pin t=none):∀c:Code,fp w0 c
 | .region _ _ _=>fun _ _ t _=>h t
 | .seq a b=>⟨jb h a,jb h b⟩
 | .cond _ a b=>⟨jb h a,jb h b⟩
 | .block _ c=>jb h c
 | .loop c=>jb h c
 | .skip=>trivial
 | .exit _=>trivial
 | .ret=>trivial
 | .rangeFunc _ _ _ _=>trivial
 | .scope _=>trivial
 | .label _=>trivial
 | .goto _=>trivial
 | .refuse _=>trivial
theorem pn(hT:iE P T)(iM:∀w,uD w0 w->G w)(gS:∀b,w0.own b->B b)(hm:P.follows .mixedOrders=true)(kOf:Nat->Nat):∀(c:Code),fp w0 c->vZ nt kOf c=true->∀(Q:Exit->List AV->AH->Prop)(env:List AV)(H:AH)(a:Act)(w:World),tC P G bG T kOf c Q env H->St w0 B nt env H a w->c.wp P (sJ w0 B nt Q) a w
 | .skip,_,_,Q,env,H,a,w,h,hS=>wp_skip ⟨env,H,h,hS⟩
 | .region id ops draw,gD,cV,Q,env,H,a,w,h,hS=>by
  unfold tC at h
  split at h
  ·rename_i hd;subst hd;exact Q4 hT iM gS hm gD cV h hS
  ·rename_i hd;have wO:draw=false:=by simpa using hd
   subst wO;exact wp_region_list (AO hT iM gS _ gD env H a w h hS)
 | .seq x y,gD,cV,Q,env,H,a,w,h,hS=>by
  simp only[vZ,gK]at cV;refine wp_seq (wp_mono (pn hT iM gS hm kOf x gD.1 cV.1 _ env H a w h hS) ?_);exact JX _ fun env H a w h hS=>pn hT iM gS hm kOf y gD.2 cV.2 Q env H a w h hS
 | .cond c x y,gD,cV,Q,env,H,a,w,h,hS=>by
  simp only[vZ,gK]at cV;unfold tC at h
  split at h
  ·rename_i b e;obtain⟨ι,hR,hE⟩:=hS.rep;have hc:=hE.eval c;rw[e]at hc;refine wp_cond_split (jW hc) (fun hb=>?_) (fun hb=>?_)
   ·subst hb;exact pn hT iM gS hm kOf x gD.1 cV.1 Q env H a w h hS
   ·subst hb;exact pn hT iM gS hm kOf y gD.2 cV.2 Q env H a w h hS
  ·cases h
 | .block id c,gD,cV,Q,env,H,a,w,h,hS=>by
  unfold tC at h;refine wp_block (wp_mono (pn hT iM gS hm kOf c gD cV _ env H a w h hS) ?_)
  exact Ki
 | .loop c,gD,cV,Q,env,H,a,w,h,hS=>by
  classical
  unfold tC at h;obtain⟨I,N,⟨k1,env1,H1,nn,Mv⟩,hN,gl⟩:=h;have qq:∀env H env' H' a w,Wk env H env' H'->St w0 B nt env H a w->St w0 B nt env' H' a w:=fun env H env' H' a w hw hS=>by
   exact Vf
  have key:∃f:Act->World->Nat,(∀a w,(∃k env H,I k env H/\St w0 B nt env H a w)->∃env H,I (f a w) env H/\St w0 B nt env H a w)/\∀a w k env H,I k env H->St w0 B nt env H a w->f a w<=k:=by
   exact Xw
  obtain⟨f,XW,Yz⟩:=key;refine wp_loop (fun a w=>∃k env H,I k env H/\St w0 B nt env H a w) f ⟨k1,env1,H1,Mv,qq _ _ _ _ a w nn hS⟩ fun a' w' hI=>?_
  obtain⟨env2,H2,lV,uz⟩:=XW a' w' hI;refine wp_mono (pn hT iM gS hm kOf c gD cV _ env2 H2 a' w' (gl _ env2 H2 lV) uz) ?_;refine JX _ fun env3 H3 a3 w3 Lu o7=>?_
  grind
 | .exit id,_,_,Q,env,H,a,w,h,hS=>wp_exit ⟨env,H,h,hS⟩
 | .ret,_,_,Q,env,H,a,w,h,hS=>wp_ret ⟨env,H,h,hS⟩
 | .rangeFunc _ _ _ _,_,_,_,_,_,_,_,h,_=>h.elim
 | .scope _,_,_,_,_,_,_,_,h,_=>h.elim
 | .label _,_,_,_,_,_,_,_,h,_=>h.elim
 | .goto _,_,_,_,_,_,_,_,h,_=>h.elim
 | .refuse _,_,_,_,_,_,_,_,h,_=>h.elim
end
section
variable{P:Program}{G:World->Prop}{T:TT}{w0:cJ}{B:Nat->Prop}{nt:Nat}
def bw(T:TT)(env:List AV)(H:AH):List ResultVar->(List AV->Prop)->Prop
 |[],K=>K []
 | .tmp t::rs,K=>bw T env H rs fun as=>K (env.getD t .junk::as)
 | .cell a t::rs,K=>(match T t with
  |some i=>KM i (env.getD a .junk) H fun x=>bw T env H rs fun as=>K (x::as)
  |none=>False)
def jG(E:SO)(T:TT)(rs:List ResultVar)(r:PV)(e:Exit)(env:List AV)(H:AH):Prop:=
 match e with
 | .ret=>bw T env H rs fun as=>(match as with
  |[a]=>cg E H a fun p=>p=r
  |as=>cg E H (.tup as) fun p=>p=r)
 | .normal=>bw T env H rs fun as=>(match as with
  |[a]=>cg E H a fun p=>p=r
  |as=>cg E H (.tup as) fun p=>p=r)
 | .panic ch=>r=.pan ch
 |_=>False
def B6(tmps:Array Value)(r:ResultVar):Sem Value:=match r with
 | .tmp t=>pure (tmps.getD t undef)
 | .cell a t=>do loadVar t (← asAddr (tmps.getD a undef))
theorem zza(fn:Func)(tmps:Array Value):results fn tmps=(do let vs<-fn.results.mapM (B6 tmps);pure (if h:vs.size=1 then vs[0]else .tuple vs)):=rfl
theorem En(hT:iE P T){w:World}{ι:Pl}{H:AH}{env:List AV}{tmps:Array Value}(hR:eX w0 B w ι H)(hE:nQ w ι (Rd B ι H) env tmps):∀(rs:List ResultVar)(K:List AV->Prop),bw T env H rs K →
  ∃as vs,K as/\(rs.mapM (B6 tmps)).run P w=.ok vs w/\as.length=vs.length/\∀(j:Nat)(a:AV)(v:Value),as[j]?=some a->vs[j]?=some v->dG w ι (Rd B ι H) a v
 |[],K,h=>⟨[],[],h,rfl,rfl,fun j a v ha=>by simp at ha⟩
 | .tmp t::rs,K,h=>by
  obtain⟨as,vs,hK,dS,hl,hr⟩:=En hT hR hE rs _ h;refine⟨_,tmps.getD t undef::vs,hK,?_,by simp[hl],fun j a v ha hv=>?_⟩
  ·rw[CM];simp only[B6,Sem.run_bind,Sem.run_pure,Result.andThen_ok,dS]
  ·cases j with
   |zero=>
    simp at ha hv
    have:=hE.eval (a:=⟨tmps,[]⟩) (.tmp t)
    simp only[bR,Act.eval]at this;simp_all
   |succ j=>grind
 | .cell c t::rs,K,h=>by
  unfold bw at h
  split at h
  ·rename_i i ht;have h':KM i (bR env (.tmp c)) H fun x=>bw T env H rs fun as=>K (x::as):=h
   obtain⟨x,hx,Lz⟩:=O6 (P:=P) hT ht h';obtain⟨as,vs,hK,dS,hl,hr⟩:=En hT hR hE rs _ hx;have hc:=hE.eval (a:=⟨tmps,[]⟩) (.tmp c);simp only[Act.eval]at hc;obtain⟨u,hu,yd⟩:=Lz w0 B w ι _ hR hc;refine⟨_,u::vs,hK,?_,by simp[hl],fun j a v ha hv=>?_⟩
   ·have GK:(do loadVar t (← asAddr (tmps.getD c undef)):Sem Value).run P w=.ok u w:=by
     generalize tmps.getD c undef=p at hu
     cases p with
     |pointer ad=>
      cases ad with
      |none=>simp[Instr.loadAt,Instr.sureAddr,stuck,Sem.run]at hu
      |some ad=>simpa [Instr.loadAt,Instr.sureAddr,asAddr]using hu
     |_=>simp[Instr.loadAt,Instr.sureAddr,stuck,Sem.run]at hu
    rw[CM];simp only[B6,Sem.run_bind]at GK ⊢;simp_all
   grind
  ·cases h
theorem OZ{w:World}{ι:Pl}{R:Nat->Prop}{as:List AV}{args:List Value}{nt:Nat}(_hl:as.length<=nt)(hlen:as.length=args.length)(h:∀(j:Nat)(a:AV)(v:Value),as[j]?=some a->args[j]?=some v->dG w ι R a v):
  nQ w ι R (as++List.replicate (nt-as.length) (.p (.v undef))) (args.toArray++Array.replicate (nt-args.toArray.size) undef):=by
 refine⟨by simp[hlen],fun t x v hx hv=>?_⟩
 rcases aW t as.length with cC|cC
 ·grind
 ·rw[bP cC]at hx;have jo:x=.p (.v undef):=by
   grind
  have be:v=undef:=by
   grind
  subst jo;subst be;exact .p _ _ (.v _)
theorem KH(hT:iE P T){w:World}{ι:Pl}{H:AH}{env:List AV}{tmps:Array Value}(hR:eX w0 B w ι H)(hE:nQ w ι (Rd B ι H) env tmps){fn:Func}{K:AV->Prop} (h:bw T env H fn.results.toList fun as=>(match as with
  |[a]=>K a
  |as=>K (.tup as))):∃x v,K x/\(results fn tmps).run P w=.ok v w/\dG w ι (Rd B ι H) x v:=by
 obtain⟨xs,vs,hK,dS,jT,zH⟩:=En hT hR hE _ _ h;have sP:(results fn tmps).run P w=.ok (if h:vs.toArray.size=1 then vs.toArray[0]else .tuple vs.toArray) w:=by
  rw[zza,HZ];simp_all
 split at hK
 ·rename_i x;have uE:vs.length=1:=by simpa using jT.symm
  obtain⟨v,rfl⟩:=Dq.1 uE;exact⟨x,v,hK,by rw[sP];rfl,zH 0 x v rfl rfl⟩
 ·rename_i dN;have uE:¬vs.toArray.size=1:=fun e=>by
   have:xs.length=1:=by rw[jT];simpa using e
   obtain⟨x,rfl⟩:=Dq.1 this;exact dN x rfl
  exact⟨.tup xs,.tuple vs.toArray,hK,by rw[sP,dif_neg uE],.tup xs vs jT zH⟩
theorem AN {f : FuncId} {fn : Func} {c : Code} (hf : P.funcs[f]? = some fn) (hb : fn.body = some c) (hn : (fn.name == "runtime.NumGoroutine") = false) (args : Array Value) (w : World) : (callFunc f args).run P w = .ok (.enter f args) w := by
 have ia : ¬ fn.name = "runtime.NumGoroutine" := by simpa using hn
 simp[callFunc,program,Sem.run,hf,ia,hb]
theorem U0 (hT : iE P T) (hG : ∀ w w', Gr w w' → G w → G w') (hm : P.follows .mixedOrders = true) (kOf : Nat → Nat) {f : FuncId} {fn : Func} {c : Code} (hf : P.funcs[f]? = some fn) (hb : fn.body = some c) (hn : (fn.name == "runtime.NumGoroutine") = false)
  (cV:vZ fn.ntmps kOf c=true) {as:List PV} {r:PV} (hl:as.length<=fn.ntmps) (h:tC P G bG T kOf c (jG bG T fn.results.toList r) (as.map .p++List.replicate (fn.ntmps-as.length) (.p (.v undef))) []):fS P G f as r:=by
 refine⟨AN hf hb hn,fun w B args sw hlen eG=>?_⟩
 refine calls_of_wp hf hb ?_;have hS:St (cJ.of w) (fun b=>B b\/w.heap.size<=b) fn.ntmps (as.map .p++List.replicate (fn.ntmps-as.length) (.p (.v undef))) [] { tmps:=args.toArray++Array.replicate (fn.ntmps-args.toArray.size) undef,defers:=[] } w:=by
  exact Xl
 have gS:∀b,(cJ.of w).own b->B b\/w.heap.size<=b:=fun b hb=>hb.elim (fun h=>h.elim) .inr
 refine wp_mono (pn hT (fun w' hg=>hG _ _ hg.gr sw) gS hm kOf c (jb (fun _=>rfl) c) cV _ _ _ _ w h hS) ?_
 rintro e a w' ⟨env,H,hQ,sV⟩
 obtain⟨ι,hR,hE⟩:=sV.rep;have fin:(bw T env H fn.results.toList fun as=>(match as with
  |[a]=>cg bG H a fun p=>p=r
  |as=>cg bG H (.tup as) fun p=>p=r))->a.defers=[]/\∃v,(results fn a.tmps).run P w'=.ok v w'/\Gr w w'/\pp w' (fun b=>B b\/w.heap.size<=b) r (.returned v):=by
  intro h;obtain⟨x,v,hx,dS,hv⟩:=KH (K:=fun a=>cg bG H a fun p=>p=r) hT hR hE h
  obtain⟨p,rfl,hp⟩:=JV hR gS x v _ hx hv;exact⟨sV.defers,v,dS,hR.gr.gr,.ret hp⟩
 cases e with
 |ret=>exact fin hQ
 |normal=>exact fin hQ
 |exit id=>cases hQ
 |goto l=>cases hQ
 |panic c=>exact⟨sV.defers,hR.gr.gr,by cases hQ;rfl⟩
 |outgrown=>cases hQ
theorem xA (hT : iE P T) (hG : ∀ w w', Gr w w' → G w → G w') (hm : P.follows .mixedOrders = true) (kOf : Nat → Nat) {f : FuncId} {fn : Func} {c : Code} (hf : P.funcs[f]? = some fn) (hb : fn.body = some c) (hn : (fn.name == "runtime.NumGoroutine") = false)
  (cV:vZ fn.ntmps kOf c=true) {l:List PV} {r:PV} (hl:decide (l.length<=fn.ntmps)=true)
  (h:∀(P':Program)(G':World->Prop)(E:SO),(∀f l r,fS P G f l r->fS P' G' f l r)->E=bG->tC P' G' E T kOf c (jG E T fn.results.toList r) (l.map .p++List.replicate (fn.ntmps-l.length) (.p (.v undef))) []):fS P G f l r:=
 U0 hT hG hm kOf hf hb hn cV (oT hl) (h P G bG (fun _ _ _ h=>h) rfl)
theorem xR (hT : iE P T) (hG : ∀ w w', Gr w w' → G w → G w') (hm : P.follows .mixedOrders = true) (kOf : Nat → Nat) {f : FuncId} {fn : Func} {c : Code} (hf : P.funcs[f]? = some fn) (hb : fn.body = some c) (hn : (fn.name == "runtime.NumGoroutine") = false)
  (cV:vZ fn.ntmps kOf c=true) {l:List PV} {r:PV} (hl:decide (l.length<=fn.ntmps)=true)
  (h:∀(P':Program)(G':World->Prop)(E:SO),(∀f l r,fS P G f l r->fS P' G' f l r)->(∀f as H r H',jL P G f as H r H'->jL P' G' f as H r H')->E=bG->tC P' G' E T kOf c (jG E T fn.results.toList r) (l.map .p++List.replicate (fn.ntmps-l.length) (.p (.v undef))) []):fS P G f l r:=
 U0 hT hG hm kOf hf hb hn cV (oT hl) (h P G bG (fun _ _ _ h=>h) (fun _ _ _ _ _ h=>h) rfl)
def xN(E:SO)(m:Nat)(H:AH):AV->(AV->Prop)->Prop
 | .osl k i n,K=>(match Nat.ble m k with
  |true=>(match H[k]? with
   |some (some (.rows s rs _))=>E.pre i n rs/\K (.p (.ro s (E.sub rs i n)))
   |_=>False)
  |false=>K (.osl k i n))
 | .agg cs,K=>resL cs fun as=>(match AV.toP.toPL as with
  |some ps=>K (.p (.agg ps))
  |none=>K (.agg as))
 | .tup cs,K=>resL cs fun as=>(match AV.toP.toPL as with
  |some ps=>K (.p (.tup ps))
  |none=>K (.tup as))
 |a,K=>K a
where resL:List AV->(List AV->Prop)->Prop
 |[],K=>K []
 |a::as,K=>xN E m H a fun x=>resL as fun xs=>K (x::xs)
theorem Rw(m:Nat):∀(a:AV)(p:PV),a.toP=some p->a.low m=true
 | .p x,p,h=>rfl
 | .agg cs,p,h=>by
  exact Vr
 | .tup cs,p,h=>by
  exact Vr
 | .own _ _,_,h=>by cases h
 | .orw _ _ _,_,h=>by cases h
 | .osl _ _ _,_,h=>by cases h
 | .clo _ _ _,_,h=>by cases h
 | .junk,_,h=>by cases h
where toPL_low (m:Nat):∀(cs:List AV)(ps:List PV),AV.toP.toPL cs=some ps->AV.low.lowL m cs=true
 |[],_,_=>rfl
 |a::as,ps,h=>by
  unfold AV.toP.toPL at h
  split at h
  ·rename_i x ys hx hy;simp only[AV.low.lowL,gK];exact⟨Rw m a x hx,toPL_low m as ys hy⟩
  ·cases h
theorem Nc{w:World}{ι:Pl}{R:Nat->Prop}{m:Nat}{xs:List AV}{vs:List Value}{ps:List PV}(hp:AV.toP.toPL xs=some ps)(hl:xs.length=vs.length)(h:∀(j:Nat)(x:AV)(v:Value),xs[j]?=some x->vs[j]?=some v->x.low m=true->dG w ι R x v):
  ps.length=vs.length/\∀(j:Nat)(p:PV)(v:Value),ps[j]?=some p->vs[j]?=some v->cI w R p v:=by
 have hg:=u3 xs ps hp;refine⟨by omega,fun j p v Yk hv=>?_⟩
 have hj:j<xs.length:=aX
 obtain⟨p',Lq,so⟩:=hg.2 j xs[j] (aB hj);rw[Lq]at Yk;cases Yk
 exact(h j _ v (aB hj) hv (Rw m _ _ so)).toP _ so
theorem Ax{H:AH}{w:World}{ι:Pl}{m:Nat}(hR:eX w0 B w ι H)(hB:∀b,w0.own b->B b):∀(a:AV)(v:Value)(K:AV->Prop),xN bG m H a K->dG w ι (Rd B ι H) a v->∃x,K x/\(x.low m=true->dG w (ι.take m) (Rd B (ι.take m) (H.take m)) x v)
 | .p x,v,K,h,hv=>⟨.p x,h,fun hl=>hv.trunc vw hl⟩
 | .own k j,v,K,h,hv=>⟨_,h,fun hl=>hv.trunc vw hl⟩
 | .orw k i j,v,K,h,hv=>⟨_,h,fun hl=>hv.trunc vw hl⟩
 | .clo f fs cs,v,K,h,hv=>⟨_,h,fun hl=>hv.trunc vw hl⟩
 | .junk,v,K,h,hv=>⟨_,h,fun hl=>hv.trunc vw hl⟩
 | .osl k i n,v,K,h,hv=>by
  unfold xN at h
  split at h
  ·rename_i MQ;have MQ:=aE MQ
   split at h
   ·rename_i s rs t hk;change i+n<=rs.length/\K (.p (.ro s ((rs.drop i).take n)))at h
    cases hv with
    |osl0=>
     obtain⟨hle,h⟩:=h;have e:(rs.drop i).take 0=[]:=dL
     exact⟨_,h,fun _=>.p _ _ (.ro0 _ _ _)⟩
    |osl _ _ _ c cap sz hi hn hm hz=>
     obtain⟨hle,h⟩:=h;refine⟨_,h,fun _=>.p _ _ ?_⟩
     obtain⟨es,hl,hh⟩:=(hR.blk k _ _ sz hk hi).2;have qV:=(hR.blk k _ _ sz hk hi).1 c rfl
     rcases hh with⟨ec,_⟩|⟨c',arr,ec,hb,vA,dC⟩
     ·cases ec
     cases ec
     have hlen:((rs.drop i).take n).length=n:=aX
     have aT:∀(q:Nat)(row:List PV),((rs.drop i).take n)[q]?=some row->rs[i+q]?=some row:=fun q row hr=>(G9 hr).1
     have Ln:Rd B (ι.take m) (H.take m) c:=⟨hB c qV,fun⟨k',b',s',h1,h2⟩=>by
      obtain⟨g1,g2⟩:=n9 h1
      have:=hR.inj k k' _ b' c sz s' hk g2 hi (n9 h2).2
      omega⟩
     have gJ:∀(q j:Nat)(row:List PV)(a:PV),((rs.drop i).take n)[q]?=some row->row[j]?=some a->∃u,(arr[(i+q)*sz.1+j]?).getD undef=u/\w.cell? ⟨c,i*sz.1+(q*s+j),none⟩=some u/\u.oneCell'=true/\cI w (Rd B (ι.take m) (H.take m)) a u:=by
      intro q j row a hr ha;obtain⟨u,hu,h1,yd⟩:=dC _ j row a (aT q row hr) ha;have e2:i*sz.1+(q*s+j)=(i+q)*sz.1+j:=aX
      exact⟨u,by rw[hu];rfl,by rw[ku hb,e2];exact hu,h1,yd.keep (nR _) fun b hb _=>⟨vw b hb,rfl⟩⟩
     have:=cI.ro (w:=w) (R:=Rd B (ι.take m) (H.take m)) s ((rs.drop i).take n) c (i*sz.1) cap (fun q j=>(arr[(i+q)*sz.1+j]?).getD undef) Ln (n7 hb) oM (fun q row hr=>by grind)
      (fun q j row a hr ha=>by grind) (fun q j row a hr ha=>by grind)
     grind
   ·cases h
  ·exact⟨_,h,fun hl=>hv.trunc vw hl⟩
 | .agg cs,v,K,h,hv=>by
  cases hv with
  |agg _ vs hl hr=>
   obtain⟨xs,hK,jT,zH⟩:=resL_sound hR hB cs vs _ hl hr h
   split at hK
   ·rename_i ps hp
    have:=Nc hp (jT.trans hl) zH
    exact⟨_,hK,fun _=>.p _ _ (.agg ps vs this.1 this.2)⟩
   ·exact⟨_,hK,fun kG=>.agg xs vs (jT.trans hl) fun j a v ha hv=>zH j a v ha hv (dt kG ha)⟩
 | .tup cs,v,K,h,hv=>by
  cases hv with
  |tup _ vs hl hr=>
   obtain⟨xs,hK,jT,zH⟩:=resL_sound hR hB cs vs _ hl hr h
   split at hK
   ·rename_i ps hp
    have:=Nc hp (jT.trans hl) zH
    exact⟨_,hK,fun _=>.p _ _ (.tup ps vs this.1 this.2)⟩
   ·exact⟨_,hK,fun kG=>.tup xs vs (jT.trans hl) fun j a v ha hv=>zH j a v ha hv (dt kG ha)⟩
where resL_sound {H:AH} {w:World} {ι:Pl} {m:Nat} (hR:eX w0 B w ι H) (hB:∀b,w0.own b->B b):∀(as:List AV)(vs:List Value)(K:List AV->Prop),as.length=vs.length->(∀(j:Nat)(a:AV)(v:Value),as[j]?=some a->vs[j]?=some v->dG w ι (Rd B ι H) a v)->xN.resL bG m H as K →
  ∃xs,K xs/\xs.length=as.length/\∀(j:Nat)(x:AV)(v:Value),xs[j]?=some x->vs[j]?=some v->x.low m=true->dG w (ι.take m) (Rd B (ι.take m) (H.take m)) x v
 |[],vs,K,hl,hr,h=>⟨[],h,rfl,fun j p v hp=>by simp at hp⟩
 |a::as,[],K,hl,hr,h=>by simp at hl
 |a::as,v::vs,K,hl,hr,h=>by
  obtain⟨x,hx,zH⟩:=Ax hR hB a v _ h (hr 0 a v rfl rfl);obtain⟨xs,hK,jT,zG⟩:=resL_sound hR hB as vs _ xp (fun j b u hb hu=>hr (j+1) b u (by simpa using hb) (by simpa using hu)) hx
  grind
def ZI:AH->Bool
 |[]=>true
 |none::H=>ZI H
 |some _::_=>false
theorem EC:∀{H:AH}{k:Nat}{b:cE},ZI H=true->H[k]?≠some (some b)
 |[],k,b,_=>by simp
 |none::H,0,b,_=>by simp
 |none::H,k+1,b,h=>by simpa using EC (k:=k) (b:=b) (H:=H) h
 |some _::_,_,_,h=>by cases h
def fI(E:SO)(T:TT)(rs:List ResultVar)(tags:List Nat)(r:AV)(H':AH)(e:Exit)(env:List AV)(H:AH):Prop:=
 match e with
 | .ret=>bw T env H rs fun as=>(match as with
  |[a]=>xN E H'.length H a fun x=>x=r/\H.take H'.length=dE tags H'/\kG H'.length (dE tags H')=true/\r.low H'.length=true
  |as=>xN E H'.length H (.tup as) fun x=>x=r/\H.take H'.length=dE tags H'/\kG H'.length (dE tags H')=true/\r.low H'.length=true)
 | .normal=>bw T env H rs fun as=>(match as with
  |[a]=>xN E H'.length H a fun x=>x=r/\H.take H'.length=dE tags H'/\kG H'.length (dE tags H')=true/\r.low H'.length=true
  |as=>xN E H'.length H (.tup as) fun x=>x=r/\H.take H'.length=dE tags H'/\kG H'.length (dE tags H')=true/\r.low H'.length=true)
 | .panic ch=>r=.p (.pan ch)/\ZI (dE tags H')=true
 |_=>False
def E0:Nat->(List Nat->Prop)->Prop
 |0,K=>K []
 |n+1,K=>∀t,E0 n fun ts=>K (t::ts)
theorem Py:∀{n:Nat}{K:List Nat->Prop},E0 n K->∀tags:List Nat,tags.length=n->K tags
 |0,K,h,tags,hl=>by have:=aQ hl;subst this;exact h
 |n+1,K,h,[],hl=>by simp at hl
 |n+1,K,h,t::ts,hl=>Py (h t) ts xp
theorem xcv (hT : iE P T) (hm : P.follows .mixedOrders = true) (kOf : Nat → Nat) {f : FuncId} {fn : Func} {c : Code} (hf : P.funcs[f]? = some fn) (hb : fn.body = some c) (hn : (fn.name == "runtime.NumGoroutine") = false)
  (cV:vZ fn.ntmps kOf c=true) {as:List AV} {H:AH} {r:AV} {H':AH} (hl:as.length<=fn.ntmps) (h:∀tags:List Nat,tags.length=H.length->tC P G bG T kOf c (fI bG T fn.results.toList tags r H') (as++List.replicate (fn.ntmps-as.length) (.p (.v undef))) (dE tags H)):jL P G f as H r H':=by
 refine⟨AN hf hb hn,fun B w ι args tags cC hC hR hlen eG=>?_⟩
 refine calls_of_wp hf hb ?_;have hS:St ⟨w,jB ι (dE tags H),[],fun _=>none⟩ B fn.ntmps (as++List.replicate (fn.ntmps-as.length) (.p (.v undef))) (dE tags H) { tmps:=args.toArray++Array.replicate (fn.ntmps-args.toArray.size) undef,defers:=[] } w:=
  ⟨rfl,by simp;omega,(fun t v h=>by cases h),ι,hR,OZ hl hlen eG⟩
 refine wp_mono (pn hT (fun w' hg=>hC.stab w' hg) hC.own hm kOf c (jb (fun _=>rfl) c) cV _ _ _ _ w (h tags cC) hS) ?_
 rintro e a w' ⟨env,H2,hQ,sV⟩
 obtain⟨ι2,cW,hE⟩:=sV.rep;have fin:(bw T env H2 fn.results.toList fun as=>(match as with
  |[a]=>xN bG H'.length H2 a fun x=>x=r/\H2.take H'.length=dE tags H'/\kG H'.length (dE tags H')=true/\r.low H'.length=true
  |as=>xN bG H'.length H2 (.tup as) fun x=>x=r/\H2.take H'.length=dE tags H'/\kG H'.length (dE tags H')=true/\r.low H'.length=true)) →
   a.defers=[]/\∃v,(results fn a.tmps).run P w'=.ok v w'/\∃ι',eX ⟨w,jB ι (dE tags H),[],fun _=>none⟩ B w' ι' (dE tags H')/\ak w' ι' (Rd B ι' (dE tags H')) r (.returned v):=by
  intro h;obtain⟨x,v,hx,dS,hv⟩:=KH (K:=fun a=>xN bG H'.length H2 a fun x=>x=r/\H2.take H'.length=dE tags H'/\kG H'.length (dE tags H')=true/\r.low H'.length=true) hT cW hE h
  obtain⟨y,⟨rfl,e1,e2,e3⟩,hy⟩:=Ax cW hC.own x v _ hx hv;have be:=hy e3;rw[<-e1]at e2;have qX:=cW.trunc (m:=H'.length) e2;rw[e1]at qX be;exact⟨sV.defers,v,dS,_,qX,.ret be⟩
 cases e with
 |ret=>exact fin hQ
 |normal=>exact fin hQ
 |exit id=>cases hQ
 |goto l=>cases hQ
 |panic ch=>
  obtain⟨rfl,mS⟩:=hQ;refine⟨sV.defers,List.replicate (dE tags H').length (none,0,0),⟨cW.gr,cW.fut,by simp,fun k b c s h1=>absurd h1 (EC mS),fun k l b b' c s s' h1=>absurd h1 (EC mS)⟩,rfl⟩
 |outgrown=>cases hQ
theorem z2v (hT : iE P T) (hm : P.follows .mixedOrders = true) (kOf : Nat → Nat) {f : FuncId} {fn : Func} {c : Code} (hf : P.funcs[f]? = some fn) (hb : fn.body = some c) (hn : (fn.name == "runtime.NumGoroutine") = false)
  (cV:vZ fn.ntmps kOf c=true) {as:List AV} {H:AH} {r:AV} {H':AH} (hl:decide (as.length<=fn.ntmps)=true)
  (h:∀(P':Program)(G':World->Prop)(E:SO),(∀f l r,fS P G f l r->fS P' G' f l r)->(∀f as H r H',jL P G f as H r H'->jL P' G' f as H r H')->E=bG →
   E0 H.length fun tags=>tC P' G' E T kOf c (fI E T fn.results.toList tags r H') (as++List.replicate (fn.ntmps-as.length) (.p (.v undef))) (dE tags H)):jL P G f as H r H':=
 xcv hT hm kOf hf hb hn cV (oT hl) fun tags cC=>Py (h P G bG (fun _ _ _ h=>h) (fun _ _ _ _ _ h=>h) rfl) tags cC
end
def PN(env:List AV)(live:List Nat):List AV:=live.map fun t=>env.getD t .junk
def IA(t:Nat):List Nat->List AV->AV
 |l::ls,v::vs=>(match Nat.beq t l with
  |true=>v
  |false=>IA t ls vs)
 |_,_=>.junk
def rB(live:List Nat)(vs:List AV):Nat->Nat->List AV
 |0,_=>[]
 |n+1,t=>IA t live vs::rB live vs n (t+1)
theorem Ft(live:List Nat)(vs:List AV):∀(n t:Nat),(rB live vs n t).length=n
 |0,_=>rfl
 |n+1,t=>by simp[rB,Ft live vs n]
theorem Px(live:List Nat)(vs:List AV):∀(n t i:Nat),i<n->(rB live vs n t)[i]?=some (IA (t+i) live vs)
 |0,_,_,h=>by omega
 |n+1,t,0,_=>by simp[rB]
 |n+1,t,i+1,h=>by
  simp only[rB,cD];rw[Px live vs n (t+1) i oM,show t+1+i=t+(i+1) by omega]
theorem Q2(env:List AV)(t:Nat):∀(live:List Nat),IA t live (PN env live)=env.getD t .junk/\env.getD t .junk∈PN env live\/IA t live (PN env live)=.junk
 |[]=>.inr rfl
 |l::ls=>by
  simp only[PN,kJ,IA]
  split
  ·simp_all
  ·rcases Q2 env t ls with⟨h1,h2⟩|h
   ·exact .inl ⟨h1,aV _ h2⟩
   ·exact .inr h
structure mQ{γ:Type}(n:Nat)(live:List Nat)(m:Nat)(S:γ->List AV)(h:γ->AH)(env:List AV)(H:AH)(x:γ):Prop where
 len:env.length=n
 slots:PN env live=S x
 mem:H.take m=h x
 low:AV.low.lowL m (S x)=true
 kG:kG m (h x)=true
theorem mQ.wk{γ:Type}{n:Nat}{live:List Nat}{m:Nat}{S:γ->List AV}{h:γ->AH}{env:List AV}{H:AH}{x:γ}(hh:mQ n live m S h env H x):Wk env H (rB live (S x) n 0) (h x):=by
 obtain⟨h1,h2,h3,h4,h5⟩:=hh;rw[<-h2]at h4 ⊢;rw[<-h3]at h5 ⊢;intro w0 B w ι tmps _ hR hE;refine⟨ι.take m,hR.trunc h5,by rw[Ft,<- h1];exact hE.len,fun t a v ha hv=>?_⟩
 have ht:t<n:=by
  have:=(aC.1 ha).1
  rw[Ft]at this;exact this
 rw[Px _ _ _ _ _ ht,cF]at ha
 cases ha
 rcases Q2 env t live with⟨e,hm⟩|e
 ·rw[e];have hx:env[t]?=some (env.getD t .junk):=by
   grind
  obtain⟨j,hj⟩:=List.getElem?_of_mem hm;exact(hE.at_ t _ v hx hv).trunc vw (dt h4 hj)
 ·rw[e];exact .junk _
inductive ql{γ:Type}(n:Nat)(live:List Nat)(m:Nat)(S:γ->List AV)(h:γ->AH)(I:γ->Prop)(μ:γ->Nat)(k:Nat)(env:List AV)(H:AH):Prop
 |mk (y:γ) (hh:mQ n live m S h env H y) (hI:I y) (hμ:μ y<k)
theorem gV{γ:Type}(n:Nat)(live:List Nat)(m:Nat)(S:γ->List AV)(h:γ->AH)(I:γ->Prop)(μ:γ->Nat)(x0:γ){body:(Exit->List AV->AH->Prop)->List AV->AH->Prop}{Q:Exit->List AV->AH->Prop}{env:List AV}{H:AH}
  (h0:mQ n live m S h env H x0) (hI:I x0)
  (hr:∀x,I x->body (nI (ql n live m S h I μ (μ x)) Q) (rB live (S x) n 0) (h x)):iU body Q env H:=by
 refine .mk (fun k env H=>∃x,I x/\env=rB live (S x) n 0/\H=h x/\μ x=k) (ql n live m S h I μ) ⟨_,_,_,h0.wk,x0,hI,rfl,rfl,rfl⟩ ?_ ?_
 ·rintro k env' H' ⟨y,hh,hI,hμ⟩
  exact⟨_,_,_,hh.wk,⟨y,hI,rfl,rfl,rfl⟩,hμ⟩
 ·rintro k env H ⟨x,hx,rfl,rfl,rfl⟩
  exact hr x hx
inductive qk{γ:Type}(n:Nat)(live:List Nat)(m:Nat)(S:γ->List AV)(h:γ->AH)(I:γ->Prop)(μ:γ->Nat)(k:Nat)(env:List AV)(H:AH):Prop
 |mk (y:γ) (hh:mQ n live m S h env H y) (hI:I y) (hμ:μ y<k)
 |wk (y:γ) (env1:List AV) (H1:AH) (hw:Wk env H env1 H1) (hh:mQ n live m S h env1 H1 y) (hI:I y) (hμ:μ y<k)
theorem Ed{γ:Type}(n:Nat)(live:List Nat)(m:Nat)(S:γ->List AV)(h:γ->AH)(I:γ->Prop)(μ:γ->Nat)(x0:γ){body:(Exit->List AV->AH->Prop)->List AV->AH->Prop}{Q:Exit->List AV->AH->Prop}{env:List AV}{H:AH}
  (h0:mQ n live m S h env H x0) (hI:I x0)
  (hr:∀x,I x->body (nI (qk n live m S h I μ (μ x)) Q) (rB live (S x) n 0) (h x)):iU body Q env H:=by
 refine .mk (fun k env H=>∃x,I x/\env=rB live (S x) n 0/\H=h x/\μ x=k) (qk n live m S h I μ) ⟨_,_,_,h0.wk,x0,hI,rfl,rfl,rfl⟩ ?_ ?_
 ·rintro k env' H' h'
  cases h' with
  |mk y hh hI hμ=>exact⟨_,_,_,hh.wk,⟨y,hI,rfl,rfl,rfl⟩,hμ⟩
  |wk y env1 H1 hw hh hI hμ=>exact⟨_,_,_,hw.trans hh.wk,⟨y,hI,rfl,rfl,rfl⟩,hμ⟩
 ·rintro k env H ⟨x,hx,rfl,rfl,rfl⟩
  exact hr x hx
theorem Gv {P : Program} {f : FuncId} {fn : Func} (hf : P.funcs[f]? = some fn) (hb : fn.body.isSome = true) (hn : (fn.name == "runtime.NumGoroutine") = false) (args : Array Value) (w : World) : (callFunc f args).run P w = .ok (.enter f args) w := by
 have ia : ¬ fn.name = "runtime.NumGoroutine" := by simpa using hn
 obtain⟨c,hc⟩:=NB.1 hb;simp[callFunc,program,Sem.run,hf,ia,hc]
theorem Tj{w:World}{B:Nat->Prop}:∀(vs args:List Value),(vs.map PV.v).length=args.length->(∀(j:Nat)(a:PV)(v:Value),(vs.map PV.v)[j]?=some a->args[j]?=some v->cI w B a v)->args=vs
 |[],[],_,_=>rfl
 |[],_::_,h,_=>by simp at h
 |_::_,[],h,_=>by simp at h
 |v::vs,a::args,hl,h=>by
  have h0:=h 0 _ a rfl rfl;have ih:=Tj (w:=w) (B:=B) vs args xp (fun j x y hx hy=>h (j+1) x y (by simpa using hx) (by simpa using hy))
  cases h0
  rw[ih]
theorem CS {P : Program} {G : World → Prop} {f : FuncId} {fn : Func} (hf : P.funcs[f]? = some fn) (hb : fn.body.isSome = true) (hn : (fn.name == "runtime.NumGoroutine") = false) (vs : List Value) (r : PV)
  (h:∀w,G w->Calls P f vs.toArray w fun e w'=>∃v,e=.returned v/\Gr w w'/\∀R,cI w' R r v):fS P G f (vs.map .v) r:=
 ⟨Gv hf hb hn,fun w B args hG hl hr=>by
  have:=Tj vs args hl hr
  subst this;exact(h w hG).mono fun e w' ⟨v,h1,h2,h3⟩=>⟨h2,by rw[h1];exact .ret (h3 _)⟩⟩
theorem cd{p q:Prop}(kk9:q) (h:q->p:=by
 intro kk9
 repeat (first|(simp only[k1];try cbv)|(simp only[k2];try cbv)|(simp only[k3];try cbv)|(simp only[k4];try cbv)|(simp only[h5];try cbv)|(simp only[h6];try cbv)|(simp only[z1];try cbv)|(simp only[z2];try cbv)|(simp only[z3];try cbv)|(simp only[z4];try cbv)|(simp only[z5];try cbv)|(refine⟨p1,p2,p3,?_⟩;cbv)|(simp only[z6];try cbv)|(simp only[d1];try cbv)|(refine⟨p1,_,g1,?_⟩;cbv)|(simp only[w9];try cbv)|(simp only[w10];try cbv)|(simp only[w13];try cbv)|(simp only[w32];try cbv)|(refine⟨_,dI,?_⟩;cbv)|(refine⟨_,gE,?_⟩;cbv)|(refine⟨_,fe,?_⟩;cbv)|(simp only[d2];try cbv)|(simp only[eT];try cbv)|(simp only[eF _ e0,eT];try cbv)|(simp only[eF _ e0,eF _ e1,eT];try cbv)|(simp only[eF _ e0,eF _ e1,eF _ e2,eT];try cbv)|(refine⟨_,hk,?_⟩;cbv)|(simp only[hl];try cbv)|(simp only[v1];try cbv)|(simp only[w1];try cbv)|(refine⟨_,hd,?_⟩;cbv)|(simp only[w2];try cbv)|(simp only[w3];try cbv)|(simp only[ei];try cbv)|(simp only[ei2];try cbv)|(simp only[ei9];try cbv)|(refine⟨_,hh,?_⟩;cbv)|(simp only[e1];try cbv)|(simp only[d9];try cbv)|(simp only[em];try cbv)|(simp only[ea];try cbv)|(simp only[es1];try cbv)|(simp only[es2];try cbv)|(simp only[w5];try cbv)|(simp only[f1];try cbv)|(simp only[f2];try cbv)|(simp only[f3];try cbv)|(simp only[f4];try cbv)|(simp only[f5];try cbv)|(simp only[ew];try cbv)|(simp only[een];try cbv)|(simp only[ej1];try cbv)|(simp only[es3];try cbv)|(simp only[f110];try cbv)|(simp only[f116];try cbv)|(simp only[f114];try cbv)|(simp only[f98];try cbv)|(simp only[f92];try cbv)|(simp only[f34];try cbv)|(simp only[f39];try cbv)|(simp only[f48];try cbv)|(refine⟨p2,_,g2,?_⟩;cbv)|(refine⟨_,oY,?_⟩;cbv)|(simp only[f120];try cbv)|(refine⟨_,nw,?_⟩;cbv)|(refine⟨p3,_,g3,?_⟩;cbv)|(refine⟨_,mg,?_⟩;cbv)|(simp only[w4];try cbv)|(simp only[w6];try cbv)|(simp only[f117];try cbv)|(refine⟨_,rE,?_⟩;cbv)|(simp only[e2];try cbv)|(refine⟨wR,?_⟩;cbv)|(refine⟨p0,_,g0,?_⟩;cbv)|(refine⟨_,hr,?_⟩;cbv)|(simp only[ej];try cbv)|(simp only[es];try cbv)|(refine⟨_,he,?_⟩;cbv)|(refine⟨p2,?_⟩;cbv)|(simp only[ejo];try cbv)|(simp only[ejm];try cbv)|(refine⟨p1,p3,p4,?_⟩;cbv)|(simp only[ex];try cbv)|(refine⟨_,yR,?_⟩;cbv)|(refine⟨p0,q1,q2,?_⟩;cbv)|(simp only[x1];try cbv)|(refine⟨_,kH,?_⟩;cbv)|(refine⟨_,vO,?_⟩;cbv)|(refine⟨_,nL,?_⟩;cbv)|(refine⟨_,vG,?_⟩;cbv)|(refine⟨_,uP,?_⟩;cbv)|(refine⟨_,nD,?_⟩;cbv)|(simp only[vE];try cbv)|(simp only[d0];try cbv)|(refine⟨_,xI,?_⟩;cbv)|(refine⟨p0,?_⟩;cbv)|(simp only[t0];try cbv)|(refine⟨_,oJ,?_⟩;cbv)|(simp only[XZ];try cbv)|(simp only[f0];try cbv)|(refine⟨p5,p0,p4,?_⟩;cbv)|(simp only[a3,a1,a2];try cbv)|(simp only[e5];try cbv)|(refine⟨_,hb,?_⟩;cbv)|fail)
 first|done|exact kk9):p:=h kk9
theorem mW{p q:Prop}(kk9:q) (h:q->p:=by
 intro kk9
 repeat (first|(simp only[cu];try cbv)|(simp only[d1];try cbv)|(refine⟨q6,?_⟩;cbv)|(simp only[s6];try cbv)|(simp only[b1];try cbv)|(simp only[b2];try cbv)|(refine⟨p0,p5,p4,?_⟩;cbv)|(simp only[r0,r3,a2];try cbv)|(simp only[d2];try cbv)|(refine⟨q12,q6,?_⟩;cbv)|(simp only[s12];try cbv)|(simp only[b3];try cbv)|(simp only[d3];try cbv)|(simp only[d4];try cbv)|(simp only[d5];try cbv)|(simp only[d6];try cbv)|(refine⟨q18,q12,q6,?_⟩;cbv)|(simp only[s18];try cbv)|(simp only[b4];try cbv)|(simp only[z1];try cbv)|(simp only[z3];try cbv)|(simp only[c3];try cbv)|(simp only[c4];try cbv)|(simp only[c5];try cbv)|(simp only[c6];try cbv)|(simp only[c2'];try cbv)|(refine⟨c8,?_⟩;cbv)|(simp only[c7];try cbv)|(simp only[z2];try cbv)|(refine⟨p1,_,g1,?_⟩;cbv)|(simp only[h95];try cbv)|(simp only[e1];try cbv)|(simp only[e2];try cbv)|(simp only[es];try cbv)|(simp only[c1];try cbv)|(simp only[c2];try cbv)|(simp only[em];try cbv)|(simp only[wd];try cbv)|(simp only[ea];try cbv)|(simp only[d7];try cbv)|(simp only[d8];try cbv)|(simp only[ej];try cbv)|(simp only[e1'];try cbv)|(simp only[e2'];try cbv)|(refine⟨_,hl,?_⟩;cbv)|(simp only[e3];try cbv)|(simp only[e4];try cbv)|(simp only[eaq];try cbv)|(simp only[e3'];try cbv)|(simp only[e4'];try cbv)|(refine⟨_,hp,?_⟩;cbv)|(refine⟨_,he,?_⟩;cbv)|(simp only[w1];try cbv)|(simp only[jA];try cbv)|(simp only[z0];try cbv)|(refine⟨p0,_,g0,?_⟩;cbv)|(refine⟨_,hi,?_⟩;cbv)|(simp only[d0];try cbv)|(simp only[f48];try cbv)|(refine⟨_,oY,?_⟩;cbv)|(simp only[f120];try cbv)|(refine⟨p1,p2,p3,?_⟩;cbv)|(simp only[x1];try cbv)|(simp only[f117];try cbv)|(refine⟨_,hj,?_⟩;cbv)|(refine⟨p2,p3,p4,?_⟩;cbv)|(simp only[a1];try cbv)|(simp only[f123];try cbv)|(refine⟨_,hv,?_⟩;cbv)|(simp only[hy];try cbv)|(simp only[ei];try cbv)|(refine⟨_,hr,?_⟩;cbv)|(simp only[w2];try cbv)|(simp only[w3];try cbv)|(simp only[w4];try cbv)|(refine⟨p3,p4,p5,?_⟩;cbv)|(refine⟨p3,p4,?_⟩;cbv)|(refine⟨p4,p5,?_⟩;cbv)|(simp only[w5];try cbv)|(simp only[ejm];try cbv)|(simp only[w32];try cbv)|(simp only[w9];try cbv)|(simp only[w10];try cbv)|(simp only[w13];try cbv)|(refine⟨p1,p4,p5,?_⟩;cbv)|(refine⟨p1,p4,?_⟩;cbv)|(refine⟨_,dI,?_⟩;cbv)|(refine⟨_,gE,?_⟩;cbv)|(refine⟨_,Da,?_⟩;cbv)|(simp only[ei2];try cbv)|(refine⟨p6,p7,p5,?_⟩;cbv)|(refine⟨p6,p7,?_⟩;cbv)|(refine⟨p7,p5,?_⟩;cbv)|(simp only[x2];try cbv)|(simp only[ek];try cbv)|(refine⟨_,nL,?_⟩;cbv)|(refine⟨_,kH,?_⟩;cbv)|(refine⟨p0,p3,p4,?_⟩;cbv)|(refine⟨p00,p03,p3n,?_⟩;cbv)|(refine⟨p03,p3n,?_⟩;cbv)|(simp only[x3];try cbv)|(refine⟨p00,p02,p2n,?_⟩;cbv)|(refine⟨p02,p2n,?_⟩;cbv)|(simp only[q];try cbv)|(simp only[e0,q];try cbv)|(simp only[e0,e1,q];try cbv)|(simp only[e0,e1,e2,q];try cbv)|(simp only[e0,e1,e2,e3,q];try cbv)|(simp only[e0,e1,e2,e3,e4,q];try cbv)|(simp only[e0,e1,e2,e3,e4,e5,q];try cbv)|(simp only[e0,e1,e2,e3,e4,e5,e6,q];try cbv)|(simp only[e0,e1,e2,e3,e4,e5,e6,e7,q];try cbv)|(simp only[e0,e1,e2,e3,e4,e5,e6,e7,e8,q];try cbv)|(simp only[e0,e1,e2,e3,e4,e5,e6,e7,e8,e9,q];try cbv)|(refine⟨p00,_,g0,?_⟩;cbv)|(refine⟨p00,p01,p1n,?_⟩;cbv)|(refine⟨p01,p1n,?_⟩;cbv)|(refine⟨_,hk,?_⟩;cbv)|(refine⟨_,yR,?_⟩;cbv)|(refine⟨_,vO,?_⟩;cbv)|(refine⟨_,i8,?_⟩;cbv)|(simp only[f1];try cbv)|(simp only[f2];try cbv)|(refine⟨_,uP,?_⟩;cbv)|(simp only[f3];try cbv)|(refine⟨p1,p2,?_⟩;cbv)|(refine⟨p2,p3,?_⟩;cbv)|(refine⟨_,nD,?_⟩;cbv)|(refine⟨_,xI,?_⟩;cbv)|(refine⟨_,oJ,?_⟩;cbv)|(simp only[XZ];try cbv)|(refine⟨p1,?_⟩;cbv)|(simp only[r1];try cbv)|fail)
 first|done|exact kk9):p:=h kk9
theorem mV{p q:Prop}(kk9:q) (h:q->p:=by
 intro kk9
 repeat (first|(simp only[ea];try cbv)|(simp only[l0];try cbv)|(simp only[d1];try cbv)|(refine⟨p1,_,g1,?_⟩;cbv)|(simp only[d2];try cbv)|(refine⟨_,ho,?_⟩;cbv)|(refine⟨p0,_,g1,?_⟩;cbv)|(simp only[q1];try cbv)|(simp only[o1];try cbv)|(simp only[ok2];try cbv)|(refine⟨fA7,fA1,fA2,?_⟩;cbv)|(simp only[fA8];try cbv)|(simp only[fA3,fA4];try cbv)|(refine⟨fA5,?_⟩;cbv)|(simp only[fA6];try cbv)|(refine⟨fB5,?_⟩;cbv)|(simp only[fB6];try cbv)|(refine⟨fA1,fA2,?_⟩;cbv)|(simp only[sb1];try cbv)|(refine⟨(pr _ _ rfl),?_⟩;cbv)|(simp only[sb1,sb2,sb3];try cbv)|(simp only[d6];try cbv)|(simp only[eK];try cbv)|(refine⟨pz,_,gz,?_⟩;cbv)|(simp only[n0,n1];try cbv)|(refine⟨p0,_,rfl,?_⟩;cbv)|(refine⟨p1,_,rfl,?_⟩;cbv)|(simp only[eF];try cbv)|(simp only[ok];try cbv)|(simp only[ok8];try cbv)|(simp only[eK2];try cbv)|(simp only[ok3];try cbv)|(simp only[o5];try cbv)|(refine⟨p0,?_⟩;cbv)|(refine⟨p5,?_⟩;cbv)|(simp only[hJ];try cbv)|(refine⟨_,r2,?_⟩;cbv)|(refine⟨_,r1,?_⟩;cbv)|(refine⟨p0,_,r0,?_⟩;cbv)|(simp only[dk];try cbv)|(simp only[w1];try cbv)|(simp only[eo];try cbv)|(simp only[d8];try cbv)|(simp only[w1,w2];try cbv)|(simp only[w1,w2,w3];try cbv)|(simp only[w1,w2,w3,w4];try cbv)|(simp only[rc];try cbv)|(simp only[w1,w2,w3,w4,w5];try cbv)|(simp only[w1,w2,w3,w4,w5,w6];try cbv)|(simp only[o0];try cbv)|(simp only[eb];try cbv)|(refine⟨_,dO,?_⟩;cbv)|(simp only[hK];try cbv)|(simp only[cQ];try cbv)|(simp only[z0];try cbv)|(simp only[z1];try cbv)|(refine⟨z4,_,r0,?_⟩;cbv)|(refine⟨_,h1,?_⟩;cbv)|(simp only[z3];try cbv)|(simp only[e0];try cbv)|(refine⟨_,h2,?_⟩;cbv)|(simp only[z2];try cbv)|(simp only[fA.h5,fA.h2,fA.eT];try cbv)|(simp only[e1];try cbv)|(simp only[e2];try cbv)|(simp only[ek];try cbv)|(simp only[es];try cbv)|(simp only[hf.sz,hf.lt];try cbv)|(refine⟨hf.p0,_,hf.g,?_⟩;cbv)|(refine⟨_,hf.g,?_⟩;cbv)|(refine⟨hf.p0,?_⟩;cbv)|(simp only[hf.sb,hf.cv,hf.m,hf.ad,hf.ai];try cbv)|(simp only[sz];try cbv)|(refine⟨_,wT,?_⟩;cbv)|(refine⟨_,bi,?_⟩;cbv)|(simp only[fA.a1];try cbv)|(refine⟨_,kU,?_⟩;cbv)|(refine⟨_,xJ,?_⟩;cbv)|(refine⟨_,tD,?_⟩;cbv)|(simp only[fA.b1];try cbv)|(refine⟨_,rU,?_⟩;cbv)|(simp only[fA.a2];try cbv)|(refine⟨_,uy,?_⟩;cbv)|(refine⟨_,fc,?_⟩;cbv)|fail)
 first|done|exact kk9):p:=h kk9
theorem ay{p q:Prop}(kk9:q) (h:q->p:=by
 intro kk9
 repeat (first|(simp only[d1];try cbv)|(simp only[d2];try cbv)|(simp only[v5];try cbv)|(simp only[v11];try cbv)|(simp only[v31];try cbv)|(simp only[v12];try cbv)|(simp only[v13];try cbv)|(simp only[v14];try cbv)|(simp only[v16];try cbv)|(simp only[v17];try cbv)|(simp only[v6];try cbv)|(simp only[v7];try cbv)|(simp only[v18];try cbv)|(simp only[v38];try cbv)|(simp only[v40];try cbv)|(simp only[v41];try cbv)|(simp only[ka];try cbv)|(simp only[l0];try cbv)|(simp only[l1];try cbv)|(simp only[jJ];try cbv)|(refine⟨_,h1,?_⟩;cbv)|(simp only[ok,ok',e2,rT,xZ];try cbv)|(refine⟨p0,_,r0,?_⟩;cbv)|(refine⟨p0,_,r1,?_⟩;cbv)|(refine⟨_,dO,?_⟩;cbv)|(simp only[ea];try cbv)|(simp only[dk];try cbv)|(simp only[w1];try cbv)|(simp only[eo];try cbv)|(simp only[rc];try cbv)|(simp only[w1,w2];try cbv)|(simp only[w1,w2,w3];try cbv)|(simp only[w1,w2,w3,w4];try cbv)|(simp only[w1,w2,w3,w4,w5];try cbv)|(simp only[w1,w2,w3,w4,w5,w6];try cbv)|(simp only[h1];try cbv)|(simp only[h2];try cbv)|(simp only[h3];try cbv)|(simp only[f1];try cbv)|(refine⟨f2,_,f4,?_⟩;cbv)|(simp only[zY];try cbv)|(simp only[f3];try cbv)|(refine⟨f2,_,f3,?_⟩;cbv)|(simp only[e1];try cbv)|(simp only[e2];try cbv)|(simp only[e3];try cbv)|(simp only[e4];try cbv)|(simp only[d3];try cbv)|(simp only[d5];try cbv)|(simp only[xJ];try cbv)|(refine⟨_,s8,?_⟩;cbv)|(refine⟨_,ht,?_⟩;cbv)|(simp only[h];try cbv)|(simp only[d8];try cbv)|(simp only[d9];try cbv)|(simp only[e5];try cbv)|(simp only[e6];try cbv)|(simp only[e7];try cbv)|(simp only[e8];try cbv)|(simp only[e9];try cbv)|(simp only[eb];try cbv)|(simp only[ec];try cbv)|(simp only[ed];try cbv)|(simp only[ee];try cbv)|(simp only[ef];try cbv)|(simp only[es];try cbv)|(refine⟨p1,_,r1,?_⟩;cbv)|(refine⟨p2,_,r2,?_⟩;cbv)|(simp only[eq];try cbv)|(simp only[fe];try cbv)|(simp only[ux];try cbv)|(simp only[Z7];try cbv)|(refine⟨_,hr,?_⟩;cbv)|(refine⟨_,hL,?_⟩;cbv)|(simp only[d0];try cbv)|(refine⟨_,hO,?_⟩;cbv)|(simp only[ho];try cbv)|(refine .z [1] hA rfl rfl rfl ?_;cbv)|(simp only[ok];try cbv)|(refine .inr (.z [4] (hM _ _ _ _ _ (u6 26 rfl (aE rfl))) rfl rfl rfl ?_);cbv)|(refine .inr (.z [5] (hM _ _ _ _ _ (u6 42 rfl (aE rfl))) rfl rfl rfl ?_);cbv)|(simp only[hm];try cbv)|(refine⟨_,hR,?_⟩;cbv)|(refine⟨_,hD,?_⟩;cbv)|(simp only[hd];try cbv)|(simp only[z1];try cbv)|(refine⟨_,hp,?_⟩;cbv)|(simp only[ok2];try cbv)|(simp only[de];try cbv)|(simp only[da];try cbv)|(refine⟨_,GO,?_⟩;cbv)|fail)
 first|done|exact kk9):p:=h kk9
theorem iU.wk{body:(Exit->List AV->AH->Prop)->List AV->AH->Prop}{Q:Exit->List AV->AH->Prop}{env env1:List AV}{H H1:AH}(hw:Wk env H env1 H1)(h:iU body Q env1 H1):iU body Q env H:=by
 obtain⟨I,N,⟨k,e2,H2,m9,hI⟩,hN,hr⟩:=h;exact .mk I N ⟨k,e2,H2,hw.trans m9,hI⟩ hN hr
theorem DC{env:List AV}{H:AH}{k j:Nat}{cs:List AV}{t:TypeId}{g:Option Nat}(s:Nat)(ty:TypeId)(hk:H[k]?=some (some (.box cs t g)))(hj:cs[j]?=some (.p (.v (.slice none 0 0)))):
  Wk env H env ((H++[some (cE.rows s [] ty)]).set k (some (.box (cs.set j (.osl H.length 0 0)) t g))):=by
 intro w0 B w ι tmps _ hR hE;obtain⟨hg,iK⟩:=hR.ghost s ty;have lI:=(aC.1 hk).1;have BZ:(H++[some (cE.rows s [] ty)])[k]?=some (some (.box cs t g)):=aX
 obtain⟨⟨c,sh⟩,hi⟩:∃x,(ι++[(none,s,0)])[k]?=some x:=⟨_,aB (by simp[hR.len];omega)⟩
 obtain⟨_,hs,c',arr,ec,gJ,hlen,dC⟩:=hg.blk k _ c sh BZ hi;subst ec;have hu:=hg.upd BZ hi (b':=.box (cs.set j (.osl H.length 0 0)) t g) (w':=w) rfl rfl rfl rfl (fun _ _=>rfl) (fun R' hq=>⟨hs,c',arr,rfl,gJ,by simp[hlen],fun m a ha=>by
  rw[cA]at ha
  split at ha
  ·rename_i e;subst e
   split at ha
   ·cases ha
    obtain⟨v,hv,h1,hr⟩:=dC j _ hj;refine⟨v,hv,h1,?_⟩
    have:=jW hr
    subst this;exact .osl0 _ _
   ·cases ha
  ·obtain⟨v,hv,h1,hr⟩:=dC m a ha;exact⟨v,hv,h1,hr.keep0 hq⟩⟩)
 exact⟨_,hu.1,hE.len,fun q x v hx hv=>((hE.at_ q x v hx hv).keep0 iK).keep0 hu.2⟩
theorem DL{env:List AV}{H:AH}{d:Nat}(s:Nat)(ty:TypeId)(hd:env[d]?=some (.p (.v (.slice none 0 0)))):Wk env H (env.set d (.osl H.length 0 0)) (H++[some (cE.rows s [] ty)]):=by
 intro w0 B w ι tmps _ hR hE;obtain⟨hg,iK⟩:=hR.ghost s ty;refine⟨_,hg,by simp[hE.len],fun q x v hx hv=>?_⟩
 rw[cA]at hx
 split at hx
 ·rename_i e;subst e
  split at hx
  ·cases hx
   have:=jW (hE.at_ d _ v hd hv)
   subst this;exact .osl0 _ _
  ·cases hx
 ·exact(hE.at_ q x v hx hv).keep0 iK
theorem xgh{env:List AV}{H:AH}{k j l n:Nat}{cs:List AV}{t:TypeId}{g:Option Nat}{s:Nat}{rs:List (List PV)}{ty:TypeId}(hk:H[k]?=some (some (.box cs t g)))(hj:cs[j]?=some (.osl l 0 n))(hl:H[l]?=some (some (.rows s rs ty)))(hn:n<=rs.length):
  Wk env H (env.map (AV.scrub (one l))) (((H.map (qA (one l))).set l none).set k (some (.box ((cs.map (AV.scrub (one l))).set j (.p (.ro s (rs.take n)))) t g))):=by
 intro w0 B w ι tmps hB hR hE;have dN:l≠k:=by
  grind
 have lI:=(aC.1 hk).1;have vE:=(aC.1 hl).1;obtain⟨H',Zi⟩:∃x,((H.map (qA (one l))).set l none).set k (some (.box ((cs.map (AV.scrub (one l))).set j (.p (.ro s (rs.take n)))) t g))=x:=⟨_,rfl⟩
 have hK:H'[k]?=some (some (.box ((cs.map (AV.scrub (one l))).set j (.p (.ro s (rs.take n)))) t g)):=aX
 have hL:H'[l]?=some none:=aX
 have hO:∀i,i≠k->i≠l->H'[i]?=(H.map (qA (one l)))[i]?:=fun i h1 h2=>by grind
 have gW:∀i b,H'[i]?=some (some b)->i≠l/\∃b0,H[i]?=some (some b0):=by
  intro i b hi;refine⟨(fun e=>by grind),?_⟩
  by_cases e:i=k
  ·grind
  ·have e2:i≠l:=fun e=>by grind
   rw[hO i e e2]at hi;obtain⟨b0,h0,_⟩:=OX hi;exact⟨b0,h0⟩
 have iV:∀d,jB ι H' d->jB ι H d:=by
  rintro d ⟨i,b,s',h1,h2⟩
  obtain⟨_,b0,h0⟩:=gW i b h1;exact⟨i,b0,s',h0,h2⟩
 have iK:bS (some (one l)) w ι (Rd B ι H) w ι (Rd B ι H'):=⟨nR _,fun b hb _=>⟨⟨hb.1,fun ho=>hb.2 (iV b ho)⟩,rfl⟩,fun _ _ _ _ h=>h⟩
 have hro:∀v,dG w ι (Rd B ι H) (.osl l 0 n) v->cI w (Rd B ι H') (.ro s (rs.take n)) v:=by
  intro v hv
  cases hv with
  |osl0=>exact .ro0 _ _ _
  |osl _ _ _ c cap sz hi ia hm hz=>
   obtain⟨es,fE,hh⟩:=(hR.blk l _ _ sz hl hi).2;have qV:=(hR.blk l _ _ sz hl hi).1 c rfl
   rcases hh with⟨ec,_⟩|⟨c',arr,ec,hb,vA,dC⟩
   ·cases ec
   cases ec
   have mS:¬jB ι H' c:=by
    rintro⟨i,b,s',h1,h2⟩
    obtain⟨e,b0,h0⟩:=gW i b h1;exact e (hR.inj i l b0 _ c s' sz h0 hl h2 hi)
   have hlen:(rs.take n).length=n:=aX
   have aT:∀(q:Nat)(row:List PV),(rs.take n)[q]?=some row->rs[q]?=some row:=fun q row hr=>by
    grind
   have gJ:∀(q j:Nat)(row:List PV)(a:PV),(rs.take n)[q]?=some row->row[j]?=some a->∃u,(arr[q*sz.1+j]?).getD undef=u/\w.cell? ⟨c,0+(q*s+j),none⟩=some u/\u.oneCell'=true/\cI w (Rd B ι H') a u:=by
    intro q j row a hr ha;obtain⟨u,hu,h1,yd⟩:=dC _ j row a (aT q row hr) ha;exact⟨u,by rw[hu];rfl,by rw[ku hb,es,cF];exact hu,h1,yd.keep iK.size iK.read⟩
   have:=cI.ro (w:=w) (R:=Rd B ι H') s (rs.take n) c 0 cap (fun q j=>(arr[q*sz.1+j]?).getD undef) ⟨hB c qV,mS⟩ (n7 hb) oM (fun q row hr=>by grind)
    (fun q j row a hr ha=>by grind) (fun q j row a hr ha=>by grind)
   grind
 rw[Zi];refine⟨ι,⟨hR.gr,hR.fut,by rw[<-Zi];simp[hR.len],fun i b c1 s1 h1 h2=>?_,fun i i' b b' c1 s1 s2 h1 h2 h3 h4=>?_⟩,by simp[hE.len],fun q y u hy hu=>?_⟩
 ·by_cases e:i=k
  ·subst e;rw[hK]at h1
   cases h1
   obtain⟨hg,hs,c',arr,ec,gJ,hlen,dC⟩:=hR.blk i _ c1 s1 hk h2;refine⟨hg,hs,c',arr,ec,gJ,by simp[hlen],fun m a ha=>?_⟩
   rw[cA]at ha
   split at ha
   ·rename_i e;subst e
    split at ha
    ·cases ha
     obtain⟨v,hv,h1,hr⟩:=dC j _ hj;exact⟨v,hv,h1,.p _ _ (hro v hr)⟩
    ·cases ha
   ·rw[aI]at ha
    cases hm:cs[m]? with
    |none=>rw[hm]at ha;cases ha
    |some y=>
     rw[hm]at ha;cases ha
     obtain⟨v,hv,h1,hr⟩:=dC m y hm;exact⟨v,hv,h1,hr.keep iK⟩
  ·have e2:=(gW i b h1).1;rw[hO i e e2]at h1;obtain⟨b0,h0,rfl⟩:=OX h1;exact⟨(hR.blk i b0 c1 s1 h0 h2).1,(hR.blk i b0 c1 s1 h0 h2).2.keep iK fun c' e=>rfl⟩
 ·obtain⟨_,b0,h0⟩:=gW i b h1;obtain⟨_,b1,h5⟩:=gW i' b' h2;exact hR.inj i i' b0 b1 c1 s1 s2 h0 h5 h3 h4
 ·rw[aI]at hy
  cases hq:env[q]? with
  |none=>rw[hq]at hy;cases hy
  |some z=>rw[hq]at hy;cases hy;exact(hE.at_ q z u hq hu).keep iK
section
variable{P:Program}{G:World->Prop}{T:TT}
theorem JP (hT : iE P T) (hm : P.follows .mixedOrders = true) (kOf : Nat → Nat) {f : FuncId} {fn : Func} {c : Code} (hf : P.funcs[f]? = some fn) (hb : fn.body = some c) (hn : (fn.name == "runtime.NumGoroutine") = false)
  (cV:vZ fn.ntmps kOf c=true) {as:List AV} {b0:Option cE} {r:AV} {H':AH} (hl:decide (as.length<=fn.ntmps)=true)
  (h:∀(P':Program)(G':World->Prop)(E:SO),(∀f l r,fS P G f l r->fS P' G' f l r)->(∀f as H r H',jL P G f as H r H'->jL P' G' f as H r H')->E=bG->∀t0:Nat,
   tC P' G' E T kOf c (fI E T fn.results.toList [t0] r H') (as++List.replicate (fn.ntmps-as.length) (.p (.v undef))) (dE [t0] [b0])):jL P G f as [b0] r H':=
 z2v hT hm kOf hf hb hn cV hl fun P' G' E h1 h2 h3 t0=>h P' G' E h1 h2 h3 t0
theorem jL.args{f:FuncId}{as as':List AV}{H:AH}{r:AV}{H':AH}(h:jL P G f as H r H')(hl:as'.length=as.length)(hr:∀(j:Nat)(a a':AV),as[j]?=some a->as'[j]?=some a'->a'=a\/∃x,a=.p x/\a'.toP=some x):jL P G f as' H r H':=
 ⟨h.1,fun B w ι args tags ht hC hR hlen gR=>h.2 B w ι args tags ht hC hR oM fun j a v ha hv=>by
  exact Wq⟩
end
section
variable{P:Program}{G:World->Prop}{T:TT}{nt:Nat}
def aY(P:Program)(G:World->Prop)(nt:Nat)(c:Code)(Q:Exit->List AV->AH->Prop)(env:List AV)(H:AH):Prop:=
 ∀(w0:cJ)(B:Nat->Prop),(∀w,uD w0 w->G w)->(∀b,w0.own b->B b)->fp w0 c->∀a w,St w0 B nt env H a w->c.wp P (sJ w0 B nt Q) a w
theorem aY.of(hT:iE P T)(hm:P.follows .mixedOrders=true)(kOf:Nat->Nat){c:Code}(cV:vZ nt kOf c=true)(Q:SO->Exit->List AV->AH->Prop){env:List AV}{H:AH}
  (h:∀(P':Program)(G':World->Prop)(E:SO),(∀f l r,fS P G f l r->fS P' G' f l r)->(∀f as H r H',jL P G f as H r H'->jL P' G' f as H r H')->E=bG->tC P' G' E T kOf c (Q E) env H):aY P G nt c (Q bG) env H:=
 fun _ _ hG hB gD a w hS=>pn hT hG hB hm kOf c gD cV _ env H a w (h P G bG (fun _ _ _ h=>h) (fun _ _ _ _ _ h=>h) rfl) hS
theorem aY.wk{c:Code}{Q:Exit->List AV->AH->Prop}{env env':List AV}{H H':AH}(hw:Wk env H env' H')(h:aY P G nt c Q env' H'):aY P G nt c Q env H:=
 fun w0 B hG hB gD a w hS=>h w0 B hG hB gD a w (by
  exact Vd)
theorem aY.seq{c d:Code}{Q:Exit->List AV->AH->Prop}{env:List AV}{H:AH}(R:List AV->AH->Prop)(h:aY P G nt c (nI R Q) env H)(h2:∀env H,R env H->aY P G nt d Q env H):aY P G nt (.seq c d) Q env H:=
 fun w0 B hG hB gD a w hS=>wp_seq (wp_mono (h w0 B hG hB gD.1 a w hS) (JX _ fun env H a w hR hS=>h2 env H hR w0 B hG hB gD.2 a w hS))
inductive mC{γ:Type}(n:Nat)(live:List Nat)(m:Nat)(S:γ->List AV)(h:γ->AH)(I:γ->Prop)(env:List AV)(H:AH):Prop
 |mk (y:γ) (hh:mQ n live m S h env H y) (hI:I y)
 |wk (y:γ) (env1:List AV) (H1:AH) (hw:Wk env H env1 H1) (hh:mQ n live m S h env1 H1 y) (hI:I y)
theorem aY.cut{γ:Type}(n:Nat)(live:List Nat)(m:Nat)(S:γ->List AV)(h:γ->AH)(I:γ->Prop){c d:Code}{Q:Exit->List AV->AH->Prop}{env:List AV}{H:AH}
  (h1:aY P G nt c (nI (mC n live m S h I) Q) env H) (h2:∀y,I y->aY P G nt d Q (rB live (S y) n 0) (h y)):aY P G nt (.seq c d) Q env H:=
 .seq _ h1 fun env H hc=>by
  cases hc with
  |mk y hh hI=>exact .wk hh.wk (h2 y hI)
  |wk y env1 H1 hw hh hI=>exact .wk (hw.trans hh.wk) (h2 y hI)
def wW:Nat->Code->Code
 |0,_=>.skip
 |k+1,.seq a b=>.seq a (wW k b)
 |_+1,_=>.goto 0
def l8:Nat->Code->Code
 |0,c=>c
 |k+1,.seq _ b=>l8 k b
 |_+1,c=>c
theorem Q8(hT:iE P T)(hm:P.follows .mixedOrders=true){kOf:Nat->Nat}{w0:cJ}{B:Nat->Prop}(hG:∀w,uD w0 w->G w)(hB:∀b,w0.own b->B b){R:List AV->AH->Prop}{Q:Exit->List AV->AH->Prop}:∀(k:Nat)(c:Code),fp w0 c->vZ nt kOf (wW k c)=true->(∀env H a w,R env H->St w0 B nt env H a w->(l8 k c).wp P (sJ w0 B nt Q) a w) →
  ∀(env:List AV)(H:AH)(a:Act)(w:World),tC P G bG T kOf (wW k c) (nI R Q) env H->St w0 B nt env H a w->c.wp P (sJ w0 B nt Q) a w
 |0,c,_,_,hR,env,H,a,w,h,hS=>hR env H a w h hS
 |k+1,.seq x y,gD,cV,hR,env,H,a,w,h,hS=>by
  simp only[wW,vZ,gK]at cV;refine wp_seq (wp_mono (pn hT hG hB hm kOf x gD.1 cV.1 _ env H a w h hS) ?_)
  rintro e a w ⟨env,H,h,hS⟩
  cases e with
  |normal=>exact Q8 hT hm hG hB k y gD.2 cV.2 hR env H a w h hS
  |exit id=>exact⟨env,H,h,hS⟩
  |goto l=>exact⟨env,H,h,hS⟩
  |ret=>exact⟨env,H,h,hS⟩
  |panic c=>exact⟨env,H,h,hS⟩
  |outgrown=>exact⟨env,H,h,hS⟩
 |k+1,.skip,_,_,_,_,_,_,_,h,_=>h.elim
 |k+1,.region _ _ _,_,_,_,_,_,_,_,h,_=>h.elim
 |k+1,.cond _ _ _,_,_,_,_,_,_,_,h,_=>h.elim
 |k+1,.block _ _,_,_,_,_,_,_,_,h,_=>h.elim
 |k+1,.loop _,_,_,_,_,_,_,_,h,_=>h.elim
 |k+1,.exit _,_,_,_,_,_,_,_,h,_=>h.elim
 |k+1,.ret,_,_,_,_,_,_,_,h,_=>h.elim
 |k+1,.rangeFunc _ _ _ _,_,_,_,_,_,_,_,h,_=>h.elim
 |k+1,.scope _,_,_,_,_,_,_,_,h,_=>h.elim
 |k+1,.label _,_,_,_,_,_,_,_,h,_=>h.elim
 |k+1,.goto _,_,_,_,_,_,_,_,h,_=>h.elim
 |k+1,.refuse _,_,_,_,_,_,_,_,h,_=>h.elim
theorem OT{w0:cJ}:∀(k:Nat)(c:Code),fp w0 c->fp w0 (l8 k c)
 |0,_,h=>h
 |k+1,.seq _ b,h=>OT k b h.2
 |_+1,.skip,h=>h
 |_+1,.region _ _ _,h=>h
 |_+1,.cond _ _ _,h=>h
 |_+1,.block _ _,h=>h
 |_+1,.loop _,h=>h
 |_+1,.exit _,h=>h
 |_+1,.ret,h=>h
 |_+1,.rangeFunc _ _ _ _,h=>h
 |_+1,.scope _,h=>h
 |_+1,.label _,h=>h
 |_+1,.goto _,h=>h
 |_+1,.refuse _,h=>h
theorem aY.cutK{γ:Type}(k:Nat)(n:Nat)(live:List Nat)(m:Nat)(S:γ->List AV)(h:γ->AH)(I:γ->Prop)(hT:iE P T)(hm:P.follows .mixedOrders=true)(kOf:Nat->Nat){c:Code}(Q:SO->Exit->List AV->AH->Prop){env:List AV}{H:AH}(cV:vZ nt kOf (wW k c)=true)
  (h1:∀(P':Program)(G':World->Prop)(E:SO),(∀f l r,fS P G f l r->fS P' G' f l r)->(∀f as H r H',jL P G f as H r H'->jL P' G' f as H r H')->E=bG->tC P' G' E T kOf (wW k c) (nI (mC n live m S h I) (Q E)) env H)
  (h2:∀y,I y->aY P G nt (l8 k c) (Q bG) (rB live (S y) n 0) (h y)):aY P G nt c (Q bG) env H:=by
 intro w0 B hG hB gD a w hS;refine Q8 hT hm hG hB k c gD cV ?_ env H a w (h1 P G bG (fun _ _ _ h=>h) (fun _ _ _ _ _ h=>h) rfl) hS
 intro env1 H1 a1 w1 hc ff
 cases hc with
 |mk y hh hI=>exact aY.wk hh.wk (h2 y hI) w0 B hG hB (OT k c gD) a1 w1 ff
 |wk y env2 H2 hw hh hI=>exact aY.wk (hw.trans hh.wk) (h2 y hI) w0 B hG hB (OT k c gD) a1 w1 ff
def dr:AH->AH->Prop
 |[],[]=>True
 |_::xs,none::ys=>dr xs ys
 |x::xs,some y::ys=>x=some y/\dr xs ys
 |_,_=>False
theorem Et:∀{H K:AH},dr H K->K.length=H.length
 |[],[],_=>rfl
 |_::xs,none::ys,h=>by simp[Et (H:=xs) (K:=ys) h]
 |_::xs,some _::ys,h=>by simp[Et (H:=xs) (K:=ys) h.2]
 |[],_::_,h=>h.elim
 |_::_,[],h=>h.elim
theorem AM:∀{H K:AH},dr H K->∀(k:Nat)(b:cE),K[k]?=some (some b)->H[k]?=some (some b)
 |[],[],_,k,b,h=>by simp at h
 |_::xs,none::ys,h,0,b,hk=>by simp at hk
 |_::xs,none::ys,h,k+1,b,hk=>by simpa using AM (H:=xs) (K:=ys) h k b BF
 |x::xs,some y::ys,h,0,b,hk=>by
  obtain⟨rfl,_⟩:=h;simpa using hk
 |x::xs,some y::ys,h,k+1,b,hk=>by simpa using AM (H:=xs) (K:=ys) h.2 k b BF
 |[],_::_,h,_,_,_=>h.elim
 |_::_,[],h,_,_,_=>h.elim
theorem Fi:∀H:AH,dr H H
 |[]=>trivial
 |none::xs=>Fi xs
 |some _::xs=>⟨rfl,Fi xs⟩
theorem Fl:∀{H K:AH},dr H K->∀L,dr (H++L) (K++L)
 |[],[],_,L=>Fi L
 |_::xs,none::ys,h,L=>Fl (H:=xs) (K:=ys) h L
 |_::xs,some _::ys,h,L=>⟨h.1,Fl (H:=xs) (K:=ys) h.2 L⟩
 |[],_::_,h,_=>h.elim
 |_::_,[],h,_=>h.elim
theorem eX.drop{w0:cJ}{B:Nat->Prop}{w:World}{ι:Pl}{H K:AH}(h:eX w0 B w ι H)(hd:dr H K):eX w0 B w ι K/\bS none w ι (Rd B ι H) w ι (Rd B ι K):=by
 have iK:bS none w ι (Rd B ι H) w ι (Rd B ι K):=⟨nR _,fun b hb _=>⟨⟨hb.1,fun⟨i,b',s',h1,h2⟩=>hb.2 ⟨i,b',s',AM hd _ _ h1,h2⟩⟩,rfl⟩,fun _ _ _ _ h=>h⟩
 exact⟨⟨h.gr,h.fut,by rw[Et hd];exact h.len,fun i b c' s' h1 h2=>⟨(h.blk i b c' s' (AM hd _ _ h1) h2).1,(h.blk i b c' s' (AM hd _ _ h1) h2).2.keep0 iK fun _ _=>rfl⟩,
  fun i j b b' c' s1 s2 h1 h2 h3 h4=>h.inj i j b b' c' s1 s2 (AM hd _ _ h1) (AM hd _ _ h2) h3 h4⟩,iK⟩
def Gn(E:SO)(T:TT)(rs:List ResultVar)(tags:List Nat)(r:AV)(H':AH)(e:Exit)(env:List AV)(H:AH):Prop:=
 match e with
 | .ret=>bw T env H rs fun as=>(match as with
  |[a]=>xN E H'.length H a fun x=>x=r/\dr (H.take H'.length) (dE tags H')/\kG H'.length (dE tags H')=true/\r.low H'.length=true
  |as=>xN E H'.length H (.tup as) fun x=>x=r/\dr (H.take H'.length) (dE tags H')/\kG H'.length (dE tags H')=true/\r.low H'.length=true)
 | .normal=>bw T env H rs fun as=>(match as with
  |[a]=>xN E H'.length H a fun x=>x=r/\dr (H.take H'.length) (dE tags H')/\kG H'.length (dE tags H')=true/\r.low H'.length=true
  |as=>xN E H'.length H (.tup as) fun x=>x=r/\dr (H.take H'.length) (dE tags H')/\kG H'.length (dE tags H')=true/\r.low H'.length=true)
 | .panic ch=>r=.p (.pan ch)/\ZI (dE tags H')=true
 |_=>False
theorem ap (hT : iE P T) (hG : ∀ w w', Gr w w' → G w → G w') {f : FuncId} {fn : Func} {c : Code} (hf : P.funcs[f]? = some fn) (hb : fn.body = some c) (hn : (fn.name == "runtime.NumGoroutine") = false)
  {as:List PV} {r:PV} (hl:as.length<=fn.ntmps) (h:aY P G fn.ntmps c (jG bG T fn.results.toList r) (as.map .p++List.replicate (fn.ntmps-as.length) (.p (.v undef))) []):fS P G f as r:=by
 refine⟨AN hf hb hn,fun w B args sw hlen eG=>?_⟩
 refine calls_of_wp hf hb ?_;have hS:St (cJ.of w) (fun b=>B b\/w.heap.size<=b) fn.ntmps (as.map .p++List.replicate (fn.ntmps-as.length) (.p (.v undef))) [] { tmps:=args.toArray++Array.replicate (fn.ntmps-args.toArray.size) undef,defers:=[] } w:=by
  exact Xl
 have gS:∀b,(cJ.of w).own b->B b\/w.heap.size<=b:=fun b hb=>hb.elim (fun h=>h.elim) .inr
 refine wp_mono (h _ _ (fun w' hg=>hG _ _ hg.gr sw) gS (jb (fun _=>rfl) c) _ w hS) ?_
 rintro e a w' ⟨env,H,hQ,sV⟩
 obtain⟨ι,hR,hE⟩:=sV.rep;have fin:(bw T env H fn.results.toList fun as=>(match as with
  |[a]=>cg bG H a fun p=>p=r
  |as=>cg bG H (.tup as) fun p=>p=r))->a.defers=[]/\∃v,(results fn a.tmps).run P w'=.ok v w'/\Gr w w'/\pp w' (fun b=>B b\/w.heap.size<=b) r (.returned v):=by
  intro h;obtain⟨x,v,hx,dS,hv⟩:=KH (K:=fun a=>cg bG H a fun p=>p=r) hT hR hE h
  obtain⟨p,rfl,hp⟩:=JV hR gS x v _ hx hv;exact⟨sV.defers,v,dS,hR.gr.gr,.ret hp⟩
 cases e with
 |ret=>exact fin hQ
 |normal=>exact fin hQ
 |exit id=>cases hQ
 |goto l=>cases hQ
 |panic c=>exact⟨sV.defers,hR.gr.gr,by cases hQ;rfl⟩
 |outgrown=>cases hQ
theorem iD (hT : iE P T) {f : FuncId} {fn : Func} {c : Code} (hf : P.funcs[f]? = some fn) (hb : fn.body = some c) (hn : (fn.name == "runtime.NumGoroutine") = false)
  {as:List AV} {H:AH} {r:AV} {H':AH} (hl:as.length<=fn.ntmps) (h:∀tags:List Nat,tags.length=H.length->aY P G fn.ntmps c (fI bG T fn.results.toList tags r H') (as++List.replicate (fn.ntmps-as.length) (.p (.v undef))) (dE tags H)):jL P G f as H r H':=by
 refine⟨AN hf hb hn,fun B w ι args tags cC hC hR hlen eG=>?_⟩
 refine calls_of_wp hf hb ?_;have hS:St ⟨w,jB ι (dE tags H),[],fun _=>none⟩ B fn.ntmps (as++List.replicate (fn.ntmps-as.length) (.p (.v undef))) (dE tags H) { tmps:=args.toArray++Array.replicate (fn.ntmps-args.toArray.size) undef,defers:=[] } w:=
  ⟨rfl,by simp;omega,(fun t v h=>by cases h),ι,hR,OZ hl hlen eG⟩
 refine wp_mono (h tags cC _ _ (fun w' hg=>hC.stab w' hg) hC.own (jb (fun _=>rfl) c) _ w hS) ?_
 rintro e a w' ⟨env,H2,hQ,sV⟩
 obtain⟨ι2,cW,hE⟩:=sV.rep;have fin:(bw T env H2 fn.results.toList fun as=>(match as with
  |[a]=>xN bG H'.length H2 a fun x=>x=r/\H2.take H'.length=dE tags H'/\kG H'.length (dE tags H')=true/\r.low H'.length=true
  |as=>xN bG H'.length H2 (.tup as) fun x=>x=r/\H2.take H'.length=dE tags H'/\kG H'.length (dE tags H')=true/\r.low H'.length=true)) →
   a.defers=[]/\∃v,(results fn a.tmps).run P w'=.ok v w'/\∃ι',eX ⟨w,jB ι (dE tags H),[],fun _=>none⟩ B w' ι' (dE tags H')/\ak w' ι' (Rd B ι' (dE tags H')) r (.returned v):=by
  intro h;obtain⟨x,v,hx,dS,hv⟩:=KH (K:=fun a=>xN bG H'.length H2 a fun x=>x=r/\H2.take H'.length=dE tags H'/\kG H'.length (dE tags H')=true/\r.low H'.length=true) hT cW hE h
  obtain⟨y,⟨rfl,e1,e2,e3⟩,hy⟩:=Ax cW hC.own x v _ hx hv;have be:=hy e3;rw[<-e1]at e2;have qX:=cW.trunc (m:=H'.length) e2;rw[e1]at qX be;exact⟨sV.defers,v,dS,_,qX,.ret be⟩
 cases e with
 |ret=>exact fin hQ
 |normal=>exact fin hQ
 |exit id=>cases hQ
 |goto l=>cases hQ
 |panic ch=>
  obtain⟨rfl,mS⟩:=hQ;refine⟨sV.defers,List.replicate (dE tags H').length (none,0,0),⟨cW.gr,cW.fut,by simp,fun k b c s h1=>absurd h1 (EC mS),fun k l b b' c s s' h1=>absurd h1 (EC mS)⟩,rfl⟩
 |outgrown=>cases hQ
theorem Ox (hT : iE P T) {f : FuncId} {fn : Func} {c : Code} (hf : P.funcs[f]? = some fn) (hb : fn.body = some c) (hn : (fn.name == "runtime.NumGoroutine") = false)
  {as:List AV} {H:AH} {r:AV} {H':AH} (hl:as.length<=fn.ntmps) (h:∀tags:List Nat,tags.length=H.length->aY P G fn.ntmps c (Gn bG T fn.results.toList tags r H') (as++List.replicate (fn.ntmps-as.length) (.p (.v undef))) (dE tags H)):jL P G f as H r H':=by
 refine⟨AN hf hb hn,fun B w ι args tags cC hC hR hlen eG=>?_⟩
 refine calls_of_wp hf hb ?_;have hS:St ⟨w,jB ι (dE tags H),[],fun _=>none⟩ B fn.ntmps (as++List.replicate (fn.ntmps-as.length) (.p (.v undef))) (dE tags H) { tmps:=args.toArray++Array.replicate (fn.ntmps-args.toArray.size) undef,defers:=[] } w:=
  ⟨rfl,by simp;omega,(fun t v h=>by cases h),ι,hR,OZ hl hlen eG⟩
 refine wp_mono (h tags cC _ _ (fun w' hg=>hC.stab w' hg) hC.own (jb (fun _=>rfl) c) _ w hS) ?_
 rintro e a w' ⟨env,H2,hQ,sV⟩
 obtain⟨ι2,cW,hE⟩:=sV.rep;have fin:(bw T env H2 fn.results.toList fun as=>(match as with
  |[a]=>xN bG H'.length H2 a fun x=>x=r/\dr (H2.take H'.length) (dE tags H')/\kG H'.length (dE tags H')=true/\r.low H'.length=true
  |as=>xN bG H'.length H2 (.tup as) fun x=>x=r/\dr (H2.take H'.length) (dE tags H')/\kG H'.length (dE tags H')=true/\r.low H'.length=true)) →
   a.defers=[]/\∃v,(results fn a.tmps).run P w'=.ok v w'/\∃ι',eX ⟨w,jB ι (dE tags H),[],fun _=>none⟩ B w' ι' (dE tags H')/\ak w' ι' (Rd B ι' (dE tags H')) r (.returned v):=by
  intro h;obtain⟨x,v,hx,dS,hv⟩:=KH (K:=fun a=>xN bG H'.length H2 a fun x=>x=r/\dr (H2.take H'.length) (dE tags H')/\kG H'.length (dE tags H')=true/\r.low H'.length=true) hT cW hE h
  obtain⟨y,⟨rfl,e1,e2,e3⟩,hy⟩:=Ax cW hC.own x v _ hx hv;have be:=hy e3;have hD:dr H2 (dE tags H'++H2.drop H'.length):=by
   have:=Fl e1 (H2.drop H'.length)
   simp_all
  have bf:(dE tags H'++H2.drop H'.length).take H'.length=dE tags H':=List.take_left' (KC tags H');obtain⟨qX,_⟩:=cW.drop hD;have MY:=qX.trunc (m:=H'.length) (by rw[bf];exact e2)
  rw[bf]at MY;have D9:bS none w' (ι2.take H'.length) (Rd B (ι2.take H'.length) (H2.take H'.length)) w' (ι2.take H'.length) (Rd B (ι2.take H'.length) (dE tags H')):=⟨nR _,fun b hb _=>⟨⟨hb.1,fun⟨i,b',s',h1,h2⟩=>hb.2 ⟨i,b',s',AM e1 _ _ h1,h2⟩⟩,rfl⟩,fun _ _ _ _ h=>h⟩
  exact⟨sV.defers,v,dS,_,MY,.ret (be.keep0 D9)⟩
 cases e with
 |ret=>exact fin hQ
 |normal=>exact fin hQ
 |exit id=>cases hQ
 |goto l=>cases hQ
 |panic ch=>
  obtain⟨rfl,mS⟩:=hQ;refine⟨sV.defers,List.replicate (dE tags H').length (none,0,0),⟨cW.gr,cW.fut,by simp,fun k b c s h1=>absurd h1 (EC mS),fun k l b b' c s s' h1=>absurd h1 (EC mS)⟩,rfl⟩
 |outgrown=>cases hQ
theorem eX.pin{w:World}{X:Nat->Prop}{ds:List Deferred}{p:Nat->Option Value}{B:Nat->Prop}{w':World}{ι:Pl}{H:AH}(h:eX ⟨w,X,ds,p⟩ B w' ι H)(p':Nat->Option Value):eX ⟨w,X,ds,p'⟩ B w' ι H:=
 ⟨⟨h.gr.os,h.gr.tape,h.gr.output,h.gr.size,h.gr.block⟩,h.fut,h.len,h.blk,h.inj⟩
theorem PW.args{f:FuncId}{as as':List AV}{H:AH}{r:AV}{H':AH}{kp:Nat->Bool}(h:PW P G f as H r H' kp)(hl:as'.length=as.length)(hr:∀(j:Nat)(a a':AV),as[j]?=some a->as'[j]?=some a'->a'=a\/∃x,a=.p x/\a'.toP=some x):PW P G f as' H r H' kp:=
 ⟨h.1,fun B w ι args tags ht hC hR hlen gR=>h.2 B w ι args tags ht hC hR oM fun j a v ha hv=>by
  exact Wq⟩
end
theorem ar{env:List AV}{H:AH}{k j l n:Nat}{cs:List AV}{t:TypeId}{g:Option Nat}{s:Nat}{rs rs':List (List PV)}{ty:TypeId}(hk:H[k]?=some (some (.box cs t g)))(hj:cs[j]?=some (.osl l 0 n))(hl:H[l]?=some (some (.rows s rs ty)))(hn:n<=rs.length)(he:rs.take n=rs'):
  Wk env H (env.map (AV.scrub (one l))) (((H.map (qA (one l))).set l none).set k (some (.box ((cs.map (AV.scrub (one l))).set j (.p (.ro s rs'))) t g))):=by
 subst he;exact xgh hk hj hl hn
section
variable{P:Program}{G:World->Prop}{T:TT}{nt:Nat}{w0:cJ}{B:Nat->Prop}
theorem P5{f:FuncId}{o:Oper}{env:List AV}{H:AH}{K R:List AV->AH->Prop}{Q:Exit->List AV->AH->Prop}(h:oB P G f o env H K (nI R Q)):oB P G f o env H K Q:=by
 cases h with
 |mk env2 H2 hw σ as Hc r Hc' hr hc hb hp k=>
  refine .mk env2 H2 hw σ as Hc r Hc' hr hc hb hp ?_
  exact V5
 |mkK kp env2 H2 hw σ as Hc r Hc' hr hc hb hp k=>
  refine .mkK kp env2 H2 hw σ as Hc r Hc' hr hc hb hp ?_
  exact V5
theorem zw2{E:SO}{o:Oper}{env:List AV}{H:AH}{K R:List AV->AH->Prop}{Q:Exit->List AV->AH->Prop}(h:lb P G E T o env H K (nI R Q)):lb P G E T o env H K Q:=by
 unfold lb at h ⊢
 cases mn:KP env o with
 |no=>rw[mn]at h;exact h
 |pure f ps=>rw[mn]at h;exact h
 |froz f as=>
  rw[mn]at h
  rcases h with h|h
  ·exact .inl h
  ·exact .inr (P5 h)
 |mem f=>rw[mn]at h;exact P5 h
 |pan v=>rw[mn]at h;exact h
theorem Ea(hT:iE P T)(iM:∀w,uD w0 w->G w)(gS:∀b,w0.own b->B b){all:List Oper}{R:List AV->AH->Prop}{Q:Exit->List AV->AH->Prop}{ys:List Oper}(hR:∀env H a w,R env H->St w0 B nt env H a w->wpList P all.toArray (sJ w0 B nt Q) ys a w):
  ∀(xs:List Oper),(∀o∈xs,∀t,o.dst=some t->w0.pin t=none)->∀(env:List AV)(H:AH)(a:Act)(w:World),vW P G bG T all (nI R Q) xs env H->St w0 B nt env H a w->wpList P all.toArray (sJ w0 B nt Q) (xs++ys) a w
 |[],_,env,H,a,w,h,hS=>hR env H a w h hS
 |o::os,ju,env,H,a,w,h,hS=>by
  have eR:=ju o dL
  have i7:∀o∈os,∀t,o.dst=some t->w0.pin t=none:=fun x hx=>ju x (by simp[hx])
  have run:lb P G bG T o env H (fun env' H'=>vW P G bG T all (nI R Q) os env' H') (nI R Q)->o.wp P a w (wpList P all.toArray (sJ w0 B nt Q) (os++ys)) (sJ w0 B nt Q):=fun h=>
   Ay hT iM gS eR (zw2 h) hS fun env' H' a' w' hK sV=>Ea hT iM gS hR os i7 env' H' a' w' hK sV
  obtain⟨hd,hn,iB,ι,zc,hE⟩:=hS;unfold vW at h;rw[qD];unfold wpList
  split at h
  ·rename_i hg;rw[aF LP]
   exact .inl (run h)
  ·rename_i j want hg
   split at h
   ·rename_i b hb;have hy:=F6 hb hE;rw[PE]
    split at h
    ·exact V3
    ·rename_i ht;rw[aD Jk]
     refine Ea hT iM gS hR os i7 _ H _ w h ⟨by rw[jd];exact hd,by rw[lh];exact hn,j9 iB eR _,ι,zc,?_⟩
     exact Kc
   ·cases h
end
section
variable{P:Program}{G:World->Prop}{T:TT}{nt:Nat}
theorem aY.cutOps{γ:Type}(k n:Nat)(live:List Nat)(m:Nat)(S:γ->List AV)(h:γ->AH)(I:γ->Prop)(hT:iE P T){id:Nat}{ops:Array Oper}(Q:SO->Exit->List AV->AH->Prop){env:List AV}{H:AH}
  (h1:∀(P':Program)(G':World->Prop)(E:SO),(∀f l r,fS P G f l r->fS P' G' f l r)->(∀f as H r H',jL P G f as H r H'->jL P' G' f as H r H')->E=bG->vW P' G' E T ops.toList (nI (mC n live m S h I) (Q E)) (ops.toList.take k) env H)
  (h2:∀y,I y->∀(P':Program)(G':World->Prop)(E:SO),(∀f l r,fS P G f l r->fS P' G' f l r)->(∀f as H r H',jL P G f as H r H'->jL P' G' f as H r H')->E=bG->vW P' G' E T ops.toList (Q E) (ops.toList.drop k) (rB live (S y) n 0) (h y)):aY P G nt (.region id ops false) (Q bG) env H:=by
 intro w0 B hG hB gD a w hS;obtain⟨l⟩:=ops;refine wp_region_list ?_
 have:=Ea (nt:=nt) (Q:=Q bG) hT hG hB (ys:=l.drop k) (fun env1 H1 a1 w1 hc ff=>by
  have key:∀y,I y->St w0 B nt (rB live (S y) n 0) (h y) a1 w1->wpList P l.toArray (sJ w0 B nt (Q bG)) (l.drop k) a1 w1:=fun y hI uz=>
   AO hT hG hB _ (fun o ho=>gD o (jE ho)) _ _ a1 w1 (h2 y hI P G bG (fun _ _ _ h=>h) (fun _ _ _ _ _ h=>h) rfl) uz
  have wk:∀{env env':List AV}{H H':AH},Wk env H env' H'->St w0 B nt env H a1 w1->St w0 B nt env' H' a1 w1:=fun hw hS=>by
   obtain⟨ι,hR,hE⟩:=hS.rep;exact⟨hS.defers,hS.size,hS.pin,hw w0 B w1 ι a1.tmps hB hR hE⟩
  cases hc with
  |mk y hh hI=>exact key y hI (wk hh.wk ff)
  |wk y env2 H2 hw hh hI=>exact key y hI (wk (hw.trans hh.wk) ff)) (l.take k) (fun o ho=>gD o (List.mem_of_mem_take ho)) env H a w (h1 P G bG (fun _ _ _ h=>h) (fun _ _ _ _ _ h=>h) rfl) hS
 simp_all
end
inductive L6(P:Program)(G:World->Prop)(f:FuncId)(ls:List AV)(H:AH)(K:AV->AH->Option (Nat->Bool)->Prop):Prop
 |mk (σ:List Nat) (cs:List AV) (Hc:AH) (r:AV) (Hc':AH) (h:jL P G f cs Hc r Hc') (hc:ls=AV.ren.renL (jU σ H.length) cs) (hb:pu σ H Hc cs=true)
  (hp:σ.map (fun l=>ow (H.getD l none))=Hc.map (yX (jU σ H.length) none)) (hr:r.panOf=none) (k:K (r.ren (jU σ H.length)) (wV σ H Hc') (some (yH σ H Hc')))
def FJ(P:Program)(G:World->Prop)(E:SO)(T:TT)(o:Oper)(env:List AV)(H:AH)(K:AV->AH->Option (Nat->Bool)->Prop):Prop:=match o.op with
 | .call c=>(match c.callee with
  | .value (.func f)=>L6 P G f (c.args.toList.map (bR env)) H K
  |_=>PG P G E T o env H K)
 |_=>PG P G E T o env H K
def Hj(i:Nat):List (Nat×AV)->AV
 |[]=>.junk
 |(j,a)::r=>(match Nat.beq j i with
  |true=>a
  |false=>Hj i r)
def eg(i:Nat):List Nat->Bool
 |[]=>false
 |j::r=>(match Nat.beq j i with
  |true=>true
  |false=>eg i r)
theorem Dz{i:Nat}:∀{M:List Nat},eg i M=true->∃j:Nat,M[j]?=some i
 |[],h=>by cases h
 |m::M,h=>by
  unfold eg at h
  split at h
  ·rename_i e;exact⟨0,by simp_all⟩
  ·obtain⟨j,hj⟩:=Dz h;exact⟨j+1,hj⟩
theorem T5{i:Nat}:∀{M:List Nat}{j:Nat},M[j]?=some i->eg i M=true
 |[],j,h=>by simp at h
 |m::M,0,h=>by
  simp at h;subst h;unfold eg;simp
 |m::M,j+1,h=>by
  unfold eg
  split
  ·rfl
  ·exact T5 (M:=M) (j:=j) jk
def J8(o:Oper):Bool:=match o.op with
 | .buildSlice _ _ _=>true
 |_=>false
def tl(P:Program)(G:World->Prop)(E:SO)(T:TT)(M:List Nat)(lo:Nat->Nat)(p:Nat)(mv:List (Nat×AV))(H:AH):Nat->Nat->List Oper->List AV->List (Option AV)->(List AV->List (Option AV)->Prop)->Prop
 |0,_,_,env,vs,K=>K env vs
 |_+1,_,[],env,vs,K=>K env vs
 |n+1,i,o::os,env,vs,K=>(match Nat.ble (lo i) p with
  |false=>tl P G E T M lo p mv H n (i+1) os (qY env o.dst .junk) (vs++[none]) K
  |true=>(match eg i M with
   |true=>tl P G E T M lo p mv H n (i+1) os (qY env o.dst (Hj i mv)) (vs++[some (Hj i mv)]) K
   |false=>(match J8 o with
    |true=>JH T o env fun a=>tl P G E T M lo p mv H n (i+1) os (qY env o.dst a) (vs++[some a]) K
    |false=>aq P G E T o env H fun a=>tl P G E T M lo p mv H n (i+1) os (qY env o.dst a) (vs++[some a]) K)))
def YY:List (Option AV)->List (Option AV)->Prop
 |[],_=>True
 |none::r,_::s=>YY r s
 |some a::r,some b::s=>a=b/\YY r s
 |_,_=>False
theorem Ak:∀{r s:List (Option AV)}{i:Nat}{x:AV},YY r s->r[i]?=some (some x)->s[i]?=some (some x)
 |[],_,i,x,_,h=>by simp at h
 |none::r,_::s,0,x,_,h=>by simp at h
 |none::r,_::s,i+1,x,hc,h=>by simpa using Ak (r:=r) (s:=s) hc jk
 |some a::r,some b::s,0,x,hc,h=>by
  simp at h;subst h;obtain⟨rfl,_⟩:=hc;rfl
 |some a::r,some b::s,i+1,x,hc,h=>by simpa using Ak (r:=r) (s:=s) hc.2 jk
 |none::r,[],_,_,hc,_=>hc.elim
 |some _::r,[],_,_,hc,_=>hc.elim
 |some _::r,none::_,_,_,hc,_=>hc.elim
inductive Y4(ex vs:List (Option AV)):Prop
 |mk (h:YY ex vs)
def mvS(sc:Option (Nat->Bool))(mv:List (Nat×AV)):List (Nat×AV):=mv.map fun x=>(x.1,mz sc x.2)
def Jc(sc:Option (Nat->Bool))(m:Nat)(a:AV)(vs:List (Option AV)):List (Option AV):=(vs.map fun x=>x.map (mz sc)).set m (some a)
def vf(P:Program)(G:World->Prop)(E:SO)(T:TT)(all:List Oper)(M:List Nat)(lo:Nat->Nat)(k:Nat):List Nat->Nat->List (Nat×AV)->List (Option AV)->List AV->AH->(List AV->AH->Prop)->Prop
 |[],p,mv,ex,e0,H,K=>tl P G E T M lo p mv H k 0 all e0 [] fun env vs=>Y4 ex vs/\K env H
 |m::Ms,p,mv,ex,e0,H,K=>tl P G E T M lo p mv H k 0 all e0 [] fun env vs=>Y4 ex vs/\(match all[m]? with
  |some o=>FJ P G E T o env H fun a H' sc=>vf P G E T all M lo k Ms (p+1) (mvS sc mv++[(m,a)]) (Jc sc m a vs) (vY sc e0) H' K
  |none=>False)
def CY(ops:List Oper)(k:Nat)(M:List Nat)(lo:Nat->Nat)(i:Nat)(o:Oper):Bool:=
 (o.op.operands.all fun x=>match x with
  | .tmp t=>B2 ops k t||(jN ops.toArray i).any fun d=>(ops[d]?).bind (·.dst)==some t
  |_=>true)&&o.guard.isNone&&(eg i M||Nat.beq (lo i) 0||(jN ops.toArray i).any fun d=>Nat.ble (lo i) (lo d))
def Du(ops:List Oper)(k:Nat)(M:List Nat)(lo:Nat->Nat):Bool:=(List.range M.length).all fun j=>match M[j]? with
 |some m=>Nat.blt m k&&Nat.beq (lo m) (j+1)&&(match j with
  |0=>true
  |j'+1=>(match M[j']? with
   |some m'=>(jN ops.toArray m).contains m'
   |none=>false))
 |none=>false
def DP(nt:Nat)(ops:List Oper)(k:Nat)(M:List Nat)(lo:Nat->Nat):Bool:=
 qc ops.toArray k 8&&decide (k<=ops.length)&&(ops.all fun o=>match o.dst with
  |some t=>decide (t<nt)
  |none=>true)&&((List.range k).all fun i=>match ops[i]? with
  |some o=>CY ops k M lo i o
  |none=>true)&&Du ops k M lo
theorem Ev{P:Program}{R R':Value->World->Prop}{x:Result Next}(h:∀v w,R v w->R' v w)(hx:au P R x):au P R' x:=by
 cases x with
 |ok n w=>
  cases n<;>simp only[au]at hx ⊢
  ·exact h _ _ hx
  ·exact h _ _ hx
  ·exact Calls.mono hx fun e w' ⟨v,he,hr⟩=>⟨v,he,h _ _ hr⟩
 |halt y w=>exact hx
section
variable{P:Program}{G:World->Prop}{T:TT}
theorem z09(hT:iE P T){o:Oper}{env:List AV}{H:AH}{K:AV->AH->Option (Nat->Bool)->Prop}(h:FJ P G bG T o env H K):∃a H' sc,K a H' sc/\WS P G o env H a H' sc:=by
 unfold FJ at h
 split at h
 ·rename_i c ho
  split at h
  ·rename_i f hc;obtain⟨σ,cs,Hc,r,Hc',hr,dC,hb,hp,r7,k⟩:=h;refine⟨_,_,_,k,fun w0 B w ι ρ hR hC hρ hf=>?_⟩
   have pH:∀x,x∈c.args->x∈o.op.operands:=fun x hx=>by rw[ho];simp[Op.operands,Call.operands,hc,hx]
   have wM:(execOp ρ o).run P w=.ok (.enter f (c.args.map ρ)) w:=by
    exact Kg
   rw[wM];unfold pu at hb;simp only[gK]at hb;obtain⟨⟨⟨dI,gE⟩,fe⟩,ux⟩:=hb;have hl:cs.length=(c.args.toList.map ρ).length:=by
    have:=aG List.length dC
    rw[du]at this;simpa using this.symm
   have hm:=Fq hR hC hr dI (iP gE) hp fe ux hl fun j x v hx hv=>by
    rw[aI]at hv
    cases hy:c.args.toList[j]? with
    |none=>rw[hy]at hv;cases hv
    |some y=>
     rw[hy]at hv;cases hv
     have h1:(c.args.toList.map (bR env))[j]?=some (bR env y):=aX
     rw[dC,EE,hx]at h1
     grind
   have e:(c.args.toList.map ρ).toArray=c.args.map ρ:=by
    grind
   rw[e]at hm;refine hm.mono fun e w' ⟨ι',h1,h2,h3⟩=>?_
   rcases AG h3 with⟨ch,h4,_⟩|⟨_,v,h4,h5⟩
   ·rw[DO,r7]at h4
    cases h4
   grind
  ·exact Fp hT h
 ·exact Fp hT h
def bu(lo:Nat->Nat)(p:Nat)(avs:Nat->AV):Nat->Nat->List (Option AV)
 |_,0=>[]
 |m,n+1=>(match Nat.ble (lo m) p with
  |true=>some (avs m)
  |false=>none)::bu lo p avs (m+1) n
theorem Nv{lo:Nat->Nat}{p:Nat}{avs:Nat->AV}:∀(m n q:Nat),q<n->lo (m+q)<=p->(bu lo p avs m n)[q]?=some (some (avs (m+q)))
 |_,0,_,h,_=>by omega
 |m,n+1,0,_,hl=>by
  unfold bu;rw[Nat.ble_eq_true_of_le xp]
  simp
 |m,n+1,q+1,h,hl=>by
  unfold bu;rw[cD,Nv (m+1) n q oM aX,show m+1+q=m+(q+1) by omega]
theorem Ew{lo:Nat->Nat}{p:Nat}{avs:Nat->AV}:∀(m n q:Nat)(x:AV),(bu lo p avs m n)[q]?=some (some x)->x=avs (m+q)
 |_,0,_,_,h=>by simp[bu]at h
 |m,n+1,0,x,h=>by
  unfold bu at h
  grind
 |m,n+1,q+1,x,h=>by
  unfold bu at h;rw[Ew (m+1) n q x h,show m+1+q=m+(q+1) by omega]
theorem Nw{lo:Nat->Nat}{p:Nat}{avs:Nat->AV}:∀(m n:Nat),(bu lo p avs m n).length=n
 |_,0=>rfl
 |m,n+1=>by simp[bu,Nw (m+1) n]
theorem P6{lo:Nat->Nat}{p:Nat}{avs avs':Nat->AV}:∀(m n:Nat),(∀i,m<=i->avs i=avs' i)->bu lo p avs m n=bu lo p avs' m n
 |_,0,_=>rfl
 |m,n+1,h=>by
  unfold bu;rw[h m (nR _),P6 (m+1) n fun i hi=>h i oM]
theorem As(hT:iE P T){all:List Oper}{M:List Nat}{lo:Nat->Nat}{p:Nat}{mv:List (Nat×AV)}{H:AH}(hg:∀o∈all,True):∀(n m:Nat)(env:List AV)(vs:List (Option AV))(K:List AV->List (Option AV)->Prop),m+n<=all.length →
  tl P G bG T M lo p mv H n m (all.drop m) env vs K →
  ∃avs:Nat->AV,K (iJ all avs m n env) (vs++bu lo p avs m n)/\∀q o,q<n->all[m+q]?=some o->lo (m+q)<=p->eg (m+q) M=false->QS P G o (iJ all avs m q env) H (avs (m+q))
 |0,m,env,vs,K,_,h=>⟨fun _=>.junk,by unfold bu;rw[cB];exact h,fun q o hq=>by omega⟩
 |n+1,m,env,vs,K,hle,h=>by
  have hm:m<all.length:=eC
  rw[cU hm]at h;have ho:all[m]?=some all[m]:=aB hm;have go:∀(x:AV)(y:Option AV),(y=match Nat.ble (lo m) p with
    |true=>some x
    |false=>none)->(lo m<=p->eg m M=false->QS P G all[m] env H x)->tl P G bG T M lo p mv H n (m+1) (all.drop (m+1)) (qY env all[m].dst x) (vs++[y]) K →
    ∃avs:Nat->AV,K (iJ all avs m (n+1) env) (vs++bu lo p avs m (n+1))/\∀q o,q<n+1->all[m+q]?=some o->lo (m+q)<=p->eg (m+q) M=false->QS P G o (iJ all avs m q env) H (avs (m+q)):=by
   intro x y hy hx h;obtain⟨avs,hK,hF⟩:=As hT hg n (m+1) _ _ K oM h
   have hc:∀q env,iJ all (fun i=>if i=m then x else avs i) (m+1) q env=iJ all avs (m+1) q env:=fun q env=>G8 q env fun i h1 _=>by rw[aD oM]
   refine⟨fun i=>if i=m then x else avs i,?_,fun q o hq WO jx wK=>?_⟩
   ·rw[OW,hc,ho];unfold bu;rw[P6 (avs':=avs) (m+1) n fun i hi=>by rw[aD oM]]
    grind
   ·cases q with
    |zero=>
     rw[km,ho]at WO
     cases WO
     simpa [iJ]using hx (by simpa using jx) (by simpa using wK)
    |succ q=>
     have:=hF q o oM aX aX aX
     rw[OW,hc,ho]
     grind
  unfold tl at h
  cases hb:Nat.ble (lo m) p with
  |false=>
   rw[hb]at h;exact go .junk none (by rw[hb]) (fun hl=>by rw[Nat.ble_eq_true_of_le hl]at hb;cases hb) h
  |true=>
   rw[hb]at h
   cases hi:eg m M with
   |true=>
    grind
   |false=>
    rw[hi]at h;simp only at h
    split at h
    ·obtain⟨_,x,hK,hq⟩:=G3 (P:=P) (G:=G) (H:=H) hT h
     grind
    ·obtain⟨x,hK,hq⟩:=ZU hT h
     grind
theorem O7(hT:iE P T){all:List Oper}{M:List Nat}{lo:Nat->Nat}{k:Nat}(hk:k<=all.length):∀(Ms:List Nat)(p:Nat)(mv:List (Nat×AV))(ex:List (Option AV))(e0:List AV)(H:AH)(K:List AV->AH->Prop),
  (∀(j m:Nat),Ms[j]?=some m->lo m=p+j+1/\m<k)->vf P G bG T all M lo k Ms p mv ex e0 H K →
  ∃(V:Nat->Nat->AV)(Hs:Nat->AH)(es:Nat->List AV)(sc:Nat->Option (Nat->Bool)),Hs p=H/\es p=e0/\(∀i x,ex[i]?=some (some x)->V p i=x) ∧
   (∀r,p<=r->r<=p+Ms.length->∀i o,i<k->all[i]?=some o->lo i<=r->eg i M=false->QS P G o (iJ all (V r) 0 i (es r)) (Hs r) (V r i)) ∧
   (∀r,p<=r->∀m o,Ms[r-p]?=some m->all[m]?=some o->WS P G o (iJ all (V r) 0 k (es r)) (Hs r) (V (r+1) m) (Hs (r+1)) (sc r)) ∧
   (∀r,p<=r->r<p+Ms.length->es (r+1)=vY (sc r) (es r)/\∀i,i<k->lo i<=r->V (r+1) i=mz (sc r) (V r i)) ∧
   K (iJ all (V (p+Ms.length)) 0 k (es (p+Ms.length))) (Hs (p+Ms.length))
 |[],p,mv,ex,e0,H,K,_,h=>by
  unfold vf at h;obtain⟨avs,⟨⟨bl⟩,hK⟩,hF⟩:=As (all:=all) hT (fun _ _=>trivial) k 0 e0 [] _ oM jk
  refine⟨fun _=>avs,fun _=>H,fun _=>e0,fun _=>none,rfl,rfl,fun i x hx=>?_,fun r h1 h2 i o hi ho hl wK=>?_,fun r _ m o hm=>by simp at hm,fun r h1 h2=>by simp at h2;omega,hK⟩
  ·have:=Ew 0 k i x (Ak bl hx)
   grind
  grind
 |m::Ms,p,mv,ex,e0,H,K,Zf,h=>by
  unfold vf at h;obtain⟨avs,⟨⟨bl⟩,hK⟩,hF⟩:=As (all:=all) hT (fun _ _=>trivial) k 0 e0 [] _ oM jk
  rw[tB]at bl hK;obtain⟨D6,MQ⟩:=Zf 0 m rfl
  split at hK
  ·rename_i om Ls;obtain⟨a,H',sc0,YM,hW⟩:=z09 hT hK;obtain⟨V,Hs,es,sc,e1,e2,e3,e4,e5,e6,e7⟩:=O7 hT hk Ms (p+1) _ _ _ _ K (fun j m' hj=>by
    have:=Zf (j+1) m' (by simpa using hj)
    omega) YM
   have hlen:p+1+Ms.length=p+(m::Ms).length:=xo
   rw[hlen]at e4 e6 e7;have hVm:V (p+1) m=a:=e3 m a (by
    unfold Jc;rw[mH];rw[nk,Nw];exact MQ)
   have hVi:∀i,i<k->lo i<=p->V (p+1) i=mz sc0 (avs i):=fun i hi hl=>e3 i _ (by
    unfold Jc;rw[oC (fun e=>by subst e;omega),aI,Nv 0 k i hi aX]
    simp)
   refine⟨fun r=>if r=p then avs else V r,fun r=>if r=p then H else Hs r,fun r=>if r=p then e0 else es r,fun r=>if r=p then sc0 else sc r,aF rfl,aF rfl,fun i x hx=>?_,fun r h1 h2 i o hi ho hl wK=>?_,fun r h1 m' o HA ho=>?_,fun r h1 h2=>?_,?_⟩
   ·have:=Ew 0 k i x (Ak bl hx)
    grind
   ·grind
   ·by_cases er:r=p
    ·simp_all
    ·simp only[aD er,aD (show ¬r+1=p by omega)]
     refine e5 r oM m' o ?_ ho
     grind
   ·grind
   grind
  ·cases hK
end
section
variable{P:Program}{G:World->Prop}{T:TT}{w0:cJ}{B:Nat->Prop}{nt:Nat}
theorem z6q(sc:Option (Nat->Bool))(env:List AV)(t:Nat):bR (vY sc env) (.tmp t)=mz sc (bR env (.tmp t)):=by
 cases sc with
 |none=>rfl
 |some p=>
  simp only[bR,vY,mz,aL,aI]
  cases env[t]? with
  |none=>rfl
  |some a=>rfl
theorem zy3(sc:Option (Nat->Bool))(env:List AV):(vY sc env).length=env.length:=by
 unfold vY
 split<;>simp
structure JM(all:List Oper)(k:Nat)(M:List Nat)(lo:Nat->Nat)(w0:cJ)(B:Nat->Prop)(n0:Nat)(V:Nat->Nat->AV)(Hs:Nat->AH)(es:Nat->List AV)(listed:Array Bool)(a:Act)(w:World)(r:Nat)(ι:Pl):Prop where
 defers:a.defers=w0.ds
 size:a.tmps.size=n0
 pin:∀t v,w0.pin t=some v->a.tmps[t]?=some v
 le:r<=M.length
 pre:∀(j m:Nat),M[j]?=some m->(listed.getD m false=true ↔ j<r)
 lok:∀i,i<k->listed.getD i false=true->lo i<=r
 rel:eX w0 B w ι (Hs r)
 vals:∀(i:Nat)(o:Oper)(t:Tmp),all[i]?=some o->i<k->listed.getD i false=true->o.dst=some t->dG w ι (Rd B ι (Hs r)) (V r i) (a.eval (.tmp t))
 rest:∀(t:Tmp),(∀(i:Nat)(o:Oper),all[i]?=some o->i<k->listed.getD i false=true->o.dst≠some t)->dG w ι (Rd B ι (Hs r)) (bR (es r) (.tmp t)) (a.eval (.tmp t))
theorem Fx(hT:iE P T)(iM:∀w,uD w0 w->G w)(gS:∀b,w0.own b->B b)(hm:P.follows .mixedOrders=true){id:Nat}{all:List Oper}{k:Nat}{M:List Nat}{lo:Nat->Nat}(f9:∀o∈all,∀t,o.dst=some t->w0.pin t=none)(cV:DP nt all k M lo=true){Q:Exit->List AV->AH->Prop}{env0:List AV}{H:AH}{a:Act}{w:World}
  (h:vf P G bG T all M lo k M 0 [] [] env0 H fun env2 H2=>vW P G bG T all Q (all.drop k) env2 H2) (hS:St w0 B nt env0 H a w):
  (Code.region id all.toArray true).wp P (sJ w0 B nt Q) a w:=by
 obtain⟨kc,kM,nv,ι,gU,CH⟩:=hS;have rF:env0.length=nt:=by rw[CH.len];exact kM
 unfold DP at cV;simp only[gK,bD]at cV;obtain⟨⟨⟨⟨gp,lI⟩,eR⟩,pH⟩,uK⟩:=cV;have mj:∀(i:Nat)(o:Oper)(t:Tmp),all[i]?=some o->o.dst=some t->t<env0.length:=fun i o t ho ht=>by
  grind
 rw[qe]at pH;have pJ:∀i o,i<k->all[i]?=some o->CY all k M lo i o=true:=fun i o hi ho=>by
  grind
 unfold Du at uK;rw[qe]at uK;have bl:∀(j m:Nat),M[j]?=some m->m<k/\lo m=j+1/\∀j' m',j=j'+1->M[j']?=some m'->m'∈jN all.toArray m:=fun j m hj=>by
  have nU:=(aC.1 hj).1
  have:=uK j (bV.2 nU)
  rw[hj]at this;simp only[gK]at this;obtain⟨⟨h1,h2⟩,h3⟩:=this;refine⟨by simp_all,iP h2,fun j' m' e HA=>?_⟩
  grind
 obtain⟨V,Hs,es,sc,e1,e2,_,hq,hw,vN,hK⟩:=O7 hT lI M 0 [] [] env0 H _ (fun j m hj=>⟨by grind,(bl j m hj).1⟩) h
 rw[cF]at hq vN hK;have nV:∀(i j:Nat)(oi oj:Oper)(t:Tmp),all[i]?=some oi->all[j]?=some oj->i≠j->oi.dst=some t->oj.dst≠some t:=by
  exact Vv
 have gW:∀i d,d∈jN all.toArray i->d<i:=fun i d hd=>by
  exact Kn
 have rn:∀r,r<=M.length->(es r).length=env0.length:=by
  intro r
  induction r with
  |zero=>intro _;rw[e2]
  |succ r ih=>
   intro hr;rw[(vN r (aP _) oM).1,zy3]
   exact ih oM
 have cw:∀(listed:Array Bool)(a:Act)(w:World)(r:Nat)(ι:Pl)(i q:Nat)(o:Oper),JM all k M lo w0 B env0.length V Hs es listed a w r ι->(∀d∈jN all.toArray i,listed.getD d false=true)->all[i]?=some o->i<k->i<=q->q<=k →
   ∀x,x∈o.op.operands->dG w ι (Rd B ι (Hs r)) (bR (iJ all (V r) 0 q (es r)) x) (a.eval x):=by
  intro listed a w r ι i q o hJ gT ho jP Yx Yh x hx;have gI:=pJ i o jP ho;unfold CY at gI;simp only[gK]at gI;have jo:=(mL.1 gI.1.1) x hx
  cases x with
  |const v=>exact .p _ _ (ZK _ _ _)
  |global g=>exact .p _ _ (.v _)
  |func f=>exact .p _ _ (.v _)
  |tmp t=>
   simp only[bM]at jo
   rcases jo with mD|yA
   ·have he:(iJ all (V r) 0 q (es r))[t]?=(es r)[t]?:=KE q (es r) fun j hj=>JO mD oM
    have hr:=hJ.rest t fun j oj hj rj _=>by
     have:=JO mD rj
     grind
    have e1:bR (iJ all (V r) 0 q (es r)) (.tmp t)=bR (es r) (.tmp t):=by
     exact Jr
    rw[e1];exact hr
   ·rw[fY]at yA;obtain⟨d,uw,YA⟩:=yA;have zX:(all[d]?).bind (·.dst)=some t:=by simpa using YA
    cases yv:all[d]? with
    |none=>grind
    |some od=>
     have eR:od.dst=some t:=aX
     have rT:=gW i d uw;have hl:=gT d uw
     rcases aW t env0.length with cC|cC
     ·have he:(iJ all (V r) 0 q (es r))[t]?=some (V r d):=DX zX q (es r) oM (by rw[rn r hJ.le];exact cC) fun j hj rl=>by
       grind
      have e1:bR (iJ all (V r) 0 q (es r)) (.tmp t)=V r d:=C8
      rw[e1];exact hJ.vals d od t yv oM hl eR
     grind
 refine Qe k 8 (fun listed a w=>∃r ι,JM all k M lo w0 B env0.length V Hs es listed a w r ι) hm gp lI ?_ ?_ ?_
 ·
  have rR:∀i,(Array.replicate all.length false).getD i false=false:=fun i=>by by_cases h:i<all.length<;>simp[h]
  have hg:Gr w w.drew:=(Below.refl _ _).drew;refine⟨0,ι,kc,by rw[rF];exact kM,nv,aP _,fun j m _=>⟨(fun hh=>by grind),fun hh=>by omega⟩,(fun i _ hl=>by grind),(by rw[e1];exact gU.grow hg),(fun i o t _ _ hl=>by grind),fun t _=>?_⟩
  rw[e1,e2];exact(CH.eval (.tmp t)).keep0 (bS.gr hg)
 ·
  rintro listed a' w' i o ⟨r,ι,hJ⟩ tH gT ho jP oG
  have sw:G w':=iM _ hJ.rel.gr;have ig:∀f,a'.eval (.func f)=.func (.func f) #[] #[]:=fun _=>rfl
  have gI:=pJ i o jP ho;unfold CY at gI;simp only[gK]at gI;have ur:o.guard=none:=by simpa using gI.1.2
  rw[aF (by simp[Region.wanted,ur])]
  have vP:i<listed.size:=eC
  have xX:∀x,x≠i->(listed.setIfInBounds i true).getD x false=listed.getD x false:=fun x hx=>getD_set_ne false (iW hx)
  cases wK:eg i M with
  |true=>
   obtain⟨j,hj⟩:=Dz wK;obtain⟨_,jx,WQ⟩:=bl j i hj;have nU:=(aC.1 hj).1;have hjr:j=r:=by
    have h1:¬j<r:=fun hh=>by
     have:=(hJ.pre j i hj).2 hh
     grind
    rcases rH j with h0|h0
    ·omega
    ·have HA:M[j-1]?=some M[j-1]:=aB oM
     have hd:=WQ (j-1) _ oM HA
     have:=(hJ.pre (j-1) _ HA).1 (gT _ hd)
     omega
   subst hjr;have hC:m8 G w0 B w' ι (Hs j):=⟨fun w2 hg=>iM w2 ⟨hg.os.trans hJ.rel.gr.os,hg.tape.trans hJ.rel.gr.tape,hg.output.trans hJ.rel.gr.output,aR hJ.rel.size hg.size,fun k hk hx=>by
    exact W4⟩,gS⟩
   have hW:=hw j (aP _) i o oM ho w0 B w' ι a'.eval hJ.rel hC (cw listed a' w' j ι i k o hJ gT ho jP oM (nR _)) ig
   refine Ev (fun v w2 hv=>?_) hW
   obtain⟨ι',lT,iK,WM⟩:=hv;obtain⟨he,hV⟩:=vN j (aP _) nU;refine⟨j+1,ι',by rw[jd];exact hJ.defers,by rw[lh];exact hJ.size,j9 hJ.pin (f9 o (aH ho)) _,nU,fun j2 m2 oL=>?_,fun x hx hl=>?_,lT,fun x ox t jD vB jT wD=>?_,fun t ht=>?_⟩
   ·by_cases em:m2=i
    ·subst em;rw[AP vP]
     grind
    ·rw[xX m2 em,hJ.pre j2 m2 oL]
     grind
   ·by_cases ex:x=i
    ·subst ex;omega
    ·rw[xX x ex]at hl
     have:=hJ.lok x hx hl
     omega
   ·by_cases ex:x=i
    ·subst ex;rw[ho]at jD;cases jD
     rw[wD,PC C2]
     exact WM
    ·rw[xX x ex]at jT;rw[n8 (nV x i ox o t jD ho ex wD),hV x vB (hJ.lok x vB jT)];exact(hJ.vals x ox t jD vB jT wD).keep iK
   ·have dN:o.dst≠some t:=ht i o ho jP (AP vP);rw[n8 dN,he,z6q];exact(hJ.rest t fun x ox jD vB jT=>ht x ox jD vB (getD_set_true jT)).keep iK
  |false=>
   have jx:lo i<=r:=by
    exact Wz
   have hQ:=hq r (aP _) hJ.le i o jP ho jx wK w0 B w' ι a'.eval hJ.rel sw (cw listed a' w' r ι i i o hJ gT ho jP (nR _) oM) ig
   refine Ev (fun v w2 hv=>?_) hQ
   obtain⟨hg,WM⟩:=hv;have iK:bS none w' ι (Rd B ι (Hs r)) w2 ι (Rd B ι (Hs r)):=bS.gr hg;refine⟨r,ι,by rw[jd];exact hJ.defers,by rw[lh];exact hJ.size,j9 hJ.pin (f9 o (aH ho)) _,hJ.le,fun j2 m2 oL=>?_,fun x hx hl=>?_,hJ.rel.grow hg,fun x ox t jD vB jT wD=>?_,fun t ht=>?_⟩
   ·have em:m2≠i:=fun e=>by
     subst e;rw[T5 oL]at wK
     cases wK
    rw[xX m2 em];exact hJ.pre j2 m2 oL
   ·by_cases ex:x=i
    ·subst ex;exact jx
    ·rw[xX x ex]at hl;exact hJ.lok x hx hl
   ·by_cases ex:x=i
    ·subst ex;rw[ho]at jD;cases jD
     rw[wD,PC C2]
     exact WM
    ·rw[xX x ex]at jT;rw[n8 (nV x i ox o t jD ho ex wD)];exact(hJ.vals x ox t jD vB jT wD).keep0 iK
   ·have dN:o.dst≠some t:=ht i o ho jP (AP vP);rw[n8 dN];exact(hJ.rest t fun x ox jD vB jT=>ht x ox jD vB (getD_set_true jT)).keep0 iK
 ·
  rintro listed a' w' ⟨r,ι,hJ⟩ eH
  have hr:r=M.length:=by
   have hle:=hJ.le
   rcases aW r M.length with h1|h1
   ·have HA:M[r]?=some M[r]:=aB h1
    have:=(hJ.pre r _ HA).1 (eH _ (bl r _ HA).1)
    omega
   ·omega
  subst hr;refine AO hT iM gS _ (fun o ho=>f9 o (jE ho)) _ _ a' w' hK ⟨hJ.defers,by rw[hJ.size];exact rF,hJ.pin,ι,hJ.rel,?_⟩
  refine⟨by rw[ED,rn _ (nR _)];exact hJ.size.symm,fun t x v hx hv=>?_⟩
  have uv:a'.eval (.tmp t)=v:=Up
  have cC:t<env0.length:=by have:=(aC.1 hx).1;rw[ED,rn _ (nR _)]at this;exact this
  rcases dV (∃i o,i<k/\all[i]?=some o/\o.dst=some t)with⟨i,o,jP,ho,cx⟩|mS
  ·have wS:(all[i]?).bind (·.dst)=some t:=aX
   have he:(iJ all (V M.length) 0 k (es M.length))[t]?=some (V M.length i):=DX wS k _ jP aX fun x hx nC=>by
    grind
   rw[he]at hx;cases hx
   have:=hJ.vals i o t ho jP (eH i jP) cx
   grind
  ·have he:(iJ all (V M.length) 0 k (es M.length))[t]?=(es M.length)[t]?:=KE (all:=all) (avs:=V M.length) k _ fun i hi=>by
    grind
   rw[he]at hx
   have:=hJ.rest t fun i o ho hi _ e=>mS ⟨i,o,hi,ho,e⟩
   rw[uv]at this;have e2:bR (es M.length) (.tmp t)=x:=by simp only[bR,aL,hx];rfl
   grind
end
section
variable{P:Program}{G:World->Prop}{T:TT}{nt:Nat}
theorem aY.regM(hT:iE P T)(hm:P.follows .mixedOrders=true){id:Nat}{ops:Array Oper}(k:Nat)(M:List Nat)(lo:Nat->Nat)(cV:DP nt ops.toList k M lo=true)(Q:SO->Exit->List AV->AH->Prop){env:List AV}{H:AH}
  (h:∀(P':Program)(G':World->Prop)(E:SO),(∀f l r,fS P G f l r->fS P' G' f l r)->(∀f as H r H',jL P G f as H r H'->jL P' G' f as H r H')->E=bG->vf P' G' E T ops.toList M lo k M 0 [] [] env H fun env2 H2=>vW P' G' E T ops.toList (Q E) (ops.toList.drop k) env2 H2):aY P G nt (.region id ops true) (Q bG) env H:=by
 intro w0 B hG hB gD a w hS;exact Fx hT hG hB hm gD cV (h P G bG (fun _ _ _ h=>h) (fun _ _ _ _ _ h=>h) rfl) hS
theorem aY.loop{γ:Type}(n:Nat)(live:List Nat)(m:Nat)(S:γ->List AV)(h:γ->AH)(I:γ->Prop)(μ:γ->Nat)(x0:γ){c:Code}{Q:Exit->List AV->AH->Prop}{env:List AV}{H:AH}
  (h0:mQ n live m S h env H x0) (hI:I x0) (hr:∀x,I x->aY P G nt c (nI (ql n live m S h I μ (μ x)) Q) (rB live (S x) n 0) (h x)):aY P G nt (.loop c) Q env H:=by
 classical
 intro w0 B hG hB gD a w hS;have qq:∀env H env' H' a w,Wk env H env' H'->St w0 B nt env H a w->St w0 B nt env' H' a w:=fun env H env' H' a w hw hS=>by
  exact Vd
 have key:∃f:Act->World->Nat,(∀a w,(∃x,I x/\St w0 B nt (rB live (S x) n 0) (h x) a w)->∃x,I x/\μ x=f a w/\St w0 B nt (rB live (S x) n 0) (h x) a w)/\∀a w x,I x->St w0 B nt (rB live (S x) n 0) (h x) a w->f a w<=μ x:=by
  refine⟨fun a w=>if h:∃k,∃x,I x/\μ x=k/\St w0 B nt (rB live (S x) n 0) (h x) a w then Classical.choose (YV h)else 0,fun a w ⟨x,h1,h2⟩=>?_,fun a w x h1 h2=>?_⟩
  ·have yt:∃k,∃x,I x/\μ x=k/\St w0 B nt (rB live (S x) n 0) (h x) a w:=⟨_,x,h1,rfl,h2⟩
   grind
  ·have yt:∃k,∃x,I x/\μ x=k/\St w0 B nt (rB live (S x) n 0) (h x) a w:=⟨_,x,h1,rfl,h2⟩
   simp only[yt,dif_pos];exact(Classical.choose_spec (YV yt)).2 _ ⟨x,h1,rfl,h2⟩
 obtain⟨f,XW,Yz⟩:=key;refine wp_loop (fun a w=>∃x,I x/\St w0 B nt (rB live (S x) n 0) (h x) a w) f ⟨x0,hI,qq _ _ _ _ a w h0.wk hS⟩ fun a' w' yt=>?_
 obtain⟨x,hx,hμ,hSx⟩:=XW a' w' yt;refine wp_mono (hr x hx w0 B hG hB gD a' w' hSx) ?_;refine JX _ fun env3 H3 a3 w3 Lu o7=>?_
 obtain⟨y,hh,hIy,cQ⟩:=Lu;have hS4:=qq _ _ _ _ a3 w3 hh.wk o7
 grind
theorem aY.block{id:Nat}{c:Code}{Q:Exit->List AV->AH->Prop}{env:List AV}{H:AH}(h:aY P G nt c (lf id Q) env H):aY P G nt (.block id c) Q env H:=by
 intro w0 B hG hB gD a w hS;refine wp_block (wp_mono (h w0 B hG hB gD a w hS) ?_)
 exact Ki
end
section
variable{P:Program}{G:World->Prop}{T:TT}{nt:Nat}
theorem aY.of0(hT:iE P T)(hm:P.follows .mixedOrders=true)(kOf:Nat->Nat){c:Code}(cV:vZ nt kOf c=true){Q:Exit->List AV->AH->Prop}{env:List AV}{H:AH}
  (h:∀(P':Program)(G':World->Prop)(E:SO),(∀f l r,fS P G f l r->fS P' G' f l r)->(∀f as H r H',jL P G f as H r H'->jL P' G' f as H r H')->E=bG->tC P' G' E T kOf c Q env H):aY P G nt c Q env H:=
 aY.of hT hm kOf cV (fun _=>Q) h
theorem aY.condT{x:Operand}{c d:Code}{Q:Exit->List AV->AH->Prop}{env:List AV}{H:AH}(he:bR env x=.p (.v (.bool true)))(h:aY P G nt c Q env H):aY P G nt (.cond x c d) Q env H:=by
 intro w0 B hG hB gD a w hS;obtain⟨ι,hR,hE⟩:=hS.rep;have hc:=hE.eval x;rw[he]at hc;refine wp_cond_split (jW hc) (fun _=>h w0 B hG hB gD.1 a w hS) (fun hb=>by cases hb)
theorem aY.condF{x:Operand}{c d:Code}{Q:Exit->List AV->AH->Prop}{env:List AV}{H:AH}(he:bR env x=.p (.v (.bool false)))(h:aY P G nt d Q env H):aY P G nt (.cond x c d) Q env H:=by
 intro w0 B hG hB gD a w hS;obtain⟨ι,hR,hE⟩:=hS.rep;have hc:=hE.eval x;rw[he]at hc;refine wp_cond_split (jW hc) (fun hb=>by cases hb) (fun _=>h w0 B hG hB gD.2 a w hS)
theorem aY.never{c d:Code}{Q:Exit->List AV->AH->Prop}{env:List AV}{H:AH}(h:aY P G nt c (nI (fun _ _=>False) Q) env H):aY P G nt (.seq c d) Q env H:=
 .seq _ h fun _ _ h=>h.elim
end
section
variable{P:Program}{G:World->Prop}{T:TT}{nt:Nat}
theorem aY.cutK0{γ:Type}(k:Nat)(n:Nat)(live:List Nat)(m:Nat)(S:γ->List AV)(h:γ->AH)(I:γ->Prop)(hT:iE P T)(hm:P.follows .mixedOrders=true)(kOf:Nat->Nat){c:Code}{Q:Exit->List AV->AH->Prop}{env:List AV}{H:AH}(cV:vZ nt kOf (wW k c)=true)
  (h1:∀(P':Program)(G':World->Prop)(E:SO),(∀f l r,fS P G f l r->fS P' G' f l r)->(∀f as H r H',jL P G f as H r H'->jL P' G' f as H r H')->E=bG->tC P' G' E T kOf (wW k c) (nI (mC n live m S h I) Q) env H)
  (h2:∀y,I y->aY P G nt (l8 k c) Q (rB live (S y) n 0) (h y)):aY P G nt c Q env H:=
 aY.cutK k n live m S h I hT hm kOf (fun _=>Q) cV h1 h2
theorem aY.regM0(hT:iE P T)(hm:P.follows .mixedOrders=true){id:Nat}{ops:Array Oper}(k:Nat)(M:List Nat)(lo:Nat->Nat)(cV:DP nt ops.toList k M lo=true){Q:Exit->List AV->AH->Prop}{env:List AV}{H:AH}
  (h:∀(P':Program)(G':World->Prop)(E:SO),(∀f l r,fS P G f l r->fS P' G' f l r)->(∀f as H r H',jL P G f as H r H'->jL P' G' f as H r H')->E=bG->vf P' G' E T ops.toList M lo k M 0 [] [] env H fun env2 H2=>vW P' G' E T ops.toList Q (ops.toList.drop k) env2 H2):aY P G nt (.region id ops true) Q env H:=
 aY.regM hT hm k M lo cV (fun _=>Q) h
end
section
variable{P:Program}{ops:Array Oper}{Q:Exit->Act->World->Prop}
def CO(P:Program)(R:Value->World->Prop)(Z:List PanicEntry->World->Prop):Result Next->Prop
 | .ok (.value v) w'=>R v w'
 | .ok .skip w'=>R undef w'
 | .ok (.enter f args) w'=>Calls P f args w' fun e w''=>(∃v,e=.returned v/\R v w'')\/∃ch,e=.panicked ch/\Z ch w''
 |_=>False
theorem z92{R:Value->World->Prop}{Z:List PanicEntry->World->Prop}{x:Result Next}(h:au P R x):CO P R Z x:=by
 cases x with
 |ok n w=>
  cases n<;>simp only[au,CO]at h ⊢
  ·exact h
  ·exact h
  ·exact h.mono fun e w' h=>.inl h
 |halt y w=>exact h
theorem zu6{o:Oper}{a:Act}{w:World}{R:Value->World->Prop}{Z:List PanicEntry->World->Prop}{K:Act->World->Prop}
  (h:CO P R Z ((execOp a.eval o).run P w)) (hK:∀v w',R v w'->K (a.put o.dst v) w') (hZ:∀ch w',Z ch w'->Q (.panic ch) a w'):o.wp P a w K Q:=by
 unfold Oper.wp;generalize (execOp a.eval o).run P w=r at *
 cases r with
 |ok n w'=>
  cases n<;>simp only[CO]at h<;>simp only[Oper.upon]
  case value v=>exact hK _ _ h
  case skip=>exact hK _ _ h
  case enter f args=>
   refine h.mono fun e w'' h=>?_
   grind
 |halt x w'=>simp only[CO]at h
theorem zyp(J:Array Bool->Act->World->Prop)(k r:Nat)(hB:qc ops k r=true)(hk:k<=ops.size)
  (sO:∀(listed:Array Bool)(a:Act)(w:World)(i:Nat)(o:Oper),J listed a w->listed.size=ops.size->(∀d∈jN ops i,listed.getD d false=true)->ops[i]?=some o->i<k->listed.getD i false=false →
   (if Region.wanted o (u5 ops a.eval)then CO P (fun v w'=>J (listed.setIfInBounds i true) (a.put o.dst v) w') (fun ch w'=>Q (.panic ch) a w') ((execOp a.eval o).run P w)else J (listed.setIfInBounds i true) (a.put o.dst undef) w))
  (lZ:∀(listed:Array Bool)(a:Act)(w:World),J listed a w->(∀i,i<k->listed.getD i false=true)->wpList P ops Q (ops.toList.drop k) a w):
  ∀(m:Nat)(listed:Array Bool)(a:Act)(w:World),J listed a w->listed.size=ops.size->(∀i,listed.getD i false=true->∀d∈jN ops i,listed.getD d false=true)->(∀i,k<=i->listed.getD i false=false) →
   ((List.range k).filter fun i=>!listed.getD i false).length=m->wpAny P .any ops Q (m+(ops.size-k)) listed a w:=by
 simp only[qc,gK,qe,SX,bD,bM,List.contains_iff_mem]at hB;obtain⟨⟨Zj,hB2⟩,hB3⟩:=hB;have gW:∀i d,d∈jN ops i->d<i:=fun i d hd=>by
  exact Vk
 have yP:∀j,k<=j->j<ops.size->∀i,i<j->i∈KB ops r (jN ops j):=fun j Yq hj i hi=>by
  grind
 intro m
 induction m with
 |zero=>
  intro listed a w hJ tH dO hu hm;have eH:∀i,i<k->listed.getD i false=true:=fun i hi=>by
   simp_all
  exact Q9 gW r k yP (ops.size-k) k listed a w (nR _) oM tH eH (fun i h1 _=>hu i h1) dO (lZ listed a w hJ eH) _ oM
 |succ m ih=>
  intro listed a w hJ tH dO hu hm;obtain⟨i0,iH,y8⟩:∃i,i<k/\listed.getD i false=false:=by
   exact X7
  have M9:m+1+(ops.size-k)=(m+(ops.size-k))+1:=eC
  rw[M9];refine⟨fun h0=>?_,fun i hi=>?_⟩
  ·obtain⟨i,_,hi⟩:=Ga gW tH i0 i0 (nR _) oM y8
   grind
  ·obtain⟨oG,o,ho,_⟩:=mem_ready.1 hi;have XN:=(jF.1 ho).1;obtain⟨GI,vP⟩:=KI oG;have jP:i<k:=by
    exact Vl
   have hs:=sO listed a w i o hJ tH (EG hi) ho jP GI;have wQ:((List.range k).filter fun x=>!(listed.setIfInBounds i true).getD x false).length=m:=by
    exact Xd
   have GK:∀x,k<=x->(listed.setIfInBounds i true).getD x false=false:=fun x hx=>by
    rw[getD_set_ne false oM];exact hu x hx
   have s7:∀x,(listed.setIfInBounds i true).getD x false=true->∀d∈jN ops x,(listed.setIfInBounds i true).getD d false=true:=fun x hx d hd=>by
    exact W2
   unfold wpOp;simp only[ho];rw[PE]
   split
   ·rename_i hw;rw[aF hw]at hs;exact .inl (zu6 hs (fun v w' hv=>ih _ _ _ hv FQ s7 GK wQ) (fun ch w' hz=>hz))
   ·rename_i hw;rw[aD hw]at hs;exact ih _ _ _ hs FQ s7 GK wQ
theorem zpw{id:Nat}{l:List Oper}{a:Act}{w:World}(k r:Nat)(J:Array Bool->Act->World->Prop)
  (hm:P.follows .mixedOrders=true) (hB:qc l.toArray k r=true) (hk:k<=l.length) (h0:J (Array.replicate l.length false) a w.drew)
  (sO:∀(listed:Array Bool)(a:Act)(w:World)(i:Nat)(o:Oper),J listed a w->listed.size=l.length->(∀d∈jN l.toArray i,listed.getD d false=true)->l[i]?=some o->i<k->listed.getD i false=false →
   (if Region.wanted o (u5 l.toArray a.eval)then CO P (fun v w'=>J (listed.setIfInBounds i true) (a.put o.dst v) w') (fun ch w'=>Q (.panic ch) a w') ((execOp a.eval o).run P w)else J (listed.setIfInBounds i true) (a.put o.dst undef) w))
  (lZ:∀(listed:Array Bool)(a:Act)(w:World),J listed a w->(∀i,i<k->listed.getD i false=true)->wpList P l.toArray Q (l.drop k) a w):
  (Code.region id l.toArray true).wp P Q a w:=by
 refine wp_region_any hm ?_;have rR:∀n i,(Array.replicate n false).getD i false=false:=fun n i=>by
  by_cases h:i<n<;>simp[h]
 have dR:l.toArray.size=k+(l.toArray.size-k):=xo
 have yc:l.toArray.size=l.length:=dL
 have eH:=zyp (P:=P) (ops:=l.toArray) (Q:=Q) J k r hB BF (fun listed a w i o hJ tH hd ho jP oG=>sO listed a w i o hJ FQ hd UQ jP oG) (fun listed a w hJ hl=>by grind)
  k (Array.replicate l.length false) a w.drew h0 dL (fun i h=>by rw[rR]at h;cases h) (fun i _=>rR _ i) (by
   exact Wn)
 simp_all
end
inductive GC(P:Program)(G:World->Prop)(f:FuncId)(ls:List AV)(H:AH)(K:List PanicEntry->AH->Prop):Prop
 |mk (σ:List Nat) (cs:List AV) (Hc:AH) (r:AV) (Hc':AH) (h:jL P G f cs Hc r Hc') (hc:ls=AV.ren.renL (jU σ H.length) cs) (hb:pu σ H Hc cs=true)
  (hp:σ.map (fun l=>ow (H.getD l none))=Hc.map (yX (jU σ H.length) none)) (ch:List PanicEntry) (hr:r.panOf=some ch) (k:K ch (wV σ H Hc'))
def Ha(P:Program)(G:World->Prop)(E:SO)(T:TT)(all:List Oper)(m:Nat)(lo:Nat->Nat)(k:Nat)(e0:List AV)(H:AH)(Q:Exit->List AV->AH->Prop):Prop:=
 tl P G E T [m] lo 0 [] H k 0 all e0 [] fun env _=>(match all[m]? with
  |some o=>(match o.op with
   | .call c=>(match c.callee with
    | .value (.func f)=>GC P G f (c.args.toList.map (bR env)) H fun ch H'=>Q (.panic ch) (e0.map fun _=>AV.junk) H'
    |_=>False)
   |_=>False)
  |none=>False)
section
variable{P:Program}{G:World->Prop}{T:TT}{w0:cJ}{B:Nat->Prop}{nt:Nat}
theorem zwx(hT:iE P T)(iM:∀w,uD w0 w->G w)(gS:∀b,w0.own b->B b)(hm:P.follows .mixedOrders=true){id:Nat}{all:List Oper}{k:Nat}{m0:Nat}{lo:Nat->Nat}(f9:∀o∈all,∀t,o.dst=some t->w0.pin t=none)(cV:DP nt all k [m0] lo=true){Q:Exit->List AV->AH->Prop}{env0:List AV}{H:AH}{a:Act}{w:World}
  (h:Ha P G bG T all m0 lo k env0 H Q) (hS:St w0 B nt env0 H a w):
  (Code.region id all.toArray true).wp P (sJ w0 B nt Q) a w:=by
 obtain⟨kc,kM,nv,ι,gU,CH⟩:=hS;have rF:env0.length=nt:=by rw[CH.len];exact kM
 unfold DP at cV;simp only[gK,bD]at cV;obtain⟨⟨⟨⟨gp,lI⟩,eR⟩,pH⟩,uK⟩:=cV;have mj:∀(i:Nat)(o:Oper)(t:Tmp),all[i]?=some o->o.dst=some t->t<env0.length:=fun i o t ho ht=>by
  grind
 rw[qe]at pH;have pJ:∀i o,i<k->all[i]?=some o->CY all k [m0] lo i o=true:=fun i o hi ho=>by
  grind
 unfold Du at uK;rw[qe]at uK;have bl:∀(j m:Nat),[m0][j]?=some m->m<k/\lo m=j+1/\∀j' m',j=j'+1->[m0][j']?=some m'->m'∈jN all.toArray m:=fun j m hj=>by
  have nU:=(aC.1 hj).1;simp_all
 unfold Ha at h;obtain⟨avs,hK,hF⟩:=As (all:=all) hT (fun _ _=>trivial) k 0 env0 [] _ oM jk
 have r7:∃om c f,all[m0]?=some om/\om.op=.call c/\c.callee=.value (.func f)/\GC P G f (c.args.toList.map (bR (iJ all avs 0 k env0))) H fun ch H'=>Q (.panic ch) (env0.map fun _=>AV.junk) H':=by
  grind
 obtain⟨V,Hs,es,e1,e2,rn,hq,r7⟩:∃(V:Nat->Nat->AV)(Hs:Nat->AH)(es:Nat->List AV),Hs 0=H/\es 0=env0/\(∀r,r<=[m0].length->(es r).length=env0.length)/\(∀i o,i<k->all[i]?=some o->lo i<=0->eg i [m0]=false->QS P G o (iJ all (V 0) 0 i (es 0)) (Hs 0) (V 0 i)) ∧
   ∃om c f,all[m0]?=some om/\om.op=.call c/\c.callee=.value (.func f)/\GC P G f (c.args.toList.map (bR (iJ all (V 0) 0 k (es 0)))) (Hs 0) fun ch H'=>Q (.panic ch) (env0.map fun _=>AV.junk) H':=
  ⟨fun _=>avs,fun _=>H,fun _=>env0,rfl,rfl,fun _ _=>rfl,fun i o hi ho hl wK=>by
   grind,r7⟩
 have nV:∀(i j:Nat)(oi oj:Oper)(t:Tmp),all[i]?=some oi->all[j]?=some oj->i≠j->oi.dst=some t->oj.dst≠some t:=by
  exact Vv
 have gW:∀i d,d∈jN all.toArray i->d<i:=fun i d hd=>by
  exact Kn
 have cw:∀(listed:Array Bool)(a:Act)(w:World)(r:Nat)(ι:Pl)(i q:Nat)(o:Oper),JM all k [m0] lo w0 B env0.length V Hs es listed a w r ι->(∀d∈jN all.toArray i,listed.getD d false=true)->all[i]?=some o->i<k->i<=q->q<=k →
   ∀x,x∈o.op.operands->dG w ι (Rd B ι (Hs r)) (bR (iJ all (V r) 0 q (es r)) x) (a.eval x):=by
  intro listed a w r ι i q o hJ gT ho jP Yx Yh x hx;have gI:=pJ i o jP ho;unfold CY at gI;simp only[gK]at gI;have jo:=(mL.1 gI.1.1) x hx
  cases x with
  |const v=>exact .p _ _ (ZK _ _ _)
  |global g=>exact .p _ _ (.v _)
  |func f=>exact .p _ _ (.v _)
  |tmp t=>
   simp only[bM]at jo
   rcases jo with mD|yA
   ·have he:(iJ all (V r) 0 q (es r))[t]?=(es r)[t]?:=KE q (es r) fun j hj=>JO mD oM
    have hr:=hJ.rest t fun j oj hj rj _=>by
     have:=JO mD rj
     grind
    have e1:bR (iJ all (V r) 0 q (es r)) (.tmp t)=bR (es r) (.tmp t):=by
     exact Jr
    rw[e1];exact hr
   ·rw[fY]at yA;obtain⟨d,uw,YA⟩:=yA;have zX:(all[d]?).bind (·.dst)=some t:=by simpa using YA
    cases yv:all[d]? with
    |none=>grind
    |some od=>
     have eR:od.dst=some t:=aX
     have rT:=gW i d uw;have hl:=gT d uw
     rcases aW t env0.length with cC|cC
     ·have he:(iJ all (V r) 0 q (es r))[t]?=some (V r d):=DX zX q (es r) oM (by rw[rn r hJ.le];exact cC) fun j hj rl=>by
       grind
      have e1:bR (iJ all (V r) 0 q (es r)) (.tmp t)=V r d:=C8
      rw[e1];exact hJ.vals d od t yv oM hl eR
     grind
 refine zpw k 8 (fun listed a w=>∃ι,JM all k [m0] lo w0 B env0.length V Hs es listed a w 0 ι) hm gp lI ?_ ?_ ?_
 ·
  have rR:∀i,(Array.replicate all.length false).getD i false=false:=fun i=>by by_cases h:i<all.length<;>simp[h]
  have hg:Gr w w.drew:=(Below.refl _ _).drew;refine⟨ι,kc,by rw[rF];exact kM,nv,aP _,fun j m _=>⟨(fun hh=>by grind),fun hh=>by omega⟩,(fun i _ hl=>by grind),(by rw[e1];exact gU.grow hg),(fun i o t _ _ hl=>by grind),fun t _=>?_⟩
  rw[e1,e2];exact(CH.eval (.tmp t)).keep0 (bS.gr hg)
 ·
  rintro listed a' w' i o ⟨ι,hJ⟩ tH gT ho jP oG
  have sw:G w':=iM _ hJ.rel.gr;have ig:∀f,a'.eval (.func f)=.func (.func f) #[] #[]:=fun _=>rfl
  have gI:=pJ i o jP ho;unfold CY at gI;simp only[gK]at gI;have ur:o.guard=none:=by simpa using gI.1.2
  rw[aF (by simp[Region.wanted,ur])]
  have vP:i<listed.size:=eC
  have xX:∀x,x≠i->(listed.setIfInBounds i true).getD x false=listed.getD x false:=fun x hx=>getD_set_ne false (iW hx)
  cases wK:eg i [m0]with
  |true=>
   have him:i=m0:=by
    obtain⟨j,hj⟩:=Dz wK
    grind
   subst him;obtain⟨om,c,f,Ls,Ym,Z4,σ,cs,Hc,r,Hc',hr,dC,hb,hp,ch,ul,kq⟩:=r7;rw[ho]at Ls
   cases Ls
   have hC:m8 G w0 B w' ι (Hs 0):=⟨fun w2 hg=>iM w2 ⟨hg.os.trans hJ.rel.gr.os,hg.tape.trans hJ.rel.gr.tape,hg.output.trans hJ.rel.gr.output,aR hJ.rel.size hg.size,fun k hk hx=>by
    exact W4⟩,gS⟩
   have hρ:=cw listed a' w' 0 ι i k o hJ gT ho jP oM (nR _)
   have Yl:∀x,x∈c.args->x∈o.op.operands:=fun x hx=>by rw[Ym];simp[Op.operands,Call.operands,Z4,hx]
   have wM:(execOp a'.eval o).run P w'=.ok (.enter f (c.args.map a'.eval)) w':=by
    simp only[execOp,Ym,resolve,Z4,ig,Deferred.ofValue,Sem.run_bind,Sem.run_pure,Result.andThen_ok,invoke]
    have:=hr.1 (#[]++c.args.map a'.eval++#[]) w'
    exact qh
   rw[wM];unfold pu at hb;simp only[gK]at hb;obtain⟨⟨⟨dI,gE⟩,fe⟩,ux⟩:=hb;have hl:cs.length=(c.args.toList.map a'.eval).length:=by
    have:=aG List.length dC
    rw[du]at this;simpa using this.symm
   have BW:=Fq hJ.rel hC hr dI (iP gE) hp fe ux hl fun j x v hx hv=>by
    rw[aI]at hv
    cases hy:c.args.toList[j]? with
    |none=>rw[hy]at hv;cases hv
    |some y=>
     rw[hy]at hv;cases hv
     have h1:(c.args.toList.map (bR (iJ all (V 0) 0 k (es 0))))[j]?=some (bR (iJ all (V 0) 0 k (es 0)) y):=aX
     rw[dC,EE,hx]at h1
     grind
   have e:(c.args.toList.map a'.eval).toArray=c.args.map a'.eval:=by
    grind
   rw[e]at BW;refine BW.mono fun e w2 ⟨ι',h1,h2,h3⟩=>?_
   rcases AG h3 with⟨ch2,h4,h5⟩|⟨h4,v,_,_⟩
   ·rw[DO,ul]at h4
    cases h4
    exact .inr ⟨ch,h5,_,_,kq,hJ.defers,by rw[hJ.size];exact rF,hJ.pin,ι',h1,by rw[nk];exact hJ.size.symm,fun t x v hx _=>by
     rw[aI]at hx
     cases hz:env0[t]? with
     |none=>rw[hz]at hx;cases hx
     |some z=>rw[hz]at hx;cases hx;exact .junk v⟩
   ·rw[DO,ul]at h4
    cases h4
  |false=>
   have jx:lo i<=0:=by
    exact Wz
   have hQ:=hq i o jP ho jx wK w0 B w' ι a'.eval hJ.rel sw (cw listed a' w' 0 ι i i o hJ gT ho jP (nR _) oM) ig
   refine z92 (Ev (fun v w2 hv=>?_) hQ)
   obtain⟨hg,WM⟩:=hv;have iK:bS none w' ι (Rd B ι (Hs 0)) w2 ι (Rd B ι (Hs 0)):=bS.gr hg;refine⟨ι,by rw[jd];exact hJ.defers,by rw[lh];exact hJ.size,j9 hJ.pin (f9 o (aH ho)) _,hJ.le,fun j2 m2 oL=>?_,fun x hx hl=>?_,hJ.rel.grow hg,fun x ox t jD vB jT wD=>?_,fun t ht=>?_⟩
   ·have em:m2≠i:=fun e=>by
     grind
    rw[xX m2 em];exact hJ.pre j2 m2 oL
   ·by_cases ex:x=i
    ·subst ex;exact jx
    ·rw[xX x ex]at hl;exact hJ.lok x hx hl
   ·by_cases ex:x=i
    ·subst ex;rw[ho]at jD;cases jD
     rw[wD,PC C2]
     exact WM
    ·rw[xX x ex]at jT;rw[n8 (nV x i ox o t jD ho ex wD)];exact(hJ.vals x ox t jD vB jT wD).keep0 iK
   ·have dN:o.dst≠some t:=ht i o ho jP (AP vP);rw[n8 dN];exact(hJ.rest t fun x ox jD vB jT=>ht x ox jD vB (getD_set_true jT)).keep0 iK
 ·
  rintro listed a' w' ⟨ι,hJ⟩ eH
  have h1:=(hJ.pre 0 m0 rfl).1 (eH m0 (bl 0 m0 rfl).1);omega
end
def UL(dz:Bool)(P:Program)(G:World->Prop)(E:SO)(T:TT)(all:List Oper)(o:Oper)(env:List AV)(H:AH)(K:List AV->AH->Prop)(Q:Exit->List AV->AH->Prop):Prop:=
 match dz&&He all o with
 |true=>JH T o env fun a=>K (qY env o.dst a) H
 |false=>(match o.guard with
  |none=>lb P G E T o env H K Q
  |some (j,want)=>(match EK all env j with
   |some b=>(match zk want b with
    |true=>lb P G E T o env H K Q
    |false=>K (qY env o.dst (.p (.v undef))) H)
   |none=>False))
def EJ(i:Nat):List Nat->Bool
 |[]=>false
 |x::l=>Nat.beq i x||EJ i l
def KZ:List Nat->List Nat->Bool
 |[],_=>true
 |x::l,done=>EJ x done&&KZ l done
def BA(done:List Nat):Nat->List (List Nat)->List Nat
 |_,[]=>[]
 |i,d::ds=>(match !EJ i done&&KZ d done with
  |true=>i::BA done (i+1) ds
  |false=>BA done (i+1) ds)
def FK(f:Nat->Prop):List Nat->Prop
 |[]=>True
 |[i]=>f i
 |i::j::is=>f i/\FK f (j::is)
def DH(ops:List Oper):List (List Nat):=(List.range ops.length).map (jN ops.toArray)
def EH(dz:Bool)(P:Program)(G:World->Prop)(E:SO)(T:TT)(all:List Oper)(ds:List (List Nat))(Q:Exit->List AV->AH->Prop):Nat->List Nat->List AV->AH->Prop
 |0,done,env,H=>(match BA done 0 ds with
  |[]=>Q .normal env H
  |_::_=>False)
 |n+1,done,env,H=>(match BA done 0 ds with
  |[]=>Q .normal env H
  |i::is=>FK (fun i=>match all[i]? with
   |some o=>UL dz P G E T all o env H (fun env' H'=>EH dz P G E T all ds Q n (i::done) env' H') Q
   |none=>False) (i::is))
theorem Ee{i:Nat}:∀{l:List Nat},EJ i l=true ↔ i∈l
 |[]=>by simp[EJ]
 |x::l=>by
  rw[EJ,bM,Ee,dX];simp_all
theorem Np{done:List Nat}:∀{l:List Nat},KZ l done=true ↔ ∀x∈l,x∈done
 |[]=>by simp[KZ]
 |x::l=>by simp[KZ,Ee,Np]
theorem Rf{done:List Nat}{j:Nat}:∀{k:Nat}{ds:List (List Nat)},j∈BA done k ds ↔ ∃d,k<=j/\ds[j-k]?=some d/\j ∉ done/\∀x∈d,x∈done
 |k,[]=>by simp[BA]
 |k,d::ds=>by
  have ih:=Rf (done:=done) (j:=j) (k:=k+1) (ds:=ds);have sO:(∃d',k<=j/\(d::ds)[j-k]?=some d'/\j ∉ done/\∀x∈d',x∈done) ↔ (j=k/\j ∉ done/\∀x∈d,x∈done)\/∃d',k+1<=j/\ds[j-(k+1)]?=some d'/\j ∉ done/\∀x∈d',x∈done:=by
   constructor
   ·grind
   ·rintro(⟨e,h⟩|⟨d',h1,h2,h3⟩)
    ·simp_all
    grind
  rw[sO,<- ih];have hc:(!EJ k done&&KZ d done)=true ↔ k ∉ done/\∀x∈d,x∈done:=by
   rw[gK,Np,eM,<- nM,Ee]
  rw[BA]
  grind
theorem N0{f:Nat->Prop}:∀{l:List Nat},FK f l->∀i∈l,f i
 |[],_,i,hi=>by cases hi
 |[x],h,i,hi=>by
  rcases eV.1 hi with rfl
  exact h
 |x::y::l,h,i,hi=>by
  rcases dX.1 hi with rfl|hi
  ·exact h.1
  ·exact N0 h.2 i hi
section
variable{P:Program}{G:World->Prop}{T:TT}{w0:cJ}{B:Nat->Prop}{nt:Nat}
theorem Pr{ops:List Oper}{j:Nat}{d:List Nat}:(DH ops)[j]?=some d ↔ j<ops.length/\d=jN ops.toArray j:=by
 unfold DH
 grind
theorem Oi{ops:List Oper}{listed:Array Bool}{done:List Nat}(hs:listed.size=ops.length)(hl:∀i,listed.getD i false=true ↔ i∈done)(j:Nat):j∈Region.ready .any ops.toArray listed ↔ j∈BA done 0 (DH ops):=by
 rw[Rf,mem_ready]
 constructor
 ·rintro⟨h1,o,ho,h2⟩
  obtain⟨h3,h4⟩:=KI h1;refine⟨_,aP _,by exact Pr.2 ⟨by rw[<-hs];exact h4,rfl⟩,fun hm=>?_,fun x hx=>?_⟩
  ·grind
  ·unfold jN at hx
   grind
 ·rintro⟨d,_,h1,h2,h3⟩
  rw[Nat.sub_zero]at h1;obtain⟨h4,rfl⟩:=Pr.1 h1;have hu:listed.getD j false=false:=by
   grind
  have h5:j<listed.size:=by rw[hs];exact h4
  refine⟨by simpa [h5]using hu,ops[j],by simp[h4],fun e he hb=>(hl _).2 (h3 _ ?_)⟩
  have ho:ops.toArray[j]?=some ops[j]:=by simp[h4]
  unfold jN
  grind
theorem z57(hT:iE P T)(iM:∀w,uD w0 w->G w){o:Oper}(eR:∀t,o.dst=some t->w0.pin t=none){env:List AV}{H:AH}{K:List AV->AH->Prop}{Q:Exit->Act->World->Prop}{a:Act}{w:World}{next:Act->World->Prop}
  (h:JH T o env fun x=>K (qY env o.dst x) H) (hS:St w0 B nt env H a w) (hK:∀env' H' a' w',K env' H'->St w0 B nt env' H' a' w'->next a' w'):o.guard=none/\o.wp P a w next Q:=by
 obtain⟨hd,hn,iB,ι,hR,hE⟩:=hS;obtain⟨hg,x,hk,hq⟩:=G3 (P:=P) (G:=G) (H:=H) hT h;exact⟨hg,Fz (hq w0 B w ι a.eval hR (iM w hR.gr) (fun y _=>hE.eval y) fun _=>rfl) fun v w' ⟨vG,hv⟩=>hK _ H _ w' hk ⟨by rw[jd];exact hd,by rw[lh];exact hn,j9 iB eR _,ι,hR.grow vG,hE.put (sc:=none) (bS.gr vG) hv⟩⟩
theorem Ar(dz:Bool)(hT:iE P T)(iM:∀w,uD w0 w->G w)(gS:∀b,w0.own b->B b){all:List Oper}{Q:Exit->List AV->AH->Prop}(f9:∀o∈all,∀t,o.dst=some t->w0.pin t=none):
  ∀(n:Nat)(done:List Nat)(listed:Array Bool)(env:List AV)(H:AH)(a:Act)(w:World),listed.size=all.length->(∀i,listed.getD i false=true ↔ i∈done)->EH dz P G bG T all (DH all) Q n done env H->St w0 B nt env H a w →
   wpAny P .any all.toArray (sJ w0 B nt Q) n listed a w
 |0,done,listed,env,H,a,w,hs,hl,h,hS=>by
  have key:=Oi hs hl;unfold EH at h
  split at h
  ·rename_i e;rw[e]at key;exact⟨oc.2 fun j hj=>o9 ((key j).1 hj),env,H,h,hS⟩
  ·cases h
 |n+1,done,listed,env,H,a,w,hs,hl,h,hS=>by
  have key:=Oi hs hl;unfold EH at h
  split at h
  ·rename_i e;rw[e]at key;exact⟨fun _=>⟨env,H,h,hS⟩,fun j hj=>absurd ((key j).1 hj) o9⟩
  ·rename_i i is e;refine⟨fun e2=>?_,fun j hj=>?_⟩
   ·have hi:i∈Region.ready .any all.toArray listed:=(key i).2 aX
    grind
   ·have Yw:=(key j).1 hj;rw[e]at Yw;have h2:=N0 h j Yw;obtain⟨h3,_⟩:=mem_ready.1 hj;obtain⟨oG,vP⟩:=KI h3;have HB:(listed.setIfInBounds j true).size=all.length:=UR
    have pM:∀x,(listed.setIfInBounds j true).getD x false=true ↔ x∈j::done:=fun x=>by
     by_cases hx:j=x
     ·simp_all
     ·rw[getD_set_ne false hx,hl x,dX]
      grind
    unfold wpOp;simp only[xL]
    split at h2
    ·rename_i o ho;rw[ho];have eR:=f9 o (aH ho);have run:lb P G bG T o env H (fun env' H'=>EH dz P G bG T all (DH all) Q n (j::done) env' H') Q->o.wp P a w (wpAny P .any all.toArray (sJ w0 B nt Q) n (listed.setIfInBounds j true)) (sJ w0 B nt Q):=fun h=>
      Ay hT iM gS eR h hS fun env' H' a' w' hK sV=>Ar dz hT iM gS f9 n (j::done) _ env' H' a' w' HB pM hK sV
     have hS0:=hS;obtain⟨hd,hn,iB,ι,hR,hE⟩:=hS;unfold UL at h2;simp only
     split at h2
     ·obtain⟨hg,hw⟩:=z57 hT iM eR h2 hS0 fun env' H' a' w' hK sV=>Ar dz hT iM gS f9 n (j::done) _ env' H' a' w' HB pM hK sV
      rw[aF LP]
      exact .inl hw
     split at h2
     ·rename_i hg;rw[aF LP]
      exact .inl (run h2)
     ·rename_i j' want hg
      split at h2
      ·rename_i b hb;have hy:=F6 hb hE;rw[PE]
       split at h2
       ·rename_i ht;rw[aF (by simp[Region.wanted,hg,hy,Fy ht])]
        exact .inl (run h2)
       ·rename_i ht;rw[aD Jk]
        refine Ar dz hT iM gS f9 n (j::done) _ _ H _ w HB pM h2 ⟨by rw[jd];exact hd,by rw[lh];exact hn,j9 iB eR _,ι,hR,?_⟩
        exact Kc
      ·cases h2
    ·cases h2
theorem St.drew{env:List AV}{H:AH}{a:Act}{w:World}(h:St w0 B nt env H a w):St w0 B nt env H a w.drew:=by
 obtain⟨h1,h2,h3,ι,hR,hE⟩:=h;have hg:Gr w w.drew:=(Below.refl _ _).drew;exact⟨h1,h2,h3,ι,hR.grow hg,hE.len,fun q x v hx hv=>(hE.at_ q x v hx hv).keep0 (bS.gr hg)⟩
theorem zwz(dz:Bool)(hT:iE P T)(iM:∀w,uD w0 w->G w)(gS:∀b,w0.own b->B b)(hm:P.follows .mixedOrders=true){id:Nat}{all:List Oper}{Q:Exit->List AV->AH->Prop}(f9:∀o∈all,∀t,o.dst=some t->w0.pin t=none){env:List AV}{H:AH}{a:Act}{w:World}
  (h:EH dz P G bG T all (DH all) Q all.length [] env H) (hS:St w0 B nt env H a w):(Code.region id all.toArray true).wp P (sJ w0 B nt Q) a w:=by
 refine wp_region_any hm ?_;have rR:∀n i,(Array.replicate n false).getD i false=false:=fun n i=>by
  by_cases h:i<n<;>simp[h]
 have:=Ar dz hT iM gS f9 all.length [] (Array.replicate all.length false) env H a w.drew dL (fun i=>by rw[rR];simp) h hS.drew
 simpa using this
end
inductive FzW(env:List AV)(H:AH)(K:List AV->AH->Prop):Prop
 |mk (env':List AV) (H':AH) (hw:Wk env H env' H') (k:K env' H')
theorem oB.z{P:Program}{G:World->Prop}{f:FuncId}{o:Oper}{env:List AV}{H:AH}{K:List AV->AH->Prop}{Q:Exit->List AV->AH->Prop}(σ:List Nat){as:List AV}{Hc:AH}{r:AV}{Hc':AH}(h:jL P G f as Hc r Hc')(hc:td env o=some (f,AV.ren.renL (jU σ H.length) as))(hb:pu σ H Hc as=true)
  (hp:σ.map (fun l=>ow (H.getD l none))=Hc.map (yX (jU σ H.length) none))
  (k:match r.panOf with
   |some ch=>Q (.panic ch) (vY (some (yH σ H Hc')) env) (wV σ H Hc')
   |none=>K (qY (vY (some (yH σ H Hc')) env) o.dst (r.ren (jU σ H.length))) (wV σ H Hc')):oB P G f o env H K Q:=.mk env H (Wk.refl _ _) σ as Hc r Hc' h hc hb hp k
def KN(P:Program)(G:World->Prop)(E:SO)(T:TT)(Q:Exit->List AV->AH->Prop):List Oper->List AV->AH->Prop
 |[],env,H=>Q .normal env H
 |o::os,env,H=>(match o.guard with
  |none=>(match KP env o with
   | .pure f _=>oB P G f o env H (fun env' H'=>KN P G E T Q os env' H') Q
   |_=>lb P G E T o env H (fun env' H'=>KN P G E T Q os env' H') Q)
  |some _=>False)
def vX(P:Program)(G:World->Prop)(E:SO)(T:TT)(kOf:Nat->Nat)(mOf:Nat->List Nat)(lo:Nat->Nat->Nat):Code->(Exit->List AV->AH->Prop)->List AV->AH->Prop
 | .skip,Q,env,H=>Q .normal env H
 | .region id ops false,Q,env,H=>(match mOf id with
  |_::_=>FzW env H fun env H=>vW P G E T ops.toList Q ops.toList env H
  |[]=>(match lo id 0 with
   |0=>vW P G E T ops.toList Q ops.toList env H
   |_+1=>KN P G E T Q ops.toList env H))
 | .region id ops true,Q,env,H=>(match mOf id with
   |[]=>(match lo id 0 with
    |0=>ol P G E T ops.toList H (kOf id) ops.toList env fun env1=>vp T ops.toList (kOf id) env1 (kOf id) ops.toList env1 H fun env2 H2=>vW P G E T ops.toList Q (ops.toList.drop (kOf id)) env2 H2
    |d+1=>EH (match d with
     |0=>true
     |_+1=>false) P G E T ops.toList (DH ops.toList) Q ops.toList.length [] env H)
   |[m]=>vf P G E T ops.toList [m] (lo id) (kOf id) [m] 0 [] [] env H (fun env2 H2=>vW P G E T ops.toList Q (ops.toList.drop (kOf id)) env2 H2)\/Ha P G E T ops.toList m (lo id) (kOf id) env H Q
   |m::m'::Ms=>vf P G E T ops.toList (m::m'::Ms) (lo id) (kOf id) (m::m'::Ms) 0 [] [] env H fun env2 H2=>vW P G E T ops.toList Q (ops.toList.drop (kOf id)) env2 H2)
 | .seq a b,Q,env,H=>vX P G E T kOf mOf lo a (nI (vX P G E T kOf mOf lo b Q) Q) env H
 | .cond c a b,Q,env,H=>(match bR env c with
  | .p (.v (.bool x))=>(match x with
   |true=>vX P G E T kOf mOf lo a Q env H
   |false=>vX P G E T kOf mOf lo b Q env H)
  |_=>False)
 | .block id c,Q,env,H=>vX P G E T kOf mOf lo c (lf id Q) env H
 | .loop c,Q,env,H=>iU (vX P G E T kOf mOf lo c) Q env H
 | .exit id,Q,env,H=>Q (.exit id) env H
 | .ret,Q,env,H=>Q .ret env H
 |_,_,_,_=>False
def yK(nt:Nat)(kOf:Nat->Nat)(mOf:Nat->List Nat)(lo:Nat->Nat->Nat):Code->Bool
 | .region id ops draw=>!draw||(match mOf id with
  |[]=>(match lo id 0 with
   |0=>A5 nt ops.toList (kOf id)
   |_+1=>true)
  |m::Ms=>DP nt ops.toList (kOf id) (m::Ms) (lo id))
 | .seq a b=>yK nt kOf mOf lo a&&yK nt kOf mOf lo b
 | .cond _ a b=>yK nt kOf mOf lo a&&yK nt kOf mOf lo b
 | .block _ c=>yK nt kOf mOf lo c
 | .loop c=>yK nt kOf mOf lo c
 |_=>true
section
variable{P:Program}{G:World->Prop}{T:TT}{w0:cJ}{B:Nat->Prop}{nt:Nat}
theorem Po(hT:iE P T)(iM:∀w,uD w0 w->G w)(gS:∀b,w0.own b->B b){all:List Oper}{Q:Exit->List AV->AH->Prop}:∀(os:List Oper),(∀o∈os,∀t,o.dst=some t->w0.pin t=none)->∀(env:List AV)(H:AH)(a:Act)(w:World),KN P G bG T Q os env H->St w0 B nt env H a w->wpList P all.toArray (sJ w0 B nt Q) os a w
 |[],_,env,H,a,w,h,hS=>⟨env,H,h,hS⟩
 |o::os,ju,env,H,a,w,h,hS=>by
  have eR:=ju o dL
  have i7:∀o∈os,∀t,o.dst=some t->w0.pin t=none:=fun x hx=>ju x (by simp[hx])
  have nx:=fun env' H' a' w' (hK:KN P G bG T Q os env' H') sV=>Po (all:=all) hT iM gS os i7 env' H' a' w' hK sV
  unfold KN at h;unfold wpList
  split at h
  ·rename_i hg;rw[aF LP]
   split at h
   ·exact .inl (Fa iM gS eR h hS nx)
   ·exact .inl (Ay hT iM gS eR h hS nx)
  ·cases h
theorem ua(hT:iE P T)(iM:∀w,uD w0 w->G w)(gS:∀b,w0.own b->B b)(hm:P.follows .mixedOrders=true)(kOf:Nat->Nat)(mOf:Nat->List Nat)(lo:Nat->Nat->Nat):∀(c:Code),fp w0 c->yK nt kOf mOf lo c=true->∀(Q:Exit->List AV->AH->Prop)(env:List AV)(H:AH)(a:Act)(w:World),vX P G bG T kOf mOf lo c Q env H->St w0 B nt env H a w->c.wp P (sJ w0 B nt Q) a w
 | .skip,_,_,Q,env,H,a,w,h,hS=>wp_skip ⟨env,H,h,hS⟩
 | .region id ops false,gD,cV,Q,env,H,a,w,h,hS=>by
  unfold vX at h
  split at h
  ·obtain⟨env',H',hw,h⟩:=h;obtain⟨ι,hR,hE⟩:=hS.rep;exact wp_region_list (AO hT iM gS _ gD env' H' a w h ⟨hS.defers,hS.size,hS.pin,hw w0 B w ι a.tmps gS hR hE⟩)
  ·split at h
   ·exact wp_region_list (AO hT iM gS _ gD env H a w h hS)
   ·exact wp_region_list (Po hT iM gS _ gD env H a w h hS)
 | .region id ops true,gD,cV,Q,env,H,a,w,h,hS=>by
  unfold vX at h;simp only[yK,tU,bI]at cV
  cases kS:mOf id with
  |nil=>
   rw[kS]at h cV
   cases hl:lo id 0 with
   |zero=>
    rw[hl]at h cV;exact Q4 hT iM gS hm gD cV h hS
   |succ _=>
    rw[hl]at h;exact zwz _ hT iM gS hm gD h hS
  |cons m Ms=>
   cases Ms with
   |nil=>
    rw[kS]at h cV
    rcases h with h|h
    ·exact Fx hT iM gS hm gD cV h hS
    ·exact zwx hT iM gS hm gD cV h hS
   |cons m' Ms=>
    rw[kS]at h cV;exact Fx hT iM gS hm gD cV h hS
 | .seq x y,gD,cV,Q,env,H,a,w,h,hS=>by
  simp only[yK,gK]at cV;refine wp_seq (wp_mono (ua hT iM gS hm kOf mOf lo x gD.1 cV.1 _ env H a w h hS) ?_);exact JX _ fun env H a w h hS=>ua hT iM gS hm kOf mOf lo y gD.2 cV.2 Q env H a w h hS
 | .cond c x y,gD,cV,Q,env,H,a,w,h,hS=>by
  simp only[yK,gK]at cV;unfold vX at h
  split at h
  ·rename_i b e;obtain⟨ι,hR,hE⟩:=hS.rep;have hc:=hE.eval c;rw[e]at hc;refine wp_cond_split (jW hc) (fun hb=>?_) (fun hb=>?_)
   ·subst hb;exact ua hT iM gS hm kOf mOf lo x gD.1 cV.1 Q env H a w h hS
   ·subst hb;exact ua hT iM gS hm kOf mOf lo y gD.2 cV.2 Q env H a w h hS
  ·cases h
 | .block id c,gD,cV,Q,env,H,a,w,h,hS=>by
  unfold vX at h;refine wp_block (wp_mono (ua hT iM gS hm kOf mOf lo c gD cV _ env H a w h hS) ?_)
  exact Ki
 | .loop c,gD,cV,Q,env,H,a,w,h,hS=>by
  classical
  unfold vX at h;obtain⟨I,N,⟨k1,env1,H1,nn,Mv⟩,hN,gl⟩:=h;have qq:∀env H env' H' a w,Wk env H env' H'->St w0 B nt env H a w->St w0 B nt env' H' a w:=fun env H env' H' a w hw hS=>by
   exact Vf
  have key:∃f:Act->World->Nat,(∀a w,(∃k env H,I k env H/\St w0 B nt env H a w)->∃env H,I (f a w) env H/\St w0 B nt env H a w)/\∀a w k env H,I k env H->St w0 B nt env H a w->f a w<=k:=by
   exact Xw
  obtain⟨f,XW,Yz⟩:=key;refine wp_loop (fun a w=>∃k env H,I k env H/\St w0 B nt env H a w) f ⟨k1,env1,H1,Mv,qq _ _ _ _ a w nn hS⟩ fun a' w' hI=>?_
  obtain⟨env2,H2,lV,uz⟩:=XW a' w' hI;refine wp_mono (ua hT iM gS hm kOf mOf lo c gD cV _ env2 H2 a' w' (gl _ env2 H2 lV) uz) ?_;refine JX _ fun env3 H3 a3 w3 Lu o7=>?_
  grind
 | .exit id,_,_,Q,env,H,a,w,h,hS=>wp_exit ⟨env,H,h,hS⟩
 | .ret,_,_,Q,env,H,a,w,h,hS=>wp_ret ⟨env,H,h,hS⟩
 | .rangeFunc _ _ _ _,_,_,_,_,_,_,_,h,_=>h.elim
 | .scope _,_,_,_,_,_,_,_,h,_=>h.elim
 | .label _,_,_,_,_,_,_,_,h,_=>h.elim
 | .goto _,_,_,_,_,_,_,_,h,_=>h.elim
 | .refuse _,_,_,_,_,_,_,_,h,_=>h.elim
end
section
variable{P:Program}{G:World->Prop}{T:TT}{nt:Nat}
theorem aY.ofM(hT:iE P T)(hm:P.follows .mixedOrders=true)(kOf:Nat->Nat)(mOf:Nat->List Nat)(lo:Nat->Nat->Nat){c:Code}(cV:yK nt kOf mOf lo c=true)(Q:SO->Exit->List AV->AH->Prop){env:List AV}{H:AH}
  (h:∀(P':Program)(G':World->Prop)(E:SO),(∀f l r,fS P G f l r->fS P' G' f l r)->(∀f as H r H',jL P G f as H r H'->jL P' G' f as H r H')->E=bG->vX P' G' E T kOf mOf lo c (Q E) env H):aY P G nt c (Q bG) env H:=by
 intro w0 B hG hB gD a w hS;exact ua hT hG hB hm kOf mOf lo c gD cV (Q bG) env H a w (h P G bG (fun _ _ _ h=>h) (fun _ _ _ _ _ h=>h) rfl) hS
theorem Pt(hT:iE P T)(hm:P.follows .mixedOrders=true){kOf:Nat->Nat}{mOf:Nat->List Nat}{lo:Nat->Nat->Nat}{w0:cJ}{B:Nat->Prop}(hG:∀w,uD w0 w->G w)(hB:∀b,w0.own b->B b){R:List AV->AH->Prop}{Q:Exit->List AV->AH->Prop}:∀(k:Nat)(c:Code),fp w0 c->yK nt kOf mOf lo (wW k c)=true->(∀env H a w,R env H->St w0 B nt env H a w->(l8 k c).wp P (sJ w0 B nt Q) a w) →
  ∀(env:List AV)(H:AH)(a:Act)(w:World),vX P G bG T kOf mOf lo (wW k c) (nI R Q) env H->St w0 B nt env H a w->c.wp P (sJ w0 B nt Q) a w
 |0,c,_,_,hR,env,H,a,w,h,hS=>hR env H a w h hS
 |k+1,c,gD,cV,hR,env,H,a,w,h,hS=>by
  cases c with
  |seq x y=>
   simp only[wW,yK,gK]at cV;refine wp_seq (wp_mono (ua hT hG hB hm kOf mOf lo x gD.1 cV.1 _ env H a w h hS) ?_)
   rintro e a w ⟨env,H,h,hS⟩
   cases e with
   |normal=>exact Pt hT hm hG hB k y gD.2 cV.2 hR env H a w h hS
   |_=>exact⟨env,H,h,hS⟩
  |_=>exact False.elim h
theorem aY.cutKM{γ:Type}(k:Nat)(n:Nat)(live:List Nat)(m:Nat)(S:γ->List AV)(h:γ->AH)(I:γ->Prop)(hT:iE P T)(hm:P.follows .mixedOrders=true)(kOf:Nat->Nat)(mOf:Nat->List Nat)(lo:Nat->Nat->Nat){c:Code}(Q:SO->Exit->List AV->AH->Prop){env:List AV}{H:AH}(cV:yK nt kOf mOf lo (wW k c)=true)
  (h1:∀(P':Program)(G':World->Prop)(E:SO),(∀f l r,fS P G f l r->fS P' G' f l r)->(∀f as H r H',jL P G f as H r H'->jL P' G' f as H r H')->E=bG->vX P' G' E T kOf mOf lo (wW k c) (nI (mC n live m S h I) (Q E)) env H)
  (h2:∀y,I y->aY P G nt (l8 k c) (Q bG) (rB live (S y) n 0) (h y)):aY P G nt c (Q bG) env H:=by
 intro w0 B hG hB gD a w hS;refine Pt hT hm hG hB k c gD cV ?_ env H a w (h1 P G bG (fun _ _ _ h=>h) (fun _ _ _ _ _ h=>h) rfl) hS
 intro env1 H1 a1 w1 hc ff
 cases hc with
 |mk y hh hI=>exact aY.wk hh.wk (h2 y hI) w0 B hG hB (OT k c gD) a1 w1 ff
 |wk y env2 H2 hw hh hI=>exact aY.wk (hw.trans hh.wk) (h2 y hI) w0 B hG hB (OT k c gD) a1 w1 ff
end
end Go.Proofs.YtjkcdcloomkooaaGreatDoor
