/- Own work: walks and laws of the parser and its reference. -/
import Derived.Test.YtjkcdcloomkooaaGreatDoorQXA
namespace Go.Proofs.YtjkcdcloomkooaaGreatDoor
set_option linter.unusedVariables false
set_option linter.unusedSimpArgs false
set_option linter.unusedSectionVars false
set_option maxHeartbeats 4000000
set_option maxRecDepth 100000
open Go.RowKit
structure nJ(w:World)(ι:Pl)(R:Nat->Prop)(env:List AV)(tmps:Array Value):Prop where
 len:env.length=tmps.size
 at_:∀(t:Nat)(a:AV)(v:Value),env[t]?=some a->tmps[t]?=some v->dD w ι R a v
def Wk(env:List AV)(H:AH)(env':List AV)(H':AH):Prop:=
 ∀(w0:cF)(B:Nat->Prop)(w:World)(ι:Pl)(tmps:Array Value),(∀b,w0.own b->B b)->eQ w0 B w ι H->nJ w ι (Rd B ι H) env tmps->∃ι',eQ w0 B w ι' H'/\nJ w ι' (Rd B ι' H') env' tmps
theorem Wk.refl(env:List AV)(H:AH):Wk env H env H:=fun _ _ _ ι _ _ hR hE=>⟨ι,hR,hE⟩
theorem Wk.trans{env env1 env2:List AV}{H H1 H2:AH}(h:Wk env H env1 H1)(h':Wk env1 H1 env2 H2):Wk env H env2 H2:=fun w0 B w ι tmps hB hR hE=>by
 obtain⟨ι1,oK,hE1⟩:=h w0 B w ι tmps hB hR hE;exact h' w0 B w ι1 tmps hB oK hE1
theorem eQ.regrow{w0:cF}{B B':Nat->Prop}{w w':World}{ι:Pl}{H:AH}(h:eQ w0 B w ι H)(hg:Gr w w')(hB:∀b,b<w.heap.size->B b->B' b)(J8:∀b,w'.heap.size<=b->B' b):
  eQ w0 B' w' ι H/\bQ none w ι (Rd B ι H) w' ι (Rd B' ι H):=by
 have hk:bQ none w ι (Rd B ι H) w' ι (Rd B' ι H):=⟨hg.size,fun b hb cJ=>⟨⟨hB b cJ hb.1,hb.2⟩,hg.block b cJ⟩,fun _ _ _ _ h=>h⟩
 exact⟨⟨h.gr.trans hg,J8,h.len,fun k b c s h1 h2=>⟨(h.blk k b c s h1 h2).1,(h.blk k b c s h1 h2).2.keep0 hk fun c' e=>by
  subst e;exact hg.block c' (h.lt ⟨k,b,s,h1,h2⟩)⟩,h.inj⟩,hk⟩
def AV.low(m:Nat):AV->Bool
 | .own k _=>decide (k<m)
 | .orw k _ _=>decide (k<m)
 | .osl k _ _=>decide (k<m)
 | .agg cs=>lowL m cs
 | .tup cs=>lowL m cs
 | .clo _ fs cs=>lowL m fs&&lowL m cs
 |_=>true
where lowL (m:Nat):List AV->Bool
 |[]=>true
 |a::as=>a.low m&&lowL m as
theorem dc{m:Nat}:∀{cs:List AV}{j:Nat}{a:AV},AV.low.lowL m cs=true->cs[j]?=some a->a.low m=true
 |[],j,a,_,h=>by simp at h
 |c::cs,0,a,hl,h=>by
  simp only[AV.low.lowL,gH]at hl
  grind
 |c::cs,j+1,a,hl,h=>by
  simp only[AV.low.lowL,gH]at hl;exact dc hl.2 j6
def cH.low(m:Nat):cH->Bool
 | .box cs _ _=>AV.low.lowL m cs
 |_=>true
def jW(m:Nat):AH->Bool
 |[]=>true
 |some b::r=>b.low m&&jW m r
 |none::r=>jW m r
theorem WZ{m:Nat}:∀{H:AH}{k:Nat}{b:cH},jW m H=true->H[k]?=some (some b)->b.low m=true
 |[],k,b,_,h=>by simp at h
 |some c::H,0,b,hl,h=>by
  simp only[jW,gH]at hl
  grind
 |none::H,0,b,hl,h=>by simp at h
 |some c::H,k+1,b,hl,h=>by
  simp only[jW,gH]at hl;exact WZ hl.2 j6
 |none::H,k+1,b,hl,h=>by
  simp only[jW]at hl;exact WZ hl j6
theorem C8{α:Type}{l:List α}{m k:Nat}(h:k<m):(l.take m)[k]?=l[k]?:=aZ
theorem me{α:Type}{l:List α}{m k:Nat}{x:α}(h:(l.take m)[k]?=some x):k<m/\l[k]?=some x:=by
 grind
theorem dD.trunc{w:World}{ι:Pl}{R R':Nat->Prop}{m:Nat}(hk:∀b,R b->R' b){a:AV}{v:Value}(h:dD w ι R a v)(hl:a.low m=true):dD w (ι.take m) R' a v:=by
 induction h with
 |p x v h=>exact .p x v (h.keep (nR _) fun b hb _=>⟨hk b hb,rfl⟩)
 |own k j c s h=>exact .own k j c s (by rw[C8 (oT hl)];exact h)
 |orw k i j c s h=>exact .orw k i j c s (by rw[C8 (oT hl)];exact h)
 |osl0 k i=>exact .osl0 k i
 |osl k i n c cap s h hn hm hz=>exact .osl k i n c cap s (by rw[C8 (oT hl)];exact h) hn hm hz
 |agg cs vs hlen hr ih=>exact .agg cs vs hlen fun j a v ha hv=>ih j a v ha hv (dc hl ha)
 |tup cs vs hlen hr ih=>exact .tup cs vs hlen fun j a v ha hv=>ih j a v ha hv (dc hl ha)
 |clo f fs cs us vs h1 hr h2 gf ih ih'=>
  simp only[AV.low,gH]at hl;exact .clo f fs cs us vs h1 (fun j a v ha hv=>ih j a v ha hv (dc hl.1 ha)) h2 (fun j a v ha hv=>ih' j a v ha hv (dc hl.2 ha))
 |junk v=>exact .junk v
theorem fh.trunc{w:World}{ι:Pl}{R R':Nat->Prop}{m:Nat}(hk:∀b,R b->R' b){c:Option Nat}{s:Nat×Nat}{b:cH}(h:fh w ι R c s b)(hl:b.low m=true):fh w (ι.take m) R' c s b:=by
 cases b with
 |box cs t g=>
  obtain⟨hg,c',arr,e,h1,h2,h3⟩:=h;refine⟨hg,c',arr,e,h1,h2,fun j a ha=>?_⟩
  obtain⟨v,hv,vK,hr⟩:=h3 j a ha;exact⟨v,hv,vK,hr.trunc hk (dc hl ha)⟩
 |rows s' rs t=>
  obtain⟨e,hlen,h⟩:=h;refine⟨e,hlen,?_⟩
  rcases h with h|⟨c',arr,e,h1,hz,h3⟩
  ·exact .inl h
  ·refine .inr ⟨c',arr,e,h1,hz,fun i j row a h4 h5=>?_⟩
   obtain⟨v,hv,vK,hr⟩:=h3 i j row a h4 h5;exact⟨v,hv,vK,hr.keep (nR _) fun b hb _=>⟨hk b hb,rfl⟩⟩
 |iter str pos=>exact h
theorem Xj{ι:Pl}{H:AH}{m c:Nat}(h:iV (ι.take m) (H.take m) c):iV ι H c:=by
 obtain⟨k,b,s,h1,h2⟩:=h;exact⟨k,b,s,(me h1).2,(me h2).2⟩
theorem uy{B:Nat->Prop}{ι:Pl}{H:AH}{m:Nat}:∀b,Rd B ι H b->Rd B (ι.take m) (H.take m) b:=fun _ h=>⟨h.1,fun ho=>h.2 (Xj ho)⟩
theorem eQ.trunc{w0:cF}{B:Nat->Prop}{w:World}{ι:Pl}{H:AH}{m:Nat}(h:eQ w0 B w ι H)(hl:jW m (H.take m)=true):eQ w0 B w (ι.take m) (H.take m):=
 ⟨h.gr,h.fut,by simp[h.len],fun k b c s h1 h2=>⟨(h.blk k b c s (me h1).2 (me h2).2).1,(h.blk k b c s (me h1).2 (me h2).2).2.trunc uy (WZ hl h1)⟩,
  fun k l b b' c s s' h1 h2 h3 h4=>h.inj k l b b' c s s' (me h1).2 (me h2).2 (me h3).2 (me h4).2⟩
def bu(E:SO)(H:AH):AV->(PV->Prop)->Prop
 | .p x,K=>K x
 | .osl k i n,K=>(match H[k]? with
  |some (some (.rows s rs _))=>E.pre i n rs/\K (.ro s (E.sub rs i n))
  |_=>False)
 | .agg cs,K=>frzL cs fun ps=>K (.agg ps)
 | .tup cs,K=>frzL cs fun ps=>K (.tup ps)
 |_,_=>False
where frzL:List AV->(List PV->Prop)->Prop
 |[],K=>K []
 |a::as,K=>bu E H a fun p=>frzL as fun ps=>K (p::ps)
section
variable{w0:cF}{B:Nat->Prop}
theorem Bp{w:World}{ι:Pl}{H:AH}{x:PV}{v:Value}(h:cE w (Rd B ι H) x v):cE w B x v:=h.keep (nR _) fun _ hb _=>⟨hb.1,rfl⟩
theorem IA{H:AH}{w:World}{ι:Pl}(hR:eQ w0 B w ι H)(hB:∀b,w0.own b->B b):∀(a:AV)(v:Value)(K:PV->Prop),bu bK H a K->dD w ι (Rd B ι H) a v->∃p,K p/\cE w B p v
 | .p x,v,K,h,hv=>by
  cases hv with
  |p _ _ hv=>exact⟨x,h,Bp hv⟩
 | .osl k i n,v,K,h,hv=>by
  unfold bu at h
  split at h
  ·rename_i s rs t hk;obtain⟨hle,h⟩:=h;change i+n<=rs.length at hle;change K (.ro s ((rs.drop i).take n))at h;refine⟨_,h,?_⟩
   cases hv with
   |osl0=>
    have e:(rs.drop i).take 0=[]:=jT
    exact .ro0 _ _ _
   |osl _ _ _ c cap sz hi hn hm hz=>
    obtain⟨es,hl,hh⟩:=(hR.blk k _ _ sz hk hi).2;have qJ:=(hR.blk k _ _ sz hk hi).1 c rfl
    rcases hh with⟨ec,_⟩|⟨c',arr,ec,hb,uS,dB⟩
    ·cases ec
    cases ec
    have hlen:((rs.drop i).take n).length=n:=aZ
    have aU:∀(q:Nat)(row:List PV),((rs.drop i).take n)[q]?=some row->rs[i+q]?=some row:=fun q row hr=>(Dw hr).1
    have gC:∀(q j:Nat)(row:List PV)(a:PV),((rs.drop i).take n)[q]?=some row->row[j]?=some a->∃u,(arr[(i+q)*sz.1+j]?).getD undef=u/\w.cell? ⟨c,i*sz.1+(q*s+j),none⟩=some u/\u.oneCell'=true/\cE w B a u:=by
     intro q j row a hr ha;obtain⟨u,hu,h1,x5⟩:=dB _ j row a (aU q row hr) ha;have e2:i*sz.1+(q*s+j)=(i+q)*sz.1+j:=aZ
     exact⟨u,by rw[hu];rfl,by rw[ka hb,e2];exact hu,h1,Bp x5⟩
    have:=cE.ro (w:=w) (R:=B) s ((rs.drop i).take n) c (i*sz.1) cap (fun q j=>(arr[(i+q)*sz.1+j]?).getD undef) (hB c qJ) (md hb) oM (fun q row hr=>by grind)
     (fun q j row a hr ha=>by grind) (fun q j row a hr ha=>by grind)
    grind
  ·cases h
 | .agg cs,v,K,h,hv=>by
  cases hv with
  |agg _ vs hl hr=>
   obtain⟨ps,hK,ja,Ap⟩:=frzL_sound hR hB cs vs _ hl hr h;exact⟨_,hK,.agg ps vs oM Ap⟩
 | .tup cs,v,K,h,hv=>by
  cases hv with
  |tup _ vs hl hr=>
   obtain⟨ps,hK,ja,Ap⟩:=frzL_sound hR hB cs vs _ hl hr h;exact⟨_,hK,.tup ps vs oM Ap⟩
 | .own _ _,_,_,h,_=>h.elim
 | .orw _ _ _,_,_,h,_=>h.elim
 | .junk,_,_,h,_=>h.elim
where frzL_sound {H:AH} {w:World} {ι:Pl} (hR:eQ w0 B w ι H) (hB:∀b,w0.own b->B b):∀(as:List AV)(vs:List Value)(K:List PV->Prop),as.length=vs.length->(∀(j:Nat)(a:AV)(v:Value),as[j]?=some a->vs[j]?=some v->dD w ι (Rd B ι H) a v)->bu.frzL bK H as K →
  ∃ps,K ps/\ps.length=as.length/\∀(j:Nat)(p:PV)(v:Value),ps[j]?=some p->vs[j]?=some v->cE w B p v
 |[],vs,K,hl,hr,h=>⟨[],h,rfl,fun j p v hp=>by simp at hp⟩
 |a::as,[],K,hl,hr,h=>by simp at hl
 |a::as,v::vs,K,hl,hr,h=>by
  obtain⟨p,hp,Ap⟩:=IA hR hB a v _ h (hr 0 a v rfl rfl);obtain⟨ps,hK,ja,AE⟩:=frzL_sound hR hB as vs _ we (fun j b u hb hu=>hr (j+1) b u (by simpa using hb) (by simpa using hu)) hp
  grind
end
def PV.flat:PV->Bool
 | .v _=>true
 | .e0=>true
 | .err=>true
 | .agg cs=>flatL cs
 | .tup cs=>flatL cs
 |_=>false
where flatL:List PV->Bool
 |[]=>true
 |a::as=>a.flat&&flatL as
theorem Ci:∀{cs:List PV}{j:Nat}{a:PV},PV.flat.flatL cs=true->cs[j]?=some a->a.flat=true
 |[],j,a,_,h=>by simp at h
 |c::cs,0,a,hl,h=>by
  simp only[PV.flat.flatL,gH]at hl
  grind
 |c::cs,j+1,a,hl,h=>by
  simp only[PV.flat.flatL,gH]at hl;exact Ci hl.2 j6
theorem cE.free{w w':World}{R R':Nat->Prop}{p:PV}{v:Value}(h:cE w R p v):p.flat=true->cE w' R' p v:=by
 induction h with
 |v x=>exact fun _=>.v x
 |e0 A=>exact fun _=>.e0 A
 |ro0=>exact fun h=>by cases h
 |ro=>exact fun h=>by cases h
 |rop=>exact fun h=>by cases h
 |err t v=>exact fun _=>.err t v
 |agg cs vs hl hr ih=>exact fun h=>.agg cs vs hl fun j a v ha hv=>ih j a v ha hv (Ci h ha)
 |tup cs vs hl hr ih=>exact fun h=>.tup cs vs hl fun j a v ha hv=>ih j a v ha hv (Ci h ha)
def AV.ren(f:Nat->Nat):AV->AV
 | .own k j=>.own (f k) j
 | .orw k i j=>.orw (f k) i j
 | .osl k i n=>.osl (f k) i n
 | .agg cs=>.agg (renL f cs)
 | .tup cs=>.tup (renL f cs)
 | .clo g fs cs=>.clo g (renL f fs) (renL f cs)
 |a=>a
where renL (f:Nat->Nat):List AV->List AV
 |[]=>[]
 |a::as=>a.ren f::renL f as
theorem CM(f:Nat->Nat):∀(cs:List AV)(j:Nat),(AV.ren.renL f cs)[j]?=(cs[j]?).map (AV.ren f)
 |[],j=>by simp[AV.ren.renL]
 |a::as,0=>by simp[AV.ren.renL]
 |a::as,j+1=>by simpa [AV.ren.renL]using CM f as j
theorem df(f:Nat->Nat):∀(cs:List AV),(AV.ren.renL f cs).length=cs.length
 |[]=>rfl
 |a::as=>by simp[AV.ren.renL,df f as]
theorem IK{f:Nat->Nat}{cs:List AV}{j:Nat}{a:AV}(h:(AV.ren.renL f cs)[j]?=some a):∃b,cs[j]?=some b/\a=b.ren f:=by
 rw[CM]at h
 grind
theorem dD.ren{w:World}{ι ι2:Pl}{R R':Nat->Prop}{f:Nat->Nat}(hp:∀k c s,ι[k]?=some (some c,s)->ι2[f k]?=some (some c,s))(hR:∀b,R b->b<w.heap.size->R' b){a:AV}{v:Value}(h:dD w ι R a v):dD w ι2 R' (a.ren f) v:=by
 induction h with
 |p x v h=>exact .p x v (h.keep (nR _) fun b hb hl=>⟨hR b hb hl,rfl⟩)
 |own k j c s h=>exact .own _ j c s (hp k c s h)
 |orw k i j c s h=>exact .orw _ i j c s (hp k c s h)
 |osl0 k i=>exact .osl0 _ i
 |osl k i n c cap s h hn hm hz=>exact .osl _ i n c cap s (hp k c s h) hn hm hz
 |agg cs vs hl hr ih=>exact .agg _ vs (by rw[df];exact hl) fun j a v ha hv=>by obtain⟨b,hb,rfl⟩:=IK ha;exact ih j b v hb hv
 |tup cs vs hl hr ih=>exact .tup _ vs (by rw[df];exact hl) fun j a v ha hv=>by obtain⟨b,hb,rfl⟩:=IK ha;exact ih j b v hb hv
 |clo g fs cs us vs hl hr nM gf ih ih'=>exact .clo g _ _ us vs (by rw[df];exact hl) (fun j a v ha hv=>by obtain⟨b,hb,rfl⟩:=IK ha;exact ih j b v hb hv) (by rw[df];exact nM) (fun j a v ha hv=>by obtain⟨b,hb,rfl⟩:=IK ha;exact ih' j b v hb hv)
 |junk v=>exact .junk v
theorem dD.unren{w:World}{ι ι2:Pl}{R R':Nat->Prop}{f:Nat->Nat}{m:Nat}(hp:∀k c s,k<m->ι2[f k]?=some (some c,s)->ι[k]?=some (some c,s))(hR:∀b,R b->b<w.heap.size->R' b){b:AV}{v:Value}(h:dD w ι2 R b v):∀a:AV,b=a.ren f->a.low m=true->dD w ι R' a v:=by
 induction h with
 |p x v h=>
  intro a e hl
  cases a<;>simp[AV.ren]at e
  subst e;exact .p x v (h.keep (nR _) fun b hb cJ=>⟨hR b hb cJ,rfl⟩)
 |own k j c s h=>
  intro a e hl
  cases a<;>simp[AV.ren]at e
  obtain⟨rfl,rfl⟩:=e;exact .own _ _ c s (hp _ c s (oT hl) h)
 |orw k i j c s h=>
  intro a e hl
  cases a<;>simp[AV.ren]at e
  obtain⟨rfl,rfl,rfl⟩:=e;exact .orw _ _ _ c s (hp _ c s (oT hl) h)
 |osl0 k i=>
  intro a e hl
  cases a<;>simp[AV.ren]at e
  obtain⟨rfl,rfl,rfl⟩:=e;exact .osl0 _ _
 |osl k i n c cap s h hn hm hz=>
  intro a e hl
  cases a<;>simp[AV.ren]at e
  obtain⟨rfl,rfl,rfl⟩:=e;exact .osl _ _ _ c cap s (hp _ c s (oT hl) h) hn hm hz
 |agg cs vs hl hr ih=>
  intro a e jW
  cases a<;>simp[AV.ren]at e
  subst e;exact .agg _ vs (by rw[<-hl,df]) fun j a v ha hv=>ih j _ v RE hv a rfl (dc jW ha)
 |tup cs vs hl hr ih=>
  intro a e jW
  cases a<;>simp[AV.ren]at e
  subst e;exact .tup _ vs (by rw[<-hl,df]) fun j a v ha hv=>ih j _ v RE hv a rfl (dc jW ha)
 |clo g fs cs us vs hl hr nM gf ih ih'=>
  intro a e jW
  cases a<;>simp[AV.ren]at e
  obtain⟨rfl,rfl,rfl⟩:=e;simp only[AV.low,gH]at jW;exact .clo _ _ _ us vs (by rw[<-hl,df]) (fun j a v ha hv=>ih j _ v RE hv a rfl (dc jW.1 ha)) (by rw[<-nM,df]) (fun j a v ha hv=>ih' j _ v RE hv a rfl (dc jW.2 ha))
 |junk v=>
  intro a e hl
  cases a<;>simp[AV.ren]at e
  exact .junk v
def lV(σ:List Nat)(n k:Nat):Nat:=match σ[k]? with
 |some l=>l
 |none=>n+(k-σ.length)
def IW(f:Nat->Nat)(g:Option Nat):cH->cH
 | .box cs t _=>.box (AV.ren.renL f cs) t g
 |b=>b
def bh(f:Nat->Nat)(g:Option Nat):Option cH->Option cH
 |some b=>some (IW f g b)
 |none=>none
def LG:Option cH->Option Nat
 |some (.box _ _ g)=>g
 |_=>none
def uf:Option cH->Bool
 |some (.box _ _ _)=>true
 |_=>false
def zk(c:Nat):Option cH->Option cH
 |some (.box cs t _)=>some (.box cs t (some c))
 |b=>b
def dC:List Nat->AH->AH
 |c::cs,b::H=>zk c b::dC cs H
 |[],H=>H
 |_,[]=>[]
theorem IH:∀(tags:List Nat)(H:AH),(dC tags H).length=H.length
 |[],H=>by simp[dC]
 |c::cs,[]=>by simp[dC]
 |c::cs,b::H=>by simp[dC,IH cs H]
theorem HU:∀(tags:List Nat)(H:AH)(k:Nat)(b:Option cH),(dC tags H)[k]?=some b->∃b0,H[k]?=some b0/\((∃c,tags[k]?=some c/\b=zk c b0)\/(tags[k]?=none/\b=b0))
 |[],H,k,b,h=>⟨b,by simpa [dC]using h,.inr ⟨by simp,rfl⟩⟩
 |c::cs,[],k,b,h=>by simp[dC]at h
 |c::cs,b0::H,0,b,h=>by
  simp[dC]at h
  grind
 |c::cs,b0::H,k+1,b,h=>by
  have:=HU cs H k b (by simpa [dC]using h)
  exact pc
def zY(w:World)(ι:Pl)(R:Nat->Prop):AV->Ending->Prop
 | .p (.pan ch),e=>e=.panicked ch
 |r,e=>∃v,e=.returned v/\dD w ι R r v
def AV.isPan:AV->Bool
 | .p (.pan _)=>true
 |_=>false
theorem zY.val{w:World}{ι:Pl}{R:Nat->Prop}{r:AV}{e:Ending}(h:zY w ι R r e)(hp:r.isPan=false):∃v,e=.returned v/\dD w ι R r v:=by
 cases r with
 |p x=>cases x<;>first|exact h|cases hp
 |_=>exact h
theorem zY.ret{w:World}{ι:Pl}{R:Nat->Prop}{r:AV}{v:Value}(h:dD w ι R r v):zY w ι R r (.returned v):=by
 cases r with
 |p x=>
  cases x with
  |pan ch=>cases h with
   |p _ _ h=>cases h
  |_=>exact⟨_,rfl,h⟩
 |_=>exact⟨_,rfl,h⟩
def jP(P:Program)(G:World->Prop)(f:FuncId)(as:List AV)(H:AH)(r:AV)(H':AH):Prop:=
 (∀(args:Array Value)(w:World),(callFunc f args).run P w=.ok (.enter f args) w) ∧
 ∀(B:Nat->Prop)(w:World)(ι:Pl)(args:List Value)(tags:List Nat),tags.length=H.length->lc G ⟨w,iV ι (dC tags H),[],fun _=>none⟩ B w ι (dC tags H)->eQ ⟨w,iV ι (dC tags H),[],fun _=>none⟩ B w ι (dC tags H) →
  as.length=args.length->(∀(j:Nat)(a:AV)(v:Value),as[j]?=some a->args[j]?=some v->dD w ι (Rd B ι (dC tags H)) a v) →
  Calls P f args.toArray w fun e w'=>∃ι',eQ ⟨w,iV ι (dC tags H),[],fun _=>none⟩ B w' ι' (dC tags H')/\zY w' ι' (Rd B ι' (dC tags H')) r e
def NL(P:Program)(G:World->Prop)(f:FuncId)(as:List AV)(H:AH)(r:AV)(H':AH)(kp:Nat->Bool):Prop:=
 (∀(args:Array Value)(w:World),(callFunc f args).run P w=.ok (.enter f args) w) ∧
 ∀(B:Nat->Prop)(w:World)(ι:Pl)(args:List Value)(tags:List Nat),tags.length=H.length->lc G ⟨w,iV ι (dC tags H),[],fun _=>none⟩ B w ι (dC tags H)->eQ ⟨w,iV ι (dC tags H),[],fun _=>none⟩ B w ι (dC tags H) →
  as.length=args.length->(∀(j:Nat)(a:AV)(v:Value),as[j]?=some a->args[j]?=some v->dD w ι (Rd B ι (dC tags H)) a v) →
  Calls P f args.toArray w fun e w'=>∃ι',eQ ⟨w,iV ι (dC tags H),[],fun _=>none⟩ B w' ι' (dC tags H')/\zY w' ι' (Rd B ι' (dC tags H')) r e/\∀(k c:Nat)(s:Nat×Nat),kp k=true->ι[k]?=some (some c,s)->ι'[k]?=some (some c,s)
def bl:List Nat->Nat->Nat->Option Nat
 |[],_,_=>none
 |x::xs,l,i=>(match Nat.beq x l with
  |true=>some i
  |false=>bl xs l (i+1))
theorem YA{l:Nat}:∀{σ:List Nat}{i k:Nat},bl σ l i=some k->i<=k/\σ[k-i]?=some l
 |[],i,k,h=>by simp[bl]at h
 |x::xs,i,k,h=>by
  unfold bl at h
  split at h
  ·simp_all
  ·obtain⟨h1,h2⟩:=YA h
   grind
theorem D6{l:Nat}:∀{σ:List Nat}{i:Nat},bl σ l i=none->∀k:Nat,σ[k]?≠some l
 |[],i,_,k=>by simp
 |x::xs,i,h,k=>by
  unfold bl at h
  split at h
  ·cases h
  ·rename_i e
   cases k with
   |zero=>
    intro hx;simp_all
   |succ k=>simpa using D6 h k
def VR(σ:List Nat)(n:Nat):Bool:=(List.range σ.length).all fun k=>(match bl σ (σ.getD k 0) 0 with
 |some k'=>Nat.beq k' k
 |none=>false)&&Nat.blt (σ.getD k 0) n
theorem o6{σ:List Nat}{n:Nat}(h:VR σ n=true){k l:Nat}(hk:σ[k]?=some l):bl σ l 0=some k/\l<n:=by
 have cJ:=(aC.1 hk).1
 have:=aR.1 h k (cC.2 cJ)
 rw[aK,hk]at this;simp only[jE,gH]at this;obtain⟨h1,h2⟩:=this;refine⟨?_,by simp_all⟩
 split at h1
 ·simp_all
 ·cases h1
def ur:Option cH->Option cH
 |some (.box cs t _)=>some (.box cs t none)
 |b=>b
def cy(σ:List Nat)(H Hc':AH):Nat->Bool:=fun l=>match bl σ l 0 with
 |some k=>!(uf (H.getD l none)&&uf (Hc'.getD k none))
 |none=>false
def ue(σ:List Nat)(f:Nat->Nat)(p:Nat->Bool)(Hc':AH):Nat->AH->AH
 |_,[]=>[]
 |l,b::H=>(match bl σ l 0 with
  |some k=>bh f (LG b) (Hc'.getD k none)
  |none=>pC p b)::ue σ f p Hc' (l+1) H
def zT(σ:List Nat)(H Hc':AH):AH:=ue σ (lV σ H.length) (cy σ H Hc') Hc' 0 H++(Hc'.drop σ.length).map (bh (lV σ H.length) none)
def kc(σ:List Nat)(ι':Pl):Nat->Pl->Pl
 |_,[]=>[]
 |l,x::ι=>(match bl σ l 0 with
  |some k=>ι'.getD k (none,0,0)
  |none=>x)::kc σ ι' (l+1) ι
theorem Cf{σ:List Nat}{f:Nat->Nat}{p:Nat->Bool}{Hc':AH}:∀(l:Nat)(H:AH)(i:Nat),(ue σ f p Hc' l H)[i]?=(H[i]?).map fun b=>match bl σ (l+i) 0 with
  |some k=>bh f (LG b) (Hc'.getD k none)
  |none=>pC p b
 |l,[],i=>by simp[ue]
 |l,b::H,0=>by simp[ue]
 |l,b::H,i+1=>by
  simp only[ue,bY];rw[Cf (l+1) H i,show l+1+i=l+(i+1) by omega]
theorem Dl{σ:List Nat}{ι':Pl}:∀(l:Nat)(ι:Pl)(i:Nat),(kc σ ι' l ι)[i]?=(ι[i]?).map fun x=>match bl σ (l+i) 0 with
  |some k=>ι'.getD k (none,0,0)
  |none=>x
 |l,[],i=>by simp[kc]
 |l,x::ι,0=>by simp[kc]
 |l,x::ι,i+1=>by
  simp only[kc,bY];rw[Dl (l+1) ι i,show l+1+i=l+(i+1) by omega]
theorem vc{σ:List Nat}{f:Nat->Nat}{p:Nat->Bool}{Hc':AH}:∀(l:Nat)(H:AH),(ue σ f p Hc' l H).length=H.length
 |l,[]=>rfl
 |l,b::H=>by simp[ue,vc (l+1) H]
theorem CN{σ:List Nat}{ι':Pl}:∀(l:Nat)(ι:Pl),(kc σ ι' l ι).length=ι.length
 |l,[]=>rfl
 |l,x::ι=>by simp[kc,CN (l+1) ι]
theorem z6e(f:Nat->Nat)(g:Option Nat)(c:Nat)(b:Option cH):bh f g (zk c b)=bh f g b:=by
 cases b with
 |none=>rfl
 |some b=>cases b<;>rfl
theorem XK(f:Nat->Nat)(g:Option Nat)(tags:List Nat)(H:AH)(k:Nat):bh f g ((dC tags H).getD k none)=bh f g (H.getD k none):=by
 rw[aK,aK]
 cases h:(dC tags H)[k]? with
 |none=>
  exact Rt
 |some b=>
  obtain⟨b0,h0,h1⟩:=HU tags H k b h;rw[h0]
  rcases h1 with⟨c,_,rfl⟩|⟨_,rfl⟩
  ·exact z6e f g c b0
  ·rfl
theorem XJ{f:Nat->Nat}{g:Option Nat}{b:Option cH}{x:cH}(h:bh f g b=some x):∃b0,b=some b0/\x=IW f g b0:=by
 cases b with
 |none=>cases h
 |some b0=>cases h;grind
theorem XP{tags:List Nat}{H:AH}{k:Nat}:uf ((dC tags H).getD k none)=uf (H.getD k none):=by
 rw[aK,aK]
 cases h:(dC tags H)[k]? with
 |none=>
  exact Rt
 |some b=>
  obtain⟨b0,h0,h1⟩:=HU tags H k b h;rw[h0]
  rcases h1 with⟨c,_,rfl⟩|⟨_,rfl⟩
  ·cases b0 with
   |none=>rfl
   |some b0=>cases b0<;>rfl
  ·rfl
section
variable{P:Program}{G:World->Prop}{w0:cF}{B:Nat->Prop}
theorem Dh{w:World}{ι:Pl}{H:AH}(hR:eQ w0 B w ι H)(hC:lc G w0 B w ι H){f:FuncId}{as:List AV}{Hc:AH}{r:AV}{Hc':AH}(h:jP P G f as Hc r Hc'){σ:List Nat}
  (hσ:VR σ H.length=true) (hlen:σ.length=Hc.length) (AF:σ.map (fun l=>ur (H.getD l none))=Hc.map (bh (lV σ H.length) none)) (jh:jW σ.length Hc=true) (As:AV.low.lowL σ.length as=true)
  {args:List Value} (iU:as.length=args.length) (dW:∀(j:Nat)(a:AV)(v:Value),as[j]?=some a->args[j]?=some v->dD w ι (Rd B ι H) (a.ren (lV σ H.length)) v):
  Calls P f args.toArray w fun e w'=>∃ι',eQ w0 B w' ι' (zT σ H Hc')/\bQ (some (cy σ H Hc')) w ι (Rd B ι H) w' ι' (Rd B ι' (zT σ H Hc'))/\zY w' ι' (Rd B ι' (zT σ H Hc')) (r.ren (lV σ H.length)) e:=by
 have hιl:∀l:Nat,l<H.length->∃x,ι[l]?=some x:=fun l hl=>⟨_,aB (by rw[hR.len];exact hl)⟩
 generalize hιc:σ.map (fun l=>ι.getD l (none,0,0))=ιc
 generalize htg:ιc.map (fun x=>x.1.getD 0)=tags
 have eD:ιc.length=σ.length:=by rw[<-hιc];simp
 have bS:tags.length=Hc.length:=aZ
 have xw:∀(k:Nat)(x:Option Nat×Nat×Nat),ιc[k]?=some x->∃l,σ[k]?=some l/\ι[l]?=some x:=fun k x hx=>by
  exact T0
 have xu:∀(k l:Nat),σ[k]?=some l->∃x,ιc[k]?=some x/\ι[l]?=some x:=fun k l hk=>by
  exact Gs
 have EW:∀(k:Nat)(x:Option Nat×Nat×Nat),ιc[k]?=some x->tags[k]?=some (x.1.getD 0):=fun k x hx=>by
  grind
 have xQ:∀(k:Nat)(b:cH)(l:Nat),(dC tags Hc)[k]?=some (some b)->σ[k]?=some l->∃(b2 b0:cH),H[l]?=some (some b2)/\Hc[k]?=some (some b0)/\ur (some b2)=some (IW (lV σ H.length) none b0)/\∃c,tags[k]?=some c/\some b=zk c (some b0):=fun k b l hb hk=>by
  exact U8
 have jc:∀c,iV ιc (dC tags Hc) c->∃(k l:Nat)(b2:cH)(s:Nat×Nat),σ[k]?=some l/\H[l]?=some (some b2)/\ι[l]?=some (some c,s):=by
  rintro c ⟨k,b,s,h1,h2⟩
  grind
 have vX:∀c,iV ιc (dC tags Hc) c->iV ι H c:=fun c hc=>by
  obtain⟨k,l,b2,s,_,h1,h2⟩:=jc c hc;exact⟨l,b2,s,h1,h2⟩
 obtain⟨B',rg⟩:∃B':Nat->Prop,∀b,B' b ↔ (B b/\¬ ∃(l:Nat)(b2:cH)(s:Nat×Nat),(∀k:Nat,σ[k]?≠some l)/\H[l]?=some (some b2)/\ι[l]?=some (some b,s)):=⟨_,fun _=>Iff.rfl⟩
 have px:∀b,Rd B ι H b->Rd B' ιc (dC tags Hc) b:=fun b hb=>⟨(rg b).2 ⟨hb.1,fun⟨l,b2,s,_,h1,h2⟩=>hb.2 ⟨l,b2,s,h1,h2⟩⟩,fun ho=>hb.2 (vX b ho)⟩
 have xf:∀b,w.heap.size<=b->B' b:=fun b hb=>(rg b).2 ⟨hR.fut b hb,fun⟨l,b2,s,_,h1,h2⟩=>by have:=hR.lt ⟨l,b2,s,h1,h2⟩;omega⟩
 have qe:∀b,iV ιc (dC tags Hc) b->B' b:=fun b hb=>by
  exact U2
 have r9:eQ ⟨w,iV ιc (dC tags Hc),[],fun _=>none⟩ B' w ιc (dC tags Hc):=by
  exact Ui
 have Ju:lc G ⟨w,iV ιc (dC tags Hc),[],fun _=>none⟩ B' w ιc (dC tags Hc):=
  ⟨fun w' hg=>hC.stab w' ⟨hg.os,hg.tape,hg.output,hg.size,fun k hk hx=>hg.block k hk fun ho=>hx (vX k ho)⟩,fun b hb=>hb.elim (qe b) (xf b)⟩
 have UD:∀(k l:Nat),σ[k]?=some l->lV σ H.length k=l:=fun k l hk=>by unfold lV;rw[hk]
 refine(h.2 B' w ιc args tags bS Ju r9 iU fun j a v ha hv=>(dW j a v ha hv).unren (m:=σ.length) (fun k' c' s' AL hx=>?_) (fun b hb _=>px b hb) a rfl (dc As ha)).mono ?_
 ·grind
 rintro e w' ⟨ι',lT,hE⟩
 have nM:ι'.length=Hc'.length:=by rw[lT.len,IH]
 have hι3:∀(k:Nat)(x:Option Nat×Nat×Nat),ι'[k]?=some x->(kc σ ι' 0 ι++ι'.drop σ.length)[lV σ H.length k]?=some x:=fun k x hx=>by
  exact Ua
 have mA:∀(l:Nat)(x:Option Nat×Nat×Nat),(∀k:Nat,σ[k]?≠some l)->ι[l]?=some x->(kc σ ι' 0 ι++ι'.drop σ.length)[l]?=some x:=fun l x hn hx=>by
  exact Tn
 generalize hI:kc σ ι' 0 ι++ι'.drop σ.length=ι3 at hι3 mA;have aU:∀(l:Nat)(b:cH)(c:Option Nat)(s:Nat×Nat),(zT σ H Hc')[l]?=some (some b)->ι3[l]?=some (c,s) →
   ((∀k:Nat,σ[k]?≠some l)/\∃b0:cH,H[l]?=some (some b0)/\b=HC (some (cy σ H Hc')) b0/\ι[l]?=some (c,s)) ∨
   (∃(k:Nat)(b1:cH)(g:Option Nat),(dC tags Hc')[k]?=some (some b1)/\b=IW (lV σ H.length) g b1/\lV σ H.length k=l/\ι'[k]?=some (c,s)/\(g=none\/∃l':Nat,σ[k]?=some l'/\g=LG (H.getD l' none))):=by
  intro l b c s hb hi;unfold zT at hb
  rcases bB l H.length with uW|qJ
  ·rw[cO (by rw[vc];exact uW),Cf]at hb
   have hH:H[l]?=some H[l]:=aB uW;rw[hH]at hb;simp only[eX,cB,bV]at hb
   cases hp:bl σ l 0 with
   |none=>
    rw[hp]at hb;have hn:=D6 hp;refine .inl ⟨hn,?_⟩;obtain⟨y,hy⟩:=hιl l uW
    have:=mA l y hn hy
    rw[hi]at this;cases this
    obtain⟨b0,h0,e0⟩:=MF (p:=cy σ H Hc') (l:=l) (H:=H) (b:=b) aZ
    grind
   |some k=>
    rw[hp]at hb;simp only at hb;have hk:σ[k]?=some l:=by simpa using(YA hp).2
    rw[<-XK _ _ tags]at hb;obtain⟨b1,e1,e2⟩:=XJ hb;have dG:(dC tags Hc')[k]?=some (some b1):=by
     grind
    have lI:k<ι'.length:=ZG
    grind
  ·rw[bM (by rw[vc];exact qJ),vc,aH,dI]at hb
   obtain⟨k,hk⟩:∃k,k=σ.length+(l-H.length):=⟨_,rfl⟩
   rw[<-hk]at hb;have Au:σ[k]?=none:=wb
   have J2:lV σ H.length k=l:=by unfold lV;grind
   cases hx:Hc'[k]? with
   |none=>rw[hx]at hb;cases hb
   |some ob=>
    rw[hx]at hb;simp only[eX,bV]at hb;have e0:Hc'.getD k none=ob:=aZ
    rw[<-e0,<- XK _ _ tags]at hb;obtain⟨b1,e1,e2⟩:=XJ hb
    grind
 have q9:∀c,iV ι3 (zT σ H Hc') c->(∃(l:Nat)(b0:cH)(s:Nat×Nat),(∀k:Nat,σ[k]?≠some l)/\H[l]?=some (some b0)/\ι[l]?=some (some c,s))\/iV ι' (dC tags Hc') c:=by
  exact Sr
 have gc:∀b,Rd B' ι' (dC tags Hc') b->Rd B ι3 (zT σ H Hc') b:=fun b hb=>⟨((rg b).1 hb.1).1,fun ho=>by
  exact T6⟩
 have Ay:∀b,b<w.heap.size->¬iV ιc (dC tags Hc) b->w'.heap[b]?=w.heap[b]?:=fun b hb hn=>lT.gr.block b hb hn
 have dM:w.heap.size<=w'.heap.size:=lT.gr.size;have SS:∀(k l c:Nat)(s:Nat×Nat),σ[k]?=some l->cy σ H Hc' l=false->ι[l]?=some (some c,s)->ι'[k]?=some (some c,s):=fun k l c s hk hp hi=>by
  have AE:=(o6 hσ hk).1;unfold cy at hp;rw[AE]at hp;simp only[fa,gH]at hp;obtain⟨SZ,AG⟩:=hp;rw[<-XP (tags:=tags) (H:=Hc')]at AG;have qw:∀(L:AH)(m:Nat),uf (L.getD m none)=true->∃(cs:List AV)(t:TypeId)(g:Option Nat),L[m]?=some (some (.box cs t g)):=fun L m hm=>by
   exact Tt
  obtain⟨cs,t,g,hH⟩:=qw _ _ SZ;obtain⟨cs1,t1,g1,VA⟩:=qw _ _ AG;have yX:=(hR.blk l _ _ s hH hi).2.1.1;have lI:k<ι'.length:=ZG
  have jH:ι'[k]?=some ι'[k]:=aB lI;have dG:=(lT.blk k _ ι'[k].1 ι'[k].2 VA jH).2;obtain⟨b0,h0,h1⟩:=HU tags Hc' k _ VA;obtain⟨x,ld,ag⟩:=xu k l hk;rw[hi]at ag;cases ag
  have ak:=EW k _ ld
  rcases h1 with⟨c0,dR,e0⟩|⟨dR,_⟩
  ·exact U1
  grind
 have TX:bQ (some (cy σ H Hc')) w ι (Rd B ι H) w' ι3 (Rd B ι3 (zT σ H Hc')):=by
  exact Tw
 have pw:∀(k c:Nat)(s:Nat×Nat),ι'[k]?=some (some c,s)->ι3[lV σ H.length k]?=some (some c,s):=fun k c s hx=>hι3 k _ hx
 have FR:ι3.length=(zT σ H Hc').length:=by
  rw[<-hI];simp[zT,CN,vc,hR.len,nM]
 refine⟨ι3,⟨?_,fun b hb=>hR.fut b oM,FR,fun l b c s h1 h2=>?_,fun l l2 b b2 c s s2 h1 h2 h3 h4=>?_⟩,TX,?_⟩
 ·refine⟨lT.gr.os.trans hR.gr.os,lT.gr.tape.trans hR.gr.tape,lT.gr.output.trans hR.gr.output,aS hR.size dM,fun d hd hx=>?_⟩
  have:=hR.size
  rw[Ay d oM fun ho=>?_]
  ·exact hR.gr.block d hd hx
  ·rcases hR.ge (vX d ho)with h|h
   ·exact hx h
   ·omega
 ·rcases aU l b c s h1 h2 with⟨hn,b0,h0,rfl,hi⟩|⟨k,b1,g,dG,rfl,lI,hi,hg⟩
  ·refine⟨(hR.blk l b0 c s h0 hi).1,(hR.blk l b0 c s h0 hi).2.keep TX fun c' e=>?_⟩
   grind
  ·refine⟨fun c' e=>?_,?_⟩
   ·subst e
    rcases lT.ge ⟨k,b1,s,dG,hi⟩with ho|ho
    ·exact hR.ge (vX c' ho)
    ·exact .inr (aS hR.size ho)
   ·have xR:=(lT.blk k b1 c s dG hi).2
    cases b1 with
    |box cs t g1=>
     obtain⟨⟨yX,_⟩,c',arr,ec,hh,hz,dB⟩:=xR;refine⟨⟨yX,fun n e=>?_⟩,c',arr,ec,hh,by rw[df];exact hz,fun j a ha=>?_⟩
     ·rcases hg with hg|⟨l',hk,hg⟩
      ·rw[hg]at e;cases e
      ·rw[hg]at e;have y7:∃(cs2:List AV)(t2:TypeId),H[l']?=some (some (.box cs2 t2 (some n))):=by
        exact Tx
       obtain⟨cs2,t2,y7⟩:=y7;obtain⟨y,hy⟩:=hιl l' (o6 hσ hk).2;obtain⟨y1,y2⟩:=y;have h5:=(hR.blk l' _ y1 y2 y7 hy).2.1.2 n rfl;subst h5;have wW:cy σ H Hc' l'=false:=by
        unfold cy;rw[(o6 hσ hk).1];simp only;rw[<-XP (tags:=tags) (H:=Hc'),aK,aK,y7,dG];rfl
       grind
     ·obtain⟨a0,Ji,rfl⟩:=IK ha;obtain⟨v,hv,vK,hr⟩:=dB j a0 Ji;exact⟨v,hv,vK,hr.ren pw fun b hb _=>gc b hb⟩
    |rows s1 rs t=>
     obtain⟨e,tW,hh⟩:=xR;refine⟨e,tW,?_⟩
     rcases hh with hh|⟨c',arr,ec,hh,hz,dB⟩
     ·exact .inl hh
     ·refine .inr ⟨c',arr,ec,hh,hz,fun i j row a g1 g2=>?_⟩
      obtain⟨v,hv,vK,hr⟩:=dB i j row a g1 g2;exact⟨v,hv,vK,hr.keep (nR _) fun b hb _=>⟨gc b hb,rfl⟩⟩
    |iter s1 p1=>exact xR
 ·rcases aU l b _ s h1 h3 with⟨hn,b0,h0,_,hi⟩|⟨k,b1,g,dG,_,lI,hi,_⟩
  ·rcases aU l2 b2 _ s2 h2 h4 with⟨Aq,b02,KQ,_,mX⟩|⟨k2,b12,g2,i6,_,xl,mX,_⟩
   ·exact hR.inj l l2 b0 b02 c s s2 h0 KQ hi mX
   ·exfalso
    rcases lT.ge ⟨k2,b12,s2,i6,mX⟩with ho|ho
    ·grind
    grind
  ·rcases aU l2 b2 _ s2 h2 h4 with⟨Aq,b02,KQ,_,mX⟩|⟨k2,b12,g2,i6,_,xl,mX,_⟩
   ·exfalso
    rcases lT.ge ⟨k,b1,s,dG,hi⟩with ho|ho
    ·grind
    grind
   ·have:=lT.inj k k2 b1 b12 c s s2 dG i6 hi mX
    subst this;rw[<-lI,<- xl]
 ·cases sT:r.isPan with
  |true=>
   cases r with
   |p x=>
    cases x with
    |pan ch=>exact hE
    |_=>cases sT
   |_=>cases sT
  |false=>
   obtain⟨v,rfl,hv⟩:=hE.val sT;exact .ret (hv.ren pw fun b hb _=>gc b hb)
def ke(kp:Nat->Bool)(σ:List Nat)(H Hc':AH):Nat->Bool:=fun l=>match bl σ l 0 with
 |some k=>!(kp k||(uf (H.getD l none)&&uf (Hc'.getD k none)))
 |none=>false
def il(kp:Nat->Bool)(σ:List Nat)(H Hc':AH):AH:=ue σ (lV σ H.length) (ke kp σ H Hc') Hc' 0 H++(Hc'.drop σ.length).map (bh (lV σ H.length) none)
theorem Zu{kp:Nat->Bool}{w:World}{ι:Pl}{H:AH}(hR:eQ w0 B w ι H)(hC:lc G w0 B w ι H){f:FuncId}{as:List AV}{Hc:AH}{r:AV}{Hc':AH}(h:NL P G f as Hc r Hc' kp){σ:List Nat}
  (hσ:VR σ H.length=true) (hlen:σ.length=Hc.length) (AF:σ.map (fun l=>ur (H.getD l none))=Hc.map (bh (lV σ H.length) none)) (jh:jW σ.length Hc=true) (As:AV.low.lowL σ.length as=true)
  {args:List Value} (iU:as.length=args.length) (dW:∀(j:Nat)(a:AV)(v:Value),as[j]?=some a->args[j]?=some v->dD w ι (Rd B ι H) (a.ren (lV σ H.length)) v):
  Calls P f args.toArray w fun e w'=>∃ι',eQ w0 B w' ι' (il kp σ H Hc')/\bQ (some (ke kp σ H Hc')) w ι (Rd B ι H) w' ι' (Rd B ι' (il kp σ H Hc'))/\zY w' ι' (Rd B ι' (il kp σ H Hc')) (r.ren (lV σ H.length)) e:=by
 have hιl:∀l:Nat,l<H.length->∃x,ι[l]?=some x:=fun l hl=>⟨_,aB (by rw[hR.len];exact hl)⟩
 generalize hιc:σ.map (fun l=>ι.getD l (none,0,0))=ιc
 generalize htg:ιc.map (fun x=>x.1.getD 0)=tags
 have eD:ιc.length=σ.length:=by rw[<-hιc];simp
 have bS:tags.length=Hc.length:=aZ
 have xw:∀(k:Nat)(x:Option Nat×Nat×Nat),ιc[k]?=some x->∃l,σ[k]?=some l/\ι[l]?=some x:=fun k x hx=>by
  exact T0
 have xu:∀(k l:Nat),σ[k]?=some l->∃x,ιc[k]?=some x/\ι[l]?=some x:=fun k l hk=>by
  exact Gs
 have EW:∀(k:Nat)(x:Option Nat×Nat×Nat),ιc[k]?=some x->tags[k]?=some (x.1.getD 0):=fun k x hx=>by
  grind
 have xQ:∀(k:Nat)(b:cH)(l:Nat),(dC tags Hc)[k]?=some (some b)->σ[k]?=some l->∃(b2 b0:cH),H[l]?=some (some b2)/\Hc[k]?=some (some b0)/\ur (some b2)=some (IW (lV σ H.length) none b0)/\∃c,tags[k]?=some c/\some b=zk c (some b0):=fun k b l hb hk=>by
  exact U8
 have jc:∀c,iV ιc (dC tags Hc) c->∃(k l:Nat)(b2:cH)(s:Nat×Nat),σ[k]?=some l/\H[l]?=some (some b2)/\ι[l]?=some (some c,s):=by
  rintro c ⟨k,b,s,h1,h2⟩
  grind
 have vX:∀c,iV ιc (dC tags Hc) c->iV ι H c:=fun c hc=>by
  obtain⟨k,l,b2,s,_,h1,h2⟩:=jc c hc;exact⟨l,b2,s,h1,h2⟩
 obtain⟨B',rg⟩:∃B':Nat->Prop,∀b,B' b ↔ (B b/\¬ ∃(l:Nat)(b2:cH)(s:Nat×Nat),(∀k:Nat,σ[k]?≠some l)/\H[l]?=some (some b2)/\ι[l]?=some (some b,s)):=⟨_,fun _=>Iff.rfl⟩
 have px:∀b,Rd B ι H b->Rd B' ιc (dC tags Hc) b:=fun b hb=>⟨(rg b).2 ⟨hb.1,fun⟨l,b2,s,_,h1,h2⟩=>hb.2 ⟨l,b2,s,h1,h2⟩⟩,fun ho=>hb.2 (vX b ho)⟩
 have xf:∀b,w.heap.size<=b->B' b:=fun b hb=>(rg b).2 ⟨hR.fut b hb,fun⟨l,b2,s,_,h1,h2⟩=>by have:=hR.lt ⟨l,b2,s,h1,h2⟩;omega⟩
 have qe:∀b,iV ιc (dC tags Hc) b->B' b:=fun b hb=>by
  exact U2
 have r9:eQ ⟨w,iV ιc (dC tags Hc),[],fun _=>none⟩ B' w ιc (dC tags Hc):=by
  exact Ui
 have Ju:lc G ⟨w,iV ιc (dC tags Hc),[],fun _=>none⟩ B' w ιc (dC tags Hc):=
  ⟨fun w' hg=>hC.stab w' ⟨hg.os,hg.tape,hg.output,hg.size,fun k hk hx=>hg.block k hk fun ho=>hx (vX k ho)⟩,fun b hb=>hb.elim (qe b) (xf b)⟩
 have UD:∀(k l:Nat),σ[k]?=some l->lV σ H.length k=l:=fun k l hk=>by unfold lV;rw[hk]
 refine(h.2 B' w ιc args tags bS Ju r9 iU fun j a v ha hv=>(dW j a v ha hv).unren (m:=σ.length) (fun k' c' s' AL hx=>?_) (fun b hb _=>px b hb) a rfl (dc As ha)).mono ?_
 ·grind
 rintro e w' ⟨ι',lT,hE,Vf⟩
 have nM:ι'.length=Hc'.length:=by rw[lT.len,IH]
 have hι3:∀(k:Nat)(x:Option Nat×Nat×Nat),ι'[k]?=some x->(kc σ ι' 0 ι++ι'.drop σ.length)[lV σ H.length k]?=some x:=fun k x hx=>by
  exact Ua
 have mA:∀(l:Nat)(x:Option Nat×Nat×Nat),(∀k:Nat,σ[k]?≠some l)->ι[l]?=some x->(kc σ ι' 0 ι++ι'.drop σ.length)[l]?=some x:=fun l x hn hx=>by
  exact Tn
 generalize hI:kc σ ι' 0 ι++ι'.drop σ.length=ι3 at hι3 mA;have aU:∀(l:Nat)(b:cH)(c:Option Nat)(s:Nat×Nat),(il kp σ H Hc')[l]?=some (some b)->ι3[l]?=some (c,s) →
   ((∀k:Nat,σ[k]?≠some l)/\∃b0:cH,H[l]?=some (some b0)/\b=HC (some (ke kp σ H Hc')) b0/\ι[l]?=some (c,s)) ∨
   (∃(k:Nat)(b1:cH)(g:Option Nat),(dC tags Hc')[k]?=some (some b1)/\b=IW (lV σ H.length) g b1/\lV σ H.length k=l/\ι'[k]?=some (c,s)/\(g=none\/∃l':Nat,σ[k]?=some l'/\g=LG (H.getD l' none))):=by
  intro l b c s hb hi;unfold il at hb
  rcases bB l H.length with uW|qJ
  ·rw[cO (by rw[vc];exact uW),Cf]at hb
   have hH:H[l]?=some H[l]:=aB uW;rw[hH]at hb;simp only[eX,cB,bV]at hb
   cases hp:bl σ l 0 with
   |none=>
    rw[hp]at hb;have hn:=D6 hp;refine .inl ⟨hn,?_⟩;obtain⟨y,hy⟩:=hιl l uW
    have:=mA l y hn hy
    rw[hi]at this;cases this
    obtain⟨b0,h0,e0⟩:=MF (p:=ke kp σ H Hc') (l:=l) (H:=H) (b:=b) aZ
    grind
   |some k=>
    rw[hp]at hb;simp only at hb;have hk:σ[k]?=some l:=by simpa using(YA hp).2
    rw[<-XK _ _ tags]at hb;obtain⟨b1,e1,e2⟩:=XJ hb;have dG:(dC tags Hc')[k]?=some (some b1):=by
     grind
    have lI:k<ι'.length:=ZG
    grind
  ·rw[bM (by rw[vc];exact qJ),vc,aH,dI]at hb
   obtain⟨k,hk⟩:∃k,k=σ.length+(l-H.length):=⟨_,rfl⟩
   rw[<-hk]at hb;have Au:σ[k]?=none:=wb
   have J2:lV σ H.length k=l:=by unfold lV;grind
   cases hx:Hc'[k]? with
   |none=>rw[hx]at hb;cases hb
   |some ob=>
    rw[hx]at hb;simp only[eX,bV]at hb;have e0:Hc'.getD k none=ob:=aZ
    rw[<-e0,<- XK _ _ tags]at hb;obtain⟨b1,e1,e2⟩:=XJ hb
    grind
 have q9:∀c,iV ι3 (il kp σ H Hc') c->(∃(l:Nat)(b0:cH)(s:Nat×Nat),(∀k:Nat,σ[k]?≠some l)/\H[l]?=some (some b0)/\ι[l]?=some (some c,s))\/iV ι' (dC tags Hc') c:=by
  exact Sr
 have gc:∀b,Rd B' ι' (dC tags Hc') b->Rd B ι3 (il kp σ H Hc') b:=fun b hb=>⟨((rg b).1 hb.1).1,fun ho=>by
  exact T6⟩
 have Ay:∀b,b<w.heap.size->¬iV ιc (dC tags Hc) b->w'.heap[b]?=w.heap[b]?:=fun b hb hn=>lT.gr.block b hb hn
 have dM:w.heap.size<=w'.heap.size:=lT.gr.size;have SS:∀(k l c:Nat)(s:Nat×Nat),σ[k]?=some l->ke kp σ H Hc' l=false->ι[l]?=some (some c,s)->ι'[k]?=some (some c,s):=fun k l c s hk hp hi=>by
  have AE:=(o6 hσ hk).1;unfold ke at hp;rw[AE]at hp;simp only[fa,bG,gH]at hp
  rcases hp with hp|⟨SZ,AG⟩
  ·grind
  rw[<-XP (tags:=tags) (H:=Hc')]at AG;have qw:∀(L:AH)(m:Nat),uf (L.getD m none)=true->∃(cs:List AV)(t:TypeId)(g:Option Nat),L[m]?=some (some (.box cs t g)):=fun L m hm=>by
   exact Tt
  obtain⟨cs,t,g,hH⟩:=qw _ _ SZ;obtain⟨cs1,t1,g1,VA⟩:=qw _ _ AG;have yX:=(hR.blk l _ _ s hH hi).2.1.1;have lI:k<ι'.length:=ZG
  have jH:ι'[k]?=some ι'[k]:=aB lI;have dG:=(lT.blk k _ ι'[k].1 ι'[k].2 VA jH).2;obtain⟨b0,h0,h1⟩:=HU tags Hc' k _ VA;obtain⟨x,ld,ag⟩:=xu k l hk;rw[hi]at ag;cases ag
  have ak:=EW k _ ld
  rcases h1 with⟨c0,dR,e0⟩|⟨dR,_⟩
  ·exact U1
  grind
 have TX:bQ (some (ke kp σ H Hc')) w ι (Rd B ι H) w' ι3 (Rd B ι3 (il kp σ H Hc')):=by
  exact Tw
 have pw:∀(k c:Nat)(s:Nat×Nat),ι'[k]?=some (some c,s)->ι3[lV σ H.length k]?=some (some c,s):=fun k c s hx=>hι3 k _ hx
 have FR:ι3.length=(il kp σ H Hc').length:=by
  rw[<-hI];simp[il,CN,vc,hR.len,nM]
 refine⟨ι3,⟨?_,fun b hb=>hR.fut b oM,FR,fun l b c s h1 h2=>?_,fun l l2 b b2 c s s2 h1 h2 h3 h4=>?_⟩,TX,?_⟩
 ·refine⟨lT.gr.os.trans hR.gr.os,lT.gr.tape.trans hR.gr.tape,lT.gr.output.trans hR.gr.output,aS hR.size dM,fun d hd hx=>?_⟩
  have:=hR.size
  rw[Ay d oM fun ho=>?_]
  ·exact hR.gr.block d hd hx
  ·rcases hR.ge (vX d ho)with h|h
   ·exact hx h
   ·omega
 ·rcases aU l b c s h1 h2 with⟨hn,b0,h0,rfl,hi⟩|⟨k,b1,g,dG,rfl,lI,hi,hg⟩
  ·refine⟨(hR.blk l b0 c s h0 hi).1,(hR.blk l b0 c s h0 hi).2.keep TX fun c' e=>?_⟩
   grind
  ·refine⟨fun c' e=>?_,?_⟩
   ·subst e
    rcases lT.ge ⟨k,b1,s,dG,hi⟩with ho|ho
    ·exact hR.ge (vX c' ho)
    ·exact .inr (aS hR.size ho)
   ·have xR:=(lT.blk k b1 c s dG hi).2
    cases b1 with
    |box cs t g1=>
     obtain⟨⟨yX,_⟩,c',arr,ec,hh,hz,dB⟩:=xR;refine⟨⟨yX,fun n e=>?_⟩,c',arr,ec,hh,by rw[df];exact hz,fun j a ha=>?_⟩
     ·rcases hg with hg|⟨l',hk,hg⟩
      ·rw[hg]at e;cases e
      ·rw[hg]at e;have y7:∃(cs2:List AV)(t2:TypeId),H[l']?=some (some (.box cs2 t2 (some n))):=by
        exact Tx
       obtain⟨cs2,t2,y7⟩:=y7;obtain⟨y,hy⟩:=hιl l' (o6 hσ hk).2;obtain⟨y1,y2⟩:=y;have h5:=(hR.blk l' _ y1 y2 y7 hy).2.1.2 n rfl;subst h5;have wW:ke kp σ H Hc' l'=false:=by
        unfold ke;rw[(o6 hσ hk).1];simp only;rw[<-XP (tags:=tags) (H:=Hc'),aK,aK,y7,dG];simp[uf]
       grind
     ·obtain⟨a0,Ji,rfl⟩:=IK ha;obtain⟨v,hv,vK,hr⟩:=dB j a0 Ji;exact⟨v,hv,vK,hr.ren pw fun b hb _=>gc b hb⟩
    |rows s1 rs t=>
     obtain⟨e,tW,hh⟩:=xR;refine⟨e,tW,?_⟩
     rcases hh with hh|⟨c',arr,ec,hh,hz,dB⟩
     ·exact .inl hh
     ·refine .inr ⟨c',arr,ec,hh,hz,fun i j row a g1 g2=>?_⟩
      obtain⟨v,hv,vK,hr⟩:=dB i j row a g1 g2;exact⟨v,hv,vK,hr.keep (nR _) fun b hb _=>⟨gc b hb,rfl⟩⟩
    |iter s1 p1=>exact xR
 ·rcases aU l b _ s h1 h3 with⟨hn,b0,h0,_,hi⟩|⟨k,b1,g,dG,_,lI,hi,_⟩
  ·rcases aU l2 b2 _ s2 h2 h4 with⟨Aq,b02,KQ,_,mX⟩|⟨k2,b12,g2,i6,_,xl,mX,_⟩
   ·exact hR.inj l l2 b0 b02 c s s2 h0 KQ hi mX
   ·exfalso
    rcases lT.ge ⟨k2,b12,s2,i6,mX⟩with ho|ho
    ·grind
    ·have:=hR.lt ⟨l,b0,s,h0,hi⟩
     change w.heap.size<=c at ho;omega
  ·rcases aU l2 b2 _ s2 h2 h4 with⟨Aq,b02,KQ,_,mX⟩|⟨k2,b12,g2,i6,_,xl,mX,_⟩
   ·exfalso
    rcases lT.ge ⟨k,b1,s,dG,hi⟩with ho|ho
    ·grind
    ·have:=hR.lt ⟨l2,b02,s2,KQ,mX⟩
     change w.heap.size<=c at ho;omega
   ·have:=lT.inj k k2 b1 b12 c s s2 dG i6 hi mX
    grind
 ·cases sT:r.isPan with
  |true=>
   cases r with
   |p x=>
    cases x with
    |pan ch=>exact hE
    |_=>cases sT
   |_=>cases sT
  |false=>
   obtain⟨v,rfl,hv⟩:=hE.val sT;exact .ret (hv.ren pw fun b hb _=>gc b hb)
end
def yO(sc:Option (Nat->Bool))(env:List AV):List AV:=match sc with
 |none=>env
 |some k=>env.map (AV.scrub k)
def rH(env:List AV)(d:Option Tmp)(a:AV):List AV:=match d with
 |some t=>env.set t a
 |none=>env
def PY:Value->Option Bool
 | .bool b=>some b
 |_=>none
def CY(all:List Oper)(env:List AV)(j:Nat):Option (Option Bool):=match(all[j]?).bind (·.dst)with
 |some t=>(match env.getD t .junk with
  | .p (.v x)=>some (PY x)
  |_=>none)
 |none=>none
def yf(want:Bool)(b:Option Bool):Bool:=match b with
 |none=>false
 |some b=>(match want with
  |true=>b
  |false=>!b)
theorem Dg{want:Bool}{b:Option Bool}(h:yf want b=true):b=some want:=by
 cases b with
 |none=>simp[yf]at h
 |some b=>cases want<;>cases b<;>simp[yf]at h<;>rfl
theorem Nq{want:Bool}{b:Option Bool}(h:yf want b=false):b≠some want:=by
 cases b with
 |none=>simp
 |some b=>cases want<;>cases b<;>simp[yf]at h<;>simp
def Qw:Op->Bool
 | .alloc _=>true
 | .box _ _=>true
 | .store _ _ _=>true
 | .buildSlice _ _ _=>true
 | .makeSlice _ _ _=>true
 | .range _ _=>true
 | .next _ _=>true
 | .call c=>(match c.callee with
  | .builtin .append=>true
  |_=>false)
 |_=>false
def DX(E:SO)(es:Nat)(H:AH)(y:AV)(K:List (List PV)->Nat->Prop):Prop:=
 match y with
 | .p (.ro s rows)=>s=es/\K rows rows.length
 | .osl k2 i2 m=>(match H[k2]? with
  |some (some (.rows s rs _))=>s=es/\E.pre i2 m rs/\K (E.sub rs i2 m) m
  |_=>False)
 | .p (.v (.slice none 0 _))=>K [] 0
 |_=>False
def Eh(E:SO)(T:TT)(env:List AV)(H:AH)(x y:Operand)(t u:TypeId)(K:AV->AH->Option (Nat->Bool)->Prop):Prop:=
 match T t,T u,bO env x,bO env y with
 |some ti,some ui,.osl k 0 n,.p (.v (.string s))=>(match ti.desc,ui.desc,H[k]? with
  | .slice e,.string,some (some (.rows s' rs e'))=>(match T e with
   |some te=>(match te.zero,te.size,te.bytes with
    | .int .u8 (Int.ofNat 0),1,1=>s'=1/\e'=e/\E.pre 0 n rs/\E.room n (E.nat (E.size s)) 1/\K (.osl k 0 (E.addN n (E.nat (E.size s)))) ((H.map (pC (one k))).set k (some (.rows 1 (E.app rs n (E.brows s)) e))) (some (one k))
    |_,_,_=>False)
   |none=>False)
  |_,_,_=>False)
 |_,_,_,_=>False
def Ox(E:SO)(T:TT)(env:List AV)(H:AH)(c:Call)(K:AV->AH->Option (Nat->Bool)->Prop):Prop:=
 match c.args.toList,c.argTypes.toList with
 |[x,y],[t,t']=>if t=t' then(match T t with
  |some ti=>(match ti.desc with
   | .slice e=>(match T e with
    |some te=>if te.zero.cells.size=te.size/\0<te.size then DX E te.size H (bO env y) fun rows c=>(match bO env x with
     | .osl k 0 n=>(match H[k]? with
      |some (some (.rows s rs e'))=>s=te.size/\e'=e/\E.pre 0 n rs/\E.room n c te.bytes ∧
        K (.osl k 0 (E.addN n c)) ((H.map (pC (one k))).set k (some (.rows te.size (E.app rs n rows) e))) (some (one k))
      |_=>False)
     | .p (.v (.slice none 0 0))=>E.room 0 c te.bytes ∧
       K (.osl H.length 0 c) (((H++[some (cH.rows te.size [] e)]).map (pC (one H.length))).set H.length (some (cH.rows te.size rows e))) none
     |_=>False)else False
    |none=>False)
   |_=>False)
  |none=>False)else Eh E T env H x y t t' K
 |_,_=>False
def aw(E:SO)(T:TT)(o:Oper)(env:List AV)(H:AH)(K:AV->AH->Option (Nat->Bool)->Prop):Prop:=
 match o.op with
 | .alloc t=>(match T t with
  |some i=>if i.zero.cells.toList.all (·.oneCell')=true then K (.own H.length 0) (H++[some (.box (i.zero.cells.toList.map fun x=>.p (.v x)) t none)]) none else False
  |none=>False)
 | .box t x=>if uw (bO env x)=true then K (.own H.length 0) (H++[some (.box (qM (bO env x)) t none)]) none else False
 | .store t x y=>(match T t with
  |some i=>if uw (bO env y)=true/\(qM (bO env y)).length=i.size then(match bO env x with
   | .own k j=>(match H[k]? with
    |some (some (.box cs t' g))=>if j+i.size<=cs.length then K .junk (H.set k (some (.box (nl cs j (qM (bO env y))) t' g))) none else False
    |_=>False)
   | .orw k r j=>(match H[k]?,AV.toP.toPL (qM (bO env y))with
    |some (some (.rows s rs t')),some pcs=>∃row,rs[r]?=some row/\j+i.size<=row.length/\K .junk (H.set k (some (.rows s (E.put rs r (nl row j pcs)) t'))) none
    |_,_=>False)
   |_=>False)else False
  |none=>False)
 | .buildSlice t len parts=>(match T t with
  |some ti=>(match ti.desc with
   | .slice e=>(match T e with
    |some te=>if 0<te.size/\len*te.size<=16777216 then(match fi (fun i=>some (i*te.size,te.size)) ((List.range (len*te.size)).map fun m=>.p (.v (te.zero.cells[m%te.zero.cells.size]!))) (parts.toList.map fun(n,x)=>(n,bO env x))with
     |some cs=>(match cs.all yM,yh te.size len cs with
      |true,some rs=>K (.osl H.length 0 len) (H++[some (.rows te.size rs e)]) none
      |_,_=>False)
     |none=>False)else False
    |none=>False)
   |_=>False)
  |none=>False)
 | .makeSlice t x y=>(match T t with
  |some ti=>(match ti.desc with
   | .slice e=>(match T e with
    |some te=>(match te.zero,te.size,bO env x,bO env y with
     | .int kz z,1,.p (.v (.int _ n)),.p (.v (.int _ m))=>n=m/\E.ple 0 n/\E.room 0 (E.nat n) te.bytes/\K (.osl H.length 0 (E.nat n)) (H++[some (.rows 1 (List.replicate (E.nat n) [.v (.int kz z)]) e)]) none
     |_,_,_,_=>False)
    |none=>False)
   |_=>False)
  |none=>False)
 | .range t x=>(match T t with
  |some ti=>(match ti.desc,bO env x with
   | .string,.p (.v (.string s))=>K (.own H.length 0) (H++[some (.iter s 0)]) none
   |_,_=>False)
  |none=>False)
 | .next x true=>(match bO env x with
  | .own k 0=>(match H[k]? with
   |some (some (.iter s pos))=>(match E.lti (E.ofN pos) (E.size s)with
    |true=>K (.p (.tup [.v (.bool true),.v (.int .i64 (E.ofN pos)),.v (.int .i32 (E.decR s pos))])) (H.set k (some (.iter s (E.addN pos (E.decW s pos))))) none
    |false=>K (.p (.tup [.v (.bool false)])) H none)
   |_=>False)
  |_=>False)
 | .call c=>Ox E T env H c K
 |_=>False
def MU(P:Program)(G:World->Prop)(E:SO)(T:TT)(o:Oper)(env:List AV)(H:AH)(K:AV->AH->Option (Nat->Bool)->Prop):Prop:=
 if Qw o.op=true then aw E T o env H K else aq P G E T o env H fun a=>K a H none
section
variable{P:Program}{G:World->Prop}{T:TT}
theorem z5j{o:Oper}{env:List AV}{H:AH}{a:AV}(h:QS P G o env H a):WS P G o env H a H none:=by
 intro w0 B w ι ρ hR hG hρ hf
 have:=h w0 B w ι ρ hR hG.now hρ hf
 generalize (execOp ρ o).run P w=r at *
 cases r with
 |ok n w'=>
  cases n<;>simp only[a7]at this ⊢
  ·exact⟨ι,hR.grow this.1,bQ.gr this.1,this.2⟩
  ·exact⟨ι,hR.grow this.1,bQ.gr this.1,this.2⟩
  ·exact this.mono fun e w' ⟨v,he,h1,h2⟩=>⟨v,he,ι,hR.grow h1,bQ.gr h1,h2⟩
 |halt x w'=>simp only[a7]at this
theorem We{es:Nat}{H:AH}{y:AV}{K:List (List PV)->Nat->Prop}(h:DX bK es H y K):
  ∃rows,K rows rows.length/\∀(w0:cF)(B:Nat->Prop)(w:World)(ι:Pl)(v:Value),eQ w0 B w ι H->dD w ι (Rd B ι H) y v->uF w (Rd B ι H) es rows v:=by
 unfold DX at h
 split at h
 ·obtain⟨rfl,h⟩:=h;refine⟨_,h,fun w0 B w ι v hR hv=>?_⟩
  cases hv with
  |p _ _ hv=>exact xeg hv
 ·rename_i k2 i2 m
  split at h
  ·rename_i s rs t hk;obtain⟨rfl,hle,h⟩:=h;change i2+m<=rs.length at hle;have pO:((rs.drop i2).take m).length=m:=aZ
   refine⟨(rs.drop i2).take m,by rw[pO];exact h,fun w0 B w ι v hR hv=>?_⟩
   have aU:∀(i:Nat)(row:List PV),((rs.drop i2).take m)[i]?=some row->rs[i2+i]?=some row:=fun i row hr=>(Dw hr).1
   have hlen:((rs.drop i2).take m).length=m:=dU
   cases hv with
   |osl0=>
    have e:(rs.drop i2).take 0=[]:=jT
    exact⟨(fun i row hr=>by grind),.inl ⟨none,0,rfl,e⟩⟩
   |osl _ _ _ c cap sz hi hn hm hz=>
    obtain⟨es,hl,hh⟩:=(hR.blk k2 _ _ sz hk hi).2
    rcases hh with⟨ec,_⟩|⟨c',arr,ec,hb,uS,dB⟩
    ·cases ec
    cases ec
    refine⟨fun i row hr=>by grind,.inr ⟨c,i2*sz.1,cap,fun i j=>(arr[(i2+i)*sz.1+j]?).getD undef,by rw[hlen],fun i j row a hr ha=>?_⟩⟩
    obtain⟨u,hu,h1,x5⟩:=dB _ j row a (aU i row hr) ha;have e2:i2*sz.1+(i*s+j)=(i2+i)*sz.1+j:=aZ
    have e3:(arr[(i2+i)*sz.1+j]?).getD undef=u:=by rw[hu];rfl
    refine⟨?_,?_,?_⟩
    ·rw[ka hb,e2];grind
    ·grind
    grind
  ·cases h
 ·rename_i cap;refine⟨_,h,fun w0 B w ι v hR hv=>?_⟩
  have:=jS hv
  subst this;exact⟨(fun i row hr=>by simp at hr),.inl ⟨none,cap,rfl,rfl⟩⟩
 ·cases h
theorem Yq(hT:gY P T){o:Oper}{c:Call}{x y:Operand}(ho:o.op=.call c)(hc:c.callee=.builtin .append)(ha:c.args.toList=[x,y]){t u:TypeId}(mQ:c.argTypes.toList=[t,u]){env:List AV}{H:AH}{K:AV->AH->Option (Nat->Bool)->Prop}(h:Eh bK T env H x y t u K):∃a H' sc,K a H' sc/\WS P G o env H a H' sc:=by
 unfold Eh at h
 split at h
 ·rename_i ti ui k n s AB hui ex ey
  split at h
  ·rename_i e s' rs e' hd SM hk
   split at h
   ·rename_i te he
    split at h
    ·rename_i hz wV dG;obtain⟨rfl,rfl,hn,⟨tC,zH⟩,h⟩:=h;have hn:n<=rs.length:=by have gl:0+n<=rs.length:=hn;omega
     have dM:(((s.size:Nat):Int)).toNat=s.size:=dU
     change n+(((s.size:Nat):Int)).toNat<=maxLen at tC;change(n+(((s.size:Nat):Int)).toNat)*1<=140737488355328 at zH;change K (.osl k 0 (n+(((s.size:Nat):Int)).toNat)) _ _ at h;exact⟨_,_,_,h,Ys hT ho hc ha mQ AB hd hui SM he hz wV dG ex hk hn ey tC oM⟩
    ·cases h
   ·cases h
  ·cases h
 ·cases h
theorem Dc(hT:gY P T){o:Oper}{env:List AV}{H:AH}{K:AV->AH->Option (Nat->Bool)->Prop}(h:MU P G bK T o env H K):∃a H' sc,K a H' sc/\WS P G o env H a H' sc:=by
 unfold MU at h
 split at h
 ·rename_i hW;unfold aw at h
  split at h
  ·rename_i t ho
   split at h
   ·rename_i i ht
    split at h
    ·rename_i h1;exact⟨_,_,_,h,Zp hT ho ht h1⟩
    ·cases h
   ·cases h
  ·rename_i t x ho
   split at h
   ·rename_i h1;exact⟨_,_,_,h,X4 ho h1⟩
   ·cases h
  ·rename_i t x y ho
   split at h
   ·rename_i i ht
    split at h
    ·rename_i h1
     split at h
     ·rename_i k j ex
      split at h
      ·rename_i cs t' g hk
       split at h
       ·rename_i hle;exact⟨_,_,_,h,Wg hT ho ht ex hk h1.1 h1.2 hle⟩
       ·cases h
      ·cases h
     ·rename_i k r j ex
      split at h
      ·rename_i s rs t' pcs hk hp;obtain⟨row,cM,hle,h⟩:=h;exact⟨_,_,_,h,Wh hT ho ht ex hk cM h1.1 hp h1.2 hle⟩
      ·cases h
     ·cases h
    ·cases h
   ·cases h
  ·rename_i t len parts ho
   split at h
   ·rename_i ti ht
    split at h
    ·rename_i e hd
     split at h
     ·rename_i te he
      split at h
      ·rename_i hc
       split at h
       ·rename_i cs dB
        split at h
        ·rename_i rs h1 h2;exact⟨_,_,_,h,zmn hT ho ht hd he hc.1 hc.2 dB h1 h2⟩
        ·cases h
       ·cases h
      ·cases h
     ·cases h
    ·cases h
   ·cases h
  ·rename_i t x y ho
   split at h
   ·rename_i ti ht
    split at h
    ·rename_i e hd
     split at h
     ·rename_i te he
      split at h
      ·rename_i kz z kx n ky m hz hs ex ey;obtain⟨KF,h0,⟨tC,zH⟩,h⟩:=h;subst KF;rw[cB]at tC zH;exact⟨_,_,_,h,zm8 hT ho ht hd he hz hs ex ey h0 tC (by have hby':n.toNat*te.bytes<=140737488355328:=zH;grind)⟩
      ·cases h
     ·cases h
    ·cases h
   ·cases h
  ·rename_i t x ho
   split at h
   ·rename_i ti ht
    split at h
    ·rename_i s hd ex;exact⟨_,_,_,h,Zg hT ho ht hd ex⟩
    ·cases h
   ·cases h
  ·rename_i x ho
   split at h
   ·rename_i k ex
    split at h
    ·rename_i s pos hk
     split at h
     ·rename_i hp;exact⟨_,_,_,h,X7 ho ex hk (by have h1:(pos:Int)<((s.size:Nat):Int):=oT hp;omega)⟩
     ·rename_i hp;exact⟨_,_,_,h,z4w ho ex hk (by have h1:¬(pos:Int)<((s.size:Nat):Int):=fV hp;omega)⟩
    ·cases h
   ·cases h
  ·rename_i c ho;have hc:c.callee=.builtin .append:=by
    unfold Qw at hW
    grind
   unfold Ox at h
   split at h
   ·rename_i x y t t' ha mQ
    split at h
    ·rename_i Am;subst Am
     split at h
     ·rename_i ti ht
      split at h
      ·rename_i e hd
       split at h
       ·rename_i te he
        split at h
        ·rename_i hz;obtain⟨rows,h,tS⟩:=We h
         split at h
         ·rename_i k n ex
          split at h
          ·rename_i s rs e' hk;obtain⟨rfl,rfl,hn,⟨tC,zH⟩,h⟩:=h;have hn:n<=rs.length:=by have gl:0+n<=rs.length:=hn;omega
           exact⟨_,_,_,h,zr0 hT ho hc ha mQ ht hd he hz.1 hz.2 ex hk hn tS tC zH⟩
          ·cases h
         ·rename_i ex;obtain⟨⟨tC,zH⟩,h⟩:=h;rw[cB]at tC zH;exact⟨_,_,_,h,Yr hT ho hc ha mQ ht hd he hz.1 hz.2 ex tS tC zH⟩
         ·cases h
        ·cases h
       ·cases h
      ·cases h
     ·cases h
    ·exact Yq hT ho hc ha mQ h
   ·cases h
  ·cases h
 ·obtain⟨a,hK,hq⟩:=WJ hT h;exact⟨_,_,_,hK,z5j hq⟩
theorem nJ.eval{w:World}{ι:Pl}{R:Nat->Prop}{env:List AV}{a:Act}(h:nJ w ι R env a.tmps)(x:Operand):dD w ι R (bO env x) (a.eval x):=by
 cases x with
 |tmp t=>
  simp only[bO,Act.eval,aK]
  rcases bB t env.length with hl|hl
  ·have h1:=aB hl;have tW:t<a.tmps.size:=by rw[<-h.len];exact hl
   have h2:a.tmps[t]?=some a.tmps[t]:=eM tW
   have:=h.at_ t _ _ h1 h2
   simp_all
  ·rw[List.getElem?_eq_none hl];exact .junk _
 |const c=>exact .p _ _ (WE _ _ _)
 |global g=>exact .p _ _ (.v _)
 |func f=>exact .p _ _ (.v _)
theorem nJ.put{sc:Option (Nat->Bool)}{w w':World}{ι ι':Pl}{R R':Nat->Prop}{env:List AV}{a:Act}{d:Option Tmp}{x:AV}{v:Value}(h:nJ w ι R env a.tmps)(hk:bQ sc w ι R w' ι' R')(hx:dD w' ι' R' x v):nJ w' ι' R' (rH (yO sc env) d x) (a.put d v).tmps:=by
 have hs:nJ w' ι' R' (yO sc env) a.tmps:=by
  refine⟨by unfold yO;split<;>simp[h.len],fun t y u hy hu=>?_⟩
  cases sc with
  |none=>exact(h.at_ t y u hy hu).keep0 hk
  |some k=>
   simp only[yO,aH]at hy
   cases he:env[t]? with
   |none=>rw[he]at hy;cases hy
   |some z=>rw[he]at hy;cases hy;exact(h.at_ t z u he hu).keep hk
 cases d with
 |none=>exact hs
 |some t=>
  refine⟨by simp[rH,Act.put,hs.len],fun t' y u hy hu=>?_⟩
  simp only[rH,Act.put]at hy hu
  by_cases e:t=t'
  ·grind
  ·rw[nU e]at hy;rw[mR e]at hu;exact hs.at_ t' y u hy hu
structure St(w0:cF)(B:Nat->Prop)(nt:Nat)(env:List AV)(H:AH)(a:Act)(w:World):Prop where
 defers:a.defers=w0.ds
 size:a.tmps.size=nt
 pin:∀t v,w0.pin t=some v->a.tmps[t]?=some v
 rep:∃ι,eQ w0 B w ι H/\nJ w ι (Rd B ι H) env a.tmps
def rT(w0:cF)(B:Nat->Prop)(nt:Nat)(Q:Exit->List AV->AH->Prop)(e:Exit)(a:Act)(w:World):Prop:=∃env H,Q e env H/\St w0 B nt env H a w
def PV.panOf:PV->Option (List PanicEntry)
 | .pan ch=>some ch
 |_=>none
def AV.panOf:AV->Option (List PanicEntry)
 | .p (.pan ch)=>some ch
 |_=>none
def K4(x:AV)(args:List AV):Option (FuncId×List AV):=
 match x with
 | .p (.v (.func (.func f) us vs))=>some (f,(us.toList.map fun v=>.p (.v v))++(args++(vs.toList.map fun v=>.p (.v v))))
 | .clo f fs cs=>some (f,fs++(args++cs))
 |_=>none
def yb(env:List AV)(o:Oper):Option (FuncId×List AV):=
 match o.op with
 | .call c=>(match c.callee with
  | .value x=>K4 (bO env x) (c.args.toList.map (bO env))
  |_=>none)
 |_=>none
def AV.still:AV->Bool
 | .p _=>true
 | .osl _ _ _=>true
 | .agg cs=>stillL cs
 | .tup cs=>stillL cs
 |_=>false
where stillL:List AV->Bool
 |[]=>true
 |a::as=>a.still&&stillL as
inductive CK where
 |no
 |pure (f:FuncId) (as:List PV)
 |froz (f:FuncId) (as:List AV)
 |mem (f:FuncId)
 |pan (v:Value)
def IM(env:List AV)(o:Oper):CK:=
 match o.op with
 | .panic x=>(match bO env x with
  | .p (.v (.iface t v))=>.pan (.iface t v)
  |_=>.no)
 |_=>(match yb env o with
  |some (f,as)=>(match AV.toP.toPL as with
   |some ps=>.pure f ps
   |none=>(match AV.still.stillL as with
    |true=>.froz f as
    |false=>.mem f))
  |none=>.no)
def vi(σ:List Nat)(H Hc:AH)(as:List AV):Bool:=VR σ H.length&&Nat.beq σ.length Hc.length&&jW σ.length Hc&&AV.low.lowL σ.length as
inductive uG(P:Program)(G:World->Prop)(f:FuncId)(o:Oper)(env:List AV)(H:AH)(K:List AV->AH->Prop)(Q:Exit->List AV->AH->Prop):Prop
 |mk (env2:List AV) (H2:AH) (hw:Wk env H env2 H2) (σ:List Nat) (as:List AV) (Hc:AH) (r:AV) (Hc':AH) (h:jP P G f as Hc r Hc') (hc:yb env2 o=some (f,AV.ren.renL (lV σ H2.length) as)) (hb:vi σ H2 Hc as=true)
  (hp:σ.map (fun l=>ur (H2.getD l none))=Hc.map (bh (lV σ H2.length) none))
  (k:match r.panOf with
   |some ch=>Q (.panic ch) (yO (some (cy σ H2 Hc')) env2) (zT σ H2 Hc')
   |none=>K (rH (yO (some (cy σ H2 Hc')) env2) o.dst (r.ren (lV σ H2.length))) (zT σ H2 Hc'))
 |mkK (kp:Nat->Bool) (env2:List AV) (H2:AH) (hw:Wk env H env2 H2) (σ:List Nat) (as:List AV) (Hc:AH) (r:AV) (Hc':AH) (h:NL P G f as Hc r Hc' kp) (hc:yb env2 o=some (f,AV.ren.renL (lV σ H2.length) as)) (hb:vi σ H2 Hc as=true)
  (hp:σ.map (fun l=>ur (H2.getD l none))=Hc.map (bh (lV σ H2.length) none))
  (k:match r.panOf with
   |some ch=>Q (.panic ch) (yO (some (ke kp σ H2 Hc')) env2) (il kp σ H2 Hc')
   |none=>K (rH (yO (some (ke kp σ H2 Hc')) env2) o.dst (r.ren (lV σ H2.length))) (il kp σ H2 Hc'))
def kh(P:Program)(G:World->Prop)(E:SO)(T:TT)(o:Oper)(env:List AV)(H:AH)(K:List AV->AH->Prop)(Q:Exit->List AV->AH->Prop):Prop:=
 match IM env o with
 | .no=>MU P G E T o env H fun a H' sc=>K (rH (yO sc env) o.dst a) H'
 | .pure f ps=>∃r,fX P G f ps r/\(match r.panOf with
  |some ch=>Q (.panic ch) env H
  |none=>K (rH env o.dst (.p r)) H)
 | .froz f as=>(bu.frzL E H as fun ps=>∃r,fX P G f ps r/\(match r.panOf with
  |some ch=>Q (.panic ch) env H
  |none=>(match r.flat with
   |true=>K (rH env o.dst (.p r)) H
   |false=>False)))\/uG P G f o env H K Q
 | .mem f=>uG P G f o env H K Q
 | .pan v=>Q (.panic [{ v:=v,recovered:=false }]) env H
def vO(P:Program)(G:World->Prop)(E:SO)(T:TT)(all:List Oper)(Q:Exit->List AV->AH->Prop):List Oper->List AV->AH->Prop
 |[],env,H=>Q .normal env H
 |o::os,env,H=>match o.guard with
  |none=>kh P G E T o env H (fun env' H'=>vO P G E T all Q os env' H') Q
  |some (j,want)=>(match CY all env j with
   |some b=>(match yf want b with
    |true=>kh P G E T o env H (fun env' H'=>vO P G E T all Q os env' H') Q
    |false=>vO P G E T all Q os (rH env o.dst (.p (.v undef))) H)
   |none=>False)
theorem Cz{all:List Oper}{env:List AV}{j:Nat}{b:Option Bool}(h:CY all env j=some b){w:World}{ι:Pl}{R:Nat->Prop}{a:Act}(hE:nJ w ι R env a.tmps):so all.toArray a.eval j=b:=by
 unfold CY at h;unfold so;simp only[wY]
 split at h
 ·rename_i t ht;rw[ht];simp only
  split at h
  ·rename_i x e
   cases h
   have:=hE.eval (.tmp t)
   simp only[bO,e]at this;rw[jS this]
   cases x<;>rfl
  ·cases h
 ·cases h
theorem ip{w0:cF}{a:Act}(h:∀t v,w0.pin t=some v->a.tmps[t]?=some v){d:Option Tmp}(hd:∀t,d=some t->w0.pin t=none)(x:Value):∀t v,w0.pin t=some v->(a.put d x).tmps[t]?=some v:=by
 intro t v ht
 cases d with
 |none=>exact h t v ht
 |some d=>
  have eA:d≠t:=fun e=>by
   grind
  have:=h t v ht
  simp only[Act.put]
  grind
theorem ko(a:Act)(d:Option Tmp)(v:Value):(a.put d v).tmps.size=a.tmps.size:=by cases d<;>simp[Act.put]
theorem iw(a:Act)(d:Option Tmp)(v:Value):(a.put d v).defers=a.defers:=by cases d<;>rfl
variable{w0:cF}{B:Nat->Prop}{nt:Nat}
theorem Cv{o:Oper}{a:Act}{w:World}{next:Act->World->Prop}{Q:Exit->Act->World->Prop}{f:FuncId}{args:Array Value}(he:(execOp a.eval o).run P w=.ok (.enter f args) w){R:Ending->World->Prop}(h:Calls P f args w R)
  (hv:∀v w',R (.returned v) w'->next (a.put o.dst v) w') (hp:∀ch w',R (.panicked ch) w'->Q (.panic ch) a w') (ho:∀w',¬R .outgrown w'):o.wp P a w next Q:=by
 unfold Oper.wp;rw[he,Oper.upon_enter];refine h.mono fun e w' hR=>?_
 grind
theorem Ke{w:World}{ι:Pl}{R:Nat->Prop}{env:List AV}{a:Act}(hE:nJ w ι R env a.tmps)(args:Array Operand):∀(j:Nat)(x:AV)(v:Value),(args.toList.map (bO env))[j]?=some x->(args.toList.map a.eval)[j]?=some v->dD w ι R x v:=fun j x v hx hv=>by
 rw[aH]at hx hv
 cases hj:args.toList[j]? with
 |none=>rw[hj]at hx;cases hx
 |some y=>
  rw[hj]at hx hv
  cases hx;cases hv
  exact hE.eval y
theorem XT{w:World}{ι:Pl}{R:Nat->Prop}{as bs:List AV}{us vs:List Value}(hl:as.length=us.length)(ha:∀(j:Nat)(x:AV)(v:Value),as[j]?=some x->us[j]?=some v->dD w ι R x v)(hb:∀(j:Nat)(x:AV)(v:Value),bs[j]?=some x->vs[j]?=some v->dD w ι R x v):
  ∀(j:Nat)(x:AV)(v:Value),(as++bs)[j]?=some x->(us++vs)[j]?=some v->dD w ι R x v:=fun j x v hx hv=>by
 grind
theorem O8{w:World}{ι:Pl}{R:Nat->Prop}(us:List Value):∀(j:Nat)(x:AV)(v:Value),(us.map fun v=>AV.p (.v v))[j]?=some x->us[j]?=some v->dD w ι R x v:=fun j x v hx hv=>by
 rw[aH,hv]at hx
 cases hx
 exact .p _ _ (.v _)
theorem WX{o:Oper}{env:List AV}{f:FuncId}{as:List AV}(h:yb env o=some (f,as)){w:World}{ι:Pl}{R:Nat->Prop}{a:Act}(hE:nJ w ι R env a.tmps):
  ∃vs:List Value,as.length=vs.length/\(∀(j:Nat)(x:AV)(v:Value),as[j]?=some x->vs[j]?=some v->dD w ι R x v)/\(execOp a.eval o).run P w=(callFunc f vs.toArray).run P w:=by
 unfold yb at h
 split at h
 ·rename_i c ho
  split at h
  ·rename_i x hc;have hx:=hE.eval x;unfold K4 at h
   split at h
   ·rename_i f' us vs e
    cases h
    rw[e]at hx;have u3:=jS hx;refine⟨us.toList++(c.args.toList.map a.eval++vs.toList),by simp,XT jT (O8 _) (XT jT (Ke hE c.args) (O8 _)),?_⟩
    have e2:(us.toList++(c.args.toList.map a.eval++vs.toList)).toArray=us++c.args.map a.eval++vs:=by
     grind
    rw[e2];simp[execOp,ho,resolve,hc,u3,Deferred.ofValue,invoke]
   ·rename_i f' fs cs e
    cases h
    rw[e]at hx;generalize u3:a.eval x=xv at hx
    cases hx with
    |clo _ _ _ us vs hl hr nM gf=>
     refine⟨us++(c.args.toList.map a.eval++vs),by simp[hl,nM],XT hl hr (XT jT (Ke hE c.args) gf),?_⟩
     have e2:(us++(c.args.toList.map a.eval++vs)).toArray=us.toArray++c.args.map a.eval++vs.toArray:=by
      grind
     rw[e2];simp[execOp,ho,resolve,hc,u3,Deferred.ofValue,invoke]
   ·cases h
  ·cases h
 ·cases h
theorem C1{w:World}{R:Nat->Prop}{r:PV}{e:Ending}(h:oe w R r e):(∃ch,r.panOf=some ch/\e=.panicked ch)\/(r.panOf=none/\∃v,e=.returned v/\cE w R r v):=by
 cases r with
 |pan ch=>exact .inl ⟨ch,rfl,h⟩
 |_=>exact .inr ⟨rfl,h⟩
theorem zb{w:World}{ι:Pl}{R:Nat->Prop}{r:AV}{e:Ending}(h:zY w ι R r e):(∃ch,r.panOf=some ch/\e=.panicked ch)\/(r.panOf=none/\∃v,e=.returned v/\dD w ι R r v):=by
 cases r with
 |p x=>
  cases x with
  |pan ch=>exact .inl ⟨ch,rfl,h⟩
  |_=>exact .inr ⟨rfl,h⟩
 |_=>exact .inr ⟨rfl,h⟩
theorem CC(r:AV)(f:Nat->Nat):(r.ren f).panOf=r.panOf:=by
 cases r with
 |p x=>rfl
 |_=>rfl
theorem Kf{f:FuncId}{ps:List PV}{r:PV}(hr:fX P G f ps r){o:Oper}{a:Act}{w:World}(hG:G w){vs:List Value}(he:(execOp a.eval o).run P w=(callFunc f vs.toArray).run P w){B':Nat->Prop}(hl:ps.length=vs.length)
  (hp:∀(j:Nat)(p:PV)(v:Value),ps[j]?=some p->vs[j]?=some v->cE w B' p v) {next:Act->World->Prop} {Q:Exit->Act->World->Prop}
  (hv:r.panOf=none->∀v w',Gr w w'->cE w' (fun b=>B' b\/w.heap.size<=b) r v->next (a.put o.dst v) w') (hq:∀ch w',r.panOf=some ch->Gr w w'->Q (.panic ch) a w'):o.wp P a w next Q:=by
 have hc:=hr.2 w B' vs hG hl hp;refine Cv (he.trans (hr.1 _ _)) hc (fun v w' ⟨hg,h⟩=>?_) (fun ch w' ⟨hg,h⟩=>?_) fun w' ⟨hg,h⟩=>?_
 ·rcases C1 h with⟨ch,_,e⟩|⟨h1,v',e,h2⟩
  ·cases e
  grind
 ·rcases C1 h with⟨ch',h1,e⟩|⟨h1,v',e,h2⟩
  ·grind
  ·cases e
 ·rcases C1 h with⟨ch',h1,e⟩|⟨h1,v',e,h2⟩<;>cases e
theorem D2(iJ:∀w,tR w0 w->G w)(gJ:∀b,w0.own b->B b){f:FuncId}{o:Oper}(eJ:∀t,o.dst=some t->w0.pin t=none){env:List AV}{H:AH}{K:List AV->AH->Prop}{Q:Exit->List AV->AH->Prop}{a:Act}{w:World}{next:Act->World->Prop}
  (h:uG P G f o env H K Q) (hS:St w0 B nt env H a w) (hK:∀env' H' a' w',K env' H'->St w0 B nt env' H' a' w'->next a' w'):o.wp P a w next (rT w0 B nt Q):=by
 obtain⟨hd,hn,gV,ι,hR,hE⟩:=hS;have hC:∀(H:AH)(ι:Pl),eQ w0 B w ι H->lc G w0 B w ι H:=fun H ι hR=>⟨fun w' hg=>iJ w' ⟨hg.os.trans hR.gr.os,hg.tape.trans hR.gr.tape,hg.output.trans hR.gr.output,aS hR.size hg.size,fun k hk hx=>by
  exact Sl⟩,gJ⟩
 cases h with
 |mk env2 H2 hw σ as Hc r Hc' hr hc hb hp k=>
  obtain⟨ι2,cS,ct⟩:=hw w0 B w ι a.tmps gJ hR hE;obtain⟨vs,hl,gI,dN⟩:=WX (P:=P) (a:=a) hc ct;unfold vi at hb;simp only[gH]at hb;obtain⟨⟨⟨dG,gE⟩,eg⟩,u5⟩:=hb;rw[df]at hl;have hm:=Dh cS (hC H2 ι2 cS) hr dG (iM gE) hp eg u5 hl fun j x v hx hv=>gI j _ v (by rw[CM,hx];rfl) hv
  have gh:∀w' ι' ,bQ (some (cy σ H2 Hc')) w ι2 (Rd B ι2 H2) w' ι' (Rd B ι' (zT σ H2 Hc'))->nJ w' ι' (Rd B ι' (zT σ H2 Hc')) (yO (some (cy σ H2 Hc')) env2) a.tmps:=fun w' ι' hk=>by
   have:=ct.put (a:=a) (d:=none) hk (.junk undef)
   exact this
  refine Cv (dN.trans (hr.1 _ _)) hm (fun v w' ⟨ι',lT,hk,he⟩=>?_) (fun ch w' ⟨ι',lT,hk,he⟩=>?_) fun w' ⟨ι',lT,hk,he⟩=>?_
  ·rcases zb he with⟨ch,_,e⟩|⟨h1,v',e,h2⟩
   ·cases e
   ·cases e
    rw[CC]at h1;rw[h1]at k;exact hK _ _ _ w' k ⟨by rw[iw];exact hd,by rw[ko];exact hn,ip gV eJ _,ι',lT,ct.put hk h2⟩
  ·rcases zb he with⟨ch',h1,e⟩|⟨h1,v',e,h2⟩
   ·cases e
    rw[CC]at h1;rw[h1]at k;exact⟨_,_,k,hd,hn,gV,ι',lT,gh w' ι' hk⟩
   ·cases e
  ·rcases zb he with⟨ch',h1,e⟩|⟨h1,v',e,h2⟩<;>cases e
 |mkK kp env2 H2 hw σ as Hc r Hc' hr hc hb hp k=>
  obtain⟨ι2,cS,ct⟩:=hw w0 B w ι a.tmps gJ hR hE;obtain⟨vs,hl,gI,dN⟩:=WX (P:=P) (a:=a) hc ct;unfold vi at hb;simp only[gH]at hb;obtain⟨⟨⟨dG,gE⟩,eg⟩,u5⟩:=hb;rw[df]at hl;have hm:=Zu cS (hC H2 ι2 cS) hr dG (iM gE) hp eg u5 hl fun j x v hx hv=>gI j _ v (by rw[CM,hx];rfl) hv
  have gh:∀w' ι' ,bQ (some (ke kp σ H2 Hc')) w ι2 (Rd B ι2 H2) w' ι' (Rd B ι' (il kp σ H2 Hc'))->nJ w' ι' (Rd B ι' (il kp σ H2 Hc')) (yO (some (ke kp σ H2 Hc')) env2) a.tmps:=fun w' ι' hk=>by
   have:=ct.put (a:=a) (d:=none) hk (.junk undef)
   exact this
  refine Cv (dN.trans (hr.1 _ _)) hm (fun v w' ⟨ι',lT,hk,he⟩=>?_) (fun ch w' ⟨ι',lT,hk,he⟩=>?_) fun w' ⟨ι',lT,hk,he⟩=>?_
  ·rcases zb he with⟨ch,_,e⟩|⟨h1,v',e,h2⟩
   ·cases e
   ·cases e
    rw[CC]at h1;rw[h1]at k;exact hK _ _ _ w' k ⟨by rw[iw];exact hd,by rw[ko];exact hn,ip gV eJ _,ι',lT,ct.put hk h2⟩
  ·rcases zb he with⟨ch',h1,e⟩|⟨h1,v',e,h2⟩
   ·cases e
    rw[CC]at h1;rw[h1]at k;exact⟨_,_,k,hd,hn,gV,ι',lT,gh w' ι' hk⟩
   ·cases e
  ·rcases zb he with⟨ch',h1,e⟩|⟨h1,v',e,h2⟩<;>cases e
theorem XY(hT:gY P T)(iJ:∀w,tR w0 w->G w)(gJ:∀b,w0.own b->B b){o:Oper}(eJ:∀t,o.dst=some t->w0.pin t=none){env:List AV}{H:AH}{K:List AV->AH->Prop}{Q:Exit->List AV->AH->Prop}{a:Act}{w:World}{next:Act->World->Prop}
  (h:kh P G bK T o env H K Q) (hS:St w0 B nt env H a w) (hK:∀env' H' a' w',K env' H'->St w0 B nt env' H' a' w'->next a' w'):o.wp P a w next (rT w0 B nt Q):=by
 obtain⟨hd,hn,gV,ι,hR,hE⟩:=hS;have hC:∀(H:AH)(ι:Pl),eQ w0 B w ι H->lc G w0 B w ι H:=fun H ι hR=>⟨fun w' hg=>iJ w' ⟨hg.os.trans hR.gr.os,hg.tape.trans hR.gr.tape,hg.output.trans hR.gr.output,aS hR.size hg.size,fun k hk hx=>by
  exact Sl⟩,gJ⟩
 unfold kh at h
 split at h
 ·obtain⟨x,H',sc,UY,hW⟩:=Dc hT h;have hg:=hW w0 B w ι a.eval hR (hC H ι hR) (fun y _=>hE.eval y) (fun _=>rfl)
  refine Dq hg fun v w' ⟨ι',lT,hk,hv⟩=>?_
  exact hK _ H' _ w' UY ⟨by rw[iw];exact hd,by rw[ko];exact hn,ip gV eJ _,ι',lT,hE.put hk hv⟩
 ·rename_i f ps m4;obtain⟨r,hr,h⟩:=h;have Jf:∃as,yb env o=some (f,as)/\AV.toP.toPL as=some ps:=by
   unfold IM at m4
   grind
  obtain⟨as,KM,hto⟩:=Jf;obtain⟨vs,hl,gI,dN⟩:=WX (P:=P) KM hE;have ja:=sn as ps hto;refine Kf hr (hC H ι hR).now dN (B':=Rd B ι H) (by rw[ja.1];exact hl) (fun j p v hp hv=>?_) (fun tl v w' hg hv=>?_) (fun ch w' tl hg=>?_)
  ·have hj:j<as.length:=aZ
   obtain⟨p',Ir,r4⟩:=ja.2 j as[j] (aB hj);rw[Ir]at hp;cases hp
   exact(gI j _ v (aB hj) hv).toP _ r4
  ·rw[tl]at h;refine hK _ H _ w' h ⟨by rw[iw];exact hd,by rw[ko];exact hn,ip gV eJ _,ι,hR.grow hg,?_⟩
   refine hE.put (sc:=none) (bQ.gr hg) (.p _ _ (hv.keep (nR _) fun b hb cJ=>⟨?_,rfl⟩))
   rcases hb with hb|hb
   ·exact hb
   ·exact⟨hR.fut b hb,fun iP=>by have:=hR.lt iP;omega⟩
  ·rw[tl]at h;refine⟨env,H,h,hd,hn,gV,ι,hR.grow hg,⟨hE.len,fun t x v hx hv=>(hE.at_ t x v hx hv).keep0 (bQ.gr hg)⟩⟩
 ·rename_i f as m4;have KM:yb env o=some (f,as):=by
   unfold IM at m4
   grind
  rcases h with h|h
  case inr=>exact D2 iJ gJ eJ h ⟨hd,hn,gV,ι,hR,hE⟩ hK
  obtain⟨vs,hl,gI,dN⟩:=WX (P:=P) KM hE;have pJ:=hR.regrow (B':=fun _=>True) (Gr.refl _) (fun _ _ _=>trivial) (fun _ _=>trivial)
  obtain⟨ps,⟨r,hr,h⟩,ja,AE⟩:=IA.frzL_sound pJ.1 (fun _ _=>trivial) as vs _ hl (fun j x v hx hv=>(gI j x v hx hv).keep0 pJ.2) h
  refine Kf hr (hC H ι hR).now dN (B':=fun _=>True) oM AE (fun tl v w' hg hv=>?_) (fun ch w' tl hg=>?_)
  ·rw[tl]at h;simp only at h
   split at h
   ·rename_i hfl;refine hK _ H _ w' h ⟨by rw[iw];exact hd,by rw[ko];exact hn,ip gV eJ _,ι,hR.grow hg,?_⟩
    exact hE.put (sc:=none) (bQ.gr hg) (.p _ _ (hv.free hfl))
   ·cases h
  ·rw[tl]at h;refine⟨env,H,h,hd,hn,gV,ι,hR.grow hg,⟨hE.len,fun t x v hx hv=>(hE.at_ t x v hx hv).keep0 (bQ.gr hg)⟩⟩
 ·exact D2 iJ gJ eJ h ⟨hd,hn,gV,ι,hR,hE⟩ hK
 ·rename_i pv m4;have hx:∃x t v,o.op=.panic x/\bO env x=.p (.v (.iface t v))/\pv=.iface t v:=by
   unfold IM at m4
   grind
  obtain⟨x,t,v,ho,e,rfl⟩:=hx;have hv:=hE.eval x;rw[e]at hv;have dN:(execOp a.eval o).run P w=.halt (.panic (.iface t v)) w:=by
   simp[execOp,ho,jS hv,Instr.panic,goPanic,Sem.run]
  unfold Oper.wp;rw[dN,Oper.upon_panic];exact⟨env,H,h,hd,hn,gV,ι,hR,hE⟩
theorem zc(hT:gY P T)(iJ:∀w,tR w0 w->G w)(gJ:∀b,w0.own b->B b){all:List Oper}{Q:Exit->List AV->AH->Prop}:∀(os:List Oper),(∀o∈os,∀t,o.dst=some t->w0.pin t=none)->∀(env:List AV)(H:AH)(a:Act)(w:World),vO P G bK T all Q os env H->St w0 B nt env H a w->wpList P all.toArray (rT w0 B nt Q) os a w
 |[],_,env,H,a,w,h,hS=>⟨env,H,h,hS⟩
 |o::os,jd,env,H,a,w,h,hS=>by
  have eJ:=jd o jT
  have gj:∀o∈os,∀t,o.dst=some t->w0.pin t=none:=fun x hx=>jd x (by simp[hx])
  have run:kh P G bK T o env H (fun env' H'=>vO P G bK T all Q os env' H') Q->o.wp P a w (wpList P all.toArray (rT w0 B nt Q) os) (rT w0 B nt Q):=fun h=>
   XY hT iJ gJ eJ h hS fun env' H' a' w' hK sN=>zc hT iJ gJ os gj env' H' a' w' hK sN
  obtain⟨hd,hn,gV,ι,hR,hE⟩:=hS;unfold vO at h;unfold wpList
  split at h
  ·rename_i hg;rw[aF JQ]
   exact .inl (run h)
  ·rename_i j want hg
   split at h
   ·rename_i b hb;have hy:=Cz hb hE;rw[MN]
    split at h
    ·exact Rs
    ·rename_i ht;rw[aE Gp]
     refine zc hT iJ gJ os gj _ H _ w h ⟨by rw[iw];exact hd,by rw[ko];exact hn,ip gV eJ _,ι,hR,?_⟩
     exact Hf
   ·cases h
end
def yr(w:World)(ι:Pl)(R:Nat->Prop)(cs:List AV)(arr:Array Value):Prop:=arr.size=cs.length/\∀(j:Nat)(a:AV),cs[j]?=some a->∃v,arr[j]?=some v/\v.oneCell'=true/\dD w ι R a v
theorem yr.keep0{w w':World}{ι ι':Pl}{R R':Nat->Prop}(hk:bQ none w ι R w' ι' R'){cs:List AV}{arr:Array Value}(h:yr w ι R cs arr):yr w' ι' R' cs arr:=
 ⟨h.1,fun j a ha=>let⟨v,h1,h2,h3⟩:=h.2 j a ha;⟨v,h1,h2,h3.keep0 hk⟩⟩
structure MK where
 t:TypeId
 cs:List AV
 rows:Option (Nat×Nat×List (List PV))
def MK.val(m:MK)(c:Nat):Value:=match m.rows with
 |none=>.pointer (some ⟨c,0,none⟩)
 |some (_,len,_)=>.slice (some ⟨c,0,none⟩) len len
def MK.av(m:MK)(k:Nat):AV:=match m.rows with
 |none=>.own k 0
 |some (_,len,_)=>.osl k 0 len
def MK.blk(m:MK)(cs:List AV):cH:=match m.rows with
 |none=>.box cs m.t none
 |some (s,_,rs)=>.rows s rs m.t
def MK.shape(m:MK)(n:Nat):Nat×Nat:=match m.rows with
 |none=>(0,0)
 |some (s,_,_)=>(s,n)
def MK.Ok(m:MK)(cs:List AV):Prop:=∀s len rs,m.rows=some (s,len,rs)->cs=m.cs/\yh s len m.cs=some rs/\0<s/\m.cs.length=len*s/\len<=maxLen
def kw(T:TT)(e:List AV)(o:Oper):Option MK:=match o.op with
 | .alloc t=>(match T t with
  |some i=>if i.zero.cells.toList.all (·.oneCell')=true then some ⟨t,i.zero.cells.toList.map fun x=>.p (.v x),none⟩else none
  |none=>none)
 | .box t x=>if uw (bO e x)=true then some ⟨t,qM (bO e x),none⟩else none
 | .buildSlice t len parts=>(match T t with
  |some ti=>(match ti.desc with
   | .slice el=>(match T el with
    |some te=>if 0<te.size/\len*te.size<=16777216 then(match fi (fun i=>some (i*te.size,te.size)) ((List.range (len*te.size)).map fun m=>.p (.v (te.zero.cells[m%te.zero.cells.size]!))) (parts.toList.map fun(n,x)=>(n,bO e x))with
     |some cs=>(match cs.all yM,yh te.size len cs with
      |true,some rs=>some ⟨el,cs,some (te.size,len,rs)⟩
      |_,_=>none)
     |none=>none)else none
    |none=>none)
   |_=>none)
  |none=>none)
 |_=>none
theorem L4{s:Nat}:∀(parts:List (Nat×AV))(cells cs':List AV),fi (fun i=>some (i*s,s)) cells parts=some cs'->cs'.length=cells.length
 |[],cells,cs',h=>by simp[fi]at h;rw[h]
 |(n,a)::ps,cells,cs',h=>by
  unfold fi at h;simp only at h
  split at h
  ·rw[L4 ps _ _ h,HV oM]
  ·cases h
theorem z0z{n s:Nat}(h:0<s)(h2:n*s<=16777216):n<=maxLen:=by
 have:n*1<=n*s:=Nat.mul_le_mul_left _ h
 unfold maxLen;omega
theorem O1{T:TT}{o:Oper}{e:List AV}{m:MK}(h:kw T e o=some m):m.Ok m.cs:=by
 unfold kw at h
 split at h
 ·split at h
  ·split at h
   ·cases h;exact fun s len rs e=>by cases e
   ·cases h
  ·cases h
 ·split at h
  ·cases h;exact fun s len rs e=>by cases e
  ·cases h
 ·split at h
  ·split at h
   ·split at h
    ·split at h
     ·rename_i yY
      split at h
      ·rename_i cs dB
       split at h
       ·rename_i rs oS dQ
        cases h
        intro s len' rs' e;obtain⟨rfl,rfl,rfl⟩:=e;refine⟨rfl,dQ,yY.1,by rw[L4 _ _ _ dB];simp,?_⟩
        exact z0z yY.1 yY.2
       ·cases h
      ·cases h
     ·cases h
    ·cases h
   ·cases h
  ·cases h
 ·cases h
theorem O2{P:Program}{T:TT}(hT:gY P T){o:Oper}{e:List AV}{m:MK}(h:kw T e o=some m){w:World}{ι:Pl}{R:Nat->Prop}{ρ:Operand->Value}(hρ:∀x,x∈o.op.operands->dD w ι R (bO e x) (ρ x)):
  ∃arr,(execOp ρ o).run P w=.ok (.value (m.val w.heap.size)) (w.alloc (.cells arr m.t))/\yr w ι R m.cs arr:=by
 unfold kw at h
 split at h
 ·rename_i t ho
  split at h
  ·rename_i i ht
   split at h
   ·rename_i oS
    cases h
    refine⟨i.zero.cells,?_,by simp,fun j a ha=>?_⟩
    ·simp only[execOp,ho,Instr.alloc,Sem.run_bind,KZ hT ht,Result.andThen_ok,newVar,newRow,vf,Sem.run_pure,MK.val]
    ·rw[aH]at ha
     cases hz:i.zero.cells.toList[j]? with
     |none=>rw[hz]at ha;cases ha
     |some z=>
      rw[hz]at ha;cases ha
      exact⟨z,by simpa using hz,aR.1 oS z (aJ hz),.p _ _ (.v _)⟩
   ·cases h
  ·cases h
 ·rename_i t x ho
  split at h
  ·rename_i cU
   cases h
   have hc:=MQ (hρ x oF) cU
   refine⟨(ρ x).cells,?_,hc.1.symm,hc.2⟩;simp only[execOp,ho,Instr.box,Sem.run_bind,Result.andThen_ok,newVar,newRow,vf,Sem.run_pure,MK.val]
  ·cases h
 ·rename_i t len parts ho
  split at h
  ·rename_i ti ht
   split at h
   ·rename_i el hd
    split at h
    ·rename_i te he
     split at h
     ·rename_i yY
      split at h
      ·rename_i cs dB
       split at h
       ·rename_i rs oS dQ
        cases h
        have oQ:∀(n:Nat)(x:Operand),(n,x)∈parts.toList->dD w ι R (bO e x) (ρ x):=fun n x hx=>hρ x (by
         rw[ho];simp only[Op.operands,List.mem_toArray,iB]
         grind)
        have vY:∀l:List (Nat×Operand),(∀n x,(n,x)∈l->dD w ι R (bO e x) (ρ x))->LO w ι R (l.map fun(n,x)=>(n,bO e x)) (l.map fun(n,x)=>(n,ρ x)):=by
         exact Ho
        obtain⟨arr',h1,h2,h3⟩:=XW (w:=w) (ι:=ι) (R:=R) _ _ _ cs ((Array.range (len*te.size)).map (te.zero.cells[· % te.zero.cells.size]!)) (vY parts.toList oQ) dB jT (fun j a ha=>by
         exact Sv)
        refine⟨arr',?_,h2.symm,fun j a ha=>?_⟩
        ·have e1:(parts.map fun(p:Nat×Operand)=>(p.1,ρ p.2)).toList=parts.toList.map fun(n,x)=>(n,ρ x):=jT
         have qd:¬(len*te.size>2 ^ 24):=by
          omega
         simp only[execOp,ho,Instr.buildSlice,Sem.run_bind,pV hT ht,Result.andThen_ok,hd,rp hT he,qd,bT];rw[show(parts.map fun x=>match x with|(i,x)=>(i,ρ x))=parts.map fun(p:Nat×Operand)=>(p.1,ρ p.2)from rfl,e1]
         by_cases h0:len*te.size=0
         ·have e3:((Array.range (len*te.size)).map fun x=>(#[]:Array Value)[x%(#[]:Array Value).size]!)=(Array.range (len*te.size)).map (te.zero.cells[· % te.zero.cells.size]!):=by rw[h0];simp
          rw[aF h0];simp only[Sem.run_pure,Result.andThen_ok,Sem.run_bind,e3,h1,newRow,vf,MK.val]
         ·rw[aE h0];simp only[Sem.run_pure,Result.andThen_ok,Sem.run_bind,KZ hT he,h1,newRow,vf,MK.val]
        ·obtain⟨u,hu,hr⟩:=h3 j a ha;exact⟨u,hu,Bq hr (aR.1 oS a (aJ ha)),hr⟩
       ·cases h
      ·cases h
     ·cases h
    ·cases h
   ·cases h
  ·cases h
 ·cases h
theorem eQ.poke{w0:cF}{B:Nat->Prop}{w:World}{ι:Pl}{H:AH}(h:eQ w0 B w ι H){c:Nat}(qJ:w0.own c)(mM:¬iV ι H c)(TN:¬B c){w':World}
  (jd:w'.os=w.os) (pq:w'.tape=w.tape) (nL:w'.output=w.output) (dM:w'.heap.size=w.heap.size) (gi:∀d,d≠c->w'.heap[d]?=w.heap[d]?):eQ w0 B w' ι H/\bQ none w ι (Rd B ι H) w' ι (Rd B ι H):=by
 have hk:bQ none w ι (Rd B ι H) w' ι (Rd B ι H):=⟨by omega,fun d hd _=>⟨hd,gi d fun e=>TN (e ▸ hd.1)⟩,fun _ _ _ _ h=>h⟩
 refine⟨⟨⟨jd.trans h.gr.os,pq.trans h.gr.tape,nL.trans h.gr.output,by have:=h.size;omega,fun d hd hx=>?_⟩,fun b hb=>h.fut b oM,h.len,fun k b c1 s h1 h2=>⟨(h.blk k b c1 s h1 h2).1,(h.blk k b c1 s h1 h2).2.keep0 hk fun c' e=>?_⟩,h.inj⟩,hk⟩
 ·rw[gi d (fun e=>by subst e;rcases qJ with h1|h1<;>first|exact hx h1|omega)];exact h.gr.block d hd hx
 ·subst e;exact gi c' fun e=>mM (e ▸ ⟨k,b,s,h1,h2⟩)
theorem eQ.adopt{w0:cF}{B B':Nat->Prop}{w:World}{ι:Pl}{H:AH}(h:eQ w0 B w ι H){c:Nat}{arr:Array Value}{m:MK}{cs:List AV}(hc:w.heap[c]?=some (.cells arr m.t (0,0)))(qJ:w0.own c)(mM:¬iV ι H c)(TN:¬B c)
  (hB:∀b,B b->B' b) (zF:yr w ι (Rd B ι H) cs arr) (hmo:m.Ok cs):
  eQ w0 B' w (ι++[(some c,m.shape arr.size)]) (H++[some (m.blk cs)])/\bQ none w ι (Rd B ι H) w (ι++[(some c,m.shape arr.size)]) (Rd B' (ι++[(some c,m.shape arr.size)]) (H++[some (m.blk cs)])):=by
 have iP:∀d,iV (ι++[(some c,m.shape arr.size)]) (H++[some (m.blk cs)]) d->iV ι H d\/d=c:=by
  rintro d ⟨k,b',s',h1,h2⟩
  exact Sw
 have hk:bQ none w ι (Rd B ι H) w (ι++[(some c,m.shape arr.size)]) (Rd B' (ι++[(some c,m.shape arr.size)]) (H++[some (m.blk cs)])):=
  ⟨nR _,fun d hd cJ=>⟨⟨hB d hd.1,fun ho=>by
   rcases iP d ho with ho|ho
   ·exact hd.2 ho
   ·subst ho;exact TN hd.1⟩,rfl⟩,fun k c s _ hx=>XZ hx⟩
 refine⟨⟨h.gr,fun b hb=>hB b (h.fut b hb),by simp[h.len],fun k b' d s' g1 g2=>?_,fun k l b1 b2 d s1 s2 g1 g2 g3 g4=>?_⟩,hk⟩
 ·rcases rN g1 with⟨hl,g1⟩|⟨rfl,e⟩
  ·rcases rN g2 with⟨nM,g2⟩|⟨e,_⟩
   ·exact⟨(h.blk k b' d s' g1 g2).1,(h.blk k b' d s' g1 g2).2.keep0 hk fun c' e=>rfl⟩
   ·rw[h.len]at e;omega
  ·rw[<-h.len,dg]at g2
   cases g2
   cases e
   refine⟨fun c' e=>by cases e;exact qJ,?_⟩
   have xt:=zF.keep0 hk;unfold MK.blk MK.shape at *
   cases hr:m.rows with
   |none=>
    simp only[hr]at xt ⊢;exact⟨⟨rfl,fun n e=>by cases e⟩,c,arr,rfl,hc,zF.1,xt.2⟩
   |some x=>
    obtain⟨s,len,rs⟩:=x;obtain⟨rfl,ay,hs,hl,_⟩:=hmo s len rs hr;simp only[hr]at xt ⊢;have hg:=XN s len m.cs rs ay hl;refine⟨rfl,fun i row cM=>(hg.2 i row cM).1,.inr ⟨c,arr,rfl,hc,rfl,fun i j row a cM ha=>?_⟩⟩
    obtain⟨x,hx,Ic⟩:=(hg.2 i row cM).2 j a ha;obtain⟨v,hv,h1,h2⟩:=xt.2 _ x hx;exact⟨v,hv,h1,h2.toP _ Ic⟩
 ·rcases rN g1 with⟨hl,g1⟩|⟨rfl,e⟩
  ·rcases rN g3 with⟨_,g3⟩|⟨e,_⟩
   ·rcases rN g2 with⟨tW,g2⟩|⟨rfl,e⟩
    ·rcases rN g4 with⟨_,g4⟩|⟨e,_⟩
     ·exact h.inj k l b1 b2 d s1 s2 g1 g2 g3 g4
     ·rw[h.len]at e;omega
    ·rw[<-h.len,dg]at g4
     cases g4
     exact absurd ⟨k,b1,s1,g1,g3⟩ mM
   ·rw[h.len]at e;omega
  ·rw[<-h.len,dg]at g3
   cases g3
   rcases rN g2 with⟨tW,g2⟩|⟨rfl,e⟩
   ·rcases rN g4 with⟨_,g4⟩|⟨e,_⟩
    ·exact absurd ⟨l,b2,s2,g2,g4⟩ mM
    ·rw[h.len]at e;omega
   ·rfl
def Ep(all:List Oper)(o:Oper):Bool:=match o.op,o.dst with
 | .buildSlice _ _ _,some d=>all.any fun o'=>(match o'.op with
  | .indexAddr _ (.tmp t) _=>Nat.beq t d
  | .call c=>(match c.callee with
   | .value _=>c.args.toList.any fun x=>(match x with
    | .tmp t=>Nat.beq t d
    |_=>false)
   |_=>false)
  |_=>false)
 |_,_=>false
def oL(all:List Oper)(o:Oper):Bool:=match o.op with
 | .alloc _=>true
 | .box _ _=>true
 | .buildSlice _ _ _=>!Ep all o
 |_=>false
def fc(o:Oper):Bool:=match o.op with
 | .store _ _ _=>true
 |_=>false
theorem Oy{all:List Oper}{o:Oper}(h:oL all o=true):fc o=false:=by
 unfold oL at h;unfold fc
 split at h<;>simp_all
def HJ(T:TT)(o:Oper)(env:List AV)(K:AV->Prop):Prop:=match o.guard,kw T env o with
 |none,some m=>(match m.rows with
  |some (s,_,rs)=>K (.p (.ro s rs))
  |none=>False)
 |_,_=>False
theorem Ds{P:Program}{G:World->Prop}{T:TT}(hT:gY P T){o:Oper}{env:List AV}{H:AH}{K:AV->Prop}(h:HJ T o env K):o.guard=none/\∃a,K a/\QS P G o env H a:=by
 unfold HJ at h
 split at h
 ·rename_i m hg hm
  split at h
  ·rename_i s len rs hr;refine⟨hg,_,h,fun w0 B w ι ρ hR _ hρ _=>?_⟩
   obtain⟨arr,dN,zF⟩:=O2 (P:=P) hT hm hρ;rw[dN];have cU:=O1 hm;obtain⟨_,ay,hs,hl,pO⟩:=cU s len rs hr;have uX:Gr w (w.alloc (.cells arr m.t)):=(Below.refl _ w).alloc (nR _) _;refine⟨uX,.p _ _ ?_⟩;have oV:=XN s len m.cs rs ay hl;have xQ:(w.alloc (.cells arr m.t)).heap[w.heap.size]?=some (.cells arr m.t (0,0)):=heap_alloc_new w _;have TL:Rd B ι H w.heap.size:=⟨hR.fut _ (nR _),fun ho=>by have:=hR.lt ho;omega⟩
   have gC:∀(i j:Nat)(row:List PV)(a:PV),rs[i]?=some row->row[j]?=some a->∃v,arr[i*s+j]?=some v/\v.oneCell'=true/\cE w (Rd B ι H) a v:=fun i j row a cM ha=>by
    obtain⟨x,hx,Ic⟩:=(oV.2 i row cM).2 j a ha;obtain⟨v,hv,h1,h2⟩:=zF.2 _ x hx;exact⟨v,hv,h1,h2.toP _ Ic⟩
   have hlen:rs.length=len:=oV.1;have hv:m.val w.heap.size=.slice (some ⟨w.heap.size,0,none⟩) len len:=by unfold MK.val;rw[hr]
   rw[hv,<- hlen];have iH:bQ none w ι (Rd B ι H) (w.alloc (.cells arr m.t)) ι (Rd B ι H):=bQ.gr uX;exact cE.ro (w:=w.alloc (.cells arr m.t)) (R:=Rd B ι H) s rs w.heap.size 0 rs.length (fun i j=>(arr[i*s+j]?).getD undef) TL (md xQ) (nR _) (fun i row cM=>(oV.2 i row cM).1)
    (fun i j row a cM ha=>by
     obtain⟨v,hv,h1,h2⟩:=gC i j row a cM ha;simp_all)
    (fun i j row a cM ha=>by
     obtain⟨v,hv,h1,h2⟩:=gC i j row a cM ha;simp only[hv,jE];exact h2.keep iH.size iH.read)
  ·cases h
 ·cases h
def zi:Nat->List Oper->Nat->Tmp->Option (Nat×TypeId×Operand)
 |0,_,_,_=>none
 |_+1,[],_,_=>none
 |n+1,o::os,i,d=>match o.op with
  | .store t (.tmp d') y=>(match Nat.beq d' d with
   |true=>some (i,t,y)
   |false=>zi n os (i+1) d)
  |_=>zi n os (i+1) d
def m8(all:List Oper)(k:Nat)(d:Tmp):Option (Nat×TypeId×Operand):=zi k all 0 d
theorem Ki{all:List Oper}{d s:Nat}{t:TypeId}{y:Operand}:∀(n m:Nat),zi n (all.drop m) m d=some (s,t,y)->s<m+n/\∃o,all[s]?=some o/\o.op=.store t (.tmp d) y
 |0,m,h=>by simp[zi]at h
 |n+1,m,h=>by
  cases hd:all.drop m with
  |nil=>rw[hd]at h;simp[zi]at h
  |cons o os=>
   rw[hd]at h;have pO:m<all.length:=by
    rcases bB m all.length with h'|h'
    ·exact h'
    ·rw[vM h']at hd;cases hd
   have jd:os=all.drop (m+1)/\all[m]?=some o:=by
    rw[cQ pO]at hd
    grind
   have again:zi n os (m+1) d=some (s,t,y)->s<m+(n+1)/\∃o,all[s]?=some o/\o.op=.store t (.tmp d) y:=fun h=>by
    rw[jd.1]at h;obtain⟨h1,h2⟩:=Ki n (m+1) h
    grind
   unfold zi at h
   split at h
   ·rename_i t' d' y' nT
    split at h
    ·simp_all
    ·exact again h
   ·exact again h
theorem LX{all:List Oper}{k d s:Nat}{t:TypeId}{y:Operand}(h:m8 all k d=some (s,t,y)):s<k/\∃o,all[s]?=some o/\o.op=.store t (.tmp d) y:=by
 have:=Ki (all:=all) k 0 (by simpa [m8]using h)
 exact pc
def zg(T:TT)(all:List Oper)(k:Nat)(e:List AV)(o:Oper)(m:MK):Option (List AV):=match o.dst.bind (m8 all k)with
 |none=>some m.cs
 |some (_,t,y)=>(match o.op,T t with
  | .alloc _,some i=>if uw (bO e y)=true/\(qM (bO e y)).length=i.size/\i.size=m.cs.length then some (qM (bO e y))else none
  |_,_=>none)
def nk(P:Program)(G:World->Prop)(E:SO)(T:TT)(all:List Oper)(H:AH):Nat->List Oper->List AV->(List AV->Prop)->Prop
 |0,_,env,K=>K env
 |_+1,[],env,K=>K env
 |n+1,o::os,env,K=>if(oL all o||fc o)=true then nk P G E T all H n os (rH env o.dst .junk) K else if Ep all o=true then HJ T o env fun a=>nk P G E T all H n os (rH env o.dst a) K else(match o.guard with
  |none=>aq P G E T o env H fun a=>nk P G E T all H n os (rH env o.dst a) K
  |some (j,want)=>(match CY all env j with
   |some b=>(match yf want b with
    |true=>aq P G E T o env H fun a=>nk P G E T all H n os (rH env o.dst a) K
    |false=>nk P G E T all H n os (rH env o.dst (.p (.v undef))) K)
   |none=>False))
def uu(T:TT)(all:List Oper)(k:Nat)(e:List AV):Nat->List Oper->List AV->AH->(List AV->AH->Prop)->Prop
 |0,_,env,H,K=>K env H
 |_+1,[],env,H,K=>K env H
 |n+1,o::os,env,H,K=>if oL all o=true then(match kw T e o,o.dst with
  |some m,some d=>(match zg T all k e o m with
   |some cs=>uu T all k e n os (env.set d (m.av H.length)) (H++[some (m.blk cs)]) K
   |none=>False)
  |_,_=>False)else uu T all k e n os env H K
def YF(ops:List Oper)(k:Nat)(t:Tmp):Bool:=(List.range k).all fun j=>(ops[j]?).bind (·.dst) != some t
theorem HS{ops:List Oper}{k:Nat}{t:Tmp}(h:YF ops k t=true){j:Nat}(hj:j<k):(ops[j]?).bind (·.dst)≠some t:=by
 unfold YF at h;simpa using aR.1 h j (cC.2 hj)
def DA(ops:List Oper)(k i:Nat)(o:Oper):Bool:=
 (o.op.operands.all fun x=>match x with
  | .tmp t=>YF ops k t||(jG ops.toArray i).any fun d=>(ops[d]?).bind (·.dst)==some t
  |_=>true) &&
 (match o.guard with
  |none=>true
  |some (j,_)=>(jG ops.toArray i).contains j&&((ops[j]?).bind (·.dst)).isSome) &&
 (!oL ops o||(o.guard.isNone&&o.dst.isSome)) &&
 (!fc o||(o.guard.isNone&&o.dst.isNone&&(match o.op with
  | .store _ (.tmp d) _=>((m8 ops k d).map (·.1)==some i)&&(jG ops.toArray i).any fun j=>(match ops[j]? with
   |some oj=>oL ops oj&&oj.dst==some d
   |none=>false)
  |_=>false)))
def WT(nt:Nat)(ops:List Oper)(k:Nat):Bool:=
 ov ops.toArray k 8&&decide (k<=ops.length)&&(ops.all fun o=>match o.dst with
  |some t=>decide (t<nt)
  |none=>true)&&(List.range k).all fun i=>match ops[i]? with
  |some o=>DA ops k i o
  |none=>true
def iG(all:List Oper)(avs:Nat->AV)(m:Nat):Nat->List AV->List AV
 |0,env=>env
 |q+1,env=>rH (iG all avs m q env) ((all[m+q]?).bind (·.dst)) (avs (m+q))
theorem MM(all:List Oper)(avs:Nat->AV)(m:Nat):∀(q:Nat)(env:List AV),iG all avs m (q+1) env=iG all avs (m+1) q (rH env ((all[m]?).bind (·.dst)) (avs m))
 |0,env=>rfl
 |q+1,env=>by
  rw[iG,MM all avs m q env,iG]
  grind
theorem Dv{all:List Oper}{avs avs':Nat->AV}{m:Nat}:∀(q:Nat)(env:List AV),(∀i,m<=i->i<m+q->avs i=avs' i)->iG all avs m q env=iG all avs' m q env
 |0,_,_=>rfl
 |q+1,env,h=>by
  rw[iG,iG,Dv q env fun i h1 h2=>h i h1 oM,h (m+q) oM oM]
theorem CL(all:List Oper)(avs:Nat->AV)(m:Nat):∀(q:Nat)(env:List AV),(iG all avs m q env).length=env.length
 |0,_=>rfl
 |q+1,env=>by
  rw[iG]
  have:=CL all avs m q env
  cases(all[m+q]?).bind (·.dst)<;>simp[rH,this]
theorem II{all:List Oper}{avs:Nat->AV}{t:Nat}:∀(q:Nat)(env:List AV),(∀i,i<q->(all[i]?).bind (·.dst)≠some t)->(iG all avs 0 q env)[t]?=env[t]?
 |0,_,_=>rfl
 |q+1,env,h=>by
  rw[iG];have ih:=II (avs:=avs) q env fun i hi=>h i oM
  have h0:=h q oM
  rw[cB]
  cases hd:(all[q]?).bind (·.dst)with
  |none=>exact ih
  |some s=>
   simp only[rH]
   grind
theorem CH{all:List Oper}{avs:Nat->AV}{t d:Nat}(hd:(all[d]?).bind (·.dst)=some t):∀(q:Nat)(env:List AV),d<q->t<env.length->(∀i,i<q->i≠d->(all[i]?).bind (·.dst)≠some t)->(iG all avs 0 q env)[t]?=some (avs d)
 |0,_,h,_,_=>by omega
 |q+1,env,h,hl,hu=>by
  rw[iG,cB]
  by_cases e:d=q
  ·subst e;rw[hd];simp only[rH];rw[mD (by rw[CL];exact hl)]
  ·have ih:=CH (avs:=avs) hd q env oM hl fun i hi=>hu i oM
   have h0:=hu q oM (fun e'=>e e'.symm)
   cases hq:(all[q]?).bind (·.dst)with
   |none=>exact ih
   |some s=>
    simp only[rH]
    grind
section
variable{P:Program}{G:World->Prop}{T:TT}
def I0(P:Program)(G:World->Prop)(all:List Oper)(H:AH)(o:Oper)(env:List AV)(x:AV):Prop:=
 ((oL all o||fc o)=true/\x=.junk)\/((oL all o||fc o)=false/\((o.guard=none/\QS P G o env H x)\/∃j want b,o.guard=some (j,want)/\CY all env j=some b/\((b=some want/\QS P G o env H x)\/(b≠some want/\x=.p (.v undef)))))
theorem L3(hT:gY P T){all:List Oper}{H:AH}:∀(n m:Nat)(env:List AV)(K:List AV->Prop),m+n<=all.length->nk P G bK T all H n (all.drop m) env K →
  ∃avs:Nat->AV,K (iG all avs m n env)/\∀q o,q<n->all[m+q]?=some o->I0 P G all H o (iG all avs m q env) (avs (m+q))
 |0,m,env,K,_,h=>⟨fun _=>.junk,h,fun q o hq _=>by omega⟩
 |n+1,m,env,K,hle,h=>by
  have hm:m<all.length:=dU
  rw[cQ hm]at h;have ho:all[m]?=some all[m]:=aB hm;have go:∀x:AV,I0 P G all H all[m] env x->nk P G bK T all H n (all.drop (m+1)) (rH env all[m].dst x) K->∃avs:Nat->AV,K (iG all avs m (n+1) env)/\∀q o,q<n+1->all[m+q]?=some o->I0 P G all H o (iG all avs m q env) (avs (m+q)):=by
   intro x hx h;obtain⟨avs,hK,hF⟩:=L3 hT n (m+1) _ K oM h
   have hc:∀q env,iG all (fun i=>if i=m then x else avs i) (m+1) q env=iG all avs (m+1) q env:=fun q env=>Dv q env fun i h1 _=>by rw[aE oM]
   refine⟨fun i=>if i=m then x else avs i,?_,fun q o hq SX=>?_⟩
   ·rw[MM,hc,ho];simpa using hK
   ·cases q with
    |zero=>
     rw[jt,ho]at SX
     cases SX
     simpa [iG]using hx
    |succ q=>
     have:=hF q o oM aZ
     rw[MM,hc,ho]
     grind
  unfold nk at h
  split at h
  ·rename_i iU;exact go .junk (.inl ⟨iU,rfl⟩) h
  ·rename_i iU;have xx:(oL all all[m]||fc all[m])=false:=by simpa using iU
   split at h
   ·obtain⟨hg,x,hK,hq⟩:=Ds (P:=P) (G:=G) (H:=H) hT h;exact go x (.inr ⟨xx,.inl ⟨hg,hq⟩⟩) hK
   split at h
   ·rename_i hg;obtain⟨x,hK,hq⟩:=WJ hT h;exact go x (.inr ⟨xx,.inl ⟨hg,hq⟩⟩) hK
   ·rename_i j want hg
    split at h
    ·rename_i b hb
     split at h
     ·rename_i ht;obtain⟨x,hK,hq⟩:=WJ hT h;exact go x (.inr ⟨xx,.inr ⟨j,want,b,hg,hb,.inl ⟨Dg ht,hq⟩⟩⟩) hK
     ·rename_i ht;exact go _ (.inr ⟨xx,.inr ⟨j,want,b,hg,hb,.inr ⟨Nq ht,rfl⟩⟩⟩) h
    ·cases h
end
section
variable{P:Program}{G:World->Prop}{T:TT}{w0:cF}{B:Nat->Prop}{nt:Nat}
def LA(all:List Oper)(k:Nat)(listed:Array Bool)(i:Nat):Prop:=i<k/\listed.getD i false=true/\∃o,all[i]?=some o/\oL all o=true
def BX(all:List Oper)(k:Nat)(B:Nat->Prop)(c:Nat->Nat)(listed:Array Bool)(b:Nat):Prop:=B b/\∀i,LA all k listed i->b≠c i
def fb(all:List Oper)(k:Nat)(e:List AV)(listed:Array Bool)(o:Oper)(m:MK):List AV:=match o.dst.bind (m8 all k)with
 |none=>m.cs
 |some (s,_,y)=>(match listed.getD s false with
  |true=>qM (bO e y)
  |false=>m.cs)
structure JS(T:TT)(all:List Oper)(k:Nat)(w0:cF)(B:Nat->Prop)(ws:Nat)(ι:Pl)(H:AH)(env0:List AV)(avs:Nat->AV)(e1:List AV)(c:Nat->Nat)(listed:Array Bool)(a:Act)(w:World):Prop where
 defers:a.defers=w0.ds
 size:a.tmps.size=env0.length
 pin:∀t v,w0.pin t=some v->a.tmps[t]?=some v
 grow:ws<=w.heap.size
 rel:eQ w0 (BX all k B c listed) w ι H
 made:∀(i:Nat)(o:Oper)(m:MK),LA all k listed i->all[i]?=some o->kw T e1 o=some m->ws<=c i/\(∃arr,w.heap[c i]?=some (.cells arr m.t (0,0))/\yr w ι (Rd (BX all k B c listed) ι H) (fb all k e1 listed o m) arr)/\∀d,o.dst=some d->a.eval (.tmp d)=m.val (c i)
 inj:∀i j,LA all k listed i->LA all k listed j->c i=c j->i=j
 closed:∀i,listed.getD i false=true->∀d∈jG all.toArray i,listed.getD d false=true
 vals:∀(i:Nat)(o:Oper)(t:Tmp),all[i]?=some o->i<k->listed.getD i false=true->oL all o=false->o.dst=some t->dD w ι (Rd (BX all k B c listed) ι H) (avs i) (a.eval (.tmp t))
 rest:∀(t:Tmp),(∀(i:Nat)(o:Oper),all[i]?=some o->i<k->listed.getD i false=true->o.dst≠some t)->dD w ι (Rd (BX all k B c listed) ι H) (bO env0 (.tmp t)) (a.eval (.tmp t))
theorem Dr{all:List Oper}{k:Nat}{e:List AV}{K:List AV->AH->Prop}:∀(n:Nat)(os:List Oper)(env:List AV)(H:AH),uu T all k e n os env H K->∀(i:Nat)(o:Oper),i<n->os[i]?=some o->oL all o=true->∃m cs d,kw T e o=some m/\zg T all k e o m=some cs/\o.dst=some d
 |0,_,_,_,_,i,_,h,_,_=>by omega
 |_+1,[],_,_,_,i,o,_,h,_=>by simp at h
 |n+1,o::os,env,H,h,i,o',hi,ho,iU=>by
  unfold uu at h
  cases i with
  |zero=>
   simp at ho;subst ho;rw[aF iU]at h
   split at h
   ·rename_i m d hm hd
    split at h
    ·rename_i cs dB;exact⟨m,cs,d,hm,dB,hd⟩
    ·cases h
   ·cases h
  |succ i=>
   have KE:os[i]?=some o':=RC
   split at h
   ·split at h
    ·split at h
     ·exact Dr n os _ _ h i o' oM KE iU
     ·cases h
    ·cases h
   ·exact Dr n os _ _ h i o' oM KE iU
theorem z30{all:List Oper}{k:Nat}{e:List AV}{o:Oper}{m:MK}{cs:List AV}(hm:kw T e o=some m)(h:zg T all k e o m=some cs)(cU:m.Ok m.cs):m.Ok cs:=by
 unfold zg at h
 split at h
 ·cases h;exact cU
 ·split at h
  ·rename_i t nT _
   split at h
   ·intro s len rs hr;unfold kw at hm;rw[nT]at hm;simp only at hm
    split at hm
    ·split at hm
     ·cases hm;cases hr
     ·cases hm
    ·cases hm
   ·cases h
  ·cases h
theorem MJ{a:Act}{d:Tmp}{v:Value}(h:d<a.tmps.size):(a.put (some d) v).eval (.tmp d)=v:=by simp[Act.eval,Act.put,h]
theorem mf{a:Act}{d:Option Tmp}{t:Tmp}{v:Value}(h:d≠some t):(a.put d v).eval (.tmp t)=a.eval (.tmp t):=by
 cases d with
 |none=>rfl
 |some s=>
  have eA:s≠t:=fun e=>h (by rw[e])
  simp only[Act.eval,Act.put,fH];rw[mR eA]
theorem vb{all:List Oper}{k:Nat}{listed:Array Bool}{i x:Nat}(h:LA all k (listed.setIfInBounds i true) x)(eA:x≠i):LA all k listed x:=⟨h.1,by have:=h.2.1;rw[getD_set_ne false (iQ eA)]at this;exact this,h.2.2⟩
theorem N5(hT:gY P T)(iJ:∀w,tR w0 w->G w)(gJ:∀b,w0.own b->B b)(hm:P.follows .mixedOrders=true){id:Nat}{all:List Oper}{k:Nat}(du:∀o∈all,∀t,o.dst=some t->w0.pin t=none)(cU:WT nt all k=true){Q:Exit->List AV->AH->Prop}{env0:List AV}{H:AH}{a:Act}{w:World}
  (h:nk P G bK T all H k all env0 fun env1=>uu T all k env1 k all env1 H fun env2 H2=>vO P G bK T all Q (all.drop k) env2 H2) (hS:St w0 B nt env0 H a w):
  (Code.region id all.toArray true).wp P (rT w0 B nt Q) a w:=by
 obtain⟨jm,jU,n5,ι,gZ,AW⟩:=hS;have qS:env0.length=nt:=by rw[AW.len];exact jU
 unfold WT at cU;simp only[gH,bF]at cU;obtain⟨⟨⟨fy,lI⟩,eJ⟩,oQ⟩:=cU;have m3:∀(i:Nat)(o:Oper)(t:Tmp),all[i]?=some o->o.dst=some t->t<env0.length:=fun i o t ho ht=>by
  have:=aR.1 eJ o (aJ ho)
  rw[ht]at this;rw[qS];exact pc
 rw[p9]at oQ;have oR:∀i o,i<k->all[i]?=some o->DA all k i o=true:=fun i o hi ho=>by
  have:=oQ i (cC.2 hi)
  rw[ho]at this;exact this
 obtain⟨avs,hK,hF⟩:=L3 (all:=all) hT k 0 env0 _ oM j6
 obtain⟨e1,qT⟩:∃e1,iG all avs 0 k env0=e1:=⟨_,rfl⟩
 rw[qT]at hK;have r8:∀(i:Nat)(o:Oper),i<k->all[i]?=some o->oL all o=true->∃m cs d,kw T e1 o=some m/\zg T all k e1 o m=some cs/\o.dst=some d:=fun i o hi ho iU=>Dr k all _ H hK i o hi ho iU
 have nO:∀(i j:Nat)(oi oj:Oper)(t:Tmp),all[i]?=some oi->all[j]?=some oj->i≠j->oi.dst=some t->oj.dst≠some t:=by
  have hB:=fy;simp only[ov,gH,p9,PP,bF,bG]at hB;intro i j oi oj t hi hj eA AB wz;have vJ:=(aC.1 hi).1;have nN:=(aC.1 hj).1
  rcases hB.2 i (by simpa using vJ) j (by simpa using nN)with hh|hh
  ·rcases hh with hh|hh
   ·exact eA hh
   ·simp[hi,AB]at hh
  ·simp[hi,hj,AB,wz]at hh
 have gO:∀i d,d∈jG all.toArray i->d<i:=fun i d hd=>by
  exact Hp
 have cg:∀(ws:Nat)(c:Nat->Nat)(listed:Array Bool)(a:Act)(w:World)(i q:Nat)(o:Oper),JS T all k w0 B ws ι H env0 avs e1 c listed a w->(∀d∈jG all.toArray i,listed.getD d false=true)->all[i]?=some o->i<k->i<=q->q<=k →
   ∀x,x∈o.op.operands->dD w ι (Rd (BX all k B c listed) ι H) (bO (iG all avs 0 q env0) x) (a.eval x):=by
  intro ws c listed a w i q o hJ gL ho jH Vl V5 x hx;have gB:=oR i o jH ho;unfold DA at gB;simp only[gH]at gB;have j8:=(mF.1 gB.1.1.1) x hx
  cases x with
  |const v=>exact .p _ _ (WE _ _ _)
  |global g=>exact .p _ _ (.v _)
  |func f=>exact .p _ _ (.v _)
  |tmp t=>
   simp only[bG]at j8
   rcases j8 with mA|xP
   ·have he:(iG all avs 0 q env0)[t]?=env0[t]?:=II q env0 fun j hj=>HS mA oM
    have hr:=hJ.rest t fun j oj hj qf _=>by
     have:=HS mA qf
     rw[hj]at this;exact pc
    have e1:bO (iG all avs 0 q env0) (.tmp t)=bO env0 (.tmp t):=by
     exact Gv
    rw[e1];exact hr
   ·rw[fQ]at xP;obtain⟨d,u4,UL⟩:=xP;have zD:(all[d]?).bind (·.dst)=some t:=by simpa using UL
    cases xr:all[d]? with
    |none=>rw[xr]at zD;cases zD
    |some od=>
     have eJ:od.dst=some t:=by rw[xr]at zD;simpa using zD
     have wG:=gO i d u4;have hl:=gL d u4
     rcases bB t env0.length with bS|bS
     ·have he:(iG all avs 0 q env0)[t]?=some (avs d):=CH zD q env0 oM bS fun j hj qh=>by
       cases ax:all[j]? with
       |none=>simp
       |some oj=>simpa using nO d j od oj t xr ax (iQ qh) eJ
      have e1:bO (iG all avs 0 q env0) (.tmp t)=avs d:=ZV
      rw[e1]
      cases iU:oL all od with
      |true=>
       have:=hF d od oM (by simpa using xr)
       rcases this with⟨_,hj⟩|⟨hh,_⟩
       ·rw[cB]at hj;rw[hj];exact .junk _
       ·rw[iU]at hh;simp at hh
      |false=>exact hJ.vals d od t xr oM hl iU eJ
     ·have he:(iG all avs 0 q env0)[t]?=none:=List.getElem?_eq_none (by rw[CL];exact bS)
      have e1:bO (iG all avs 0 q env0) (.tmp t)=.junk:=ZV
      rw[e1];exact .junk _
 have FY:∀(listed:Array Bool)(i:Nat)(o ox:Oper)(m:MK),all[i]?=some o->fc o=false->fb all k e1 (listed.setIfInBounds i true) ox m=fb all k e1 listed ox m:=by
  intro listed i o ox m ho mK;unfold fb
  cases hs:ox.dst.bind (m8 all k)with
  |none=>rfl
  |some x=>
   obtain⟨s,t,y⟩:=x;have eA:i≠s:=fun e=>by
    subst e;obtain⟨d,_,hd⟩:=lM.1 hs;obtain⟨_,os,h1,h2⟩:=LX hd;rw[ho]at h1;cases h1
    unfold fc at mK;rw[h2]at mK
    cases mK
   simp only[getD_set_ne false eA]
 have qp:∀(listed:Array Bool)(i:Nat),(∀x,listed.getD x false=true->∀d∈jG all.toArray x,listed.getD d false=true)->(∀d∈jG all.toArray i,listed.getD d false=true)->∀x,(listed.setIfInBounds i true).getD x false=true->∀d∈jG all.toArray x,(listed.setIfInBounds i true).getD d false=true:=by
  intro listed i h1 h2 x hx d hd
  by_cases e:i=x
  ·subst e;exact getD_set_true (h2 d hd)
  ·rw[getD_set_ne false e]at hx;exact getD_set_true (h1 x hx d hd)
 have gh:∀(ws:Nat)(c:Nat->Nat)(listed:Array Bool)(a:Act)(w w':World)(i:Nat)(o:Oper)(v:Value),JS T all k w0 B ws ι H env0 avs e1 c listed a w->listed.size=all.length->all[i]?=some o->i<k->listed.getD i false=false->(∀d∈jG all.toArray i,listed.getD d false=true)->(oL all o||fc o)=false →
   Gr w w'->dD w' ι (Rd (BX all k B c listed) ι H) (avs i) v->JS T all k w0 B ws ι H env0 avs e1 c (listed.setIfInBounds i true) (a.put o.dst v) w':=by
  intro ws c listed a w w' i o v hJ sW ho jH nX hdp r6 hg hv;rw[dJ]at r6;obtain⟨iU,mK⟩:=r6;have vJ:i<listed.size:=by rw[sW];exact(aC.1 ho).1
  have f6:∀x,LA all k (listed.setIfInBounds i true) x->LA all k listed x:=fun x hx=>vb hx fun e=>by
   exact Sg
  have AY:∀b,BX all k B c listed b->BX all k B c (listed.setIfInBounds i true) b:=fun b hb=>⟨hb.1,fun x hx=>hb.2 x (f6 x hx)⟩
  have pJ:=hJ.rel.regrow (B':=BX all k B c (listed.setIfInBounds i true)) hg (fun b _ hb=>AY b hb) (fun b hb=>AY b ((hJ.rel.grow hg).fut b hb))
  have aj:dD w' ι (Rd (BX all k B c (listed.setIfInBounds i true)) ι H) (avs i) v:=by
   have tu:bQ none w' ι (Rd (BX all k B c listed) ι H) w' ι (Rd (BX all k B c (listed.setIfInBounds i true)) ι H):=⟨nR _,fun b hb _=>⟨⟨AY b hb.1,hb.2⟩,rfl⟩,fun _ _ _ _ h=>h⟩
   exact hv.keep0 tu
  refine⟨by rw[iw];exact hJ.defers,by cases o.dst<;>simp[Act.put,hJ.size],ip hJ.pin (du o (aJ ho)) _,aS hJ.grow hg.size,pJ.1,fun x ox m hx iZ hm=>?_,fun x y hx hy=>hJ.inj x y (f6 x hx) (f6 y hy),qp listed i hJ.closed hdp,fun x ox t iZ uT jM yW vU=>?_,fun t ht=>?_⟩
  ·obtain⟨h1,⟨arr,h3,VC⟩,h4⟩:=hJ.made x ox m (f6 x hx) iZ hm;refine⟨h1,⟨arr,by rw[hg.block _ (md h3)];exact h3,by rw[FY listed i o ox m ho mK];exact VC.keep0 pJ.2⟩,fun d hd=>?_⟩
   have mU:x≠i:=fun e=>by
    subst e;obtain⟨o',g1,g2⟩:=hx.2.2;rw[ho]at g1;cases g1
    rw[iU]at g2;cases g2
   rw[mf (nO x i ox o d iZ ho mU hd)];exact h4 d hd
  ·by_cases mU:x=i
   ·subst mU;rw[ho]at iZ;cases iZ
    rw[vU];rw[MJ ZU];exact aj
   ·rw[getD_set_ne false (fun e=>mU e.symm)]at jM
    rw[mf (nO x i ox o t iZ ho mU vU)];exact(hJ.vals x ox t iZ uT jM yW vU).keep0 pJ.2
  ·have eA:o.dst≠some t:=ht i o ho jH (zf vJ);rw[mf eA];exact(hJ.rest t fun x ox iZ uT jM=>ht x ox iZ uT (getD_set_true jM)).keep0 pJ.2
 have GA:∀(c:Nat->Nat)(a:Act)(w:World)(n m:Nat)(ι:Pl)(H:AH)(env:List AV),m+n=k →
   eQ w0 (fun b=>B b/\∀i o,m<=i->i<k->all[i]?=some o->oL all o=true->b≠c i) w ι H->nJ w ι (Rd (fun b=>B b/\∀i o,m<=i->i<k->all[i]?=some o->oL all o=true->b≠c i) ι H) env a.tmps →
   (∀i o,m<=i->i<k->all[i]?=some o->oL all o=true->w0.own (c i)/\¬iV ι H (c i)/\(∃mk cs arr,kw T e1 o=some mk/\zg T all k e1 o mk=some cs/\mk.Ok mk.cs/\w.heap[c i]?=some (.cells arr mk.t (0,0))/\yr w ι (Rd (fun b=>B b/\∀i o,m<=i->i<k->all[i]?=some o->oL all o=true->b≠c i) ι H) cs arr/\∀d,o.dst=some d->a.eval (.tmp d)=mk.val (c i))) →
   (∀i j oi oj,m<=i->i<k->m<=j->j<k->all[i]?=some oi->all[j]?=some oj->oL all oi=true->oL all oj=true->c i=c j->i=j)->(a.defers=w0.ds/\∀t v,w0.pin t=some v->a.tmps[t]?=some v)->a.tmps.size=nt →
   uu T all k e1 n (all.drop m) env H (fun env2 H2=>vO P G bK T all Q (all.drop k) env2 H2)->wpList P all.toArray (rT w0 B nt Q) (all.drop k) a w:=by
  intro c a w n
  induction n with
  |zero=>
   intro m ι H env KG hR hE _ _ hd dM h;have FI:m=k:=dU
   have pJ:=hR.regrow (B':=B) (Gr.refl _) (fun b _ hb=>hb.1) (fun b hb=>(hR.fut b hb).1)
   refine zc hT iJ gJ _ (fun o ho=>du o (jA ho)) env H a w h ⟨hd.1,dM,hd.2,ι,pJ.1,⟨hE.len,fun t x v hx hv=>(hE.at_ t x v hx hv).keep0 pJ.2⟩⟩
  |succ n ih=>
   intro m ι H env KG hR hE qc FP hd dM h;have pO:m<all.length:=dU
   have ho:all[m]?=some all[m]:=aB pO;rw[cQ pO]at h;unfold uu at h
   cases iU:oL all all[m]with
   |false=>
    rw[aE (by rw[iU];simp)]at h
    have pJ:=hR.regrow (B':=fun b=>B b/\∀i o,m+1<=i->i<k->all[i]?=some o->oL all o=true->b≠c i) (Gr.refl _) (fun b _ hb=>⟨hb.1,fun i o h1 h2 h3 h4=>hb.2 i o oM h2 h3 h4⟩) (fun b hb=>⟨(hR.fut b hb).1,fun i o h1 h2 h3 h4=>(hR.fut b hb).2 i o oM h2 h3 h4⟩)
    exact ih (m+1) ι H env oM pJ.1 ⟨hE.len,fun t x v hx hv=>(hE.at_ t x v hx hv).keep0 pJ.2⟩ (fun i o h1 h2 h3 h4=>by
     obtain⟨g1,g2,mk,cs,arr,g3,g4,g5,g6,g7,g8⟩:=qc i o oM h2 h3 h4
     exact⟨g1,g2,mk,cs,arr,g3,g4,g5,g6,g7.keep0 pJ.2,g8⟩) (fun i j oi oj h1 h2 h3 h4=>FP i j oi oj oM h2 oM h4) hd dM h
   |true=>
    rw[aF iU]at h;obtain⟨qJ,mM,mk,cs,arr,FI,cV,cU,gC,zF,FD⟩:=qc m all[m] (nR _) oM ho iU
    rw[FI]at h
    split at h
    ·rename_i mk2 d e2 tX
     cases e2
     rw[cV]at h;simp only at h;have TN:¬(B (c m)/\∀i o,m<=i->i<k->all[i]?=some o->oL all o=true->c m≠c i):=fun hh=>hh.2 m all[m] (nR _) oM ho iU rfl
     have rg:∀b,(B b/\∀i o,m<=i->i<k->all[i]?=some o->oL all o=true->b≠c i)->(B b/\∀i o,m+1<=i->i<k->all[i]?=some o->oL all o=true->b≠c i):=fun b hb=>⟨hb.1,fun i o h1 h2 h3 h4=>hb.2 i o oM h2 h3 h4⟩
     have TF:=z30 FI cV cU;have Jh:=hR.adopt (B':=fun b=>B b/\∀i o,m+1<=i->i<k->all[i]?=some o->oL all o=true->b≠c i) gC qJ mM TN rg zF TF
     refine ih (m+1) _ _ _ oM Jh.1 ⟨by simp[hE.len],fun t' x v hx hv=>?_⟩ (fun i o W8 h2 h3 h4=>?_) (fun i j oi oj h1 h2 h3 h4=>FP i j oi oj oM h2 oM h4) hd dM h
     ·by_cases e:d=t'
      ·subst e;have jJ:d<env.length:=by rw[hE.len,dM,<- qS];exact m3 m all[m] d ho tX
       rw[mD jJ]at hx
       cases hx
       have aj:v=mk.val (c m):=by
        have:=FD d tX
        simp only[Act.eval,fH,hv]at this;exact this
       subst aj;rw[<-hR.len];unfold MK.av MK.val
       cases hr:mk.rows with
       |none=>exact .own _ 0 _ _ (dg _ _)
       |some x=>
        obtain⟨s,len,rs⟩:=x;obtain⟨rfl,ay,hs,hl,Ar⟩:=TF s len rs hr;have SQ:arr.size=len*s:=by rw[zF.1,hl]
        have pH:mk.shape arr.size=(s,arr.size):=by unfold MK.shape;rw[hr]
        rw[pH]
        have:=dD.osl (w:=w) (ι:=ι++[(some (c m),s,arr.size)]) (R:=Rd (fun b=>B b/\∀i o,m+1<=i->i<k->all[i]?=some o->oL all o=true->b≠c i) (ι++[(some (c m),s,arr.size)]) (H++[some (mk.blk mk.cs)])) ι.length 0 len (c m) len (s,arr.size) (dg _ _) (nR _) Ar (by simp[SQ])
        simpa using this
      ·rw[nU e]at hx;exact(hE.at_ t' x v hx hv).keep0 Jh.2
     ·obtain⟨g1,g2,mk3,cs3,arr3,g3,g4,g5,g6,g7,g8⟩:=qc i o oM h2 h3 h4
      refine⟨g1,fun iP=>?_,mk3,cs3,arr3,g3,g4,g5,g6,g7.keep0 Jh.2,g8⟩
      obtain⟨kk,b',s',q1,q2⟩:=iP
      rcases rN q1 with⟨hl,q1⟩|⟨rfl,e⟩
      ·rcases rN q2 with⟨nM,q2⟩|⟨e,_⟩
       ·exact g2 ⟨kk,b',s',q1,q2⟩
       ·rw[hR.len]at e;omega
      ·rw[<-hR.len,dg]at q2;have q3:c i=c m:=by
        simp only[bV,Prod.mk.injEq]at q2;exact q2.1.symm
       have:=FP i m o all[m] oM h2 (nR _) oM h3 ho h4 iU q3
       omega
    ·rename_i Iu;obtain⟨_,_,d,_,_,tX⟩:=r8 m all[m] oM ho iU
     exact absurd rfl (Iu _ d · tX)
 refine Na k 8 (fun listed a w'=>∃c,JS T all k w0 B w.heap.size ι H env0 avs e1 c listed a w') hm fy lI ?_ ?_ ?_
 ·
  have rE:∀i,(Array.replicate all.length false).getD i false=false:=fun i=>by by_cases h:i<all.length<;>simp[h]
  have pJ:=gZ.regrow (w':=w.drew) (B':=BX all k B (fun _=>0) (Array.replicate all.length false)) ((Below.refl _ _).drew) (fun b _ hb=>⟨hb,fun i hi=>by have:=hi.2.1;rw[rE]at this;cases this⟩) (fun b hb=>⟨gZ.fut b (by simpa using hb),fun i hi=>by have:=hi.2.1;rw[rE]at this;cases this⟩)
  have TH:∀i,¬LA all k (Array.replicate all.length false) i:=fun i hi=>by
   have:=hi.2.1
   rw[rE]at this
   cases this
  exact⟨fun _=>0,jm,by rw[qS];exact jU,n5,nR _,pJ.1,fun i o m hi=>absurd hi (TH i),fun i j hi=>absurd hi (TH i),(fun i hl=>by rw[rE]at hl;cases hl),(fun i o t _ _ hl=>by rw[rE]at hl;cases hl),fun t _=>(AW.eval (.tmp t)).keep0 pJ.2⟩
 ·
  intro listed a' w' i o ⟨c,hJ⟩ sW gL ho jH nX;have rf:G w':=iJ _ hJ.rel.gr;have gq:∀f,a'.eval (.func f)=.func (.func f) #[] #[]:=fun _=>rfl
  have hf:=hF i o jH RC
  rw[cB]at hf;have TE:=cg w.heap.size c listed a' w' i i o hJ gL ho jH (nR _) oM
  have qa:=cg w.heap.size c listed a' w' i k o hJ gL ho jH oM (nR _)
  rw[qT]at qa;have quiet:QS P G o (iG all avs 0 i env0) H (avs i)->(oL all o||fc o)=false->a7 P (fun v w''=>∃c,JS T all k w0 B w.heap.size ι H env0 avs e1 c (listed.setIfInBounds i true) (a'.put o.dst v) w'') ((execOp a'.eval o).run P w'):=by
   intro hq iU
   have:=hq w0 (BX all k B c listed) w' ι a'.eval hJ.rel rf TE gq
   generalize (execOp a'.eval o).run P w'=r at *
   cases r with
   |ok n w''=>
    cases n<;>simp only[a7]at this ⊢
    ·exact Rw
    ·exact Rw
    ·exact this.mono fun e w'' ⟨v,he,h1,h2⟩=>⟨v,he,c,gh _ c listed a' w' w'' i o _ hJ sW ho jH nX gL iU h1 h2⟩
   |halt x w''=>simp only[a7]at this
  rcases hf with⟨r6,Vi⟩|⟨iU,hf⟩
  ·have vJ:i<listed.size:=by rw[sW];exact(aC.1 ho).1
   have cJ:∀x,LA all k listed x->c x<w'.heap.size:=fun x hx=>by
    obtain⟨ox,iZ,yW⟩:=hx.2.2;obtain⟨m,_,_,hm,_,_⟩:=r8 x ox hx.1 iZ yW;obtain⟨_,⟨_,h3,_⟩,_⟩:=hJ.made x ox m hx iZ hm;exact md h3
   cases iU:oL all o with
   |true=>
    obtain⟨m,_,d,hm,_,tX⟩:=r8 i o jH ho iU;have gB:=oR i o jH ho;unfold DA at gB;simp only[gH,iU,cw,bI]at gB;have UB:o.guard=none:=by simpa using gB.1.2.1
    rw[aF (by simp[Region.wanted,UB])]
    obtain⟨arr,dN,zF⟩:=O2 hT hm qa;rw[dN];obtain⟨c',eE,ck⟩:∃c':Nat->Nat,c' i=w'.heap.size/\∀x,x≠i->c' x=c x:=⟨fun x=>if x=i then w'.heap.size else c x,by simp,fun x hx=>by simp[hx]⟩
    have hg:Gr w' (w'.alloc (.cells arr m.t)):=(Below.refl _ _).alloc (nR _) _;have AY:∀b,b<w'.heap.size->BX all k B c listed b->BX all k B c' (listed.setIfInBounds i true) b:=fun b hb Vr=>⟨Vr.1,fun x hx=>by
     by_cases mU:x=i
     ·subst mU;rw[eE];omega
     ·rw[ck x mU];exact Vr.2 x (vb hx mU)⟩
    have pJ:=hJ.rel.regrow (B':=BX all k B c' (listed.setIfInBounds i true)) hg AY (fun b hb=>⟨(hJ.rel.fut b (by simp at hb;omega)).1,fun x hx=>by
     by_cases mU:x=i
     ·subst mU;rw[eE];simp at hb;omega
     ·rw[ck x mU];have:=cJ x (vb hx mU);simp at hb;omega⟩)
    have qn:fb all k e1 listed o m=m.cs:=by
     unfold fb
     cases hs:o.dst.bind (m8 all k)with
     |none=>rfl
     |some x=>
      obtain⟨s,t,y⟩:=x;obtain⟨d',wH,Im⟩:=lM.1 hs;obtain⟨lQ,os,h1,h2⟩:=LX Im;have Ii:listed.getD s false=false:=by
       cases hl:listed.getD s false with
       |false=>rfl
       |true=>
        have mK:fc os=true:=by unfold fc;rw[h2]
        have gB:=oR s os lQ h1;unfold DA at gB;simp only[gH,mK,cw,bI,h2]at gB;obtain⟨j,hj,ax⟩:=fQ.1 gB.2.2.2
        split at ax
        ·rename_i oj FE;simp only[gH,beq_iff_eq]at ax;have Ax:j=i:=by
          apply jL;intro eA;exact nO j i oj o d' FE ho eA ax.2 wH
         subst Ax
         have:=hJ.closed s hl j hj
         rw[nX]at this
         cases this
        ·cases ax
      simp only[Ii]
    refine⟨c',by rw[iw];exact hJ.defers,by rw[ko];exact hJ.size,ip hJ.pin (du o (aJ ho)) _,aS hJ.grow hg.size,pJ.1,fun x ox mx hx iZ FH=>?_,fun x y hx hy fq=>?_,qp listed i hJ.closed gL,fun x ox tx iZ uT jM yW vU=>?_,fun tx ht=>?_⟩
    ·by_cases mU:x=i
     ·subst mU;rw[ho]at iZ;cases iZ
      rw[hm]at FH;cases FH
      rw[eE];refine⟨hJ.grow,⟨arr,heap_alloc_new _ _,?_⟩,fun d' wH=>?_⟩
      ·rw[FY listed x o o m ho (Oy iU),qn];exact zF.keep0 pJ.2
      ·rw[tX]at wH;cases wH
       rw[tX,MJ (by rw[hJ.size];exact m3 x o d ho tX)]
     ·rw[ck x mU];obtain⟨h1,⟨arr',h3,VC⟩,h4⟩:=hJ.made x ox mx (vb hx mU) iZ FH;refine⟨h1,⟨arr',by rw[hg.block _ (md h3)];exact h3,by rw[FY listed i o ox mx ho (Oy iU)];exact VC.keep0 pJ.2⟩,fun d' wH=>?_⟩
      rw[mf (nO x i ox o d' iZ ho mU wH)];exact h4 d' wH
    ·by_cases mU:x=i
     ·by_cases EP:y=i
      ·rw[mU,EP]
      ·rw[mU]at fq;rw[eE,ck y EP]at fq
       have:=cJ y (vb hy EP);omega
     ·by_cases EP:y=i
      ·rw[EP]at fq;rw[eE,ck x mU]at fq
       have:=cJ x (vb hx mU);omega
      ·rw[ck x mU,ck y EP]at fq;exact hJ.inj x y (vb hx mU) (vb hy EP) fq
    ·have mU:x≠i:=fun e=>by subst e;rw[ho]at iZ;cases iZ;rw[iU]at yW;cases yW
     rw[getD_set_ne false (fun e=>mU e.symm)]at jM
     rw[mf (nO x i ox o tx iZ ho mU vU)];exact(hJ.vals x ox tx iZ uT jM yW vU).keep0 pJ.2
    ·have eA:o.dst≠some tx:=ht i o ho jH (zf vJ);rw[mf eA];exact(hJ.rest tx fun x ox iZ uT jM=>ht x ox iZ uT (getD_set_true jM)).keep0 pJ.2
   |false=>
    have mK:fc o=true:=by rw[iU]at r6;simpa using r6
    obtain⟨t,x,y,nT⟩:∃t x y,o.op=.store t x y:=by
     unfold fc at mK
     split at mK
     ·exact⟨_,_,_,by assumption⟩
     ·cases mK
    have gB:=oR i o jH ho;unfold DA at gB;simp only[gH,mK,cw,bI,nT]at gB;obtain⟨⟨UB,uY⟩,kM⟩:=gB.2;clear gB;have UB:o.guard=none:=by simpa using UB
    have uY:o.dst=none:=by simpa using uY
    split at kM
    ·rename_i t' d y' iT;simp only[Op.store.injEq]at iT;obtain⟨rfl,rfl,rfl⟩:=iT;simp only[gH,beq_iff_eq]at kM;obtain⟨SU,Jg⟩:=kM;obtain⟨j,hj,ax⟩:=fQ.1 Jg
     split at ax
     ·rename_i oj FE;simp only[gH,beq_iff_eq]at ax;obtain⟨lm,qh⟩:=ax;have Ax:=gO i j hj;have nN:=gL j hj;have J5:LA all k listed j:=⟨by omega,nN,oj,FE,lm⟩
      obtain⟨m,cs,d',hm,cV,tX⟩:=r8 j oj oM FE lm
      rw[qh]at tX;cases tX
      obtain⟨s,hs⟩:∃s,m8 all k d=some s:=by
       cases hs:m8 all k d with
       |none=>rw[hs]at SU;cases SU
       |some s=>exact⟨s,rfl⟩
      obtain⟨s,t',y'⟩:=s;rw[hs]at SU;simp only[eX,bV]at SU;subst SU;obtain⟨_,os,h1,h2⟩:=LX hs;rw[ho]at h1;cases h1
      rw[nT]at h2;simp only[Op.store.injEq,true_and]at h2;obtain⟨rfl,rfl⟩:=h2;have wJ:oj.dst.bind (m8 all k)=some (s,t,y):=by rw[qh];exact hs
      unfold zg at cV;rw[wJ]at cV;simp only at cV
      split at cV
      ·rename_i ta ti hja AB
       split at cV
       ·rename_i hc
        cases cV
        obtain⟨SH,⟨arr,ia,zF⟩,FD⟩:=hJ.made j oj m J5 FE hm;have qn:fb all k e1 listed oj m=m.cs:=by
         unfold fb;rw[wJ];simp only[nX]
        rw[qn]at zF;have hmr:m.rows=none:=by
         unfold kw at hm;rw[hja]at hm;simp only at hm
         split at hm
         ·split at hm
          ·cases hm;rfl
          ·cases hm
         ·cases hm
        have hp:=FD d qh;unfold MK.val at hp;rw[hmr]at hp;simp only at hp;have hy:=MQ (qa y (by rw[nT];simp[Op.operands])) hc.1
        have oS:∀v∈(a'.eval y).cells.toList,v.oneCell'=true:=fun v hv=>by
         obtain⟨n,hn⟩:=nA.1 hv;have rR:n<(qM (bO e1 y)).length:=by rw[hy.1];simpa using(aC.1 hn).1
         obtain⟨u,hu,h1,_⟩:=hy.2 n _ (aB rR)
         have:u=v:=by
          have h4:(a'.eval y).cells[n]?=some v:=by simpa using hn
          rw[hu]at h4;exact bA h4
         subst this;exact h1
        have wm:(a'.eval y).cells.size=ti.size:=by rw[<-hy.1];exact hc.2.1
        have qz:arr.size=ti.size:=by rw[zF.1];exact hc.2.2.symm
        have hle:0+(a'.eval y).cells.toList.length<=arr.size:=by simp[wm,qz]
        rw[aF (by simp[Region.wanted,UB]),Cu hT nT AB hp ia wm (by simp[wm,qz]) oS]
        have hh:=setRow_heap w' (c j) arr (arr.toList.take 0++(a'.eval y).cells.toList++arr.toList.drop (0+(a'.eval y).cells.toList.length)).toArray m.t (0,0) ia;obtain⟨arr2,AP⟩:∃x,(arr.toList.take 0++(a'.eval y).cells.toList++arr.toList.drop (0+(a'.eval y).cells.toList.length)).toArray=x:=⟨_,rfl⟩
        have Je:yr w' ι (Rd (BX all k B c listed) ι H) (qM (bO e1 y)) arr2:=by
         rw[<-AP];refine⟨by rw[N6 hle,qz];exact hc.2.1.symm,fun n an hn=>?_⟩
         have rR:=(aC.1 hn).1;rw[Db hle,aF ⟨by omega,by simp[wm];have:=hc.2.1;omega⟩]
         obtain⟨u,hu,h1,hr⟩:=hy.2 n an hn;exact⟨u,by simpa using hu,h1,hr⟩
        rw[AP]at hh ⊢;have fW:=hJ.rel.poke (c:=c j) (.inr (aS gZ.size SH)) (fun iP=>by have:=gZ.lt iP;omega) (fun hb=>hb.2 j J5 rfl) (w':=w'.setRow (c j) arr2) rfl rfl rfl jT (fun d hd=>setRow_other w' (c j) d _ hd)
        have f6:∀x,LA all k (listed.setIfInBounds s true) x->LA all k listed x:=fun x hx=>vb hx fun e=>by
         exact Sg
        have AY:∀b,BX all k B c listed b->BX all k B c (listed.setIfInBounds s true) b:=fun b hb=>⟨hb.1,fun x hx=>hb.2 x (f6 x hx)⟩
        have pJ:=fW.1.regrow (B':=BX all k B c (listed.setIfInBounds s true)) (Gr.refl _) (fun b _ hb=>AY b hb) (fun b hb=>AY b (fW.1.fut b hb))
        have x4:(w'.setRow (c j) arr2).heap.size=w'.heap.size:=jT
        simp only[a7];rw[uY];refine⟨c,hJ.defers,hJ.size,hJ.pin,by rw[x4];exact hJ.grow,pJ.1,fun x ox mx hx iZ FH=>?_,fun x y hx hy=>hJ.inj x y (f6 x hx) (f6 y hy),qp listed s hJ.closed gL,fun x ox tx iZ uT jM yW vU=>?_,fun tx ht=>?_⟩
        ·obtain⟨g1,⟨arr',g3,g3'⟩,g4⟩:=hJ.made x ox mx (f6 x hx) iZ FH
         by_cases SF:x=j
         ·subst SF;rw[FE]at iZ;cases iZ
          rw[hm]at FH;cases FH
          refine⟨g1,⟨arr2,hh,?_⟩,g4⟩;have qm:fb all k e1 (listed.setIfInBounds s true) oj m=qM (bO e1 y):=by
           unfold fb;rw[wJ];simp only[zf vJ]
          rw[qm];exact(Je.keep0 fW.2).keep0 pJ.2
         ·have ck:c x≠c j:=fun e=>SF (hJ.inj x j (f6 x hx) J5 e)
          refine⟨g1,⟨arr',by rw[setRow_other w' (c j) (c x) _ ck];exact g3,?_⟩,g4⟩
          have qm:fb all k e1 (listed.setIfInBounds s true) ox mx=fb all k e1 listed ox mx:=by
           unfold fb
           cases An:ox.dst.bind (m8 all k)with
           |none=>rfl
           |some z=>
            obtain⟨s2,t2,y2⟩:=z;have eA:s≠s2:=fun e=>by
             subst e;obtain⟨d2,zE,Il⟩:=lM.1 An;obtain⟨_,o2,q1,q2⟩:=LX Il;rw[ho]at q1;cases q1
             rw[nT]at q2;simp only[Op.store.injEq,Operand.tmp.injEq]at q2;have e2:=q2.2.1;subst e2;exact nO x j ox oj d iZ FE SF zE qh
            simp only[getD_set_ne false eA]
          rw[qm];exact(g3'.keep0 fW.2).keep0 pJ.2
        ·have yU:x≠s:=fun e=>by subst e;rw[ho]at iZ;cases iZ;rw[uY]at vU;cases vU
         rw[getD_set_ne false (fun e=>yU e.symm)]at jM
         exact((hJ.vals x ox tx iZ uT jM yW vU).keep0 fW.2).keep0 pJ.2
        ·exact((hJ.rest tx fun x ox iZ uT jM=>ht x ox iZ uT (getD_set_true jM)).keep0 fW.2).keep0 pJ.2
       ·cases cV
      ·cases cV
     ·cases ax
    ·cases kM
  ·rcases hf with⟨hg,hq⟩|⟨j,want,b,hg,hb,qt⟩
   ·rw[aF JQ]
    exact quiet hq iU
   ·
    have gB:=oR i o jH ho;unfold DA at gB;simp only[gH,hg]at gB;have qh:j∈jG all.toArray i:=by simpa using gB.1.1.2.1
    obtain⟨tj,wz⟩:=KR.1 gB.1.1.2.2;have Ax:=gO i j qh;have nN:=gL j qh;have pj:so all.toArray a'.eval j=b:=by
     unfold CY at hb;rw[wz]at hb;simp only at hb
     cases ax:all[j]? with
     |none=>rw[ax]at wz;cases wz
     |some oj=>
      have qg:oj.dst=some tj:=by rw[ax]at wz;simpa using wz
      have bS:=m3 j oj tj ax qg;have he:(iG all avs 0 i env0)[tj]?=some (avs j):=CH wz i env0 Ax bS fun x hx SF=>by
       cases EQ:all[x]? with
       |none=>simp
       |some ox=>simpa using nO j x oj ox tj ax EQ (iQ SF) qg
      rw[aK,he]at hb;simp only[jE]at hb;have lm:oL all oj=false:=by
       cases lm:oL all oj with
       |false=>rfl
       |true=>
        rcases hF j oj oM (by simpa using ax)with⟨_,qf⟩|⟨hh,_⟩
        ·rw[cB]at qf;rw[qf]at hb;cases hb
        ·rw[lm]at hh;cases hh
      have hr:=hJ.vals j oj tj ax oM nN lm qg
      split at hb
      ·rename_i x' eb
       cases hb
       rw[eb]at hr;unfold so;simp only[wY];rw[wz];simp only;rw[jS hr]
       cases x'<;>rfl
      ·cases hb
    rcases qt with⟨e,hq⟩|⟨e,hu⟩
    ·rw[aF (by simp[Region.wanted,hg,pj,e])]
     exact quiet hq iU
    ·rw[aE (by simpa [Region.wanted,hg,pj]using e)]
     refine⟨c,gh _ c listed a' w' w' i o _ hJ sW ho jH nX gL iU (Gr.refl _) ?_⟩;rw[hu];exact .p _ _ (.v _)
 ·
  intro listed a' w' ⟨c,hJ⟩ dX;have f6:∀i o,i<k->all[i]?=some o->oL all o=true->LA all k listed i:=fun i o hi ho iU=>⟨hi,dX i hi,o,ho,iU⟩
  have pJ:=hJ.rel.regrow (B':=fun b=>B b/\∀i o,0<=i->i<k->all[i]?=some o->oL all o=true->b≠c i) (Gr.refl _) (fun b _ hb=>⟨hb.1,fun i o _ h2 h3 h4=>hb.2 i (f6 i o h2 h3 h4)⟩) (fun b hb=>⟨(hJ.rel.fut b hb).1,fun i o _ h2 h3 h4=>(hJ.rel.fut b hb).2 i (f6 i o h2 h3 h4)⟩)
  refine GA c a' w' k 0 ι H e1 oM pJ.1 ⟨by rw[<-qT,CL];exact hJ.size.symm,fun t x v hx hv=>?_⟩ (fun i o _ h2 h3 h4=>?_) (fun i j oi oj _ h2 _ h4 h5 h6 h7 h8 h9=>hJ.inj i j (f6 i oi h2 h5 h7) (f6 j oj h4 h6 h8) h9) ⟨hJ.defers,hJ.pin⟩ (by rw[hJ.size];exact qS) (by simpa using hK)
  ·rw[<-qT]at hx;have u3:a'.eval (.tmp t)=v:=R9
   have bS:t<env0.length:=by have:=(aC.1 hx).1;rw[CL]at this;exact this
   rcases dP (∃i o,i<k/\all[i]?=some o/\o.dst=some t)with⟨i,o,jH,ho,cj⟩|mM
   ·have wJ:(all[i]?).bind (·.dst)=some t:=by rw[ho];simpa using cj
    have he:(iG all avs 0 k env0)[t]?=some (avs i):=CH wJ k env0 jH bS fun x hx mU=>by
     cases EQ:all[x]? with
     |none=>simp
     |some ox=>simpa using nO i x o ox t ho EQ (iQ mU) cj
    rw[he]at hx;cases hx
    cases iU:oL all o with
    |true=>
     rcases hF i o jH RC with⟨_,qf⟩|⟨hh,_⟩
     ·rw[cB]at qf;rw[qf];exact .junk _
     ·rw[iU]at hh;simp at hh
    |false=>
     have:=hJ.vals i o t ho jH (dX i jH) iU cj
     rw[u3]at this;exact this.keep0 pJ.2
   ·have he:(iG all avs 0 k env0)[t]?=env0[t]?:=II (all:=all) (avs:=avs) k env0 fun i hi=>by
     cases hio:all[i]? with
     |none=>simp
     |some o=>simpa using fun e=>mM ⟨i,o,hi,hio,e⟩
    rw[he]at hx
    have:=hJ.rest t fun i o ho hi _ e=>mM ⟨i,o,hi,ho,e⟩
    rw[u3]at this;have e2:bO env0 (.tmp t)=x:=by simp only[bO,aK,hx];rfl
    rw[e2]at this;exact this.keep0 pJ.2
  ·obtain⟨m,cs,d,hm,cV,tX⟩:=r8 i o h2 h3 h4;obtain⟨g1,⟨arr,g2,g3⟩,g4⟩:=hJ.made i o m (f6 i o h2 h3 h4) h3 hm;have oJ:fb all k e1 listed o m=cs:=by
    unfold zg at cV;unfold fb
    cases hs:o.dst.bind (m8 all k)with
    |none=>rw[hs]at cV;exact bA cV
    |some z=>
     obtain⟨s,t,y⟩:=z;obtain⟨d2,_,Im⟩:=lM.1 hs;have hl:=dX s (LX Im).1;rw[hs]at cV;simp only[hl]at cV ⊢
     split at cV
     ·split at cV
      ·exact bA cV
      ·cases cV
     ·cases cV
   rw[oJ]at g3;exact⟨.inr (aS gZ.size g1),fun iP=>by have:=gZ.lt iP;omega,m,cs,arr,hm,cV,O1 hm,g2,g3.keep0 pJ.2,g4⟩
end
def nB(next:List AV->AH->Prop)(Q:Exit->List AV->AH->Prop):Exit->List AV->AH->Prop
 | .normal,env,H=>next env H
 |e,env,H=>Q e env H
def km(id:Nat)(Q:Exit->List AV->AH->Prop):Exit->List AV->AH->Prop
 | .exit i,env,H=>if i=id then Q .normal env H else Q (.exit i) env H
 |e,env,H=>Q e env H
inductive iO(body:(Exit->List AV->AH->Prop)->List AV->AH->Prop)(Q:Exit->List AV->AH->Prop)(env:List AV)(H:AH):Prop
 |mk (I N:Nat->List AV->AH->Prop) (h0:∃k env' H',Wk env H env' H'/\I k env' H') (hN:∀k env' H',N k env' H'->∃k2 env2 H2,Wk env' H' env2 H2/\I k2 env2 H2/\k2<k)
  (hr:∀k env H,I k env H->body (nB (N k) Q) env H)
def uE(P:Program)(G:World->Prop)(E:SO)(T:TT)(kOf:Nat->Nat):Code->(Exit->List AV->AH->Prop)->List AV->AH->Prop
 | .skip,Q,env,H=>Q .normal env H
 | .region id ops draw,Q,env,H=>if draw=true then
   nk P G E T ops.toList H (kOf id) ops.toList env fun env1=>uu T ops.toList (kOf id) env1 (kOf id) ops.toList env1 H fun env2 H2=>vO P G E T ops.toList Q (ops.toList.drop (kOf id)) env2 H2
  else vO P G E T ops.toList Q ops.toList env H
 | .seq a b,Q,env,H=>uE P G E T kOf a (nB (uE P G E T kOf b Q) Q) env H
 | .cond c a b,Q,env,H=>(match bO env c with
  | .p (.v (.bool x))=>(match x with
   |true=>uE P G E T kOf a Q env H
   |false=>uE P G E T kOf b Q env H)
  |_=>False)
 | .block id c,Q,env,H=>uE P G E T kOf c (km id Q) env H
 | .loop c,Q,env,H=>iO (uE P G E T kOf c) Q env H
 | .exit id,Q,env,H=>Q (.exit id) env H
 | .ret,Q,env,H=>Q .ret env H
 |_,_,_,_=>False
def xH(nt:Nat)(kOf:Nat->Nat):Code->Bool
 | .region id ops draw=>!draw||WT nt ops.toList (kOf id)
 | .seq a b=>xH nt kOf a&&xH nt kOf b
 | .cond _ a b=>xH nt kOf a&&xH nt kOf b
 | .block _ c=>xH nt kOf c
 | .loop c=>xH nt kOf c
 |_=>true
theorem VG{p:Nat->Prop}(h:∃n,p n):∃n,p n/\∀m,p m->n<=m:=by
 obtain⟨n,hn⟩:=h
 induction n using Nat.strongRecOn with
 |_ n ih=>
  grind
section
variable{P:Program}{G:World->Prop}{T:TT}{w0:cF}{B:Nat->Prop}{nt:Nat}
theorem IB{next:List AV->AH->Prop}{Q:Exit->List AV->AH->Prop}(K:Act->World->Prop)(hK:∀env H a w,next env H->St w0 B nt env H a w->K a w):∀e a w,rT w0 B nt (nB next Q) e a w->Exit.then K (rT w0 B nt Q) e a w:=by
 rintro e a w ⟨env,H,h,hS⟩
 cases e with
 |normal=>exact hK env H a w h hS
 |exit id=>exact⟨env,H,h,hS⟩
 |goto l=>exact⟨env,H,h,hS⟩
 |ret=>exact⟨env,H,h,hS⟩
 |panic c=>exact⟨env,H,h,hS⟩
 |outgrown=>exact⟨env,H,h,hS⟩
def fg(w0:cF):Code->Prop
 | .region _ ops _=>∀o∈ops.toList,∀t,o.dst=some t->w0.pin t=none
 | .seq a b=>fg w0 a/\fg w0 b
 | .cond _ a b=>fg w0 a/\fg w0 b
 | .block _ c=>fg w0 c
 | .loop c=>fg w0 c
 |_=>True
theorem iv{w0:cF}(h:∀t,w0.pin t=none):∀c:Code,fg w0 c
 | .region _ _ _=>fun _ _ t _=>h t
 | .seq a b=>⟨iv h a,iv h b⟩
 | .cond _ a b=>⟨iv h a,iv h b⟩
 | .block _ c=>iv h c
 | .loop c=>iv h c
 | .skip=>trivial
 | .exit _=>trivial
 | .ret=>trivial
 | .rangeFunc _ _ _ _=>trivial
 | .scope _=>trivial
 | .label _=>trivial
 | .goto _=>trivial
 | .refuse _=>trivial
theorem o4(hT:gY P T)(iJ:∀w,tR w0 w->G w)(gJ:∀b,w0.own b->B b)(hm:P.follows .mixedOrders=true)(kOf:Nat->Nat):∀(c:Code),fg w0 c->xH nt kOf c=true->∀(Q:Exit->List AV->AH->Prop)(env:List AV)(H:AH)(a:Act)(w:World),uE P G bK T kOf c Q env H->St w0 B nt env H a w->c.wp P (rT w0 B nt Q) a w
 | .skip,_,_,Q,env,H,a,w,h,hS=>wp_skip ⟨env,H,h,hS⟩
 | .region id ops draw,fW,cU,Q,env,H,a,w,h,hS=>by
  unfold uE at h
  split at h
  ·rename_i hd;subst hd;exact N5 hT iJ gJ hm fW cU h hS
  ·rename_i hd;have wH:draw=false:=by simpa using hd
   subst wH;exact wp_region_list (zc hT iJ gJ _ fW env H a w h hS)
 | .seq x y,fW,cU,Q,env,H,a,w,h,hS=>by
  simp only[xH,gH]at cU;refine wp_seq (wp_mono (o4 hT iJ gJ hm kOf x fW.1 cU.1 _ env H a w h hS) ?_);exact IB _ fun env H a w h hS=>o4 hT iJ gJ hm kOf y fW.2 cU.2 Q env H a w h hS
 | .cond c x y,fW,cU,Q,env,H,a,w,h,hS=>by
  simp only[xH,gH]at cU;unfold uE at h
  split at h
  ·rename_i b e;obtain⟨ι,hR,hE⟩:=hS.rep;have hc:=hE.eval c;rw[e]at hc;refine wp_cond_split (jS hc) (fun hb=>?_) (fun hb=>?_)
   ·subst hb;exact o4 hT iJ gJ hm kOf x fW.1 cU.1 Q env H a w h hS
   ·subst hb;exact o4 hT iJ gJ hm kOf y fW.2 cU.2 Q env H a w h hS
  ·cases h
 | .block id c,fW,cU,Q,env,H,a,w,h,hS=>by
  unfold uE at h;refine wp_block (wp_mono (o4 hT iJ gJ hm kOf c fW cU _ env H a w h hS) ?_)
  exact Hj
 | .loop c,fW,cU,Q,env,H,a,w,h,hS=>by
  classical
  unfold uE at h;obtain⟨I,N,⟨k1,env1,H1,mu,Js⟩,hN,fw⟩:=h;have pn:∀env H env' H' a w,Wk env H env' H'->St w0 B nt env H a w->St w0 B nt env' H' a w:=fun env H env' H' a w hw hS=>by
   exact S2
  have key:∃f:Act->World->Nat,(∀a w,(∃k env H,I k env H/\St w0 B nt env H a w)->∃env H,I (f a w) env H/\St w0 B nt env H a w)/\∀a w k env H,I k env H->St w0 B nt env H a w->f a w<=k:=by
   exact Um
  obtain⟨f,UI,Vn⟩:=key;refine wp_loop (fun a w=>∃k env H,I k env H/\St w0 B nt env H a w) f ⟨k1,env1,H1,Js,pn _ _ _ _ a w mu hS⟩ fun a' w' hI=>?_
  obtain⟨env2,H2,lU,u7⟩:=UI a' w' hI;refine wp_mono (o4 hT iJ gJ hm kOf c fW cU _ env2 H2 a' w' (fw _ env2 H2 lU) u7) ?_;refine IB _ fun env3 H3 a3 w3 Iv n9=>?_
  grind
 | .exit id,_,_,Q,env,H,a,w,h,hS=>wp_exit ⟨env,H,h,hS⟩
 | .ret,_,_,Q,env,H,a,w,h,hS=>wp_ret ⟨env,H,h,hS⟩
 | .rangeFunc _ _ _ _,_,_,_,_,_,_,_,h,_=>h.elim
 | .scope _,_,_,_,_,_,_,_,h,_=>h.elim
 | .label _,_,_,_,_,_,_,_,h,_=>h.elim
 | .goto _,_,_,_,_,_,_,_,h,_=>h.elim
 | .refuse _,_,_,_,_,_,_,_,h,_=>h.elim
end
section
variable{P:Program}{G:World->Prop}{T:TT}{w0:cF}{B:Nat->Prop}{nt:Nat}
def bj(T:TT)(env:List AV)(H:AH):List ResultVar->(List AV->Prop)->Prop
 |[],K=>K []
 | .tmp t::rs,K=>bj T env H rs fun as=>K (env.getD t .junk::as)
 | .cell a t::rs,K=>(match T t with
  |some i=>GJ i (env.getD a .junk) H fun x=>bj T env H rs fun as=>K (x::as)
  |none=>False)
def jF(E:SO)(T:TT)(rs:List ResultVar)(r:PV)(e:Exit)(env:List AV)(H:AH):Prop:=
 match e with
 | .ret=>bj T env H rs fun as=>(match as with
  |[a]=>bu E H a fun p=>p=r
  |as=>bu E H (.tup as) fun p=>p=r)
 | .normal=>bj T env H rs fun as=>(match as with
  |[a]=>bu E H a fun p=>p=r
  |as=>bu E H (.tup as) fun p=>p=r)
 | .panic ch=>r=.pan ch
 |_=>False
def YM(tmps:Array Value)(r:ResultVar):Sem Value:=match r with
 | .tmp t=>pure (tmps.getD t undef)
 | .cell a t=>do loadVar t (← asAddr (tmps.getD a undef))
theorem Xr(fn:Func)(tmps:Array Value):results fn tmps=(do let vs<-fn.results.mapM (YM tmps);pure (if h:vs.size=1 then vs[0]else .tuple vs)):=rfl
theorem Cq(hT:gY P T){w:World}{ι:Pl}{H:AH}{env:List AV}{tmps:Array Value}(hR:eQ w0 B w ι H)(hE:nJ w ι (Rd B ι H) env tmps):∀(rs:List ResultVar)(K:List AV->Prop),bj T env H rs K →
  ∃as vs,K as/\(rs.mapM (YM tmps)).run P w=.ok vs w/\as.length=vs.length/\∀(j:Nat)(a:AV)(v:Value),as[j]?=some a->vs[j]?=some v->dD w ι (Rd B ι H) a v
 |[],K,h=>⟨[],[],h,rfl,rfl,fun j a v ha=>by simp at ha⟩
 | .tmp t::rs,K,h=>by
  obtain⟨as,vs,hK,dN,hl,hr⟩:=Cq hT hR hE rs _ h;refine⟨_,tmps.getD t undef::vs,hK,?_,by simp[hl],fun j a v ha hv=>?_⟩
  ·rw[BA];simp only[YM,Sem.run_bind,Sem.run_pure,Result.andThen_ok,dN]
  ·cases j with
   |zero=>
    simp at ha hv
    have:=hE.eval (a:=⟨tmps,[]⟩) (.tmp t)
    simp only[bO,Act.eval]at this;simp_all
   |succ j=>grind
 | .cell c t::rs,K,h=>by
  unfold bj at h
  split at h
  ·rename_i i ht;have h':GJ i (bO env (.tmp c)) H fun x=>bj T env H rs fun as=>K (x::as):=h
   obtain⟨x,hx,J0⟩:=L5 (P:=P) hT ht h';obtain⟨as,vs,hK,dN,hl,hr⟩:=Cq hT hR hE rs _ hx;have hc:=hE.eval (a:=⟨tmps,[]⟩) (.tmp c);simp only[Act.eval]at hc;obtain⟨u,hu,x5⟩:=J0 w0 B w ι _ hR hc;refine⟨_,u::vs,hK,?_,by simp[hl],fun j a v ha hv=>?_⟩
   ·have EV:(do loadVar t (← asAddr (tmps.getD c undef)):Sem Value).run P w=.ok u w:=by
     generalize tmps.getD c undef=p at hu
     cases p with
     |pointer ad=>
      cases ad with
      |none=>simp[Instr.loadAt,Instr.sureAddr,stuck,Sem.run]at hu
      |some ad=>simpa [Instr.loadAt,Instr.sureAddr,asAddr]using hu
     |_=>simp[Instr.loadAt,Instr.sureAddr,stuck,Sem.run]at hu
    rw[BA];simp only[YM,Sem.run_bind]at EV ⊢;simp_all
   grind
  ·cases h
theorem MG{w:World}{ι:Pl}{R:Nat->Prop}{as:List AV}{args:List Value}{nt:Nat}(_hl:as.length<=nt)(hlen:as.length=args.length)(h:∀(j:Nat)(a:AV)(v:Value),as[j]?=some a->args[j]?=some v->dD w ι R a v):
  nJ w ι R (as++List.replicate (nt-as.length) (.p (.v undef))) (args.toArray++Array.replicate (nt-args.toArray.size) undef):=by
 refine⟨by simp[hlen],fun t x v hx hv=>?_⟩
 rcases bB t as.length with bS|bS
 ·grind
 ·rw[bM bS]at hx;have j8:x=.p (.v undef):=by
   grind
  have aj:v=undef:=by
   grind
  subst j8;subst aj;exact .p _ _ (.v _)
theorem IJ(hT:gY P T){w:World}{ι:Pl}{H:AH}{env:List AV}{tmps:Array Value}(hR:eQ w0 B w ι H)(hE:nJ w ι (Rd B ι H) env tmps){fn:Func}{K:AV->Prop} (h:bj T env H fn.results.toList fun as=>(match as with
  |[a]=>K a
  |as=>K (.tup as))):∃x v,K x/\(results fn tmps).run P w=.ok v w/\dD w ι (Rd B ι H) x v:=by
 obtain⟨xs,vs,hK,dN,jM,yV⟩:=Cq hT hR hE _ _ h;have sH:(results fn tmps).run P w=.ok (if h:vs.toArray.size=1 then vs.toArray[0]else .tuple vs.toArray) w:=by
  rw[Xr,GI];simp_all
 split at hK
 ·rename_i x;have vW:vs.length=1:=by simpa using jM.symm
  obtain⟨v,rfl⟩:=Bc.1 vW;exact⟨x,v,hK,by rw[sH];rfl,yV 0 x v rfl rfl⟩
 ·rename_i eA;have vW:¬vs.toArray.size=1:=fun e=>by
   have:xs.length=1:=by rw[jM];simpa using e
   obtain⟨x,rfl⟩:=Bc.1 this;exact eA x rfl
  exact⟨.tup xs,.tuple vs.toArray,hK,by rw[sH,dif_neg vW],.tup xs vs jM yV⟩
theorem za {f : FuncId} {fn : Func} {c : Code} (hf : P.funcs[f]? = some fn) (hb : fn.body = some c) (hn : (fn.name == "runtime.NumGoroutine") = false) (args : Array Value) (w : World) : (callFunc f args).run P w = .ok (.enter f args) w := by
 have gl : ¬ fn.name = "runtime.NumGoroutine" := by simpa using hn
 simp[callFunc,program,Sem.run,hf,gl,hb]
theorem O9 (hT : gY P T) (hG : ∀ w w', Gr w w' → G w → G w') (hm : P.follows .mixedOrders = true) (kOf : Nat → Nat) {f : FuncId} {fn : Func} {c : Code} (hf : P.funcs[f]? = some fn) (hb : fn.body = some c) (hn : (fn.name == "runtime.NumGoroutine") = false)
  (cU:xH fn.ntmps kOf c=true) {as:List PV} {r:PV} (hl:as.length<=fn.ntmps) (h:uE P G bK T kOf c (jF bK T fn.results.toList r) (as.map .p++List.replicate (fn.ntmps-as.length) (.p (.v undef))) []):fX P G f as r:=by
 refine⟨za hf hb hn,fun w B args rf hlen dW=>?_⟩
 refine calls_of_wp hf hb ?_;have hS:St (cF.of w) (fun b=>B b\/w.heap.size<=b) fn.ntmps (as.map .p++List.replicate (fn.ntmps-as.length) (.p (.v undef))) [] { tmps:=args.toArray++Array.replicate (fn.ntmps-args.toArray.size) undef,defers:=[] } w:=by
  exact Ud
 have gJ:∀b,(cF.of w).own b->B b\/w.heap.size<=b:=fun b hb=>hb.elim (fun h=>h.elim) .inr
 refine wp_mono (o4 hT (fun w' hg=>hG _ _ hg.gr rf) gJ hm kOf c (iv (fun _=>rfl) c) cU _ _ _ _ w h hS) ?_
 rintro e a w' ⟨env,H,hQ,sN⟩
 obtain⟨ι,hR,hE⟩:=sN.rep;have fin:(bj T env H fn.results.toList fun as=>(match as with
  |[a]=>bu bK H a fun p=>p=r
  |as=>bu bK H (.tup as) fun p=>p=r))->a.defers=[]/\∃v,(results fn a.tmps).run P w'=.ok v w'/\Gr w w'/\oe w' (fun b=>B b\/w.heap.size<=b) r (.returned v):=by
  intro h;obtain⟨x,v,hx,dN,hv⟩:=IJ (K:=fun a=>bu bK H a fun p=>p=r) hT hR hE h
  obtain⟨p,rfl,hp⟩:=IA hR gJ x v _ hx hv;exact⟨sN.defers,v,dN,hR.gr.gr,.ret hp⟩
 cases e with
 |ret=>exact fin hQ
 |normal=>exact fin hQ
 |exit id=>cases hQ
 |goto l=>cases hQ
 |panic c=>exact⟨sN.defers,hR.gr.gr,by cases hQ;rfl⟩
 |outgrown=>cases hQ
theorem dE (hT : gY P T) (hG : ∀ w w', Gr w w' → G w → G w') (hm : P.follows .mixedOrders = true) (kOf : Nat → Nat) {f : FuncId} {fn : Func} {c : Code} (hf : P.funcs[f]? = some fn) (hb : fn.body = some c) (hn : (fn.name == "runtime.NumGoroutine") = false)
  (cU:xH fn.ntmps kOf c=true) {l:List PV} {r:PV} (hl:decide (l.length<=fn.ntmps)=true)
  (h:∀(P':Program)(G':World->Prop)(E:SO),(∀f l r,fX P G f l r->fX P' G' f l r)->E=bK->uE P' G' E T kOf c (jF E T fn.results.toList r) (l.map .p++List.replicate (fn.ntmps-l.length) (.p (.v undef))) []):fX P G f l r:=
 O9 hT hG hm kOf hf hb hn cU (oT hl) (h P G bK (fun _ _ _ h=>h) rfl)
theorem ir (hT : gY P T) (hG : ∀ w w', Gr w w' → G w → G w') (hm : P.follows .mixedOrders = true) (kOf : Nat → Nat) {f : FuncId} {fn : Func} {c : Code} (hf : P.funcs[f]? = some fn) (hb : fn.body = some c) (hn : (fn.name == "runtime.NumGoroutine") = false)
  (cU:xH fn.ntmps kOf c=true) {l:List PV} {r:PV} (hl:decide (l.length<=fn.ntmps)=true)
  (h:∀(P':Program)(G':World->Prop)(E:SO),(∀f l r,fX P G f l r->fX P' G' f l r)->(∀f as H r H',jP P G f as H r H'->jP P' G' f as H r H')->E=bK->uE P' G' E T kOf c (jF E T fn.results.toList r) (l.map .p++List.replicate (fn.ntmps-l.length) (.p (.v undef))) []):fX P G f l r:=
 O9 hT hG hm kOf hf hb hn cU (oT hl) (h P G bK (fun _ _ _ h=>h) (fun _ _ _ _ _ h=>h) rfl)
def xA(E:SO)(m:Nat)(H:AH):AV->(AV->Prop)->Prop
 | .osl k i n,K=>(match Nat.ble m k with
  |true=>(match H[k]? with
   |some (some (.rows s rs _))=>E.pre i n rs/\K (.p (.ro s (E.sub rs i n)))
   |_=>False)
  |false=>K (.osl k i n))
 | .agg cs,K=>resL cs fun as=>(match AV.toP.toPL as with
  |some ps=>K (.p (.agg ps))
  |none=>K (.agg as))
 | .tup cs,K=>resL cs fun as=>(match AV.toP.toPL as with
  |some ps=>K (.p (.tup ps))
  |none=>K (.tup as))
 |a,K=>K a
where resL:List AV->(List AV->Prop)->Prop
 |[],K=>K []
 |a::as,K=>xA E m H a fun x=>resL as fun xs=>K (x::xs)
theorem Pc(m:Nat):∀(a:AV)(p:PV),a.toP=some p->a.low m=true
 | .p x,p,h=>rfl
 | .agg cs,p,h=>by
  exact T8
 | .tup cs,p,h=>by
  exact T8
 | .own _ _,_,h=>by cases h
 | .orw _ _ _,_,h=>by cases h
 | .osl _ _ _,_,h=>by cases h
 | .clo _ _ _,_,h=>by cases h
 | .junk,_,h=>by cases h
where toPL_low (m:Nat):∀(cs:List AV)(ps:List PV),AV.toP.toPL cs=some ps->AV.low.lowL m cs=true
 |[],_,_=>rfl
 |a::as,ps,h=>by
  unfold AV.toP.toPL at h
  split at h
  ·rename_i x ys hx hy;simp only[AV.low.lowL,gH];exact⟨Pc m a x hx,toPL_low m as ys hy⟩
  ·cases h
theorem Kw{w:World}{ι:Pl}{R:Nat->Prop}{m:Nat}{xs:List AV}{vs:List Value}{ps:List PV}(hp:AV.toP.toPL xs=some ps)(hl:xs.length=vs.length)(h:∀(j:Nat)(x:AV)(v:Value),xs[j]?=some x->vs[j]?=some v->x.low m=true->dD w ι R x v):
  ps.length=vs.length/\∀(j:Nat)(p:PV)(v:Value),ps[j]?=some p->vs[j]?=some v->cE w R p v:=by
 have hg:=sn xs ps hp;refine⟨by omega,fun j p v V8 hv=>?_⟩
 have hj:j<xs.length:=aZ
 obtain⟨p',Ir,r4⟩:=hg.2 j xs[j] (aB hj);rw[Ir]at V8;cases V8
 exact(h j _ v (aB hj) hv (Pc m _ _ r4)).toP _ r4
theorem YB{H:AH}{w:World}{ι:Pl}{m:Nat}(hR:eQ w0 B w ι H)(hB:∀b,w0.own b->B b):∀(a:AV)(v:Value)(K:AV->Prop),xA bK m H a K->dD w ι (Rd B ι H) a v->∃x,K x/\(x.low m=true->dD w (ι.take m) (Rd B (ι.take m) (H.take m)) x v)
 | .p x,v,K,h,hv=>⟨.p x,h,fun hl=>hv.trunc uy hl⟩
 | .own k j,v,K,h,hv=>⟨_,h,fun hl=>hv.trunc uy hl⟩
 | .orw k i j,v,K,h,hv=>⟨_,h,fun hl=>hv.trunc uy hl⟩
 | .clo f fs cs,v,K,h,hv=>⟨_,h,fun hl=>hv.trunc uy hl⟩
 | .junk,v,K,h,hv=>⟨_,h,fun hl=>hv.trunc uy hl⟩
 | .osl k i n,v,K,h,hv=>by
  unfold xA at h
  split at h
  ·rename_i KG;have KG:=aD KG
   split at h
   ·rename_i s rs t hk;change i+n<=rs.length/\K (.p (.ro s ((rs.drop i).take n)))at h
    cases hv with
    |osl0=>
     obtain⟨hle,h⟩:=h;have e:(rs.drop i).take 0=[]:=jT
     exact⟨_,h,fun _=>.p _ _ (.ro0 _ _ _)⟩
    |osl _ _ _ c cap sz hi hn hm hz=>
     obtain⟨hle,h⟩:=h;refine⟨_,h,fun _=>.p _ _ ?_⟩
     obtain⟨es,hl,hh⟩:=(hR.blk k _ _ sz hk hi).2;have qJ:=(hR.blk k _ _ sz hk hi).1 c rfl
     rcases hh with⟨ec,_⟩|⟨c',arr,ec,hb,uS,dB⟩
     ·cases ec
     cases ec
     have hlen:((rs.drop i).take n).length=n:=aZ
     have aU:∀(q:Nat)(row:List PV),((rs.drop i).take n)[q]?=some row->rs[i+q]?=some row:=fun q row hr=>(Dw hr).1
     have Io:Rd B (ι.take m) (H.take m) c:=⟨hB c qJ,fun⟨k',b',s',h1,h2⟩=>by
      obtain⟨g1,g2⟩:=me h1
      have:=hR.inj k k' _ b' c sz s' hk g2 hi (me h2).2
      omega⟩
     have gC:∀(q j:Nat)(row:List PV)(a:PV),((rs.drop i).take n)[q]?=some row->row[j]?=some a->∃u,(arr[(i+q)*sz.1+j]?).getD undef=u/\w.cell? ⟨c,i*sz.1+(q*s+j),none⟩=some u/\u.oneCell'=true/\cE w (Rd B (ι.take m) (H.take m)) a u:=by
      intro q j row a hr ha;obtain⟨u,hu,h1,x5⟩:=dB _ j row a (aU q row hr) ha;have e2:i*sz.1+(q*s+j)=(i+q)*sz.1+j:=aZ
      exact⟨u,by rw[hu];rfl,by rw[ka hb,e2];exact hu,h1,x5.keep (nR _) fun b hb _=>⟨uy b hb,rfl⟩⟩
     have:=cE.ro (w:=w) (R:=Rd B (ι.take m) (H.take m)) s ((rs.drop i).take n) c (i*sz.1) cap (fun q j=>(arr[(i+q)*sz.1+j]?).getD undef) Io (md hb) oM (fun q row hr=>by grind)
      (fun q j row a hr ha=>by grind) (fun q j row a hr ha=>by grind)
     grind
   ·cases h
  ·exact⟨_,h,fun hl=>hv.trunc uy hl⟩
 | .agg cs,v,K,h,hv=>by
  cases hv with
  |agg _ vs hl hr=>
   obtain⟨xs,hK,jM,yV⟩:=resL_sound hR hB cs vs _ hl hr h
   split at hK
   ·rename_i ps hp
    have:=Kw hp (jM.trans hl) yV
    exact⟨_,hK,fun _=>.p _ _ (.agg ps vs this.1 this.2)⟩
   ·exact⟨_,hK,fun jW=>.agg xs vs (jM.trans hl) fun j a v ha hv=>yV j a v ha hv (dc jW ha)⟩
 | .tup cs,v,K,h,hv=>by
  cases hv with
  |tup _ vs hl hr=>
   obtain⟨xs,hK,jM,yV⟩:=resL_sound hR hB cs vs _ hl hr h
   split at hK
   ·rename_i ps hp
    have:=Kw hp (jM.trans hl) yV
    exact⟨_,hK,fun _=>.p _ _ (.tup ps vs this.1 this.2)⟩
   ·exact⟨_,hK,fun jW=>.tup xs vs (jM.trans hl) fun j a v ha hv=>yV j a v ha hv (dc jW ha)⟩
where resL_sound {H:AH} {w:World} {ι:Pl} {m:Nat} (hR:eQ w0 B w ι H) (hB:∀b,w0.own b->B b):∀(as:List AV)(vs:List Value)(K:List AV->Prop),as.length=vs.length->(∀(j:Nat)(a:AV)(v:Value),as[j]?=some a->vs[j]?=some v->dD w ι (Rd B ι H) a v)->xA.resL bK m H as K →
  ∃xs,K xs/\xs.length=as.length/\∀(j:Nat)(x:AV)(v:Value),xs[j]?=some x->vs[j]?=some v->x.low m=true->dD w (ι.take m) (Rd B (ι.take m) (H.take m)) x v
 |[],vs,K,hl,hr,h=>⟨[],h,rfl,fun j p v hp=>by simp at hp⟩
 |a::as,[],K,hl,hr,h=>by simp at hl
 |a::as,v::vs,K,hl,hr,h=>by
  obtain⟨x,hx,yV⟩:=YB hR hB a v _ h (hr 0 a v rfl rfl);obtain⟨xs,hK,jM,yU⟩:=resL_sound hR hB as vs _ we (fun j b u hb hu=>hr (j+1) b u (by simpa using hb) (by simpa using hu)) hx
  grind
def VU:AH->Bool
 |[]=>true
 |none::H=>VU H
 |some _::_=>false
theorem CJ:∀{H:AH}{k:Nat}{b:cH},VU H=true->H[k]?≠some (some b)
 |[],k,b,_=>by simp
 |none::H,0,b,_=>by simp
 |none::H,k+1,b,h=>by simpa using CJ (k:=k) (b:=b) (H:=H) h
 |some _::_,_,_,h=>by cases h
def eU(E:SO)(T:TT)(rs:List ResultVar)(tags:List Nat)(r:AV)(H':AH)(e:Exit)(env:List AV)(H:AH):Prop:=
 match e with
 | .ret=>bj T env H rs fun as=>(match as with
  |[a]=>xA E H'.length H a fun x=>x=r/\H.take H'.length=dC tags H'/\jW H'.length (dC tags H')=true/\r.low H'.length=true
  |as=>xA E H'.length H (.tup as) fun x=>x=r/\H.take H'.length=dC tags H'/\jW H'.length (dC tags H')=true/\r.low H'.length=true)
 | .normal=>bj T env H rs fun as=>(match as with
  |[a]=>xA E H'.length H a fun x=>x=r/\H.take H'.length=dC tags H'/\jW H'.length (dC tags H')=true/\r.low H'.length=true
  |as=>xA E H'.length H (.tup as) fun x=>x=r/\H.take H'.length=dC tags H'/\jW H'.length (dC tags H')=true/\r.low H'.length=true)
 | .panic ch=>r=.p (.pan ch)/\VU (dC tags H')=true
 |_=>False
def Bn:Nat->(List Nat->Prop)->Prop
 |0,K=>K []
 |n+1,K=>∀t,Bn n fun ts=>K (t::ts)
theorem Mu:∀{n:Nat}{K:List Nat->Prop},Bn n K->∀tags:List Nat,tags.length=n->K tags
 |0,K,h,tags,hl=>by have:=aQ hl;subst this;exact h
 |n+1,K,h,[],hl=>by simp at hl
 |n+1,K,h,t::ts,hl=>Mu (h t) ts we
theorem xay (hT : gY P T) (hm : P.follows .mixedOrders = true) (kOf : Nat → Nat) {f : FuncId} {fn : Func} {c : Code} (hf : P.funcs[f]? = some fn) (hb : fn.body = some c) (hn : (fn.name == "runtime.NumGoroutine") = false)
  (cU:xH fn.ntmps kOf c=true) {as:List AV} {H:AH} {r:AV} {H':AH} (hl:as.length<=fn.ntmps) (h:∀tags:List Nat,tags.length=H.length->uE P G bK T kOf c (eU bK T fn.results.toList tags r H') (as++List.replicate (fn.ntmps-as.length) (.p (.v undef))) (dC tags H)):jP P G f as H r H':=by
 refine⟨za hf hb hn,fun B w ι args tags bS hC hR hlen dW=>?_⟩
 refine calls_of_wp hf hb ?_;have hS:St ⟨w,iV ι (dC tags H),[],fun _=>none⟩ B fn.ntmps (as++List.replicate (fn.ntmps-as.length) (.p (.v undef))) (dC tags H) { tmps:=args.toArray++Array.replicate (fn.ntmps-args.toArray.size) undef,defers:=[] } w:=
  ⟨rfl,by simp;omega,(fun t v h=>by cases h),ι,hR,MG hl hlen dW⟩
 refine wp_mono (o4 hT (fun w' hg=>hC.stab w' hg) hC.own hm kOf c (iv (fun _=>rfl) c) cU _ _ _ _ w (h tags bS) hS) ?_
 rintro e a w' ⟨env,H2,hQ,sN⟩
 obtain⟨ι2,cS,hE⟩:=sN.rep;have fin:(bj T env H2 fn.results.toList fun as=>(match as with
  |[a]=>xA bK H'.length H2 a fun x=>x=r/\H2.take H'.length=dC tags H'/\jW H'.length (dC tags H')=true/\r.low H'.length=true
  |as=>xA bK H'.length H2 (.tup as) fun x=>x=r/\H2.take H'.length=dC tags H'/\jW H'.length (dC tags H')=true/\r.low H'.length=true)) →
   a.defers=[]/\∃v,(results fn a.tmps).run P w'=.ok v w'/\∃ι',eQ ⟨w,iV ι (dC tags H),[],fun _=>none⟩ B w' ι' (dC tags H')/\zY w' ι' (Rd B ι' (dC tags H')) r (.returned v):=by
  intro h;obtain⟨x,v,hx,dN,hv⟩:=IJ (K:=fun a=>xA bK H'.length H2 a fun x=>x=r/\H2.take H'.length=dC tags H'/\jW H'.length (dC tags H')=true/\r.low H'.length=true) hT cS hE h
  obtain⟨y,⟨rfl,e1,e2,e3⟩,hy⟩:=YB cS hC.own x v _ hx hv;have aj:=hy e3;rw[<-e1]at e2;have qL:=cS.trunc (m:=H'.length) e2;rw[e1]at qL aj;exact⟨sN.defers,v,dN,_,qL,.ret aj⟩
 cases e with
 |ret=>exact fin hQ
 |normal=>exact fin hQ
 |exit id=>cases hQ
 |goto l=>cases hQ
 |panic ch=>
  obtain⟨rfl,mM⟩:=hQ;refine⟨sN.defers,List.replicate (dC tags H').length (none,0,0),⟨cS.gr,cS.fut,by simp,fun k b c s h1=>absurd h1 (CJ mM),fun k l b b' c s s' h1=>absurd h1 (CJ mM)⟩,rfl⟩
 |outgrown=>cases hQ
theorem z1j (hT : gY P T) (hm : P.follows .mixedOrders = true) (kOf : Nat → Nat) {f : FuncId} {fn : Func} {c : Code} (hf : P.funcs[f]? = some fn) (hb : fn.body = some c) (hn : (fn.name == "runtime.NumGoroutine") = false)
  (cU:xH fn.ntmps kOf c=true) {as:List AV} {H:AH} {r:AV} {H':AH} (hl:decide (as.length<=fn.ntmps)=true)
  (h:∀(P':Program)(G':World->Prop)(E:SO),(∀f l r,fX P G f l r->fX P' G' f l r)->(∀f as H r H',jP P G f as H r H'->jP P' G' f as H r H')->E=bK →
   Bn H.length fun tags=>uE P' G' E T kOf c (eU E T fn.results.toList tags r H') (as++List.replicate (fn.ntmps-as.length) (.p (.v undef))) (dC tags H)):jP P G f as H r H':=
 xay hT hm kOf hf hb hn cU (oT hl) fun tags bS=>Mu (h P G bK (fun _ _ _ h=>h) (fun _ _ _ _ _ h=>h) rfl) tags bS
end
def NH(env:List AV)(live:List Nat):List AV:=live.map fun t=>env.getD t .junk
def GM(t:Nat):List Nat->List AV->AV
 |l::ls,v::vs=>(match Nat.beq t l with
  |true=>v
  |false=>GM t ls vs)
 |_,_=>.junk
def qN(live:List Nat)(vs:List AV):Nat->Nat->List AV
 |0,_=>[]
 |n+1,t=>GM t live vs::qN live vs n (t+1)
theorem Dk(live:List Nat)(vs:List AV):∀(n t:Nat),(qN live vs n t).length=n
 |0,_=>rfl
 |n+1,t=>by simp[qN,Dk live vs n]
theorem Mt(live:List Nat)(vs:List AV):∀(n t i:Nat),i<n->(qN live vs n t)[i]?=some (GM (t+i) live vs)
 |0,_,_,h=>by omega
 |n+1,t,0,_=>by simp[qN]
 |n+1,t,i+1,h=>by
  simp only[qN,bY];rw[Mt live vs n (t+1) i oM,show t+1+i=t+(i+1) by omega]
theorem Mq(env:List AV)(t:Nat):∀(live:List Nat),GM t live (NH env live)=env.getD t .junk/\env.getD t .junk∈NH env live\/GM t live (NH env live)=.junk
 |[]=>.inr rfl
 |l::ls=>by
  simp only[NH,jZ,GM]
  split
  ·simp_all
  ·rcases Mq env t ls with⟨h1,h2⟩|h
   ·exact .inl ⟨h1,bC _ h2⟩
   ·exact .inr h
structure mJ{γ:Type}(n:Nat)(live:List Nat)(m:Nat)(S:γ->List AV)(h:γ->AH)(env:List AV)(H:AH)(x:γ):Prop where
 len:env.length=n
 slots:NH env live=S x
 mem:H.take m=h x
 low:AV.low.lowL m (S x)=true
 jW:jW m (h x)=true
theorem mJ.wk{γ:Type}{n:Nat}{live:List Nat}{m:Nat}{S:γ->List AV}{h:γ->AH}{env:List AV}{H:AH}{x:γ}(hh:mJ n live m S h env H x):Wk env H (qN live (S x) n 0) (h x):=by
 obtain⟨h1,h2,h3,h4,h5⟩:=hh;rw[<-h2]at h4 ⊢;rw[<-h3]at h5 ⊢;intro w0 B w ι tmps _ hR hE;refine⟨ι.take m,hR.trunc h5,by rw[Dk,<- h1];exact hE.len,fun t a v ha hv=>?_⟩
 have ht:t<n:=by
  have:=(aC.1 ha).1
  rw[Dk]at this;exact this
 rw[Mt _ _ _ _ _ ht,cB]at ha
 cases ha
 rcases Mq env t live with⟨e,hm⟩|e
 ·rw[e];have hx:env[t]?=some (env.getD t .junk):=by
   grind
  obtain⟨j,hj⟩:=List.getElem?_of_mem hm;exact(hE.at_ t _ v hx hv).trunc uy (dc h4 hj)
 ·rw[e];exact .junk _
inductive pg{γ:Type}(n:Nat)(live:List Nat)(m:Nat)(S:γ->List AV)(h:γ->AH)(I:γ->Prop)(μ:γ->Nat)(k:Nat)(env:List AV)(H:AH):Prop
 |mk (y:γ) (hh:mJ n live m S h env H y) (hI:I y) (hμ:μ y<k)
theorem gU{γ:Type}(n:Nat)(live:List Nat)(m:Nat)(S:γ->List AV)(h:γ->AH)(I:γ->Prop)(μ:γ->Nat)(x0:γ){body:(Exit->List AV->AH->Prop)->List AV->AH->Prop}{Q:Exit->List AV->AH->Prop}{env:List AV}{H:AH}
  (h0:mJ n live m S h env H x0) (hI:I x0)
  (hr:∀x,I x->body (nB (pg n live m S h I μ (μ x)) Q) (qN live (S x) n 0) (h x)):iO body Q env H:=by
 refine .mk (fun k env H=>∃x,I x/\env=qN live (S x) n 0/\H=h x/\μ x=k) (pg n live m S h I μ) ⟨_,_,_,h0.wk,x0,hI,rfl,rfl,rfl⟩ ?_ ?_
 ·rintro k env' H' ⟨y,hh,hI,hμ⟩
  exact⟨_,_,_,hh.wk,⟨y,hI,rfl,rfl,rfl⟩,hμ⟩
 ·rintro k env H ⟨x,hx,rfl,rfl,rfl⟩
  exact hr x hx
inductive pf{γ:Type}(n:Nat)(live:List Nat)(m:Nat)(S:γ->List AV)(h:γ->AH)(I:γ->Prop)(μ:γ->Nat)(k:Nat)(env:List AV)(H:AH):Prop
 |mk (y:γ) (hh:mJ n live m S h env H y) (hI:I y) (hμ:μ y<k)
 |wk (y:γ) (env1:List AV) (H1:AH) (hw:Wk env H env1 H1) (hh:mJ n live m S h env1 H1 y) (hI:I y) (hμ:μ y<k)
theorem C9{γ:Type}(n:Nat)(live:List Nat)(m:Nat)(S:γ->List AV)(h:γ->AH)(I:γ->Prop)(μ:γ->Nat)(x0:γ){body:(Exit->List AV->AH->Prop)->List AV->AH->Prop}{Q:Exit->List AV->AH->Prop}{env:List AV}{H:AH}
  (h0:mJ n live m S h env H x0) (hI:I x0)
  (hr:∀x,I x->body (nB (pf n live m S h I μ (μ x)) Q) (qN live (S x) n 0) (h x)):iO body Q env H:=by
 refine .mk (fun k env H=>∃x,I x/\env=qN live (S x) n 0/\H=h x/\μ x=k) (pf n live m S h I μ) ⟨_,_,_,h0.wk,x0,hI,rfl,rfl,rfl⟩ ?_ ?_
 ·rintro k env' H' h'
  cases h' with
  |mk y hh hI hμ=>exact⟨_,_,_,hh.wk,⟨y,hI,rfl,rfl,rfl⟩,hμ⟩
  |wk y env1 H1 hw hh hI hμ=>exact⟨_,_,_,hw.trans hh.wk,⟨y,hI,rfl,rfl,rfl⟩,hμ⟩
 ·rintro k env H ⟨x,hx,rfl,rfl,rfl⟩
  exact hr x hx
theorem Ea {P : Program} {f : FuncId} {fn : Func} (hf : P.funcs[f]? = some fn) (hb : fn.body.isSome = true) (hn : (fn.name == "runtime.NumGoroutine") = false) (args : Array Value) (w : World) : (callFunc f args).run P w = .ok (.enter f args) w := by
 have gl : ¬ fn.name = "runtime.NumGoroutine" := by simpa using hn
 obtain⟨c,hc⟩:=KR.1 hb;simp[callFunc,program,Sem.run,hf,gl,hc]
theorem Od{w:World}{B:Nat->Prop}:∀(vs args:List Value),(vs.map PV.v).length=args.length->(∀(j:Nat)(a:PV)(v:Value),(vs.map PV.v)[j]?=some a->args[j]?=some v->cE w B a v)->args=vs
 |[],[],_,_=>rfl
 |[],_::_,h,_=>by simp at h
 |_::_,[],h,_=>by simp at h
 |v::vs,a::args,hl,h=>by
  have h0:=h 0 _ a rfl rfl;have ih:=Od (w:=w) (B:=B) vs args we (fun j x y hx hy=>h (j+1) x y (by simpa using hx) (by simpa using hy))
  cases h0
  rw[ih]
theorem BG {P : Program} {G : World → Prop} {f : FuncId} {fn : Func} (hf : P.funcs[f]? = some fn) (hb : fn.body.isSome = true) (hn : (fn.name == "runtime.NumGoroutine") = false) (vs : List Value) (r : PV)
  (h:∀w,G w->Calls P f vs.toArray w fun e w'=>∃v,e=.returned v/\Gr w w'/\∀R,cE w' R r v):fX P G f (vs.map .v) r:=
 ⟨Ea hf hb hn,fun w B args hG hl hr=>by
  have:=Od vs args hl hr
  subst this;exact(h w hG).mono fun e w' ⟨v,h1,h2,h3⟩=>⟨h2,by rw[h1];exact .ret (h3 _)⟩⟩
theorem bt{p q:Prop}(kk9:q) (h:q->p:=by
 intro kk9
 repeat (first|(simp only[k1];try cbv)|(simp only[k2];try cbv)|(simp only[k3];try cbv)|(simp only[k4];try cbv)|(simp only[h5];try cbv)|(simp only[h6];try cbv)|(simp only[z1];try cbv)|(simp only[z2];try cbv)|(simp only[z3];try cbv)|(simp only[z4];try cbv)|(simp only[z5];try cbv)|(refine⟨p1,p2,p3,?_⟩;cbv)|(simp only[z6];try cbv)|(simp only[d1];try cbv)|(refine⟨p1,_,g1,?_⟩;cbv)|(simp only[w9];try cbv)|(simp only[w10];try cbv)|(simp only[w13];try cbv)|(simp only[w32];try cbv)|(refine⟨_,dG,?_⟩;cbv)|(refine⟨_,gE,?_⟩;cbv)|(refine⟨_,eg,?_⟩;cbv)|(simp only[d2];try cbv)|(simp only[eT];try cbv)|(simp only[eF _ e0,eT];try cbv)|(simp only[eF _ e0,eF _ e1,eT];try cbv)|(simp only[eF _ e0,eF _ e1,eF _ e2,eT];try cbv)|(refine⟨_,hk,?_⟩;cbv)|(simp only[hl];try cbv)|(simp only[v1];try cbv)|(simp only[w1];try cbv)|(refine⟨_,hd,?_⟩;cbv)|(simp only[w2];try cbv)|(simp only[w3];try cbv)|(simp only[ei];try cbv)|(simp only[ei2];try cbv)|(simp only[ei9];try cbv)|(refine⟨_,hh,?_⟩;cbv)|(simp only[e1];try cbv)|(simp only[d9];try cbv)|(simp only[em];try cbv)|(simp only[ea];try cbv)|(simp only[es1];try cbv)|(simp only[es2];try cbv)|(simp only[w5];try cbv)|(simp only[f1];try cbv)|(simp only[f2];try cbv)|(simp only[f3];try cbv)|(simp only[f4];try cbv)|(simp only[f5];try cbv)|(simp only[ew];try cbv)|(simp only[een];try cbv)|(simp only[ej1];try cbv)|(simp only[es3];try cbv)|(simp only[f110];try cbv)|(simp only[f116];try cbv)|(simp only[f114];try cbv)|(simp only[f98];try cbv)|(simp only[f92];try cbv)|(simp only[f34];try cbv)|(simp only[f39];try cbv)|(simp only[f48];try cbv)|(refine⟨p2,_,g2,?_⟩;cbv)|(refine⟨_,oI,?_⟩;cbv)|(simp only[f120];try cbv)|(refine⟨_,n6,?_⟩;cbv)|(refine⟨p3,_,g3,?_⟩;cbv)|(refine⟨_,lr,?_⟩;cbv)|(simp only[w4];try cbv)|(simp only[w6];try cbv)|(simp only[f117];try cbv)|(refine⟨_,qR,?_⟩;cbv)|(simp only[e2];try cbv)|(refine⟨gy,?_⟩;cbv)|(refine⟨p0,_,g0,?_⟩;cbv)|(refine⟨_,hr,?_⟩;cbv)|(simp only[ej];try cbv)|(simp only[es];try cbv)|(refine⟨_,he,?_⟩;cbv)|(refine⟨p2,?_⟩;cbv)|(simp only[ejo];try cbv)|(simp only[ejm];try cbv)|(refine⟨p1,p3,p4,?_⟩;cbv)|(simp only[ex];try cbv)|(refine⟨_,yG,?_⟩;cbv)|(refine⟨p0,q1,q2,?_⟩;cbv)|(simp only[x1];try cbv)|(refine⟨_,jY,?_⟩;cbv)|(refine⟨_,vE,?_⟩;cbv)|(refine⟨_,nF,?_⟩;cbv)|(refine⟨_,uX,?_⟩;cbv)|(refine⟨_,uI,?_⟩;cbv)|(refine⟨_,nT,?_⟩;cbv)|(simp only[uW];try cbv)|(simp only[d0];try cbv)|(refine⟨_,wV,?_⟩;cbv)|(refine⟨p0,?_⟩;cbv)|(simp only[t0];try cbv)|(refine⟨_,nY,?_⟩;cbv)|(simp only[UK];try cbv)|(simp only[f0];try cbv)|(refine⟨p5,p0,p4,?_⟩;cbv)|(simp only[a3,a1,a2];try cbv)|(simp only[e5];try cbv)|(refine⟨_,hb,?_⟩;cbv)|fail)
 first|done|exact kk9):p:=h kk9
theorem mP{p q:Prop}(kk9:q) (h:q->p:=by
 intro kk9
 repeat (first|(simp only[cu];try cbv)|(simp only[d1];try cbv)|(refine⟨q6,?_⟩;cbv)|(simp only[s6];try cbv)|(simp only[b1];try cbv)|(simp only[b2];try cbv)|(refine⟨p0,p5,p4,?_⟩;cbv)|(simp only[r0,r3,a2];try cbv)|(simp only[d2];try cbv)|(refine⟨q12,q6,?_⟩;cbv)|(simp only[s12];try cbv)|(simp only[b3];try cbv)|(simp only[d3];try cbv)|(simp only[d4];try cbv)|(simp only[d5];try cbv)|(simp only[d6];try cbv)|(refine⟨q18,q12,q6,?_⟩;cbv)|(simp only[s18];try cbv)|(simp only[b4];try cbv)|(simp only[z1];try cbv)|(simp only[z3];try cbv)|(simp only[c3];try cbv)|(simp only[c4];try cbv)|(simp only[c5];try cbv)|(simp only[c6];try cbv)|(simp only[c2'];try cbv)|(refine⟨c8,?_⟩;cbv)|(simp only[c7];try cbv)|(simp only[z2];try cbv)|(refine⟨p1,_,g1,?_⟩;cbv)|(simp only[h95];try cbv)|(simp only[e1];try cbv)|(simp only[e2];try cbv)|(simp only[es];try cbv)|(simp only[c1];try cbv)|(simp only[c2];try cbv)|(simp only[em];try cbv)|(simp only[wd];try cbv)|(simp only[ea];try cbv)|(simp only[d7];try cbv)|(simp only[d8];try cbv)|(simp only[ej];try cbv)|(simp only[e1'];try cbv)|(simp only[e2'];try cbv)|(refine⟨_,hl,?_⟩;cbv)|(simp only[e3];try cbv)|(simp only[e4];try cbv)|(simp only[eaq];try cbv)|(simp only[e3'];try cbv)|(simp only[e4'];try cbv)|(refine⟨_,hp,?_⟩;cbv)|(refine⟨_,he,?_⟩;cbv)|(simp only[w1];try cbv)|(simp only[iU];try cbv)|(simp only[z0];try cbv)|(refine⟨p0,_,g0,?_⟩;cbv)|(refine⟨_,hi,?_⟩;cbv)|(simp only[d0];try cbv)|(simp only[f48];try cbv)|(refine⟨_,oI,?_⟩;cbv)|(simp only[f120];try cbv)|(refine⟨p1,p2,p3,?_⟩;cbv)|(simp only[x1];try cbv)|(simp only[f117];try cbv)|(refine⟨_,hj,?_⟩;cbv)|(refine⟨p2,p3,p4,?_⟩;cbv)|(simp only[a1];try cbv)|(simp only[f123];try cbv)|(refine⟨_,hv,?_⟩;cbv)|(simp only[hy];try cbv)|(simp only[ei];try cbv)|(refine⟨_,hr,?_⟩;cbv)|(simp only[w2];try cbv)|(simp only[w3];try cbv)|(simp only[w4];try cbv)|(refine⟨p3,p4,p5,?_⟩;cbv)|(refine⟨p3,p4,?_⟩;cbv)|(refine⟨p4,p5,?_⟩;cbv)|(simp only[w5];try cbv)|(simp only[ejm];try cbv)|(simp only[w32];try cbv)|(simp only[w9];try cbv)|(simp only[w10];try cbv)|(simp only[w13];try cbv)|(refine⟨p1,p4,p5,?_⟩;cbv)|(refine⟨p1,p4,?_⟩;cbv)|(refine⟨_,dG,?_⟩;cbv)|(refine⟨_,gE,?_⟩;cbv)|(refine⟨_,Aw,?_⟩;cbv)|(simp only[ei2];try cbv)|(refine⟨p6,p7,p5,?_⟩;cbv)|(refine⟨p6,p7,?_⟩;cbv)|(refine⟨p7,p5,?_⟩;cbv)|(simp only[x2];try cbv)|(simp only[ek];try cbv)|(refine⟨_,nF,?_⟩;cbv)|(refine⟨_,jY,?_⟩;cbv)|(refine⟨p0,p3,p4,?_⟩;cbv)|(refine⟨p00,p03,p3n,?_⟩;cbv)|(refine⟨p03,p3n,?_⟩;cbv)|(simp only[x3];try cbv)|(refine⟨p00,p02,p2n,?_⟩;cbv)|(refine⟨p02,p2n,?_⟩;cbv)|(simp only[q];try cbv)|(simp only[e0,q];try cbv)|(simp only[e0,e1,q];try cbv)|(simp only[e0,e1,e2,q];try cbv)|(simp only[e0,e1,e2,e3,q];try cbv)|(simp only[e0,e1,e2,e3,e4,q];try cbv)|(simp only[e0,e1,e2,e3,e4,e5,q];try cbv)|(simp only[e0,e1,e2,e3,e4,e5,e6,q];try cbv)|(simp only[e0,e1,e2,e3,e4,e5,e6,e7,q];try cbv)|(simp only[e0,e1,e2,e3,e4,e5,e6,e7,e8,q];try cbv)|(simp only[e0,e1,e2,e3,e4,e5,e6,e7,e8,e9,q];try cbv)|(refine⟨p00,_,g0,?_⟩;cbv)|(refine⟨p00,p01,p1n,?_⟩;cbv)|(refine⟨p01,p1n,?_⟩;cbv)|(refine⟨_,hk,?_⟩;cbv)|(refine⟨_,yG,?_⟩;cbv)|(refine⟨_,vE,?_⟩;cbv)|(refine⟨_,gk,?_⟩;cbv)|(simp only[f1];try cbv)|(simp only[f2];try cbv)|(refine⟨_,uI,?_⟩;cbv)|(simp only[f3];try cbv)|(refine⟨p1,p2,?_⟩;cbv)|(refine⟨p2,p3,?_⟩;cbv)|(refine⟨_,nT,?_⟩;cbv)|(refine⟨_,wV,?_⟩;cbv)|(refine⟨_,nY,?_⟩;cbv)|(simp only[UK];try cbv)|(refine⟨p1,?_⟩;cbv)|(simp only[r1];try cbv)|fail)
 first|done|exact kk9):p:=h kk9
theorem mT{p q:Prop}(kk9:q) (h:q->p:=by
 intro kk9
 repeat (first|(simp only[ea];try cbv)|(simp only[l0];try cbv)|(simp only[d1];try cbv)|(refine⟨p1,_,g1,?_⟩;cbv)|(simp only[d2];try cbv)|(refine⟨_,ho,?_⟩;cbv)|(refine⟨p0,_,g1,?_⟩;cbv)|(simp only[q1];try cbv)|(simp only[o1];try cbv)|(simp only[ok2];try cbv)|(refine⟨fA7,fA1,fA2,?_⟩;cbv)|(simp only[fA8];try cbv)|(simp only[fA3,fA4];try cbv)|(refine⟨fA5,?_⟩;cbv)|(simp only[fA6];try cbv)|(refine⟨fB5,?_⟩;cbv)|(simp only[fB6];try cbv)|(refine⟨fA1,fA2,?_⟩;cbv)|(simp only[sb1];try cbv)|(refine⟨(pr _ _ rfl),?_⟩;cbv)|(simp only[sb1,sb2,sb3];try cbv)|(simp only[d6];try cbv)|(simp only[eK];try cbv)|(refine⟨pz,_,gz,?_⟩;cbv)|(simp only[n0,n1];try cbv)|(refine⟨p0,_,rfl,?_⟩;cbv)|(refine⟨p1,_,rfl,?_⟩;cbv)|(simp only[eF];try cbv)|(simp only[ok];try cbv)|(simp only[ok8];try cbv)|(simp only[eK2];try cbv)|(simp only[ok3];try cbv)|(simp only[o5];try cbv)|(refine⟨p0,?_⟩;cbv)|(refine⟨p5,?_⟩;cbv)|(simp only[hJ];try cbv)|(refine⟨_,r2,?_⟩;cbv)|(refine⟨_,r1,?_⟩;cbv)|(refine⟨p0,_,r0,?_⟩;cbv)|(simp only[dk];try cbv)|(simp only[w1];try cbv)|(simp only[eo];try cbv)|(simp only[d8];try cbv)|(simp only[w1,w2];try cbv)|(simp only[w1,w2,w3];try cbv)|(simp only[w1,w2,w3,w4];try cbv)|(simp only[qb];try cbv)|(simp only[w1,w2,w3,w4,w5];try cbv)|(simp only[w1,w2,w3,w4,w5,w6];try cbv)|(simp only[o0];try cbv)|(simp only[eb];try cbv)|(refine⟨_,eD,?_⟩;cbv)|(simp only[hK];try cbv)|(simp only[cJ];try cbv)|(simp only[z0];try cbv)|(simp only[z1];try cbv)|(refine⟨z4,_,r0,?_⟩;cbv)|(refine⟨_,h1,?_⟩;cbv)|(simp only[z3];try cbv)|(simp only[e0];try cbv)|(refine⟨_,h2,?_⟩;cbv)|(simp only[z2];try cbv)|(simp only[fA.h5,fA.h2,fA.eT];try cbv)|(simp only[e1];try cbv)|(simp only[e2];try cbv)|(simp only[ek];try cbv)|(simp only[es];try cbv)|(simp only[hf.sz,hf.lt];try cbv)|(refine⟨hf.p0,_,hf.g,?_⟩;cbv)|(refine⟨_,hf.g,?_⟩;cbv)|(refine⟨hf.p0,?_⟩;cbv)|(simp only[hf.sb,hf.cv,hf.m,hf.ad,hf.ai];try cbv)|(simp only[sz];try cbv)|(refine⟨_,wK,?_⟩;cbv)|(refine⟨_,au,?_⟩;cbv)|(simp only[fA.a1];try cbv)|(refine⟨_,kS,?_⟩;cbv)|(refine⟨_,wW,?_⟩;cbv)|(refine⟨_,sT,?_⟩;cbv)|(simp only[fA.b1];try cbv)|(refine⟨_,rG,?_⟩;cbv)|(simp only[fA.a2];try cbv)|(refine⟨_,u6,?_⟩;cbv)|(refine⟨_,dw,?_⟩;cbv)|fail)
 first|done|exact kk9):p:=h kk9
theorem aa{p q:Prop}(kk9:q) (h:q->p:=by
 intro kk9
 repeat (first|(simp only[d1];try cbv)|(simp only[d2];try cbv)|(simp only[v5];try cbv)|(simp only[v11];try cbv)|(simp only[v31];try cbv)|(simp only[v12];try cbv)|(simp only[v13];try cbv)|(simp only[v14];try cbv)|(simp only[v16];try cbv)|(simp only[v17];try cbv)|(simp only[v6];try cbv)|(simp only[v7];try cbv)|(simp only[v18];try cbv)|(simp only[v38];try cbv)|(simp only[v40];try cbv)|(simp only[v41];try cbv)|(simp only[jl];try cbv)|(simp only[l0];try cbv)|(simp only[l1];try cbv)|(simp only[jJ];try cbv)|(refine⟨_,h1,?_⟩;cbv)|(simp only[ok,ok',e2,wG,xO];try cbv)|(refine⟨p0,_,r0,?_⟩;cbv)|(refine⟨p0,_,r1,?_⟩;cbv)|(refine⟨_,eD,?_⟩;cbv)|(simp only[ea];try cbv)|(simp only[dk];try cbv)|(simp only[w1];try cbv)|(simp only[eo];try cbv)|(simp only[qb];try cbv)|(simp only[w1,w2];try cbv)|(simp only[w1,w2,w3];try cbv)|(simp only[w1,w2,w3,w4];try cbv)|(simp only[w1,w2,w3,w4,w5];try cbv)|(simp only[w1,w2,w3,w4,w5,w6];try cbv)|(simp only[h1];try cbv)|(simp only[h2];try cbv)|(simp only[h3];try cbv)|(simp only[f1];try cbv)|(refine⟨f2,_,f4,?_⟩;cbv)|(simp only[zE];try cbv)|(simp only[f3];try cbv)|(refine⟨f2,_,f3,?_⟩;cbv)|(simp only[e1];try cbv)|(simp only[e2];try cbv)|(simp only[e3];try cbv)|(simp only[e4];try cbv)|(simp only[d3];try cbv)|(simp only[d5];try cbv)|(simp only[wW];try cbv)|(refine⟨_,qr,?_⟩;cbv)|(refine⟨_,ht,?_⟩;cbv)|(simp only[h];try cbv)|(simp only[d8];try cbv)|(simp only[d9];try cbv)|(simp only[e5];try cbv)|(simp only[e6];try cbv)|(simp only[e7];try cbv)|(simp only[e8];try cbv)|(simp only[e9];try cbv)|(simp only[eb];try cbv)|(simp only[ec];try cbv)|(simp only[ed];try cbv)|(simp only[ee];try cbv)|(simp only[ef];try cbv)|(simp only[es];try cbv)|(refine⟨p1,_,r1,?_⟩;cbv)|(refine⟨p2,_,r2,?_⟩;cbv)|(simp only[eq];try cbv)|(simp only[eg];try cbv)|(simp only[u5];try cbv)|(simp only[Vt];try cbv)|(refine⟨_,hr,?_⟩;cbv)|(refine⟨_,hL,?_⟩;cbv)|(simp only[d0];try cbv)|(refine⟨_,hO,?_⟩;cbv)|(simp only[ho];try cbv)|(refine .z [1] hA rfl rfl rfl ?_;cbv)|(simp only[ok];try cbv)|(refine .inr (.z [4] (hM _ _ _ _ _ (xY 26 rfl (aD rfl))) rfl rfl rfl ?_);cbv)|(refine .inr (.z [5] (hM _ _ _ _ _ (xY 42 rfl (aD rfl))) rfl rfl rfl ?_);cbv)|(simp only[hm];try cbv)|(refine⟨_,hR,?_⟩;cbv)|(refine⟨_,hD,?_⟩;cbv)|(simp only[hd];try cbv)|(simp only[z1];try cbv)|(refine⟨_,hp,?_⟩;cbv)|(simp only[ok2];try cbv)|(simp only[de];try cbv)|(simp only[da];try cbv)|(refine⟨_,EY,?_⟩;cbv)|fail)
 first|done|exact kk9):p:=h kk9
theorem iO.wk{body:(Exit->List AV->AH->Prop)->List AV->AH->Prop}{Q:Exit->List AV->AH->Prop}{env env1:List AV}{H H1:AH}(hw:Wk env H env1 H1)(h:iO body Q env1 H1):iO body Q env H:=by
 obtain⟨I,N,⟨k,e2,H2,lf,hI⟩,hN,hr⟩:=h;exact .mk I N ⟨k,e2,H2,hw.trans lf,hI⟩ hN hr
theorem BS{env:List AV}{H:AH}{k j:Nat}{cs:List AV}{t:TypeId}{g:Option Nat}(s:Nat)(ty:TypeId)(hk:H[k]?=some (some (.box cs t g)))(hj:cs[j]?=some (.p (.v (.slice none 0 0)))):
  Wk env H env ((H++[some (cH.rows s [] ty)]).set k (some (.box (cs.set j (.osl H.length 0 0)) t g))):=by
 intro w0 B w ι tmps _ hR hE;obtain⟨hg,iH⟩:=hR.ghost s ty;have lI:=(aC.1 hk).1;have AL:(H++[some (cH.rows s [] ty)])[k]?=some (some (.box cs t g)):=aZ
 obtain⟨⟨c,sh⟩,hi⟩:∃x,(ι++[(none,s,0)])[k]?=some x:=⟨_,aB (by simp[hR.len];omega)⟩
 obtain⟨_,hs,c',arr,ec,gC,hlen,dB⟩:=hg.blk k _ c sh AL hi;subst ec;have hu:=hg.upd AL hi (b':=.box (cs.set j (.osl H.length 0 0)) t g) (w':=w) rfl rfl rfl rfl (fun _ _=>rfl) (fun R' hq=>⟨hs,c',arr,rfl,gC,by simp[hlen],fun m a ha=>by
  rw[bX]at ha
  split at ha
  ·rename_i e;subst e
   split at ha
   ·cases ha
    obtain⟨v,hv,h1,hr⟩:=dB j _ hj;refine⟨v,hv,h1,?_⟩
    have:=jS hr
    subst this;exact .osl0 _ _
   ·cases ha
  ·obtain⟨v,hv,h1,hr⟩:=dB m a ha;exact⟨v,hv,h1,hr.keep0 hq⟩⟩)
 exact⟨_,hu.1,hE.len,fun q x v hx hv=>((hE.at_ q x v hx hv).keep0 iH).keep0 hu.2⟩
theorem BZ{env:List AV}{H:AH}{d:Nat}(s:Nat)(ty:TypeId)(hd:env[d]?=some (.p (.v (.slice none 0 0)))):Wk env H (env.set d (.osl H.length 0 0)) (H++[some (cH.rows s [] ty)]):=by
 intro w0 B w ι tmps _ hR hE;obtain⟨hg,iH⟩:=hR.ghost s ty;refine⟨_,hg,by simp[hE.len],fun q x v hx hv=>?_⟩
 rw[bX]at hx
 split at hx
 ·rename_i e;subst e
  split at hx
  ·cases hx
   have:=jS (hE.at_ d _ v hd hv)
   subst this;exact .osl0 _ _
  ·cases hx
 ·exact(hE.at_ q x v hx hv).keep0 iH
theorem xd1{env:List AV}{H:AH}{k j l n:Nat}{cs:List AV}{t:TypeId}{g:Option Nat}{s:Nat}{rs:List (List PV)}{ty:TypeId}(hk:H[k]?=some (some (.box cs t g)))(hj:cs[j]?=some (.osl l 0 n))(hl:H[l]?=some (some (.rows s rs ty)))(hn:n<=rs.length):
  Wk env H (env.map (AV.scrub (one l))) (((H.map (pC (one l))).set l none).set k (some (.box ((cs.map (AV.scrub (one l))).set j (.p (.ro s (rs.take n)))) t g))):=by
 intro w0 B w ι tmps hB hR hE;have eA:l≠k:=by
  grind
 have lI:=(aC.1 hk).1;have uW:=(aC.1 hl).1;obtain⟨H',W4⟩:∃x,((H.map (pC (one l))).set l none).set k (some (.box ((cs.map (AV.scrub (one l))).set j (.p (.ro s (rs.take n)))) t g))=x:=⟨_,rfl⟩
 have hK:H'[k]?=some (some (.box ((cs.map (AV.scrub (one l))).set j (.p (.ro s (rs.take n)))) t g)):=aZ
 have hL:H'[l]?=some none:=aZ
 have hO:∀i,i≠k->i≠l->H'[i]?=(H.map (pC (one l)))[i]?:=fun i h1 h2=>by grind
 have gO:∀i b,H'[i]?=some (some b)->i≠l/\∃b0,H[i]?=some (some b0):=by
  intro i b hi;refine⟨(fun e=>by grind),?_⟩
  by_cases e:i=k
  ·grind
  ·have e2:i≠l:=fun e=>by grind
   rw[hO i e e2]at hi;obtain⟨b0,h0,_⟩:=MF hi;exact⟨b0,h0⟩
 have iP:∀d,iV ι H' d->iV ι H d:=by
  rintro d ⟨i,b,s',h1,h2⟩
  obtain⟨_,b0,h0⟩:=gO i b h1;exact⟨i,b0,s',h0,h2⟩
 have iH:bQ (some (one l)) w ι (Rd B ι H) w ι (Rd B ι H'):=⟨nR _,fun b hb _=>⟨⟨hb.1,fun ho=>hb.2 (iP b ho)⟩,rfl⟩,fun _ _ _ _ h=>h⟩
 have hro:∀v,dD w ι (Rd B ι H) (.osl l 0 n) v->cE w (Rd B ι H') (.ro s (rs.take n)) v:=by
  intro v hv
  cases hv with
  |osl0=>exact .ro0 _ _ _
  |osl _ _ _ c cap sz hi gl hm hz=>
   obtain⟨es,eS,hh⟩:=(hR.blk l _ _ sz hl hi).2;have qJ:=(hR.blk l _ _ sz hl hi).1 c rfl
   rcases hh with⟨ec,_⟩|⟨c',arr,ec,hb,uS,dB⟩
   ·cases ec
   cases ec
   have mM:¬iV ι H' c:=by
    rintro⟨i,b,s',h1,h2⟩
    obtain⟨e,b0,h0⟩:=gO i b h1;exact e (hR.inj i l b0 _ c s' sz h0 hl h2 hi)
   have hlen:(rs.take n).length=n:=aZ
   have aU:∀(q:Nat)(row:List PV),(rs.take n)[q]?=some row->rs[q]?=some row:=fun q row hr=>by
    grind
   have gC:∀(q j:Nat)(row:List PV)(a:PV),(rs.take n)[q]?=some row->row[j]?=some a->∃u,(arr[q*sz.1+j]?).getD undef=u/\w.cell? ⟨c,0+(q*s+j),none⟩=some u/\u.oneCell'=true/\cE w (Rd B ι H') a u:=by
    intro q j row a hr ha;obtain⟨u,hu,h1,x5⟩:=dB _ j row a (aU q row hr) ha;exact⟨u,by rw[hu];rfl,by rw[ka hb,es,cB];exact hu,h1,x5.keep iH.size iH.read⟩
   have:=cE.ro (w:=w) (R:=Rd B ι H') s (rs.take n) c 0 cap (fun q j=>(arr[q*sz.1+j]?).getD undef) ⟨hB c qJ,mM⟩ (md hb) oM (fun q row hr=>by grind)
    (fun q j row a hr ha=>by grind) (fun q j row a hr ha=>by grind)
   grind
 rw[W4];refine⟨ι,⟨hR.gr,hR.fut,by rw[<-W4];simp[hR.len],fun i b c1 s1 h1 h2=>?_,fun i i' b b' c1 s1 s2 h1 h2 h3 h4=>?_⟩,by simp[hE.len],fun q y u hy hu=>?_⟩
 ·by_cases e:i=k
  ·subst e;rw[hK]at h1
   cases h1
   obtain⟨hg,hs,c',arr,ec,gC,hlen,dB⟩:=hR.blk i _ c1 s1 hk h2;refine⟨hg,hs,c',arr,ec,gC,by simp[hlen],fun m a ha=>?_⟩
   rw[bX]at ha
   split at ha
   ·rename_i e;subst e
    split at ha
    ·cases ha
     obtain⟨v,hv,h1,hr⟩:=dB j _ hj;exact⟨v,hv,h1,.p _ _ (hro v hr)⟩
    ·cases ha
   ·rw[aH]at ha
    cases hm:cs[m]? with
    |none=>rw[hm]at ha;cases ha
    |some y=>
     rw[hm]at ha;cases ha
     obtain⟨v,hv,h1,hr⟩:=dB m y hm;exact⟨v,hv,h1,hr.keep iH⟩
  ·have e2:=(gO i b h1).1;rw[hO i e e2]at h1;obtain⟨b0,h0,rfl⟩:=MF h1;exact⟨(hR.blk i b0 c1 s1 h0 h2).1,(hR.blk i b0 c1 s1 h0 h2).2.keep iH fun c' e=>rfl⟩
 ·obtain⟨_,b0,h0⟩:=gO i b h1;obtain⟨_,b1,h5⟩:=gO i' b' h2;exact hR.inj i i' b0 b1 c1 s1 s2 h0 h5 h3 h4
 ·rw[aH]at hy
  cases hq:env[q]? with
  |none=>rw[hq]at hy;cases hy
  |some z=>rw[hq]at hy;cases hy;exact(hE.at_ q z u hq hu).keep iH
section
variable{P:Program}{G:World->Prop}{T:TT}
theorem HT (hT : gY P T) (hm : P.follows .mixedOrders = true) (kOf : Nat → Nat) {f : FuncId} {fn : Func} {c : Code} (hf : P.funcs[f]? = some fn) (hb : fn.body = some c) (hn : (fn.name == "runtime.NumGoroutine") = false)
  (cU:xH fn.ntmps kOf c=true) {as:List AV} {b0:Option cH} {r:AV} {H':AH} (hl:decide (as.length<=fn.ntmps)=true)
  (h:∀(P':Program)(G':World->Prop)(E:SO),(∀f l r,fX P G f l r->fX P' G' f l r)->(∀f as H r H',jP P G f as H r H'->jP P' G' f as H r H')->E=bK->∀t0:Nat,
   uE P' G' E T kOf c (eU E T fn.results.toList [t0] r H') (as++List.replicate (fn.ntmps-as.length) (.p (.v undef))) (dC [t0] [b0])):jP P G f as [b0] r H':=
 z1j hT hm kOf hf hb hn cU hl fun P' G' E h1 h2 h3 t0=>h P' G' E h1 h2 h3 t0
theorem jP.args{f:FuncId}{as as':List AV}{H:AH}{r:AV}{H':AH}(h:jP P G f as H r H')(hl:as'.length=as.length)(hr:∀(j:Nat)(a a':AV),as[j]?=some a->as'[j]?=some a'->a'=a\/∃x,a=.p x/\a'.toP=some x):jP P G f as' H r H':=
 ⟨h.1,fun B w ι args tags ht hC hR hlen gI=>h.2 B w ι args tags ht hC hR oM fun j a v ha hv=>by
  exact Tj⟩
end
section
variable{P:Program}{G:World->Prop}{T:TT}{nt:Nat}
def aY(P:Program)(G:World->Prop)(nt:Nat)(c:Code)(Q:Exit->List AV->AH->Prop)(env:List AV)(H:AH):Prop:=
 ∀(w0:cF)(B:Nat->Prop),(∀w,tR w0 w->G w)->(∀b,w0.own b->B b)->fg w0 c->∀a w,St w0 B nt env H a w->c.wp P (rT w0 B nt Q) a w
theorem aY.of(hT:gY P T)(hm:P.follows .mixedOrders=true)(kOf:Nat->Nat){c:Code}(cU:xH nt kOf c=true)(Q:SO->Exit->List AV->AH->Prop){env:List AV}{H:AH}
  (h:∀(P':Program)(G':World->Prop)(E:SO),(∀f l r,fX P G f l r->fX P' G' f l r)->(∀f as H r H',jP P G f as H r H'->jP P' G' f as H r H')->E=bK->uE P' G' E T kOf c (Q E) env H):aY P G nt c (Q bK) env H:=
 fun _ _ hG hB fW a w hS=>o4 hT hG hB hm kOf c fW cU _ env H a w (h P G bK (fun _ _ _ h=>h) (fun _ _ _ _ _ h=>h) rfl) hS
theorem aY.wk{c:Code}{Q:Exit->List AV->AH->Prop}{env env':List AV}{H H':AH}(hw:Wk env H env' H')(h:aY P G nt c Q env' H'):aY P G nt c Q env H:=
 fun w0 B hG hB fW a w hS=>h w0 B hG hB fW a w (by
  exact S0)
theorem aY.seq{c d:Code}{Q:Exit->List AV->AH->Prop}{env:List AV}{H:AH}(R:List AV->AH->Prop)(h:aY P G nt c (nB R Q) env H)(h2:∀env H,R env H->aY P G nt d Q env H):aY P G nt (.seq c d) Q env H:=
 fun w0 B hG hB fW a w hS=>wp_seq (wp_mono (h w0 B hG hB fW.1 a w hS) (IB _ fun env H a w hR hS=>h2 env H hR w0 B hG hB fW.2 a w hS))
inductive lZ{γ:Type}(n:Nat)(live:List Nat)(m:Nat)(S:γ->List AV)(h:γ->AH)(I:γ->Prop)(env:List AV)(H:AH):Prop
 |mk (y:γ) (hh:mJ n live m S h env H y) (hI:I y)
 |wk (y:γ) (env1:List AV) (H1:AH) (hw:Wk env H env1 H1) (hh:mJ n live m S h env1 H1 y) (hI:I y)
theorem aY.cut{γ:Type}(n:Nat)(live:List Nat)(m:Nat)(S:γ->List AV)(h:γ->AH)(I:γ->Prop){c d:Code}{Q:Exit->List AV->AH->Prop}{env:List AV}{H:AH}
  (h1:aY P G nt c (nB (lZ n live m S h I) Q) env H) (h2:∀y,I y->aY P G nt d Q (qN live (S y) n 0) (h y)):aY P G nt (.seq c d) Q env H:=
 .seq _ h1 fun env H hc=>by
  cases hc with
  |mk y hh hI=>exact .wk hh.wk (h2 y hI)
  |wk y env1 H1 hw hh hI=>exact .wk (hw.trans hh.wk) (h2 y hI)
def wO:Nat->Code->Code
 |0,_=>.skip
 |k+1,.seq a b=>.seq a (wO k b)
 |_+1,_=>.goto 0
def kf:Nat->Code->Code
 |0,c=>c
 |k+1,.seq _ b=>kf k b
 |_+1,c=>c
theorem N3(hT:gY P T)(hm:P.follows .mixedOrders=true){kOf:Nat->Nat}{w0:cF}{B:Nat->Prop}(hG:∀w,tR w0 w->G w)(hB:∀b,w0.own b->B b){R:List AV->AH->Prop}{Q:Exit->List AV->AH->Prop}:∀(k:Nat)(c:Code),fg w0 c->xH nt kOf (wO k c)=true->(∀env H a w,R env H->St w0 B nt env H a w->(kf k c).wp P (rT w0 B nt Q) a w) →
  ∀(env:List AV)(H:AH)(a:Act)(w:World),uE P G bK T kOf (wO k c) (nB R Q) env H->St w0 B nt env H a w->c.wp P (rT w0 B nt Q) a w
 |0,c,_,_,hR,env,H,a,w,h,hS=>hR env H a w h hS
 |k+1,.seq x y,fW,cU,hR,env,H,a,w,h,hS=>by
  simp only[wO,xH,gH]at cU;refine wp_seq (wp_mono (o4 hT hG hB hm kOf x fW.1 cU.1 _ env H a w h hS) ?_)
  rintro e a w ⟨env,H,h,hS⟩
  cases e with
  |normal=>exact N3 hT hm hG hB k y fW.2 cU.2 hR env H a w h hS
  |exit id=>exact⟨env,H,h,hS⟩
  |goto l=>exact⟨env,H,h,hS⟩
  |ret=>exact⟨env,H,h,hS⟩
  |panic c=>exact⟨env,H,h,hS⟩
  |outgrown=>exact⟨env,H,h,hS⟩
 |k+1,.skip,_,_,_,_,_,_,_,h,_=>h.elim
 |k+1,.region _ _ _,_,_,_,_,_,_,_,h,_=>h.elim
 |k+1,.cond _ _ _,_,_,_,_,_,_,_,h,_=>h.elim
 |k+1,.block _ _,_,_,_,_,_,_,_,h,_=>h.elim
 |k+1,.loop _,_,_,_,_,_,_,_,h,_=>h.elim
 |k+1,.exit _,_,_,_,_,_,_,_,h,_=>h.elim
 |k+1,.ret,_,_,_,_,_,_,_,h,_=>h.elim
 |k+1,.rangeFunc _ _ _ _,_,_,_,_,_,_,_,h,_=>h.elim
 |k+1,.scope _,_,_,_,_,_,_,_,h,_=>h.elim
 |k+1,.label _,_,_,_,_,_,_,_,h,_=>h.elim
 |k+1,.goto _,_,_,_,_,_,_,_,h,_=>h.elim
 |k+1,.refuse _,_,_,_,_,_,_,_,h,_=>h.elim
theorem MH{w0:cF}:∀(k:Nat)(c:Code),fg w0 c->fg w0 (kf k c)
 |0,_,h=>h
 |k+1,.seq _ b,h=>MH k b h.2
 |_+1,.skip,h=>h
 |_+1,.region _ _ _,h=>h
 |_+1,.cond _ _ _,h=>h
 |_+1,.block _ _,h=>h
 |_+1,.loop _,h=>h
 |_+1,.exit _,h=>h
 |_+1,.ret,h=>h
 |_+1,.rangeFunc _ _ _ _,h=>h
 |_+1,.scope _,h=>h
 |_+1,.label _,h=>h
 |_+1,.goto _,h=>h
 |_+1,.refuse _,h=>h
theorem aY.cutK{γ:Type}(k:Nat)(n:Nat)(live:List Nat)(m:Nat)(S:γ->List AV)(h:γ->AH)(I:γ->Prop)(hT:gY P T)(hm:P.follows .mixedOrders=true)(kOf:Nat->Nat){c:Code}(Q:SO->Exit->List AV->AH->Prop){env:List AV}{H:AH}(cU:xH nt kOf (wO k c)=true)
  (h1:∀(P':Program)(G':World->Prop)(E:SO),(∀f l r,fX P G f l r->fX P' G' f l r)->(∀f as H r H',jP P G f as H r H'->jP P' G' f as H r H')->E=bK->uE P' G' E T kOf (wO k c) (nB (lZ n live m S h I) (Q E)) env H)
  (h2:∀y,I y->aY P G nt (kf k c) (Q bK) (qN live (S y) n 0) (h y)):aY P G nt c (Q bK) env H:=by
 intro w0 B hG hB fW a w hS;refine N3 hT hm hG hB k c fW cU ?_ env H a w (h1 P G bK (fun _ _ _ h=>h) (fun _ _ _ _ _ h=>h) rfl) hS
 intro env1 H1 a1 w1 hc eh
 cases hc with
 |mk y hh hI=>exact aY.wk hh.wk (h2 y hI) w0 B hG hB (MH k c fW) a1 w1 eh
 |wk y env2 H2 hw hh hI=>exact aY.wk (hw.trans hh.wk) (h2 y hI) w0 B hG hB (MH k c fW) a1 w1 eh
def cz:AH->AH->Prop
 |[],[]=>True
 |_::xs,none::ys=>cz xs ys
 |x::xs,some y::ys=>x=some y/\cz xs ys
 |_,_=>False
theorem Ch:∀{H K:AH},cz H K->K.length=H.length
 |[],[],_=>rfl
 |_::xs,none::ys,h=>by simp[Ch (H:=xs) (K:=ys) h]
 |_::xs,some _::ys,h=>by simp[Ch (H:=xs) (K:=ys) h.2]
 |[],_::_,h=>h.elim
 |_::_,[],h=>h.elim
theorem z8:∀{H K:AH},cz H K->∀(k:Nat)(b:cH),K[k]?=some (some b)->H[k]?=some (some b)
 |[],[],_,k,b,h=>by simp at h
 |_::xs,none::ys,h,0,b,hk=>by simp at hk
 |_::xs,none::ys,h,k+1,b,hk=>by simpa using z8 (H:=xs) (K:=ys) h k b zo
 |x::xs,some y::ys,h,0,b,hk=>by
  obtain⟨rfl,_⟩:=h;simpa using hk
 |x::xs,some y::ys,h,k+1,b,hk=>by simpa using z8 (H:=xs) (K:=ys) h.2 k b zo
 |[],_::_,h,_,_,_=>h.elim
 |_::_,[],h,_,_,_=>h.elim
theorem Cw:∀H:AH,cz H H
 |[]=>trivial
 |none::xs=>Cw xs
 |some _::xs=>⟨rfl,Cw xs⟩
theorem D3:∀{H K:AH},cz H K->∀L,cz (H++L) (K++L)
 |[],[],_,L=>Cw L
 |_::xs,none::ys,h,L=>D3 (H:=xs) (K:=ys) h L
 |_::xs,some _::ys,h,L=>⟨h.1,D3 (H:=xs) (K:=ys) h.2 L⟩
 |[],_::_,h,_=>h.elim
 |_::_,[],h,_=>h.elim
theorem eQ.drop{w0:cF}{B:Nat->Prop}{w:World}{ι:Pl}{H K:AH}(h:eQ w0 B w ι H)(hd:cz H K):eQ w0 B w ι K/\bQ none w ι (Rd B ι H) w ι (Rd B ι K):=by
 have iH:bQ none w ι (Rd B ι H) w ι (Rd B ι K):=⟨nR _,fun b hb _=>⟨⟨hb.1,fun⟨i,b',s',h1,h2⟩=>hb.2 ⟨i,b',s',z8 hd _ _ h1,h2⟩⟩,rfl⟩,fun _ _ _ _ h=>h⟩
 exact⟨⟨h.gr,h.fut,by rw[Ch hd];exact h.len,fun i b c' s' h1 h2=>⟨(h.blk i b c' s' (z8 hd _ _ h1) h2).1,(h.blk i b c' s' (z8 hd _ _ h1) h2).2.keep0 iH fun _ _=>rfl⟩,
  fun i j b b' c' s1 s2 h1 h2 h3 h4=>h.inj i j b b' c' s1 s2 (z8 hd _ _ h1) (z8 hd _ _ h2) h3 h4⟩,iH⟩
def E3(E:SO)(T:TT)(rs:List ResultVar)(tags:List Nat)(r:AV)(H':AH)(e:Exit)(env:List AV)(H:AH):Prop:=
 match e with
 | .ret=>bj T env H rs fun as=>(match as with
  |[a]=>xA E H'.length H a fun x=>x=r/\cz (H.take H'.length) (dC tags H')/\jW H'.length (dC tags H')=true/\r.low H'.length=true
  |as=>xA E H'.length H (.tup as) fun x=>x=r/\cz (H.take H'.length) (dC tags H')/\jW H'.length (dC tags H')=true/\r.low H'.length=true)
 | .normal=>bj T env H rs fun as=>(match as with
  |[a]=>xA E H'.length H a fun x=>x=r/\cz (H.take H'.length) (dC tags H')/\jW H'.length (dC tags H')=true/\r.low H'.length=true
  |as=>xA E H'.length H (.tup as) fun x=>x=r/\cz (H.take H'.length) (dC tags H')/\jW H'.length (dC tags H')=true/\r.low H'.length=true)
 | .panic ch=>r=.p (.pan ch)/\VU (dC tags H')=true
 |_=>False
theorem zZ (hT : gY P T) (hG : ∀ w w', Gr w w' → G w → G w') {f : FuncId} {fn : Func} {c : Code} (hf : P.funcs[f]? = some fn) (hb : fn.body = some c) (hn : (fn.name == "runtime.NumGoroutine") = false)
  {as:List PV} {r:PV} (hl:as.length<=fn.ntmps) (h:aY P G fn.ntmps c (jF bK T fn.results.toList r) (as.map .p++List.replicate (fn.ntmps-as.length) (.p (.v undef))) []):fX P G f as r:=by
 refine⟨za hf hb hn,fun w B args rf hlen dW=>?_⟩
 refine calls_of_wp hf hb ?_;have hS:St (cF.of w) (fun b=>B b\/w.heap.size<=b) fn.ntmps (as.map .p++List.replicate (fn.ntmps-as.length) (.p (.v undef))) [] { tmps:=args.toArray++Array.replicate (fn.ntmps-args.toArray.size) undef,defers:=[] } w:=by
  exact Ud
 have gJ:∀b,(cF.of w).own b->B b\/w.heap.size<=b:=fun b hb=>hb.elim (fun h=>h.elim) .inr
 refine wp_mono (h _ _ (fun w' hg=>hG _ _ hg.gr rf) gJ (iv (fun _=>rfl) c) _ w hS) ?_
 rintro e a w' ⟨env,H,hQ,sN⟩
 obtain⟨ι,hR,hE⟩:=sN.rep;have fin:(bj T env H fn.results.toList fun as=>(match as with
  |[a]=>bu bK H a fun p=>p=r
  |as=>bu bK H (.tup as) fun p=>p=r))->a.defers=[]/\∃v,(results fn a.tmps).run P w'=.ok v w'/\Gr w w'/\oe w' (fun b=>B b\/w.heap.size<=b) r (.returned v):=by
  intro h;obtain⟨x,v,hx,dN,hv⟩:=IJ (K:=fun a=>bu bK H a fun p=>p=r) hT hR hE h
  obtain⟨p,rfl,hp⟩:=IA hR gJ x v _ hx hv;exact⟨sN.defers,v,dN,hR.gr.gr,.ret hp⟩
 cases e with
 |ret=>exact fin hQ
 |normal=>exact fin hQ
 |exit id=>cases hQ
 |goto l=>cases hQ
 |panic c=>exact⟨sN.defers,hR.gr.gr,by cases hQ;rfl⟩
 |outgrown=>cases hQ
theorem gS (hT : gY P T) {f : FuncId} {fn : Func} {c : Code} (hf : P.funcs[f]? = some fn) (hb : fn.body = some c) (hn : (fn.name == "runtime.NumGoroutine") = false)
  {as:List AV} {H:AH} {r:AV} {H':AH} (hl:as.length<=fn.ntmps) (h:∀tags:List Nat,tags.length=H.length->aY P G fn.ntmps c (eU bK T fn.results.toList tags r H') (as++List.replicate (fn.ntmps-as.length) (.p (.v undef))) (dC tags H)):jP P G f as H r H':=by
 refine⟨za hf hb hn,fun B w ι args tags bS hC hR hlen dW=>?_⟩
 refine calls_of_wp hf hb ?_;have hS:St ⟨w,iV ι (dC tags H),[],fun _=>none⟩ B fn.ntmps (as++List.replicate (fn.ntmps-as.length) (.p (.v undef))) (dC tags H) { tmps:=args.toArray++Array.replicate (fn.ntmps-args.toArray.size) undef,defers:=[] } w:=
  ⟨rfl,by simp;omega,(fun t v h=>by cases h),ι,hR,MG hl hlen dW⟩
 refine wp_mono (h tags bS _ _ (fun w' hg=>hC.stab w' hg) hC.own (iv (fun _=>rfl) c) _ w hS) ?_
 rintro e a w' ⟨env,H2,hQ,sN⟩
 obtain⟨ι2,cS,hE⟩:=sN.rep;have fin:(bj T env H2 fn.results.toList fun as=>(match as with
  |[a]=>xA bK H'.length H2 a fun x=>x=r/\H2.take H'.length=dC tags H'/\jW H'.length (dC tags H')=true/\r.low H'.length=true
  |as=>xA bK H'.length H2 (.tup as) fun x=>x=r/\H2.take H'.length=dC tags H'/\jW H'.length (dC tags H')=true/\r.low H'.length=true)) →
   a.defers=[]/\∃v,(results fn a.tmps).run P w'=.ok v w'/\∃ι',eQ ⟨w,iV ι (dC tags H),[],fun _=>none⟩ B w' ι' (dC tags H')/\zY w' ι' (Rd B ι' (dC tags H')) r (.returned v):=by
  intro h;obtain⟨x,v,hx,dN,hv⟩:=IJ (K:=fun a=>xA bK H'.length H2 a fun x=>x=r/\H2.take H'.length=dC tags H'/\jW H'.length (dC tags H')=true/\r.low H'.length=true) hT cS hE h
  obtain⟨y,⟨rfl,e1,e2,e3⟩,hy⟩:=YB cS hC.own x v _ hx hv;have aj:=hy e3;rw[<-e1]at e2;have qL:=cS.trunc (m:=H'.length) e2;rw[e1]at qL aj;exact⟨sN.defers,v,dN,_,qL,.ret aj⟩
 cases e with
 |ret=>exact fin hQ
 |normal=>exact fin hQ
 |exit id=>cases hQ
 |goto l=>cases hQ
 |panic ch=>
  obtain⟨rfl,mM⟩:=hQ;refine⟨sN.defers,List.replicate (dC tags H').length (none,0,0),⟨cS.gr,cS.fut,by simp,fun k b c s h1=>absurd h1 (CJ mM),fun k l b b' c s s' h1=>absurd h1 (CJ mM)⟩,rfl⟩
 |outgrown=>cases hQ
theorem Ll (hT : gY P T) {f : FuncId} {fn : Func} {c : Code} (hf : P.funcs[f]? = some fn) (hb : fn.body = some c) (hn : (fn.name == "runtime.NumGoroutine") = false)
  {as:List AV} {H:AH} {r:AV} {H':AH} (hl:as.length<=fn.ntmps) (h:∀tags:List Nat,tags.length=H.length->aY P G fn.ntmps c (E3 bK T fn.results.toList tags r H') (as++List.replicate (fn.ntmps-as.length) (.p (.v undef))) (dC tags H)):jP P G f as H r H':=by
 refine⟨za hf hb hn,fun B w ι args tags bS hC hR hlen dW=>?_⟩
 refine calls_of_wp hf hb ?_;have hS:St ⟨w,iV ι (dC tags H),[],fun _=>none⟩ B fn.ntmps (as++List.replicate (fn.ntmps-as.length) (.p (.v undef))) (dC tags H) { tmps:=args.toArray++Array.replicate (fn.ntmps-args.toArray.size) undef,defers:=[] } w:=
  ⟨rfl,by simp;omega,(fun t v h=>by cases h),ι,hR,MG hl hlen dW⟩
 refine wp_mono (h tags bS _ _ (fun w' hg=>hC.stab w' hg) hC.own (iv (fun _=>rfl) c) _ w hS) ?_
 rintro e a w' ⟨env,H2,hQ,sN⟩
 obtain⟨ι2,cS,hE⟩:=sN.rep;have fin:(bj T env H2 fn.results.toList fun as=>(match as with
  |[a]=>xA bK H'.length H2 a fun x=>x=r/\cz (H2.take H'.length) (dC tags H')/\jW H'.length (dC tags H')=true/\r.low H'.length=true
  |as=>xA bK H'.length H2 (.tup as) fun x=>x=r/\cz (H2.take H'.length) (dC tags H')/\jW H'.length (dC tags H')=true/\r.low H'.length=true)) →
   a.defers=[]/\∃v,(results fn a.tmps).run P w'=.ok v w'/\∃ι',eQ ⟨w,iV ι (dC tags H),[],fun _=>none⟩ B w' ι' (dC tags H')/\zY w' ι' (Rd B ι' (dC tags H')) r (.returned v):=by
  intro h;obtain⟨x,v,hx,dN,hv⟩:=IJ (K:=fun a=>xA bK H'.length H2 a fun x=>x=r/\cz (H2.take H'.length) (dC tags H')/\jW H'.length (dC tags H')=true/\r.low H'.length=true) hT cS hE h
  obtain⟨y,⟨rfl,e1,e2,e3⟩,hy⟩:=YB cS hC.own x v _ hx hv;have aj:=hy e3;have hD:cz H2 (dC tags H'++H2.drop H'.length):=by
   have:=D3 e1 (H2.drop H'.length)
   simp_all
  have ak:(dC tags H'++H2.drop H'.length).take H'.length=dC tags H':=List.take_left' (IH tags H');obtain⟨qL,_⟩:=cS.drop hD;have KP:=qL.trunc (m:=H'.length) (by rw[ak];exact e2)
  rw[ak]at KP;have Av:bQ none w' (ι2.take H'.length) (Rd B (ι2.take H'.length) (H2.take H'.length)) w' (ι2.take H'.length) (Rd B (ι2.take H'.length) (dC tags H')):=⟨nR _,fun b hb _=>⟨⟨hb.1,fun⟨i,b',s',h1,h2⟩=>hb.2 ⟨i,b',s',z8 e1 _ _ h1,h2⟩⟩,rfl⟩,fun _ _ _ _ h=>h⟩
  exact⟨sN.defers,v,dN,_,KP,.ret (aj.keep0 Av)⟩
 cases e with
 |ret=>exact fin hQ
 |normal=>exact fin hQ
 |exit id=>cases hQ
 |goto l=>cases hQ
 |panic ch=>
  obtain⟨rfl,mM⟩:=hQ;refine⟨sN.defers,List.replicate (dC tags H').length (none,0,0),⟨cS.gr,cS.fut,by simp,fun k b c s h1=>absurd h1 (CJ mM),fun k l b b' c s s' h1=>absurd h1 (CJ mM)⟩,rfl⟩
 |outgrown=>cases hQ
theorem eQ.pin{w:World}{X:Nat->Prop}{ds:List Deferred}{p:Nat->Option Value}{B:Nat->Prop}{w':World}{ι:Pl}{H:AH}(h:eQ ⟨w,X,ds,p⟩ B w' ι H)(p':Nat->Option Value):eQ ⟨w,X,ds,p'⟩ B w' ι H:=
 ⟨⟨h.gr.os,h.gr.tape,h.gr.output,h.gr.size,h.gr.block⟩,h.fut,h.len,h.blk,h.inj⟩
theorem NL.args{f:FuncId}{as as':List AV}{H:AH}{r:AV}{H':AH}{kp:Nat->Bool}(h:NL P G f as H r H' kp)(hl:as'.length=as.length)(hr:∀(j:Nat)(a a':AV),as[j]?=some a->as'[j]?=some a'->a'=a\/∃x,a=.p x/\a'.toP=some x):NL P G f as' H r H' kp:=
 ⟨h.1,fun B w ι args tags ht hC hR hlen gI=>h.2 B w ι args tags ht hC hR oM fun j a v ha hv=>by
  exact Tj⟩
end
theorem a6{env:List AV}{H:AH}{k j l n:Nat}{cs:List AV}{t:TypeId}{g:Option Nat}{s:Nat}{rs rs':List (List PV)}{ty:TypeId}(hk:H[k]?=some (some (.box cs t g)))(hj:cs[j]?=some (.osl l 0 n))(hl:H[l]?=some (some (.rows s rs ty)))(hn:n<=rs.length)(he:rs.take n=rs'):
  Wk env H (env.map (AV.scrub (one l))) (((H.map (pC (one l))).set l none).set k (some (.box ((cs.map (AV.scrub (one l))).set j (.p (.ro s rs'))) t g))):=by
 subst he;exact xd1 hk hj hl hn
section
variable{P:Program}{G:World->Prop}{T:TT}{nt:Nat}{w0:cF}{B:Nat->Prop}
theorem Mh{f:FuncId}{o:Oper}{env:List AV}{H:AH}{K R:List AV->AH->Prop}{Q:Exit->List AV->AH->Prop}(h:uG P G f o env H K (nB R Q)):uG P G f o env H K Q:=by
 cases h with
 |mk env2 H2 hw σ as Hc r Hc' hr hc hb hp k=>
  refine .mk env2 H2 hw σ as Hc r Hc' hr hc hb hp ?_
  exact Se
 |mkK kp env2 H2 hw σ as Hc r Hc' hr hc hb hp k=>
  refine .mkK kp env2 H2 hw σ as Hc r Hc' hr hc hb hp ?_
  exact Se
theorem Yt{E:SO}{o:Oper}{env:List AV}{H:AH}{K R:List AV->AH->Prop}{Q:Exit->List AV->AH->Prop}(h:kh P G E T o env H K (nB R Q)):kh P G E T o env H K Q:=by
 unfold kh at h ⊢
 cases m4:IM env o with
 |no=>rw[m4]at h;exact h
 |pure f ps=>rw[m4]at h;exact h
 |froz f as=>
  rw[m4]at h
  rcases h with h|h
  ·exact .inl h
  ·exact .inr (Mh h)
 |mem f=>rw[m4]at h;exact Mh h
 |pan v=>rw[m4]at h;exact h
theorem C0(hT:gY P T)(iJ:∀w,tR w0 w->G w)(gJ:∀b,w0.own b->B b){all:List Oper}{R:List AV->AH->Prop}{Q:Exit->List AV->AH->Prop}{ys:List Oper}(hR:∀env H a w,R env H->St w0 B nt env H a w->wpList P all.toArray (rT w0 B nt Q) ys a w):
  ∀(xs:List Oper),(∀o∈xs,∀t,o.dst=some t->w0.pin t=none)->∀(env:List AV)(H:AH)(a:Act)(w:World),vO P G bK T all (nB R Q) xs env H->St w0 B nt env H a w->wpList P all.toArray (rT w0 B nt Q) (xs++ys) a w
 |[],_,env,H,a,w,h,hS=>hR env H a w h hS
 |o::os,jd,env,H,a,w,h,hS=>by
  have eJ:=jd o jT
  have gj:∀o∈os,∀t,o.dst=some t->w0.pin t=none:=fun x hx=>jd x (by simp[hx])
  have run:kh P G bK T o env H (fun env' H'=>vO P G bK T all (nB R Q) os env' H') (nB R Q)->o.wp P a w (wpList P all.toArray (rT w0 B nt Q) (os++ys)) (rT w0 B nt Q):=fun h=>
   XY hT iJ gJ eJ (Yt h) hS fun env' H' a' w' hK sN=>C0 hT iJ gJ hR os gj env' H' a' w' hK sN
  obtain⟨hd,hn,gV,ι,y6,hE⟩:=hS;unfold vO at h;rw[pD];unfold wpList
  split at h
  ·rename_i hg;rw[aF JQ]
   exact .inl (run h)
  ·rename_i j want hg
   split at h
   ·rename_i b hb;have hy:=Cz hb hE;rw[MN]
    split at h
    ·exact Rs
    ·rename_i ht;rw[aE Gp]
     refine C0 hT iJ gJ hR os gj _ H _ w h ⟨by rw[iw];exact hd,by rw[ko];exact hn,ip gV eJ _,ι,y6,?_⟩
     exact Hf
   ·cases h
end
section
variable{P:Program}{G:World->Prop}{T:TT}{nt:Nat}
theorem aY.cutOps{γ:Type}(k n:Nat)(live:List Nat)(m:Nat)(S:γ->List AV)(h:γ->AH)(I:γ->Prop)(hT:gY P T){id:Nat}{ops:Array Oper}(Q:SO->Exit->List AV->AH->Prop){env:List AV}{H:AH}
  (h1:∀(P':Program)(G':World->Prop)(E:SO),(∀f l r,fX P G f l r->fX P' G' f l r)->(∀f as H r H',jP P G f as H r H'->jP P' G' f as H r H')->E=bK->vO P' G' E T ops.toList (nB (lZ n live m S h I) (Q E)) (ops.toList.take k) env H)
  (h2:∀y,I y->∀(P':Program)(G':World->Prop)(E:SO),(∀f l r,fX P G f l r->fX P' G' f l r)->(∀f as H r H',jP P G f as H r H'->jP P' G' f as H r H')->E=bK->vO P' G' E T ops.toList (Q E) (ops.toList.drop k) (qN live (S y) n 0) (h y)):aY P G nt (.region id ops false) (Q bK) env H:=by
 intro w0 B hG hB fW a w hS;obtain⟨l⟩:=ops;refine wp_region_list ?_
 have:=C0 (nt:=nt) (Q:=Q bK) hT hG hB (ys:=l.drop k) (fun env1 H1 a1 w1 hc eh=>by
  have key:∀y,I y->St w0 B nt (qN live (S y) n 0) (h y) a1 w1->wpList P l.toArray (rT w0 B nt (Q bK)) (l.drop k) a1 w1:=fun y hI u7=>
   zc hT hG hB _ (fun o ho=>fW o (jA ho)) _ _ a1 w1 (h2 y hI P G bK (fun _ _ _ h=>h) (fun _ _ _ _ _ h=>h) rfl) u7
  have wk:∀{env env':List AV}{H H':AH},Wk env H env' H'->St w0 B nt env H a1 w1->St w0 B nt env' H' a1 w1:=fun hw hS=>by
   obtain⟨ι,hR,hE⟩:=hS.rep;exact⟨hS.defers,hS.size,hS.pin,hw w0 B w1 ι a1.tmps hB hR hE⟩
  cases hc with
  |mk y hh hI=>exact key y hI (wk hh.wk eh)
  |wk y env2 H2 hw hh hI=>exact key y hI (wk (hw.trans hh.wk) eh)) (l.take k) (fun o ho=>fW o (List.mem_of_mem_take ho)) env H a w (h1 P G bK (fun _ _ _ h=>h) (fun _ _ _ _ _ h=>h) rfl) hS
 simp_all
end
inductive I7(P:Program)(G:World->Prop)(f:FuncId)(ls:List AV)(H:AH)(K:AV->AH->Option (Nat->Bool)->Prop):Prop
 |mk (σ:List Nat) (cs:List AV) (Hc:AH) (r:AV) (Hc':AH) (h:jP P G f cs Hc r Hc') (hc:ls=AV.ren.renL (lV σ H.length) cs) (hb:vi σ H Hc cs=true)
  (hp:σ.map (fun l=>ur (H.getD l none))=Hc.map (bh (lV σ H.length) none)) (hr:r.panOf=none) (k:K (r.ren (lV σ H.length)) (zT σ H Hc') (some (cy σ H Hc')))
def DY(P:Program)(G:World->Prop)(E:SO)(T:TT)(o:Oper)(env:List AV)(H:AH)(K:AV->AH->Option (Nat->Bool)->Prop):Prop:=match o.op with
 | .call c=>(match c.callee with
  | .value (.func f)=>I7 P G f (c.args.toList.map (bO env)) H K
  |_=>MU P G E T o env H K)
 |_=>MU P G E T o env H K
def Eo(i:Nat):List (Nat×AV)->AV
 |[]=>.junk
 |(j,a)::r=>(match Nat.beq j i with
  |true=>a
  |false=>Eo i r)
def dj(i:Nat):List Nat->Bool
 |[]=>false
 |j::r=>(match Nat.beq j i with
  |true=>true
  |false=>dj i r)
theorem Bk{i:Nat}:∀{M:List Nat},dj i M=true->∃j:Nat,M[j]?=some i
 |[],h=>by cases h
 |m::M,h=>by
  unfold dj at h
  split at h
  ·rename_i e;exact⟨0,by simp_all⟩
  ·obtain⟨j,hj⟩:=Bk h;exact⟨j+1,hj⟩
theorem Nt{i:Nat}:∀{M:List Nat}{j:Nat},M[j]?=some i->dj i M=true
 |[],j,h=>by simp at h
 |m::M,0,h=>by
  simp at h;subst h;unfold dj;simp
 |m::M,j+1,h=>by
  unfold dj
  split
  ·rfl
  ·exact Nt (M:=M) (j:=j) j6
def G8(o:Oper):Bool:=match o.op with
 | .buildSlice _ _ _=>true
 |_=>false
def rl(P:Program)(G:World->Prop)(E:SO)(T:TT)(M:List Nat)(lo:Nat->Nat)(p:Nat)(mv:List (Nat×AV))(H:AH):Nat->Nat->List Oper->List AV->List (Option AV)->(List AV->List (Option AV)->Prop)->Prop
 |0,_,_,env,vs,K=>K env vs
 |_+1,_,[],env,vs,K=>K env vs
 |n+1,i,o::os,env,vs,K=>(match Nat.ble (lo i) p with
  |false=>rl P G E T M lo p mv H n (i+1) os (rH env o.dst .junk) (vs++[none]) K
  |true=>(match dj i M with
   |true=>rl P G E T M lo p mv H n (i+1) os (rH env o.dst (Eo i mv)) (vs++[some (Eo i mv)]) K
   |false=>(match G8 o with
    |true=>HJ T o env fun a=>rl P G E T M lo p mv H n (i+1) os (rH env o.dst a) (vs++[some a]) K
    |false=>aq P G E T o env H fun a=>rl P G E T M lo p mv H n (i+1) os (rH env o.dst a) (vs++[some a]) K)))
def VJ:List (Option AV)->List (Option AV)->Prop
 |[],_=>True
 |none::r,_::s=>VJ r s
 |some a::r,some b::s=>a=b/\VJ r s
 |_,_=>False
theorem XO:∀{r s:List (Option AV)}{i:Nat}{x:AV},VJ r s->r[i]?=some (some x)->s[i]?=some (some x)
 |[],_,i,x,_,h=>by simp at h
 |none::r,_::s,0,x,_,h=>by simp at h
 |none::r,_::s,i+1,x,hc,h=>by simpa using XO (r:=r) (s:=s) hc j6
 |some a::r,some b::s,0,x,hc,h=>by
  simp at h;subst h;obtain⟨rfl,_⟩:=hc;rfl
 |some a::r,some b::s,i+1,x,hc,h=>by simpa using XO (r:=r) (s:=s) hc.2 j6
 |none::r,[],_,_,hc,_=>hc.elim
 |some _::r,[],_,_,hc,_=>hc.elim
 |some _::r,none::_,_,_,hc,_=>hc.elim
inductive Ur(ex vs:List (Option AV)):Prop
 |mk (h:VJ ex vs)
def mvS(sc:Option (Nat->Bool))(mv:List (Nat×AV)):List (Nat×AV):=mv.map fun x=>(x.1,ma sc x.2)
def Gc(sc:Option (Nat->Bool))(m:Nat)(a:AV)(vs:List (Option AV)):List (Option AV):=(vs.map fun x=>x.map (ma sc)).set m (some a)
def ud(P:Program)(G:World->Prop)(E:SO)(T:TT)(all:List Oper)(M:List Nat)(lo:Nat->Nat)(k:Nat):List Nat->Nat->List (Nat×AV)->List (Option AV)->List AV->AH->(List AV->AH->Prop)->Prop
 |[],p,mv,ex,e0,H,K=>rl P G E T M lo p mv H k 0 all e0 [] fun env vs=>Ur ex vs/\K env H
 |m::Ms,p,mv,ex,e0,H,K=>rl P G E T M lo p mv H k 0 all e0 [] fun env vs=>Ur ex vs/\(match all[m]? with
  |some o=>DY P G E T o env H fun a H' sc=>ud P G E T all M lo k Ms (p+1) (mvS sc mv++[(m,a)]) (Gc sc m a vs) (yO sc e0) H' K
  |none=>False)
def BL(ops:List Oper)(k:Nat)(M:List Nat)(lo:Nat->Nat)(i:Nat)(o:Oper):Bool:=
 (o.op.operands.all fun x=>match x with
  | .tmp t=>YF ops k t||(jG ops.toArray i).any fun d=>(ops[d]?).bind (·.dst)==some t
  |_=>true)&&o.guard.isNone&&(dj i M||Nat.beq (lo i) 0||(jG ops.toArray i).any fun d=>Nat.ble (lo i) (lo d))
def Bg(ops:List Oper)(k:Nat)(M:List Nat)(lo:Nat->Nat):Bool:=(List.range M.length).all fun j=>match M[j]? with
 |some m=>Nat.blt m k&&Nat.beq (lo m) (j+1)&&(match j with
  |0=>true
  |j'+1=>(match M[j']? with
   |some m'=>(jG ops.toArray m).contains m'
   |none=>false))
 |none=>false
def CE(nt:Nat)(ops:List Oper)(k:Nat)(M:List Nat)(lo:Nat->Nat):Bool:=
 ov ops.toArray k 8&&decide (k<=ops.length)&&(ops.all fun o=>match o.dst with
  |some t=>decide (t<nt)
  |none=>true)&&((List.range k).all fun i=>match ops[i]? with
  |some o=>BL ops k M lo i o
  |none=>true)&&Bg ops k M lo
theorem Cj{P:Program}{R R':Value->World->Prop}{x:Result Next}(h:∀v w,R v w->R' v w)(hx:a7 P R x):a7 P R' x:=by
 cases x with
 |ok n w=>
  cases n<;>simp only[a7]at hx ⊢
  ·exact h _ _ hx
  ·exact h _ _ hx
  ·exact Calls.mono hx fun e w' ⟨v,he,hr⟩=>⟨v,he,h _ _ hr⟩
 |halt y w=>exact hx
section
variable{P:Program}{G:World->Prop}{T:TT}
theorem X6(hT:gY P T){o:Oper}{env:List AV}{H:AH}{K:AV->AH->Option (Nat->Bool)->Prop}(h:DY P G bK T o env H K):∃a H' sc,K a H' sc/\WS P G o env H a H' sc:=by
 unfold DY at h
 split at h
 ·rename_i c ho
  split at h
  ·rename_i f hc;obtain⟨σ,cs,Hc,r,Hc',hr,dB,hb,hp,q8,k⟩:=h;refine⟨_,_,_,k,fun w0 B w ι ρ hR hC hρ hf=>?_⟩
   have oQ:∀x,x∈c.args->x∈o.op.operands:=fun x hx=>by rw[ho];simp[Op.operands,Call.operands,hc,hx]
   have wD:(execOp ρ o).run P w=.ok (.enter f (c.args.map ρ)) w:=by
    exact Hn
   rw[wD];unfold vi at hb;simp only[gH]at hb;obtain⟨⟨⟨dG,gE⟩,eg⟩,u5⟩:=hb;have hl:cs.length=(c.args.toList.map ρ).length:=by
    have:=aG List.length dB
    rw[df]at this;simpa using this.symm
   have hm:=Dh hR hC hr dG (iM gE) hp eg u5 hl fun j x v hx hv=>by
    rw[aH]at hv
    cases hy:c.args.toList[j]? with
    |none=>rw[hy]at hv;cases hv
    |some y=>
     rw[hy]at hv;cases hv
     have h1:(c.args.toList.map (bO env))[j]?=some (bO env y):=aZ
     rw[dB,CM,hx]at h1
     grind
   have e:(c.args.toList.map ρ).toArray=c.args.map ρ:=by
    grind
   rw[e]at hm;refine hm.mono fun e w' ⟨ι',h1,h2,h3⟩=>?_
   rcases zb h3 with⟨ch,h4,_⟩|⟨_,v,h4,h5⟩
   ·rw[CC,q8]at h4
    cases h4
   grind
  ·exact Dc hT h
 ·exact Dc hT h
def bf(lo:Nat->Nat)(p:Nat)(avs:Nat->AV):Nat->Nat->List (Option AV)
 |_,0=>[]
 |m,n+1=>(match Nat.ble (lo m) p with
  |true=>some (avs m)
  |false=>none)::bf lo p avs (m+1) n
theorem Kq{lo:Nat->Nat}{p:Nat}{avs:Nat->AV}:∀(m n q:Nat),q<n->lo (m+q)<=p->(bf lo p avs m n)[q]?=some (some (avs (m+q)))
 |_,0,_,h,_=>by omega
 |m,n+1,0,_,hl=>by
  unfold bf;rw[Nat.ble_eq_true_of_le we]
  simp
 |m,n+1,q+1,h,hl=>by
  unfold bf;rw[bY,Kq (m+1) n q oM aZ,show m+1+q=m+(q+1) by omega]
theorem Co{lo:Nat->Nat}{p:Nat}{avs:Nat->AV}:∀(m n q:Nat)(x:AV),(bf lo p avs m n)[q]?=some (some x)->x=avs (m+q)
 |_,0,_,_,h=>by simp[bf]at h
 |m,n+1,0,x,h=>by
  unfold bf at h
  grind
 |m,n+1,q+1,x,h=>by
  unfold bf at h;rw[Co (m+1) n q x h,show m+1+q=m+(q+1) by omega]
theorem Kr{lo:Nat->Nat}{p:Nat}{avs:Nat->AV}:∀(m n:Nat),(bf lo p avs m n).length=n
 |_,0=>rfl
 |m,n+1=>by simp[bf,Kr (m+1) n]
theorem Mi{lo:Nat->Nat}{p:Nat}{avs avs':Nat->AV}:∀(m n:Nat),(∀i,m<=i->avs i=avs' i)->bf lo p avs m n=bf lo p avs' m n
 |_,0,_=>rfl
 |m,n+1,h=>by
  unfold bf;rw[h m (nR _),Mi (m+1) n fun i hi=>h i oM]
theorem XM(hT:gY P T){all:List Oper}{M:List Nat}{lo:Nat->Nat}{p:Nat}{mv:List (Nat×AV)}{H:AH}(hg:∀o∈all,True):∀(n m:Nat)(env:List AV)(vs:List (Option AV))(K:List AV->List (Option AV)->Prop),m+n<=all.length →
  rl P G bK T M lo p mv H n m (all.drop m) env vs K →
  ∃avs:Nat->AV,K (iG all avs m n env) (vs++bf lo p avs m n)/\∀q o,q<n->all[m+q]?=some o->lo (m+q)<=p->dj (m+q) M=false->QS P G o (iG all avs m q env) H (avs (m+q))
 |0,m,env,vs,K,_,h=>⟨fun _=>.junk,by unfold bf;rw[cA];exact h,fun q o hq=>by omega⟩
 |n+1,m,env,vs,K,hle,h=>by
  have hm:m<all.length:=dU
  rw[cQ hm]at h;have ho:all[m]?=some all[m]:=aB hm;have go:∀(x:AV)(y:Option AV),(y=match Nat.ble (lo m) p with
    |true=>some x
    |false=>none)->(lo m<=p->dj m M=false->QS P G all[m] env H x)->rl P G bK T M lo p mv H n (m+1) (all.drop (m+1)) (rH env all[m].dst x) (vs++[y]) K →
    ∃avs:Nat->AV,K (iG all avs m (n+1) env) (vs++bf lo p avs m (n+1))/\∀q o,q<n+1->all[m+q]?=some o->lo (m+q)<=p->dj (m+q) M=false->QS P G o (iG all avs m q env) H (avs (m+q)):=by
   intro x y hy hx h;obtain⟨avs,hK,hF⟩:=XM hT hg n (m+1) _ _ K oM h
   have hc:∀q env,iG all (fun i=>if i=m then x else avs i) (m+1) q env=iG all avs (m+1) q env:=fun q env=>Dv q env fun i h1 _=>by rw[aE oM]
   refine⟨fun i=>if i=m then x else avs i,?_,fun q o hq SX jh vH=>?_⟩
   ·rw[MM,hc,ho];unfold bf;rw[Mi (avs':=avs) (m+1) n fun i hi=>by rw[aE oM]]
    grind
   ·cases q with
    |zero=>
     rw[jt,ho]at SX
     cases SX
     simpa [iG]using hx (by simpa using jh) (by simpa using vH)
    |succ q=>
     have:=hF q o oM aZ aZ aZ
     rw[MM,hc,ho]
     grind
  unfold rl at h
  cases hb:Nat.ble (lo m) p with
  |false=>
   rw[hb]at h;exact go .junk none (by rw[hb]) (fun hl=>by rw[Nat.ble_eq_true_of_le hl]at hb;cases hb) h
  |true=>
   rw[hb]at h
   cases hi:dj m M with
   |true=>
    grind
   |false=>
    rw[hi]at h;simp only at h
    split at h
    ·obtain⟨_,x,hK,hq⟩:=Ds (P:=P) (G:=G) (H:=H) hT h
     grind
    ·obtain⟨x,hK,hq⟩:=WJ hT h
     grind
theorem L6(hT:gY P T){all:List Oper}{M:List Nat}{lo:Nat->Nat}{k:Nat}(hk:k<=all.length):∀(Ms:List Nat)(p:Nat)(mv:List (Nat×AV))(ex:List (Option AV))(e0:List AV)(H:AH)(K:List AV->AH->Prop),
  (∀(j m:Nat),Ms[j]?=some m->lo m=p+j+1/\m<k)->ud P G bK T all M lo k Ms p mv ex e0 H K →
  ∃(V:Nat->Nat->AV)(Hs:Nat->AH)(es:Nat->List AV)(sc:Nat->Option (Nat->Bool)),Hs p=H/\es p=e0/\(∀i x,ex[i]?=some (some x)->V p i=x) ∧
   (∀r,p<=r->r<=p+Ms.length->∀i o,i<k->all[i]?=some o->lo i<=r->dj i M=false->QS P G o (iG all (V r) 0 i (es r)) (Hs r) (V r i)) ∧
   (∀r,p<=r->∀m o,Ms[r-p]?=some m->all[m]?=some o->WS P G o (iG all (V r) 0 k (es r)) (Hs r) (V (r+1) m) (Hs (r+1)) (sc r)) ∧
   (∀r,p<=r->r<p+Ms.length->es (r+1)=yO (sc r) (es r)/\∀i,i<k->lo i<=r->V (r+1) i=ma (sc r) (V r i)) ∧
   K (iG all (V (p+Ms.length)) 0 k (es (p+Ms.length))) (Hs (p+Ms.length))
 |[],p,mv,ex,e0,H,K,_,h=>by
  unfold ud at h;obtain⟨avs,⟨⟨ay⟩,hK⟩,hF⟩:=XM (all:=all) hT (fun _ _=>trivial) k 0 e0 [] _ oM j6
  refine⟨fun _=>avs,fun _=>H,fun _=>e0,fun _=>none,rfl,rfl,fun i x hx=>?_,fun r h1 h2 i o hi ho hl vH=>?_,fun r _ m o hm=>by simp at hm,fun r h1 h2=>by simp at h2;omega,hK⟩
  ·have:=Co 0 k i x (XO ay hx)
   grind
  grind
 |m::Ms,p,mv,ex,e0,H,K,W1,h=>by
  unfold ud at h;obtain⟨avs,⟨⟨ay⟩,hK⟩,hF⟩:=XM (all:=all) hT (fun _ _=>trivial) k 0 e0 [] _ oM j6
  rw[sR]at ay hK;obtain⟨Ar,KG⟩:=W1 0 m rfl
  split at hK
  ·rename_i om It;obtain⟨a,H',sc0,UY,hW⟩:=X6 hT hK;obtain⟨V,Hs,es,sc,e1,e2,e3,e4,e5,e6,e7⟩:=L6 hT hk Ms (p+1) _ _ _ _ K (fun j m' hj=>by
    have:=W1 (j+1) m' (by simpa using hj)
    omega) UY
   have hlen:p+1+Ms.length=p+(m::Ms).length:=wb
   rw[hlen]at e4 e6 e7;have hVm:V (p+1) m=a:=e3 m a (by
    unfold Gc;rw[mD];rw[tc,Kr];exact KG)
   have hVi:∀i,i<k->lo i<=p->V (p+1) i=ma sc0 (avs i):=fun i hi hl=>e3 i _ (by
    unfold Gc;rw[nU (fun e=>by subst e;omega),aH,Kq 0 k i hi aZ]
    simp)
   refine⟨fun r=>if r=p then avs else V r,fun r=>if r=p then H else Hs r,fun r=>if r=p then e0 else es r,fun r=>if r=p then sc0 else sc r,aF rfl,aF rfl,fun i x hx=>?_,fun r h1 h2 i o hi ho hl vH=>?_,fun r h1 m' o FJ ho=>?_,fun r h1 h2=>?_,?_⟩
   ·have:=Co 0 k i x (XO ay hx)
    grind
   ·grind
   ·by_cases er:r=p
    ·simp_all
    ·simp only[aE er,aE (show ¬r+1=p by omega)]
     refine e5 r oM m' o ?_ ho
     grind
   ·grind
   grind
  ·cases hK
end
section
variable{P:Program}{G:World->Prop}{T:TT}{w0:cF}{B:Nat->Prop}{nt:Nat}
theorem z41(sc:Option (Nat->Bool))(env:List AV)(t:Nat):bO (yO sc env) (.tmp t)=ma sc (bO env (.tmp t)):=by
 cases sc with
 |none=>rfl
 |some p=>
  simp only[bO,yO,ma,aK,aH]
  cases env[t]? with
  |none=>rfl
  |some a=>rfl
theorem Y6(sc:Option (Nat->Bool))(env:List AV):(yO sc env).length=env.length:=by
 unfold yO
 split<;>simp
structure JM(all:List Oper)(k:Nat)(M:List Nat)(lo:Nat->Nat)(w0:cF)(B:Nat->Prop)(n0:Nat)(V:Nat->Nat->AV)(Hs:Nat->AH)(es:Nat->List AV)(listed:Array Bool)(a:Act)(w:World)(r:Nat)(ι:Pl):Prop where
 defers:a.defers=w0.ds
 size:a.tmps.size=n0
 pin:∀t v,w0.pin t=some v->a.tmps[t]?=some v
 le:r<=M.length
 pre:∀(j m:Nat),M[j]?=some m->(listed.getD m false=true ↔ j<r)
 lok:∀i,i<k->listed.getD i false=true->lo i<=r
 rel:eQ w0 B w ι (Hs r)
 vals:∀(i:Nat)(o:Oper)(t:Tmp),all[i]?=some o->i<k->listed.getD i false=true->o.dst=some t->dD w ι (Rd B ι (Hs r)) (V r i) (a.eval (.tmp t))
 rest:∀(t:Tmp),(∀(i:Nat)(o:Oper),all[i]?=some o->i<k->listed.getD i false=true->o.dst≠some t)->dD w ι (Rd B ι (Hs r)) (bO (es r) (.tmp t)) (a.eval (.tmp t))
theorem Da(hT:gY P T)(iJ:∀w,tR w0 w->G w)(gJ:∀b,w0.own b->B b)(hm:P.follows .mixedOrders=true){id:Nat}{all:List Oper}{k:Nat}{M:List Nat}{lo:Nat->Nat}(du:∀o∈all,∀t,o.dst=some t->w0.pin t=none)(cU:CE nt all k M lo=true){Q:Exit->List AV->AH->Prop}{env0:List AV}{H:AH}{a:Act}{w:World}
  (h:ud P G bK T all M lo k M 0 [] [] env0 H fun env2 H2=>vO P G bK T all Q (all.drop k) env2 H2) (hS:St w0 B nt env0 H a w):
  (Code.region id all.toArray true).wp P (rT w0 B nt Q) a w:=by
 obtain⟨jm,jU,n5,ι,gZ,AW⟩:=hS;have qS:env0.length=nt:=by rw[AW.len];exact jU
 unfold CE at cU;simp only[gH,bF]at cU;obtain⟨⟨⟨⟨fy,lI⟩,eJ⟩,oQ⟩,tY⟩:=cU;have m3:∀(i:Nat)(o:Oper)(t:Tmp),all[i]?=some o->o.dst=some t->t<env0.length:=fun i o t ho ht=>by
  grind
 rw[p9]at oQ;have oR:∀i o,i<k->all[i]?=some o->BL all k M lo i o=true:=fun i o hi ho=>by
  grind
 unfold Bg at tY;rw[p9]at tY;have ay:∀(j m:Nat),M[j]?=some m->m<k/\lo m=j+1/\∀j' m',j=j'+1->M[j']?=some m'->m'∈jG all.toArray m:=fun j m hj=>by
  have nN:=(aC.1 hj).1
  have:=tY j (cC.2 nN)
  rw[hj]at this;simp only[gH]at this;obtain⟨⟨h1,h2⟩,h3⟩:=this;refine⟨by simp_all,iM h2,fun j' m' e FJ=>?_⟩
  grind
 obtain⟨V,Hs,es,sc,e1,e2,_,hq,hw,al,hK⟩:=L6 hT lI M 0 [] [] env0 H _ (fun j m hj=>⟨by grind,(ay j m hj).1⟩) h
 rw[cB]at hq al hK;have nO:∀(i j:Nat)(oi oj:Oper)(t:Tmp),all[i]?=some oi->all[j]?=some oj->i≠j->oi.dst=some t->oj.dst≠some t:=by
  exact Ru
 have gO:∀i d,d∈jG all.toArray i->d<i:=fun i d hd=>by
  exact Hp
 have qj:∀r,r<=M.length->(es r).length=env0.length:=by
  intro r
  induction r with
  |zero=>intro _;rw[e2]
  |succ r ih=>
   intro hr;rw[(al r (aP _) oM).1,Y6]
   exact ih oM
 have cg:∀(listed:Array Bool)(a:Act)(w:World)(r:Nat)(ι:Pl)(i q:Nat)(o:Oper),JM all k M lo w0 B env0.length V Hs es listed a w r ι->(∀d∈jG all.toArray i,listed.getD d false=true)->all[i]?=some o->i<k->i<=q->q<=k →
   ∀x,x∈o.op.operands->dD w ι (Rd B ι (Hs r)) (bO (iG all (V r) 0 q (es r)) x) (a.eval x):=by
  intro listed a w r ι i q o hJ gL ho jH Vl V5 x hx;have gB:=oR i o jH ho;unfold BL at gB;simp only[gH]at gB;have j8:=(mF.1 gB.1.1) x hx
  cases x with
  |const v=>exact .p _ _ (WE _ _ _)
  |global g=>exact .p _ _ (.v _)
  |func f=>exact .p _ _ (.v _)
  |tmp t=>
   simp only[bG]at j8
   rcases j8 with mA|xP
   ·have he:(iG all (V r) 0 q (es r))[t]?=(es r)[t]?:=II q (es r) fun j hj=>HS mA oM
    have hr:=hJ.rest t fun j oj hj qf _=>by
     have:=HS mA qf
     grind
    have e1:bO (iG all (V r) 0 q (es r)) (.tmp t)=bO (es r) (.tmp t):=by
     exact Gv
    rw[e1];exact hr
   ·rw[fQ]at xP;obtain⟨d,u4,UL⟩:=xP;have zD:(all[d]?).bind (·.dst)=some t:=by simpa using UL
    cases xr:all[d]? with
    |none=>grind
    |some od=>
     have eJ:od.dst=some t:=aZ
     have wG:=gO i d u4;have hl:=gL d u4
     rcases bB t env0.length with bS|bS
     ·have he:(iG all (V r) 0 q (es r))[t]?=some (V r d):=CH zD q (es r) oM (by rw[qj r hJ.le];exact bS) fun j hj qh=>by
       grind
      have e1:bO (iG all (V r) 0 q (es r)) (.tmp t)=V r d:=ZV
      rw[e1];exact hJ.vals d od t xr oM hl eJ
     grind
 refine Na k 8 (fun listed a w=>∃r ι,JM all k M lo w0 B env0.length V Hs es listed a w r ι) hm fy lI ?_ ?_ ?_
 ·
  have rE:∀i,(Array.replicate all.length false).getD i false=false:=fun i=>by by_cases h:i<all.length<;>simp[h]
  have hg:Gr w w.drew:=(Below.refl _ _).drew;refine⟨0,ι,jm,by rw[qS];exact jU,n5,aP _,fun j m _=>⟨(fun hh=>by grind),fun hh=>by omega⟩,(fun i _ hl=>by grind),(by rw[e1];exact gZ.grow hg),(fun i o t _ _ hl=>by grind),fun t _=>?_⟩
  rw[e1,e2];exact(AW.eval (.tmp t)).keep0 (bQ.gr hg)
 ·
  rintro listed a' w' i o ⟨r,ι,hJ⟩ sW gL ho jH nX
  have rf:G w':=iJ _ hJ.rel.gr;have gq:∀f,a'.eval (.func f)=.func (.func f) #[] #[]:=fun _=>rfl
  have gB:=oR i o jH ho;unfold BL at gB;simp only[gH]at gB;have tw:o.guard=none:=by simpa using gB.1.2
  rw[aF (by simp[Region.wanted,tw])]
  have vJ:i<listed.size:=dU
  have xM:∀x,x≠i->(listed.setIfInBounds i true).getD x false=listed.getD x false:=fun x hx=>getD_set_ne false (iQ hx)
  cases vH:dj i M with
  |true=>
   obtain⟨j,hj⟩:=Bk vH;obtain⟨_,jh,SY⟩:=ay j i hj;have nN:=(aC.1 hj).1;have hjr:j=r:=by
    have h1:¬j<r:=fun hh=>by
     have:=(hJ.pre j i hj).2 hh
     grind
    rcases qU j with h0|h0
    ·omega
    ·have FJ:M[j-1]?=some M[j-1]:=aB oM
     have hd:=SY (j-1) _ oM FJ
     have:=(hJ.pre (j-1) _ FJ).1 (gL _ hd)
     omega
   subst hjr;have hC:lc G w0 B w' ι (Hs j):=⟨fun w2 hg=>iJ w2 ⟨hg.os.trans hJ.rel.gr.os,hg.tape.trans hJ.rel.gr.tape,hg.output.trans hJ.rel.gr.output,aS hJ.rel.size hg.size,fun k hk hx=>by
    exact Sq⟩,gJ⟩
   have hW:=hw j (aP _) i o oM ho w0 B w' ι a'.eval hJ.rel hC (cg listed a' w' j ι i k o hJ gL ho jH oM (nR _)) gq
   refine Cj (fun v w2 hv=>?_) hW
   obtain⟨ι',lT,iH,SV⟩:=hv;obtain⟨he,hV⟩:=al j (aP _) nN;refine⟨j+1,ι',by rw[iw];exact hJ.defers,by rw[ko];exact hJ.size,ip hJ.pin (du o (aJ ho)) _,nN,fun j2 m2 oA=>?_,fun x hx hl=>?_,lT,fun x ox t iZ uT jM vU=>?_,fun t ht=>?_⟩
   ·by_cases em:m2=i
    ·subst em;rw[zf vJ]
     grind
    ·rw[xM m2 em,hJ.pre j2 m2 oA]
     grind
   ·by_cases ex:x=i
    ·subst ex;omega
    ·rw[xM x ex]at hl
     have:=hJ.lok x hx hl
     omega
   ·by_cases ex:x=i
    ·subst ex;rw[ho]at iZ;cases iZ
     rw[vU,MJ ZU]
     exact SV
    ·rw[xM x ex]at jM;rw[mf (nO x i ox o t iZ ho ex vU),hV x uT (hJ.lok x uT jM)];exact(hJ.vals x ox t iZ uT jM vU).keep iH
   ·have eA:o.dst≠some t:=ht i o ho jH (zf vJ);rw[mf eA,he,z41];exact(hJ.rest t fun x ox iZ uT jM=>ht x ox iZ uT (getD_set_true jM)).keep iH
  |false=>
   have jh:lo i<=r:=by
    exact Tv
   have hQ:=hq r (aP _) hJ.le i o jH ho jh vH w0 B w' ι a'.eval hJ.rel rf (cg listed a' w' r ι i i o hJ gL ho jH (nR _) oM) gq
   refine Cj (fun v w2 hv=>?_) hQ
   obtain⟨hg,SV⟩:=hv;have iH:bQ none w' ι (Rd B ι (Hs r)) w2 ι (Rd B ι (Hs r)):=bQ.gr hg;refine⟨r,ι,by rw[iw];exact hJ.defers,by rw[ko];exact hJ.size,ip hJ.pin (du o (aJ ho)) _,hJ.le,fun j2 m2 oA=>?_,fun x hx hl=>?_,hJ.rel.grow hg,fun x ox t iZ uT jM vU=>?_,fun t ht=>?_⟩
   ·have em:m2≠i:=fun e=>by
     subst e;rw[Nt oA]at vH
     cases vH
    rw[xM m2 em];exact hJ.pre j2 m2 oA
   ·by_cases ex:x=i
    ·subst ex;exact jh
    ·rw[xM x ex]at hl;exact hJ.lok x hx hl
   ·by_cases ex:x=i
    ·subst ex;rw[ho]at iZ;cases iZ
     rw[vU,MJ ZU]
     exact SV
    ·rw[xM x ex]at jM;rw[mf (nO x i ox o t iZ ho ex vU)];exact(hJ.vals x ox t iZ uT jM vU).keep0 iH
   ·have eA:o.dst≠some t:=ht i o ho jH (zf vJ);rw[mf eA];exact(hJ.rest t fun x ox iZ uT jM=>ht x ox iZ uT (getD_set_true jM)).keep0 iH
 ·
  rintro listed a' w' ⟨r,ι,hJ⟩ dX
  have hr:r=M.length:=by
   have hle:=hJ.le
   rcases bB r M.length with h1|h1
   ·have FJ:M[r]?=some M[r]:=aB h1
    have:=(hJ.pre r _ FJ).1 (dX _ (ay r _ FJ).1)
    omega
   ·omega
  subst hr;refine zc hT iJ gJ _ (fun o ho=>du o (jA ho)) _ _ a' w' hK ⟨hJ.defers,by rw[hJ.size];exact qS,hJ.pin,ι,hJ.rel,?_⟩
  refine⟨by rw[CL,qj _ (nR _)];exact hJ.size.symm,fun t x v hx hv=>?_⟩
  have u3:a'.eval (.tmp t)=v:=R9
  have bS:t<env0.length:=by have:=(aC.1 hx).1;rw[CL,qj _ (nR _)]at this;exact this
  rcases dP (∃i o,i<k/\all[i]?=some o/\o.dst=some t)with⟨i,o,jH,ho,cj⟩|mM
  ·have wJ:(all[i]?).bind (·.dst)=some t:=aZ
   have he:(iG all (V M.length) 0 k (es M.length))[t]?=some (V M.length i):=CH wJ k _ jH aZ fun x hx mU=>by
    grind
   rw[he]at hx;cases hx
   have:=hJ.vals i o t ho jH (dX i jH) cj
   grind
  ·have he:(iG all (V M.length) 0 k (es M.length))[t]?=(es M.length)[t]?:=II (all:=all) (avs:=V M.length) k _ fun i hi=>by
    grind
   rw[he]at hx
   have:=hJ.rest t fun i o ho hi _ e=>mM ⟨i,o,hi,ho,e⟩
   rw[u3]at this;have e2:bO (es M.length) (.tmp t)=x:=by simp only[bO,aK,hx];rfl
   grind
end
section
variable{P:Program}{G:World->Prop}{T:TT}{nt:Nat}
theorem aY.regM(hT:gY P T)(hm:P.follows .mixedOrders=true){id:Nat}{ops:Array Oper}(k:Nat)(M:List Nat)(lo:Nat->Nat)(cU:CE nt ops.toList k M lo=true)(Q:SO->Exit->List AV->AH->Prop){env:List AV}{H:AH}
  (h:∀(P':Program)(G':World->Prop)(E:SO),(∀f l r,fX P G f l r->fX P' G' f l r)->(∀f as H r H',jP P G f as H r H'->jP P' G' f as H r H')->E=bK->ud P' G' E T ops.toList M lo k M 0 [] [] env H fun env2 H2=>vO P' G' E T ops.toList (Q E) (ops.toList.drop k) env2 H2):aY P G nt (.region id ops true) (Q bK) env H:=by
 intro w0 B hG hB fW a w hS;exact Da hT hG hB hm fW cU (h P G bK (fun _ _ _ h=>h) (fun _ _ _ _ _ h=>h) rfl) hS
theorem aY.loop{γ:Type}(n:Nat)(live:List Nat)(m:Nat)(S:γ->List AV)(h:γ->AH)(I:γ->Prop)(μ:γ->Nat)(x0:γ){c:Code}{Q:Exit->List AV->AH->Prop}{env:List AV}{H:AH}
  (h0:mJ n live m S h env H x0) (hI:I x0) (hr:∀x,I x->aY P G nt c (nB (pg n live m S h I μ (μ x)) Q) (qN live (S x) n 0) (h x)):aY P G nt (.loop c) Q env H:=by
 classical
 intro w0 B hG hB fW a w hS;have pn:∀env H env' H' a w,Wk env H env' H'->St w0 B nt env H a w->St w0 B nt env' H' a w:=fun env H env' H' a w hw hS=>by
  exact S0
 have key:∃f:Act->World->Nat,(∀a w,(∃x,I x/\St w0 B nt (qN live (S x) n 0) (h x) a w)->∃x,I x/\μ x=f a w/\St w0 B nt (qN live (S x) n 0) (h x) a w)/\∀a w x,I x->St w0 B nt (qN live (S x) n 0) (h x) a w->f a w<=μ x:=by
  refine⟨fun a w=>if h:∃k,∃x,I x/\μ x=k/\St w0 B nt (qN live (S x) n 0) (h x) a w then Classical.choose (VG h)else 0,fun a w ⟨x,h1,h2⟩=>?_,fun a w x h1 h2=>?_⟩
  ·have ly:∃k,∃x,I x/\μ x=k/\St w0 B nt (qN live (S x) n 0) (h x) a w:=⟨_,x,h1,rfl,h2⟩
   grind
  ·have ly:∃k,∃x,I x/\μ x=k/\St w0 B nt (qN live (S x) n 0) (h x) a w:=⟨_,x,h1,rfl,h2⟩
   simp only[ly,dif_pos];exact(Classical.choose_spec (VG ly)).2 _ ⟨x,h1,rfl,h2⟩
 obtain⟨f,UI,Vn⟩:=key;refine wp_loop (fun a w=>∃x,I x/\St w0 B nt (qN live (S x) n 0) (h x) a w) f ⟨x0,hI,pn _ _ _ _ a w h0.wk hS⟩ fun a' w' ly=>?_
 obtain⟨x,hx,hμ,hSx⟩:=UI a' w' ly;refine wp_mono (hr x hx w0 B hG hB fW a' w' hSx) ?_;refine IB _ fun env3 H3 a3 w3 Iv n9=>?_
 obtain⟨y,hh,hIy,cJ⟩:=Iv;have hS4:=pn _ _ _ _ a3 w3 hh.wk n9
 grind
theorem aY.block{id:Nat}{c:Code}{Q:Exit->List AV->AH->Prop}{env:List AV}{H:AH}(h:aY P G nt c (km id Q) env H):aY P G nt (.block id c) Q env H:=by
 intro w0 B hG hB fW a w hS;refine wp_block (wp_mono (h w0 B hG hB fW a w hS) ?_)
 exact Hj
end
section
variable{P:Program}{G:World->Prop}{T:TT}{nt:Nat}
theorem aY.of0(hT:gY P T)(hm:P.follows .mixedOrders=true)(kOf:Nat->Nat){c:Code}(cU:xH nt kOf c=true){Q:Exit->List AV->AH->Prop}{env:List AV}{H:AH}
  (h:∀(P':Program)(G':World->Prop)(E:SO),(∀f l r,fX P G f l r->fX P' G' f l r)->(∀f as H r H',jP P G f as H r H'->jP P' G' f as H r H')->E=bK->uE P' G' E T kOf c Q env H):aY P G nt c Q env H:=
 aY.of hT hm kOf cU (fun _=>Q) h
theorem aY.condT{x:Operand}{c d:Code}{Q:Exit->List AV->AH->Prop}{env:List AV}{H:AH}(he:bO env x=.p (.v (.bool true)))(h:aY P G nt c Q env H):aY P G nt (.cond x c d) Q env H:=by
 intro w0 B hG hB fW a w hS;obtain⟨ι,hR,hE⟩:=hS.rep;have hc:=hE.eval x;rw[he]at hc;refine wp_cond_split (jS hc) (fun _=>h w0 B hG hB fW.1 a w hS) (fun hb=>by cases hb)
theorem aY.condF{x:Operand}{c d:Code}{Q:Exit->List AV->AH->Prop}{env:List AV}{H:AH}(he:bO env x=.p (.v (.bool false)))(h:aY P G nt d Q env H):aY P G nt (.cond x c d) Q env H:=by
 intro w0 B hG hB fW a w hS;obtain⟨ι,hR,hE⟩:=hS.rep;have hc:=hE.eval x;rw[he]at hc;refine wp_cond_split (jS hc) (fun hb=>by cases hb) (fun _=>h w0 B hG hB fW.2 a w hS)
theorem aY.never{c d:Code}{Q:Exit->List AV->AH->Prop}{env:List AV}{H:AH}(h:aY P G nt c (nB (fun _ _=>False) Q) env H):aY P G nt (.seq c d) Q env H:=
 .seq _ h fun _ _ h=>h.elim
end
section
variable{P:Program}{G:World->Prop}{T:TT}{nt:Nat}
theorem aY.cutK0{γ:Type}(k:Nat)(n:Nat)(live:List Nat)(m:Nat)(S:γ->List AV)(h:γ->AH)(I:γ->Prop)(hT:gY P T)(hm:P.follows .mixedOrders=true)(kOf:Nat->Nat){c:Code}{Q:Exit->List AV->AH->Prop}{env:List AV}{H:AH}(cU:xH nt kOf (wO k c)=true)
  (h1:∀(P':Program)(G':World->Prop)(E:SO),(∀f l r,fX P G f l r->fX P' G' f l r)->(∀f as H r H',jP P G f as H r H'->jP P' G' f as H r H')->E=bK->uE P' G' E T kOf (wO k c) (nB (lZ n live m S h I) Q) env H)
  (h2:∀y,I y->aY P G nt (kf k c) Q (qN live (S y) n 0) (h y)):aY P G nt c Q env H:=
 aY.cutK k n live m S h I hT hm kOf (fun _=>Q) cU h1 h2
theorem aY.regM0(hT:gY P T)(hm:P.follows .mixedOrders=true){id:Nat}{ops:Array Oper}(k:Nat)(M:List Nat)(lo:Nat->Nat)(cU:CE nt ops.toList k M lo=true){Q:Exit->List AV->AH->Prop}{env:List AV}{H:AH}
  (h:∀(P':Program)(G':World->Prop)(E:SO),(∀f l r,fX P G f l r->fX P' G' f l r)->(∀f as H r H',jP P G f as H r H'->jP P' G' f as H r H')->E=bK->ud P' G' E T ops.toList M lo k M 0 [] [] env H fun env2 H2=>vO P' G' E T ops.toList Q (ops.toList.drop k) env2 H2):aY P G nt (.region id ops true) Q env H:=
 aY.regM hT hm k M lo cU (fun _=>Q) h
end
section
variable{P:Program}{ops:Array Oper}{Q:Exit->Act->World->Prop}
def BC(P:Program)(R:Value->World->Prop)(Z:List PanicEntry->World->Prop):Result Next->Prop
 | .ok (.value v) w'=>R v w'
 | .ok .skip w'=>R undef w'
 | .ok (.enter f args) w'=>Calls P f args w' fun e w''=>(∃v,e=.returned v/\R v w'')\/∃ch,e=.panicked ch/\Z ch w''
 |_=>False
theorem z8b{R:Value->World->Prop}{Z:List PanicEntry->World->Prop}{x:Result Next}(h:a7 P R x):BC P R Z x:=by
 cases x with
 |ok n w=>
  cases n<;>simp only[a7,BC]at h ⊢
  ·exact h
  ·exact h
  ·exact h.mono fun e w' h=>.inl h
 |halt y w=>exact h
theorem Z8{o:Oper}{a:Act}{w:World}{R:Value->World->Prop}{Z:List PanicEntry->World->Prop}{K:Act->World->Prop}
  (h:BC P R Z ((execOp a.eval o).run P w)) (hK:∀v w',R v w'->K (a.put o.dst v) w') (hZ:∀ch w',Z ch w'->Q (.panic ch) a w'):o.wp P a w K Q:=by
 unfold Oper.wp;generalize (execOp a.eval o).run P w=r at *
 cases r with
 |ok n w'=>
  cases n<;>simp only[BC]at h<;>simp only[Oper.upon]
  case value v=>exact hK _ _ h
  case skip=>exact hK _ _ h
  case enter f args=>
   refine h.mono fun e w'' h=>?_
   grind
 |halt x w'=>simp only[BC]at h
theorem Y3(J:Array Bool->Act->World->Prop)(k r:Nat)(hB:ov ops k r=true)(hk:k<=ops.size)
  (sG:∀(listed:Array Bool)(a:Act)(w:World)(i:Nat)(o:Oper),J listed a w->listed.size=ops.size->(∀d∈jG ops i,listed.getD d false=true)->ops[i]?=some o->i<k->listed.getD i false=false →
   (if Region.wanted o (so ops a.eval)then BC P (fun v w'=>J (listed.setIfInBounds i true) (a.put o.dst v) w') (fun ch w'=>Q (.panic ch) a w') ((execOp a.eval o).run P w)else J (listed.setIfInBounds i true) (a.put o.dst undef) w))
  (lW:∀(listed:Array Bool)(a:Act)(w:World),J listed a w->(∀i,i<k->listed.getD i false=true)->wpList P ops Q (ops.toList.drop k) a w):
  ∀(m:Nat)(listed:Array Bool)(a:Act)(w:World),J listed a w->listed.size=ops.size->(∀i,listed.getD i false=true->∀d∈jG ops i,listed.getD d false=true)->(∀i,k<=i->listed.getD i false=false) →
   ((List.range k).filter fun i=>!listed.getD i false).length=m->wpAny P .any ops Q (m+(ops.size-k)) listed a w:=by
 simp only[ov,gH,p9,PP,bF,bG,List.contains_iff_mem]at hB;obtain⟨⟨W5,hB2⟩,hB3⟩:=hB;have gO:∀i d,d∈jG ops i->d<i:=fun i d hd=>by
  exact S7
 have yF:∀j,k<=j->j<ops.size->∀i,i<j->i∈HX ops r (jG ops j):=fun j Ve hj i hi=>by
  grind
 intro m
 induction m with
 |zero=>
  intro listed a w hJ sW eD hu hm;have dX:∀i,i<k->listed.getD i false=true:=fun i hi=>by
   simp_all
  exact N7 gO r k yF (ops.size-k) k listed a w (nR _) oM sW dX (fun i h1 _=>hu i h1) eD (lW listed a w hJ dX) _ oM
 |succ m ih=>
  intro listed a w hJ sW eD hu hm;obtain⟨i0,iF,wx⟩:∃i,i<k/\listed.getD i false=false:=by
   exact U0
  have J9:m+1+(ops.size-k)=(m+(ops.size-k))+1:=dU
  rw[J9];refine⟨fun h0=>?_,fun i hi=>?_⟩
  ·obtain⟨i,_,hi⟩:=Dz gO sW i0 i0 (nR _) oM wx
   grind
  ·obtain⟨nX,o,ho,_⟩:=mem_ready.1 hi;have TZ:=(jB.1 ho).1;obtain⟨ET,vJ⟩:=IL nX;have jH:i<k:=by
    exact S8
   have hs:=sG listed a w i o hJ sW (CR hi) ho jH ET;have wI:((List.range k).filter fun x=>!(listed.setIfInBounds i true).getD x false).length=m:=by
    exact U5
   have EV:∀x,k<=x->(listed.setIfInBounds i true).getD x false=false:=fun x hx=>by
    rw[getD_set_ne false oM];exact hu x hx
   have qq:∀x,(listed.setIfInBounds i true).getD x false=true->∀d∈jG ops x,(listed.setIfInBounds i true).getD d false=true:=fun x hx d hd=>by
    exact So
   unfold wpOp;simp only[ho];rw[MN]
   split
   ·rename_i hw;rw[aF hw]at hs;exact .inl (Z8 hs (fun v w' hv=>ih _ _ _ hv EE qq EV wI) (fun ch w' hz=>hz))
   ·rename_i hw;rw[aE hw]at hs;exact ih _ _ _ hs EE qq EV wI
theorem zo9{id:Nat}{l:List Oper}{a:Act}{w:World}(k r:Nat)(J:Array Bool->Act->World->Prop)
  (hm:P.follows .mixedOrders=true) (hB:ov l.toArray k r=true) (hk:k<=l.length) (h0:J (Array.replicate l.length false) a w.drew)
  (sG:∀(listed:Array Bool)(a:Act)(w:World)(i:Nat)(o:Oper),J listed a w->listed.size=l.length->(∀d∈jG l.toArray i,listed.getD d false=true)->l[i]?=some o->i<k->listed.getD i false=false →
   (if Region.wanted o (so l.toArray a.eval)then BC P (fun v w'=>J (listed.setIfInBounds i true) (a.put o.dst v) w') (fun ch w'=>Q (.panic ch) a w') ((execOp a.eval o).run P w)else J (listed.setIfInBounds i true) (a.put o.dst undef) w))
  (lW:∀(listed:Array Bool)(a:Act)(w:World),J listed a w->(∀i,i<k->listed.getD i false=true)->wpList P l.toArray Q (l.drop k) a w):
  (Code.region id l.toArray true).wp P Q a w:=by
 refine wp_region_any hm ?_;have rE:∀n i,(Array.replicate n false).getD i false=false:=fun n i=>by
  by_cases h:i<n<;>simp[h]
 have dM:l.toArray.size=k+(l.toArray.size-k):=wb
 have x4:l.toArray.size=l.length:=jT
 have dX:=Y3 (P:=P) (ops:=l.toArray) (Q:=Q) J k r hB zo (fun listed a w i o hJ sW hd ho jH nX=>sG listed a w i o hJ EE hd RC jH nX) (fun listed a w hJ hl=>by grind)
  k (Array.replicate l.length false) a w.drew h0 jT (fun i h=>by rw[rE]at h;cases h) (fun i _=>rE _ i) (by
   exact Si)
 simp_all
end
inductive EO(P:Program)(G:World->Prop)(f:FuncId)(ls:List AV)(H:AH)(K:List PanicEntry->AH->Prop):Prop
 |mk (σ:List Nat) (cs:List AV) (Hc:AH) (r:AV) (Hc':AH) (h:jP P G f cs Hc r Hc') (hc:ls=AV.ren.renL (lV σ H.length) cs) (hb:vi σ H Hc cs=true)
  (hp:σ.map (fun l=>ur (H.getD l none))=Hc.map (bh (lV σ H.length) none)) (ch:List PanicEntry) (hr:r.panOf=some ch) (k:K ch (zT σ H Hc'))
def Ej(P:Program)(G:World->Prop)(E:SO)(T:TT)(all:List Oper)(m:Nat)(lo:Nat->Nat)(k:Nat)(e0:List AV)(H:AH)(Q:Exit->List AV->AH->Prop):Prop:=
 rl P G E T [m] lo 0 [] H k 0 all e0 [] fun env _=>(match all[m]? with
  |some o=>(match o.op with
   | .call c=>(match c.callee with
    | .value (.func f)=>EO P G f (c.args.toList.map (bO env)) H fun ch H'=>Q (.panic ch) (e0.map fun _=>AV.junk) H'
    |_=>False)
   |_=>False)
  |none=>False)
section
variable{P:Program}{G:World->Prop}{T:TT}{w0:cF}{B:Nat->Prop}{nt:Nat}
theorem Yc(hT:gY P T)(iJ:∀w,tR w0 w->G w)(gJ:∀b,w0.own b->B b)(hm:P.follows .mixedOrders=true){id:Nat}{all:List Oper}{k:Nat}{m0:Nat}{lo:Nat->Nat}(du:∀o∈all,∀t,o.dst=some t->w0.pin t=none)(cU:CE nt all k [m0] lo=true){Q:Exit->List AV->AH->Prop}{env0:List AV}{H:AH}{a:Act}{w:World}
  (h:Ej P G bK T all m0 lo k env0 H Q) (hS:St w0 B nt env0 H a w):
  (Code.region id all.toArray true).wp P (rT w0 B nt Q) a w:=by
 obtain⟨jm,jU,n5,ι,gZ,AW⟩:=hS;have qS:env0.length=nt:=by rw[AW.len];exact jU
 unfold CE at cU;simp only[gH,bF]at cU;obtain⟨⟨⟨⟨fy,lI⟩,eJ⟩,oQ⟩,tY⟩:=cU;have m3:∀(i:Nat)(o:Oper)(t:Tmp),all[i]?=some o->o.dst=some t->t<env0.length:=fun i o t ho ht=>by
  grind
 rw[p9]at oQ;have oR:∀i o,i<k->all[i]?=some o->BL all k [m0] lo i o=true:=fun i o hi ho=>by
  grind
 unfold Bg at tY;rw[p9]at tY;have ay:∀(j m:Nat),[m0][j]?=some m->m<k/\lo m=j+1/\∀j' m',j=j'+1->[m0][j']?=some m'->m'∈jG all.toArray m:=fun j m hj=>by
  have nN:=(aC.1 hj).1;simp_all
 unfold Ej at h;obtain⟨avs,hK,hF⟩:=XM (all:=all) hT (fun _ _=>trivial) k 0 env0 [] _ oM j6
 have q8:∃om c f,all[m0]?=some om/\om.op=.call c/\c.callee=.value (.func f)/\EO P G f (c.args.toList.map (bO (iG all avs 0 k env0))) H fun ch H'=>Q (.panic ch) (env0.map fun _=>AV.junk) H':=by
  grind
 obtain⟨V,Hs,es,e1,e2,qj,hq,q8⟩:∃(V:Nat->Nat->AV)(Hs:Nat->AH)(es:Nat->List AV),Hs 0=H/\es 0=env0/\(∀r,r<=[m0].length->(es r).length=env0.length)/\(∀i o,i<k->all[i]?=some o->lo i<=0->dj i [m0]=false->QS P G o (iG all (V 0) 0 i (es 0)) (Hs 0) (V 0 i)) ∧
   ∃om c f,all[m0]?=some om/\om.op=.call c/\c.callee=.value (.func f)/\EO P G f (c.args.toList.map (bO (iG all (V 0) 0 k (es 0)))) (Hs 0) fun ch H'=>Q (.panic ch) (env0.map fun _=>AV.junk) H':=
  ⟨fun _=>avs,fun _=>H,fun _=>env0,rfl,rfl,fun _ _=>rfl,fun i o hi ho hl vH=>by
   grind,q8⟩
 have nO:∀(i j:Nat)(oi oj:Oper)(t:Tmp),all[i]?=some oi->all[j]?=some oj->i≠j->oi.dst=some t->oj.dst≠some t:=by
  exact Ru
 have gO:∀i d,d∈jG all.toArray i->d<i:=fun i d hd=>by
  exact Hp
 have cg:∀(listed:Array Bool)(a:Act)(w:World)(r:Nat)(ι:Pl)(i q:Nat)(o:Oper),JM all k [m0] lo w0 B env0.length V Hs es listed a w r ι->(∀d∈jG all.toArray i,listed.getD d false=true)->all[i]?=some o->i<k->i<=q->q<=k →
   ∀x,x∈o.op.operands->dD w ι (Rd B ι (Hs r)) (bO (iG all (V r) 0 q (es r)) x) (a.eval x):=by
  intro listed a w r ι i q o hJ gL ho jH Vl V5 x hx;have gB:=oR i o jH ho;unfold BL at gB;simp only[gH]at gB;have j8:=(mF.1 gB.1.1) x hx
  cases x with
  |const v=>exact .p _ _ (WE _ _ _)
  |global g=>exact .p _ _ (.v _)
  |func f=>exact .p _ _ (.v _)
  |tmp t=>
   simp only[bG]at j8
   rcases j8 with mA|xP
   ·have he:(iG all (V r) 0 q (es r))[t]?=(es r)[t]?:=II q (es r) fun j hj=>HS mA oM
    have hr:=hJ.rest t fun j oj hj qf _=>by
     have:=HS mA qf
     grind
    have e1:bO (iG all (V r) 0 q (es r)) (.tmp t)=bO (es r) (.tmp t):=by
     exact Gv
    rw[e1];exact hr
   ·rw[fQ]at xP;obtain⟨d,u4,UL⟩:=xP;have zD:(all[d]?).bind (·.dst)=some t:=by simpa using UL
    cases xr:all[d]? with
    |none=>grind
    |some od=>
     have eJ:od.dst=some t:=aZ
     have wG:=gO i d u4;have hl:=gL d u4
     rcases bB t env0.length with bS|bS
     ·have he:(iG all (V r) 0 q (es r))[t]?=some (V r d):=CH zD q (es r) oM (by rw[qj r hJ.le];exact bS) fun j hj qh=>by
       grind
      have e1:bO (iG all (V r) 0 q (es r)) (.tmp t)=V r d:=ZV
      rw[e1];exact hJ.vals d od t xr oM hl eJ
     grind
 refine zo9 k 8 (fun listed a w=>∃ι,JM all k [m0] lo w0 B env0.length V Hs es listed a w 0 ι) hm fy lI ?_ ?_ ?_
 ·
  have rE:∀i,(Array.replicate all.length false).getD i false=false:=fun i=>by by_cases h:i<all.length<;>simp[h]
  have hg:Gr w w.drew:=(Below.refl _ _).drew;refine⟨ι,jm,by rw[qS];exact jU,n5,aP _,fun j m _=>⟨(fun hh=>by grind),fun hh=>by omega⟩,(fun i _ hl=>by grind),(by rw[e1];exact gZ.grow hg),(fun i o t _ _ hl=>by grind),fun t _=>?_⟩
  rw[e1,e2];exact(AW.eval (.tmp t)).keep0 (bQ.gr hg)
 ·
  rintro listed a' w' i o ⟨ι,hJ⟩ sW gL ho jH nX
  have rf:G w':=iJ _ hJ.rel.gr;have gq:∀f,a'.eval (.func f)=.func (.func f) #[] #[]:=fun _=>rfl
  have gB:=oR i o jH ho;unfold BL at gB;simp only[gH]at gB;have tw:o.guard=none:=by simpa using gB.1.2
  rw[aF (by simp[Region.wanted,tw])]
  have vJ:i<listed.size:=dU
  have xM:∀x,x≠i->(listed.setIfInBounds i true).getD x false=listed.getD x false:=fun x hx=>getD_set_ne false (iQ hx)
  cases vH:dj i [m0]with
  |true=>
   have him:i=m0:=by
    obtain⟨j,hj⟩:=Bk vH
    grind
   subst him;obtain⟨om,c,f,It,Va,Vq,σ,cs,Hc,r,Hc',hr,dB,hb,hp,ch,tl,kq⟩:=q8;rw[ho]at It
   cases It
   have hC:lc G w0 B w' ι (Hs 0):=⟨fun w2 hg=>iJ w2 ⟨hg.os.trans hJ.rel.gr.os,hg.tape.trans hJ.rel.gr.tape,hg.output.trans hJ.rel.gr.output,aS hJ.rel.size hg.size,fun k hk hx=>by
    exact Sq⟩,gJ⟩
   have hρ:=cg listed a' w' 0 ι i k o hJ gL ho jH oM (nR _)
   have V9:∀x,x∈c.args->x∈o.op.operands:=fun x hx=>by rw[Va];simp[Op.operands,Call.operands,Vq,hx]
   have wD:(execOp a'.eval o).run P w'=.ok (.enter f (c.args.map a'.eval)) w':=by
    simp only[execOp,Va,resolve,Vq,gq,Deferred.ofValue,Sem.run_bind,Sem.run_pure,Result.andThen_ok,invoke]
    have:=hr.1 (#[]++c.args.map a'.eval++#[]) w'
    exact pc
   rw[wD];unfold vi at hb;simp only[gH]at hb;obtain⟨⟨⟨dG,gE⟩,eg⟩,u5⟩:=hb;have hl:cs.length=(c.args.toList.map a'.eval).length:=by
    have:=aG List.length dB
    rw[df]at this;simpa using this.symm
   have AK:=Dh hJ.rel hC hr dG (iM gE) hp eg u5 hl fun j x v hx hv=>by
    rw[aH]at hv
    cases hy:c.args.toList[j]? with
    |none=>rw[hy]at hv;cases hv
    |some y=>
     rw[hy]at hv;cases hv
     have h1:(c.args.toList.map (bO (iG all (V 0) 0 k (es 0))))[j]?=some (bO (iG all (V 0) 0 k (es 0)) y):=aZ
     rw[dB,CM,hx]at h1
     grind
   have e:(c.args.toList.map a'.eval).toArray=c.args.map a'.eval:=by
    grind
   rw[e]at AK;refine AK.mono fun e w2 ⟨ι',h1,h2,h3⟩=>?_
   rcases zb h3 with⟨ch2,h4,h5⟩|⟨h4,v,_,_⟩
   ·rw[CC,tl]at h4
    cases h4
    exact .inr ⟨ch,h5,_,_,kq,hJ.defers,by rw[hJ.size];exact qS,hJ.pin,ι',h1,by rw[tc];exact hJ.size.symm,fun t x v hx _=>by
     rw[aH]at hx
     cases hz:env0[t]? with
     |none=>rw[hz]at hx;cases hx
     |some z=>rw[hz]at hx;cases hx;exact .junk v⟩
   ·rw[CC,tl]at h4
    cases h4
  |false=>
   have jh:lo i<=0:=by
    exact Tv
   have hQ:=hq i o jH ho jh vH w0 B w' ι a'.eval hJ.rel rf (cg listed a' w' 0 ι i i o hJ gL ho jH (nR _) oM) gq
   refine z8b (Cj (fun v w2 hv=>?_) hQ)
   obtain⟨hg,SV⟩:=hv;have iH:bQ none w' ι (Rd B ι (Hs 0)) w2 ι (Rd B ι (Hs 0)):=bQ.gr hg;refine⟨ι,by rw[iw];exact hJ.defers,by rw[ko];exact hJ.size,ip hJ.pin (du o (aJ ho)) _,hJ.le,fun j2 m2 oA=>?_,fun x hx hl=>?_,hJ.rel.grow hg,fun x ox t iZ uT jM vU=>?_,fun t ht=>?_⟩
   ·have em:m2≠i:=fun e=>by
     grind
    rw[xM m2 em];exact hJ.pre j2 m2 oA
   ·by_cases ex:x=i
    ·subst ex;exact jh
    ·rw[xM x ex]at hl;exact hJ.lok x hx hl
   ·by_cases ex:x=i
    ·subst ex;rw[ho]at iZ;cases iZ
     rw[vU,MJ ZU]
     exact SV
    ·rw[xM x ex]at jM;rw[mf (nO x i ox o t iZ ho ex vU)];exact(hJ.vals x ox t iZ uT jM vU).keep0 iH
   ·have eA:o.dst≠some t:=ht i o ho jH (zf vJ);rw[mf eA];exact(hJ.rest t fun x ox iZ uT jM=>ht x ox iZ uT (getD_set_true jM)).keep0 iH
 ·
  rintro listed a' w' ⟨ι,hJ⟩ dX
  have h1:=(hJ.pre 0 m0 rfl).1 (dX m0 (ay 0 m0 rfl).1);omega
end
def QU(dz:Bool)(P:Program)(G:World->Prop)(E:SO)(T:TT)(all:List Oper)(o:Oper)(env:List AV)(H:AH)(K:List AV->AH->Prop)(Q:Exit->List AV->AH->Prop):Prop:=
 match dz&&Ep all o with
 |true=>HJ T o env fun a=>K (rH env o.dst a) H
 |false=>(match o.guard with
  |none=>kh P G E T o env H K Q
  |some (j,want)=>(match CY all env j with
   |some b=>(match yf want b with
    |true=>kh P G E T o env H K Q
    |false=>K (rH env o.dst (.p (.v undef))) H)
   |none=>False))
def CW(i:Nat):List Nat->Bool
 |[]=>false
 |x::l=>Nat.beq i x||CW i l
def IX:List Nat->List Nat->Bool
 |[],_=>true
 |x::l,done=>CW x done&&IX l done
def zl(done:List Nat):Nat->List (List Nat)->List Nat
 |_,[]=>[]
 |i,d::ds=>(match !CW i done&&IX d done with
  |true=>i::zl done (i+1) ds
  |false=>zl done (i+1) ds)
def DZ(f:Nat->Prop):List Nat->Prop
 |[]=>True
 |[i]=>f i
 |i::j::is=>f i/\DZ f (j::is)
def BU(ops:List Oper):List (List Nat):=(List.range ops.length).map (jG ops.toArray)
def CV(dz:Bool)(P:Program)(G:World->Prop)(E:SO)(T:TT)(all:List Oper)(ds:List (List Nat))(Q:Exit->List AV->AH->Prop):Nat->List Nat->List AV->AH->Prop
 |0,done,env,H=>(match zl done 0 ds with
  |[]=>Q .normal env H
  |_::_=>False)
 |n+1,done,env,H=>(match zl done 0 ds with
  |[]=>Q .normal env H
  |i::is=>DZ (fun i=>match all[i]? with
   |some o=>QU dz P G E T all o env H (fun env' H'=>CV dz P G E T all ds Q n (i::done) env' H') Q
   |none=>False) (i::is))
theorem Ca{i:Nat}:∀{l:List Nat},CW i l=true ↔ i∈l
 |[]=>by simp[CW]
 |x::l=>by
  rw[CW,bG,Ca,fJ];simp_all
theorem Kl{done:List Nat}:∀{l:List Nat},IX l done=true ↔ ∀x∈l,x∈done
 |[]=>by simp[IX]
 |x::l=>by simp[IX,Ca,Kl]
theorem P2{done:List Nat}{j:Nat}:∀{k:Nat}{ds:List (List Nat)},j∈zl done k ds ↔ ∃d,k<=j/\ds[j-k]?=some d/\j ∉ done/\∀x∈d,x∈done
 |k,[]=>by simp[zl]
 |k,d::ds=>by
  have ih:=P2 (done:=done) (j:=j) (k:=k+1) (ds:=ds);have sG:(∃d',k<=j/\(d::ds)[j-k]?=some d'/\j ∉ done/\∀x∈d',x∈done) ↔ (j=k/\j ∉ done/\∀x∈d,x∈done)\/∃d',k+1<=j/\ds[j-(k+1)]?=some d'/\j ∉ done/\∀x∈d',x∈done:=by
   constructor
   ·grind
   ·rintro(⟨e,h⟩|⟨d',h1,h2,h3⟩)
    ·simp_all
    grind
  rw[sG,<- ih];have hc:(!CW k done&&IX d done)=true ↔ k ∉ done/\∀x∈d,x∈done:=by
   rw[gH,Kl,eW,<- nG,Ca]
  rw[zl]
  grind
theorem Jx{f:Nat->Prop}:∀{l:List Nat},DZ f l->∀i∈l,f i
 |[],_,i,hi=>by cases hi
 |[x],h,i,hi=>by
  rcases hY.1 hi with rfl
  exact h
 |x::y::l,h,i,hi=>by
  rcases fJ.1 hi with rfl|hi
  ·exact h.1
  ·exact Jx h.2 i hi
section
variable{P:Program}{G:World->Prop}{T:TT}{w0:cF}{B:Nat->Prop}{nt:Nat}
theorem Mn{ops:List Oper}{j:Nat}{d:List Nat}:(BU ops)[j]?=some d ↔ j<ops.length/\d=jG ops.toArray j:=by
 unfold BU
 grind
theorem Li{ops:List Oper}{listed:Array Bool}{done:List Nat}(hs:listed.size=ops.length)(hl:∀i,listed.getD i false=true ↔ i∈done)(j:Nat):j∈Region.ready .any ops.toArray listed ↔ j∈zl done 0 (BU ops):=by
 rw[P2,mem_ready]
 constructor
 ·rintro⟨h1,o,ho,h2⟩
  obtain⟨h3,h4⟩:=IL h1;refine⟨_,aP _,by exact Mn.2 ⟨by rw[<-hs];exact h4,rfl⟩,fun hm=>?_,fun x hx=>?_⟩
  ·grind
  ·unfold jG at hx
   grind
 ·rintro⟨d,_,h1,h2,h3⟩
  rw[Nat.sub_zero]at h1;obtain⟨h4,rfl⟩:=Mn.1 h1;have hu:listed.getD j false=false:=by
   grind
  have h5:j<listed.size:=by rw[hs];exact h4
  refine⟨by simpa [h5]using hu,ops[j],by simp[h4],fun e he hb=>(hl _).2 (h3 _ ?_)⟩
  have ho:ops.toArray[j]?=some ops[j]:=by simp[h4]
  unfold jG
  grind
theorem z4j(hT:gY P T)(iJ:∀w,tR w0 w->G w){o:Oper}(eJ:∀t,o.dst=some t->w0.pin t=none){env:List AV}{H:AH}{K:List AV->AH->Prop}{Q:Exit->Act->World->Prop}{a:Act}{w:World}{next:Act->World->Prop}
  (h:HJ T o env fun x=>K (rH env o.dst x) H) (hS:St w0 B nt env H a w) (hK:∀env' H' a' w',K env' H'->St w0 B nt env' H' a' w'->next a' w'):o.guard=none/\o.wp P a w next Q:=by
 obtain⟨hd,hn,gV,ι,hR,hE⟩:=hS;obtain⟨hg,x,hk,hq⟩:=Ds (P:=P) (G:=G) (H:=H) hT h;exact⟨hg,Dq (hq w0 B w ι a.eval hR (iJ w hR.gr) (fun y _=>hE.eval y) fun _=>rfl) fun v w' ⟨uX,hv⟩=>hK _ H _ w' hk ⟨by rw[iw];exact hd,by rw[ko];exact hn,ip gV eJ _,ι,hR.grow uX,hE.put (sc:=none) (bQ.gr uX) hv⟩⟩
theorem XL(dz:Bool)(hT:gY P T)(iJ:∀w,tR w0 w->G w)(gJ:∀b,w0.own b->B b){all:List Oper}{Q:Exit->List AV->AH->Prop}(du:∀o∈all,∀t,o.dst=some t->w0.pin t=none):
  ∀(n:Nat)(done:List Nat)(listed:Array Bool)(env:List AV)(H:AH)(a:Act)(w:World),listed.size=all.length->(∀i,listed.getD i false=true ↔ i∈done)->CV dz P G bK T all (BU all) Q n done env H->St w0 B nt env H a w →
   wpAny P .any all.toArray (rT w0 B nt Q) n listed a w
 |0,done,listed,env,H,a,w,hs,hl,h,hS=>by
  have key:=Li hs hl;unfold CV at h
  split at h
  ·rename_i e;rw[e]at key;exact⟨ng.2 fun j hj=>nc ((key j).1 hj),env,H,h,hS⟩
  ·cases h
 |n+1,done,listed,env,H,a,w,hs,hl,h,hS=>by
  have key:=Li hs hl;unfold CV at h
  split at h
  ·rename_i e;rw[e]at key;exact⟨fun _=>⟨env,H,h,hS⟩,fun j hj=>absurd ((key j).1 hj) nc⟩
  ·rename_i i is e;refine⟨fun e2=>?_,fun j hj=>?_⟩
   ·have hi:i∈Region.ready .any all.toArray listed:=(key i).2 aZ
    grind
   ·have Vk:=(key j).1 hj;rw[e]at Vk;have h2:=Jx h j Vk;obtain⟨h3,_⟩:=mem_ready.1 hj;obtain⟨nX,vJ⟩:=IL h3;have FK:(listed.setIfInBounds j true).size=all.length:=RD
    have nM:∀x,(listed.setIfInBounds j true).getD x false=true ↔ x∈j::done:=fun x=>by
     by_cases hx:j=x
     ·simp_all
     ·rw[getD_set_ne false hx,hl x,fJ]
      grind
    unfold wpOp;simp only[wY]
    split at h2
    ·rename_i o ho;rw[ho];have eJ:=du o (aJ ho);have run:kh P G bK T o env H (fun env' H'=>CV dz P G bK T all (BU all) Q n (j::done) env' H') Q->o.wp P a w (wpAny P .any all.toArray (rT w0 B nt Q) n (listed.setIfInBounds j true)) (rT w0 B nt Q):=fun h=>
      XY hT iJ gJ eJ h hS fun env' H' a' w' hK sN=>XL dz hT iJ gJ du n (j::done) _ env' H' a' w' FK nM hK sN
     have hS0:=hS;obtain⟨hd,hn,gV,ι,hR,hE⟩:=hS;unfold QU at h2;simp only
     split at h2
     ·obtain⟨hg,hw⟩:=z4j hT iJ eJ h2 hS0 fun env' H' a' w' hK sN=>XL dz hT iJ gJ du n (j::done) _ env' H' a' w' FK nM hK sN
      rw[aF JQ]
      exact .inl hw
     split at h2
     ·rename_i hg;rw[aF JQ]
      exact .inl (run h2)
     ·rename_i j' want hg
      split at h2
      ·rename_i b hb;have hy:=Cz hb hE;rw[MN]
       split at h2
       ·rename_i ht;rw[aF (by simp[Region.wanted,hg,hy,Dg ht])]
        exact .inl (run h2)
       ·rename_i ht;rw[aE Gp]
        refine XL dz hT iJ gJ du n (j::done) _ _ H _ w FK nM h2 ⟨by rw[iw];exact hd,by rw[ko];exact hn,ip gV eJ _,ι,hR,?_⟩
        exact Hf
      ·cases h2
    ·cases h2
theorem St.drew{env:List AV}{H:AH}{a:Act}{w:World}(h:St w0 B nt env H a w):St w0 B nt env H a w.drew:=by
 obtain⟨h1,h2,h3,ι,hR,hE⟩:=h;have hg:Gr w w.drew:=(Below.refl _ _).drew;exact⟨h1,h2,h3,ι,hR.grow hg,hE.len,fun q x v hx hv=>(hE.at_ q x v hx hv).keep0 (bQ.gr hg)⟩
theorem Yw(dz:Bool)(hT:gY P T)(iJ:∀w,tR w0 w->G w)(gJ:∀b,w0.own b->B b)(hm:P.follows .mixedOrders=true){id:Nat}{all:List Oper}{Q:Exit->List AV->AH->Prop}(du:∀o∈all,∀t,o.dst=some t->w0.pin t=none){env:List AV}{H:AH}{a:Act}{w:World}
  (h:CV dz P G bK T all (BU all) Q all.length [] env H) (hS:St w0 B nt env H a w):(Code.region id all.toArray true).wp P (rT w0 B nt Q) a w:=by
 refine wp_region_any hm ?_;have rE:∀n i,(Array.replicate n false).getD i false=false:=fun n i=>by
  by_cases h:i<n<;>simp[h]
 have:=XL dz hT iJ gJ du all.length [] (Array.replicate all.length false) env H a w.drew jT (fun i=>by rw[rE];simp) h hS.drew
 simpa using this
end
inductive FzW(env:List AV)(H:AH)(K:List AV->AH->Prop):Prop
 |mk (env':List AV) (H':AH) (hw:Wk env H env' H') (k:K env' H')
theorem uG.z{P:Program}{G:World->Prop}{f:FuncId}{o:Oper}{env:List AV}{H:AH}{K:List AV->AH->Prop}{Q:Exit->List AV->AH->Prop}(σ:List Nat){as:List AV}{Hc:AH}{r:AV}{Hc':AH}(h:jP P G f as Hc r Hc')(hc:yb env o=some (f,AV.ren.renL (lV σ H.length) as))(hb:vi σ H Hc as=true)
  (hp:σ.map (fun l=>ur (H.getD l none))=Hc.map (bh (lV σ H.length) none))
  (k:match r.panOf with
   |some ch=>Q (.panic ch) (yO (some (cy σ H Hc')) env) (zT σ H Hc')
   |none=>K (rH (yO (some (cy σ H Hc')) env) o.dst (r.ren (lV σ H.length))) (zT σ H Hc')):uG P G f o env H K Q:=.mk env H (Wk.refl _ _) σ as Hc r Hc' h hc hb hp k
def GK(P:Program)(G:World->Prop)(E:SO)(T:TT)(Q:Exit->List AV->AH->Prop):List Oper->List AV->AH->Prop
 |[],env,H=>Q .normal env H
 |o::os,env,H=>(match o.guard with
  |none=>(match IM env o with
   | .pure f _=>uG P G f o env H (fun env' H'=>GK P G E T Q os env' H') Q
   |_=>kh P G E T o env H (fun env' H'=>GK P G E T Q os env' H') Q)
  |some _=>False)
def vN(P:Program)(G:World->Prop)(E:SO)(T:TT)(kOf:Nat->Nat)(mOf:Nat->List Nat)(lo:Nat->Nat->Nat):Code->(Exit->List AV->AH->Prop)->List AV->AH->Prop
 | .skip,Q,env,H=>Q .normal env H
 | .region id ops false,Q,env,H=>(match mOf id with
  |_::_=>FzW env H fun env H=>vO P G E T ops.toList Q ops.toList env H
  |[]=>(match lo id 0 with
   |0=>vO P G E T ops.toList Q ops.toList env H
   |_+1=>GK P G E T Q ops.toList env H))
 | .region id ops true,Q,env,H=>(match mOf id with
   |[]=>(match lo id 0 with
    |0=>nk P G E T ops.toList H (kOf id) ops.toList env fun env1=>uu T ops.toList (kOf id) env1 (kOf id) ops.toList env1 H fun env2 H2=>vO P G E T ops.toList Q (ops.toList.drop (kOf id)) env2 H2
    |d+1=>CV (match d with
     |0=>true
     |_+1=>false) P G E T ops.toList (BU ops.toList) Q ops.toList.length [] env H)
   |[m]=>ud P G E T ops.toList [m] (lo id) (kOf id) [m] 0 [] [] env H (fun env2 H2=>vO P G E T ops.toList Q (ops.toList.drop (kOf id)) env2 H2)\/Ej P G E T ops.toList m (lo id) (kOf id) env H Q
   |m::m'::Ms=>ud P G E T ops.toList (m::m'::Ms) (lo id) (kOf id) (m::m'::Ms) 0 [] [] env H fun env2 H2=>vO P G E T ops.toList Q (ops.toList.drop (kOf id)) env2 H2)
 | .seq a b,Q,env,H=>vN P G E T kOf mOf lo a (nB (vN P G E T kOf mOf lo b Q) Q) env H
 | .cond c a b,Q,env,H=>(match bO env c with
  | .p (.v (.bool x))=>(match x with
   |true=>vN P G E T kOf mOf lo a Q env H
   |false=>vN P G E T kOf mOf lo b Q env H)
  |_=>False)
 | .block id c,Q,env,H=>vN P G E T kOf mOf lo c (km id Q) env H
 | .loop c,Q,env,H=>iO (vN P G E T kOf mOf lo c) Q env H
 | .exit id,Q,env,H=>Q (.exit id) env H
 | .ret,Q,env,H=>Q .ret env H
 |_,_,_,_=>False
def yB(nt:Nat)(kOf:Nat->Nat)(mOf:Nat->List Nat)(lo:Nat->Nat->Nat):Code->Bool
 | .region id ops draw=>!draw||(match mOf id with
  |[]=>(match lo id 0 with
   |0=>WT nt ops.toList (kOf id)
   |_+1=>true)
  |m::Ms=>CE nt ops.toList (kOf id) (m::Ms) (lo id))
 | .seq a b=>yB nt kOf mOf lo a&&yB nt kOf mOf lo b
 | .cond _ a b=>yB nt kOf mOf lo a&&yB nt kOf mOf lo b
 | .block _ c=>yB nt kOf mOf lo c
 | .loop c=>yB nt kOf mOf lo c
 |_=>true
section
variable{P:Program}{G:World->Prop}{T:TT}{w0:cF}{B:Nat->Prop}{nt:Nat}
theorem Mr(hT:gY P T)(iJ:∀w,tR w0 w->G w)(gJ:∀b,w0.own b->B b){all:List Oper}{Q:Exit->List AV->AH->Prop}:∀(os:List Oper),(∀o∈os,∀t,o.dst=some t->w0.pin t=none)->∀(env:List AV)(H:AH)(a:Act)(w:World),GK P G bK T Q os env H->St w0 B nt env H a w->wpList P all.toArray (rT w0 B nt Q) os a w
 |[],_,env,H,a,w,h,hS=>⟨env,H,h,hS⟩
 |o::os,jd,env,H,a,w,h,hS=>by
  have eJ:=jd o jT
  have gj:∀o∈os,∀t,o.dst=some t->w0.pin t=none:=fun x hx=>jd x (by simp[hx])
  have nx:=fun env' H' a' w' (hK:GK P G bK T Q os env' H') sN=>Mr (all:=all) hT iJ gJ os gj env' H' a' w' hK sN
  unfold GK at h;unfold wpList
  split at h
  ·rename_i hg;rw[aF JQ]
   split at h
   ·exact .inl (D2 iJ gJ eJ h hS nx)
   ·exact .inl (XY hT iJ gJ eJ h hS nx)
  ·cases h
theorem sq(hT:gY P T)(iJ:∀w,tR w0 w->G w)(gJ:∀b,w0.own b->B b)(hm:P.follows .mixedOrders=true)(kOf:Nat->Nat)(mOf:Nat->List Nat)(lo:Nat->Nat->Nat):∀(c:Code),fg w0 c->yB nt kOf mOf lo c=true->∀(Q:Exit->List AV->AH->Prop)(env:List AV)(H:AH)(a:Act)(w:World),vN P G bK T kOf mOf lo c Q env H->St w0 B nt env H a w->c.wp P (rT w0 B nt Q) a w
 | .skip,_,_,Q,env,H,a,w,h,hS=>wp_skip ⟨env,H,h,hS⟩
 | .region id ops false,fW,cU,Q,env,H,a,w,h,hS=>by
  unfold vN at h
  split at h
  ·obtain⟨env',H',hw,h⟩:=h;obtain⟨ι,hR,hE⟩:=hS.rep;exact wp_region_list (zc hT iJ gJ _ fW env' H' a w h ⟨hS.defers,hS.size,hS.pin,hw w0 B w ι a.tmps gJ hR hE⟩)
  ·split at h
   ·exact wp_region_list (zc hT iJ gJ _ fW env H a w h hS)
   ·exact wp_region_list (Mr hT iJ gJ _ fW env H a w h hS)
 | .region id ops true,fW,cU,Q,env,H,a,w,h,hS=>by
  unfold vN at h;simp only[yB,cw,bI]at cU
  cases kM:mOf id with
  |nil=>
   rw[kM]at h cU
   cases hl:lo id 0 with
   |zero=>
    rw[hl]at h cU;exact N5 hT iJ gJ hm fW cU h hS
   |succ _=>
    rw[hl]at h;exact Yw _ hT iJ gJ hm fW h hS
  |cons m Ms=>
   cases Ms with
   |nil=>
    rw[kM]at h cU
    rcases h with h|h
    ·exact Da hT iJ gJ hm fW cU h hS
    ·exact Yc hT iJ gJ hm fW cU h hS
   |cons m' Ms=>
    rw[kM]at h cU;exact Da hT iJ gJ hm fW cU h hS
 | .seq x y,fW,cU,Q,env,H,a,w,h,hS=>by
  simp only[yB,gH]at cU;refine wp_seq (wp_mono (sq hT iJ gJ hm kOf mOf lo x fW.1 cU.1 _ env H a w h hS) ?_);exact IB _ fun env H a w h hS=>sq hT iJ gJ hm kOf mOf lo y fW.2 cU.2 Q env H a w h hS
 | .cond c x y,fW,cU,Q,env,H,a,w,h,hS=>by
  simp only[yB,gH]at cU;unfold vN at h
  split at h
  ·rename_i b e;obtain⟨ι,hR,hE⟩:=hS.rep;have hc:=hE.eval c;rw[e]at hc;refine wp_cond_split (jS hc) (fun hb=>?_) (fun hb=>?_)
   ·subst hb;exact sq hT iJ gJ hm kOf mOf lo x fW.1 cU.1 Q env H a w h hS
   ·subst hb;exact sq hT iJ gJ hm kOf mOf lo y fW.2 cU.2 Q env H a w h hS
  ·cases h
 | .block id c,fW,cU,Q,env,H,a,w,h,hS=>by
  unfold vN at h;refine wp_block (wp_mono (sq hT iJ gJ hm kOf mOf lo c fW cU _ env H a w h hS) ?_)
  exact Hj
 | .loop c,fW,cU,Q,env,H,a,w,h,hS=>by
  classical
  unfold vN at h;obtain⟨I,N,⟨k1,env1,H1,mu,Js⟩,hN,fw⟩:=h;have pn:∀env H env' H' a w,Wk env H env' H'->St w0 B nt env H a w->St w0 B nt env' H' a w:=fun env H env' H' a w hw hS=>by
   exact S2
  have key:∃f:Act->World->Nat,(∀a w,(∃k env H,I k env H/\St w0 B nt env H a w)->∃env H,I (f a w) env H/\St w0 B nt env H a w)/\∀a w k env H,I k env H->St w0 B nt env H a w->f a w<=k:=by
   exact Um
  obtain⟨f,UI,Vn⟩:=key;refine wp_loop (fun a w=>∃k env H,I k env H/\St w0 B nt env H a w) f ⟨k1,env1,H1,Js,pn _ _ _ _ a w mu hS⟩ fun a' w' hI=>?_
  obtain⟨env2,H2,lU,u7⟩:=UI a' w' hI;refine wp_mono (sq hT iJ gJ hm kOf mOf lo c fW cU _ env2 H2 a' w' (fw _ env2 H2 lU) u7) ?_;refine IB _ fun env3 H3 a3 w3 Iv n9=>?_
  grind
 | .exit id,_,_,Q,env,H,a,w,h,hS=>wp_exit ⟨env,H,h,hS⟩
 | .ret,_,_,Q,env,H,a,w,h,hS=>wp_ret ⟨env,H,h,hS⟩
 | .rangeFunc _ _ _ _,_,_,_,_,_,_,_,h,_=>h.elim
 | .scope _,_,_,_,_,_,_,_,h,_=>h.elim
 | .label _,_,_,_,_,_,_,_,h,_=>h.elim
 | .goto _,_,_,_,_,_,_,_,h,_=>h.elim
 | .refuse _,_,_,_,_,_,_,_,h,_=>h.elim
end
section
variable{P:Program}{G:World->Prop}{T:TT}{nt:Nat}
theorem aY.ofM(hT:gY P T)(hm:P.follows .mixedOrders=true)(kOf:Nat->Nat)(mOf:Nat->List Nat)(lo:Nat->Nat->Nat){c:Code}(cU:yB nt kOf mOf lo c=true)(Q:SO->Exit->List AV->AH->Prop){env:List AV}{H:AH}
  (h:∀(P':Program)(G':World->Prop)(E:SO),(∀f l r,fX P G f l r->fX P' G' f l r)->(∀f as H r H',jP P G f as H r H'->jP P' G' f as H r H')->E=bK->vN P' G' E T kOf mOf lo c (Q E) env H):aY P G nt c (Q bK) env H:=by
 intro w0 B hG hB fW a w hS;exact sq hT hG hB hm kOf mOf lo c fW cU (Q bK) env H a w (h P G bK (fun _ _ _ h=>h) (fun _ _ _ _ _ h=>h) rfl) hS
theorem Mp(hT:gY P T)(hm:P.follows .mixedOrders=true){kOf:Nat->Nat}{mOf:Nat->List Nat}{lo:Nat->Nat->Nat}{w0:cF}{B:Nat->Prop}(hG:∀w,tR w0 w->G w)(hB:∀b,w0.own b->B b){R:List AV->AH->Prop}{Q:Exit->List AV->AH->Prop}:∀(k:Nat)(c:Code),fg w0 c->yB nt kOf mOf lo (wO k c)=true->(∀env H a w,R env H->St w0 B nt env H a w->(kf k c).wp P (rT w0 B nt Q) a w) →
  ∀(env:List AV)(H:AH)(a:Act)(w:World),vN P G bK T kOf mOf lo (wO k c) (nB R Q) env H->St w0 B nt env H a w->c.wp P (rT w0 B nt Q) a w
 |0,c,_,_,hR,env,H,a,w,h,hS=>hR env H a w h hS
 |k+1,c,fW,cU,hR,env,H,a,w,h,hS=>by
  cases c with
  |seq x y=>
   simp only[wO,yB,gH]at cU;refine wp_seq (wp_mono (sq hT hG hB hm kOf mOf lo x fW.1 cU.1 _ env H a w h hS) ?_)
   rintro e a w ⟨env,H,h,hS⟩
   cases e with
   |normal=>exact Mp hT hm hG hB k y fW.2 cU.2 hR env H a w h hS
   |_=>exact⟨env,H,h,hS⟩
  |_=>exact False.elim h
theorem aY.cutKM{γ:Type}(k:Nat)(n:Nat)(live:List Nat)(m:Nat)(S:γ->List AV)(h:γ->AH)(I:γ->Prop)(hT:gY P T)(hm:P.follows .mixedOrders=true)(kOf:Nat->Nat)(mOf:Nat->List Nat)(lo:Nat->Nat->Nat){c:Code}(Q:SO->Exit->List AV->AH->Prop){env:List AV}{H:AH}(cU:yB nt kOf mOf lo (wO k c)=true)
  (h1:∀(P':Program)(G':World->Prop)(E:SO),(∀f l r,fX P G f l r->fX P' G' f l r)->(∀f as H r H',jP P G f as H r H'->jP P' G' f as H r H')->E=bK->vN P' G' E T kOf mOf lo (wO k c) (nB (lZ n live m S h I) (Q E)) env H)
  (h2:∀y,I y->aY P G nt (kf k c) (Q bK) (qN live (S y) n 0) (h y)):aY P G nt c (Q bK) env H:=by
 intro w0 B hG hB fW a w hS;refine Mp hT hm hG hB k c fW cU ?_ env H a w (h1 P G bK (fun _ _ _ h=>h) (fun _ _ _ _ _ h=>h) rfl) hS
 intro env1 H1 a1 w1 hc eh
 cases hc with
 |mk y hh hI=>exact aY.wk hh.wk (h2 y hI) w0 B hG hB (MH k c fW) a1 w1 eh
 |wk y env2 H2 hw hh hI=>exact aY.wk (hw.trans hh.wk) (h2 y hI) w0 B hG hB (MH k c fW) a1 w1 eh
end
end Go.Proofs.YtjkcdcloomkooaaGreatDoor
