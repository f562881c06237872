/- Own work: walks and laws of the parser and its reference. -/
import Derived.Test.YtjkcdcloomkooaaGreatDoorQYU
set_option linter.unusedVariables false
set_option linter.unusedSimpArgs false
set_option linter.unusedSectionVars false
set_option maxHeartbeats 8000000
set_option maxRecDepth 100000
namespace Go.Proofs.YtjkcdcloomkooaaGreatDoor
def yO(s:Bs):Prop:=lF s=([⟨1,s,s.length⟩],none)/\s.length<=60000
def VT(s:Bs):Prop:=∃k,(k=1\/k=2)/\lF s=([⟨k,s,s.length⟩],none)/\s.length<=60000
def Tv(s:Bs):Prop:=Lib.validD s=true/\s.length<=1000000
structure Kq(t:Tk):Prop where
 i:t.k=1->yO t.t
 k:t.k=2->VT t.t
 v:Tv t.t
theorem yO.k{s:Bs}(h:yO s):VT s:=⟨1,.inl rfl,h.1,h.2⟩
theorem yO.ne{s:Bs}(h:yO s):s≠[]:=fun e=>by subst e;cases h.1
theorem Ro{l t r:Bs}{k:Int}(h:jH uB fR l=.ok k t r)(hk:k=1\/k=2):lF t=([⟨k,t,t.length⟩],none):=by
 obtain⟨u,hu,e,hr⟩:=OO _ _ h;have e2:=F5 _ _ h oM
 have e3:u=t:=List.append_cancel_right (e.symm.trans e2);subst e3;have h2:=hr [] (.inr (.inr (.inr rfl)));rw[cB]at h2
 cases u with
 |nil=>exact absurd rfl hu
 |cons c u=>
  have hc:oA c=true:=by
   rw[jH]at h2
   split at h2
   ·assumption
   ·split at h2
    ·unfold qZ at h2
     grind
    grind
  have:=xbg c hc
  have h4:=PF uB fR (DS this.1 (xfn u this.2)) h2;show lex uB fR (c::u)=_;rw[h4];rfl
theorem ZF:∀{l:Bs},(∀c∈l,c.toNat<128)->Lib.validD l=true
 |[],_=>Lib.validD_nil
 |c::l,h=>by
  rw[Lib.validD_cons c l (h c (cK ..))];exact ZF fun x hx=>h x (aV _ hx)
theorem Rt:∀c:UInt8,mP c=true->c.toNat<128:=fun c h=>by
 have key:=aO.1 (show((List.range 256).all fun n=>!mP (UInt8.ofNat n)||decide (n<128))=true by decide +kernel) c.toNat (bV.2 c.toNat_lt)
 simp_all
theorem xfk(c:UInt8)(h:eO c=true):c.toNat<128:=Rt c (by unfold mP;rw[h,mK])
theorem xiz{l w:Bs}(h:qC l=some w):Lib.validD w=true:=by
 have hm:∀{L:List Bs}{w:Bs},(L.any fun x=>x==w)=true->w∈L:=fun{L w} hw=>by
  grind
 have a:∀w∈yV++dm++pw,∀c∈w,c.toNat<128:=aN
 refine ZF (a w ?_);unfold qC at h
 grind
theorem QR{l t r:Bs}{k:Int}{m:Nat}(hz:l.length<=60000)(h:jH uB fR l=.ok k t r):Kq ⟨k,t,m⟩:=by
 have hle:k≠4->t.length<=60000:=fun hk=>by
  have e:=F5 _ _ h hk
  grind
 refine⟨fun hk=>?_,fun hk=>?_,?_,(by have:=Ns h;grind)⟩
 ·have e:k=1:=hk
  have:=Ro h (.inl e)
  rw[e]at this;exact⟨this,hle (by rw[e];decide)⟩
 ·have e:k=2:=hk;exact⟨k,.inr e,Ro h (.inr e),hle (by rw[e];decide)⟩
 ·cases l with
  |nil=>cases h
  |cons c l=>
   rw[jH]at h
   split at h
   ·injection h with h1 h2 h3
    subst h2;exact ZF fun x hx=>Rt x (ZX _ x hx)
   ·split at h
    ·unfold qZ at h
     split at h
     ·cases h
     ·split at h
      ·cases h
      ·split at h
       ·cases h
       ·injection h with h1 h2 h3
        subst h2;exact ZF fun x hx=>xfk x (ZX _ x hx)
    ·split at h
     ·cases hl:lit uB c l with
      |none=>rw[hl]at h;cases h
      |some z=>
       rw[hl]at h
       injection h with h1 h2 h3
       subst h2;exact zi5 _
     ·cases hq:qC (c::l)with
      |none=>rw[hq]at h;cases h
      |some w=>
       rw[hq]at h
       injection h with h1 h2 h3
       subst h2;exact xiz hq
def WI(l:Ts):Prop:=∀t∈l,Kq t
theorem WI.suf{l l':Ts}(h:WI l)(hs:l' <:+ l):WI l':=fun t ht=>h t (hs.subset ht)
theorem Ta:∀(n:Nat)(l:Bs){ts:List Tk}{e:Option (Nat×Int)},l.length<=60000->oQ uB fR n l=(ts,e)->∀x∈ts,Kq x
 |0,_,_,_,_,h,x,hx=>by cases h;cases hx
 |n+1,l,ts,e,hz,h,x,hx=>by
  have hk:=DG l;rw[oQ]at h
  split at h
  ·cases h;cases hx
  ·split at h
   ·cases h;cases hx
   ·split at h
    ·cases h;cases hx
    ·rename_i k t r ht
     cases h
     rcases dX.1 hx with rfl|hx
     ·exact QR oM ht
     ·exact Ta n r (ts:=(oQ uB fR n r).1) (e:=(oQ uB fR n r).2) (by have:=DF _ _ ht;omega) rfl x hx
theorem xgp{l:Bs}{ts:List Tk}{e:Option (Nat×Int)}(hz:l.length<=60000)(h:lF l=(ts,e)):WI (ts.map er):=fun t ht=>by
 obtain⟨x,hx,rfl⟩:=fT.1 ht
 have:=Ta _ _ hz (show oQ uB fR (l.length+1) l=_ from h) x hx
 exact⟨this.i,this.k,this.v⟩
theorem WI.tv{l:Ts}(h:WI l)(n:Nat):Tv (tx l n):=by
 unfold tx
 cases hn:l[n]? with
 |none=>exact⟨Lib.validD_nil,aP _⟩
 |some t=>exact(h t (aH hn)).v
theorem WI.id{l:Ts}(h:WI l){n:Nat}(hk:kd l n=1):yO (tx l n):=by
 obtain⟨t,ht,h1,h2⟩:=ZG (l:=l) (n:=n) FP
 rw[h2];exact(h t (aH ht)).i (h1 ▸ hk)
theorem WI.idk{l:Ts}(h:WI l){n:Nat}(hk:kd l n=1\/kd l n=2):VT (tx l n):=by
 rcases hk with hk|hk
 ·exact(h.id hk).k
 ·obtain⟨t,ht,h1,h2⟩:=ZG (l:=l) (n:=n) FP
  rw[h2];exact(h t (aH ht)).k (h1 ▸ hk)
inductive Ty|e|s|b|dc|d|f|c|i|fi|eo
inductive Fm:Ty->PT->Prop
 |int {nm i o}:0<=i->Fm .e (.mk 5 nm i o [])
 |text {nm i o}:Tv nm->Fm .e (.mk 6 nm i o [])
 |ident {nm i o}:yO nm->Fm .e (.mk 7 nm i o [])
 |arr {nm i o ks}:(∀x∈ks,Fm .e x)->Fm .e (.mk 9 nm i o ks)
 |obj {nm i o ks}:(∀x∈ks,Fm .f x)->Fm .e (.mk 10 nm i o ks)
 |fn {nm i o ps b}:(∀x∈ps,Fm .i x)->Fm .b b->1<=o->o<=5->(nm=[]\/yO nm/\o≠2/\o≠5)->Fm .e (.mk 11 nm i o (ps++[b]))
 |un {nm i o x}:Fm .e x->1<=o->o<=5->Fm .e (.mk 12 nm i o [x])
 |bin {nm i o x y}:Fm .e x->Fm .e y->6<=o->o<=20->Fm .e (.mk 13 nm i o [x,y])
 |log {nm i o x y}:Fm .e x->Fm .e y->21<=o->o<=23->Fm .e (.mk 14 nm i o [x,y])
 |cond {nm i o x y z}:Fm .e x->Fm .e y->Fm .e z->Fm .e (.mk 15 nm i o [x,y,z])
 |asg {nm i o x y}:Fm .e x->Fm .e y->24<=o->o<=27->Fm .e (.mk 16 nm i o [x,y])
 |upd {nm i o x}:Fm .e x->(o=28\/o=29\/o=128\/o=129)->Fm .e (.mk 17 nm i o [x])
 |mem {nm i o x}:Fm .e x->VT nm->Fm .e (.mk 18 nm i o [x])
 |idx {nm i o x y}:Fm .e x->Fm .e y->Fm .e (.mk 19 nm i o [x,y])
 |call {nm i o x ks}:Fm .e x->(∀y∈ks,Fm .e y)->Fm .e (.mk 20 nm i o (x::ks))
 |new {nm i o x ks}:Fm .e x->(∀y∈ks,Fm .e y)->Fm .e (.mk 21 nm i o (x::ks))
 |yld {nm i o x}:Fm .e x->Fm .e (.mk 22 nm i o [x])
 |awt {nm i o x}:Fm .e x->Fm .e (.mk 23 nm i o [x])
 |leaf {k nm i o}:(k=1\/k=2\/k=3\/k=4\/k=8)->Fm .e (.mk k nm i o [])
 |fld {nm i o x}:Tv nm->Fm .e x->Fm .f (.mk 38 nm i o [x])
 |cmp {nm i o x y}:Fm .e x->Fm .e y->Fm .f (.mk 39 nm i o [x,y])
 |par {nm}:yO nm->Fm .i (.mk 7 nm 0 0 [])
 |blk {nm i o ks}:(∀x∈ks,Fm .s x)->Fm .b (.mk 27 nm i o ks)
 |d0 {nm i o}:yO nm->Fm .d (.mk 40 nm i o [])
 |d1 {nm i o x}:yO nm->Fm .e x->Fm .d (.mk 40 nm i o [x])
 |dcl {k nm i o ks}:(k=24\/k=25)->ks≠[]->(∀x∈ks,Fm .d x)->Fm .dc (.mk k nm i o ks)
 |fi0 {nm i o}:Fm .fi (.mk 37 nm i o [])
 |fi1 {x}:Fm .dc x->Fm .fi x
 |fi2 {nm i o x}:Fm .e x->Fm .fi (.mk 26 nm i o [x])
 |eo0 {nm i o}:Fm .eo (.mk 37 nm i o [])
 |eo1 {x}:Fm .e x->Fm .eo x
 |cat {nm i o b}:(nm=[]\/yO nm)->Fm .b b->Fm .c (.mk 41 nm i o [b])
 |sx {nm i o x}:Fm .e x->Fm .s (.mk 26 nm i o [x])
 |st {nm i o x}:Fm .e x->Fm .s (.mk 35 nm i o [x])
 |if2 {nm i o c x}:Fm .e c->Fm .s x->Fm .s (.mk 28 nm i o [c,x])
 |if3 {nm i o c x y}:Fm .e c->Fm .s x->Fm .s y->Fm .s (.mk 28 nm i o [c,x,y])
 |whl {nm i o c x}:Fm .e c->Fm .s x->Fm .s (.mk 29 nm i o [c,x])
 |for_ {nm i o f s t x}:Fm .fi f->Fm .eo s->Fm .eo t->Fm .s x->Fm .s (.mk 30 nm i o [f,s,t,x])
 |fof {nm i o c x}:yO nm->(o=1\/o=2)->Fm .e c->Fm .s x->Fm .s (.mk 31 nm i o [c,x])
 |ret0 {nm i o}:Fm .s (.mk 32 nm i o [])
 |ret1 {nm i o x}:Fm .e x->Fm .s (.mk 32 nm i o [x])
 |emp {nm i o}:Fm .s (.mk 37 nm i o [])
 |brk {k nm i o}:(k=33\/k=34)->Fm .s (.mk k nm i o [])
 |tr1 {nm i o a}:Fm .b a->Fm .s (.mk 36 nm i o [a])
 |trc {nm i o a c}:Fm .b a->Fm .c c->Fm .s (.mk 36 nm i o [a,c])
 |trf {nm i o a f}:Fm .b a->Fm .b f->Fm .s (.mk 36 nm i o [a,f])
 |tr3 {nm i o a c f}:Fm .b a->Fm .c c->Fm .b f->Fm .s (.mk 36 nm i o [a,c,f])
 |sb {x}:Fm .b x->Fm .s x
 |sd {x}:Fm .dc x->Fm .s x
 |sf {nm i o ks}:Fm .e (.mk 11 nm i o ks)->nm≠[]->o≠2->o≠5->Fm .s (.mk 11 nm i o ks)
theorem zo{P:PT->Prop}:∀x∈([]:List PT),P x:=fun _ h=>by cases h
theorem fx{P:PT->Prop}{a:PT}{l:List PT}(h:P a)(hl:∀x∈l,P x):∀x∈a::l,P x:=fun x hx=>by
 grind
theorem xkc{P:PT->Prop}{a b:List PT}(h:∀x∈a,P x)(hl:∀x∈b,P x):∀x∈a++b,P x:=fun x hx=>by
 grind
inductive Vy|n (t:Ty)|l (t:Ty)
def Vy.isN:Vy->Bool
 | .n _=>true
 | .l _=>false
def jh:Vy->RV->Prop
 | .n t,.nd x=>Fm t x
 | .l t,.ls l=>∀x∈l,Fm t x
 |_,_=>False
def RS.vy:RS->Vy
 | .stms|.stmsL _=>.l .s
 | .stm|.cond|.loop|.tryR=>.n .s
 | .block=>.n .b
 | .decls _|.declsL _ _=>.n .dc
 | .func d=>.n (if d then .s else .e)
 | .names|.namesL _=>.l .i
 | .list _|.listL _ _=>.l .e
 | .field=>.n .f
 |_=>.n .e
def ba:RS->Prop
 | .stmsL acc=>∀x∈acc,Fm .s x
 | .listL _ acc=>∀x∈acc,Fm .e x
 | .objL acc=>∀x∈acc,Fm .f x
 | .namesL acc=>∀x∈acc,Fm .i x
 | .decls k=>k=24\/k=25
 | .declsL k acc=>(k=24\/k=25)/\∀x∈acc,Fm .d x
 | .lvL k x=>k<6/\Fm .e x
 | .newL x|.chainL x=>Fm .e x
 |_=>True
abbrev K0:Nat->Option Int:=fun _=>none
def KR(κ:Nat->Option Int)(n:Nat)(q:Int):Nat->Option Int:=fun m=>if m=n then some q else κ m
def Iv(T:Vy):RP->(Nat->Option Int)->Prop
 | .ret v,_=>jh T v
 | .tail s,_=>ba s/\∀v,jh s.vy v->jh T v
 | .call s k,_=>(ba s/\s.vy.isN=true)/\∀x,jh s.vy (.nd x)->Iv T (k x) K0
 | .calls s k,_=>(ba s/\s.vy.isN=false)/\∀x,jh s.vy (.ls x)->Iv T (k x) K0
 | .need _ k,_=>Iv T k K0
 | .take _ x y,κ=>Iv T x K0/\Iv T y κ
 | .at_ _ _ x y,κ=>Iv T x κ/\Iv T y κ
 | .kdI n q x y,κ=>Iv T x (KR κ n q)/\Iv T y κ
 | .name k,_=>∀s,yO s->Iv T (k s) K0
 | .key k,_=>∀s,VT s->Iv T (k s) K0
 | .oper fr cnt k,κ=>(∀q:Int,q≠0->(fr:Nat)<=q->q<((fr+cnt:Nat):Int)->Iv T (k q) K0)/\Iv T (k 0) κ
 | .bad _ y,κ=>Iv T y κ
 | .eof x y,κ=>Iv T x κ/\Iv T y κ
 | .skip _ k,_=>Iv T k K0
 | .ptx n k,κ=>∀s,Tv s->(κ n=some 1->yO s)->Iv T (k s) κ
 | .kdv n k,κ=>∀q,Iv T (k q) (KR κ n q)
 | .fail _,_=>True
 | .ahead x y,κ=>Iv T x κ/\Iv T y κ
def VS(κ:Nat->Option Int)(l:Ts):Prop:=∀n q,κ n=some q->kd l n=q
theorem wv(l:Ts):VS K0 l:=fun _ _ h=>by cases h
theorem VS.put{κ:Nat->Option Int}{l:Ts}(h:VS κ l){n:Nat}{q:Int}(hq:kd l n=q):VS (KR κ n q) l:=fun m p hp=>by
 unfold KR at hp
 split at hp
 ·grind
 ·exact h m p hp
theorem z97(s:Bs)(fr cnt:Nat)(h:gF s fr cnt≠0):(fr:Nat)<=gF s fr cnt/\gF s fr cnt<((fr+cnt:Nat):Int):=by
 unfold gF at h ⊢
 grind
theorem Tv.nil:Tv []:=⟨Lib.validD_nil,aP _⟩
theorem SJ{T:Vy}(hT:T.isN=true){v:RV}(h:jh T v):jh T (.nd v.n):=by
 cases T with
 |l _=>cases hT
 |n _=>
  cases v with
  |nd _=>exact h
  |ls _=>exact h.elim
theorem SK{T:Vy}(hT:T.isN=false){v:RV}(h:jh T v):jh T (.ls v.s):=by
 cases T with
 |n _=>cases hT
 |l _=>
  cases v with
  |ls _=>exact h
  |nd _=>exact h.elim
theorem wY{R:RR}(hR:∀s l b,nS l b (R s l b))(hI:∀s l v l',R s l false=(v,l',false)->W l->WI l->ba s->jh s.vy v)(T:Vy):
  ∀(p:RP)(κ:Nat->Option Int)(l:Ts)(v:RV)(l':Ts),W l->WI l->VS κ l->Iv T p κ->Gd R p l v l'->jh T v
 | .ret v0,κ,l,v,l',w,wi,hk,h,g=>by obtain⟨rfl,rfl⟩:=g.ret;exact h
 | .tail s,κ,l,v,l',w,wi,hk,h,g=>h.2 _ (hI _ _ _ _ g.tail w wi h.1)
 | .call s k,κ,l,v,l',w,wi,hk,h,g=>by
  obtain⟨x,l1,g1,hs,w1,g⟩:=Gd.call hR w g;exact wY hR hI T _ _ _ _ _ w1 (wi.suf hs) (wv _) (h.2 _ (SJ h.1.2 (hI _ _ _ _ g1 w wi h.1.1))) g
 | .calls s k,κ,l,v,l',w,wi,hk,h,g=>by
  obtain⟨x,l1,g1,hs,w1,g⟩:=Gd.calls hR w g;exact wY hR hI T _ _ _ _ _ w1 (wi.suf hs) (wv _) (h.2 _ (SK h.1.2 (hI _ _ _ _ g1 w wi h.1.1))) g
 | .need s k,κ,l,v,l',w,wi,hk,h,g=>by
  obtain⟨hi,w1,g⟩:=Gd.need hR w g;exact wY hR hI T _ _ _ _ _ w1 (wi.suf (bJ _ _)) (wv _) h g
 | .take s x y,κ,l,v,l',w,wi,hk,h,g=>by
  rcases Gd.take w g with⟨hi,w1,g⟩|⟨hi,g⟩
  ·exact wY hR hI T _ _ _ _ _ w1 (wi.suf (bJ _ _)) (wv _) h.1 g
  ·exact wY hR hI T _ _ _ _ _ w wi hk h.2 g
 | .at_ n s x y,κ,l,v,l',w,wi,hk,h,g=>by
  rcases g.at_ with⟨hi,g⟩|⟨hi,g⟩
  ·exact wY hR hI T _ _ _ _ _ w wi hk h.1 g
  ·exact wY hR hI T _ _ _ _ _ w wi hk h.2 g
 | .kdI n q x y,κ,l,v,l',w,wi,hk,h,g=>by
  rcases g.kdI with⟨hi,g⟩|⟨hi,g⟩
  ·exact wY hR hI T _ _ _ _ _ w wi (hk.put hi) h.1 g
  ·exact wY hR hI T _ _ _ _ _ w wi hk h.2 g
 | .name k,κ,l,v,l',w,wi,hk,h,g=>by
  obtain⟨hi,w1,g⟩:=Gd.name hR w g;exact wY hR hI T _ _ _ _ _ w1 (wi.suf (bJ _ _)) (wv _) (h _ (wi.id hi)) g
 | .key k,κ,l,v,l',w,wi,hk,h,g=>by
  obtain⟨hi,w1,g⟩:=Gd.key hR w g;exact wY hR hI T _ _ _ _ _ w1 (wi.suf (bJ _ _)) (wv _) (h _ (wi.idk hi)) g
 | .oper fr cnt k,κ,l,v,l',w,wi,hk,h,g=>by
  rcases Gd.oper w g with⟨_,hf,w1,g⟩|⟨hf,g⟩
  ·have hb:=z97 (tx l 0) fr cnt hf;exact wY hR hI T _ _ _ _ _ w1 (wi.suf (bJ _ _)) (wv _) (h.1 _ hf hb.1 hb.2) g
  ·exact wY hR hI T _ _ _ _ _ w wi hk h.2 g
 | .bad x y,κ,l,v,l',w,wi,hk,h,g=>wY hR hI T y _ _ _ _ w wi hk h g.bad
 | .eof x y,κ,l,v,l',w,wi,hk,h,g=>by
  rcases g.eof with⟨hi,g⟩|⟨hi,g⟩
  ·exact wY hR hI T _ _ _ _ _ w wi hk h.1 g
  ·exact wY hR hI T _ _ _ _ _ w wi hk h.2 g
 | .skip j k,κ,l,v,l',w,wi,hk,h,g=>by
  obtain⟨w1,g⟩:=Gd.skip w g;exact wY hR hI T _ _ _ _ _ w1 (wi.suf (bJ _ _)) (wv _) h g
 | .ptx n k,κ,l,v,l',w,wi,hk,h,g=>wY hR hI T (k _) _ _ _ _ w wi hk (h _ (wi.tv n) fun e=>wi.id (hk _ _ e)) g.ptx
 | .kdv n k,κ,l,v,l',w,wi,hk,h,g=>wY hR hI T (k _) _ _ _ _ w wi (hk.put rfl) (h _) g.kdv
 | .fail x,κ,l,v,l',w,wi,hk,h,g=>(Gd.fail hR g).elim
 | .ahead x y,κ,l,v,l',w,wi,hk,h,g=>by
  rcases g.ahead with⟨hi,g⟩|⟨hi,g⟩
  ·exact wY hR hI T _ _ _ _ _ w wi hk h.1 g
  ·exact wY hR hI T _ _ _ _ _ w wi hk h.2 g
theorem J7{T:Vy}{c:Prop} [Decidable c] {x y:RP} {κ:Nat->Option Int} (h1:c->Iv T x κ) (h2:¬c->Iv T y κ):Iv T (if c then x else y) κ:=by
 grind
theorem zV{p:Prop} (hp:p:=by
 simp only[gr,IH,IC,NF,q8,vi,PR,B9,ID,CQ,zg,PP,B5,IF,Hm,ZB,II,QG,KV,EO,IG,zr,PO,CP,ue,DJ,KW,lm,NH,zh,x7,CR,zy,H4,PQ,QF,NU,NG,RP.isFn,iX,rZ,nd,eD,gC,Iv,RS.vy,ba,jh,Vy.isN,KR]at *
 repeat' (first
  |exact True.intro
  |with_reducible rfl
  |assumption
  |omega
  |exact bK _ _
  |exact fk _ (bK _ _)
  |exact zo
  |(refine fx ?_ ?_)
  |(refine xkc ?_ ?_)
  |exact absurd jO aN
  |exact yO.ne jO
  |intro ri
  |exact(‹(_:Int)=1->yO _›) ‹_›
  |with_reducible (refine And.intro ?_ ?_)
  |(refine J7 ?_ ?_)
  |(cases ‹RV› <;> first|exact Fm.sb jO|exact(by assumption:False).elim)
  |exact Tv.nil
  |exact .inl rfl
  |exact .inr jO
  |exact .inr ⟨by assumption,by decide,by decide⟩
  |exact Fm.sd jO
  |exact Fm.sb jO
  |exact Fm.eo1 jO
  |exact Fm.fi1 jO
  |exact Fm.trf jO jO
  |(refine Fm.fi2 ?_)
  |(refine Fm.sf (Fm.fn ?_ ?_ ?_ ?_ ?_) ?_ ?_ ?_)
  |(simp only[eE,true_implies,bQ,Iv,RS.vy,ba,jh,Vy.isN,KR,oe]at *)
  |(show Fm _ _;constructor)
  |exact .inr (.inl rfl)
  |exact .inr rfl
  |grind
  |fail)
 all_goals fail):p:=hp
theorem xew:Iv (.l .s) (gr .stms) K0:=zV
theorem z9g{acc:List PT}(h:ba (.stmsL acc)):Iv (.l .s) (gr (.stmsL acc)) K0:=zV
theorem z9m:Iv (.n .b) (gr .block) K0:=zV
theorem z9k{k:Int}(h:ba (.decls k)):Iv (.n .dc) (gr (.decls k)) K0:=zV
theorem z4v{k:Int}{acc:List PT}(h:ba (.declsL k acc)):Iv (.n .dc) (gr (.declsL k acc)) K0:=by
 exact zV
theorem xju:Iv (.n .s) (gr .stm) K0:=zV
theorem xe2:Iv (.n .s) (gr .cond) K0:=zV
theorem xe0:Iv (.n .s) (gr .loop) K0:=zV
theorem xev:Iv (.n .s) (gr .tryR) K0:=zV
theorem z4t:Iv (.n .s) (gr (.func true)) K0:=zV
theorem z4u:Iv (.n .e) (gr (.func false)) K0:=zV
theorem z9h:Iv (.l .i) (gr .names) K0:=zV
theorem z4s{acc:List PT}(h:ba (.namesL acc)):Iv (.l .i) (gr (.namesL acc)) K0:=zV
theorem z9n:Iv (.n .e) (gr .arrow) K0:=zV
theorem z4x:Iv (.n .e) (gr .assign) K0:=zV
theorem SZ{k:Nat}(h:ba (.lv k)):Iv (.n .e) (gr (.lv k)) K0:=zV
theorem xjw{k:Nat}{x:PT}(h:ba (.lvL k x)):Iv (.n .e) (gr (.lvL k x)) K0:=by
 obtain⟨h1,h2⟩:=h
 match k,h1 with
 |0,_=>exact zV
 |1,_=>exact zV
 |2,_=>exact zV
 |3,_=>exact zV
 |4,_=>exact zV
 |5,_=>exact zV
theorem z9f:Iv (.n .e) (gr .unary) K0:=zV
theorem xe1{e:Bs}:Iv (.l .e) (gr (.list e)) K0:=zV
theorem z9i{e:Bs}{acc:List PT}(h:ba (.listL e acc)):Iv (.l .e) (gr (.listL e acc)) K0:=zV
theorem z9l:Iv (.n .e) (gr .chain) K0:=zV
theorem xez{x:PT}(h:ba (.newL x)):Iv (.n .e) (gr (.newL x)) K0:=zV
theorem z4w{x:PT}(h:ba (.chainL x)):Iv (.n .e) (gr (.chainL x)) K0:=zV
theorem xex:Iv (.n .e) (gr .prim) K0:=zV
theorem xjv:Iv (.n .e) (gr .obj) K0:=zV
theorem xey{acc:List PT}(h:ba (.objL acc)):Iv (.n .e) (gr (.objL acc)) K0:=zV
theorem z9j:Iv (.n .f) (gr .field) K0:=zV
theorem TA:∀s:RS,ba s->Iv s.vy (gr s) K0
 | .stms,_=>xew
 | .stmsL _,h=>z9g h
 | .stm,_=>xju
 | .block,_=>z9m
 | .decls _,h=>z9k h
 | .declsL _ _,h=>z4v h
 | .cond,_=>xe2
 | .loop,_=>xe0
 | .tryR,_=>xev
 | .func true,_=>z4t
 | .func false,_=>z4u
 | .names,_=>z9h
 | .namesL _,h=>z4s h
 | .arrow,_=>z9n
 | .assign,_=>z4x
 | .lv _,h=>SZ h
 | .lvL _ _,h=>xjw h
 | .unary,_=>z9f
 | .list _,_=>xe1
 | .listL _ _,h=>z9i h
 | .chain,_=>z9l
 | .newL _,h=>xez h
 | .chainL _,h=>z4w h
 | .prim,_=>xex
 | .obj,_=>xjv
 | .objL _,h=>xey h
 | .field,_=>z9j
theorem T9:∀(m:Nat)(s:RS)(l:Ts)(v:RV)(l':Ts),bX m s l false=(v,l',false)->W l->WI l->ba s->jh s.vy v
 |0,s,l,v,l',h,w,wi,hi=>by cases h
 |m+1,s,l,v,l',h,w,wi,hi=>by
  exact wY (nA m) (fun s l v l' h w wi hi=>T9 m s l v l' h w wi hi) s.vy (gr s) K0 l v l' w wi (wv l) (TA s hi) h
open Go.RowKit
theorem AJ{s:Bs}{k:Int}{b:Bool}(h:lF s=([⟨k,s,s.length⟩],none))(hz:s.length<=60000)(hk:k=1\/(k=2/\b=true)){T:ByteArray}(hT:bL s=T):RL 87 [pS T,pB b] (pB true):=by
 have hd:T.data.toList=s:=by rw[<-hT];rfl
 have zF:T.size<=900000:=by
  exact Jq
 have hl:=NY T zF;rw[DI (ts:=[⟨k,s,s.length⟩]) (by rw[hd];exact h)]at hl
 obtain⟨a0,ha⟩:∃a0:Int,((T.size:Nat):Int)-((s.length:Nat):Int)=a0:=⟨_,rfl⟩
 replace hl:RL 26 [pS T] (.tup [.ro 3 [[pI k,pS T,pI a0]],pI 0,pI 0]):=by
  have e:kY ((T.size:Nat):Int) [⟨k,s,s.length⟩]=[[pI k,pS T,pI a0]]:=by rw[<-ha,<- hT];rfl
  rwa[e]at hl
 rcases hk with rfl|⟨rfl,rfl⟩
 all_goals
  refine zA (fun _ _=>0) mA Tryz.func87 rfl kR rfl kR fun P G E hc hE=>?_
  replace hl:=hc _ _ _ hl;clear hc h hT hd hz zF ha;obtain⟨z0,z1,z2,z3,z4,z5⟩:=LI hE;have r0:∀{x:List PV},([x]:List (List PV))[E.nat 0]?=some x:=fun{x}=>by rw[z5];rfl
  have e0:E.eq T T=true:=by rw[hE];exact aA rfl
  cbv;cbv
  repeat (first|(refine⟨_,hl,?_⟩;cbv)|(simp only[z0];try cbv)|(refine⟨z4,_,r0,?_⟩;cbv)|(simp only[e0];try cbv))
abbrev cR(c:Cx):PV:=.agg [pB c.fn,pB c.lp,pB c.gn,pB c.as_]
theorem F0{ks:List PT}{c:Cx}(hz:ks.length<=2000000)(h:∀y∈ks,RL 49 [.agg (bU y),cR c] (pB true)){R:List (List PV)}(hR:bW ks=R):RL 23 [.ro 5 R,cR c] (pB true):=by
 obtain⟨c1,c2,c3,c4⟩:=c;obtain⟨M,hM⟩:∃M:Int,((R.length:Nat):Int)=M:=⟨_,rfl⟩
 obtain⟨μ,hμ⟩:∃μ:Int×List PT->Nat,∀x,μ x=x.2.length:=⟨_,fun _=>rfl⟩
 have x0:lY ks 0 ks:=lY.start ks;refine zA (fun _ _=>0) mA Tryz.func23 rfl kR rfl kR fun P G E hc hE=>?_
 exact Xp
theorem OK{ks:List PT}{c:Cx}(hz:ks.length<=2000000)(h:∀y∈ks,RL 82 [.agg (bU y),cR c] (pB true)){R:List (List PV)}(hR:bW ks=R):RL 88 [.ro 5 R,cR c] (pB true):=by
 obtain⟨c1,c2,c3,c4⟩:=c;obtain⟨M,hM⟩:∃M:Int,((R.length:Nat):Int)=M:=⟨_,rfl⟩
 obtain⟨μ,hμ⟩:∃μ:Int×List PT->Nat,∀x,μ x=x.2.length:=⟨_,fun _=>rfl⟩
 have x0:lY ks 0 ks:=lY.start ks;refine zA (fun _ _=>0) mA Tryz.func88 rfl kR rfl kR fun P G E hc hE=>?_
 exact Xp
theorem Pv(x:PT):V0 54 [.agg (bU x)] (pB (fy x)):=by
 cases x with
 |mk k nm i o ks=>
  rw[bU];show V0 _ _ (pB (decide (k=7)||(decide (k=18)||decide (k=19))));obtain⟨R,hR⟩:∃R,bW ks=R:=⟨_,rfl⟩
  obtain⟨T,hT⟩:∃T,bL nm=T:=⟨_,rfl⟩
  rw[hR,hT];obtain⟨b1,h1⟩:∃b,decide (k=7)=b:=⟨_,rfl⟩
  obtain⟨b2,h2⟩:∃b,decide (k=18)=b:=⟨_,rfl⟩
  obtain⟨b3,h3⟩:∃b,decide (k=19)=b:=⟨_,rfl⟩
  rw[h1,h2,h3];clear hR hT
  cases b1<;>cases b2<;>cases b3
  all_goals
   refine eZ Tryz.func54 fun P G E hc hE=>?_
   clear hc hE;cbv
   repeat (first|(simp only[h1];try cbv)|(simp only[h2];try cbv)|(simp only[h3];try cbv))
theorem Qv{nm:Bs}{i o:Int}:V0 86 [.agg (bU (.mk 37 nm i o []))] (pB true):=by
 rw[bU,bW];obtain⟨T,hT⟩:∃T,bL nm=T:=⟨_,rfl⟩
 refine eZ Tryz.func86 fun P G E hc hE=>?_
 have z0:E.ofN 0=0:=fH
 clear hc hE;cbv
 grind
theorem Dv{x:PT}(hk:x.kind≠37):V0 86 [.agg (bU x)] (pB false):=by
 cases x with
 |mk k nm i o ks=>
  rw[bU];obtain⟨T,hT⟩:∃T,bL nm=T:=⟨_,rfl⟩
  obtain⟨R,hR⟩:∃R,bW ks=R:=⟨_,rfl⟩
  have d1:decide (k=37)=false:=dF hk;refine eZ Tryz.func86 fun P G E hc hE=>?_
  clear hc hE hk;cbv
  repeat (first|(simp only[d1];try cbv))
theorem KD{x:PT}{c:Cx}(hd:oD x=false)(h:RL 49 [.agg (bU x),cR c] (pB true)):RL 83 [.agg (bU x),cR c] (pB true):=by
 cases x with
 |mk k nm i o ks=>
  rw[bU]at h ⊢;unfold oD at hd;obtain⟨T,hT⟩:∃T,bL nm=T:=⟨_,rfl⟩
  obtain⟨R,hR⟩:∃R,bW ks=R:=⟨_,rfl⟩
  rw[hT,hR]at h ⊢;simp only[cG]at hd;obtain⟨e1,e2,e3⟩:=hd;replace e1:decide (k=24)=false:=e1;replace e2:decide (k=25)=false:=e2;replace e3:decide (k=11)=false:=e3;obtain⟨c1,c2,c3,c4⟩:=c;refine zA (fun _ _=>0) mA Tryz.func83 rfl kR rfl kR fun P G E hc hE=>?_
  replace h:=hc _ _ _ h;clear hc hE;cbv;cbv
  repeat (first|(simp only[e1];try cbv)|(simp only[e2];try cbv)|(simp only[e3];try cbv)|(refine⟨_,h,?_⟩;cbv))
theorem z6d{x:PT}{c:Cx}(hx:Fm .b x)(hz:x.kids.length<=2000000)(h:∀y∈x.kids,RL 49 [.agg (bU y),cR c] (pB true)):RL 109 [.agg (bU x),cR c] (pB true):=by
 cases hx with
 | @blk nm i o ks uI=>
  have hs:=F0 (c:=c) hz h rfl;rw[bU];obtain⟨T,hT⟩:∃T,bL nm=T:=⟨_,rfl⟩
  replace hs:RL 23 [.ro 5 (bW ks),cR c] (pB true):=hs;obtain⟨R,hR⟩:∃R,bW ks=R:=⟨_,rfl⟩
  rw[hR]at hs;rw[hT,hR];obtain⟨c1,c2,c3,c4⟩:=c;refine zA (fun _ _=>0) mA Tryz.func109 rfl kR rfl kR fun P G E hc hE=>?_
  replace hs:=hc _ _ _ hs;clear hc hE;cbv;cbv
  repeat (first|(refine⟨_,hs,?_⟩;cbv))
structure NmF(E:SO):Prop where
 n0:E.ofN 0=0
 n1:E.ofN 1=1
 n2:E.ofN 2=2
 n3:E.ofN 3=3
 n4:E.ofN 4=4
 t0:E.nat 0=0
 t1:E.nat 1=1
 t2:E.nat 2=2
 t3:E.nat 3=3
 p0:E.ple 0 0
 p1:E.ple 0 1
 p2:E.ple 0 2
 p3:E.ple 0 3
 l0:∀{a b:Int},a<b->E.lti a b=true
 l1:∀{a b:Int},¬a<b->E.lti a b=false
 g0:∀{a:List PV}{l:List (List PV)},(a::l)[E.nat 0]?=some a
 g1:∀{a b:List PV}{l:List (List PV)},(a::b::l)[E.nat 1]?=some b
 g2:∀{a b c:List PV}{l:List (List PV)},(a::b::c::l)[E.nat 2]?=some c
 g3:∀{a b c d:List PV}{l:List (List PV)},(a::b::c::d::l)[E.nat 3]?=some d
theorem ug{E:SO}(hE:E=bG):NmF E:=by subst hE;exact⟨rfl,rfl,rfl,rfl,rfl,rfl,rfl,rfl,rfl,bT 0,(by decide:(0:Int)<=1),(by decide:(0:Int)<=2),(by decide:(0:Int)<=3),fun h=>aA h,fun h=>dF h,rfl,rfl,rfl,rfl⟩
theorem Oh:∀(d:Nat)(x:PT),gP x<=d->Fm .s x->V0 84 [.agg (bU x)] (pB (lN x))
 |0,x,h,_=>by have:=AB x;omega
 |d+1,x,hd,hx=>by
  have ih:∀y∈x.kids,Fm .s y->V0 84 [.agg (bU y)] (pB (lN y)):=fun y hy hf=>Oh d y (by
   cases x with
   |mk k nm i o ks=>rw[gP]at hd;have:=DU (show y∈ks from hy);omega) hf
  have other:∀k nm i o ks,x=.mk k nm i o ks->k≠28->k≠29->k≠30->k≠31->V0 84 [.agg (bU x)] (pB (lN x)):=fun k nm i o ks e h1 h2 h3 h4=>by
   subst e;rw[lN,aD (fun h=>h1 h.1),aD oM,bU]
   obtain⟨T,hT⟩:∃T,bL nm=T:=⟨_,rfl⟩
   obtain⟨R,hR⟩:∃R,bW ks=R:=⟨_,rfl⟩
   rw[hT,hR];replace h1:decide (k=28)=false:=dF h1;replace h2:decide (k=29)=false:=dF h2;replace h3:decide (k=30)=false:=dF h3;replace h4:decide (k=31)=false:=dF h4;refine eZ Tryz.func84 fun P G E hc hE=>?_
   clear hc hE hd hx;cbv
   repeat (first|(simp only[h1];try cbv)|(simp only[h2];try cbv)|(simp only[h3];try cbv)|(simp only[h4];try cbv))
  cases hx with
  | @if2 nm i o c y wR hy=>
   clear ih other;rw[lN,aF ⟨rfl,rfl⟩,bU,bW,bW,bW];obtain⟨k1,i1,o1,m1,K1,e1⟩:=iT c;obtain⟨k2,i2,o2,m2,K2,e2⟩:=iT y;obtain⟨T,hT⟩:∃T,bL nm=T:=⟨_,rfl⟩
   rw[e1,e2,hT];clear wR hy hd;refine eZ Tryz.func84 fun P G E hc hE=>?_
   obtain⟨n0,n1,n2,n3,n4,t0,t1,t2,t3,p0,p1,p2,p3,l0,l1,g0,g1,g2,g3⟩:=ug hE;clear hc hE l0 l1 t0 t1 t2 t3;cbv
   repeat (first|(simp only[n2];try cbv))
  | @if3 nm i o c y z wR hy hz=>
   have h:=ih z LM hz
   clear ih other;rw[lN,aD (fun h=>absurd h.2 dL),aF (.inl rfl),wZ,wZ,wZ,bU,bW,bW,bW,bW]
   simp only[sW,uT,aK,bN,eE];obtain⟨b,hb⟩:∃b,lN z=b:=⟨_,rfl⟩
   obtain⟨k1,i1,o1,m1,K1,e1⟩:=iT c;obtain⟨k2,i2,o2,m2,K2,e2⟩:=iT y;obtain⟨k3,i3,o3,m3,K3,e3⟩:=iT z;obtain⟨T,hT⟩:∃T,bL nm=T:=⟨_,rfl⟩
   rw[hb,e3]at h;rw[e1,e2,e3,hT,hb];clear wR hy hz hd;exact Ck
  | @whl nm i o c y wR hy=>
   have h:=ih y LM hy
   clear ih other;rw[lN,aD (fun h=>absurd h.1 aN),aF (.inr (.inl rfl)),wZ,wZ,bU,bW,bW,bW]
   simp only[sW,uT,aK,bN,eE];obtain⟨b,hb⟩:∃b,lN y=b:=⟨_,rfl⟩
   obtain⟨k1,i1,o1,m1,K1,e1⟩:=iT c;obtain⟨k2,i2,o2,m2,K2,e2⟩:=iT y;obtain⟨T,hT⟩:∃T,bL nm=T:=⟨_,rfl⟩
   rw[hb,e2]at h;rw[e1,e2,hT,hb];clear wR hy hd;exact Ck
  | @fof nm i o c y hi ho wR hy=>
   have h:=ih y LM hy
   clear ih other;rw[lN,aD (fun h=>absurd h.1 aN),aF (.inr (.inr (.inr rfl))),wZ,wZ,bU,bW,bW,bW]
   simp only[sW,uT,aK,bN,eE];obtain⟨b,hb⟩:∃b,lN y=b:=⟨_,rfl⟩
   obtain⟨k1,i1,o1,m1,K1,e1⟩:=iT c;obtain⟨k2,i2,o2,m2,K2,e2⟩:=iT y;obtain⟨T,hT⟩:∃T,bL nm=T:=⟨_,rfl⟩
   rw[hb,e2]at h;rw[e1,e2,hT,hb];clear wR hy hd hi ho;exact Ck
  | @for_ nm i o f s t y hf hs ht hy=>
   have h:=ih y LM hy
   clear ih other;rw[lN,aD (fun h=>absurd h.1 aN),aF (.inr (.inr (.inl rfl))),wZ,wZ,wZ,wZ,bU,bW,bW,bW,bW,bW]
   simp only[sW,uT,aK,bN,eE];obtain⟨b,hb⟩:∃b,lN y=b:=⟨_,rfl⟩
   obtain⟨k1,i1,o1,m1,K1,e1⟩:=iT f;obtain⟨k2,i2,o2,m2,K2,e2⟩:=iT s;obtain⟨k3,i3,o3,m3,K3,e3⟩:=iT t;obtain⟨k4,i4,o4,m4,K4,e4⟩:=iT y;obtain⟨T,hT⟩:∃T,bL nm=T:=⟨_,rfl⟩
   rw[hb,e4]at h;rw[e1,e2,e3,e4,hT,hb];clear hf hs ht hy hd;exact Ck
  | @sd y h=>
   cases h with
   |dcl hk dN hf=>grind
  | @sb y h=>
   cases h with
   |blk hf=>grind
  |_=>grind
theorem JF{k i o k1 i1 o1:Int}{nm:Bs}{ks:List PT}{n1:ByteArray}{K1:List (List PV)}(h:bU (.mk k nm i o ks)=[pI k1,pS n1,pI i1,pI o1,.ro 5 K1]):k=k1/\bL nm=n1/\i=i1/\o=o1/\bW ks=K1:=by
 rw[bU]at h
 grind
theorem Tt{s:Bs}(h:Tv s){T:ByteArray}(hT:bL s=T):RL 107 [pS T] (pB true):=by
 have hd:T.data.toList=s:=by rw[<-hT];rfl
 have hz:T.size<=1000000:=by
  have:T.data.toList.length=T.size:=rfl
  rw[hd]at this
  have:=h.2
  omega
 have:=Oo T oM
 unfold H6 at this;rw[hd,h.1]at this;exact this
theorem z0h{ks:List PT}{c:Cx}(hz:ks.length<=2000000)(hf:∀y∈ks,Fm .f y)(h:∀y∈ks,∀z∈y.kids,RL 82 [.agg (bU z),cR c] (pB true)){R:List (List PV)}(hR:bW ks=R):RL 108 [.ro 5 R,cR c] (pB true):=by
 obtain⟨M,hM⟩:∃M:Int,((R.length:Nat):Int)=M:=⟨_,rfl⟩
 obtain⟨μ,hμ⟩:∃μ:Int×List PT->Nat,∀x,μ x=x.2.length:=⟨_,fun _=>rfl⟩
 have x0:lY ks 0 ks:=lY.start ks;refine zA (fun _ _=>0) mA Tryz.func108 rfl kR rfl kR fun P G E hc hE=>?_
 have l0:E.ofN R.length=M:=eh
 cbv;cbv at l0;cbv
 repeat (first|(simp only[l0];try cbv))
 refine gV 49 [3,4,8,9,10] 1 (fun x:Int×List PT=>[.own 0 0,.p (pB false),.p (.ro 5 R),.p (pI M),.p (pI x.1)]) (fun _=>[some (.box [.p (pB c.fn),.p (pB c.lp),.p (pB c.gn),.p (pB c.as_)] 37 none)]) (fun x=>lY ks x.1 x.2) μ (0,ks) r5 x0 ?_
 rintro⟨j,l⟩ g1
 simp only at g1;replace hM:((R.length:Nat):Int)=M:=hM
 cases l with
 |nil=>
  have d1:=g1.stop hE hR hM;clear hc hE;exact UZ
 |cons z l=>
  obtain⟨j2,k1,i1,o1,n1,K1,hj,hv,f1,f2,f3,f4⟩:=g1.fact hE hz hR hM;have nE:μ (j2,l)<μ (j,z::l):=aX
  have xx:=aH g1.get;have hx:lY ks j2 l:=g1.next hj;have HO:=hf z xx;have XX:=h z xx;obtain⟨n0,m1,m2,_⟩:=ug hE
  cases HO with
  | @fld nm i o x hn wE=>
   obtain⟨e1,e2,e3,e4,e5⟩:=JF hv;subst e1 e3 e4;have dO:=OK (ks:=[x]) (c:=c) dL XX e5
   have gk:=Tt hn e2;rw[bW,bW]at e5;obtain⟨k2,i2,o2,n2,K2,jY⟩:=iT x;rw[jY]at e5;subst e5;replace dO:=hc _ _ _ dO;replace gk:=hc _ _ _ gk;clear hc hE;cbv
   repeat (first|(simp only[l0];try cbv)|(simp only[f1];try cbv)|(refine⟨f2,_,f4,?_⟩;cbv)|(refine⟨_,gk,?_⟩;cbv)|(simp only[m1];try cbv)|(refine⟨_,dO,?_⟩;cbv)|(simp only[f3];try cbv))
   exact VD
  | @cmp nm i o x y wE sF=>
   obtain⟨e1,e2,e3,e4,e5⟩:=JF hv;subst e1 e3 e4;have dO:=OK (ks:=[x,y]) (c:=c) dL XX e5
   rw[bW,bW,bW]at e5;obtain⟨k2,i2,o2,n2,K2,jY⟩:=iT x;obtain⟨k3,i3,o3,n3,K3,zL⟩:=iT y;rw[jY,zL]at e5;subst e5;replace dO:=hc _ _ _ dO;clear hc hE;cbv
   repeat (first|(simp only[l0];try cbv)|(simp only[f1];try cbv)|(refine⟨f2,_,f4,?_⟩;cbv)|(simp only[m2];try cbv)|(refine⟨_,dO,?_⟩;cbv)|(simp only[f3];try cbv))
   exact VD
theorem z5z{k i o:Int}{nm:Bs}{ks:List PT}{c:Cx}(hk:k=24\/k=25)(dN:ks≠[])(hf:∀y∈ks,Fm .d y)(dC:k=25->∀y∈ks,y.kids≠[])(hz:ks.length<=2000000)(h:∀y∈ks,∀z∈y.kids,RL 82 [.agg (bU z),cR c] (pB true)):RL 81 [.agg (bU (.mk k nm i o ks)),cR c] (pB true):=by
 rw[bU];obtain⟨T,hT⟩:∃T,bL nm=T:=⟨_,rfl⟩
 obtain⟨R,hR⟩:∃R,bW ks=R:=⟨_,rfl⟩
 rw[hT,hR];obtain⟨M,hM⟩:∃M:Int,((R.length:Nat):Int)=M:=⟨_,rfl⟩
 have MZ:0<M:=by
  have:=aS.2 dN
  rw[<-hM,<- hR,na];omega
 obtain⟨μ,hμ⟩:∃μ:Int×List PT->Nat,∀x,μ x=x.2.length:=⟨_,fun _=>rfl⟩
 have x0:lY ks 0 ks:=lY.start ks;refine zA (fun _ _=>0) mA Tryz.func81 rfl kR rfl kR fun P G E hc hE=>?_
 have l0:E.ofN R.length=M:=eh
 have l9:E.lti 0 M=true:=by rw[hE];exact aA MZ
 cbv;cbv at l0;cbv
 repeat (first|(simp only[l0];try cbv))
 refine gV 52 [2,3,4,8,9,10] 2 (fun x:Int×List PT=>[.own 0 0,.own 1 0,.p (pB false),.p (.ro 5 R),.p (pI M),.p (pI x.1)]) (fun _=>[some (.box [.p (pI k),.p (pS T),.p (pI i),.p (pI o),.p (.ro 5 R)] 25 none),some (.box [.p (pB c.fn),.p (pB c.lp),.p (pB c.gn),.p (pB c.as_)] 37 none)]) (fun x=>lY ks x.1 x.2) μ (0,ks) r5 x0 ?_
 rintro⟨j,l⟩ g1
 simp only at g1;replace hM:((R.length:Nat):Int)=M:=hM
 cases l with
 |nil=>
  have d1:=g1.stop hE hR hM;clear hc hE;cbv
  repeat (first|(simp only[l0];try cbv)|(simp only[d1];try cbv)|(simp only[l9];try cbv))
  all_goals trivial
 |cons z l=>
  obtain⟨j2,k1,i1,o1,n1,K1,hj,hv,f1,f2,f3,f4⟩:=g1.fact hE hz hR hM;have nE:μ (j2,l)<μ (j,z::l):=aX
  have xx:=aH g1.get;have hx:lY ks j2 l:=g1.next hj;have XX:=h z xx;have Df:=fun e=>dC e z xx
  have HO:=hf z xx;obtain⟨n0,m1,m2,_⟩:=ug hE;have q0:E.lti 1 0=false:=fH
  have q1:E.lti 1 1=false:=fH
  cases HO with
  | @d0 nm i o hn=>
   rcases hk with rfl|rfl
   ·obtain⟨e1,e2,e3,e4,e5⟩:=JF hv;subst e1 e3 e4;have dO:=OK (ks:=[]) (c:=c) dL XX e5
    have gk:=AJ hn.1 hn.2 (.inl rfl) e2 (b:=false);rw[bW]at e5;subst e5;replace dO:=hc _ _ _ dO;replace gk:=hc _ _ _ gk;clear hc hE;cbv
    repeat (first|(simp only[l0];try cbv)|(simp only[f1];try cbv)|(refine⟨f2,_,f4,?_⟩;cbv)|(refine⟨_,gk,?_⟩;cbv)|(simp only[n0];try cbv)|(simp only[q0];try cbv)|(refine⟨_,dO,?_⟩;cbv)|(simp only[f3];try cbv))
    exact VD
   ·exact absurd rfl (Df rfl)
  | @d1 nm i o x hn wE=>
   obtain⟨e1,e2,e3,e4,e5⟩:=JF hv;subst e1 e3 e4;have dO:=OK (ks:=[x]) (c:=c) dL XX e5
   have gk:=AJ hn.1 hn.2 (.inl rfl) e2 (b:=false);rw[bW,bW]at e5;obtain⟨k2,i2,o2,n2,K2,jY⟩:=iT x;rw[jY]at e5;subst e5;replace dO:=hc _ _ _ dO;replace gk:=hc _ _ _ gk;clear hc hE Df
   rcases hk with rfl|rfl
   all_goals
    cbv
    repeat (first|(simp only[l0];try cbv)|(simp only[f1];try cbv)|(refine⟨f2,_,f4,?_⟩;cbv)|(refine⟨_,gk,?_⟩;cbv)|(simp only[m1];try cbv)|(simp only[q1];try cbv)|(refine⟨_,dO,?_⟩;cbv)|(simp only[f3];try cbv))
    exact VD
theorem z5h{x:PT}{c:Cx}(hx:Fm .fi x)(h:x.kind≠37->RL 49 [.agg (bU x),cR c] (pB true)):RL 85 [.agg (bU x),cR c] (pB true):=by
 cases hx with
 | @fi0 nm i o=>
  have he:=nK (Qv (nm:=nm) (i:=i) (o:=o));rw[bU,bW]at he ⊢;obtain⟨T,hT⟩:∃T,bL nm=T:=⟨_,rfl⟩
  rw[hT]at he ⊢;refine zA (fun _ _=>0) mA Tryz.func85 rfl kR rfl kR fun P G E hc hE=>?_
  replace he:=hc _ _ _ he;clear hc hE h;cbv;cbv
  repeat (first|(refine⟨_,he,?_⟩;cbv))
 |fi1 hd=>
  cases hd with
  | @dcl k nm i o ks hk dN hf=>
   have he:=nK (Dv (x:=.mk k nm i o ks) (by show k≠37;omega))
   have h:=h (by show k≠37;omega)
   rw[bU]at he h ⊢;obtain⟨T,hT⟩:∃T,bL nm=T:=⟨_,rfl⟩
   obtain⟨R,hR⟩:∃R,bW ks=R:=⟨_,rfl⟩
   rw[hT,hR]at he h ⊢;refine zA (fun _ _=>0) mA Tryz.func85 rfl kR rfl kR fun P G E hc hE=>?_
   replace he:=hc _ _ _ he;replace h:=hc _ _ _ h;clear hc hE hf
   rcases hk with rfl|rfl
   all_goals
    exact Uz
 | @fi2 nm i o x wE=>
  have he:=nK (Dv (x:=.mk 26 nm i o [x]) (by show(26:Int)≠37;decide))
  have h:=h (by show(26:Int)≠37;decide)
  rw[bU]at he h ⊢;obtain⟨T,hT⟩:∃T,bL nm=T:=⟨_,rfl⟩
  obtain⟨R,hR⟩:∃R,bW [x]=R:=⟨_,rfl⟩
  rw[hT,hR]at he h ⊢;refine zA (fun _ _=>0) mA Tryz.func85 rfl kR rfl kR fun P G E hc hE=>?_
  replace he:=hc _ _ _ he;replace h:=hc _ _ _ h;clear hc hE;exact Uz
def QO(n:Nat):Nat:=match n with|1=>13|6=>21|9=>12|_=>0
structure CtF(E:SO):Prop where
 a:E.ple 1 2
 b:E.ple 2 2
 c:E.ple 1 3
 d:E.ple 3 3
 e:E.ple 1 1
 c1:∀{x y:List PV},E.cut [x,y] (E.nat 1) (E.nat 2)=[y]
 c2:∀{x y z:List PV},E.cut [x,y,z] (E.nat 1) (E.nat 3)=[y,z]
 c3:∀{x:List PV},E.cut [x] (E.nat 1) (E.nat 1)=[]
 m0:E.lti 2 2=false
 m1:E.lti 3 2=false
 m2:E.lti 3 3=false
theorem UC{E:SO}(hE:E=bG):CtF E:=by subst hE;exact⟨(by decide:(1:Int)<=2),(by decide:(2:Int)<=2),(by decide:(1:Int)<=3),(by decide:(3:Int)<=3),(by decide:(1:Int)<=1),rfl,rfl,rfl,rfl,rfl,rfl⟩
theorem QN{a f:PT}{c:Cx}(hk:f.kind=27)(ha:RL 109 [.agg (bU a),cR c] (pB true))(hf:RL 109 [.agg (bU f),cR c] (pB true)):RL 89 [.ro 5 (bW [a,f]),cR c] (pB true):=by
 rw[bW,bW,bW];obtain⟨k1,i1,o1,n1,K1,uE⟩:=iT a
 cases f with
 |mk k nm i o ks=>
  obtain rfl:k=27:=hk;rw[bU]at hf ⊢;obtain⟨T,hT⟩:∃T,bL nm=T:=⟨_,rfl⟩
  obtain⟨R,hR⟩:∃R,bW ks=R:=⟨_,rfl⟩
  rw[hT,hR]at hf ⊢;rw[uE]at ha ⊢;refine xR aU mA mixed QO Tryz.func89 rfl kR kR rfl fun P G E hc hM hE=>?_
  replace ha:=hc _ _ _ ha;obtain⟨n0,n1,n2,n3,n4,t0,t1,t2,t3,p0,p1,p2,p3,l0,l1,g0,g1,g2,g3⟩:=ug hE;obtain⟨q1,q2,q3,q4,q5,c1,c2,c3,m0,m1,m2⟩:=UC hE;have e0:E.eq ⟨#[]⟩ ⟨#[]⟩=true:=fH
  replace hf:=hc _ _ _ hf;clear hc hM hE l0 l1 t0 t1 t2 t3;cbv;cbv
  repeat (first|(simp only[n2];try cbv)|(simp only[m0];try cbv)|(simp only[m1];try cbv)|(refine⟨p0,_,g0,?_⟩;cbv)|(refine⟨_,ha,?_⟩;cbv)|(refine⟨p1,q1,q2,?_⟩;cbv)|(simp only[c1];try cbv)|(simp only[n1];try cbv)|(refine⟨_,hf,?_⟩;cbv))
theorem UE{nm:Bs}(h:nm=[]\/yO nm):∃T,bL nm=T/\((T=⟨#[]⟩)\/(¬T=⟨#[]⟩/\RL 87 [pS T,pB false] (pB true))):=by
 refine⟨_,rfl,?_⟩
 rcases h with rfl|h
 ·exact .inl rfl
 ·exact .inr ⟨fun e=>h.ne (ov (b:=[]) e),AJ h.1 h.2 (.inl rfl) rfl⟩
theorem Ss{a b:PT}{i o:Int}{nm:Bs}{l:List PT}{c:Cx}(hn:nm=[]\/yO nm)(ha:RL 109 [.agg (bU a),cR c] (pB true))(hb:RL 109 [.agg (bU b),cR c] (pB true))(hl:l=[]\/∃f,l=[f]/\RL 109 [.agg (bU f),cR c] (pB true)):RL 89 [.ro 5 (bW (a :: .mk 41 nm i o [b]::l)),cR c] (pB true):=by
 rw[bW,bW,bU,bW,bW];obtain⟨k1,i1,o1,n1,K1,uE⟩:=iT a;obtain⟨k2,i2,o2,n2,K2,jY⟩:=iT b;rw[uE]at ha ⊢;rw[jY]at hb ⊢;obtain⟨T,hT,hi⟩:=UE hn;rw[hT];clear hT hn
 rcases hl with rfl|⟨f,rfl,hf⟩
 ·rw[bW]
  rcases hi with rfl|⟨dN,hi⟩
  ·skip
   refine xR aU mA mixed QO Tryz.func89 rfl kR kR rfl fun P G E hc hM hE=>?_
   replace ha:=hc _ _ _ ha;obtain⟨n0,n1,n2,n3,n4,t0,t1,t2,t3,p0,p1,p2,p3,l0,l1,g0,g1,g2,g3⟩:=ug hE;obtain⟨q1,q2,q3,q4,q5,c1,c2,c3,m0,m1,m2⟩:=UC hE;have e0:E.eq ⟨#[]⟩ ⟨#[]⟩=true:=fH
   replace hb:=hc _ _ _ hb;clear hc hM hE l0 l1 t0 t1 t2 t3;cbv;cbv at e0;cbv
   repeat (first|(simp only[n2];try cbv)|(simp only[m0];try cbv)|(simp only[m1];try cbv)|(refine⟨p0,_,g0,?_⟩;cbv)|(refine⟨_,ha,?_⟩;cbv)|(refine⟨p1,q1,q2,?_⟩;cbv)|(simp only[c1];try cbv)|(simp only[e0];try cbv)|(simp only[n1];try cbv)|(refine⟨_,hb,?_⟩;cbv)|(refine⟨p1,q5,q5,?_⟩;cbv)|(simp only[c3];try cbv)|(simp only[n0];try cbv))
  ·skip
   refine xR aU mA mixed QO Tryz.func89 rfl kR kR rfl fun P G E hc hM hE=>?_
   replace ha:=hc _ _ _ ha;obtain⟨n0,n1,n2,n3,n4,t0,t1,t2,t3,p0,p1,p2,p3,l0,l1,g0,g1,g2,g3⟩:=ug hE;obtain⟨q1,q2,q3,q4,q5,c1,c2,c3,m0,m1,m2⟩:=UC hE;have e0:E.eq ⟨#[]⟩ ⟨#[]⟩=true:=fH
   have e1:E.eq T ⟨#[]⟩=false:=by rw[hE];exact dF dN
   replace hb:=hc _ _ _ hb;replace hi:=hc _ _ _ hi;clear hc hM hE l0 l1 t0 t1 t2 t3 dN;cbv;cbv at e1;cbv
   repeat (first|(simp only[n2];try cbv)|(simp only[m0];try cbv)|(simp only[m1];try cbv)|(refine⟨p0,_,g0,?_⟩;cbv)|(refine⟨_,ha,?_⟩;cbv)|(refine⟨p1,q1,q2,?_⟩;cbv)|(simp only[c1];try cbv)|(simp only[e1];try cbv)|(refine⟨_,hi,?_⟩;cbv)|(simp only[n1];try cbv)|(refine⟨_,hb,?_⟩;cbv)|(refine⟨p1,q5,q5,?_⟩;cbv)|(simp only[c3];try cbv)|(simp only[n0];try cbv))
 ·rw[bW,bW];obtain⟨k3,i3,o3,n3,K3,zL⟩:=iT f;rw[zL]at hf ⊢
  rcases hi with rfl|⟨dN,hi⟩
  ·skip
   refine xR aU mA mixed QO Tryz.func89 rfl kR kR rfl fun P G E hc hM hE=>?_
   replace ha:=hc _ _ _ ha;obtain⟨n0,n1,n2,n3,n4,t0,t1,t2,t3,p0,p1,p2,p3,l0,l1,g0,g1,g2,g3⟩:=ug hE;obtain⟨q1,q2,q3,q4,q5,c1,c2,c3,m0,m1,m2⟩:=UC hE;have e0:E.eq ⟨#[]⟩ ⟨#[]⟩=true:=fH
   replace hb:=hc _ _ _ hb;replace hf:=hc _ _ _ hf;clear hc hM hE l0 l1 t0 t1 t2 t3;cbv;cbv at e0;cbv
   repeat (first|(simp only[n3];try cbv)|(simp only[m1];try cbv)|(simp only[m2];try cbv)|(refine⟨p0,_,g0,?_⟩;cbv)|(refine⟨_,ha,?_⟩;cbv)|(refine⟨p1,q3,q4,?_⟩;cbv)|(simp only[c2];try cbv)|(simp only[e0];try cbv)|(simp only[n1];try cbv)|(refine⟨_,hb,?_⟩;cbv)|(refine⟨p1,q1,q2,?_⟩;cbv)|(simp only[n2];try cbv)|(simp only[c1];try cbv)|(refine⟨_,hf,?_⟩;cbv))
  ·skip
   refine xR aU mA mixed QO Tryz.func89 rfl kR kR rfl fun P G E hc hM hE=>?_
   replace ha:=hc _ _ _ ha;obtain⟨n0,n1,n2,n3,n4,t0,t1,t2,t3,p0,p1,p2,p3,l0,l1,g0,g1,g2,g3⟩:=ug hE;obtain⟨q1,q2,q3,q4,q5,c1,c2,c3,m0,m1,m2⟩:=UC hE;have e0:E.eq ⟨#[]⟩ ⟨#[]⟩=true:=fH
   have e1:E.eq T ⟨#[]⟩=false:=by rw[hE];exact dF dN
   replace hb:=hc _ _ _ hb;replace hi:=hc _ _ _ hi;replace hf:=hc _ _ _ hf;clear hc hM hE l0 l1 t0 t1 t2 t3 dN;cbv;cbv at e1;cbv
   repeat (first|(simp only[n3];try cbv)|(simp only[m1];try cbv)|(simp only[m2];try cbv)|(refine⟨p0,_,g0,?_⟩;cbv)|(refine⟨_,ha,?_⟩;cbv)|(refine⟨p1,q3,q4,?_⟩;cbv)|(simp only[c2];try cbv)|(simp only[e1];try cbv)|(refine⟨_,hi,?_⟩;cbv)|(simp only[n1];try cbv)|(refine⟨_,hb,?_⟩;cbv)|(refine⟨p1,q1,q2,?_⟩;cbv)|(simp only[n2];try cbv)|(simp only[c1];try cbv)|(refine⟨_,hf,?_⟩;cbv))
theorem zuaN(b o n cap:Nat)(ss:List Bs)(w:World)(hz:ss.length=n)(hn:n<maxLen)(hb:b<w.heap.size)(dR:∀s∈ss,s.length<=maxLen)
  (h0:∀j,j<n->w.cell? ⟨b,o+j*5,none⟩=some (.int .i64 7)) (h1:∀j,j<n->w.cell? ⟨b,o+j*5+1,none⟩=some (.string (bL (ss.getD j []))))
  (h2:∀j,j<n->w.cell? ⟨b,o+j*5+2,none⟩=some (.int .i64 0)) (h3:∀j,j<n->w.cell? ⟨b,o+j*5+3,none⟩=some (.int .i64 0)) (h4:∀j,j<n->∃a c,w.cell? ⟨b,o+j*5+4,none⟩=some (.slice a 0 c)):
  Calls Tryz.prog 95 #[.slice (some ⟨b,o,none⟩) n cap] w fun e w'=>e=.returned (.bool (oU ss))/\Below w.heap.size w w':=by
 have md:=@run_makeMap Tryz.prog
 go_enter Tryz.func95,Tryz.ntmps95
 go_wp2
 go_loopw [9] (fun i wr=>∃k:Nat,k<=n/\i=.int .i64 k/\(ss.take k).Nodup/\(∃D,xt D (ss.take k)/\wr.ownsMap Tryz.prog 9 (plainElem Tryz.prog 4) w.heap.size k D)/\Below w.heap.size w wr)
  (fun i _=>n-(intOf i).toNat)
 case atStart=>exact⟨0,aP _,rfl,by simp,⟨_,z7e,World.ownsMap_made _ _ _ _⟩,(Below.refl _ _).alloc (nR _) _⟩
 case round=>
  obtain⟨k,hk,rfl,fa,⟨D,hD,iV⟩,rQ⟩:=hrel;have c0:k<n->wr.cell? ⟨b,o+k*5,none⟩=some (.int .i64 7):=fun h=>(rQ.cell (by exact hb)).trans (h0 k h)
  have c1:k<n->wr.cell? ⟨b,o+k*5+1,none⟩=some (.string (bL (ss.getD k []))):=fun h=>(rQ.cell (by exact hb)).trans (h1 k h)
  have c2:k<n->wr.cell? ⟨b,o+k*5+2,none⟩=some (.int .i64 0):=fun h=>(rQ.cell (by exact hb)).trans (h2 k h)
  have c3:k<n->wr.cell? ⟨b,o+k*5+3,none⟩=some (.int .i64 0):=fun h=>(rQ.cell (by exact hb)).trans (h3 k h)
  obtain⟨a4,p4,c4⟩:∃a4 p4,k<n->wr.cell? ⟨b,o+k*5+4,none⟩=some (.slice a4 0 p4):=by
   rcases Nat.lt_or_ge k n with h|h
   ·obtain⟨a4,p4,e⟩:=h4 k h
    exact⟨a4,p4,fun _=>(rQ.cell (by exact hb)).trans e⟩
   ·exact⟨none,0,fun h'=>absurd h' (Nat.not_lt.2 h)⟩
  have lQ:∀h:k<ss.length,(ss[k]).length<=maxLen:=fun h=>dR _ (oa _)
  go_wp2_with (first
   |(at_lookup;refine zo0 _ rfl _ _ 103 rfl 9 4 Td Tryz.underlying103 Tryz.underlying4 (by kernel_rfl) w.heap.size k D rfl (iV.alloc _) _ (.string ss[k]) rfl (Tl (lQ _)) (decide (ss[k]∈ss.take k)) (hD.at_ _) ?_)
   |(at_mapUpdate;refine wpList_mapUpdate_own _ rfl _ _ _ 103 rfl 9 4 Td Tryz.underlying103 (plainElem (H:=Unit) Tryz.prog 4) w.heap.size k D rfl (iV.alloc _) (by omega) _ _ (.string ss[k]) rfl rfl (Tl (lQ _)) _ [] (plainElem_bool Tryz.underlying4 true) ?_;intro w1 WV HM)
   |go_in)
  ·have hm:ss[k]'(by omega)∈List.take k ss:=by assumption
   have hf:oU ss=false:=xac (by omega) hm
   go_ret
   exact⟨by rw[hf];rfl,rQ.alloc rQ.size _⟩
  ·have cQ:k<n:=by assumption
   have hm:¬ss[k]'(by omega)∈List.take k ss:=by assumption
   have bf:List.take (k+1) ss=List.take k ss++[ss[k]'(by omega)]:=by rw[List.take_add_one,List.getElem?_eq_getElem (by omega)];rfl
   have hw:wrap64 ((k:Int)+1)=((k+1:Nat):Int):=by unfold maxLen at hn;unfold wrap64;omega
   refine⟨⟨k+1,cQ,by rw[hw],?_,⟨_,?_,WV⟩,?_⟩,?_⟩
   ·rw[bf];exact Zt fa hm
   ·rw[bf];exact z7d hD _ trivial
   ·exact(rQ.alloc rQ.size _).grown HM (by have:=rQ.size;simp;omega) (fun j hj=>by cases hj;exact nR _)
   ·rw[hw];simp[intOf];omega
  ·have D8:k=n:=by omega
   subst D8;have hf:oU ss=true:=Pj (by rw[<-hz,List.take_length]at fa;exact fa)
   go_ret
   exact⟨by rw[hf];rfl,rQ⟩
theorem distinct_rs(L:List Bs){R:List (List PV)}(hlen:R.length=L.length)(hsz:∀s∈L,s.length<=1000000)(hl:L.length<=2000000)
  (hrow:∀(i:Nat)(s:Bs),L[i]?=some s->∃K,R[i]?=some [pI 7,pS (bL s),pI 0,pI 0,K]/\(K=.v (.slice none 0 0)\/K=.ro 5 [])):V0 95 [.ro 5 R] (pB (oU L)):=by
 refine⟨Gv Tryz.func95 rfl rfl,fun w B args _ uH hr=>?_⟩
 match args,uH with
 |[v],_=>
  have h1:=hr 0 _ v rfl rfl
  have key:∀(e:Ending)(w':World),e=.returned (.bool (oU L))/\Below w.heap.size w w'->Gr w w'/\pp w' (fun b=>B b\/w.heap.size<=b) (pB (oU L)) e:=fun e w' h=>⟨h.2,by rw[h.1];exact .ret (.v _)⟩
  cases h1 with
  |ro0 s A cap=>
   cases L with
   |nil=>exact(zsg A cap w).mono key
   |cons p ps=>simp at hlen
  |ro _ _ b o cap vs hR hb pQ hs hc gw=>
   have cell:∀j,j<L.length->∃K,(K=.v (.slice none 0 0)\/K=.ro 5 [])/\∀q (x:PV),[pI 7,pS (bL (L.getD j [])),pI 0,pI 0,K][q]?=some x->(∀y,x=.v y->w.cell? ⟨b,o+(j*5+q),none⟩=some y)/\(x=.ro 5 []->∃a c,w.cell? ⟨b,o+(j*5+q),none⟩=some (.slice a 0 c)):=fun j hj=>by
    have e:L[j]?=some (L.getD j []):=by rw[List.getD,List.getElem?_eq_getElem hj];rfl
    obtain⟨K,h3,hK⟩:=hrow j _ e
    refine⟨K,hK,fun q x hq=>?_⟩
    have h4:=hc j q _ x h3 hq
    have h5:=gw j q _ x h3 hq
    refine⟨fun y hy=>?_,fun hx=>?_⟩
    ·subst hy
     cases h5
     exact h4.1
    ·subst hx
     generalize vs j q=vv at h4 h5
     cases h5 with
     |ro0 s A cap=>exact⟨_,_,h4.1⟩
     |ro _ _ b2 o2 cap2 vs2 g1 g2 g3 g4 g5 g6=>exact⟨_,_,h4.1⟩
   rw[hlen]
   refine(zuaN b o L.length cap L w rfl (by unfold maxLen;omega) hb (fun s hs=>by have:=hsz s hs;unfold maxLen;omega) (fun j hj=>?_) (fun j hj=>?_) (fun j hj=>?_) (fun j hj=>?_) (fun j hj=>?_)).mono key
   ·obtain⟨K,_,h3⟩:=cell j hj;exact(h3 0 _ rfl).1 _ rfl
   ·obtain⟨K,_,h3⟩:=cell j hj;exact(h3 1 _ rfl).1 _ rfl
   ·obtain⟨K,_,h3⟩:=cell j hj;exact(h3 2 _ rfl).1 _ rfl
   ·obtain⟨K,_,h3⟩:=cell j hj;exact(h3 3 _ rfl).1 _ rfl
   ·obtain⟨K,hK,h3⟩:=cell j hj
    rcases hK with rfl|rfl
    ·exact⟨_,_,(h3 4 _ rfl).1 _ rfl⟩
    ·exact(h3 4 _ rfl).2 rfl
theorem xdk{ps:List PT}(hf:∀x∈ps,Fm .i x):V0 95 [.ro 5 (bW ps)] (pB (oU (oR ps)))\/2000000<ps.length:=by
 rcases aW 2000000 ps.length with h|h
 ·exact .inr h
 refine .inl (distinct_rs _ (by rw[na];unfold oR;rw[nk]) (fun s hs=>?_) (by unfold oR;grind) fun i s hi=>?_)
 ·obtain⟨p,WR,rfl⟩:=fT.1 hs
  cases hf p WR with
  |par hn=>exact aR hn.2 aN
 ·unfold oR at hi;rw[aI]at hi
  cases hz:ps[i]? with
  |none=>rw[hz]at hi;cases hi
  |some p=>
   rw[hz]at hi
   cases hf p (aH hz)with
   |par hn=>
    cases hi
    exact⟨_,by rw[AK,hz];show some (bU _)=_;rw[bU,bW],.inr rfl⟩
theorem xfb{nm:Bs}{i o:Int}{ps:List PT}{b:PT}(hf:∀x∈ps,Fm .i x)(wI:1<=o)(tG:o<=5)(hn:nm=[]\/yO nm/\o≠2/\o≠5)(hd:oU (oR ps)=true)(hz:ps.length<=2000000)(hb:RL 109 [.agg (bU b),cR (pE o)] (pB true)):
  RL 90 [.agg (bU (.mk 11 nm i o (ps++[b])))] (pB true):=by
 have rT:=(xdk hf).resolve_right (Nat.not_lt.2 hz);rw[hd]at rT;replace rT:=nK rT;have MH:=nK (Fg o)
 rcases hw:pE o with⟨w1,w2,w3,w4⟩
 rw[hw]at MH hb;rw[bU];obtain⟨k2,i2,o2,n2,K2,jY⟩:=iT b;rw[jY]at hb;obtain⟨R0,gU⟩:∃R,bW ps=R:=⟨_,rfl⟩
 have hR:bW (ps++[b])=R0++[[pI k2,pS n2,pI i2,pI o2,.ro 5 K2]]:=by
  have:∀l:List PT,bW (l++[b])=bW l++[bU b]:=fun l=>by
   induction l with
   |nil=>rfl
   |cons x l ih=>rw[qD,bW,bW,ih];rfl
  rw[this,gU,jY]
 rw[hR];rw[gU]at rT;obtain⟨N,hN⟩:∃N:Int,((R0.length:Nat):Int)=N:=⟨_,rfl⟩
 obtain⟨R,Mq⟩:∃R,R0++[[pI k2,pS n2,pI i2,pI o2,.ro 5 K2]]=R:=⟨_,rfl⟩
 rw[Mq];obtain⟨M,hM⟩:∃M:Int,((R.length:Nat):Int)=M:=⟨_,rfl⟩
 have hMN:M=N+1:=aX
 have hN0:0<=N:=eC
 have mX:R0.length=ps.length:=by rw[<-gU,na]
 obtain⟨T,hT⟩:∃T,bL nm=T:=⟨_,rfl⟩
 rw[hT];have hi:T=⟨#[]⟩\/(¬T=⟨#[]⟩/\decide (o=2)=false/\decide (o=5)=false/\RL 87 [pS T,pB false] (pB true)):=by
  rcases hn with rfl|⟨h,h2,h5⟩
  ·exact .inl hT.symm
  ·exact .inr ⟨fun e=>h.ne (ov (b:=[]) (hT.trans e)),dF h2,dF h5,AJ h.1 h.2 (.inl rfl) hT⟩
 obtain⟨μ,hμ⟩:∃μ:Int×List PT->Nat,∀x,μ x=x.2.length:=⟨_,fun _=>rfl⟩
 have x0:lY ps 0 ps:=lY.start ps;have dM:decide (M=0)=false:=dF oM
 have hNz:N<=2000000:=eC
 clear hn hT hR hd jY hw
 rcases hi with rfl|⟨dN,d2,d5,hi⟩
 all_goals
  refine xR aU mA mixed (fun n=>match n with|10=>14|_=>0) Tryz.func90 rfl kR kR rfl fun P G E hc qK hE=>?_
  have l0:E.ofN R.length=M:=eh
  have l1:E.ofN R0.length=N:=by rw[hE];exact hN
  have z1:E.lti o 1=false:=sE
  have z2:E.lti 5 o=false:=sE
  have es:E.wsub .i64 M 1=N:=by rw[hE];exact(jX oM oM).trans oM
  have p0:E.ple 0 0:=Bx
  have p1:E.ple 0 N:=by rw[hE];exact hN0
  have p2:E.ple N M:=by rw[hE];show N<=M;omega
  have ct:E.cut R (E.nat 0) (E.nat N)=R0:=by
   rw[hE,<- Mq];show((R0++_).take N.toNat).drop 0=R0;rw[BD,List.take_append_of_le_length oM,iF oM]
  have gN:R[E.nat N]?=some [pI k2,pS n2,pI i2,pI o2,.ro 5 K2]:=by
   rw[hE,<- Mq];show(R0++_)[N.toNat]?=_
   grind
  have e0:E.eq ⟨#[]⟩ ⟨#[]⟩=true:=fH
  have n0:E.ofN 0=0:=fH
  have q0:E.lti 0 0=false:=fH
  first
   |(have e1:E.eq T ⟨#[]⟩=false:=by rw[hE];exact dF dN)
   |skip
  first
   |replace hi:=hc _ _ _ hi
   |skip
  replace hb:=hc _ _ _ hb;replace MH:=hc _ _ _ MH;replace rT:=hc _ _ _ rT;cbv;cbv at l0;cbv at l1;cbv at e0
  first
   |cbv at e1
   |skip
  cbv
  repeat (first|(simp only[z1];try cbv)|(simp only[z2];try cbv)|(simp only[e0];try cbv)|(simp only[e1];try cbv)|(refine⟨_,hi,?_⟩;cbv)|(simp only[d2];try cbv)|(simp only[d5];try cbv)|(simp only[l0];try cbv)|(simp only[dM];try cbv)|(simp only[es];try cbv)|(refine⟨p0,p1,p2,?_⟩;cbv)|(simp only[ct];try cbv)|(simp only[l1];try cbv))
  refine gV 86 [1,2,3,48,49,50] 1 (fun x:Int×List PT=>[.own 0 0,.p (pB false),.p (pI N),.p (.ro 5 R0),.p (pI N),.p (pI x.1)]) (fun _=>[some (.box [.p (pI 11),.p (pS _),.p (pI i),.p (pI o),.p (.ro 5 R)] 25 none)]) (fun x=>lY ps x.1 x.2) μ (0,ps) r5 x0 ?_
  rintro⟨j,l⟩ g1
  simp only at g1;replace hN:((R0.length:Nat):Int)=N:=hN
  cases l with
  |nil=>
   have d1:=g1.stop hE gU hN;clear hE;cbv
   repeat (first|(simp only[d1];try cbv)|(refine⟨p0,p1,p2,?_⟩;cbv)|(simp only[ct];try cbv)|(simp only[l0];try cbv)|(refine⟨_,rT,?_⟩;cbv)|(simp only[es];try cbv)|(refine⟨p1,_,gN,?_⟩;cbv)|(refine⟨_,MH,?_⟩;cbv)|(refine⟨_,hb,?_⟩;cbv))
   all_goals trivial
  |cons z l=>
   obtain⟨j2,k1,i1,o1,n1,K1,hj,hv,f1,f2,f3,f4⟩:=g1.fact hE hz gU hN;have nE:μ (j2,l)<μ (j,z::l):=aX
   have hx:lY ps j2 l:=g1.next hj;have HO:=hf z (aH g1.get)
   cases HO with
   | @par nm hn=>
    obtain⟨g1,g2,g3,g4,g5⟩:=JF hv;subst g1 g3 g4;have gk:=AJ hn.1 hn.2 (.inl rfl) g2 (b:=false);rw[bW]at g5;subst g5;replace gk:=hc _ _ _ gk;clear hE;cbv
    repeat (first|(simp only[f1];try cbv)|(refine⟨f2,_,f4,?_⟩;cbv)|(refine⟨_,gk,?_⟩;cbv)|(simp only[n0];try cbv)|(simp only[q0];try cbv)|(simp only[f3];try cbv))
    exact .mk (j2,l) r5 hx nE
end Go.Proofs.YtjkcdcloomkooaaGreatDoor
