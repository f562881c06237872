/- Own work: walks and laws of the parser and its reference. -/
import Derived.Test.YtjkcdcloomkooaaGreatDoorQXP
namespace Go.Proofs.YtjkcdcloomkooaaGreatDoor
set_option linter.unusedVariables false
set_option linter.unusedSimpArgs false
set_option linter.unusedSectionVars false
set_option maxHeartbeats 4000000
set_option maxRecDepth 100000
def PT.nm:PT->Bs
 | .mk _ s _ _ _=>s
def PT.kids:PT->List PT
 | .mk _ _ _ _ ks=>ks
def rK(n:PT):Bool:=decide (n.kind=24)||(decide (n.kind=25)||decide (n.kind=11))
mutual
def qO:PT->Bool
 | .mk k _ _ _ ks=>if k=28/\ks.length=2 then true else if k=28\/k=29\/k=30\/k=31 then nn ks else false
def nn:List PT->Bool
 |[]=>false
 |x::l=>if l.isEmpty then qO x else nn l
end
def LB:List PT->Bool
 |_::y::_=>qO y
 |_=>false
def kX(c:Cx)(k o:Int)(ks:List PT):Bool:=
 if k=32 then c.fn
 else if k=22 then c.gn
 else if k=23 then c.as_
 else if k=16\/k=17 then(match ks with|x::_=>mb x|[]=>false)
 else if k=12 then(match ks with|x::_=>!(decide (o=5))||(decide (x.kind=18)||decide (x.kind=19))|[]=>false)
 else if k=25 then ks.all fun x=>!x.kids.isEmpty
 else if k=36 then decide (2<=ks.length)
 else if k=11 then qP (rX ks.dropLast)
 else true
mutual
def bJ(c:Cx):PT->Bool
 | .mk k _ _ o ks=>
  if k=33\/k=34 then c.lp
  else if k=28\/k=29\/k=30\/k=31 then !(decide (k=28)&&(decide (ks.length=3)&&LB ks))&&vP c (decide (k≠28)) (if k=30 then 3 else 1) ks
  else kX c k o ks&&eI (if k=11 then nV o else c) ks
def eI(c:Cx):List PT->Bool
 |[]=>true
 |x::l=>bJ c x&&eI c l
def vP(c:Cx)(q:Bool)(fr:Nat):List PT->Bool
 |[]=>true
 |x::l=>if fr=0 then !rK x&&(bJ { c with lp:=c.lp||q } x&&vP c q 0 l)else bJ c x&&vP c q (fr-1) l
end
theorem yP{c:Cx}:∀a b:List PT,eI c (a++b)=(eI c a&&eI c b)
 |[],b=>by simp[eI]
 |x::a,b=>by rw[pD,eI,eI,yP a b,Bool.and_assoc]
structure Hr(t:Tk):Prop where
 a:t.k≠0
 b:t.k=5->t.t ∉ [ol,ru,sy,s8,nu,kr,rq,t7]
 c:t.k=2->gN t.t 24 4=0/\gN t.t 28 2=0
def W(l:Ts):Prop:=∀t∈l,Hr t
theorem W.suf{l l':Ts}(h:W l)(hs:l' <:+ l):W l':=fun t ht=>h t (hs.subset ht)
theorem W.drop{l:Ts}(h:W l)(n:Nat):W (l.drop n):=h.suf (cW _ _)
theorem uZ{l:Ts}{n:Nat}{s s':Bs}(h:aL l n s=true)(hs:s≠s'):aL l n s'=false:=by
 have:=ME h
 unfold aL;rw[this];simp[hs]
theorem Em{l:Ts}{n:Nat}{s:Bs}{k:Int}(h:kd l n=k)(hk:k≠2/\k≠5):aL l n s=false:=by
 unfold aL;rw[h];simp[hk]
theorem Nx{l:Ts}{n:Nat}(h:kd l n≠0):∃t,l[n]?=some t/\kd l n=t.k/\tx l n=t.t:=by
 have:=kJ rfl h
 have e:=aB this;exact⟨_,e,by unfold kd;rw[e],by unfold tx;rw[e]⟩
theorem W.kd0{l:Ts}(h:W l)(hl:l≠[]):kd l 0≠0:=by
 cases l with
 |nil=>exact absurd rfl hl
 |cons t l=>exact(h t (cR ..)).a
theorem W.word{l:Ts}(h:W l){s:Bs}(hi:aL l 0 s=true)(hs:s∈[ol,ru,sy,s8,nu,kr,rq,t7]):kd l 0=2:=by
 rcases XR hi with hk|hk
 ·exact hk
 ·obtain⟨t,ht,h1,h2⟩:=Nx (l:=l) (n:=0) RA
  have hb:=(h t (aJ ht)).b (h1 ▸ hk);rw[<-h2,ME hi]at hb;exact absurd hs hb
theorem W.op{l:Ts}(h:W l)(hk:kd l 0=2):gN (tx l 0) 24 4=0/\gN (tx l 0) 28 2=0:=by
 obtain⟨t,ht,h1,h2⟩:=Nx (l:=l) (n:=0) RA
 rw[h2];exact(h t (aJ ht)).c (h1 ▸ hk)
def Gd(R:RR)(p:RP)(l:Ts)(v:RV)(l':Ts):Prop:=p.run R l false=(v,l',false)
section
variable{R:RR}(hR:∀s l b,nW l b (R s l b)){l l':Ts}{v:RV}
theorem Ce{p:RP}{o:RV×Ts×Bool}(hR:∀s l b,nW l b (R s l b))(h:p.run R l true=o)(ho:o.2.2=false):False:=by
 have:=(yC hR p l true).b rfl
 grind
theorem Gd.ret{v0:RV}(h:Gd R (.ret v0) l v l'):v0=v/\l=l':=by
 unfold Gd at h;rw[RP.run]at h;cases h;exact⟨rfl,rfl⟩
theorem Gd.tail{s:RS}(h:Gd R (.tail s) l v l'):R s l false=(v,l',false):=h
include hR
theorem Gd.call(w:W l){s:RS}{k:PT->RP}(h:Gd R (.call s k) l v l'):∃x l1,R s l false=(x,l1,false)/\l1 <:+ l/\W l1/\Gd R (k x.n) l1 v l':=by
 exact To
theorem Gd.calls(w:W l){s:RS}{k:List PT->RP}(h:Gd R (.calls s k) l v l'):∃x l1,R s l false=(x,l1,false)/\l1 <:+ l/\W l1/\Gd R (k x.s) l1 v l':=by
 exact To
theorem Gd.need(w:W l){s:Bs}{k:RP}(h:Gd R (.need s k) l v l'):aL l 0 s=true/\W (l.drop 1)/\Gd R k (l.drop 1) v l':=by
 exact Hh
omit hR
theorem Gd.take(w:W l){s:Bs}{x y:RP}(h:Gd R (.take s x y) l v l'):(aL l 0 s=true/\W (l.drop 1)/\Gd R x (l.drop 1) v l')\/(aL l 0 s=false/\Gd R y l v l'):=by
 unfold Gd at h;rw[RP.run]at h
 split at h
 ·rename_i hc;exact .inl ⟨hc.2,w.drop 1,h⟩
 ·rename_i hc;exact .inr ⟨by grind,h⟩
theorem Gd.at_{n:Nat}{s:Bs}{x y:RP}(h:Gd R (.at_ n s x y) l v l'):(aL l n s=true/\Gd R x l v l')\/(aL l n s=false/\Gd R y l v l'):=by
 exact Sj
theorem Gd.kdI{n:Nat}{k:Int}{x y:RP}(h:Gd R (.kdI n k x y) l v l'):(kd l n=k/\Gd R x l v l')\/(kd l n≠k/\Gd R y l v l'):=by
 exact T9
include hR
theorem Gd.name(w:W l){k:Bs->RP}(h:Gd R (.name k) l v l'):kd l 0=1/\W (l.drop 1)/\Gd R (k (tx l 0)) (l.drop 1) v l':=by
 exact Hh
theorem Gd.key(w:W l){k:Bs->RP}(h:Gd R (.key k) l v l'):(kd l 0=1\/kd l 0=2)/\W (l.drop 1)/\Gd R (k (tx l 0)) (l.drop 1) v l':=by
 exact Hh
omit hR
theorem Gd.oper(w:W l){fr cnt:Nat}{k:Int->RP}(h:Gd R (.oper fr cnt k) l v l'):((kd l 0=5\/kd l 0=2)/\gN (tx l 0) fr cnt≠0/\W (l.drop 1)/\Gd R (k (gN (tx l 0) fr cnt)) (l.drop 1) v l')\/(((kd l 0=5\/kd l 0=2)->gN (tx l 0) fr cnt=0)/\Gd R (k 0) l v l'):=by
 unfold Gd at h;rw[RP.run]at h
 split at h
 ·rename_i hc;exact .inl ⟨hc.2.1,hc.2.2,w.drop 1,h⟩
 ·rename_i hc;exact .inr ⟨fun hk=>Decidable.byContradiction fun hn=>hc ⟨rfl,hk,hn⟩,h⟩
theorem Gd.bad{x y:RP}(h:Gd R (.bad x y) l v l'):Gd R y l v l':=h
theorem Gd.eof{x y:RP}(h:Gd R (.eof x y) l v l'):(l=[]/\Gd R x l v l')\/(l≠[]/\Gd R y l v l'):=by
 exact T9
theorem Gd.skip(w:W l){n:Nat}{k:RP}(h:Gd R (.skip n k) l v l'):W (l.drop n)/\Gd R k (l.drop n) v l':=⟨w.drop n,h⟩
theorem Gd.ptx{n:Nat}{k:Bs->RP}(h:Gd R (.ptx n k) l v l'):Gd R (k (tx l n)) l v l':=h
theorem Gd.kdv{n:Nat}{k:Int->RP}(h:Gd R (.kdv n k) l v l'):Gd R (k (kd l n)) l v l':=h
theorem Gd.ahead{x y:RP}(h:Gd R (.ahead x y) l v l'):(ki l=true/\Gd R x l v l')\/(ki l=false/\Gd R y l v l'):=by
 exact Sj
include hR
theorem Gd.fail{x:RP}(h:Gd R (.fail x) l v l'):False:=Ce hR h rfl
end
def GG(p:RP)(l:Ts)(v:RV)(l':Ts):Prop:=∃m,∀k,m<=k->p.run (bN k) l false=(v,l',false)
section
variable{l l' l1:Ts}{v:RV}
theorem GG.ret:GG (.ret v) l v l:=⟨0,fun _ _=>rfl⟩
theorem GG.tail{s:RS}(h:GG (gr s) l v l'):GG (.tail s) l v l':=by
 obtain⟨m,h⟩:=h;refine⟨m+1,fun k hk=>?_⟩
 obtain⟨k,rfl⟩:∃j,k=j+1:=⟨k-1,by omega⟩
 exact h k oM
theorem GG.call{s:RS}{k:PT->RP}{x:PT}(h1:GG (gr s) l (.nd x) l1)(h2:GG (k x) l1 v l'):GG (.call s k) l v l':=by
 obtain⟨m1,h1⟩:=GG.tail h1;obtain⟨m2,h2⟩:=h2;refine⟨max m1 m2,fun j hj=>?_⟩
 have e1:bN j s l false=(.nd x,l1,false):=h1 j oM
 rw[RP.run,e1];exact h2 j oM
theorem GG.calls{s:RS}{k:List PT->RP}{x:List PT}(h1:GG (gr s) l (.ls x) l1)(h2:GG (k x) l1 v l'):GG (.calls s k) l v l':=by
 obtain⟨m1,h1⟩:=GG.tail h1;obtain⟨m2,h2⟩:=h2;refine⟨max m1 m2,fun j hj=>?_⟩
 have e1:bN j s l false=(.ls x,l1,false):=h1 j oM
 rw[RP.run,e1];exact h2 j oM
theorem GG.need{w:Bs}{p:RP}(hi:aL l 0 w=true)(h:GG p (l.drop 1) v l'):GG (.need w p) l v l':=by
 exact A3
theorem GG.take_t{w:Bs}{p q:RP}(hi:aL l 0 w=true)(h:GG p (l.drop 1) v l'):GG (.take w p q) l v l':=by
 exact A3
theorem GG.take_f{w:Bs}{p q:RP}(hi:aL l 0 w=false)(h:GG q l v l'):GG (.take w p q) l v l':=by
 obtain⟨m,h⟩:=h;exact⟨m,fun k hk=>by rw[RP.run,aE (fun e=>by rw[hi]at e;cases e.2)];exact h k hk⟩
theorem GG.at_t{n:Nat}{w:Bs}{p q:RP}(hi:aL l n w=true)(h:GG p l v l'):GG (.at_ n w p q) l v l':=by
 exact A2
theorem GG.at_f{n:Nat}{w:Bs}{p q:RP}(hi:aL l n w=false)(h:GG q l v l'):GG (.at_ n w p q) l v l':=by
 exact Sc
theorem GG.kd_t{n:Nat}{q:Int}{p p':RP}(hi:kd l n=q)(h:GG p l v l'):GG (.kdI n q p p') l v l':=by
 exact A2
theorem GG.kd_f{n:Nat}{q:Int}{p p':RP}(hi:kd l n≠q)(h:GG p' l v l'):GG (.kdI n q p p') l v l':=by
 exact Sd
theorem GG.name{k:Bs->RP}(hi:kd l 0=1)(h:GG (k (tx l 0)) (l.drop 1) v l'):GG (.name k) l v l':=by
 exact A3
theorem GG.key{k:Bs->RP}(hi:kd l 0=1\/kd l 0=2)(h:GG (k (tx l 0)) (l.drop 1) v l'):GG (.key k) l v l':=by
 exact A3
theorem GG.op_t{fr cnt:Nat}{k:Int->RP}(hi:kd l 0=5\/kd l 0=2)(hn:gN (tx l 0) fr cnt≠0)(h:GG (k (gN (tx l 0) fr cnt)) (l.drop 1) v l'):GG (.oper fr cnt k) l v l':=by
 obtain⟨m,h⟩:=h;exact⟨m,fun k hk=>by rw[RP.run,aF ⟨rfl,hi,hn⟩];exact h k hk⟩
theorem GG.op_f{fr cnt:Nat}{k:Int->RP}(hn:(kd l 0=5\/kd l 0=2)->gN (tx l 0) fr cnt=0)(h:GG (k 0) l v l'):GG (.oper fr cnt k) l v l':=by
 obtain⟨m,h⟩:=h;exact⟨m,fun k hk=>by rw[RP.run,aE (fun e=>e.2.2 (hn e.2.1))];exact h k hk⟩
theorem GG.bad{p q:RP}(h:GG q l v l'):GG (.bad p q) l v l':=h
theorem GG.eof_t{p q:RP}(hi:l=[])(h:GG p l v l'):GG (.eof p q) l v l':=by
 exact A2
theorem GG.eof_f{p q:RP}(hi:l≠[])(h:GG q l v l'):GG (.eof p q) l v l':=by
 exact Sd
theorem GG.skip{n:Nat}{p:RP}(h:GG p (l.drop n) v l'):GG (.skip n p) l v l':=h
theorem GG.ptx{n:Nat}{p:Bs->RP}(h:GG (p (tx l n)) l v l'):GG (.ptx n p) l v l':=h
theorem GG.kdv{n:Nat}{p:Int->RP}(h:GG (p (kd l n)) l v l'):GG (.kdv n p) l v l':=h
theorem GG.ah_t{p q:RP}(hi:ki l=true)(h:GG p l v l'):GG (.ahead p q) l v l':=by
 exact A2
theorem GG.ah_f{p q:RP}(hi:ki l=false)(h:GG q l v l'):GG (.ahead p q) l v l':=by
 exact Sc
end
def Rv.n:Rv->PT
 | .nd x=>x
 | .nb x _=>x
 | .ls _=>.mk 0 [] 0 0 []
def Rv.s:Rv->List PT
 | .ls l=>l
 |_=>[]
def MX:List Bs:=[ol,ru,sy,s8,nu,kr,rq,t7]
def OT:RP:=.call .chain fun x=>.oper 28 2 fun q=>if q=0 then iR x else iR (fR 17 (q+100) [x])
def Fm:RP:=.call (.lv 0) fun x=>.take Cc (.call .assign fun y=>.need yq (.call .assign fun z=>vq (nd 15 [x,y,z]))) (vq x)
theorem yL{x:PT}:(Rv.nd x).n=x:=rfl
theorem fj{x:PT}{b:Bool}:(Rv.nb x b).n=x:=rfl
theorem YP{x:List PT}:(Rv.ls x).s=x:=rfl
theorem Qc{x:PT}{b:Bool}:(Rv.nb x b).ok=b:=rfl
def yk(x:PT)(l:Ts):Prop:=qO x=true->aL l 0 LC=false
theorem KT{x:PT}{l:Ts}(h:x.kind≠28/\x.kind≠29/\x.kind≠30/\x.kind≠31):yk x l:=fun ht=>by
 cases x with
 |mk k nm i o ks=>
  replace h:k≠28/\k≠29/\k≠30/\k≠31:=h;rw[qO]at ht;simp[h]at ht
structure zy(c:Cx)(p:RP)(l:Ts)(x:PT)(l':Ts):Prop where
 g:GG p l (.nd x) l'
 r:bJ c x=true
 e:yk x l'
def oG(v:Rv)(l':Ts):Sy->Prop
 | .stmt c l=>zy c sx l v.n l'/\(tJ l=false->rK v.n=false)
 | .keyw c l=>(v.ok=true->zy c ye l v.n l'/\rK v.n=false)/\(v.ok=false->l'=l/\∀w∈MX,aL l 0 w=false)
 | .condn c l=>aL l 0 jD=true/\bJ c v.n=true/\∃l1,GG HO (l.drop 1) (.nd v.n) l1/\aL l1 0 eG=true/\l'=l1.drop 1
 | .inner c l=>zy c sx l v.n l'/\rK v.n=false
 | .body c l=>zy { c with lp:=true } sx l v.n l'/\rK v.n=false
 | .loops c l=>zy c (gr .loop) l v.n l'/\rK v.n=false
 | .tryS c l=>GG vo l (.nd v.n) l'/\bJ c v.n=true/\v.n.kind=36
 | .decl c l=>∃k,((k=25/\aL l 0 qC=true)\/(k=24/\aL l 0 qC=false))/\GG (gr (.decls k)) (l.drop 1) (.nd v.n) l'/\bJ c v.n=true/\v.n.kind=k
 | .declL k acc c l=>(k=24\/k=25)->bJ c (nd k acc)=true->GG (VL k acc) l (.nd v.n) l'/\bJ c v.n=true/\v.n.kind=k
 | .block c l=>GG (gr .block) l (.nd v.n) l'/\bJ c v.n=true/\v.n.kind=27
 | .blockL acc c l=>eI c acc=true->∃ks l1,v.n=nd 27 ks/\GG (YQ acc) l (.ls ks) l1/\aL l1 0 uC=true/\l'=l1.drop 1/\eI c ks=true
 | .func d c l=>GG (NE d) l (.nd v.n) l'/\bJ c v.n=true/\v.n.kind=11/\(aL l 0 iW=true->aL l 1 vA=true)
 | .arrow c l=>GG (gr .arrow) l (.nd v.n) l'/\bJ c v.n=true
 | .assign c l=>GG HO l (.nd v.n) l'/\bJ c v.n=true
 | .cond c l=>bJ c v.n=true/\∀w l2,GG (vq v.n) l' w l2->GG Fm l w l2
 | .opnd k c l=>GG (mj k) l (.nd v.n) l'/\bJ c v.n=true
 | .opndL k n c l=>bJ c n=true->GG (gr (.lvL k n)) l (.nd v.n) l'/\bJ c v.n=true
 | .unary c l=>GG VO l (.nd v.n) l'/\bJ c v.n=true
 | .postf c l=>GG OT l (.nd v.n) l'/\bJ c v.n=true
 | .link n c l=>(v.ok=false->v.n=n/\l'=l/\aL l 0 CT=false/\aL l 0 uD=false)/\(v.ok=true->bJ c n=true->bJ c v.n=true/\(∀w l2,GG (BV v.n) l' w l2->GG (BV n) l w l2)/\∀w l2,GG (GQ v.n) l' w l2->GG (GQ n) l w l2)
 | .chain c l=>GG (gr .chain) l (.nd v.n) l'/\bJ c v.n=true
 | .chainN n c l=>bJ c n=true->GG (GQ n) l (.nd v.n) l'/\bJ c v.n=true
 | .chainL n c l=>bJ c n=true->GG (BV n) l (.nd v.n) l'/\bJ c v.n=true
 | .list2 e c l=>e≠rY->GG (gr (.list e)) l (.ls v.s) l'/\eI c v.s=true
 | .list2L e acc c l=>e≠rY->eI c acc=true->GG (BF e acc) l (.ls v.s) l'/\eI c v.s=true
 | .prim c l=>GG YK l (.nd v.n) l'/\bJ c v.n=true
 | .fields c l=>GG (gr .obj) l (.nd (nd 10 v.s)) l'/\eI c v.s=true
 | .fieldsL acc c l=>eI c acc=true->GG (vp acc) l (.nd (nd 10 v.s)) l'/\eI c v.s=true
 | .field c l=>GG VN l (.nd v.n) l'/\bJ c v.n=true
def Tq(R:Sy->Re Rv):Prop:=∀s v l',R s=some (some (v,l'))->W s.l->W l'/\oG v l' s
section
variable{R:Sy->Re Rv}{l:Ts}{r:Rv×Ts}
theorem Ec{n:Nat}{s:Bs}(h:aL l n s=true):l≠[]:=fun e=>by subst e;simp[aL,kd]at h
theorem PI{k:Int}(h:kd l 0=k)(hk:k≠0):l≠[]:=fun e=>by subst e;exact hk h.symm
theorem xge(h:¬kd l 0=0):l≠[]:=fun e=>by subst e;exact h rfl
theorem W.nokey(w:W l)(h:¬kd l 0=2):∀s∈MX,aL l 0 s=false:=fun s hs=>by
 cases hi:aL l 0 s with
 |false=>rfl
 |true=>exact absurd (w.word hi hs) h
theorem Nr{s:Bs}{fr cnt:Nat}(h:gN s fr cnt≠0):∃j,j<cnt/\zQ[fr+j]?=some s:=by
 unfold gN at h
 split at h
 ·rename_i j hj;have h1:=List.find?_some hj;exact⟨j,cC.1 (List.mem_of_find?_eq_some hj),oT h1⟩
 ·exact absurd (Eq.refl _) h
theorem Pz{s:Bs}(h:gN s 28 2≠0):gN s 1 5=0/\s≠LF:=by
 obtain⟨j,hj,e⟩:=Nr h
 have:j=0\/j=1:=dU
 rcases this with rfl|rfl<;>(cases e;decide)
theorem QC{s:Bs}(h:gN s 1 5≠0):gN s 28 2=0/\s≠LF:=by
 obtain⟨j,hj,e⟩:=Nr h
 have:j=0\/j=1\/j=2\/j=3\/j=4:=dU
 rcases this with rfl|rfl|rfl|rfl|rfl<;>(cases e;decide)
theorem E9{n:Nat}{s:Bs}(h:¬tx l n=s):aL l n s=false:=by unfold aL;simp[h]
theorem xg0{n:Nat}{s:Bs}(h:¬kd l n=5)(h':¬kd l n=2):aL l n s=false:=by unfold aL;simp[h,h']
theorem Nw{n:Nat}{s:Bs}(h:tx l n=s)(hk:kd l n=5\/kd l n=2):aL l n s=true:=by
 unfold aL;rw[h]
 rcases hk with hk|hk<;>rw[hk]<;>simp
theorem Ot{l:Ts}:∀(m n:Nat),l.length<n+m->(match ve l m n with
  |some k=>aL l k eG&&aL l (k+1) qX
  |none=>false)=(if aL l n eG=true then aL l (n+1) qX else nr l m n)
 |0,n,h=>by
  have h0:aL l n eG=false:=by
   cases hi:aL l n eG with
   |false=>rfl
   |true=>have:=nH hi;omega
  rw[ve,nr,h0];rfl
 |m+1,n,h=>by
  rw[ve,nr]
  by_cases h1:kd l n=1
  ·have h0:aL l n eG=false:=Em h1 aT
   rw[aF h1,aF h1,h0];simp only[aM,bT]
   by_cases h2:aL l (n+1) rY=true
   ·have h3:aL l (n+1) eG=false:=uZ h2 aT
    rw[aF h2,aF h2,h3];simp only[aM,bT]
    by_cases h4:kd l (n+2)=1
    ·rw[aF h4,Ot m (n+2) oM]
     have h5:aL l (n+2) eG=false:=Em h4 aT
     rw[h5];rfl
    ·rw[aE h4]
     cases m with
     |zero=>rfl
     |succ m=>rw[nr,aE h4]
   ·rw[aE h2,aE h2];show(aL l (n+1) eG&&aL l (n+2) qX)=_
    cases aL l (n+1) eG<;>rfl
  ·rw[aE h1,aE h1];show(aL l n eG&&aL l (n+1) qX)=_
   cases aL l n eG<;>rfl
theorem VI(l:Ts):decide (0<oa l)=ki l:=by
 unfold oa ki;generalize (if aL l 0 iW=true then 1 else 0)=n0
 by_cases h1:kd l n0=1
 ·rw[aF h1,aF h1]
  cases aL l (n0+1) qX<;>simp
 ·rw[aE h1,aE h1]
  by_cases h2:aL l n0 jD=true
  ·have:=Ot (l:=l) (l.length+1) (n0+1) oM
   rw[aF h2,aF h2,<- this]
   cases ve l (l.length+1) (n0+1)with
   |none=>rfl
   |some k=>
    simp only
    split
    ·rename_i hq;rw[hq];simp
    ·rename_i hq;simpa using hq
  ·rw[aE h2,aE h2];rfl
theorem QP{l:Ts}(h:0<oa l):ki l=true:=by rw[<-VI];exact aA h
theorem QR{l:Ts}(h:¬0<oa l):ki l=false:=by rw[<-VI];exact dF h
theorem yc:l.drop 2=(l.drop 1).drop 1:=by rw[yS]
theorem ZA:kd l 1=kd (l.drop 1) 0:=by unfold kd;rw[dI]
theorem F0:tx l 1=tx (l.drop 1) 0:=by unfold tx;rw[dI]
theorem zh{s:Bs}:aL l 1 s=aL (l.drop 1) 0 s:=by unfold aL;rw[ZA,F0]
theorem zU{s:Bs}{k:Ts->Re Rv}(h:eZ s l k=some (some r))(w:W l):aL l 0 s=true/\W (l.drop 1)/\k (l.drop 1)=some (some r):=by
 unfold eZ at h
 split at h
 ·rename_i hc;exact⟨hc,w.drop 1,h⟩
 ·cases h
theorem Py{k:Bs->Ts->Re Rv}(h:pZ l k=some (some r))(w:W l):kd l 0=1/\W (l.drop 1)/\k (tx l 0) (l.drop 1)=some (some r):=by
 unfold pZ at h
 split at h
 ·rename_i hc;exact⟨hc,w.drop 1,h⟩
 ·cases h
theorem vz{α:Type}{x:Re α}{k:α->Ts->Re Rv}(h:bnd x k=some (some r)):∃a l1,x=some (some (a,l1))/\k a l1=some (some r):=by
 match x,h with
 |some (some (a,l1)),h=>exact⟨a,l1,rfl,h⟩
theorem pF(ih:Tq R){s:Sy}{k:PT->Ts->Re Rv}(h:ndR (R s) k=some (some r))(w:W s.l):∃n l1,W l1/\oG (.nd n) l1 s/\k n l1=some (some r):=by
 obtain⟨a,l1,e,h⟩:=vz h;have t:=ih _ _ _ e w
 cases a with
 |nd n=>exact⟨n,l1,t.1,t.2,h⟩
 |nb n b=>cases h
 |ls n=>cases h
theorem Gf(ih:Tq R){s:Sy}{k:PT->Bool->Ts->Re Rv}(h:nbR (R s) k=some (some r))(w:W s.l):∃n b l1,W l1/\oG (.nb n b) l1 s/\k n b l1=some (some r):=by
 obtain⟨a,l1,e,h⟩:=vz h;have t:=ih _ _ _ e w
 cases a with
 |nb n b=>exact⟨n,b,l1,t.1,t.2,h⟩
 |nd n=>cases h
 |ls n=>cases h
theorem Gg(ih:Tq R){s:Sy}{k:List PT->Ts->Re Rv}(h:lsR (R s) k=some (some r))(w:W s.l):∃n l1,W l1/\oG (.ls n) l1 s/\k n l1=some (some r):=by
 obtain⟨a,l1,e,h⟩:=vz h;have t:=ih _ _ _ e w
 cases a with
 |ls n=>exact⟨n,l1,t.1,t.2,h⟩
 |nd n=>cases h
 |nb n b=>cases h
theorem lE{c:Prop} [Decidable c] {x y:Re Rv} (h:(if c then x else y)=some (some r)):(c/\x=some (some r))\/(¬c/\y=some (some r)):=by
 split at h
 ·exact .inl ⟨by assumption,h⟩
 ·exact .inr ⟨by assumption,h⟩
theorem pE{a v:Rv}{l':Ts}(h:bR a l=some (some (v,l'))):a=v/\l=l':=by cases h;exact⟨rfl,rfl⟩
theorem Lw(h:(qY:Re Rv)=some (some r)):False:=by cases h
theorem Ks:∀(n:Nat)(acc:List PT)(l:Ts){ps:List PT}{l1:Ts},W l->namesL n acc l=some (some (ps,l1))->(∀c,eI c acc=true)->W l1/\GG (BT acc) l (.ls ps) l1/\qP (rX ps)=true/\∀c,eI c ps=true
 |0,_,_,_,_,_,h,_=>by cases h
 |n+1,acc,l,ps,l1,w,h,hr=>by
  rw[namesL]at h;unfold pZ at h;have hx:∀s c,eI c (acc++[dV 7 s []])=true:=fun s c=>by rw[yP,hr c];simp[eI,bJ,dV,kX]
  split at h
  ·rename_i hk;simp only at h
   split at h
   ·rename_i hp
    split at h
    ·rename_i hd
     cases h
     exact⟨(w.drop 1).drop 1,.bad (.name hk (.take_f (uZ hp aT) (.need hp .ret))),hd,hx _⟩
    ·cases h
   ·rename_i hp;unfold eZ at h
    split at h
    ·rename_i hm;obtain⟨h1,h2,h3,h4⟩:=Ks n _ _ ((w.drop 1).drop 1) h (hx _);exact⟨h1,.bad (.name hk (.take_t hm (.tail h2))),h3,h4⟩
    ·cases h
  ·cases h
theorem xhe{k:List PT->Ts->Re Rv}(h:bnd (uQ l) k=some (some r))(w:W l):∃ps l1,W l1/\GG (gr .names) l (.ls ps) l1/\qP (rX ps)=true/\(∀c,eI c ps=true)/\k ps l1=some (some r):=by
 obtain⟨ps,l1,e,h⟩:=vz h;unfold uQ eZ at e
 split at e
 ·rename_i hi;simp only at e
  split at e
  ·rename_i hp
   cases e
   exact⟨_,_,(w.drop 1).drop 1,.need hi (.take_t hp .ret),rfl,fun _=>rfl,h⟩
  ·rename_i hp;obtain⟨h1,h2,h3,h4⟩:=Ks _ _ _ (w.drop 1) e fun _=>rfl
   exact⟨_,_,h1,.need hi (.take_f (by simpa using hp) (.tail h2)),h3,h4,h⟩
 ·cases e
end
theorem GG.if_t{c:Prop} [Decidable c] {p q:RP} {l l':Ts} {v:RV} (hc:c) (h:GG p l v l'):GG (if c then p else q) l v l':=by rwa[aF hc]
theorem GG.if_f{c:Prop} [Decidable c] {p q:RP} {l l':Ts} {v:RV} (hc:¬c) (h:GG q l v l'):GG (if c then p else q) l v l':=by rwa[aE hc]
theorem zK{p:Prop} (hp:p:=by
 first
  |assumption
  |exact uZ mI aT
  |exact Em mI aT
  |exact rfl
  |exact E9 mI
  |exact Nw mI (by first|exact .inl mI|exact .inr mI|fail)
  |exact xg0 mI mI
  |exact E9 (iQ (Pz mI).2).symm
  |exact E9 (iQ (QC mI).2).symm
  |exact .inl mI
  |exact .inr mI
  |exact fun _=>(Pz mI).1
  |exact fun hk=>hk.elim (fun e=>absurd e mI) fun e=>absurd e mI
  |exact Ec mI
  |exact PI mI aT
  |exact xge mI
  |exact hw _ aT
  |exact fun _=>by assumption
  |exact fun hk=>hk.elim (fun e=>absurd e mI) fun e=>(w.op e).1
  |exact fun hk=>hk.elim (fun e=>absurd e mI) fun e=>(w.op e).2
  |(simp_all;all_goals fail)):p:=hp
theorem zB{p:Prop} (hp:p:=by
 repeat' (first
  |assumption
  |exact GG.ret
  |exact GG.tail mI
  |refine GG.bad ?_
  |refine GG.need zK ?_
  |refine GG.name zK ?_
  |refine GG.key zK ?_
  |refine GG.take_t zK ?_
  |refine GG.take_f zK ?_
  |refine GG.at_t zK ?_
  |refine GG.at_f zK ?_
  |refine GG.call mI ?_
  |refine GG.calls mI ?_
  |refine GG.ah_t mI ?_
  |refine GG.ah_f mI ?_
  |refine GG.if_t zK ?_
  |refine GG.if_f mI ?_
  |refine GG.op_t zK mI ?_
  |refine GG.op_f zK ?_
  |refine t _ _ ?_
  |refine GG.skip ?_
  |refine GG.ptx ?_
  |refine GG.kdv ?_
  |refine GG.eof_f zK ?_
  |refine GG.eof_t mI ?_
  |refine GG.kd_t zK ?_
  |refine GG.kd_f zK ?_
  |refine GG.tail ?_
  |fail)
 all_goals fail):p:=hp
theorem KW{c:Cx}{nm:Bs}{i o:Int}{ps:List PT}{b:PT}:bJ c (.mk 11 nm i o (ps++[b]))=(qP (rX ps)&&(eI (nV o) ps&&bJ (nV o) b)):=by
 rw[bJ,aE aT,aE aT,yP]
 simp[kX,eI]
theorem xes{c:Cx}{o:Int}{x:PT}(h:¬(o=5/\¬x.kind=18/\¬x.kind=19))(r:bJ c x=true):bJ c (fR 12 o [x])=true:=by
 simp[fR,bJ,kX,eI,r];omega
theorem zR{p:Prop} (hp:p:=by
 first
  |exact xes mI mI
  |(simp only[fR];rw[KW];simp[bJ,eI,kX,nd,dV,rX,qP, *];all_goals fail)
  |(simp only[fR];rw[KW];simp_all[bJ,eI,kX,nd,dV,rX,qP,nV];all_goals fail)
  |(simp[bJ,eI,vP,yP,kX,nd,dV,fR,PT.kids,qO,nn,LB,rK,PT.kind,yk,mb, *];all_goals fail)
  |(simp_all[bJ,eI,vP,yP,kX,nd,dV,fR,PT.kids,qO,nn,LB,rK,PT.kind,yk,mb];all_goals fail)):p:=hp
theorem zW{p:Prop}(hp:p:=by first|exact w|exact w.drop _|exact(w.drop _).drop _|exact((w.drop _).drop _).drop _|fail):p:=hp
theorem zS{p:Prop} (hp:p:=by
 repeat' (first
  |(have AN:=And.left hc;have hc3:=And.right hc;clear hc)
  |(cases hc with|inl hc=>_|inr hc=>_)
  |(with_reducible have z:=lE h
    clear h
    rcases z with⟨hc,h⟩|⟨hc,h⟩<;>try simp only[tJ,nG,bG,dJ,gH,wZ,bF,lL,AZ,ne_eq,jw]at hc)
  |(with_reducible have z:=pE h
    clear h;obtain⟨rfl,rfl⟩:=z)
  |(with_reducible exact(Lw h).elim)
  |(with_reducible have z:=zU h
    clear h;obtain⟨hi,w,h⟩:=z zW)
  |(with_reducible have z:=Py h
    clear h;obtain⟨hi,w,h⟩:=z zW)
  |(with_reducible have z:=xhe h
    clear h;obtain⟨ps,l1,w,g,hd,rr,h⟩:=z zW)
  |(with_reducible have z:=pF ih h
    clear h
    first
     |(obtain⟨x,l1,w,⟨k,⟨rfl,hk⟩|⟨rfl,hk⟩,g,r,t⟩,h⟩:=z zW<;>clear z)
     |(obtain⟨x,l1,w,⟨⟨g,r,e⟩,t⟩,h⟩:=z zW;clear z)
     |(obtain⟨x,l1,w,⟨g,r,t⟩,h⟩:=z zW;clear z)
     |(obtain⟨x,l1,w,⟨g,r⟩,h⟩:=z zW;clear z))
  |(with_reducible have z:=Gg ih h
    clear h;obtain⟨x,l1,w,t,h⟩:=z zW;clear z
    first
     |(have t2:=t aT;clear t;obtain⟨g,r⟩:=t2)
     |(have t2:=t mI;clear t;obtain⟨g,r⟩:=t2)
     |obtain⟨g,r⟩:=t)
  |(have z:=ih _ _ _ h zW
    clear h;obtain⟨w,z⟩:=z
    first
     |obtain⟨⟨g,r,e⟩,t⟩:=z
     |obtain⟨g,r,t⟩:=z
     |obtain⟨g,r⟩:=z)
  |fail)
 all_goals try simp only[yL,fj,YP,Qc]at *
 all_goals refine⟨zW,?_⟩
 all_goals simp only[oG,yL,fj,YP,Qc]
 all_goals repeat' (first
  |assumption
  |(intro p)
  |(refine zy.mk ?_ ?_ ?_)
  |(refine And.intro ?_ ?_)
  |exact⟨_,zB,zK,rfl⟩
  |exact zB
  |exact zR
  |fail)
 all_goals fail):p:=hp
section
variable{R:Sy->Re Rv}{r:Rv×Ts}{v:Rv}{l':Ts}
theorem xbg(ih:Tq R){c:Cx}{l:Ts}(w:W l)(h:nv R c l=some (some (v,l'))):W l'/\oG v l' (.condn c l):=by
 unfold nv at h;exact zS
theorem xfi(ih:Tq R){c:Cx}{l:Ts}(w:W l)(h:nj R c l=some (some (v,l'))):W l'/\oG v l' (.tryS c l):=by
 unfold nj s7 at h;simp only[zh,yc]at h;exact zS
theorem xfo(ih:Tq R){d:Bool}{c:Cx}{l:Ts}(w:W l)(h:yA R d c l=some (some (v,l'))):W l'/\oG v l' (.func d c l):=by
 unfold yA at h
 cases hA:aL l 0 iW<;>simp only[hA,aM,fE,bT,show decide ((1:Int)=1)=true from rfl,show decide ((4:Int)=1)=false from rfl,bP,cD]at h
 all_goals
  have z:=zU h zW;clear h;obtain⟨hi,w,h⟩:=z;have h1:kd (l.drop 1) 0=kd l 1:=ZA.symm
 ·cases hS:aL (l.drop 1) 0 o7<;>simp only[hS,aM,fE,bT]at h
  all_goals cases d<;>exact zS
 ·have hk:aL l 1 vA=true:=zh.trans hi
  cases d<;>exact zS
theorem xbj(ih:Tq R){c:Cx}{l:Ts}(w:W l)(h:bp R c l=some (some (v,l'))):W l'/\oG v l' (.arrow c l):=by
 unfold bp at h
 cases hA:aL l 0 iW<;>simp only[hA,aM,fE,bT]at h
 all_goals
  exact zS
theorem xbe(ih:Tq R){c:Cx}{l:Ts}(w:W l)(h:uz R c l=some (some (v,l'))):W l'/\oG v l' (.field c l):=by
 unfold uz at h;simp only[zh,yc]at h
 rcases dP (kd l 0=1)with hk|hk
 all_goals
  exact zS
theorem xfk(ih:Tq R){c:Cx}{l:Ts}(w:W l)(h:va R c l=some (some (v,l'))):W l'/\oG v l' (.prim c l):=by
 unfold va at h;exact zS
end
section
variable{R:Sy->Re Rv}{r:Rv×Ts}{v:Rv}{l':Ts}
theorem xbd(ih:Tq R){c:Cx}{l:Ts}(w:W l)(h:yv R c l=some (some (v,l'))):W l'/\oG v l' (.inner c l):=by
 rcases lE h with⟨hc,h⟩|⟨hc,h⟩
 ·exact zv
 ·obtain⟨w1,t,d⟩:=ih _ _ _ h w;exact⟨w1,t,d mq⟩
theorem xfr(ih:Tq R){c:Cx}{l:Ts}(w:W l)(h:BH R c l=some (some (v,l'))):W l'/\oG v l' (.body c l):=by
 exact ih (.inner { c with lp:=true } l) _ _ h w
theorem z6m(ih:Tq R){c:Cx}{l:Ts}(w:W l)(h:yy R c l=some (some (v,l'))):W l'/\oG v l' (.fields c l):=by
 rcases lE h with⟨hc,h⟩|⟨hc,h⟩
 ·exact zS
 ·obtain⟨w1,t⟩:=ih _ _ _ h w;obtain⟨g,r⟩:=t rfl;exact⟨w1,.take_f mq (.tail g),r⟩
theorem z10(ih:Tq R){acc:List PT}{c:Cx}{l:Ts}(w:W l)(h:ze R acc c l=some (some (v,l'))):W l'/\oG v l' (.fieldsL acc c l):=by
 obtain⟨x,l1,w,⟨g,r⟩,h⟩:=pF ih h w;have rr:eI c acc=true->eI c (acc++[x])=true:=fun p=>by rw[yP,p];simp[eI];exact r
 rcases lE h with⟨hc,h⟩|⟨hc,h⟩
 ·obtain⟨rfl,rfl⟩:=pE h;exact⟨w.drop 1,fun p=>⟨.bad (.call g (.take_f (uZ hc aT) (.need hc .ret))),rr p⟩⟩
 ·obtain⟨hi,w,h⟩:=zU h w;obtain⟨w1,t⟩:=ih _ _ _ h w;exact⟨w1,fun p=>⟨.bad (.call g (.take_t hi (.tail (t (rr p)).1))),(t (rr p)).2⟩⟩
theorem xbc(ih:Tq R){e:Bs}{c:Cx}{l:Ts}(w:W l)(h:s9 R e c l=some (some (v,l'))):W l'/\oG v l' (.list2 e c l):=by
 rcases lE h with⟨hc,h⟩|⟨hc,h⟩
 ·obtain⟨rfl,rfl⟩:=pE h;exact⟨w.drop 1,fun _=>⟨.take_t hc .ret,rfl⟩⟩
 ·obtain⟨w1,t⟩:=ih _ _ _ h w;exact⟨w1,fun he=>⟨.take_f mq (.tail (t he rfl).1),(t he rfl).2⟩⟩
theorem z6l(ih:Tq R){e:Bs}{acc:List PT}{c:Cx}{l:Ts}(w:W l)(h:sj R e acc c l=some (some (v,l'))):W l'/\oG v l' (.list2L e acc c l):=by
 obtain⟨x,l1,w,⟨g,r⟩,h⟩:=pF ih h w;have rr:eI c acc=true->eI c (acc++[x])=true:=fun p=>by rw[yP,p];simp[eI];exact r
 rcases lE h with⟨hc,h⟩|⟨hc,h⟩
 ·obtain⟨rfl,rfl⟩:=pE h;exact⟨w.drop 1,fun he p=>⟨.bad (.call g (.take_f (uZ hc he) (.need hc .ret))),rr p⟩⟩
 ·obtain⟨hi,w,h⟩:=zU h w;obtain⟨w1,t⟩:=ih _ _ _ h w;exact⟨w1,fun he p=>⟨.bad (.call g (.take_t hi (.tail (t he (rr p)).1))),(t he (rr p)).2⟩⟩
theorem xbi(ih:Tq R){c:Cx}{l:Ts}(w:W l)(h:ry R c l=some (some (v,l'))):W l'/\oG v l' (.block c l):=by
 obtain⟨hi,w,h⟩:=zU h w;obtain⟨w1,t⟩:=ih _ _ _ h w;obtain⟨ks,l1,hv,g,hc,rfl,r⟩:=t rfl;refine⟨w1,?_⟩;simp only[oG,hv];exact⟨.need hi (.calls (.tail g) (.need hc .ret)),by exact r,rfl⟩
theorem z6p(ih:Tq R){acc:List PT}{c:Cx}{l:Ts}(w:W l)(h:sp R acc c l=some (some (v,l'))):W l'/\oG v l' (.blockL acc c l):=by
 rcases lE h with⟨hc,h⟩|⟨hc,h⟩
 ·obtain⟨rfl,rfl⟩:=pE h;exact⟨w.drop 1,fun p=>⟨acc,l,rfl,.bad (.eof_f (Ec hc) (.at_t hc .ret)),hc,rfl,p⟩⟩
 ·rcases lE h with⟨hl,h⟩|⟨hl,h⟩
  ·exact zv
  ·obtain⟨x,l1,w,⟨⟨g,r,e⟩,t⟩,h⟩:=pF ih h w;obtain⟨w1,t⟩:=ih _ _ _ h w;refine⟨w1,fun p=>?_⟩
   obtain⟨ks,l2,h1,h2,h3,h4,h5⟩:=t (by rw[yP,p];simp[eI];exact r)
   exact⟨ks,l2,h1,.bad (.eof_f hl (.at_f mq (.call g (.tail h2)))),h3,h4,h5⟩
theorem xfp(ih:Tq R){c:Cx}{l:Ts}(w:W l)(h:BM R c l=some (some (v,l'))):W l'/\oG v l' (.decl c l):=by
 unfold BM at h
 cases hB:aL l 0 qC
 all_goals
  simp only[hB,aM,fE,bT]at h;obtain⟨w1,t⟩:=ih _ _ _ h (w.drop 1)
 ·obtain⟨g,r,hk⟩:=t (.inl rfl) (by rfl)
  exact⟨w1,24,.inr ⟨rfl,hB⟩,.tail g,r,hk⟩
 ·obtain⟨g,r,hk⟩:=t (.inr rfl) (by rfl)
  exact⟨w1,25,.inl ⟨rfl,hB⟩,.tail g,r,hk⟩
theorem xbf(ih:Tq R){k:Int}{acc:List PT}{c:Cx}{l:Ts}(w:W l)(h:rv R k acc c l=some (some (v,l'))):W l'/\oG v l' (.declL k acc c l):=by
 obtain⟨hi,w,h⟩:=Py h w;have hx:∀{d:PT},bJ c d=true->(k=25->d.kids≠[])->(k=24\/k=25)->bJ c (nd k acc)=true->bJ c (nd k (acc++[d]))=true:=fun{d} hd hk k2 p=>by
  rcases k2 with rfl|rfl
  ·simp[nd,bJ,kX,yP,eI]at p ⊢;exact⟨p,hd⟩
  ·simp[nd,bJ,kX,yP,eI]at p ⊢
   grind
 simp only at h;have hy:∀{d:PT}{l2:Ts},W l2->bJ c d=true->(k=25->d.kids≠[])->(if aL l2 0 rY=true then R (.declL k (acc++[d]) c (l2.drop 1))else bR (.nd (nd k (acc++[d]))) l2)=some (some (v,l'))->W l'/\((k=24\/k=25)->bJ c (nd k acc)=true->GG (NB k acc d) l2 (.nd v.n) l'/\bJ c v.n=true/\v.n.kind=k):=fun{d l2} w2 hd hk h=>by
  rcases lE h with⟨hc,h⟩|⟨hc,h⟩
  ·obtain⟨w1,t⟩:=ih _ _ _ h (w2.drop 1);refine⟨w1,fun k2 p=>?_⟩
   obtain⟨g,r,hk⟩:=t k2 (hx hd hk k2 p);exact⟨.take_t hc (.tail g),r,hk⟩
  ·obtain⟨rfl,rfl⟩:=pE h;exact⟨w2,fun k2 p=>⟨.take_f mq .ret,hx hd hk k2 p,rfl⟩⟩
 rcases lE h with⟨hc,h⟩|⟨hc,h⟩
 ·obtain⟨x,l1,w,⟨g,r⟩,h⟩:=pF ih h (w.drop 1);obtain⟨w1,t⟩:=hy w (d:=dV 40 (tx l 0) [x]) (by simp[dV,bJ,kX,eI];exact r) (fun _=>by simp[dV,PT.kids]) h
  exact⟨w1,fun k2 p=>⟨.name hi (.take_t hc (.call g (t k2 p).1)),(t k2 p).2⟩⟩
 ·rcases lE h with⟨hk,h⟩|⟨hk,h⟩
  ·exact zv
  ·obtain⟨w1,t⟩:=hy w (d:=dV 40 (tx l 0) []) (by simp[dV,bJ,kX,eI]) (fun e=>absurd e hk) h
   exact⟨w1,fun k2 p=>⟨.name hi (.take_f mq (t k2 p).1),(t k2 p).2⟩⟩
theorem xa8(ih:Tq R){c:Cx}{l:Ts}(w:W l)(h:ny R c l=some (some (v,l'))):W l'/\oG v l' (.unary c l):=by
 unfold ny at h;exact zS
theorem xa9(ih:Tq R){c:Cx}{l:Ts}(w:W l)(h:v8 R c l=some (some (v,l'))):W l'/\oG v l' (.postf c l):=by
 unfold v8 at h;exact zS
theorem xfl(ih:Tq R){k:Nat}{c:Cx}{l:Ts}(w:W l)(h:yo R k c l=some (some (v,l'))):W l'/\oG v l' (.opnd k c l):=by
 rcases lE h with⟨hc,h⟩|⟨hc,h⟩
 ·obtain⟨w1,g,r⟩:=ih _ _ _ h w;exact⟨w1,.if_t hc (.tail g),r⟩
 ·obtain⟨x,l1,w,⟨g,r⟩,h⟩:=pF ih h w;obtain⟨w1,t⟩:=ih _ _ _ h w;exact⟨w1,.if_f hc (.call g (.tail (t r).1)),(t r).2⟩
theorem xba(ih:Tq R){k:Nat}{n:PT}{c:Cx}{l:Ts}(w:W l)(h:s5 R k n c l=some (some (v,l'))):W l'/\oG v l' (.opndL k n c l):=by
 rcases lE h with⟨hc,h⟩|⟨hc,h⟩
 ·replace hc:kd l 0=5\/kd l 0=2:=mq
  rcases lE h with⟨hf,h⟩|⟨hf,h⟩
  ·obtain⟨rfl,rfl⟩:=pE h;exact⟨w,fun p=>⟨.op_f (fun _=>hf) (.if_t rfl .ret),p⟩⟩
  ·obtain⟨x,l1,w,⟨g,r⟩,h⟩:=pF ih h (w.drop 1);obtain⟨w1,t⟩:=ih _ _ _ h w;refine⟨w1,fun p=>?_⟩
   obtain⟨g2,r2⟩:=t (by split<;>simp[fR,bJ,kX,eI,p]<;>exact r)
   exact⟨.op_t hc hf (.if_f hf (.call g (.tail g2))),r2⟩
 ·replace hc:¬(kd l 0=5\/kd l 0=2):=mq
  obtain⟨rfl,rfl⟩:=pE h;exact⟨w,fun p=>⟨.op_f (fun e=>absurd e hc) (.if_t rfl .ret),p⟩⟩
theorem xfq(ih:Tq R){c:Cx}{l:Ts}(w:W l)(h:ym R c l=some (some (v,l'))):W l'/\oG v l' (.cond c l):=by
 obtain⟨x,l1,w,⟨g,r⟩,h⟩:=pF ih h w
 rcases lE h with⟨hc,h⟩|⟨hc,h⟩
 ·obtain⟨y,l2,w,⟨g2,r2⟩,h⟩:=pF ih h (w.drop 1);obtain⟨hi,w,h⟩:=zU h w;obtain⟨z,l3,w,⟨g3,r3⟩,h⟩:=pF ih h w;obtain⟨rfl,rfl⟩:=pE h;exact⟨w,by simp only[yL]at *;simp[nd,bJ,kX,eI, *],fun _ _ q=>.call g (.take_t hc (.call g2 (.need hi (.call g3 q))))⟩
 ·obtain⟨rfl,rfl⟩:=pE h;exact⟨w,r,fun _ _ q=>.call g (.take_f mq q)⟩
theorem z6q(ih:Tq R){c:Cx}{l:Ts}(w:W l)(h:zd R c l=some (some (v,l'))):W l'/\oG v l' (.assign c l):=by
 rcases lE h with⟨hc,h⟩|⟨hc,h⟩
 ·have ha:=QP hc;obtain⟨w1,g,r⟩:=ih _ _ _ h w;exact⟨w1,.bad (.ah_t ha (.tail g)),r⟩
 ·have ha:=QR hc
  rcases lE h with⟨hy,h⟩|⟨hy,h⟩
  ·rcases lE h with⟨hg,h⟩|⟨hg,h⟩
   ·exact zS
   ·exact zv
  ·replace hy:aL l 0 Cd=false:=by simpa using hy
   obtain⟨x,l1,w,⟨r,t⟩,h⟩:=pF ih h w;have hz:∀{y:RV}{l2:Ts},GG (vq x) l1 y l2->GG HO l y l2:=fun q=>.bad (.ah_f ha (.take_f hy (t _ _ q)))
   rcases lE h with⟨hk,h⟩|⟨hk,h⟩
   ·rcases lE h with⟨hf,h⟩|⟨hf,h⟩
    ·obtain⟨rfl,rfl⟩:=pE h;exact⟨w,hz (.op_f (fun _=>hf) (.if_t rfl .ret)),r⟩
    ·rcases lE h with⟨hg,h⟩|⟨hg,h⟩
     ·obtain⟨y,l2,w,⟨g2,r2⟩,h⟩:=pF ih h (w.drop 1);obtain⟨rfl,rfl⟩:=pE h;exact⟨w,hz (.op_t (.inl hk) hf (.if_f hf (.call g2 .ret))),by simp only[yL]at *;simp[fR,bJ,kX,eI, *]⟩
     ·exact zv
   ·obtain⟨rfl,rfl⟩:=pE h;exact⟨w,hz (.op_f (fun e=>e.elim (fun e=>absurd e hk) fun e=>(w.op e).1) (.if_t rfl .ret)),r⟩
theorem xfm(ih:Tq R){n:PT}{c:Cx}{l:Ts}(w:W l)(h:uq R n c l=some (some (v,l'))):W l'/\oG v l' (.link n c l):=by
 unfold uq at h;simp only[yc,ZA,F0]at h
 rcases lE h with⟨hc,h⟩|⟨hc,h⟩
 ·rcases lE h with⟨hk,h⟩|⟨hk,h⟩
  ·obtain⟨rfl,rfl⟩:=pE h;replace hk:kd (l.drop 1) 0=1\/kd (l.drop 1) 0=2:=zo
   refine⟨(w.drop 1).drop 1,fun e=>l9,fun _ p=>⟨by simp[fj,dV,bJ,kX,eI,p],fun _ _ q=>.bad (.take_t hc (.key hk (.tail q))),fun _ _ q=>.bad (.at_f (uZ hc aT) (.take_t hc (.key hk (.tail q))))⟩⟩
  ·exact zv
 ·replace hc:aL l 0 CT=false:=mq
  rcases lE h with⟨hb,h⟩|⟨hb,h⟩
  ·obtain⟨x,l1,w,⟨g,r⟩,h⟩:=pF ih h (w.drop 1);obtain⟨hi,w,h⟩:=zU h w;obtain⟨rfl,rfl⟩:=pE h;simp only[yL]at r;refine⟨w,fun e=>l9,fun _ p=>⟨by simp[fj,nd,bJ,kX,eI,p,r],fun _ _ q=>.bad (.take_f hc (.take_t hb (.call g (.need hi (.tail q))))),fun _ _ q=>.bad (.at_f (uZ hb aT) (.take_f hc (.need hb (.call g (.need hi (.tail q))))))⟩⟩
  ·obtain⟨rfl,rfl⟩:=pE h;exact⟨w,fun _=>⟨rfl,rfl,hc,by simpa using hb⟩,fun e=>l9⟩
theorem xbh(ih:Tq R){c:Cx}{l:Ts}(w:W l)(h:yx R c l=some (some (v,l'))):W l'/\oG v l' (.chain c l):=by
 rcases lE h with⟨hc,h⟩|⟨hc,h⟩
 ·obtain⟨x,l1,w,⟨g,r⟩,h⟩:=pF ih h (w.drop 1);obtain⟨w1,t⟩:=ih _ _ _ h w;exact⟨w1,.take_t hc (.call g (.tail (t r).1)),(t r).2⟩
 ·obtain⟨x,l1,w,⟨g,r⟩,h⟩:=pF ih h w;obtain⟨w1,t⟩:=ih _ _ _ h w;exact⟨w1,.take_f mq (.call g (.tail (t r).1)),(t r).2⟩
theorem z6n(ih:Tq R){n:PT}{c:Cx}{l:Ts}(w:W l)(h:yu R n c l=some (some (v,l'))):W l'/\oG v l' (.chainN n c l):=by
 have z:=Gf ih h w;clear h w;obtain⟨x,b,l1,w,⟨tf,tt⟩,h⟩:=z
 cases b with
 |true=>
  obtain⟨w1,t⟩:=ih _ _ _ h w;refine⟨w1,fun p=>?_⟩
  obtain⟨p2,_,f⟩:=tt rfl p;exact⟨f _ _ (t p2).1,(t p2).2⟩
 |false=>
  obtain⟨rfl,rfl,hd,hb⟩:=tf rfl;rw[aE aT]at h
  obtain⟨hi,w,h⟩:=zU h w;obtain⟨as,l2,w,t1,h⟩:=Gg ih h w;obtain⟨g,r⟩:=t1 aT
  obtain⟨w1,t⟩:=ih _ _ _ h w;refine⟨w1,fun p=>?_⟩
  have p2:bJ c (nd 21 (x::as))=true:=by simp only[YP,fj]at *;simp[nd,bJ,kX,eI, *]
  exact⟨.bad (.at_t hi (.need hi (.calls g (.tail (t p2).1)))),(t p2).2⟩
theorem z6o(ih:Tq R){n:PT}{c:Cx}{l:Ts}(w:W l)(h:yz R n c l=some (some (v,l'))):W l'/\oG v l' (.chainL n c l):=by
 have z:=Gf ih h w;clear h w;obtain⟨x,b,l1,w,⟨tf,tt⟩,h⟩:=z
 cases b with
 |true=>
  obtain⟨w1,t⟩:=ih _ _ _ h w;refine⟨w1,fun p=>?_⟩
  obtain⟨p2,f,_⟩:=tt rfl p;exact⟨f _ _ (t p2).1,(t p2).2⟩
 |false=>
  obtain⟨rfl,rfl,hd,hb⟩:=tf rfl;rw[aE aT]at h
  rcases lE h with⟨hi,h⟩|⟨hi,h⟩
  ·obtain⟨as,l2,w,t1,h⟩:=Gg ih h (w.drop 1);obtain⟨g,r⟩:=t1 aT
   obtain⟨w1,t⟩:=ih _ _ _ h w;refine⟨w1,fun p=>?_⟩
   have p2:bJ c (nd 20 (x::as))=true:=by simp only[YP,fj]at *;simp[nd,bJ,kX,eI, *]
   exact⟨.bad (.take_f hd (.take_f hb (.take_t hi (.calls g (.tail (t p2).1))))),(t p2).2⟩
  ·obtain⟨rfl,rfl⟩:=pE h;exact⟨w,fun p=>⟨.bad (.take_f hd (.take_f hb (.take_f (by simpa using hi) .ret))),p⟩⟩
end
theorem Pj{c:Cx}{e a:PT}:bJ c (nd 28 [e,a])=(bJ c e&&(!rK a&&bJ c a)):=by
 simp[nd,bJ,vP]
theorem Pk{c:Cx}{e a b:PT}:bJ c (nd 28 [e,a,b])=(!qO a&&(bJ c e&&((!rK a&&bJ c a)&&(!rK b&&bJ c b)))):=by
 simp[nd,bJ,vP,LB,Bool.and_assoc]
theorem Oq{c:Cx}{e a:PT}:bJ c (nd 29 [e,a])=(bJ c e&&(!rK a&&bJ { c with lp:=true } a)):=by
 simp[nd,bJ,vP]
theorem Ef{c:Cx}{a b d s:PT}:bJ c (nd 30 [a,b,d,s])=(bJ c a&&(bJ c b&&(bJ c d&&(!rK s&&bJ { c with lp:=true } s)))):=by
 simp[nd,bJ,vP]
theorem Oo{c:Cx}{nm:Bs}{i o:Int}{e a:PT}:bJ c (.mk 31 nm i o [e,a])=(bJ c e&&(!rK a&&bJ { c with lp:=true } a)):=by
 simp[bJ,vP]
theorem xai{e a b:PT}:qO (nd 28 [e,a,b])=qO b:=by simp[nd,qO,nn]
theorem xea{e a:PT}:qO (nd 29 [e,a])=qO a:=by simp[nd,qO,nn]
theorem Oh{a b d s:PT}:qO (nd 30 [a,b,d,s])=qO s:=by simp[nd,qO,nn]
theorem xeb{nm:Bs}{i o:Int}{e a:PT}:qO (.mk 31 nm i o [e,a])=qO a:=by simp[qO,nn]
theorem VQ{c:Cx}:bJ c (nd 37 [])=true:=JP
theorem VP{c:Cx}{x:PT}:bJ c (nd 26 [x])=bJ c x:=JP
theorem Ob{c:Cx}{x:PT}:bJ c (nd 32 [x])=(c.fn&&bJ c x):=JP
theorem Ph{c:Cx}:bJ c (nd 32 [])=c.fn:=JP
theorem On{c:Cx}{x:PT}:bJ c (nd 35 [x])=bJ c x:=JP
theorem xec{x:PT}{l:Ts}(h:yk x l)(hi:aL l 0 LC=true):qO x=false:=by
 cases ht:qO x with
 |false=>rfl
 |true=>have:=h ht;grind
theorem LK{x y:PT}{l:Ts}(h:yk x l)(e:qO y=qO x):yk y l:=fun ht=>h (e ▸ ht)
section
variable{R:Sy->Re Rv}{r:Rv×Ts}{v:Rv}{l':Ts}
theorem C7(ih:Tq R){c:Cx}{l:Ts}{a:PT}(w:W l)(h:mg R c a l=some (some (v,l')))(ra:bJ c a=true):W l'/\zy c (BE a) l v.n l'/\rK v.n=false:=by
 obtain⟨hi,w,h⟩:=zU h w;simp only at h;have third:∀{b:PT}{l2:Ts},W l2->bJ c b=true->(eZ mH l2 fun l3=>
   if aL l3 0 eG then ndR (R (.body c (l3.drop 1))) fun s l5=>bR (.nd (nd 30 [a,b,nd 37 [],s])) l5
   else ndR (R (.assign c l3)) fun d l4=>eZ eG l4 fun l5=>ndR (R (.body c l5)) fun s l6=>bR (.nd (nd 30 [a,b,d,s])) l6)=some (some (v,l'))->W l'/\zy c (GP a b) l2 v.n l'/\rK v.n=false:=fun{b l2} w rb h=>by
  obtain⟨hi,w,h⟩:=zU h w
  rcases lE h with⟨hr,h⟩|⟨hr,h⟩
  ·obtain⟨s,l3,w,⟨⟨g,r,e⟩,d⟩,h⟩:=pF ih h (w.drop 1);obtain⟨rfl,rfl⟩:=pE h;simp only[yL]at *;exact⟨w,⟨.need hi (.at_t hr (.need hr (.call g .ret))),by rw[Ef,ra,rb,VQ,d,r];rfl,LK e Oh⟩,rfl⟩
  ·obtain⟨x,l3,w,⟨gx,rx⟩,h⟩:=pF ih h w;obtain⟨hp,w,h⟩:=zU h w;obtain⟨s,l3,w,⟨⟨g,r,e⟩,d⟩,h⟩:=pF ih h w;obtain⟨rfl,rfl⟩:=pE h;simp only[yL]at *;exact⟨w,⟨.need hi (.at_f (by simpa using hr) (.call gx (.need hp (.call g .ret)))),by rw[Ef,ra,rb,rx,d,r];rfl,LK e Oh⟩,rfl⟩
 rcases lE h with⟨hs,h⟩|⟨hs,h⟩
 ·obtain⟨w1,⟨g,r,e⟩,d⟩:=third w VQ h;exact⟨w1,⟨.need hi (.at_t hs g),r,e⟩,d⟩
 ·obtain⟨b,l2,w,⟨gb,rb⟩,h⟩:=pF ih h w;obtain⟨w1,⟨g,r,e⟩,d⟩:=third w rb h;exact⟨w1,⟨.need hi (.at_f RD (.call gb g)),r,e⟩,d⟩
theorem xbb(ih:Tq R){c:Cx}{l:Ts}(w:W l)(h:sl R c l=some (some (v,l'))):W l'/\oG v l' (.loops c l):=by
 obtain⟨hi,w,h⟩:=zU h w
 rcases lE h with⟨hc,h⟩|⟨hc,h⟩
 ·simp only[bG,gH,bF]at hc;obtain⟨hc,hk,ho⟩:=hc;obtain⟨x,l1,w,⟨gx,rx⟩,h⟩:=pF ih h (w.drop 3);obtain⟨hp,w,h⟩:=zU h w;obtain⟨s,l3,w,⟨⟨g,r,e⟩,d⟩,h⟩:=pF ih h w;obtain⟨rfl,rfl⟩:=pE h;simp only[yL]at *;have hg:∀q:Int,GG (Eu q) (l.drop 1) (.nd (.mk 31 (tx (l.drop 1) 1) 0 q [x,s])) l3:=fun q=>.ptx (.skip (.call gx (.need hp (.call g .ret))))
  refine⟨w,⟨.need hi ?_,by rw[yL,Oo,rx,d,r];rfl,LK e xeb⟩,rfl⟩
  rcases hc with hc|hc
  ·rw[uZ hc aT]
   exact .at_t hc (.kd_t hk (.at_t ho (hg 1)))
  ·rw[hc];exact .at_f (uZ hc aT) (.at_t hc (.kd_t hk (.at_t ho (hg 2))))
 ·rcases lE h with⟨hd,h⟩|⟨hd,h⟩
  ·simp only[bG]at hd;have ho:kd (l.drop 1) 1=1->aL (l.drop 1) 2 vj=false:=fun hk=>by
    grind
   obtain⟨x,l1,w,⟨k,hk,g,r,t⟩,h⟩:=pF ih h w;obtain⟨w1,⟨g2,r2,e2⟩,d2⟩:=C7 ih w h r;have hg:∀q:Int,GG (ND k q) (l.drop 1) (.nd v.n) l':=fun q=>by
    rcases dP (kd (l.drop 1) 1=1)with h1|h1
    ·exact .kd_t h1 (.at_f (ho h1) (.skip (.call g g2)))
    ·exact .kd_f h1 (.skip (.call g g2))
   refine⟨w1,⟨.need hi ?_,r2,e2⟩,d2⟩
   rcases hk with⟨rfl,hk⟩|⟨rfl,hk⟩
   ·exact .at_f (uZ hk aT) (.at_t hk (hg 2))
   ·rcases hd with hd|hd
    ·exact .at_t hd (hg 1)
    grind
  ·simp only[bG,AZ,nG]at hd
   rcases lE h with⟨hs,h⟩|⟨hs,h⟩
   ·obtain⟨w1,⟨g2,r2,e2⟩,d2⟩:=C7 ih w h VQ;exact⟨w1,⟨.need hi (.at_f hd.1 (.at_f hd.2 (.at_t hs g2))),r2,e2⟩,d2⟩
   ·obtain⟨x,l1,w,⟨g,r⟩,h⟩:=pF ih h w;obtain⟨w1,⟨g2,r2,e2⟩,d2⟩:=C7 ih w h (VP.trans r);exact⟨w1,⟨.need hi (.at_f hd.1 (.at_f hd.2 (.at_f RD (.call g g2)))),r2,e2⟩,d2⟩
theorem IR{k:Int}{ks:List PT}{l:Ts}(h:k≠28/\k≠29/\k≠30/\k≠31):yk (nd k ks) l:=KT h
theorem xfn(ih:Tq R){c:Cx}{l:Ts}(w:W l)(h:xF R c l=some (some (v,l'))):W l'/\oG v l' (.keyw c l):=by
 have lz:l.drop 2=(l.drop 1).drop 1:=yc;unfold xF at h;simp only[zh,lz]at h;have key:∀{s:Bs}{x:PT}{p:RP},aL l 0 s=true->(nS≠s/\mH≠s)->GG p l (.nd x) l'->GG (.at_ 0 nS (.tail .block) (.take mH (iR (nd 37 [])) p)) l (.nd x) l':=fun hs hn g=>.at_f (uZ hs (iQ hn.1)) (.take_f (uZ hs (iQ hn.2)) g)
 rcases lE h with⟨hc,h⟩|⟨hc,h⟩
 ·obtain⟨x,l1,w,⟨hl,rx,l2,gx,hr,rfl⟩,h⟩:=pF ih h (w.drop 1);obtain⟨a,l3,w,⟨⟨ga,ra,ea⟩,da⟩,h⟩:=pF ih h w
  rcases lE h with⟨he,h⟩|⟨he,h⟩
  ·obtain⟨b,l4,w,⟨⟨gb,rb,eb⟩,db⟩,h⟩:=pF ih h (w.drop 1);obtain⟨rfl,rfl⟩:=pE h;simp only[yL]at *;exact⟨w,fun _=>⟨⟨key hc aT (.take_t hc (.tail (.need hl (.call gx (.need hr (.call ga (.take_t he (.call gb .ret)))))))),by rw[fj,Pk,xec ea he,rx,da,ra,db,rb];rfl,LK eb xai⟩,rfl⟩,fun e=>l9⟩
  ·obtain⟨rfl,rfl⟩:=pE h;simp only[yL]at *;replace he:aL l3 0 LC=false:=RB
   exact⟨w,fun _=>⟨⟨key hc aT (.take_t hc (.tail (.need hl (.call gx (.need hr (.call ga (.take_f he .ret))))))),by rw[fj,Pj,rx,da,ra];rfl,fun _=>he⟩,rfl⟩,fun e=>l9⟩
 replace hc:aL l 0 ol=false:=mq
 rcases lE h with⟨hw,h⟩|⟨hw,h⟩
 ·obtain⟨x,l1,w,⟨hl,rx,l2,gx,hr,rfl⟩,h⟩:=pF ih h (w.drop 1);obtain⟨a,l3,w,⟨⟨ga,ra,ea⟩,da⟩,h⟩:=pF ih h w;obtain⟨rfl,rfl⟩:=pE h;simp only[yL]at *;exact⟨w,fun _=>⟨⟨key hw aT (.take_f hc (.take_t hw (.need hl (.call gx (.need hr (.call ga .ret)))))),by rw[fj,Oq,rx,da,ra];rfl,LK ea xea⟩,rfl⟩,fun e=>l9⟩
 replace hw:aL l 0 ru=false:=by simpa using hw
 rcases lE h with⟨hf,h⟩|⟨hf,h⟩
 ·obtain⟨x,l1,w,⟨⟨gx,rx,ex⟩,dx⟩,h⟩:=pF ih h (w.drop 1);obtain⟨rfl,rfl⟩:=pE h;exact⟨w,fun _=>⟨⟨key hf aT (.take_f hc (.take_f hw (.take_t hf (.tail gx)))),rx,ex⟩,dx⟩,fun e=>l9⟩
 replace hf:aL l 0 sy=false:=by simpa using hf
 rcases lE h with⟨hr,h⟩|⟨hr,h⟩
 ·rcases lE h with⟨hn,h⟩|⟨hn,h⟩
  ·rcases lE h with⟨hs,h⟩|⟨hs,h⟩
   ·obtain⟨rfl,rfl⟩:=pE h;exact⟨(w.drop 1).drop 1,fun _=>⟨⟨key hr aT (.take_f hc (.take_f hw (.take_f hf (.take_t hr (.at_t hs (.need hs .ret)))))),by rw[fj,Ph,hn],IR aT⟩,rfl⟩,fun e=>l9⟩
   ·obtain⟨x,l1,w,⟨gx,rx⟩,h⟩:=pF ih h (w.drop 1);obtain⟨hi,w,h⟩:=zU h w;obtain⟨rfl,rfl⟩:=pE h;simp only[yL]at *;exact⟨w,fun _=>⟨⟨key hr aT (.take_f hc (.take_f hw (.take_f hf (.take_t hr (.at_f RD (.call gx (.need hi .ret))))))),by rw[fj,Ob,hn,rx];rfl,IR aT⟩,rfl⟩,fun e=>l9⟩
  ·exact zv
 replace hr:aL l 0 s8=false:=by simpa using hr
 rcases lE h with⟨hb,h⟩|⟨hb,h⟩
 ·rcases lE h with⟨hn,h⟩|⟨hn,h⟩
  ·obtain⟨hi,w,h⟩:=zU h (w.drop 1);obtain⟨rfl,rfl⟩:=pE h;simp only[bG]at hb;refine⟨w,fun _=>⟨⟨?_,?_,IR (by split<;>decide)⟩,by split<;>rfl⟩,fun e=>l9⟩
   ·rcases hb with hb|hb
    ·rw[uZ hb aT]
     exact key hb aT (.take_f hc (.take_f hw (.take_f hf (.take_f hr (.take_t hb (.need hi .ret))))))
    ·rw[hb];exact key hb aT (.take_f hc (.take_f hw (.take_f hf (.take_f hr (.take_f (uZ hb aT) (.take_t hb (.need hi .ret)))))))
   ·rw[fj]
    split<;>simp[nd,bJ,hn]
  ·exact zv
 simp only[bG,AZ,nG]at hb
 rcases lE h with⟨ht,h⟩|⟨ht,h⟩
 ·obtain⟨x,l1,w,⟨gx,rx⟩,h⟩:=pF ih h (w.drop 1);obtain⟨hi,w,h⟩:=zU h w;obtain⟨rfl,rfl⟩:=pE h;simp only[yL]at *;exact⟨w,fun _=>⟨⟨key ht aT (.take_f hc (.take_f hw (.take_f hf (.take_f hr (.take_f hb.1 (.take_f hb.2 (.take_t ht (.call gx (.need hi .ret))))))))),by rw[fj,On,rx],IR aT⟩,rfl⟩,fun e=>l9⟩
 replace ht:aL l 0 rq=false:=by simpa using ht
 rcases lE h with⟨hy,h⟩|⟨hy,h⟩
 ·obtain⟨x,l1,w,⟨gx,rx,kx⟩,h⟩:=pF ih h (w.drop 1);obtain⟨rfl,rfl⟩:=pE h;simp only[yL]at *;exact⟨w,fun _=>⟨⟨key hy aT (.take_f hc (.take_f hw (.take_f hf (.take_f hr (.take_f hb.1 (.take_f hb.2 (.take_f ht (.take_t hy (.tail gx))))))))),rx,KT (by rw[fj,kx];decide)⟩,by unfold rK;rw[fj,kx];rfl⟩,fun e=>l9⟩
 replace hy:aL l 0 t7=false:=by simpa using hy
 obtain⟨rfl,rfl⟩:=pE h;refine⟨w,fun e=>l9,fun _=>⟨rfl,fun s hs=>?_⟩⟩
 simp only[MX,fJ,nc,or_false]at hs
 grind
theorem xfj(ih:Tq R){c:Cx}{l:Ts}(w:W l)(h:yp R c l=some (some (v,l'))):W l'/\oG v l' (.stmt c l):=by
 have hE:∀{v:Rv},aL l 0 bi=false->aL l 0 qC=false->tJ l=false->aL l 0 nS=false->aL l 0 mH=false->(∀s∈MX,aL l 0 s=false)->np R c l=some (some (v,l'))->W l'/\oG v l' (.stmt c l):=fun{v} h1 h2 h3 h4 h5 hk h=>by
  obtain⟨x,l1,w,⟨gx,rx⟩,h⟩:=pF ih h w;obtain⟨hi,w,h⟩:=zU h w;obtain⟨rfl,rfl⟩:=pE h;simp only[yL]at *;simp only[tJ,dJ]at h3;have hg:GG ye l (.nd (nd 26 [x])) (l1.drop 1):=.at_f h4 (.take_f h5 (.take_f (hk _ aT) (.take_f (hk _ aT) (.take_f (hk _ aT) (.take_f (hk _ aT) (.take_f (hk _ aT) (.take_f (hk _ aT) (.take_f (hk _ aT) (.take_f (hk _ aT) (.call gx (.need hi .ret)))))))))))
  refine⟨w,⟨.bad (.take_f h1 (.take_f h2 (.at_f h3.2.2.1 ?_))),by rw[yL,VP,rx],IR aT⟩,fun _=>rfl⟩
  exact S3
 rcases lE h with⟨hc,h⟩|⟨hc,h⟩
 ·obtain⟨x,l1,w,⟨k,hk,g,r,t⟩,h⟩:=pF ih h w;obtain⟨hi,w,h⟩:=zU h w;obtain⟨rfl,rfl⟩:=pE h;simp only[bG]at hc;simp only[yL]at *;have hd:tJ l=true:=by
   unfold tJ
   grind
  refine⟨w,⟨?_,r,KT ?_⟩,fun e=>by rw[hd]at e;cases e⟩
  ·rcases hk with⟨rfl,hk⟩|⟨rfl,hk⟩
   ·exact .bad (.take_f (uZ hk aT) (.take_t hk (.call g (.need hi .ret))))
   ·rcases hc with hc|hc
    ·exact .bad (.take_t hc (.call g (.need hi .ret)))
    grind
  ·simp only[yL];omega
 simp only[bG,AZ,nG]at hc
 rcases lE h with⟨hd,h⟩|⟨hd,h⟩
 ·obtain⟨w1,g,r,k,ha⟩:=ih _ _ _ h w;refine⟨w1,⟨.bad (.take_f hc.1 (.take_f hc.2 ?_)),r,KT (by rw[k];decide)⟩,fun e=>by rw[hd]at e;cases e⟩
  unfold tJ at hd;rw[hc.1,hc.2]at hd
  cases hf:aL l 0 vA with
  |true=>exact .at_t hf (.tail g)
  |false=>
   rw[hf]at hd;simp only[bI,gH]at hd;exact .at_f hf (.at_t hd.1 (.at_t hd.2 (.tail g)))
 replace hd:tJ l=false:=by simpa using hd
 have h3:=hd;simp only[tJ,dJ]at h3;have mK:∀{x:PT},GG ye l (.nd x) l'->GG sx l (.nd x) l':=fun hg=>.bad (.take_f hc.1 (.take_f hc.2 (.at_f h3.2.2.1 (by
  exact S3))))
 rcases lE h with⟨hl,h⟩|⟨hl,h⟩
 ·obtain⟨w1,g,r,k⟩:=ih _ _ _ h w;exact⟨w1,⟨mK (.at_t hl (.tail g)),r,KT (by rw[k];decide)⟩,fun _=>by unfold rK;rw[k];rfl⟩
 replace hl:aL l 0 nS=false:=we
 rcases lE h with⟨hs,h⟩|⟨hs,h⟩
 ·obtain⟨rfl,rfl⟩:=pE h;exact⟨w.drop 1,⟨mK (.at_f hl (.take_t hs .ret)),VQ,IR aT⟩,fun _=>rfl⟩
 replace hs:aL l 0 mH=false:=RD
 rcases lE h with⟨hk,h⟩|⟨hk,h⟩
 ·have z:=Gf ih h w;obtain⟨x,b,l1,w1,⟨tt,tf⟩,h9⟩:=z
  cases b with
  |true=>
   obtain⟨rfl,rfl⟩:=pE h9;obtain⟨⟨g,r,e⟩,d⟩:=tt rfl;exact⟨w1,⟨mK g,r,e⟩,fun _=>d⟩
  |false=>
   obtain⟨rfl,hn⟩:=tf rfl
   grind
 ·exact hE hc.1 hc.2 hd hl hs (w.nokey hk) h
end
theorem Pd:∀n:Nat,Tq (nh n)
 |0=>fun s v l' h=>by cases h
 |n+1=>fun s v l' h w=>by
  have ih:=Pd n
  cases s with
  |stmt c l=>exact xfj ih w h
  |keyw c l=>exact xfn ih w h
  |condn c l=>exact xbg ih w h
  |inner c l=>exact xbd ih w h
  |body c l=>exact xfr ih w h
  |loops c l=>exact xbb ih w h
  |tryS c l=>exact xfi ih w h
  |decl c l=>exact xfp ih w h
  |declL k acc c l=>exact xbf ih w h
  |block c l=>exact xbi ih w h
  |blockL acc c l=>exact z6p ih w h
  |func d c l=>exact xfo ih w h
  |arrow c l=>exact xbj ih w h
  |assign c l=>exact z6q ih w h
  |cond c l=>exact xfq ih w h
  |opnd k c l=>exact xfl ih w h
  |opndL k x c l=>exact xba ih w h
  |unary c l=>exact xa8 ih w h
  |postf c l=>exact xa9 ih w h
  |link x c l=>exact xfm ih w h
  |chain c l=>exact xbh ih w h
  |chainN x c l=>exact z6n ih w h
  |chainL x c l=>exact z6o ih w h
  |list2 e c l=>exact xbc ih w h
  |list2L e acc c l=>exact z6l ih w h
  |prim c l=>exact xfk ih w h
  |fields c l=>exact z6m ih w h
  |fieldsL acc c l=>exact z10 ih w h
  |field c l=>exact xbe ih w h
def QQ(v:RV)(l' l:Ts):RS->Prop
 | .stm=>(∀c,bJ c v.n=true->ev (.stmt c l)=bR (.nd v.n) l')/\(tJ l=true->rK v.n=true)
 | .stms=>(∀c,eI c v.s=true->aL l' 0 uC=true->ev (.blockL [] c l)=bR (.nd (nd 27 v.s)) (l'.drop 1))/\∀n,l.length<n->l'=[]->eI jC v.s=true->fk n [] l=some v.s
 | .stmsL acc=>(∃ds,v.s=acc++ds)/\(∀c,eI c v.s=true->aL l' 0 uC=true->ev (.blockL acc c l)=bR (.nd (nd 27 v.s)) (l'.drop 1))/\∀n,l.length<n->l'=[]->eI jC v.s=true->fk n acc l=some v.s
 | .block=>∀c,bJ c v.n=true->ev (.block c l)=bR (.nd v.n) l'
 | .decls k=>v.n.kind=k/\∀c,(k=24\/k=25)->bJ c v.n=true->ev (.declL k [] c l)=bR (.nd v.n) l'
 | .declsL k acc=>(∃ds,v.n=nd k (acc++ds))/\∀c,(k=24\/k=25)->bJ c v.n=true->ev (.declL k acc c l)=bR (.nd v.n) l'
 | .cond=>∀c,bJ c v.n=true->∀l0,aL l0 0 ol=true->l=l0.drop 1->ev (.keyw c l0)=bR (.nb v.n true) l'
 | .loop=>∀c,bJ c v.n=true->ev (.loops c l)=bR (.nd v.n) l'
 | .tryR=>∀c,bJ c v.n=true->ev (.tryS c l)=bR (.nd v.n) l'
 | .func d=>v.n.kind=11/\∀c,bJ c v.n=true->ev (.func d c l)=bR (.nd v.n) l'
 | .names=>qP (rX v.s)=true->uQ l=some (some (v.s,l'))
 | .namesL acc=>∀n,l.length<n->qP (rX v.s)=true->namesL n acc l=some (some (v.s,l'))
 | .arrow=>∀c,bJ c v.n=true->ev (.arrow c l)=bR (.nd v.n) l'
 | .assign=>∀c,bJ c v.n=true->ev (.assign c l)=bR (.nd v.n) l'
 | .lv k=>∀c,bJ c v.n=true->ev (.opnd k c l)=bR (.nd v.n) l'
 | .lvL k x=>∀c,bJ c v.n=true->bJ c x=true/\ev (.opndL k x c l)=bR (.nd v.n) l'
 | .unary=>∀c,bJ c v.n=true->ev (.unary c l)=bR (.nd v.n) l'
 | .list e=>∀c,e≠rY->eI c v.s=true->ev (.list2 e c l)=bR (.ls v.s) l'
 | .listL e acc=>∀c,e≠rY->eI c v.s=true->eI c acc=true/\ev (.list2L e acc c l)=bR (.ls v.s) l'
 | .chain=>∀c,bJ c v.n=true->ev (.chain c l)=bR (.nd v.n) l'
 | .newL x=>∀c,bJ c v.n=true->bJ c x=true/\ev (.chainN x c l)=bR (.nd v.n) l'
 | .chainL x=>∀c,bJ c v.n=true->bJ c x=true/\ev (.chainL x c l)=bR (.nd v.n) l'
 | .prim=>∀c,bJ c v.n=true->ev (.prim c l)=bR (.nd v.n) l'
 | .obj=>∃ks,v.n=nd 10 ks/\∀c,eI c ks=true->ev (.fields c l)=bR (.ls ks) l'
 | .objL acc=>∃ks,v.n=nd 10 ks/\∀c,eI c ks=true->eI c acc=true/\ev (.fieldsL acc c l)=bR (.ls ks) l'
 | .field=>∀c,bJ c v.n=true->ev (.field c l)=bR (.nd v.n) l'
section
variable{l l1:Ts}{r:Re Rv}{s:Sy}
theorem vS(h:BR ev s=r):ev s=r:=(qA s).trans h
theorem pY{w:Bs}{k:Ts->Re Rv}(hi:aL l 0 w=true)(h:k (l.drop 1)=r):eZ w l k=r:=(aF hi).trans h
theorem GU{k:Bs->Ts->Re Rv}(hi:kd l 0=1)(h:k (tx l 0) (l.drop 1)=r):pZ l k=r:=(aF hi).trans h
theorem iK{x:PT}{k:PT->Ts->Re Rv}(e:ev s=bR (.nd x) l1)(h:k x l1=r):ndR (ev s) k=r:=by rw[e];exact h
theorem DD{x:PT}{b:Bool}{k:PT->Bool->Ts->Re Rv}(e:ev s=bR (.nb x b) l1)(h:k x b l1=r):nbR (ev s) k=r:=by rw[e];exact h
theorem YU{x:List PT}{k:List PT->Ts->Re Rv}(e:ev s=bR (.ls x) l1)(h:k x l1=r):lsR (ev s) k=r:=by rw[e];exact h
theorem Qk{x:List PT}{k:List PT->Ts->Re Rv}(e:uQ l=some (some (x,l1)))(h:k x l1=r):bnd (uQ l) k=r:=by rw[e];exact h
theorem vT{c:Prop} [Decidable c] {x y:Re Rv} (hc:c) (h:x=r):(if c then x else y)=r:=(aF hc).trans h
theorem vF{c:Prop} [Decidable c] {x y:Re Rv} (hc:¬c) (h:y=r):(if c then x else y)=r:=(aE hc).trans h
theorem vI{w:Bs}{n:Nat}{x y:Re Rv}(hc:aL l n w=false)(h:y=r):(if aL l n w=true then x else y)=r:=(aE (by rw[hc];decide)).trans h
theorem mo{a b:Bool}(h:a=true\/b=true):(a||b)=true:=aZ
theorem Fs{a b:Bool}(h:a=false)(h':b=false):¬(a||b)=true:=by rw[h,h'];decide
end
section
variable{m:Nat}(ih:∀s l v l',bN m s l false=(v,l',false)->W l->QQ v l' l s){l l':Ts}{v:RV}
include ih
theorem xbp(w:W l)(h:Gd (bN m) (gr .names) l v l'):QQ v l' l .names:=fun hd=>by
 have hR:=nC m;obtain⟨hi,w,h⟩:=Gd.need hR w h;unfold uQ eZ;rw[aF hi]
 rcases Gd.take w h with⟨hc,w,h⟩|⟨hc,h⟩
 ·obtain⟨rfl,rfl⟩:=h.ret;simp only[hc,fE];rfl
 ·simp only[hc,aM,bT];exact ih _ _ _ _ h.tail w _ (oy _) hd
theorem z6t{acc:List PT}(w:W l)(h:Gd (bN m) (gr (.namesL acc)) l v l'):QQ v l' l (.namesL acc):=fun n hn hd=>by
 have hR:=nC m;obtain⟨hk,w,h⟩:=Gd.name hR w h.bad;have hp:=kJ hk aT
 obtain⟨n,rfl⟩:∃k,n=k+1:=⟨n-1,by omega⟩
 rw[namesL];unfold pZ;rw[aF hk];simp only
 rcases Gd.take w h with⟨hc,w,h⟩|⟨hc,h⟩
 ·have z:=ih _ _ _ _ h.tail w n aZ hd
  rw[uZ hc aT]
  unfold eZ
  grind
 ·obtain⟨hi,w,h⟩:=Gd.need hR w h;obtain⟨rfl,rfl⟩:=h.ret;replace hd:qP (rX (acc++[dV 7 (tx l 0) []]))=true:=hd;rw[hi,aF rfl,aF hd];rfl
theorem xf1{e:Bs}(w:W l)(h:Gd (bN m) (gr (.list e)) l v l'):QQ v l' l (.list e):=fun c he hr=>by
 rcases Gd.take w h with⟨hc,w,h⟩|⟨hc,h⟩
 ·obtain⟨rfl,rfl⟩:=h.ret;exact vS (vT hc rfl)
 ·exact vS (vI hc (ih _ _ _ _ h.tail w c he hr).2)
theorem xbq{e:Bs}{acc:List PT}(w:W l)(h:Gd (bN m) (gr (.listL e acc)) l v l'):QQ v l' l (.listL e acc):=fun c he hr=>by
 have hR:=nC m;obtain⟨x,l1,g,_,w,h⟩:=Gd.call hR w h.bad
 rcases Gd.take w h with⟨hc,w,h⟩|⟨hc,h⟩
 ·obtain⟨r2,e2⟩:=ih _ _ _ _ h.tail w c he hr;rw[yP,gH,eI,eI,fK]at r2;exact⟨r2.1,vS (iK (ih _ _ _ _ g ‹W _› c r2.2) (vI (uZ hc (iQ he)) (pY hc e2)))⟩
 ·obtain⟨hi,w2,h⟩:=Gd.need hR w h;obtain⟨rfl,rfl⟩:=h.ret;replace hr:eI c (acc++[x.n])=true:=hr;rw[yP,gH,eI,eI,fK]at hr;exact⟨hr.1,vS (iK (ih _ _ _ _ g ‹W _› c hr.2) (vT hi rfl))⟩
theorem xfy{acc:List PT}(w0:W l)(h:Gd (bN m) (gr (.objL acc)) l v l'):QQ v l' l (.objL acc):=by
 have hR:=nC m;obtain⟨x,l1,g,_,w,h⟩:=Gd.call hR w0 h.bad
 rcases Gd.take w h with⟨hc,w,h⟩|⟨hc,h⟩
 ·obtain⟨ks,hv,t⟩:=ih _ _ _ _ h.tail w;refine⟨ks,hv,fun c hr=>?_⟩
  obtain⟨r2,e2⟩:=t c hr;rw[yP,gH,eI,eI,fK]at r2;exact⟨r2.1,vS (iK (ih _ _ _ _ g w0 c r2.2) (vI (uZ hc aT) (pY hc e2)))⟩
 ·obtain⟨hi,w2,h⟩:=Gd.need hR w h;obtain⟨rfl,rfl⟩:=h.ret;refine⟨acc++[x.n],rfl,fun c hr=>?_⟩
  rw[yP,gH,eI,eI,fK]at hr;exact⟨hr.1,vS (iK (ih _ _ _ _ g w0 c hr.2) (vT hi rfl))⟩
theorem PC(w:W l)(h:Gd (bN m) (gr .obj) l v l'):QQ v l' l .obj:=by
 rcases Gd.take w h with⟨hc,w,h⟩|⟨hc,h⟩
 ·obtain⟨rfl,rfl⟩:=h.ret;exact⟨[],rfl,fun c hr=>vS (vT hc rfl)⟩
 ·obtain⟨ks,hv,t⟩:=ih _ _ _ _ h.tail w;exact⟨ks,hv,fun c hr=>vS (vI hc (t c hr).2)⟩
theorem xbo{acc:List PT}(w0:W l)(h:Gd (bN m) (gr (.stmsL acc)) l v l'):QQ v l' l (.stmsL acc):=by
 have hR:=nC m
 rcases Gd.eof h.bad with⟨hl,h⟩|⟨hl,h⟩
 ·obtain⟨rfl,rfl⟩:=h.ret;refine⟨⟨[],by simp[RV.s]⟩,fun c hr hi=>absurd hl (Ec hi),fun n hn _ _=>?_⟩
  subst hl;obtain⟨n,rfl⟩:∃k,n=k+1:=⟨n-1,by omega⟩
  rfl
 ·rcases Gd.at_ h with⟨hc,h⟩|⟨hc,h⟩
  ·obtain⟨rfl,rfl⟩:=h.ret;exact⟨⟨[],by simp[RV.s]⟩,fun c hr hi=>vS (vT hi rfl),fun n _ he=>absurd he hl⟩
  ·obtain⟨x,l1,g,hs,w,h⟩:=Gd.call hR w0 h;obtain⟨⟨ds,hd⟩,t1,t2⟩:=ih _ _ _ _ h.tail w;have hx:∀c,eI c v.s=true->bJ c x.n=true:=fun c hr=>by
    rw[hd,yP,yP,gH,gH,eI,eI,fK]at hr;exact hr.1.2
   refine⟨⟨x.n::ds,by rw[hd];simp⟩,fun c hr hi=>vS (vI hc (vF hl (iK ((ih _ _ _ _ g w0).1 c (hx c hr)) (t1 c hr hi)))),fun n hn he hr=>?_⟩
   obtain⟨n,rfl⟩:∃k,n=k+1:=⟨n-1,by omega⟩
   have e1:=(ih _ _ _ _ g w0).1 jC (hx jC hr);have cJ:l1.length<l.length:=by
    have:=yl (.stmt jC l)
    rw[e1]at this;obtain⟨o,ho,hp⟩:=this
    cases ho
    have:=(hp _ _ rfl).2.2 rfl rfl
    exact this.2
   rw[fk,aE hl,e1];exact t2 n oM he hr
theorem xfw(w:W l)(h:Gd (bN m) (gr .stms) l v l'):QQ v l' l .stms:=(ih _ _ _ _ h.tail w).2
theorem xbu(w:W l)(h:Gd (bN m) (gr .block) l v l'):QQ v l' l .block:=fun c hr=>by
 have hR:=nC m;obtain⟨hi,w,h⟩:=Gd.need hR w h;obtain⟨x,l1,g,hs,w2,h⟩:=Gd.calls hR w h;obtain⟨hc,w3,h⟩:=Gd.need hR w2 h;obtain⟨rfl,rfl⟩:=h.ret;simp[nd,bJ,kX]at hr;refine vS ?_;show ry ev c l=_;unfold ry;exact pY hi ((ih _ _ _ _ g w).1 c hr hc)
theorem xbs{k:Int}(w:W l)(h:Gd (bN m) (gr (.decls k)) l v l'):QQ v l' l (.decls k):=by
 obtain⟨⟨ds,hd⟩,t⟩:=ih _ _ _ _ h.tail w;exact⟨by rw[hd];rfl,t⟩
theorem z6u{k:Int}{acc:List PT}(w0:W l)(h:Gd (bN m) (gr (.declsL k acc)) l v l'):QQ v l' l (.declsL k acc):=by
 have hR:=nC m;obtain⟨hk,w,h⟩:=Gd.name hR w0 h;have hx:∀{d:PT}{l2:Ts},W l2->Gd (bN m) (NB k acc d) l2 v l'->(∃ds,v.n=nd k (acc++d::ds))/\∀c,(k=24\/k=25)->bJ c v.n=true->(if aL l2 0 rY=true then ev (.declL k (acc++[d]) c (l2.drop 1))else bR (.nd (nd k (acc++[d]))) l2)=bR (.nd v.n) l':=fun{d l2} w h=>by
  rcases Gd.take w h with⟨hc,w,h⟩|⟨hc,h⟩
  ·obtain⟨⟨ds,hd⟩,t⟩:=ih _ _ _ _ h.tail w
   grind
  ·obtain⟨rfl,rfl⟩:=h.ret;exact⟨⟨[],rfl⟩,fun c k2 hr=>vI hc rfl⟩
 have hy:∀{d:PT}{c:Cx},(∃ds,v.n=nd k (acc++d::ds))->(k=24\/k=25)->bJ c v.n=true->bJ c d=true/\(k=25->d.kids≠[]):=fun{d c} ⟨ds,hd⟩ k2 hr=>by
  rw[hd]at hr
  rcases k2 with rfl|rfl
  ·simp[nd,bJ,kX,yP,eI]at hr
   grind
  ·simp[nd,bJ,kX,yP,eI]at hr
   grind
 rcases Gd.take w h with⟨hc,w,h⟩|⟨hc,h⟩
 ·obtain⟨x,l1,g,_,w1,h⟩:=Gd.call hR w h;obtain⟨⟨ds,hd⟩,t⟩:=hx w1 h;refine⟨⟨_,hd⟩,fun c k2 hr=>vS ?_⟩
  show rv ev k acc c l=_;refine GU hk (vT hc (iK (ih _ _ _ _ g w c ?_) (t c k2 hr)))
  have:=(hy ⟨ds,hd⟩ k2 hr).1
  simpa [dV,bJ,kX,eI]using this
 ·obtain⟨⟨ds,hd⟩,t⟩:=hx w h;refine⟨⟨_,hd⟩,fun c k2 hr=>vS ?_⟩
  show rv ev k acc c l=_;refine GU hk (vI hc (vF (fun e=>?_) (t c k2 hr)))
  exact(hy ⟨ds,hd⟩ k2 hr).2 e rfl
theorem xbr(w0:W l)(h:Gd (bN m) (gr .field) l v l'):QQ v l' l .field:=fun c hr=>by
 have hR:=nC m
 rcases Gd.take w0 h with⟨hc,w,h⟩|⟨hc,h⟩
 ·obtain⟨x,l1,g,_,w1,h⟩:=Gd.call hR w h;obtain⟨h1,w2,h⟩:=Gd.need hR w1 h;obtain⟨h2,w3,h⟩:=Gd.need hR w2 h;obtain⟨y,l2,g2,_,w4,h⟩:=Gd.call hR w3 h;obtain⟨rfl,rfl⟩:=h.ret;replace hr:bJ c (nd 39 [x.n,y.n])=true:=hr;simp[nd,bJ,kX,eI]at hr;exact vS (vT hc (iK (ih _ _ _ _ g w c hr.1) (pY h1 (pY h2 (iK (ih _ _ _ _ g2 w3 c hr.2) rfl)))))
 ·rcases Gd.eof h with⟨hl,h⟩|⟨hl,h⟩
  ·exact RJ
  ·rcases Gd.kdI h with⟨hk,h⟩|⟨hk,h⟩
   ·exact RJ
   ·obtain⟨w,h⟩:=Gd.skip w0 h.kdv.ptx;have h0:¬(kd l 0=0\/kd l 0=5):=fun e=>e.elim (w0.kd0 hl) hk
    have hF:Gd (bN m) (VZ (tx l 0)) (l.drop 1) v l'->ev (.field c l)=bR (.nd v.n) l':=fun h=>by
     obtain⟨h1,w2,h⟩:=Gd.need hR w h;obtain⟨y,l2,g2,_,w4,h⟩:=Gd.call hR w2 h;obtain⟨rfl,rfl⟩:=h.ret;replace hr:bJ c (dV 38 (tx l 0) [y.n])=true:=hr;simp[dV,bJ,kX,eI]at hr;refine vS (vI hc (vF h0 (vT (zh.trans h1) ?_)));rw[yc];exact iK (ih _ _ _ _ g2 w2 c hr) rfl
    split at h
    ·rename_i h1
     rcases Gd.at_ h with⟨hi,h⟩|⟨hi,h⟩
     ·exact hF h
     ·obtain⟨rfl,rfl⟩:=h.ret;exact vS (vI hc (vF h0 (vI (zh.trans hi) (vT h1 rfl))))
    ·exact hF h
theorem Fr{k:Nat}(w0:W l)(h:Gd (bN m) (gr (.lv k)) l v l'):QQ v l' l (.lv k):=fun c hr=>by
 have hR:=nC m;replace h:Gd (bN m) (mj k) l v l':=h;unfold mj at h
 split at h
 ·rename_i hk;exact vS (vT hk (ih _ _ _ _ h.tail w0 c hr))
 ·rename_i hk;obtain⟨x,l1,g,_,w,h⟩:=Gd.call hR w0 h;obtain⟨r2,e2⟩:=ih _ _ _ _ h.tail w c hr;exact vS (vF hk (iK (ih _ _ _ _ g w0 c r2) e2))
theorem PD{k:Nat}{x:PT}(w0:W l)(h:Gd (bN m) (gr (.lvL k x)) l v l'):QQ v l' l (.lvL k x):=fun c hr=>by
 have hR:=nC m
 rcases Gd.oper w0 h with⟨hk,hf,w,h⟩|⟨hf,h⟩
 ·unfold cx at h;rw[aE hf]at h;obtain⟨y,l1,g,_,w1,h⟩:=Gd.call hR w h;obtain⟨r2,e2⟩:=ih _ _ _ _ h.tail w1 c hr;have r3:bJ c x=true/\bJ c y.n=true:=by
   split at r2<;>simpa [fR,bJ,kX,eI]using r2
  exact⟨r3.1,vS (vT zo (vF hf (iK (ih _ _ _ _ g w c r3.2) e2)))⟩
 ·unfold cx at h;obtain⟨rfl,rfl⟩:=h.ret;refine⟨hr,vS ?_⟩;show s5 ev k x c l=_;unfold s5
  split
  ·rename_i hk;exact vT (hf zo) rfl
  ·rfl
theorem xbt(w0:W l)(h:Gd (bN m) (gr .chain) l v l'):QQ v l' l .chain:=fun c hr=>by
 have hR:=nC m
 rcases Gd.take w0 h with⟨hc,w,h⟩|⟨hc,h⟩
 ·obtain⟨x,l1,g,_,w1,h⟩:=Gd.call hR w h;obtain⟨r2,e2⟩:=ih _ _ _ _ h.tail w1 c hr;exact vS (vT hc (iK (ih _ _ _ _ g w c r2) e2))
 ·obtain⟨x,l1,g,_,w1,h⟩:=Gd.call hR w0 h;obtain⟨r2,e2⟩:=ih _ _ _ _ h.tail w1 c hr;exact vS (vI hc (iK (ih _ _ _ _ g w0 c r2) e2))
omit ih
theorem DE{c:Cx}{n:PT}(h:aL l 0 CT=false)(h':aL l 0 uD=false):ev (.link n c l)=bR (.nb n false) l:=vS (vI h (vI h' rfl))
theorem Ez{c:Cx}{n:PT}(h:aL l 0 CT=true)(hk:kd (l.drop 1) 0=1\/kd (l.drop 1) 0=2):ev (.link n c l)=bR (.nb (dV 18 (tx (l.drop 1) 0) [n]) true) ((l.drop 1).drop 1):=by
 refine vS (vT h ?_);rw[ZA,F0,yc]
 grind
theorem Ey{c:Cx}{n i:PT}{l1:Ts}(h:aL l 0 uD=true)(e:ev (.assign c (l.drop 1))=bR (.nd i) l1)(hi:aL l1 0 xB=true):ev (.link n c l)=bR (.nb (nd 19 [n,i]) true) (l1.drop 1):=vS (vI (uZ h aT) (vT h (iK e (pY hi rfl))))
include ih
theorem xfz{x:PT}(w0:W l)(h:Gd (bN m) (gr (.newL x)) l v l'):QQ v l' l (.newL x):=fun c hr=>by
 have hR:=nC m
 rcases Gd.at_ h.bad with⟨hc,h⟩|⟨hc,h⟩
 ·obtain⟨_,w,h⟩:=Gd.need hR w0 h;obtain⟨as,l1,g,_,w1,h⟩:=Gd.calls hR w h;obtain⟨r2,e2⟩:=ih _ _ _ _ h.tail w1 c hr;simp[nd,bJ,kX,eI]at r2;exact⟨r2.1,vS (DD (DE (uZ hc aT) (uZ hc aT)) (vF aT (pY hc (YU (ih _ _ _ _ g w c aT r2.2) e2))))⟩
 ·rcases Gd.take w0 h with⟨hd,w,h⟩|⟨hd,h⟩
  ·exact Sx
  ·obtain⟨hb,w,h⟩:=Gd.need hR w0 h;exact Tp
theorem z6v{x:PT}(w0:W l)(h:Gd (bN m) (gr (.chainL x)) l v l'):QQ v l' l (.chainL x):=fun c hr=>by
 have hR:=nC m
 rcases Gd.take w0 h.bad with⟨hd,w,h⟩|⟨hd,h⟩
 ·exact Sx
 ·rcases Gd.take w0 h with⟨hb,w,h⟩|⟨hb,h⟩
  ·exact Tp
  ·rcases Gd.take w0 h with⟨hc,w,h⟩|⟨hc,h⟩
   ·obtain⟨as,l1,g,_,w1,h⟩:=Gd.calls hR w h;obtain⟨r2,e2⟩:=ih _ _ _ _ h.tail w1 c hr;simp[nd,bJ,kX,eI]at r2;exact⟨r2.1,vS (DD (DE hd hb) (vF aT (vT hc (YU (ih _ _ _ _ g w c aT r2.2) e2))))⟩
   ·obtain⟨rfl,rfl⟩:=h.ret;exact⟨hr,vS (DD (DE hd hb) (vF aT (vI hc rfl)))⟩
end
section
variable{m:Nat}(ih:∀s l v l',bN m s l false=(v,l',false)->W l->QQ v l' l s){l l':Ts}{v:RV}
include ih
theorem xf2{d:Bool}(w0:W l)(h:Gd (bN m) (gr (.func d)) l v l'):QQ v l' l (.func d):=by
 have hR:=nC m;have h3:∀{o:Int}{s:Bs}{l1:Ts},W l1->Gd (bN m) (NT o s) l1 v l'->v.n.kind=11/\∀c,bJ c v.n=true->(bnd (uQ l1) fun ps l4=>ndR (ev (.block (nV o) l4)) fun b l5=>bR (Rv.nd (.mk 11 s 0 o (ps++[b]))) l5)=bR (Rv.nd v.n) l':=fun{o s l1} w h=>by
  obtain⟨ps,l2,g,_,w1,h⟩:=Gd.calls hR w h;obtain⟨b,l3,g2,_,w2,h⟩:=Gd.call hR w1 h;obtain⟨rfl,rfl⟩:=h.ret;refine⟨rfl,fun c hr=>?_⟩
  replace hr:bJ c (.mk 11 s 0 o (ps.s++[b.n]))=true:=hr;rw[KW,gH,gH]at hr;exact Qk (ih _ _ _ _ g w hr.1) (iK (ih _ _ _ _ g2 w1 _ hr.2.2) rfl)
 have h2:∀{o:Int}{l1:Ts},W l1->Gd (bN m) (IV d o) l1 v l'->v.n.kind=11/\∀c,bJ c v.n=true->(if(d||decide (kd l1 0=1))=true then pZ l1 fun nm l3=>bnd (uQ l3) fun ps l4=>ndR (ev (.block (nV o) l4)) fun b l5=>bR (Rv.nd (.mk 11 nm 0 o (ps++[b]))) l5 else bnd (uQ l1) fun ps l4=>ndR (ev (.block (nV o) l4)) fun b l5=>bR (Rv.nd (.mk 11 [] 0 o (ps++[b]))) l5)=bR (Rv.nd v.n) l':=fun{o l1} w h=>by
  have hN:∀{k:Bs->RP},Gd (bN m) (.name k) l1 v l'->kd l1 0=1/\W (l1.drop 1)/\Gd (bN m) (k (tx l1 0)) (l1.drop 1) v l':=fun h=>Gd.name hR w h
  unfold IV at h
  split at h
  ·rename_i hd;obtain⟨hk,w1,h⟩:=hN h;obtain⟨e,t⟩:=h3 w1 h;exact⟨e,fun c hr=>vT (mo (.inl hd)) (GU hk (t c hr))⟩
  ·rename_i hd
   rcases Gd.kdI h with⟨hk,h⟩|⟨hk,h⟩
   ·obtain⟨_,w1,h⟩:=hN h;obtain⟨e,t⟩:=h3 w1 h;exact⟨e,fun c hr=>vT (mo (.inr (aA hk))) (GU hk (t c hr))⟩
   grind
 rcases Gd.take w0 h with⟨hc,w,h⟩|⟨hc,h⟩
 ·obtain⟨hf,w1,h⟩:=Gd.need hR w h;obtain⟨e,t⟩:=h2 w1 h;refine⟨e,fun c hr=>vS ?_⟩
  show yA ev d c l=_;unfold yA;simp only[hc,fE,show decide ((4:Int)=1)=false from rfl,cD,aM,bT];exact pY hf (t c hr)
 ·obtain⟨hf,w1,h⟩:=Gd.need hR w0 h
  rcases Gd.take w1 h with⟨hs,w2,h⟩|⟨hs,h⟩
  ·obtain⟨e,t⟩:=h2 w2 h;exact Tz
  ·obtain⟨e,t⟩:=h2 w1 h;exact Tz
theorem xbv(w0:W l)(h:Gd (bN m) (gr .arrow) l v l'):QQ v l' l .arrow:=fun c hr=>by
 have hR:=nC m;have h3:∀{o:Int}{ps:List PT}{l1:Ts},W l1->Gd (bN m) (YI o ps) l1 v l'->qP (rX ps)=true/\(eZ qX l1 fun l2=>
  if aL l2 0 nS then ndR (ev (.block (nV o) l2)) fun b l3=>bR (Rv.nd (fR 11 o (ps++[b]))) l3
  else ndR (ev (.assign (nV o) l2)) fun n l3=>bR (Rv.nd (fR 11 o (ps++[nd 27 [nd 32 [n]]]))) l3)=bR (Rv.nd v.n) l':=fun{o ps l1} w h=>by
  obtain⟨hi,w1,h⟩:=Gd.need hR w h
  rcases Gd.at_ h with⟨hc,h⟩|⟨hc,h⟩
  ·obtain⟨b,l3,g2,_,w2,h⟩:=Gd.call hR w1 h;obtain⟨rfl,rfl⟩:=h.ret;replace hr:bJ c (.mk 11 [] 0 o (ps++[b.n]))=true:=hr;rw[KW,gH,gH]at hr;exact⟨hr.1,pY hi (vT hc (iK (ih _ _ _ _ g2 w1 _ hr.2.2) rfl))⟩
  ·obtain⟨b,l3,g2,_,w2,h⟩:=Gd.call hR w1 h;obtain⟨rfl,rfl⟩:=h.ret;replace hr:bJ c (.mk 11 [] 0 o (ps++[nd 27 [nd 32 [b.n]]]))=true:=hr;rw[KW,gH,gH]at hr;have r2:=hr.2.2;simp[nd,bJ,kX,eI]at r2;exact⟨hr.1,pY hi (vI hc (iK (ih _ _ _ _ g2 w1 _ r2.2) rfl))⟩
 have h2:∀{o:Int}{l0:Ts},W l0->Gd (bN m) (GO o) l0 v l'->(if aL l0 0 jD then bnd (uQ l0) fun(ps:List PT)(l1:Ts)=>eZ qX l1 fun l2=>
  if aL l2 0 nS then ndR (ev (.block (nV o) l2)) fun b l3=>bR (Rv.nd (fR 11 o (ps++[b]))) l3
  else ndR (ev (.assign (nV o) l2)) fun n l3=>bR (Rv.nd (fR 11 o (ps++[nd 27 [nd 32 [n]]]))) l3 else pZ l0 fun s l1=>eZ qX l1 fun l2=>
  if aL l2 0 nS then ndR (ev (.block (nV o) l2)) fun b l3=>bR (Rv.nd (fR 11 o ([dV 7 s []]++[b]))) l3
  else ndR (ev (.assign (nV o) l2)) fun n l3=>bR (Rv.nd (fR 11 o ([dV 7 s []]++[nd 27 [nd 32 [n]]]))) l3)=bR (Rv.nd v.n) l':=fun{o l0} w h=>by
  rcases Gd.at_ h with⟨hc,h⟩|⟨hc,h⟩
  ·obtain⟨ps,l2,g,_,w1,h⟩:=Gd.calls hR w h;obtain⟨hd,t⟩:=h3 w1 h;exact vT hc (Qk (ih _ _ _ _ g w hd) t)
  ·obtain⟨hk,w1,h⟩:=Gd.name hR w h;exact vI hc (GU hk (h3 w1 h).2)
 refine vS ?_;show bp ev c l=_;unfold bp
 rcases Gd.take w0 h with⟨hc,w,h⟩|⟨hc,h⟩
 ·grind
 grind
theorem xfv(w0:W l)(h:Gd (bN m) (gr .tryR) l v l'):QQ v l' l .tryR:=fun c hr=>by
 have hR:=nC m;have hE:∀{ks:List PT}{l1:Ts},W l1->Gd (bN m) (NF ks) l1 v l'->eI c ks=true/\s7 ev c ks l1=bR (Rv.nd v.n) l':=fun{ks l1} w h=>by
  rcases Gd.take w h with⟨hc,w,h⟩|⟨hc,h⟩
  ·obtain⟨b,l3,g2,_,w2,h⟩:=Gd.call hR w h;obtain⟨rfl,rfl⟩:=h.ret;replace hr:bJ c (nd 36 (ks++[b.n]))=true:=hr;simp[nd,bJ,kX,yP,eI]at hr;exact⟨hr.2.1,vT hc (iK (ih _ _ _ _ g2 w c hr.2.2) rfl)⟩
  ·obtain⟨rfl,rfl⟩:=h.ret;replace hr:bJ c (nd 36 ks)=true:=hr;simp[nd,bJ,kX]at hr;exact⟨hr.2,vI hc (vF oM rfl)⟩
 obtain⟨a,l1,g,_,w1,h⟩:=Gd.call hR w0 h;refine vS ?_;show nj ev c l=_;unfold nj;simp only[zh,yc];have hb:∀{b:PT}{s:Bs},eI c [a.n,dV 41 s [b]]=true->bJ c a.n=true/\bJ c b=true:=fun h=>by simpa [dV,eI,bJ,kX]using h
 rcases Gd.take w1 h with⟨hc,w,h⟩|⟨hc,h⟩
 ·rcases Gd.take w h with⟨hp,w2,h⟩|⟨hp,h⟩
  ·obtain⟨hk,w3,h⟩:=Gd.name hR w2 h;obtain⟨hi,w4,h⟩:=Gd.need hR w3 h;obtain⟨b,l3,g2,_,w5,h⟩:=Gd.call hR w4 h;obtain⟨r2,e2⟩:=hE w5 h;exact iK (ih _ _ _ _ g w0 c (hb r2).1) (vT hc (vT hp (GU hk (pY hi (iK (ih _ _ _ _ g2 w4 c (hb r2).2) e2)))))
  ·obtain⟨b,l3,g2,_,w5,h⟩:=Gd.call hR w h;obtain⟨r2,e2⟩:=hE w5 h;exact iK (ih _ _ _ _ g w0 c (hb r2).1) (vT hc (vI hp (iK (ih _ _ _ _ g2 w c (hb r2).2) e2)))
 ·obtain⟨r2,e2⟩:=hE w1 h;exact iK (ih _ _ _ _ g w0 c (by simpa [eI]using r2)) (vI hc e2)
theorem z6w(w0:W l)(h:Gd (bN m) (gr .assign) l v l'):QQ v l' l .assign:=fun c hr=>by
 have hR:=nC m
 rcases Gd.ahead h.bad with⟨ha,h⟩|⟨ha,h⟩
 ·exact vS (vT (oT ((VI l).trans ha)) (ih _ _ _ _ h.tail w0 c hr))
 ·replace ha:¬0<oa l:=fV ((VI l).trans ha)
  rcases Gd.take w0 h with⟨hy,w,h⟩|⟨hy,h⟩
  ·obtain⟨x,l1,g,_,w1,h⟩:=Gd.call hR w h;obtain⟨rfl,rfl⟩:=h.ret;replace hr:bJ c (nd 22 [x.n])=true:=hr;simp[nd,bJ,kX,eI]at hr;exact vS (vF ha (vT hy (vT hr.1 (iK (ih _ _ _ _ g w c hr.2) rfl))))
  ·have hA:∀{x:PT}{l1:Ts},W l1->Gd (bN m) (vq x) l1 v l'->bJ c x=true/\(if kd l1 0=5 then(if gN (tx l1 0) 24 4=0 then bR (Rv.nd x) l1 else if mb x=true then ndR (ev (.assign c (l1.drop 1))) fun m l2=>bR (Rv.nd (fR 16 (gN (tx l1 0) 24 4) [x,m])) l2 else qY)else bR (Rv.nd x) l1)=bR (Rv.nd v.n) l':=fun{x l1} w h=>by
    rcases Gd.oper w h with⟨hk,hf,w2,h⟩|⟨hf,h⟩
    ·rw[aE hf]at h;obtain⟨y,l2,g,_,w3,h⟩:=Gd.call hR w2 h;obtain⟨rfl,rfl⟩:=h.ret;replace hr:bJ c (fR 16 (gN (tx l1 0) 24 4) [x,y.n])=true:=hr;simp[fR,bJ,kX,eI]at hr;have h5:kd l1 0=5:=hk.elim id fun e=>absurd (w.op e).1 hf
     exact⟨hr.2.1,vT h5 (vF hf (vT hr.1 (iK (ih _ _ _ _ g w2 c hr.2.2) rfl)))⟩
    ·obtain⟨rfl,rfl⟩:=h.ret;refine⟨hr,?_⟩
     split
     ·rename_i hk;exact vT (hf (.inl hk)) rfl
     ·rfl
   obtain⟨x,l1,g,_,w1,h⟩:=Gd.call hR w0 h;have hC:∀{n:PT}{l2:Ts},ev (.cond c l)=bR (Rv.nd n) l2->(if kd l2 0=5 then(if gN (tx l2 0) 24 4=0 then bR (Rv.nd n) l2 else if mb n=true then ndR (ev (.assign c (l2.drop 1))) fun m l3=>bR (Rv.nd (fR 16 (gN (tx l2 0) 24 4) [n,m])) l3 else qY)else bR (Rv.nd n) l2)=bR (Rv.nd v.n) l'->ev (.assign c l)=bR (Rv.nd v.n) l':=fun e t=>vS (vF ha (vI hy (iK e t)))
   rcases Gd.take w1 h with⟨hq,w,h⟩|⟨hq,h⟩
   ·obtain⟨y,l2,g2,_,w2,h⟩:=Gd.call hR w h;obtain⟨hi,w3,h⟩:=Gd.need hR w2 h;obtain⟨z,l3,g3,_,w4,h⟩:=Gd.call hR w3 h;obtain⟨r2,t⟩:=hA w4 h;simp[nd,bJ,kX,eI]at r2;exact hC (vS (iK (ih _ _ _ _ g w0 c r2.1) (vT hq (iK (ih _ _ _ _ g2 w c r2.2.1) (pY hi (iK (ih _ _ _ _ g3 w3 c r2.2.2) rfl)))))) t
   ·obtain⟨r2,t⟩:=hA w1 h;exact hC (vS (iK (ih _ _ _ _ g w0 c r2) (vI hq rfl))) t
theorem xbn(w0:W l)(h:Gd (bN m) (gr .unary) l v l'):QQ v l' l .unary:=fun c hr=>by
 have hR:=nC m
 rcases Gd.take w0 h.bad with⟨ha,w,h⟩|⟨ha,h⟩
 ·obtain⟨x,l1,g,_,w1,h⟩:=Gd.call hR w h;obtain⟨rfl,rfl⟩:=h.ret;replace hr:bJ c (nd 23 [x.n])=true:=hr;simp[nd,bJ,kX,eI]at hr;exact vS (vT (mo ((XR ha).symm.imp aA aA)) (vT (ME ha) (vT hr.1 (iK (ih _ _ _ _ g w c hr.2) rfl))))
 ·have Vc:(kd l 0=5\/kd l 0=2)->¬tx l 0=LF:=fun hk e=>by rw[Nw e hk]at ha;cases ha
  rcases Gd.oper w0 h with⟨hk,hf,w,h⟩|⟨hf,h⟩
  ·rw[aE hf]at h;obtain⟨x,l1,g,_,w1,h⟩:=Gd.call hR w h;obtain⟨rfl,rfl⟩:=h.ret;replace hr:bJ c (fR 12 (gN (tx l 0) 1 5) [x.n])=true:=hr;simp[fR,bJ,kX,eI]at hr;exact vS (vT (mo (hk.imp aA aA)) (vF (Vc hk) (vF (fun e=>e (QC hf).1) (vF hf (iK (ih _ _ _ _ g w c hr.2) (vF (fun⟨a,b,d⟩=>hr.1.elim (fun e=>e a) fun e=>e.elim b d) rfl))))))
  ·rcases Gd.oper w0 h with⟨hk,hg,w,h⟩|⟨hg,h⟩
   ·rw[aE hg]at h;obtain⟨x,l1,g,_,w1,h⟩:=Gd.call hR w h;obtain⟨rfl,rfl⟩:=h.ret;replace hr:bJ c (fR 17 (gN (tx l 0) 28 2) [x.n])=true:=hr;simp[fR,bJ,kX,eI]at hr;exact vS (vT (mo (hk.imp aA aA)) (vF (Vc hk) (vT hg (iK (ih _ _ _ _ g w c hr.2) (vT hr.1 rfl)))))
   ·obtain⟨x,l1,g,_,w1,h⟩:=Gd.call hR w0 h;have hp:ev (.postf c l)=bR (Rv.nd v.n) l':=by
     rcases Gd.oper w1 h with⟨hk,hq,w,h⟩|⟨hq,h⟩
     ·rw[aE hq]at h;obtain⟨rfl,rfl⟩:=h.ret;replace hr:bJ c (fR 17 (gN (tx l1 0) 28 2+100) [x.n])=true:=hr;simp[fR,bJ,kX,eI]at hr;have h5:kd l1 0=5:=hk.elim id fun e=>absurd (w1.op e).2 hq
      exact vS (iK (ih _ _ _ _ g w0 c hr.2) (vT h5 (vF hq (vT hr.1 rfl))))
     ·obtain⟨rfl,rfl⟩:=h.ret;refine vS (iK (ih _ _ _ _ g w0 c hr) ?_)
      split
      ·rename_i hk;exact vT (hq (.inl hk)) rfl
      ·rfl
    refine vS ?_;show ny ev c l=_;unfold ny
    grind
theorem xfx(w0:W l)(h:Gd (bN m) (gr .prim) l v l'):QQ v l' l .prim:=fun c hr=>by
 have hR:=nC m
 rcases Gd.eof h.bad with⟨hl,h⟩|⟨hl,h⟩
 ·exact RJ
 rcases Gd.kdI h with⟨hk,h⟩|⟨h3,h⟩
 ·obtain⟨w,h⟩:=Gd.skip w0 h.ptx;obtain⟨rfl,rfl⟩:=h.ret;exact vS (vF RA (vF RA (vT hk rfl)))
 rcases Gd.kdI h with⟨hk,h⟩|⟨h4,h⟩
 ·obtain⟨w,h⟩:=Gd.skip w0 h.ptx;obtain⟨rfl,rfl⟩:=h.ret;exact vS (vF RA (vT hk rfl))
 rcases Gd.kdI h with⟨hk,h⟩|⟨h1,h⟩
 ·obtain⟨w,h⟩:=Gd.skip w0 h.ptx;obtain⟨rfl,rfl⟩:=h.ret;exact vS (vT hk rfl)
 rcases Gd.take w0 h with⟨hc,w,h⟩|⟨c1,h⟩
 ·obtain⟨rfl,rfl⟩:=h.ret;exact vS (vF h1 (vF h4 (vF h3 (vT hc rfl))))
 rcases Gd.take w0 h with⟨hc,w,h⟩|⟨c2,h⟩
 ·obtain⟨rfl,rfl⟩:=h.ret;exact vS (vF h1 (vF h4 (vF h3 (vI c1 (vT hc rfl)))))
 rcases Gd.take w0 h with⟨hc,w,h⟩|⟨c3,h⟩
 ·obtain⟨rfl,rfl⟩:=h.ret;exact vS (vF h1 (vF h4 (vF h3 (vI c1 (vI c2 (vT hc rfl))))))
 rcases Gd.take w0 h with⟨hc,w,h⟩|⟨c4,h⟩
 ·obtain⟨rfl,rfl⟩:=h.ret;exact vS (vF h1 (vF h4 (vF h3 (vI c1 (vI c2 (vI c3 (vT hc rfl)))))))
 rcases Gd.take w0 h with⟨hc,w,h⟩|⟨c5,h⟩
 ·obtain⟨rfl,rfl⟩:=h.ret;exact vS (vF h1 (vF h4 (vF h3 (vI c1 (vI c2 (vI c3 (vI c4 (vT hc rfl))))))))
 have hh:∀{r:Re Rv},(if aL l 0 jD then ndR (ev (.assign c (l.drop 1))) fun n l1=>eZ eG l1 fun l2=>bR (Rv.nd n) l2
 else if aL l 0 uD then lsR (ev (.list2 xB c (l.drop 1))) fun ks l1=>bR (Rv.nd (nd 9 ks)) l1
 else if aL l 0 nS then lsR (ev (.fields c (l.drop 1))) fun ks l1=>bR (Rv.nd (nd 10 ks)) l1
 else if aL l 0 vA||aL l 0 iW then ev (.func false c l)
 else qY)=r->ev (.prim c l)=r:=fun t=>vS (vF h1 (vF h4 (vF h3 (vI c1 (vI c2 (vI c3 (vI c4 (vI c5 t))))))))
 rcases Gd.take w0 h with⟨hc,w,h⟩|⟨c6,h⟩
 ·obtain⟨x,l1,g,_,w1,h⟩:=Gd.call hR w h;obtain⟨hi,w2,h⟩:=Gd.need hR w1 h;obtain⟨rfl,rfl⟩:=h.ret;exact hh (vT hc (iK (ih _ _ _ _ g w c hr) (pY hi rfl)))
 rcases Gd.take w0 h with⟨hc,w,h⟩|⟨c7,h⟩
 ·obtain⟨x,l1,g,_,w1,h⟩:=Gd.calls hR w h;obtain⟨rfl,rfl⟩:=h.ret;simp[nd,bJ,kX]at hr;exact hh (vI c6 (vT hc (YU (ih _ _ _ _ g w c aT hr) rfl)))
 rcases Gd.take w0 h with⟨hc,w,h⟩|⟨c8,h⟩
 ·obtain⟨ks,hv,t⟩:=ih _ _ _ _ h.tail w;rw[hv]at hr ⊢;exact hh (vI c6 (vI c7 (vT hc (YU (t c hr) rfl))))
 rcases Gd.at_ h with⟨hc,h⟩|⟨c9,h⟩
 ·exact hh (vI c6 (vI c7 (vI c8 (vT (mo (.inl hc)) ((ih _ _ _ _ h.tail w0).2 c hr)))))
 rcases Gd.at_ h with⟨ha,h⟩|⟨ha,h⟩
 ·rcases Gd.at_ h with⟨hb,h⟩|⟨hb,h⟩
  ·exact hh (vI c6 (vI c7 (vI c8 (vT (mo (.inr ha)) ((ih _ _ _ _ h.tail w0).2 c hr)))))
  ·exact RJ
 ·exact RJ
theorem xf0(w0:W l)(h:Gd (bN m) (gr .loop) l v l'):QQ v l' l .loop:=fun c hr=>by
 have hR:=nC m;obtain⟨hi,w,h⟩:=Gd.need hR w0 h;have vH:∀{x:PT}{l1 l2:Ts}{c2:Cx},(tJ l1=true->rK x=true)->rK x=false->ev (.stmt c2 l1)=bR (Rv.nd x) l2->ev (.inner c2 l1)=bR (Rv.nd x) l2:=fun hd hb e=>vS (vF (fun q=>by grind) e)
 have Vs:∀{x:RV}{l1 l2:Ts},bN m .stm l1 false=(x,l2,false)->W l1->rK x.n=false->bJ { c with lp:=true } x.n=true->ev (.body c l1)=bR (Rv.nd x.n) l2:=fun g w hd hr=>vS (vH (ih _ _ _ _ g w).2 hd ((ih _ _ _ _ g w).1 _ hr))
 have h4:∀{a b d:PT}{l1:Ts},W l1->Gd (bN m) (NC a b d) l1 v l'->aL l1 0 eG=true/\∃s:RV,ev (.body c (l1.drop 1))=bR (Rv.nd s.n) l'/\v.n=nd 30 [a,b,d,s.n]/\bJ c a=true/\bJ c b=true/\bJ c d=true:=fun{a b d l1} w h=>by
  obtain⟨hp,w1,h⟩:=Gd.need hR w h;obtain⟨s,l2,g,_,w2,h⟩:=Gd.call hR w1 h;obtain⟨rfl,rfl⟩:=h.ret;replace hr:bJ c (nd 30 [a,b,d,s.n])=true:=hr;rw[Ef]at hr;simp only[gH,eW]at hr;exact⟨hp,s,Vs g w1 hr.2.2.2.1 hr.2.2.2.2,rfl,hr.1,hr.2.1,hr.2.2.1⟩
 have h3:∀{a b:PT}{l2:Ts},W l2->Gd (bN m) (GP a b) l2 v l'->bJ c a=true/\bJ c b=true/\(eZ mH l2 fun l3=>
   if aL l3 0 eG then ndR (ev (.body c (l3.drop 1))) fun s l5=>bR (Rv.nd (nd 30 [a,b,nd 37 [],s])) l5
   else ndR (ev (.assign c l3)) fun d l4=>eZ eG l4 fun l5=>ndR (ev (.body c l5)) fun s l6=>bR (Rv.nd (nd 30 [a,b,d,s])) l6)=bR (Rv.nd v.n) l':=fun{a b l2} w h=>by
  obtain⟨hs,w1,h⟩:=Gd.need hR w h
  rcases Gd.at_ h with⟨hc,h⟩|⟨hc,h⟩
  ·obtain⟨hp,s,e,hv,ra,rb,rd⟩:=h4 w1 h;exact⟨ra,rb,pY hs (vT hc (iK e (by rw[hv])))⟩
  ·obtain⟨d,l3,g,_,w2,h⟩:=Gd.call hR w1 h;obtain⟨hp,s,e,hv,ra,rb,rd⟩:=h4 w2 h;exact⟨ra,rb,pY hs (vI hc (iK (ih _ _ _ _ g w1 c rd) (pY hp (iK e (by rw[hv])))))⟩
 have h2:∀{a:PT}{l1:Ts},W l1->Gd (bN m) (BE a) l1 v l'->bJ c a=true/\mg ev c a l1=bR (Rv.nd v.n) l':=fun{a l1} w h=>by
  obtain⟨hs,w1,h⟩:=Gd.need hR w h
  rcases Gd.at_ h with⟨hc,h⟩|⟨hc,h⟩
  ·obtain⟨ra,rb,t⟩:=h3 w1 h;exact⟨ra,pY hs (vT hc t)⟩
  ·obtain⟨d,l3,g,_,w2,h⟩:=Gd.call hR w1 h;obtain⟨ra,rb,t⟩:=h3 w2 h;exact⟨ra,pY hs (vI hc (iK (ih _ _ _ _ g w1 c rb) t))⟩
 have hK:∀{k q:Int},((k=24/\q=1/\aL (l.drop 1) 0 qC=false)\/(k=25/\q=2/\aL (l.drop 1) 0 qC=true))->(aL (l.drop 1) 0 bi||aL (l.drop 1) 0 qC)=true->Gd (bN m) (ND k q) (l.drop 1) v l'->ev (.loops c l)=bR (Rv.nd v.n) l':=fun{k q} hk hd h=>by
  refine vS ?_;show sl ev c l=_;refine pY hi ?_;have hD:¬(kd (l.drop 1) 1=1/\aL (l.drop 1) 2 vj=true)->Gd (bN m) (YJ k) (l.drop 1) v l'->(if((aL (l.drop 1) 0 bi||aL (l.drop 1) 0 qC)&&(decide (kd (l.drop 1) 1=1)&&aL (l.drop 1) 2 vj))=true then
    ndR (ev (.assign c ((l.drop 1).drop 3))) fun e l1=>eZ eG l1 fun l2=>ndR (ev (.body c l2)) fun s l3=>bR (Rv.nd (.mk 31 (tx (l.drop 1) 1) 0 (if aL (l.drop 1) 0 qC then 2 else 1) [e,s])) l3
   else if(aL (l.drop 1) 0 bi||aL (l.drop 1) 0 qC)=true then ndR (ev (.decl c (l.drop 1))) fun n l1=>mg ev c n l1
   else if aL (l.drop 1) 0 mH then mg ev c (nd 37 []) (l.drop 1)
   else ndR (ev (.assign c (l.drop 1))) fun n l1=>mg ev c (nd 26 [n]) l1)=bR (Rv.nd v.n) l':=fun hn h=>by
   obtain⟨w2,h⟩:=Gd.skip w h;obtain⟨d,l3,g,_,w3,h⟩:=Gd.call hR w2 h;obtain⟨ra,t⟩:=h2 w3 h;refine vF (fun e=>hn aZ) (vT hd (iK (vS ?_) t))
   show ev (.declL (if aL (l.drop 1) 0 qC=true then 25 else 24) [] c ((l.drop 1).drop 1))=_
   rcases hk with⟨rfl,_,hk⟩|⟨rfl,_,hk⟩
   ·rw[hk];exact(ih _ _ _ _ g w2).2 c (.inl rfl) ra
   ·rw[hk];exact(ih _ _ _ _ g w2).2 c (.inr rfl) ra
  rcases Gd.kdI h with⟨h1,h⟩|⟨h1,h⟩
  ·rcases Gd.at_ h with⟨ho,h⟩|⟨ho,h⟩
   ·obtain⟨w2,h⟩:=Gd.skip w h.ptx;obtain⟨e,l3,g,_,w3,h⟩:=Gd.call hR w2 h;obtain⟨hp,w4,h⟩:=Gd.need hR w3 h;obtain⟨s,l4,g2,_,w5,h⟩:=Gd.call hR w4 h;obtain⟨rfl,rfl⟩:=h.ret;replace hr:bJ c (.mk 31 (tx (l.drop 1) 1) 0 q [e.n,s.n])=true:=hr;rw[Oo]at hr;simp only[gH,eW]at hr;refine vT (by rw[hd,h1,ho];rfl) (iK (ih _ _ _ _ g w2 c hr.1) (pY hp (iK (Vs g2 w4 hr.2.1 hr.2.2) ?_)))
    rcases hk with⟨rfl,rfl,hk⟩|⟨rfl,rfl,hk⟩<;>(rw[hk];rfl)
   grind
  grind
 rcases Gd.at_ h with⟨hc,h⟩|⟨hc,h⟩
 ·exact hK (.inl ⟨rfl,rfl,uZ hc aT⟩) (mo (.inl hc)) h
 ·rcases Gd.at_ h with⟨hb,h⟩|⟨hb,h⟩
  ·grind
  ·refine vS ?_;show sl ev c l=_;refine pY hi ?_;rw[hc,hb];refine vF jT (vF aT ?_)
   rcases Gd.at_ h with⟨hs,h⟩|⟨hs,h⟩
   ·exact vT hs (h2 w h).2
   ·obtain⟨x,l1,g,_,w1,h⟩:=Gd.call hR w h;obtain⟨ra,t⟩:=h2 w1 h;exact vI hs (iK (ih _ _ _ _ g w c (VP.symm.trans ra)) t)
theorem xf3(w0:W l)(h:Gd (bN m) (gr .cond) l v l'):QQ v l' l .cond:=fun c hr l0 hi hl=>by
 have hR:=nC m;obtain⟨hp,w1,h⟩:=Gd.need hR w0 h;obtain⟨e,l1,g,_,w2,h⟩:=Gd.call hR w1 h;obtain⟨hq,w3,h⟩:=Gd.need hR w2 h;obtain⟨a,l2,g2,_,w4,h⟩:=Gd.call hR w3 h;have vH:∀{x:RV}{l1 l2:Ts},bN m .stm l1 false=(x,l2,false)->W l1->rK x.n=false->bJ c x.n=true->ev (.inner c l1)=bR (.nd x.n) l2:=fun g w hd hr=>vS (vF (fun q=>by rw[(ih _ _ _ _ g w).2 q]at hd;cases hd) ((ih _ _ _ _ g w).1 c hr))
 have hC:bJ c e.n=true->ev (.condn c (l0.drop 1))=bR (.nd e.n) (l1.drop 1):=fun re=>by
  rw[<-hl];refine vS ?_;show nv ev c l=_;exact pY hp (iK (ih _ _ _ _ g w1 c re) (pY hq rfl))
 rcases Gd.take w4 h with⟨hE,w5,h⟩|⟨hE,h⟩
 ·obtain⟨b,l3,g3,_,w6,h⟩:=Gd.call hR w5 h;obtain⟨rfl,rfl⟩:=h.ret;replace hr:bJ c (nd 28 [e.n,a.n,b.n])=true:=hr;rw[Pk]at hr;simp only[gH,eW]at hr;exact vS (vT hi (iK (hC hr.2.1) (iK (vH g2 w3 hr.2.2.1.1 hr.2.2.1.2) (vT hE (iK (vH g3 w5 hr.2.2.2.1 hr.2.2.2.2) rfl)))))
 ·obtain⟨rfl,rfl⟩:=h.ret;replace hr:bJ c (nd 28 [e.n,a.n])=true:=hr;rw[Pj]at hr;simp only[gH,eW]at hr;exact vS (vT hi (iK (hC hr.1) (iK (vH g2 w3 hr.2.1 hr.2.2) (vI hE rfl))))
theorem PA(w0:W l)(h:Gd (bN m) (gr .stm) l v l'):QQ v l' l .stm:=by
 have hR:=nC m;have jl:∀{k:Int},v.n.kind=k->(k=24\/k=25\/k=11)->rK v.n=true:=fun{k} e hk=>by
  unfold rK
  grind
 rcases Gd.take w0 h.bad with⟨hc,w,h⟩|⟨a1,h⟩
 ·obtain⟨x,l1,g,_,w1,h⟩:=Gd.call hR w h;obtain⟨hi,w2,h⟩:=Gd.need hR w1 h;obtain⟨rfl,rfl⟩:=h.ret;obtain⟨hk,t⟩:=ih _ _ _ _ g w;refine⟨fun c hr=>vS (vT (mo (.inl hc)) (iK (vS ?_) (pY hi rfl))),fun _=>jl hk (.inl rfl)⟩
  show ev (.declL (if aL l 0 qC=true then 25 else 24) [] c (l.drop 1))=_
  rw[uZ hc aT]
  exact t c (.inl rfl) hr
 rcases Gd.take w0 h with⟨hc,w,h⟩|⟨a2,h⟩
 ·obtain⟨x,l1,g,_,w1,h⟩:=Gd.call hR w h;obtain⟨hi,w2,h⟩:=Gd.need hR w1 h;obtain⟨rfl,rfl⟩:=h.ret;obtain⟨hk,t⟩:=ih _ _ _ _ g w;refine⟨fun c hr=>vS (vT (mo (.inr hc)) (iK (vS ?_) (pY hi rfl))),fun _=>jl hk (.inr (.inl rfl))⟩
  show ev (.declL (if aL l 0 qC=true then 25 else 24) [] c (l.drop 1))=_
  rw[hc];exact t c (.inr rfl) hr
 have u0:tJ l=true->Gd (bN m) (.tail (.func true)) l v l'->QQ v l' l .stm:=fun hd h=>by
  obtain⟨hk,t⟩:=ih _ _ _ _ h.tail w0;exact⟨fun c hr=>vS (vF (Fs a1 a2) (vT hd (t c hr))),fun _=>jl hk (.inr (.inr rfl))⟩
 have mM:tJ l=false->Gd (bN m) ye l v l'->QQ v l' l .stm:=fun hd h=>by
  refine⟨fun c hr=>vS (vF (Fs a1 a2) (vF QZ ?_)),fun e=>by rw[hd]at e;cases e⟩
  have vH:∀{x:RV}{l1 l2:Ts}{c2:Cx},bN m .stm l1 false=(x,l2,false)->W l1->rK x.n=false->bJ c2 x.n=true->ev (.inner c2 l1)=bR (.nd x.n) l2:=fun g w hd hr=>vS (vF (fun q=>by rw[(ih _ _ _ _ g w).2 q]at hd;cases hd) ((ih _ _ _ _ g w).1 _ hr))
  rcases Gd.at_ h with⟨hc,h⟩|⟨b1,h⟩
  ·exact vT hc (ih _ _ _ _ h.tail w0 c hr)
  refine vI b1 ?_
  rcases Gd.take w0 h with⟨hc,w,h⟩|⟨b2,h⟩
  ·obtain⟨rfl,rfl⟩:=h.ret;exact vT hc rfl
  refine vI b2 ?_;have vE:∀{s:Bs},aL l 0 s=true->s∈MX->ev (.keyw c l)=bR (.nb v.n true) l'->(if kd l 0=2 then nbR (ev (.keyw c l)) fun n b l1=>if b=true then bR (.nd n) l1 else np ev c l1 else np ev c l)=bR (.nd v.n) l':=fun hi hs e=>vT (w0.word hi hs) (DD e (vT rfl rfl))
  have lz:l.drop 2=(l.drop 1).drop 1:=yc
  rcases Gd.take w0 h with⟨hc,w,h⟩|⟨c1,h⟩
  ·exact vE hc aT (ih _ _ _ _ h.tail w c hr l hc rfl)
  rcases Gd.take w0 h with⟨hc,w,h⟩|⟨c2,h⟩
  ·obtain⟨hp,w1,h⟩:=Gd.need hR w h;obtain⟨e,l1,g,_,w2,h⟩:=Gd.call hR w1 h;obtain⟨hq,w3,h⟩:=Gd.need hR w2 h;obtain⟨a,l2,g2,_,w4,h⟩:=Gd.call hR w3 h;obtain⟨rfl,rfl⟩:=h.ret;replace hr:bJ c (nd 29 [e.n,a.n])=true:=hr;rw[Oq]at hr;simp only[gH,eW]at hr;have hC:ev (.condn c (l.drop 1))=bR (.nd e.n) (l1.drop 1):=by
    refine vS ?_;show nv ev c (l.drop 1)=_;exact pY hp (iK (ih _ _ _ _ g w1 c hr.1) (pY hq rfl))
   refine vE hc aT (vS ?_)
   show xF ev c l=_;exact vI c1 (vT hc (iK hC (iK (vS (vH g2 w3 hr.2.1 hr.2.2)) rfl)))
  rcases Gd.take w0 h with⟨hc,w,h⟩|⟨c3,h⟩
  ·refine vE hc aT (vS ?_)
   show xF ev c l=_;exact vI c1 (vI c2 (vT hc (iK (ih _ _ _ _ h.tail w c hr) rfl)))
  rcases Gd.take w0 h with⟨hc,w,h⟩|⟨c4,h⟩
  ·refine vE hc aT (vS ?_)
   show xF ev c l=_;unfold xF;rw[zh (s:=mH),lz];refine vI c1 (vI c2 (vI c3 (vT hc ?_)))
   rcases Gd.at_ h with⟨hs,h⟩|⟨hs,h⟩
   ·obtain⟨hp,w1,h⟩:=Gd.need hR w h;obtain⟨rfl,rfl⟩:=h.ret;exact vT (Ph.symm.trans hr) (vT hs rfl)
   ·obtain⟨e,l1,g,_,w2,h⟩:=Gd.call hR w h;obtain⟨hq,w3,h⟩:=Gd.need hR w2 h;obtain⟨rfl,rfl⟩:=h.ret;replace hr:bJ c (nd 32 [e.n])=true:=hr;rw[Ob,gH]at hr;exact vT hr.1 (vI hs (iK (ih _ _ _ _ g w c hr.2) (pY hq rfl)))
  rcases Gd.take w0 h with⟨hc,w,h⟩|⟨c5,h⟩
  ·obtain⟨hp,w1,h⟩:=Gd.need hR w h;obtain⟨rfl,rfl⟩:=h.ret;simp[nd,bJ]at hr;refine vE hc aT (vS ?_)
   show xF ev c l=_;unfold xF;refine vI c1 (vI c2 (vI c3 (vI c4 (vT (mo (.inl hc)) (vT hr (pY hp ?_))))));rw[uZ hc aT]
   rfl
  rcases Gd.take w0 h with⟨hc,w,h⟩|⟨c6,h⟩
  ·obtain⟨hp,w1,h⟩:=Gd.need hR w h;obtain⟨rfl,rfl⟩:=h.ret;simp[nd,bJ]at hr;refine vE hc aT (vS ?_)
   show xF ev c l=_;unfold xF;refine vI c1 (vI c2 (vI c3 (vI c4 (vT (mo (.inr hc)) (vT hr (pY hp ?_))))));rw[hc];rfl
  have Ip:¬(aL l 0 nu||aL l 0 kr)=true:=Fs c5 c6
  rcases Gd.take w0 h with⟨hc,w,h⟩|⟨c7,h⟩
  ·obtain⟨e,l1,g,_,w2,h⟩:=Gd.call hR w h;obtain⟨hq,w3,h⟩:=Gd.need hR w2 h;obtain⟨rfl,rfl⟩:=h.ret;refine vE hc aT (vS ?_)
   show xF ev c l=_;exact vI c1 (vI c2 (vI c3 (vI c4 (vF Ip (vT hc (iK (ih _ _ _ _ g w c (On.symm.trans hr)) (pY hq rfl)))))))
  rcases Gd.take w0 h with⟨hc,w,h⟩|⟨c8,h⟩
  ·refine vE hc aT (vS ?_)
   show xF ev c l=_;exact vI c1 (vI c2 (vI c3 (vI c4 (vF Ip (vI c7 (vT hc (iK (ih _ _ _ _ h.tail w c hr) rfl)))))))
  ·obtain⟨x,l1,g,_,w2,h⟩:=Gd.call hR w0 h;obtain⟨hq,w3,h⟩:=Gd.need hR w2 h;obtain⟨rfl,rfl⟩:=h.ret;have hx:np ev c l=bR (.nd (nd 26 [x.n])) (l1.drop 1):=by
    exact iK (ih _ _ _ _ g w0 c (VP.symm.trans hr)) (pY hq rfl)
   have hy:ev (.keyw c l)=bR (.nb (nd 0 []) false) l:=by
    refine vS ?_;show xF ev c l=_;unfold xF;exact vI c1 (vI c2 (vI c3 (vI c4 (vF Ip (vI c7 (vI c8 rfl))))))
   split
   ·exact DD hy (vF aT hx)
   ·exact hx
 have jm:∀{b:Bool},(aL l 0 vA||(aL l 0 iW&&aL l 1 vA))=b->tJ l=b:=fun e=>by
  unfold tJ;rw[a1,a2,e];rfl
 rcases Gd.at_ h with⟨hc,h⟩|⟨a3,h⟩
 ·grind
 rcases Gd.at_ h with⟨hc,h⟩|⟨a4,h⟩
 ·rcases Gd.at_ h with⟨hb,h⟩|⟨hb,h⟩
  ·grind
  grind
 grind
end
theorem P8:∀(m:Nat)(s:RS)(l:Ts)(v:RV)(l':Ts),bN m s l false=(v,l',false)->W l->QQ v l' l s
 |0,s,l,v,l',h,w=>by cases h
 |m+1,s,l,v,l',h,w=>by
  have ih:=P8 m
  cases s with
  |stms=>exact xfw ih w h
  |stmsL acc=>exact xbo ih w h
  |stm=>exact PA ih w h
  |block=>exact xbu ih w h
  |decls k=>exact xbs ih w h
  |declsL k acc=>exact z6u ih w h
  |cond=>exact xf3 ih w h
  |loop=>exact xf0 ih w h
  |tryR=>exact xfv ih w h
  |func d=>exact xf2 ih w h
  |names=>exact xbp ih w h
  |namesL acc=>exact z6t ih w h
  |arrow=>exact xbv ih w h
  |assign=>exact z6w ih w h
  |lv k=>exact Fr ih w h
  |lvL k x=>exact PD ih w h
  |unary=>exact xbn ih w h
  |list e=>exact xf1 ih w h
  |listL e acc=>exact xbq ih w h
  |chain=>exact xbt ih w h
  |newL x=>exact xfz ih w h
  |chainL x=>exact z6v ih w h
  |prim=>exact xfx ih w h
  |obj=>exact PC ih w h
  |objL acc=>exact xfy ih w h
  |field=>exact xbr ih w h
end Go.Proofs.YtjkcdcloomkooaaGreatDoor
