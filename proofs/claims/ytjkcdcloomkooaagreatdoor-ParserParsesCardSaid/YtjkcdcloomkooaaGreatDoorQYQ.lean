/- Own work: walks and laws of the parser and its reference. -/
import Derived.Test.YtjkcdcloomkooaaGreatDoorQYP
set_option linter.unusedVariables false
set_option linter.unusedSimpArgs false
set_option linter.unusedSectionVars false
set_option maxHeartbeats 4000000
set_option maxRecDepth 100000
namespace Go.Proofs.YtjkcdcloomkooaaGreatDoor
def PT.nm:PT->Bs
 | .mk _ s _ _ _=>s
def PT.kids:PT->List PT
 | .mk _ _ _ _ ks=>ks
def oD(n:PT):Bool:=decide (n.kind=24)||(decide (n.kind=25)||decide (n.kind=11))
mutual
def lN:PT->Bool
 | .mk k _ _ _ ks=>if k=28/\ks.length=2 then true else if k=28\/k=29\/k=30\/k=31 then wZ ks else false
def wZ:List PT->Bool
 |[]=>false
 |x::l=>if l.isEmpty then lN x else wZ l
end
def IY:List PT->Bool
 |_::y::_=>lN y
 |_=>false
def jM(c:Cx)(k o:Int)(ks:List PT):Bool:=
 if k=32 then c.fn
 else if k=22 then c.gn
 else if k=23 then c.as_
 else if k=16\/k=17 then(match ks with|x::_=>fy x|[]=>false)
 else if k=12 then(match ks with|x::_=>!(decide (o=5))||(decide (x.kind=18)||decide (x.kind=19))|[]=>false)
 else if k=25 then ks.all fun x=>!x.kids.isEmpty
 else if k=36 then decide (2<=ks.length)
 else if k=11 then oU (oR ks.dropLast)
 else true
mutual
def bE(c:Cx):PT->Bool
 | .mk k _ _ o ks=>
  if k=33\/k=34 then c.lp
  else if k=28\/k=29\/k=30\/k=31 then !(decide (k=28)&&(decide (ks.length=3)&&IY ks))&&tX c (decide (k≠28)) (if k=30 then 3 else 1) ks
  else jM c k o ks&&dW (if k=11 then pE o else c) ks
def dW(c:Cx):List PT->Bool
 |[]=>true
 |x::l=>bE c x&&dW c l
def tX(c:Cx)(q:Bool)(fr:Nat):List PT->Bool
 |[]=>true
 |x::l=>if fr=0 then !oD x&&(bE { c with lp:=c.lp||q } x&&tX c q 0 l)else bE c x&&tX c q (fr-1) l
end
theorem yJ{c:Cx}:∀a b:List PT,dW c (a++b)=(dW c a&&dW c b)
 |[],b=>by simp[dW]
 |x::a,b=>by rw[qD,dW,dW,yJ a b,Bool.and_assoc]
structure Kp(t:Tk):Prop where
 a:t.k≠0
 b:t.k=5->t.t ∉ [nf,p9,py,pf,n5,jc,oy,q7]
 c:t.k=2->gF t.t 24 4=0/\gF t.t 28 2=0
def W(l:Ts):Prop:=∀t∈l,Kp t
theorem W.suf{l l':Ts}(h:W l)(hs:l' <:+ l):W l':=fun t ht=>h t (hs.subset ht)
theorem W.drop{l:Ts}(h:W l)(n:Nat):W (l.drop n):=h.suf (bJ _ _)
theorem vL{l:Ts}{n:Nat}{s s':Bs}(h:aM l n s=true)(hs:s≠s'):aM l n s'=false:=by
 have:=JW h
 unfold aM;rw[this];simp[hs]
theorem Hg{l:Ts}{n:Nat}{s:Bs}{k:Int}(h:kd l n=k)(hk:k≠2/\k≠5):aM l n s=false:=by
 unfold aM;rw[h];simp[hk]
theorem ZG{l:Ts}{n:Nat}(h:kd l n≠0):∃t,l[n]?=some t/\kd l n=t.k/\tx l n=t.t:=by
 have:=lO rfl h
 have e:=aB this;exact⟨_,e,by unfold kd;rw[e],by unfold tx;rw[e]⟩
theorem W.kd0{l:Ts}(h:W l)(hl:l≠[]):kd l 0≠0:=by
 cases l with
 |nil=>exact absurd rfl hl
 |cons t l=>exact(h t (cK ..)).a
theorem W.word{l:Ts}(h:W l){s:Bs}(hi:aM l 0 s=true)(hs:s∈[nf,p9,py,pf,n5,jc,oy,q7]):kd l 0=2:=by
 rcases OM hi with hk|hk
 ·exact hk
 ·obtain⟨t,ht,h1,h2⟩:=ZG (l:=l) (n:=0) FP
  have hb:=(h t (aH ht)).b (h1 ▸ hk);rw[<-h2,JW hi]at hb;exact absurd hs hb
theorem W.op{l:Ts}(h:W l)(hk:kd l 0=2):gF (tx l 0) 24 4=0/\gF (tx l 0) 28 2=0:=by
 obtain⟨t,ht,h1,h2⟩:=ZG (l:=l) (n:=0) FP
 rw[h2];exact(h t (aH ht)).c (h1 ▸ hk)
def Gd(R:RR)(p:RP)(l:Ts)(v:RV)(l':Ts):Prop:=p.run R l false=(v,l',false)
section
variable{R:RR}(hR:∀s l b,nS l b (R s l b)){l l':Ts}{v:RV}
theorem Em{p:RP}{o:RV×Ts×Bool}(hR:∀s l b,nS l b (R s l b))(h:p.run R l true=o)(ho:o.2.2=false):False:=by
 have:=(yL hR p l true).b rfl
 grind
theorem Gd.ret{v0:RV}(h:Gd R (.ret v0) l v l'):v0=v/\l=l':=by
 unfold Gd at h;rw[RP.run]at h;cases h;exact⟨rfl,rfl⟩
theorem Gd.tail{s:RS}(h:Gd R (.tail s) l v l'):R s l false=(v,l',false):=h
include hR
theorem Gd.call(w:W l){s:RS}{k:PT->RP}(h:Gd R (.call s k) l v l'):∃x l1,R s l false=(x,l1,false)/\l1 <:+ l/\W l1/\Gd R (k x.n) l1 v l':=by
 exact Wu
theorem Gd.calls(w:W l){s:RS}{k:List PT->RP}(h:Gd R (.calls s k) l v l'):∃x l1,R s l false=(x,l1,false)/\l1 <:+ l/\W l1/\Gd R (k x.s) l1 v l':=by
 exact Wu
theorem Gd.need(w:W l){s:Bs}{k:RP}(h:Gd R (.need s k) l v l'):aM l 0 s=true/\W (l.drop 1)/\Gd R k (l.drop 1) v l':=by
 exact Kf
omit hR
theorem Gd.take(w:W l){s:Bs}{x y:RP}(h:Gd R (.take s x y) l v l'):(aM l 0 s=true/\W (l.drop 1)/\Gd R x (l.drop 1) v l')\/(aM l 0 s=false/\Gd R y l v l'):=by
 unfold Gd at h;rw[RP.run]at h
 split at h
 ·rename_i hc;exact .inl ⟨hc.2,w.drop 1,h⟩
 ·rename_i hc;exact .inr ⟨by grind,h⟩
theorem Gd.at_{n:Nat}{s:Bs}{x y:RP}(h:Gd R (.at_ n s x y) l v l'):(aM l n s=true/\Gd R x l v l')\/(aM l n s=false/\Gd R y l v l'):=by
 exact Wo
theorem Gd.kdI{n:Nat}{k:Int}{x y:RP}(h:Gd R (.kdI n k x y) l v l'):(kd l n=k/\Gd R x l v l')\/(kd l n≠k/\Gd R y l v l'):=by
 exact Wh
include hR
theorem Gd.name(w:W l){k:Bs->RP}(h:Gd R (.name k) l v l'):kd l 0=1/\W (l.drop 1)/\Gd R (k (tx l 0)) (l.drop 1) v l':=by
 exact Kf
theorem Gd.key(w:W l){k:Bs->RP}(h:Gd R (.key k) l v l'):(kd l 0=1\/kd l 0=2)/\W (l.drop 1)/\Gd R (k (tx l 0)) (l.drop 1) v l':=by
 exact Kf
omit hR
theorem Gd.oper(w:W l){fr cnt:Nat}{k:Int->RP}(h:Gd R (.oper fr cnt k) l v l'):((kd l 0=5\/kd l 0=2)/\gF (tx l 0) fr cnt≠0/\W (l.drop 1)/\Gd R (k (gF (tx l 0) fr cnt)) (l.drop 1) v l')\/(((kd l 0=5\/kd l 0=2)->gF (tx l 0) fr cnt=0)/\Gd R (k 0) l v l'):=by
 unfold Gd at h;rw[RP.run]at h
 split at h
 ·rename_i hc;exact .inl ⟨hc.2.1,hc.2.2,w.drop 1,h⟩
 ·rename_i hc;exact .inr ⟨fun hk=>Decidable.byContradiction fun hn=>hc ⟨rfl,hk,hn⟩,h⟩
theorem Gd.bad{x y:RP}(h:Gd R (.bad x y) l v l'):Gd R y l v l':=h
theorem Gd.eof{x y:RP}(h:Gd R (.eof x y) l v l'):(l=[]/\Gd R x l v l')\/(l≠[]/\Gd R y l v l'):=by
 exact Wh
theorem Gd.skip(w:W l){n:Nat}{k:RP}(h:Gd R (.skip n k) l v l'):W (l.drop n)/\Gd R k (l.drop n) v l':=⟨w.drop n,h⟩
theorem Gd.ptx{n:Nat}{k:Bs->RP}(h:Gd R (.ptx n k) l v l'):Gd R (k (tx l n)) l v l':=h
theorem Gd.kdv{n:Nat}{k:Int->RP}(h:Gd R (.kdv n k) l v l'):Gd R (k (kd l n)) l v l':=h
theorem Gd.ahead{x y:RP}(h:Gd R (.ahead x y) l v l'):(lc l=true/\Gd R x l v l')\/(lc l=false/\Gd R y l v l'):=by
 exact Wo
include hR
theorem Gd.fail{x:RP}(h:Gd R (.fail x) l v l'):False:=Em hR h rfl
end
def GG(p:RP)(l:Ts)(v:RV)(l':Ts):Prop:=∃m,∀k,m<=k->p.run (bX k) l false=(v,l',false)
section
variable{l l' l1:Ts}{v:RV}
theorem GG.ret:GG (.ret v) l v l:=⟨0,fun _ _=>rfl⟩
theorem GG.tail{s:RS}(h:GG (gr s) l v l'):GG (.tail s) l v l':=by
 obtain⟨m,h⟩:=h;refine⟨m+1,fun k hk=>?_⟩
 obtain⟨k,rfl⟩:∃j,k=j+1:=⟨k-1,by omega⟩
 exact h k oM
theorem GG.call{s:RS}{k:PT->RP}{x:PT}(h1:GG (gr s) l (.nd x) l1)(h2:GG (k x) l1 v l'):GG (.call s k) l v l':=by
 obtain⟨m1,h1⟩:=GG.tail h1;obtain⟨m2,h2⟩:=h2;refine⟨max m1 m2,fun j hj=>?_⟩
 have e1:bX j s l false=(.nd x,l1,false):=h1 j oM
 rw[RP.run,e1];exact h2 j oM
theorem GG.calls{s:RS}{k:List PT->RP}{x:List PT}(h1:GG (gr s) l (.ls x) l1)(h2:GG (k x) l1 v l'):GG (.calls s k) l v l':=by
 obtain⟨m1,h1⟩:=GG.tail h1;obtain⟨m2,h2⟩:=h2;refine⟨max m1 m2,fun j hj=>?_⟩
 have e1:bX j s l false=(.ls x,l1,false):=h1 j oM
 rw[RP.run,e1];exact h2 j oM
theorem GG.need{w:Bs}{p:RP}(hi:aM l 0 w=true)(h:GG p (l.drop 1) v l'):GG (.need w p) l v l':=by
 exact Ch
theorem GG.take_t{w:Bs}{p q:RP}(hi:aM l 0 w=true)(h:GG p (l.drop 1) v l'):GG (.take w p q) l v l':=by
 exact Ch
theorem GG.take_f{w:Bs}{p q:RP}(hi:aM l 0 w=false)(h:GG q l v l'):GG (.take w p q) l v l':=by
 obtain⟨m,h⟩:=h;exact⟨m,fun k hk=>by rw[RP.run,aD (fun e=>by rw[hi]at e;cases e.2)];exact h k hk⟩
theorem GG.at_t{n:Nat}{w:Bs}{p q:RP}(hi:aM l n w=true)(h:GG p l v l'):GG (.at_ n w p q) l v l':=by
 exact Cg
theorem GG.at_f{n:Nat}{w:Bs}{p q:RP}(hi:aM l n w=false)(h:GG q l v l'):GG (.at_ n w p q) l v l':=by
 exact Vo
theorem GG.kd_t{n:Nat}{q:Int}{p p':RP}(hi:kd l n=q)(h:GG p l v l'):GG (.kdI n q p p') l v l':=by
 exact Cg
theorem GG.kd_f{n:Nat}{q:Int}{p p':RP}(hi:kd l n≠q)(h:GG p' l v l'):GG (.kdI n q p p') l v l':=by
 exact V4
theorem GG.name{k:Bs->RP}(hi:kd l 0=1)(h:GG (k (tx l 0)) (l.drop 1) v l'):GG (.name k) l v l':=by
 exact Ch
theorem GG.key{k:Bs->RP}(hi:kd l 0=1\/kd l 0=2)(h:GG (k (tx l 0)) (l.drop 1) v l'):GG (.key k) l v l':=by
 exact Ch
theorem GG.op_t{fr cnt:Nat}{k:Int->RP}(hi:kd l 0=5\/kd l 0=2)(hn:gF (tx l 0) fr cnt≠0)(h:GG (k (gF (tx l 0) fr cnt)) (l.drop 1) v l'):GG (.oper fr cnt k) l v l':=by
 obtain⟨m,h⟩:=h;exact⟨m,fun k hk=>by rw[RP.run,aF ⟨rfl,hi,hn⟩];exact h k hk⟩
theorem GG.op_f{fr cnt:Nat}{k:Int->RP}(hn:(kd l 0=5\/kd l 0=2)->gF (tx l 0) fr cnt=0)(h:GG (k 0) l v l'):GG (.oper fr cnt k) l v l':=by
 obtain⟨m,h⟩:=h;exact⟨m,fun k hk=>by rw[RP.run,aD (fun e=>e.2.2 (hn e.2.1))];exact h k hk⟩
theorem GG.bad{p q:RP}(h:GG q l v l'):GG (.bad p q) l v l':=h
theorem GG.eof_t{p q:RP}(hi:l=[])(h:GG p l v l'):GG (.eof p q) l v l':=by
 exact Cg
theorem GG.eof_f{p q:RP}(hi:l≠[])(h:GG q l v l'):GG (.eof p q) l v l':=by
 exact V4
theorem GG.skip{n:Nat}{p:RP}(h:GG p (l.drop n) v l'):GG (.skip n p) l v l':=h
theorem GG.ptx{n:Nat}{p:Bs->RP}(h:GG (p (tx l n)) l v l'):GG (.ptx n p) l v l':=h
theorem GG.kdv{n:Nat}{p:Int->RP}(h:GG (p (kd l n)) l v l'):GG (.kdv n p) l v l':=h
theorem GG.ah_t{p q:RP}(hi:lc l=true)(h:GG p l v l'):GG (.ahead p q) l v l':=by
 exact Cg
theorem GG.ah_f{p q:RP}(hi:lc l=false)(h:GG q l v l'):GG (.ahead p q) l v l':=by
 exact Vo
end
def Rv.n:Rv->PT
 | .nd x=>x
 | .nb x _=>x
 | .ls _=>.mk 0 [] 0 0 []
def Rv.s:Rv->List PT
 | .ls l=>l
 |_=>[]
def PJ:List Bs:=[nf,p9,py,pf,n5,jc,oy,q7]
def RU:RP:=.call .chain fun x=>.oper 28 2 fun q=>if q=0 then iX x else iX (gC 17 (q+100) [x])
def Ij:RP:=.call (.lv 0) fun x=>.take ZQ (.call .assign fun y=>.need zx (.call .assign fun z=>ue (nd 15 [x,y,z]))) (ue x)
theorem yI{x:PT}:(Rv.nd x).n=x:=rfl
theorem fq{x:PT}{b:Bool}:(Rv.nb x b).n=x:=rfl
theorem B7{x:List PT}:(Rv.ls x).s=x:=rfl
theorem Sn{x:PT}{b:Bool}:(Rv.nb x b).ok=b:=rfl
def zl(x:PT)(l:Ts):Prop:=lN x=true->aM l 0 CZ=false
theorem NE{x:PT}{l:Ts}(h:x.kind≠28/\x.kind≠29/\x.kind≠30/\x.kind≠31):zl x l:=fun ht=>by
 cases x with
 |mk k nm i o ks=>
  replace h:k≠28/\k≠29/\k≠30/\k≠31:=h;rw[lN]at ht;simp[h]at ht
structure BN(c:Cx)(p:RP)(l:Ts)(x:PT)(l':Ts):Prop where
 g:GG p l (.nd x) l'
 r:bE c x=true
 e:zl x l'
def oX(v:Rv)(l':Ts):Sy->Prop
 | .stmt c l=>BN c q8 l v.n l'/\(sM l=false->oD v.n=false)
 | .keyw c l=>(v.ok=true->BN c vi l v.n l'/\oD v.n=false)/\(v.ok=false->l'=l/\∀w∈PJ,aM l 0 w=false)
 | .condn c l=>aM l 0 iS=true/\bE c v.n=true/\∃l1,GG DJ (l.drop 1) (.nd v.n) l1/\aM l1 0 eQ=true/\l'=l1.drop 1
 | .inner c l=>BN c q8 l v.n l'/\oD v.n=false
 | .body c l=>BN { c with lp:=true } q8 l v.n l'/\oD v.n=false
 | .loops c l=>BN c (gr .loop) l v.n l'/\oD v.n=false
 | .tryS c l=>GG QG l (.nd v.n) l'/\bE c v.n=true/\v.n.kind=36
 | .decl c l=>∃k,((k=25/\aM l 0 pZ=true)\/(k=24/\aM l 0 pZ=false))/\GG (gr (.decls k)) (l.drop 1) (.nd v.n) l'/\bE c v.n=true/\v.n.kind=k
 | .declL k acc c l=>(k=24\/k=25)->bE c (nd k acc)=true->GG (NF k acc) l (.nd v.n) l'/\bE c v.n=true/\v.n.kind=k
 | .block c l=>GG (gr .block) l (.nd v.n) l'/\bE c v.n=true/\v.n.kind=27
 | .blockL acc c l=>dW c acc=true->∃ks l1,v.n=nd 27 ks/\GG (IH acc) l (.ls ks) l1/\aM l1 0 sK=true/\l'=l1.drop 1/\dW c ks=true
 | .func d c l=>GG (IG d) l (.nd v.n) l'/\bE c v.n=true/\v.n.kind=11/\(aM l 0 jI=true->aM l 1 uN=true)
 | .arrow c l=>GG (gr .arrow) l (.nd v.n) l'/\bE c v.n=true
 | .assign c l=>GG DJ l (.nd v.n) l'/\bE c v.n=true
 | .cond c l=>bE c v.n=true/\∀w l2,GG (ue v.n) l' w l2->GG Ij l w l2
 | .opnd k c l=>GG (lm k) l (.nd v.n) l'/\bE c v.n=true
 | .opndL k n c l=>bE c n=true->GG (gr (.lvL k n)) l (.nd v.n) l'/\bE c v.n=true
 | .unary c l=>GG NH l (.nd v.n) l'/\bE c v.n=true
 | .postf c l=>GG RU l (.nd v.n) l'/\bE c v.n=true
 | .link n c l=>(v.ok=false->v.n=n/\l'=l/\aM l 0 AZ=false/\aM l 0 sX=false)/\(v.ok=true->bE c n=true->bE c v.n=true/\(∀w l2,GG (zy v.n) l' w l2->GG (zy n) l w l2)/\∀w l2,GG (CR v.n) l' w l2->GG (CR n) l w l2)
 | .chain c l=>GG (gr .chain) l (.nd v.n) l'/\bE c v.n=true
 | .chainN n c l=>bE c n=true->GG (CR n) l (.nd v.n) l'/\bE c v.n=true
 | .chainL n c l=>bE c n=true->GG (zy n) l (.nd v.n) l'/\bE c v.n=true
 | .list2 e c l=>e≠sY->GG (gr (.list e)) l (.ls v.s) l'/\dW c v.s=true
 | .list2L e acc c l=>e≠sY->dW c acc=true->GG (zh e acc) l (.ls v.s) l'/\dW c v.s=true
 | .prim c l=>GG PQ l (.nd v.n) l'/\bE c v.n=true
 | .fields c l=>GG (gr .obj) l (.nd (nd 10 v.s)) l'/\dW c v.s=true
 | .fieldsL acc c l=>dW c acc=true->GG (QF acc) l (.nd (nd 10 v.s)) l'/\dW c v.s=true
 | .field c l=>GG NG l (.nd v.n) l'/\bE c v.n=true
def Tq(R:Sy->Re Rv):Prop:=∀s v l',R s=some (some (v,l'))->W s.l->W l'/\oX v l' s
section
variable{R:Sy->Re Rv}{l:Ts}{r:Rv×Ts}
theorem Gy{n:Nat}{s:Bs}(h:aM l n s=true):l≠[]:=fun e=>by subst e;simp[aM,kd]at h
theorem SQ{k:Int}(h:kd l 0=k)(hk:k≠0):l≠[]:=fun e=>by subst e;exact hk h.symm
theorem xi8(h:¬kd l 0=0):l≠[]:=fun e=>by subst e;exact h rfl
theorem W.nokey(w:W l)(h:¬kd l 0=2):∀s∈PJ,aM l 0 s=false:=fun s hs=>by
 cases hi:aM l 0 s with
 |false=>rfl
 |true=>exact absurd (w.word hi hs) h
theorem T0{s:Bs}{fr cnt:Nat}(h:gF s fr cnt≠0):∃j,j<cnt/\af[fr+j]?=some s:=by
 unfold gF at h
 split at h
 ·rename_i j hj;have h1:=List.find?_some hj;exact⟨j,bV.1 (List.mem_of_find?_eq_some hj),oT h1⟩
 ·exact absurd (Eq.refl _) h
theorem S9{s:Bs}(h:gF s 28 2≠0):gF s 1 5=0/\s≠IZ:=by
 obtain⟨j,hj,e⟩:=T0 h
 have:j=0\/j=1:=eC
 rcases this with rfl|rfl<;>(cases e;decide)
theorem TL{s:Bs}(h:gF s 1 5≠0):gF s 28 2=0/\s≠IZ:=by
 obtain⟨j,hj,e⟩:=T0 h
 have:j=0\/j=1\/j=2\/j=3\/j=4:=eC
 rcases this with rfl|rfl|rfl|rfl|rfl<;>(cases e;decide)
theorem Gx{n:Nat}{s:Bs}(h:¬tx l n=s):aM l n s=false:=by unfold aM;simp[h]
theorem xjy{n:Nat}{s:Bs}(h:¬kd l n=5)(h':¬kd l n=2):aM l n s=false:=by unfold aM;simp[h,h']
theorem T8{n:Nat}{s:Bs}(h:tx l n=s)(hk:kd l n=5\/kd l n=2):aM l n s=true:=by
 unfold aM;rw[h]
 rcases hk with hk|hk<;>rw[hk]<;>simp
theorem Qs{l:Ts}:∀(m n:Nat),l.length<n+m->(match ph l m n with
  |some k=>aM l k eQ&&aM l (k+1) pD
  |none=>false)=(if aM l n eQ=true then aM l (n+1) pD else ou l m n)
 |0,n,h=>by
  have h0:aM l n eQ=false:=by
   cases hi:aM l n eQ with
   |false=>rfl
   |true=>have:=nZ hi;omega
  rw[ph,ou,h0];rfl
 |m+1,n,h=>by
  rw[ph,ou]
  by_cases h1:kd l n=1
  ·have h0:aM l n eQ=false:=Hg h1 aN
   rw[aF h1,aF h1,h0];simp only[aK,bN]
   by_cases h2:aM l (n+1) sY=true
   ·have h3:aM l (n+1) eQ=false:=vL h2 aN
    rw[aF h2,aF h2,h3];simp only[aK,bN]
    by_cases h4:kd l (n+2)=1
    ·rw[aF h4,Qs m (n+2) oM]
     have h5:aM l (n+2) eQ=false:=Hg h4 aN
     rw[h5];rfl
    ·rw[aD h4]
     cases m with
     |zero=>rfl
     |succ m=>rw[ou,aD h4]
   ·rw[aD h2,aD h2];show(aM l (n+1) eQ&&aM l (n+2) pD)=_
    cases aM l (n+1) eQ<;>rfl
  ·rw[aD h1,aD h1];show(aM l n eQ&&aM l (n+1) pD)=_
   cases aM l n eQ<;>rfl
theorem YX(l:Ts):decide (0<je l)=lc l:=by
 unfold je lc;generalize (if aM l 0 jI=true then 1 else 0)=n0
 by_cases h1:kd l n0=1
 ·rw[aF h1,aF h1]
  cases aM l (n0+1) pD<;>simp
 ·rw[aD h1,aD h1]
  by_cases h2:aM l n0 iS=true
  ·have:=Qs (l:=l) (l.length+1) (n0+1) oM
   rw[aF h2,aF h2,<- this]
   cases ph l (l.length+1) (n0+1)with
   |none=>rfl
   |some k=>
    simp only
    split
    ·rename_i hq;rw[hq];simp
    ·rename_i hq;simpa using hq
  ·rw[aD h2,aD h2];rfl
theorem UI{l:Ts}(h:0<je l):lc l=true:=by rw[<-YX];exact aA h
theorem UJ{l:Ts}(h:¬0<je l):lc l=false:=by rw[<-YX];exact dF h
theorem zi:l.drop 2=(l.drop 1).drop 1:=by rw[zD]
theorem Bj:kd l 1=kd (l.drop 1) 0:=by unfold kd;rw[dK]
theorem Hv:tx l 1=tx (l.drop 1) 0:=by unfold tx;rw[dK]
theorem AW{s:Bs}:aM l 1 s=aM (l.drop 1) 0 s:=by unfold aM;rw[Bj,Hv]
theorem ag{s:Bs}{k:Ts->Re Rv}(h:fV s l k=some (some r))(w:W l):aM l 0 s=true/\W (l.drop 1)/\k (l.drop 1)=some (some r):=by
 unfold fV at h
 split at h
 ·rename_i hc;exact⟨hc,w.drop 1,h⟩
 ·cases h
theorem S6{k:Bs->Ts->Re Rv}(h:rC l k=some (some r))(w:W l):kd l 0=1/\W (l.drop 1)/\k (tx l 0) (l.drop 1)=some (some r):=by
 unfold rC at h
 split at h
 ·rename_i hc;exact⟨hc,w.drop 1,h⟩
 ·cases h
theorem xi{α:Type}{x:Re α}{k:α->Ts->Re Rv}(h:bnd x k=some (some r)):∃a l1,x=some (some (a,l1))/\k a l1=some (some r):=by
 match x,h with
 |some (some (a,l1)),h=>exact⟨a,l1,rfl,h⟩
theorem qF(ih:Tq R){s:Sy}{k:PT->Ts->Re Rv}(h:ndR (R s) k=some (some r))(w:W s.l):∃n l1,W l1/\oX (.nd n) l1 s/\k n l1=some (some r):=by
 obtain⟨a,l1,e,h⟩:=xi h;have t:=ih _ _ _ e w
 cases a with
 |nd n=>exact⟨n,l1,t.1,t.2,h⟩
 |nb n b=>cases h
 |ls n=>cases h
theorem Je(ih:Tq R){s:Sy}{k:PT->Bool->Ts->Re Rv}(h:nbR (R s) k=some (some r))(w:W s.l):∃n b l1,W l1/\oX (.nb n b) l1 s/\k n b l1=some (some r):=by
 obtain⟨a,l1,e,h⟩:=xi h;have t:=ih _ _ _ e w
 cases a with
 |nb n b=>exact⟨n,b,l1,t.1,t.2,h⟩
 |nd n=>cases h
 |ls n=>cases h
theorem Jf(ih:Tq R){s:Sy}{k:List PT->Ts->Re Rv}(h:lsR (R s) k=some (some r))(w:W s.l):∃n l1,W l1/\oX (.ls n) l1 s/\k n l1=some (some r):=by
 obtain⟨a,l1,e,h⟩:=xi h;have t:=ih _ _ _ e w
 cases a with
 |ls n=>exact⟨n,l1,t.1,t.2,h⟩
 |nd n=>cases h
 |nb n b=>cases h
theorem lD{c:Prop} [Decidable c] {x y:Re Rv} (h:(if c then x else y)=some (some r)):(c/\x=some (some r))\/(¬c/\y=some (some r)):=by
 split at h
 ·exact .inl ⟨by assumption,h⟩
 ·exact .inr ⟨by assumption,h⟩
theorem qE{a v:Rv}{l':Ts}(h:bY a l=some (some (v,l'))):a=v/\l=l':=by cases h;exact⟨rfl,rfl⟩
theorem Ou(h:(rK:Re Rv)=some (some r)):False:=by cases h
theorem Nx:∀(n:Nat)(acc:List PT)(l:Ts){ps:List PT}{l1:Ts},W l->namesL n acc l=some (some (ps,l1))->(∀c,dW c acc=true)->W l1/\GG (zr acc) l (.ls ps) l1/\oU (oR ps)=true/\∀c,dW c ps=true
 |0,_,_,_,_,_,h,_=>by cases h
 |n+1,acc,l,ps,l1,w,h,hr=>by
  rw[namesL]at h;unfold rC at h;have hx:∀s c,dW c (acc++[eD 7 s []])=true:=fun s c=>by rw[yJ,hr c];simp[dW,bE,eD,jM]
  split at h
  ·rename_i hk;simp only at h
   split at h
   ·rename_i hp
    split at h
    ·rename_i hd
     cases h
     exact⟨(w.drop 1).drop 1,.bad (.name hk (.take_f (vL hp aN) (.need hp .ret))),hd,hx _⟩
    ·cases h
   ·rename_i hp;unfold fV at h
    split at h
    ·rename_i hm;obtain⟨h1,h2,h3,h4⟩:=Nx n _ _ ((w.drop 1).drop 1) h (hx _);exact⟨h1,.bad (.name hk (.take_t hm (.tail h2))),h3,h4⟩
    ·cases h
  ·cases h
theorem xkq{k:List PT->Ts->Re Rv}(h:bnd (xS l) k=some (some r))(w:W l):∃ps l1,W l1/\GG (gr .names) l (.ls ps) l1/\oU (oR ps)=true/\(∀c,dW c ps=true)/\k ps l1=some (some r):=by
 obtain⟨ps,l1,e,h⟩:=xi h;unfold xS fV at e
 split at e
 ·rename_i hi;simp only at e
  split at e
  ·rename_i hp
   cases e
   exact⟨_,_,(w.drop 1).drop 1,.need hi (.take_t hp .ret),rfl,fun _=>rfl,h⟩
  ·rename_i hp;obtain⟨h1,h2,h3,h4⟩:=Nx _ _ _ (w.drop 1) e fun _=>rfl
   exact⟨_,_,h1,.need hi (.take_f (by simpa using hp) (.tail h2)),h3,h4,h⟩
 ·cases e
end
theorem GG.if_t{c:Prop} [Decidable c] {p q:RP} {l l':Ts} {v:RV} (hc:c) (h:GG p l v l'):GG (if c then p else q) l v l':=by rwa[aF hc]
theorem GG.if_f{c:Prop} [Decidable c] {p q:RP} {l l':Ts} {v:RV} (hc:¬c) (h:GG q l v l'):GG (if c then p else q) l v l':=by rwa[aD hc]
theorem zK{p:Prop} (hp:p:=by
 first
  |assumption
  |exact vL jO aN
  |exact Hg jO aN
  |exact rfl
  |exact Gx jO
  |exact T8 jO (by first|exact .inl jO|exact .inr jO|fail)
  |exact xjy jO jO
  |exact Gx (iW (S9 jO).2).symm
  |exact Gx (iW (TL jO).2).symm
  |exact .inl jO
  |exact .inr jO
  |exact fun _=>(S9 jO).1
  |exact fun hk=>hk.elim (fun e=>absurd e jO) fun e=>absurd e jO
  |exact Gy jO
  |exact SQ jO aN
  |exact xi8 jO
  |exact hw _ aN
  |exact fun _=>by assumption
  |exact fun hk=>hk.elim (fun e=>absurd e jO) fun e=>(w.op e).1
  |exact fun hk=>hk.elim (fun e=>absurd e jO) fun e=>(w.op e).2
  |(simp_all;all_goals fail)):p:=hp
theorem zB{p:Prop} (hp:p:=by
 repeat' (first
  |assumption
  |exact GG.ret
  |exact GG.tail jO
  |refine GG.bad ?_
  |refine GG.need zK ?_
  |refine GG.name zK ?_
  |refine GG.key zK ?_
  |refine GG.take_t zK ?_
  |refine GG.take_f zK ?_
  |refine GG.at_t zK ?_
  |refine GG.at_f zK ?_
  |refine GG.call jO ?_
  |refine GG.calls jO ?_
  |refine GG.ah_t jO ?_
  |refine GG.ah_f jO ?_
  |refine GG.if_t zK ?_
  |refine GG.if_f jO ?_
  |refine GG.op_t zK jO ?_
  |refine GG.op_f zK ?_
  |refine t _ _ ?_
  |refine GG.skip ?_
  |refine GG.ptx ?_
  |refine GG.kdv ?_
  |refine GG.eof_f zK ?_
  |refine GG.eof_t jO ?_
  |refine GG.kd_t zK ?_
  |refine GG.kd_f zK ?_
  |refine GG.tail ?_
  |fail)
 all_goals fail):p:=hp
theorem NL{c:Cx}{nm:Bs}{i o:Int}{ps:List PT}{b:PT}:bE c (.mk 11 nm i o (ps++[b]))=(oU (oR ps)&&(dW (pE o) ps&&bE (pE o) b)):=by
 rw[bE,aD aN,aD aN,yJ]
 simp[jM,dW]
theorem xhi{c:Cx}{o:Int}{x:PT}(h:¬(o=5/\¬x.kind=18/\¬x.kind=19))(r:bE c x=true):bE c (gC 12 o [x])=true:=by
 simp[gC,bE,jM,dW,r];omega
theorem zR{p:Prop} (hp:p:=by
 first
  |exact xhi jO jO
  |(simp only[gC];rw[NL];simp[bE,dW,jM,nd,eD,oR,oU, *];all_goals fail)
  |(simp only[gC];rw[NL];simp_all[bE,dW,jM,nd,eD,oR,oU,pE];all_goals fail)
  |(simp[bE,dW,tX,yJ,jM,nd,eD,gC,PT.kids,lN,wZ,IY,oD,PT.kind,zl,fy, *];all_goals fail)
  |(simp_all[bE,dW,tX,yJ,jM,nd,eD,gC,PT.kids,lN,wZ,IY,oD,PT.kind,zl,fy];all_goals fail)):p:=hp
theorem zW{p:Prop}(hp:p:=by first|exact w|exact w.drop _|exact(w.drop _).drop _|exact((w.drop _).drop _).drop _|fail):p:=hp
theorem zS{p:Prop} (hp:p:=by
 repeat' (first
  |(have CB:=And.left hc;have hc3:=And.right hc;clear hc)
  |(cases hc with|inl hc=>_|inr hc=>_)
  |(with_reducible have z:=lD h
    clear h
    rcases z with⟨hc,h⟩|⟨hc,h⟩<;>try simp only[sM,nM,bM,cG,gK,xM,bD,gX,CL,ne_eq,mJ]at hc)
  |(with_reducible have z:=qE h
    clear h;obtain⟨rfl,rfl⟩:=z)
  |(with_reducible exact(Ou h).elim)
  |(with_reducible have z:=ag h
    clear h;obtain⟨hi,w,h⟩:=z zW)
  |(with_reducible have z:=S6 h
    clear h;obtain⟨hi,w,h⟩:=z zW)
  |(with_reducible have z:=xkq h
    clear h;obtain⟨ps,l1,w,g,hd,rr,h⟩:=z zW)
  |(with_reducible have z:=qF ih h
    clear h
    first
     |(obtain⟨x,l1,w,⟨k,⟨rfl,hk⟩|⟨rfl,hk⟩,g,r,t⟩,h⟩:=z zW<;>clear z)
     |(obtain⟨x,l1,w,⟨⟨g,r,e⟩,t⟩,h⟩:=z zW;clear z)
     |(obtain⟨x,l1,w,⟨g,r,t⟩,h⟩:=z zW;clear z)
     |(obtain⟨x,l1,w,⟨g,r⟩,h⟩:=z zW;clear z))
  |(with_reducible have z:=Jf ih h
    clear h;obtain⟨x,l1,w,t,h⟩:=z zW;clear z
    first
     |(have t2:=t aN;clear t;obtain⟨g,r⟩:=t2)
     |(have t2:=t jO;clear t;obtain⟨g,r⟩:=t2)
     |obtain⟨g,r⟩:=t)
  |(have z:=ih _ _ _ h zW
    clear h;obtain⟨w,z⟩:=z
    first
     |obtain⟨⟨g,r,e⟩,t⟩:=z
     |obtain⟨g,r,t⟩:=z
     |obtain⟨g,r⟩:=z)
  |fail)
 all_goals try simp only[yI,fq,B7,Sn]at *
 all_goals refine⟨zW,?_⟩
 all_goals simp only[oX,yI,fq,B7,Sn]
 all_goals repeat' (first
  |assumption
  |(intro p)
  |(refine BN.mk ?_ ?_ ?_)
  |(refine And.intro ?_ ?_)
  |exact⟨_,zB,zK,rfl⟩
  |exact zB
  |exact zR
  |fail)
 all_goals fail):p:=hp
section
variable{R:Sy->Re Rv}{r:Rv×Ts}{v:Rv}{l':Ts}
theorem xdd(ih:Tq R){c:Cx}{l:Ts}(w:W l)(h:tw R c l=some (some (v,l'))):W l'/\oX v l' (.condn c l):=by
 unfold tw at h;exact zS
theorem xib(ih:Tq R){c:Cx}{l:Ts}(w:W l)(h:tb R c l=some (some (v,l'))):W l'/\oX v l' (.tryS c l):=by
 unfold tb wc at h;simp only[AW,zi]at h;exact zS
theorem xih(ih:Tq R){d:Bool}{c:Cx}{l:Ts}(w:W l)(h:ao R d c l=some (some (v,l'))):W l'/\oX v l' (.func d c l):=by
 unfold ao at h
 cases hA:aM l 0 jI<;>simp only[hA,aK,eE,bN,show decide ((1:Int)=1)=true from rfl,show decide ((4:Int)=1)=false from rfl,bO,cH]at h
 all_goals
  have z:=ag h zW;clear h;obtain⟨hi,w,h⟩:=z;have h1:kd (l.drop 1) 0=kd l 1:=Bj.symm
 ·cases hS:aM (l.drop 1) 0 u9<;>simp only[hS,aK,eE,bN]at h
  all_goals cases d<;>exact zS
 ·have hk:aM l 1 uN=true:=AW.trans hi
  cases d<;>exact zS
theorem xdg(ih:Tq R){c:Cx}{l:Ts}(w:W l)(h:fw R c l=some (some (v,l'))):W l'/\oX v l' (.arrow c l):=by
 unfold fw at h
 cases hA:aM l 0 jI<;>simp only[hA,aK,eE,bN]at h
 all_goals
  exact zS
theorem xdb(ih:Tq R){c:Cx}{l:Ts}(w:W l)(h:AA R c l=some (some (v,l'))):W l'/\oX v l' (.field c l):=by
 unfold AA at h;simp only[AW,zi]at h
 rcases dV (kd l 0=1)with hk|hk
 all_goals
  exact zS
theorem xid(ih:Tq R){c:Cx}{l:Ts}(w:W l)(h:u7 R c l=some (some (v,l'))):W l'/\oX v l' (.prim c l):=by
 unfold u7 at h;exact zS
end
section
variable{R:Sy->Re Rv}{r:Rv×Ts}{v:Rv}{l':Ts}
theorem xda(ih:Tq R){c:Cx}{l:Ts}(w:W l)(h:DR R c l=some (some (v,l'))):W l'/\oX v l' (.inner c l):=by
 rcases lD h with⟨hc,h⟩|⟨hc,h⟩
 ·exact BJ
 ·obtain⟨w1,t,d⟩:=ih _ _ _ h w;exact⟨w1,t,d nl⟩
theorem xik(ih:Tq R){c:Cx}{l:Ts}(w:W l)(h:CT R c l=some (some (v,l'))):W l'/\oX v l' (.body c l):=by
 exact ih (.inner { c with lp:=true } l) _ _ h w
theorem z74(ih:Tq R){c:Cx}{l:Ts}(w:W l)(h:DT R c l=some (some (v,l'))):W l'/\oX v l' (.fields c l):=by
 rcases lD h with⟨hc,h⟩|⟨hc,h⟩
 ·exact zS
 ·obtain⟨w1,t⟩:=ih _ _ _ h w;obtain⟨g,r⟩:=t rfl;exact⟨w1,.take_f nl (.tail g),r⟩
theorem z3b(ih:Tq R){acc:List PT}{c:Cx}{l:Ts}(w:W l)(h:DV R acc c l=some (some (v,l'))):W l'/\oX v l' (.fieldsL acc c l):=by
 obtain⟨x,l1,w,⟨g,r⟩,h⟩:=qF ih h w;have rr:dW c acc=true->dW c (acc++[x])=true:=fun p=>by rw[yJ,p];simp[dW];exact r
 rcases lD h with⟨hc,h⟩|⟨hc,h⟩
 ·obtain⟨rfl,rfl⟩:=qE h;exact⟨w.drop 1,fun p=>⟨.bad (.call g (.take_f (vL hc aN) (.need hc .ret))),rr p⟩⟩
 ·obtain⟨hi,w,h⟩:=ag h w;obtain⟨w1,t⟩:=ih _ _ _ h w;exact⟨w1,fun p=>⟨.bad (.call g (.take_t hi (.tail (t (rr p)).1))),(t (rr p)).2⟩⟩
theorem xc9(ih:Tq R){e:Bs}{c:Cx}{l:Ts}(w:W l)(h:vz R e c l=some (some (v,l'))):W l'/\oX v l' (.list2 e c l):=by
 rcases lD h with⟨hc,h⟩|⟨hc,h⟩
 ·obtain⟨rfl,rfl⟩:=qE h;exact⟨w.drop 1,fun _=>⟨.take_t hc .ret,rfl⟩⟩
 ·obtain⟨w1,t⟩:=ih _ _ _ h w;exact⟨w1,fun he=>⟨.take_f nl (.tail (t he rfl).1),(t he rfl).2⟩⟩
theorem z73(ih:Tq R){e:Bs}{acc:List PT}{c:Cx}{l:Ts}(w:W l)(h:wm R e acc c l=some (some (v,l'))):W l'/\oX v l' (.list2L e acc c l):=by
 obtain⟨x,l1,w,⟨g,r⟩,h⟩:=qF ih h w;have rr:dW c acc=true->dW c (acc++[x])=true:=fun p=>by rw[yJ,p];simp[dW];exact r
 rcases lD h with⟨hc,h⟩|⟨hc,h⟩
 ·obtain⟨rfl,rfl⟩:=qE h;exact⟨w.drop 1,fun he p=>⟨.bad (.call g (.take_f (vL hc he) (.need hc .ret))),rr p⟩⟩
 ·obtain⟨hi,w,h⟩:=ag h w;obtain⟨w1,t⟩:=ih _ _ _ h w;exact⟨w1,fun he p=>⟨.bad (.call g (.take_t hi (.tail (t he (rr p)).1))),(t he (rr p)).2⟩⟩
theorem xdf(ih:Tq R){c:Cx}{l:Ts}(w:W l)(h:w7 R c l=some (some (v,l'))):W l'/\oX v l' (.block c l):=by
 obtain⟨hi,w,h⟩:=ag h w;obtain⟨w1,t⟩:=ih _ _ _ h w;obtain⟨ks,l1,hv,g,hc,rfl,r⟩:=t rfl;refine⟨w1,?_⟩;simp only[oX,hv];exact⟨.need hi (.calls (.tail g) (.need hc .ret)),by exact r,rfl⟩
theorem z78(ih:Tq R){acc:List PT}{c:Cx}{l:Ts}(w:W l)(h:wt R acc c l=some (some (v,l'))):W l'/\oX v l' (.blockL acc c l):=by
 rcases lD h with⟨hc,h⟩|⟨hc,h⟩
 ·obtain⟨rfl,rfl⟩:=qE h;exact⟨w.drop 1,fun p=>⟨acc,l,rfl,.bad (.eof_f (Gy hc) (.at_t hc .ret)),hc,rfl,p⟩⟩
 ·rcases lD h with⟨hl,h⟩|⟨hl,h⟩
  ·exact BJ
  ·obtain⟨x,l1,w,⟨⟨g,r,e⟩,t⟩,h⟩:=qF ih h w;obtain⟨w1,t⟩:=ih _ _ _ h w;refine⟨w1,fun p=>?_⟩
   obtain⟨ks,l2,h1,h2,h3,h4,h5⟩:=t (by rw[yJ,p];simp[dW];exact r)
   exact⟨ks,l2,h1,.bad (.eof_f hl (.at_f nl (.call g (.tail h2)))),h3,h4,h5⟩
theorem xii(ih:Tq R){c:Cx}{l:Ts}(w:W l)(h:DA R c l=some (some (v,l'))):W l'/\oX v l' (.decl c l):=by
 unfold DA at h
 cases hB:aM l 0 pZ
 all_goals
  simp only[hB,aK,eE,bN]at h;obtain⟨w1,t⟩:=ih _ _ _ h (w.drop 1)
 ·obtain⟨g,r,hk⟩:=t (.inl rfl) (by rfl)
  exact⟨w1,24,.inr ⟨rfl,hB⟩,.tail g,r,hk⟩
 ·obtain⟨g,r,hk⟩:=t (.inr rfl) (by rfl)
  exact⟨w1,25,.inl ⟨rfl,hB⟩,.tail g,r,hk⟩
theorem xdc(ih:Tq R){k:Int}{acc:List PT}{c:Cx}{l:Ts}(w:W l)(h:vr R k acc c l=some (some (v,l'))):W l'/\oX v l' (.declL k acc c l):=by
 obtain⟨hi,w,h⟩:=S6 h w;have hx:∀{d:PT},bE c d=true->(k=25->d.kids≠[])->(k=24\/k=25)->bE c (nd k acc)=true->bE c (nd k (acc++[d]))=true:=fun{d} hd hk k2 p=>by
  rcases k2 with rfl|rfl
  ·simp[nd,bE,jM,yJ,dW]at p ⊢;exact⟨p,hd⟩
  ·simp[nd,bE,jM,yJ,dW]at p ⊢
   grind
 simp only at h;have hy:∀{d:PT}{l2:Ts},W l2->bE c d=true->(k=25->d.kids≠[])->(if aM l2 0 sY=true then R (.declL k (acc++[d]) c (l2.drop 1))else bY (.nd (nd k (acc++[d]))) l2)=some (some (v,l'))->W l'/\((k=24\/k=25)->bE c (nd k acc)=true->GG (IC k acc d) l2 (.nd v.n) l'/\bE c v.n=true/\v.n.kind=k):=fun{d l2} w2 hd hk h=>by
  rcases lD h with⟨hc,h⟩|⟨hc,h⟩
  ·obtain⟨w1,t⟩:=ih _ _ _ h (w2.drop 1);refine⟨w1,fun k2 p=>?_⟩
   obtain⟨g,r,hk⟩:=t k2 (hx hd hk k2 p);exact⟨.take_t hc (.tail g),r,hk⟩
  ·obtain⟨rfl,rfl⟩:=qE h;exact⟨w2,fun k2 p=>⟨.take_f nl .ret,hx hd hk k2 p,rfl⟩⟩
 rcases lD h with⟨hc,h⟩|⟨hc,h⟩
 ·obtain⟨x,l1,w,⟨g,r⟩,h⟩:=qF ih h (w.drop 1);obtain⟨w1,t⟩:=hy w (d:=eD 40 (tx l 0) [x]) (by simp[eD,bE,jM,dW];exact r) (fun _=>by simp[eD,PT.kids]) h
  exact⟨w1,fun k2 p=>⟨.name hi (.take_t hc (.call g (t k2 p).1)),(t k2 p).2⟩⟩
 ·rcases lD h with⟨hk,h⟩|⟨hk,h⟩
  ·exact BJ
  ·obtain⟨w1,t⟩:=hy w (d:=eD 40 (tx l 0) []) (by simp[eD,bE,jM,dW]) (fun e=>absurd e hk) h
   exact⟨w1,fun k2 p=>⟨.name hi (.take_f nl (t k2 p).1),(t k2 p).2⟩⟩
theorem xc5(ih:Tq R){c:Cx}{l:Ts}(w:W l)(h:pg R c l=some (some (v,l'))):W l'/\oX v l' (.unary c l):=by
 unfold pg at h;exact zS
theorem xc6(ih:Tq R){c:Cx}{l:Ts}(w:W l)(h:AE R c l=some (some (v,l'))):W l'/\oX v l' (.postf c l):=by
 unfold AE at h;exact zS
theorem xie(ih:Tq R){k:Nat}{c:Cx}{l:Ts}(w:W l)(h:pb R k c l=some (some (v,l'))):W l'/\oX v l' (.opnd k c l):=by
 rcases lD h with⟨hc,h⟩|⟨hc,h⟩
 ·obtain⟨w1,g,r⟩:=ih _ _ _ h w;exact⟨w1,.if_t hc (.tail g),r⟩
 ·obtain⟨x,l1,w,⟨g,r⟩,h⟩:=qF ih h w;obtain⟨w1,t⟩:=ih _ _ _ h w;exact⟨w1,.if_f hc (.call g (.tail (t r).1)),(t r).2⟩
theorem xc7(ih:Tq R){k:Nat}{n:PT}{c:Cx}{l:Ts}(w:W l)(h:wb R k n c l=some (some (v,l'))):W l'/\oX v l' (.opndL k n c l):=by
 rcases lD h with⟨hc,h⟩|⟨hc,h⟩
 ·replace hc:kd l 0=5\/kd l 0=2:=nl
  rcases lD h with⟨hf,h⟩|⟨hf,h⟩
  ·obtain⟨rfl,rfl⟩:=qE h;exact⟨w,fun p=>⟨.op_f (fun _=>hf) (.if_t rfl .ret),p⟩⟩
  ·obtain⟨x,l1,w,⟨g,r⟩,h⟩:=qF ih h (w.drop 1);obtain⟨w1,t⟩:=ih _ _ _ h w;refine⟨w1,fun p=>?_⟩
   obtain⟨g2,r2⟩:=t (by split<;>simp[gC,bE,jM,dW,p]<;>exact r)
   exact⟨.op_t hc hf (.if_f hf (.call g (.tail g2))),r2⟩
 ·replace hc:¬(kd l 0=5\/kd l 0=2):=nl
  obtain⟨rfl,rfl⟩:=qE h;exact⟨w,fun p=>⟨.op_f (fun e=>absurd e hc) (.if_t rfl .ret),p⟩⟩
theorem xij(ih:Tq R){c:Cx}{l:Ts}(w:W l)(h:DE R c l=some (some (v,l'))):W l'/\oX v l' (.cond c l):=by
 obtain⟨x,l1,w,⟨g,r⟩,h⟩:=qF ih h w
 rcases lD h with⟨hc,h⟩|⟨hc,h⟩
 ·obtain⟨y,l2,w,⟨g2,r2⟩,h⟩:=qF ih h (w.drop 1);obtain⟨hi,w,h⟩:=ag h w;obtain⟨z,l3,w,⟨g3,r3⟩,h⟩:=qF ih h w;obtain⟨rfl,rfl⟩:=qE h;exact⟨w,by simp only[yI]at *;simp[nd,bE,jM,dW, *],fun _ _ q=>.call g (.take_t hc (.call g2 (.need hi (.call g3 q))))⟩
 ·obtain⟨rfl,rfl⟩:=qE h;exact⟨w,r,fun _ _ q=>.call g (.take_f nl q)⟩
theorem z79(ih:Tq R){c:Cx}{l:Ts}(w:W l)(h:wo R c l=some (some (v,l'))):W l'/\oX v l' (.assign c l):=by
 rcases lD h with⟨hc,h⟩|⟨hc,h⟩
 ·have ha:=UI hc;obtain⟨w1,g,r⟩:=ih _ _ _ h w;exact⟨w1,.bad (.ah_t ha (.tail g)),r⟩
 ·have ha:=UJ hc
  rcases lD h with⟨hy,h⟩|⟨hy,h⟩
  ·rcases lD h with⟨hg,h⟩|⟨hg,h⟩
   ·exact zS
   ·exact BJ
  ·replace hy:aM l 0 ZR=false:=by simpa using hy
   obtain⟨x,l1,w,⟨r,t⟩,h⟩:=qF ih h w;have hz:∀{y:RV}{l2:Ts},GG (ue x) l1 y l2->GG DJ l y l2:=fun q=>.bad (.ah_f ha (.take_f hy (t _ _ q)))
   rcases lD h with⟨hk,h⟩|⟨hk,h⟩
   ·rcases lD h with⟨hf,h⟩|⟨hf,h⟩
    ·obtain⟨rfl,rfl⟩:=qE h;exact⟨w,hz (.op_f (fun _=>hf) (.if_t rfl .ret)),r⟩
    ·rcases lD h with⟨hg,h⟩|⟨hg,h⟩
     ·obtain⟨y,l2,w,⟨g2,r2⟩,h⟩:=qF ih h (w.drop 1);obtain⟨rfl,rfl⟩:=qE h;exact⟨w,hz (.op_t (.inl hk) hf (.if_f hf (.call g2 .ret))),by simp only[yI]at *;simp[gC,bE,jM,dW, *]⟩
     ·exact BJ
   ·obtain⟨rfl,rfl⟩:=qE h;exact⟨w,hz (.op_f (fun e=>e.elim (fun e=>absurd e hk) fun e=>(w.op e).1) (.if_t rfl .ret)),r⟩
theorem xif(ih:Tq R){n:PT}{c:Cx}{l:Ts}(w:W l)(h:zv R n c l=some (some (v,l'))):W l'/\oX v l' (.link n c l):=by
 unfold zv at h;simp only[zi,Bj,Hv]at h
 rcases lD h with⟨hc,h⟩|⟨hc,h⟩
 ·rcases lD h with⟨hk,h⟩|⟨hk,h⟩
  ·obtain⟨rfl,rfl⟩:=qE h;replace hk:kd (l.drop 1) 0=1\/kd (l.drop 1) 0=2:=BF
   refine⟨(w.drop 1).drop 1,fun e=>m6,fun _ p=>⟨by simp[fq,eD,bE,jM,dW,p],fun _ _ q=>.bad (.take_t hc (.key hk (.tail q))),fun _ _ q=>.bad (.at_f (vL hc aN) (.take_t hc (.key hk (.tail q))))⟩⟩
  ·exact BJ
 ·replace hc:aM l 0 AZ=false:=nl
  rcases lD h with⟨hb,h⟩|⟨hb,h⟩
  ·obtain⟨x,l1,w,⟨g,r⟩,h⟩:=qF ih h (w.drop 1);obtain⟨hi,w,h⟩:=ag h w;obtain⟨rfl,rfl⟩:=qE h;simp only[yI]at r;refine⟨w,fun e=>m6,fun _ p=>⟨by simp[fq,nd,bE,jM,dW,p,r],fun _ _ q=>.bad (.take_f hc (.take_t hb (.call g (.need hi (.tail q))))),fun _ _ q=>.bad (.at_f (vL hb aN) (.take_f hc (.need hb (.call g (.need hi (.tail q))))))⟩⟩
  ·obtain⟨rfl,rfl⟩:=qE h;exact⟨w,fun _=>⟨rfl,rfl,hc,by simpa using hb⟩,fun e=>m6⟩
theorem xde(ih:Tq R){c:Cx}{l:Ts}(w:W l)(h:w8 R c l=some (some (v,l'))):W l'/\oX v l' (.chain c l):=by
 rcases lD h with⟨hc,h⟩|⟨hc,h⟩
 ·obtain⟨x,l1,w,⟨g,r⟩,h⟩:=qF ih h (w.drop 1);obtain⟨w1,t⟩:=ih _ _ _ h w;exact⟨w1,.take_t hc (.call g (.tail (t r).1)),(t r).2⟩
 ·obtain⟨x,l1,w,⟨g,r⟩,h⟩:=qF ih h w;obtain⟨w1,t⟩:=ih _ _ _ h w;exact⟨w1,.take_f nl (.call g (.tail (t r).1)),(t r).2⟩
theorem z76(ih:Tq R){n:PT}{c:Cx}{l:Ts}(w:W l)(h:DQ R n c l=some (some (v,l'))):W l'/\oX v l' (.chainN n c l):=by
 have z:=Je ih h w;clear h w;obtain⟨x,b,l1,w,⟨tf,tt⟩,h⟩:=z
 cases b with
 |true=>
  obtain⟨w1,t⟩:=ih _ _ _ h w;refine⟨w1,fun p=>?_⟩
  obtain⟨p2,_,f⟩:=tt rfl p;exact⟨f _ _ (t p2).1,(t p2).2⟩
 |false=>
  obtain⟨rfl,rfl,hd,hb⟩:=tf rfl;rw[aD aN]at h
  obtain⟨hi,w,h⟩:=ag h w;obtain⟨as,l2,w,t1,h⟩:=Jf ih h w;obtain⟨g,r⟩:=t1 aN
  obtain⟨w1,t⟩:=ih _ _ _ h w;refine⟨w1,fun p=>?_⟩
  have p2:bE c (nd 21 (x::as))=true:=by simp only[B7,fq]at *;simp[nd,bE,jM,dW, *]
  exact⟨.bad (.at_t hi (.need hi (.calls g (.tail (t p2).1)))),(t p2).2⟩
theorem z77(ih:Tq R){n:PT}{c:Cx}{l:Ts}(w:W l)(h:DZ R n c l=some (some (v,l'))):W l'/\oX v l' (.chainL n c l):=by
 have z:=Je ih h w;clear h w;obtain⟨x,b,l1,w,⟨tf,tt⟩,h⟩:=z
 cases b with
 |true=>
  obtain⟨w1,t⟩:=ih _ _ _ h w;refine⟨w1,fun p=>?_⟩
  obtain⟨p2,f,_⟩:=tt rfl p;exact⟨f _ _ (t p2).1,(t p2).2⟩
 |false=>
  obtain⟨rfl,rfl,hd,hb⟩:=tf rfl;rw[aD aN]at h
  rcases lD h with⟨hi,h⟩|⟨hi,h⟩
  ·obtain⟨as,l2,w,t1,h⟩:=Jf ih h (w.drop 1);obtain⟨g,r⟩:=t1 aN
   obtain⟨w1,t⟩:=ih _ _ _ h w;refine⟨w1,fun p=>?_⟩
   have p2:bE c (nd 20 (x::as))=true:=by simp only[B7,fq]at *;simp[nd,bE,jM,dW, *]
   exact⟨.bad (.take_f hd (.take_f hb (.take_t hi (.calls g (.tail (t p2).1))))),(t p2).2⟩
  ·obtain⟨rfl,rfl⟩:=qE h;exact⟨w,fun p=>⟨.bad (.take_f hd (.take_f hb (.take_f (by simpa using hi) .ret))),p⟩⟩
end
theorem Rk{c:Cx}{e a:PT}:bE c (nd 28 [e,a])=(bE c e&&(!oD a&&bE c a)):=by
 simp[nd,bE,tX]
theorem Rl{c:Cx}{e a b:PT}:bE c (nd 28 [e,a,b])=(!lN a&&(bE c e&&((!oD a&&bE c a)&&(!oD b&&bE c b)))):=by
 simp[nd,bE,tX,IY,Bool.and_assoc]
theorem Tn{c:Cx}{e a:PT}:bE c (nd 29 [e,a])=(bE c e&&(!oD a&&bE { c with lp:=true } a)):=by
 simp[nd,bE,tX]
theorem H0{c:Cx}{a b d s:PT}:bE c (nd 30 [a,b,d,s])=(bE c a&&(bE c b&&(bE c d&&(!oD s&&bE { c with lp:=true } s)))):=by
 simp[nd,bE,tX]
theorem Tm{c:Cx}{nm:Bs}{i o:Int}{e a:PT}:bE c (.mk 31 nm i o [e,a])=(bE c e&&(!oD a&&bE { c with lp:=true } a)):=by
 simp[bE,tX]
theorem xcg{e a b:PT}:lN (nd 28 [e,a,b])=lN b:=by simp[nd,lN,wZ]
theorem xgr{e a:PT}:lN (nd 29 [e,a])=lN a:=by simp[nd,lN,wZ]
theorem Tp{a b d s:PT}:lN (nd 30 [a,b,d,s])=lN s:=by simp[nd,lN,wZ]
theorem xgs{nm:Bs}{i o:Int}{e a:PT}:lN (.mk 31 nm i o [e,a])=lN a:=by simp[lN,wZ]
theorem ZD{c:Cx}:bE c (nd 37 [])=true:=UU
theorem ZC{c:Cx}{x:PT}:bE c (nd 26 [x])=bE c x:=UU
theorem U2{c:Cx}{x:PT}:bE c (nd 32 [x])=(c.fn&&bE c x):=UU
theorem Rj{c:Cx}:bE c (nd 32 [])=c.fn:=UU
theorem U3{c:Cx}{x:PT}:bE c (nd 35 [x])=bE c x:=UU
theorem xgt{x:PT}{l:Ts}(h:zl x l)(hi:aM l 0 CZ=true):lN x=false:=by
 cases ht:lN x with
 |false=>rfl
 |true=>have:=h ht;grind
theorem NS{x y:PT}{l:Ts}(h:zl x l)(e:lN y=lN x):zl y l:=fun ht=>h (e ▸ ht)
section
variable{R:Sy->Re Rv}{r:Rv×Ts}{v:Rv}{l':Ts}
theorem Eg(ih:Tq R){c:Cx}{l:Ts}{a:PT}(w:W l)(h:po R c a l=some (some (v,l')))(ra:bE c a=true):W l'/\BN c (zg a) l v.n l'/\oD v.n=false:=by
 obtain⟨hi,w,h⟩:=ag h w;simp only at h;have third:∀{b:PT}{l2:Ts},W l2->bE c b=true->(fV mO l2 fun l3=>
   if aM l3 0 eQ then ndR (R (.body c (l3.drop 1))) fun s l5=>bY (.nd (nd 30 [a,b,nd 37 [],s])) l5
   else ndR (R (.assign c l3)) fun d l4=>fV eQ l4 fun l5=>ndR (R (.body c l5)) fun s l6=>bY (.nd (nd 30 [a,b,d,s])) l6)=some (some (v,l'))->W l'/\BN c (CQ a b) l2 v.n l'/\oD v.n=false:=fun{b l2} w rb h=>by
  obtain⟨hi,w,h⟩:=ag h w
  rcases lD h with⟨hr,h⟩|⟨hr,h⟩
  ·obtain⟨s,l3,w,⟨⟨g,r,e⟩,d⟩,h⟩:=qF ih h (w.drop 1);obtain⟨rfl,rfl⟩:=qE h;simp only[yI]at *;exact⟨w,⟨.need hi (.at_t hr (.need hr (.call g .ret))),by rw[H0,ra,rb,ZD,d,r];rfl,NS e Tp⟩,rfl⟩
  ·obtain⟨x,l3,w,⟨gx,rx⟩,h⟩:=qF ih h w;obtain⟨hp,w,h⟩:=ag h w;obtain⟨s,l3,w,⟨⟨g,r,e⟩,d⟩,h⟩:=qF ih h w;obtain⟨rfl,rfl⟩:=qE h;simp only[yI]at *;exact⟨w,⟨.need hi (.at_f (by simpa using hr) (.call gx (.need hp (.call g .ret)))),by rw[H0,ra,rb,rx,d,r];rfl,NS e Tp⟩,rfl⟩
 rcases lD h with⟨hs,h⟩|⟨hs,h⟩
 ·obtain⟨w1,⟨g,r,e⟩,d⟩:=third w ZD h;exact⟨w1,⟨.need hi (.at_t hs g),r,e⟩,d⟩
 ·obtain⟨b,l2,w,⟨gb,rb⟩,h⟩:=qF ih h w;obtain⟨w1,⟨g,r,e⟩,d⟩:=third w rb h;exact⟨w1,⟨.need hi (.at_f UR (.call gb g)),r,e⟩,d⟩
theorem xc8(ih:Tq R){c:Cx}{l:Ts}(w:W l)(h:wa R c l=some (some (v,l'))):W l'/\oX v l' (.loops c l):=by
 obtain⟨hi,w,h⟩:=ag h w
 rcases lD h with⟨hc,h⟩|⟨hc,h⟩
 ·simp only[bM,gK,bD]at hc;obtain⟨hc,hk,ho⟩:=hc;obtain⟨x,l1,w,⟨gx,rx⟩,h⟩:=qF ih h (w.drop 3);obtain⟨hp,w,h⟩:=ag h w;obtain⟨s,l3,w,⟨⟨g,r,e⟩,d⟩,h⟩:=qF ih h w;obtain⟨rfl,rfl⟩:=qE h;simp only[yI]at *;have hg:∀q:Int,GG (B5 q) (l.drop 1) (.nd (.mk 31 (tx (l.drop 1) 1) 0 q [x,s])) l3:=fun q=>.ptx (.skip (.call gx (.need hp (.call g .ret))))
  refine⟨w,⟨.need hi ?_,by rw[yI,Tm,rx,d,r];rfl,NS e xgs⟩,rfl⟩
  rcases hc with hc|hc
  ·rw[vL hc aN]
   exact .at_t hc (.kd_t hk (.at_t ho (hg 1)))
  ·rw[hc];exact .at_f (vL hc aN) (.at_t hc (.kd_t hk (.at_t ho (hg 2))))
 ·rcases lD h with⟨hd,h⟩|⟨hd,h⟩
  ·simp only[bM]at hd;have ho:kd (l.drop 1) 1=1->aM (l.drop 1) 2 wy=false:=fun hk=>by
    grind
   obtain⟨x,l1,w,⟨k,hk,g,r,t⟩,h⟩:=qF ih h w;obtain⟨w1,⟨g2,r2,e2⟩,d2⟩:=Eg ih w h r;have hg:∀q:Int,GG (IF k q) (l.drop 1) (.nd v.n) l':=fun q=>by
    rcases dV (kd (l.drop 1) 1=1)with h1|h1
    ·exact .kd_t h1 (.at_f (ho h1) (.skip (.call g g2)))
    ·exact .kd_f h1 (.skip (.call g g2))
   refine⟨w1,⟨.need hi ?_,r2,e2⟩,d2⟩
   rcases hk with⟨rfl,hk⟩|⟨rfl,hk⟩
   ·exact .at_f (vL hk aN) (.at_t hk (hg 2))
   ·rcases hd with hd|hd
    ·exact .at_t hd (hg 1)
    grind
  ·simp only[bM,CL,nM]at hd
   rcases lD h with⟨hs,h⟩|⟨hs,h⟩
   ·obtain⟨w1,⟨g2,r2,e2⟩,d2⟩:=Eg ih w h ZD;exact⟨w1,⟨.need hi (.at_f hd.1 (.at_f hd.2 (.at_t hs g2))),r2,e2⟩,d2⟩
   ·obtain⟨x,l1,w,⟨g,r⟩,h⟩:=qF ih h w;obtain⟨w1,⟨g2,r2,e2⟩,d2⟩:=Eg ih w h (ZC.trans r);exact⟨w1,⟨.need hi (.at_f hd.1 (.at_f hd.2 (.at_f UR (.call g g2)))),r2,e2⟩,d2⟩
theorem KT{k:Int}{ks:List PT}{l:Ts}(h:k≠28/\k≠29/\k≠30/\k≠31):zl (nd k ks) l:=NE h
theorem xig(ih:Tq R){c:Cx}{l:Ts}(w:W l)(h:wX R c l=some (some (v,l'))):W l'/\oX v l' (.keyw c l):=by
 have mi:l.drop 2=(l.drop 1).drop 1:=zi;unfold wX at h;simp only[AW,mi]at h;have key:∀{s:Bs}{x:PT}{p:RP},aM l 0 s=true->(nN≠s/\mO≠s)->GG p l (.nd x) l'->GG (.at_ 0 nN (.tail .block) (.take mO (iX (nd 37 [])) p)) l (.nd x) l':=fun hs hn g=>.at_f (vL hs (iW hn.1)) (.take_f (vL hs (iW hn.2)) g)
 rcases lD h with⟨hc,h⟩|⟨hc,h⟩
 ·obtain⟨x,l1,w,⟨hl,rx,l2,gx,hr,rfl⟩,h⟩:=qF ih h (w.drop 1);obtain⟨a,l3,w,⟨⟨ga,ra,ea⟩,da⟩,h⟩:=qF ih h w
  rcases lD h with⟨he,h⟩|⟨he,h⟩
  ·obtain⟨b,l4,w,⟨⟨gb,rb,eb⟩,db⟩,h⟩:=qF ih h (w.drop 1);obtain⟨rfl,rfl⟩:=qE h;simp only[yI]at *;exact⟨w,fun _=>⟨⟨key hc aN (.take_t hc (.tail (.need hl (.call gx (.need hr (.call ga (.take_t he (.call gb .ret)))))))),by rw[fq,Rl,xgt ea he,rx,da,ra,db,rb];rfl,NS eb xcg⟩,rfl⟩,fun e=>m6⟩
  ·obtain⟨rfl,rfl⟩:=qE h;simp only[yI]at *;replace he:aM l3 0 CZ=false:=UP
   exact⟨w,fun _=>⟨⟨key hc aN (.take_t hc (.tail (.need hl (.call gx (.need hr (.call ga (.take_f he .ret))))))),by rw[fq,Rk,rx,da,ra];rfl,fun _=>he⟩,rfl⟩,fun e=>m6⟩
 replace hc:aM l 0 nf=false:=nl
 rcases lD h with⟨hw,h⟩|⟨hw,h⟩
 ·obtain⟨x,l1,w,⟨hl,rx,l2,gx,hr,rfl⟩,h⟩:=qF ih h (w.drop 1);obtain⟨a,l3,w,⟨⟨ga,ra,ea⟩,da⟩,h⟩:=qF ih h w;obtain⟨rfl,rfl⟩:=qE h;simp only[yI]at *;exact⟨w,fun _=>⟨⟨key hw aN (.take_f hc (.take_t hw (.need hl (.call gx (.need hr (.call ga .ret)))))),by rw[fq,Tn,rx,da,ra];rfl,NS ea xgr⟩,rfl⟩,fun e=>m6⟩
 replace hw:aM l 0 p9=false:=by simpa using hw
 rcases lD h with⟨hf,h⟩|⟨hf,h⟩
 ·obtain⟨x,l1,w,⟨⟨gx,rx,ex⟩,dx⟩,h⟩:=qF ih h (w.drop 1);obtain⟨rfl,rfl⟩:=qE h;exact⟨w,fun _=>⟨⟨key hf aN (.take_f hc (.take_f hw (.take_t hf (.tail gx)))),rx,ex⟩,dx⟩,fun e=>m6⟩
 replace hf:aM l 0 py=false:=by simpa using hf
 rcases lD h with⟨hr,h⟩|⟨hr,h⟩
 ·rcases lD h with⟨hn,h⟩|⟨hn,h⟩
  ·rcases lD h with⟨hs,h⟩|⟨hs,h⟩
   ·obtain⟨rfl,rfl⟩:=qE h;exact⟨(w.drop 1).drop 1,fun _=>⟨⟨key hr aN (.take_f hc (.take_f hw (.take_f hf (.take_t hr (.at_t hs (.need hs .ret)))))),by rw[fq,Rj,hn],KT aN⟩,rfl⟩,fun e=>m6⟩
   ·obtain⟨x,l1,w,⟨gx,rx⟩,h⟩:=qF ih h (w.drop 1);obtain⟨hi,w,h⟩:=ag h w;obtain⟨rfl,rfl⟩:=qE h;simp only[yI]at *;exact⟨w,fun _=>⟨⟨key hr aN (.take_f hc (.take_f hw (.take_f hf (.take_t hr (.at_f UR (.call gx (.need hi .ret))))))),by rw[fq,U2,hn,rx];rfl,KT aN⟩,rfl⟩,fun e=>m6⟩
  ·exact BJ
 replace hr:aM l 0 pf=false:=by simpa using hr
 rcases lD h with⟨hb,h⟩|⟨hb,h⟩
 ·rcases lD h with⟨hn,h⟩|⟨hn,h⟩
  ·obtain⟨hi,w,h⟩:=ag h (w.drop 1);obtain⟨rfl,rfl⟩:=qE h;simp only[bM]at hb;refine⟨w,fun _=>⟨⟨?_,?_,KT (by split<;>decide)⟩,by split<;>rfl⟩,fun e=>m6⟩
   ·rcases hb with hb|hb
    ·rw[vL hb aN]
     exact key hb aN (.take_f hc (.take_f hw (.take_f hf (.take_f hr (.take_t hb (.need hi .ret))))))
    ·rw[hb];exact key hb aN (.take_f hc (.take_f hw (.take_f hf (.take_f hr (.take_f (vL hb aN) (.take_t hb (.need hi .ret)))))))
   ·rw[fq]
    split<;>simp[nd,bE,hn]
  ·exact BJ
 simp only[bM,CL,nM]at hb
 rcases lD h with⟨ht,h⟩|⟨ht,h⟩
 ·obtain⟨x,l1,w,⟨gx,rx⟩,h⟩:=qF ih h (w.drop 1);obtain⟨hi,w,h⟩:=ag h w;obtain⟨rfl,rfl⟩:=qE h;simp only[yI]at *;exact⟨w,fun _=>⟨⟨key ht aN (.take_f hc (.take_f hw (.take_f hf (.take_f hr (.take_f hb.1 (.take_f hb.2 (.take_t ht (.call gx (.need hi .ret))))))))),by rw[fq,U3,rx],KT aN⟩,rfl⟩,fun e=>m6⟩
 replace ht:aM l 0 oy=false:=by simpa using ht
 rcases lD h with⟨hy,h⟩|⟨hy,h⟩
 ·obtain⟨x,l1,w,⟨gx,rx,kx⟩,h⟩:=qF ih h (w.drop 1);obtain⟨rfl,rfl⟩:=qE h;simp only[yI]at *;exact⟨w,fun _=>⟨⟨key hy aN (.take_f hc (.take_f hw (.take_f hf (.take_f hr (.take_f hb.1 (.take_f hb.2 (.take_f ht (.take_t hy (.tail gx))))))))),rx,NE (by rw[fq,kx];decide)⟩,by unfold oD;rw[fq,kx];rfl⟩,fun e=>m6⟩
 replace hy:aM l 0 q7=false:=by simpa using hy
 obtain⟨rfl,rfl⟩:=qE h;refine⟨w,fun e=>m6,fun _=>⟨rfl,fun s hs=>?_⟩⟩
 simp only[PJ,dX,o9,or_false]at hs
 grind
theorem xic(ih:Tq R){c:Cx}{l:Ts}(w:W l)(h:vq R c l=some (some (v,l'))):W l'/\oX v l' (.stmt c l):=by
 have hE:∀{v:Rv},aM l 0 yY=false->aM l 0 pZ=false->sM l=false->aM l 0 nN=false->aM l 0 mO=false->(∀s∈PJ,aM l 0 s=false)->pa R c l=some (some (v,l'))->W l'/\oX v l' (.stmt c l):=fun{v} h1 h2 h3 h4 h5 hk h=>by
  obtain⟨x,l1,w,⟨gx,rx⟩,h⟩:=qF ih h w;obtain⟨hi,w,h⟩:=ag h w;obtain⟨rfl,rfl⟩:=qE h;simp only[yI]at *;simp only[sM,cG]at h3;have hg:GG vi l (.nd (nd 26 [x])) (l1.drop 1):=.at_f h4 (.take_f h5 (.take_f (hk _ aN) (.take_f (hk _ aN) (.take_f (hk _ aN) (.take_f (hk _ aN) (.take_f (hk _ aN) (.take_f (hk _ aN) (.take_f (hk _ aN) (.take_f (hk _ aN) (.call gx (.need hi .ret)))))))))))
  refine⟨w,⟨.bad (.take_f h1 (.take_f h2 (.at_f h3.2.2.1 ?_))),by rw[yI,ZC,rx],KT aN⟩,fun _=>rfl⟩
  exact Vg
 rcases lD h with⟨hc,h⟩|⟨hc,h⟩
 ·obtain⟨x,l1,w,⟨k,hk,g,r,t⟩,h⟩:=qF ih h w;obtain⟨hi,w,h⟩:=ag h w;obtain⟨rfl,rfl⟩:=qE h;simp only[bM]at hc;simp only[yI]at *;have hd:sM l=true:=by
   unfold sM
   grind
  refine⟨w,⟨?_,r,NE ?_⟩,fun e=>by rw[hd]at e;cases e⟩
  ·rcases hk with⟨rfl,hk⟩|⟨rfl,hk⟩
   ·exact .bad (.take_f (vL hk aN) (.take_t hk (.call g (.need hi .ret))))
   ·rcases hc with hc|hc
    ·exact .bad (.take_t hc (.call g (.need hi .ret)))
    grind
  ·simp only[yI];omega
 simp only[bM,CL,nM]at hc
 rcases lD h with⟨hd,h⟩|⟨hd,h⟩
 ·obtain⟨w1,g,r,k,ha⟩:=ih _ _ _ h w;refine⟨w1,⟨.bad (.take_f hc.1 (.take_f hc.2 ?_)),r,NE (by rw[k];decide)⟩,fun e=>by rw[hd]at e;cases e⟩
  unfold sM at hd;rw[hc.1,hc.2]at hd
  cases hf:aM l 0 uN with
  |true=>exact .at_t hf (.tail g)
  |false=>
   rw[hf]at hd;simp only[bI,gK]at hd;exact .at_f hf (.at_t hd.1 (.at_t hd.2 (.tail g)))
 replace hd:sM l=false:=by simpa using hd
 have h3:=hd;simp only[sM,cG]at h3;have mR:∀{x:PT},GG vi l (.nd x) l'->GG q8 l (.nd x) l':=fun hg=>.bad (.take_f hc.1 (.take_f hc.2 (.at_f h3.2.2.1 (by
  exact Vg))))
 rcases lD h with⟨hl,h⟩|⟨hl,h⟩
 ·obtain⟨w1,g,r,k⟩:=ih _ _ _ h w;exact⟨w1,⟨mR (.at_t hl (.tail g)),r,NE (by rw[k];decide)⟩,fun _=>by unfold oD;rw[k];rfl⟩
 replace hl:aM l 0 nN=false:=xp
 rcases lD h with⟨hs,h⟩|⟨hs,h⟩
 ·obtain⟨rfl,rfl⟩:=qE h;exact⟨w.drop 1,⟨mR (.at_f hl (.take_t hs .ret)),ZD,KT aN⟩,fun _=>rfl⟩
 replace hs:aM l 0 mO=false:=UR
 rcases lD h with⟨hk,h⟩|⟨hk,h⟩
 ·have z:=Je ih h w;obtain⟨x,b,l1,w1,⟨tt,tf⟩,h9⟩:=z
  cases b with
  |true=>
   obtain⟨rfl,rfl⟩:=qE h9;obtain⟨⟨g,r,e⟩,d⟩:=tt rfl;exact⟨w1,⟨mR g,r,e⟩,fun _=>d⟩
  |false=>
   obtain⟨rfl,hn⟩:=tf rfl
   grind
 ·exact hE hc.1 hc.2 hd hl hs (w.nokey hk) h
end
theorem Rr:∀n:Nat,Tq (og n)
 |0=>fun s v l' h=>by cases h
 |n+1=>fun s v l' h w=>by
  have ih:=Rr n
  cases s with
  |stmt c l=>exact xic ih w h
  |keyw c l=>exact xig ih w h
  |condn c l=>exact xdd ih w h
  |inner c l=>exact xda ih w h
  |body c l=>exact xik ih w h
  |loops c l=>exact xc8 ih w h
  |tryS c l=>exact xib ih w h
  |decl c l=>exact xii ih w h
  |declL k acc c l=>exact xdc ih w h
  |block c l=>exact xdf ih w h
  |blockL acc c l=>exact z78 ih w h
  |func d c l=>exact xih ih w h
  |arrow c l=>exact xdg ih w h
  |assign c l=>exact z79 ih w h
  |cond c l=>exact xij ih w h
  |opnd k c l=>exact xie ih w h
  |opndL k x c l=>exact xc7 ih w h
  |unary c l=>exact xc5 ih w h
  |postf c l=>exact xc6 ih w h
  |link x c l=>exact xif ih w h
  |chain c l=>exact xde ih w h
  |chainN x c l=>exact z76 ih w h
  |chainL x c l=>exact z77 ih w h
  |list2 e c l=>exact xc9 ih w h
  |list2L e acc c l=>exact z73 ih w h
  |prim c l=>exact xid ih w h
  |fields c l=>exact z74 ih w h
  |fieldsL acc c l=>exact z3b ih w h
  |field c l=>exact xdb ih w h
def QQ(v:RV)(l' l:Ts):RS->Prop
 | .stm=>(∀c,bE c v.n=true->ev (.stmt c l)=bY (.nd v.n) l')/\(sM l=true->oD v.n=true)
 | .stms=>(∀c,dW c v.s=true->aM l' 0 sK=true->ev (.blockL [] c l)=bY (.nd (nd 27 v.s)) (l'.drop 1))/\∀n,l.length<n->l'=[]->dW lW v.s=true->fv n [] l=some v.s
 | .stmsL acc=>(∃ds,v.s=acc++ds)/\(∀c,dW c v.s=true->aM l' 0 sK=true->ev (.blockL acc c l)=bY (.nd (nd 27 v.s)) (l'.drop 1))/\∀n,l.length<n->l'=[]->dW lW v.s=true->fv n acc l=some v.s
 | .block=>∀c,bE c v.n=true->ev (.block c l)=bY (.nd v.n) l'
 | .decls k=>v.n.kind=k/\∀c,(k=24\/k=25)->bE c v.n=true->ev (.declL k [] c l)=bY (.nd v.n) l'
 | .declsL k acc=>(∃ds,v.n=nd k (acc++ds))/\∀c,(k=24\/k=25)->bE c v.n=true->ev (.declL k acc c l)=bY (.nd v.n) l'
 | .cond=>∀c,bE c v.n=true->∀l0,aM l0 0 nf=true->l=l0.drop 1->ev (.keyw c l0)=bY (.nb v.n true) l'
 | .loop=>∀c,bE c v.n=true->ev (.loops c l)=bY (.nd v.n) l'
 | .tryR=>∀c,bE c v.n=true->ev (.tryS c l)=bY (.nd v.n) l'
 | .func d=>v.n.kind=11/\∀c,bE c v.n=true->ev (.func d c l)=bY (.nd v.n) l'
 | .names=>oU (oR v.s)=true->xS l=some (some (v.s,l'))
 | .namesL acc=>∀n,l.length<n->oU (oR v.s)=true->namesL n acc l=some (some (v.s,l'))
 | .arrow=>∀c,bE c v.n=true->ev (.arrow c l)=bY (.nd v.n) l'
 | .assign=>∀c,bE c v.n=true->ev (.assign c l)=bY (.nd v.n) l'
 | .lv k=>∀c,bE c v.n=true->ev (.opnd k c l)=bY (.nd v.n) l'
 | .lvL k x=>∀c,bE c v.n=true->bE c x=true/\ev (.opndL k x c l)=bY (.nd v.n) l'
 | .unary=>∀c,bE c v.n=true->ev (.unary c l)=bY (.nd v.n) l'
 | .list e=>∀c,e≠sY->dW c v.s=true->ev (.list2 e c l)=bY (.ls v.s) l'
 | .listL e acc=>∀c,e≠sY->dW c v.s=true->dW c acc=true/\ev (.list2L e acc c l)=bY (.ls v.s) l'
 | .chain=>∀c,bE c v.n=true->ev (.chain c l)=bY (.nd v.n) l'
 | .newL x=>∀c,bE c v.n=true->bE c x=true/\ev (.chainN x c l)=bY (.nd v.n) l'
 | .chainL x=>∀c,bE c v.n=true->bE c x=true/\ev (.chainL x c l)=bY (.nd v.n) l'
 | .prim=>∀c,bE c v.n=true->ev (.prim c l)=bY (.nd v.n) l'
 | .obj=>∃ks,v.n=nd 10 ks/\∀c,dW c ks=true->ev (.fields c l)=bY (.ls ks) l'
 | .objL acc=>∃ks,v.n=nd 10 ks/\∀c,dW c ks=true->dW c acc=true/\ev (.fieldsL acc c l)=bY (.ls ks) l'
 | .field=>∀c,bE c v.n=true->ev (.field c l)=bY (.nd v.n) l'
section
variable{l l1:Ts}{r:Re Rv}{s:Sy}
theorem vS(h:JC ev s=r):ev s=r:=(mU s).trans h
theorem qP{w:Bs}{k:Ts->Re Rv}(hi:aM l 0 w=true)(h:k (l.drop 1)=r):fV w l k=r:=(aF hi).trans h
theorem IL{k:Bs->Ts->Re Rv}(hi:kd l 0=1)(h:k (tx l 0) (l.drop 1)=r):rC l k=r:=(aF hi).trans h
theorem iN{x:PT}{k:PT->Ts->Re Rv}(e:ev s=bY (.nd x) l1)(h:k x l1=r):ndR (ev s) k=r:=by rw[e];exact h
theorem EQ{x:PT}{b:Bool}{k:PT->Bool->Ts->Re Rv}(e:ev s=bY (.nb x b) l1)(h:k x b l1=r):nbR (ev s) k=r:=by rw[e];exact h
theorem Be{x:List PT}{k:List PT->Ts->Re Rv}(e:ev s=bY (.ls x) l1)(h:k x l1=r):lsR (ev s) k=r:=by rw[e];exact h
theorem U5{x:List PT}{k:List PT->Ts->Re Rv}(e:xS l=some (some (x,l1)))(h:k x l1=r):bnd (xS l) k=r:=by rw[e];exact h
theorem vT{c:Prop} [Decidable c] {x y:Re Rv} (hc:c) (h:x=r):(if c then x else y)=r:=(aF hc).trans h
theorem vF{c:Prop} [Decidable c] {x y:Re Rv} (hc:¬c) (h:y=r):(if c then x else y)=r:=(aD hc).trans h
theorem vI{w:Bs}{n:Nat}{x y:Re Rv}(hc:aM l n w=false)(h:y=r):(if aM l n w=true then x else y)=r:=(aD (by rw[hc];decide)).trans h
theorem nh{a b:Bool}(h:a=true\/b=true):(a||b)=true:=aX
theorem Ip{a b:Bool}(h:a=false)(h':b=false):¬(a||b)=true:=by rw[h,h'];decide
end
section
variable{m:Nat}(ih:∀s l v l',bX m s l false=(v,l',false)->W l->QQ v l' l s){l l':Ts}{v:RV}
include ih
theorem xdn(w:W l)(h:Gd (bX m) (gr .names) l v l'):QQ v l' l .names:=fun hd=>by
 have hR:=nA m;obtain⟨hi,w,h⟩:=Gd.need hR w h;unfold xS fV;rw[aF hi]
 rcases Gd.take w h with⟨hc,w,h⟩|⟨hc,h⟩
 ·obtain⟨rfl,rfl⟩:=h.ret;simp only[hc,eE];rfl
 ·simp only[hc,aK,bN];exact ih _ _ _ _ h.tail w _ (xf _) hd
theorem z8c{acc:List PT}(w:W l)(h:Gd (bX m) (gr (.namesL acc)) l v l'):QQ v l' l (.namesL acc):=fun n hn hd=>by
 have hR:=nA m;obtain⟨hk,w,h⟩:=Gd.name hR w h.bad;have hp:=lO hk aN
 obtain⟨n,rfl⟩:∃k,n=k+1:=⟨n-1,by omega⟩
 rw[namesL];unfold rC;rw[aF hk];simp only
 rcases Gd.take w h with⟨hc,w,h⟩|⟨hc,h⟩
 ·have z:=ih _ _ _ _ h.tail w n aX hd
  rw[vL hc aN]
  unfold fV
  grind
 ·obtain⟨hi,w,h⟩:=Gd.need hR w h;obtain⟨rfl,rfl⟩:=h.ret;replace hd:oU (oR (acc++[eD 7 (tx l 0) []]))=true:=hd;rw[hi,aF rfl,aF hd];rfl
theorem xiu{e:Bs}(w:W l)(h:Gd (bX m) (gr (.list e)) l v l'):QQ v l' l (.list e):=fun c he hr=>by
 rcases Gd.take w h with⟨hc,w,h⟩|⟨hc,h⟩
 ·obtain⟨rfl,rfl⟩:=h.ret;exact vS (vT hc rfl)
 ·exact vS (vI hc (ih _ _ _ _ h.tail w c he hr).2)
theorem xdo{e:Bs}{acc:List PT}(w:W l)(h:Gd (bX m) (gr (.listL e acc)) l v l'):QQ v l' l (.listL e acc):=fun c he hr=>by
 have hR:=nA m;obtain⟨x,l1,g,_,w,h⟩:=Gd.call hR w h.bad
 rcases Gd.take w h with⟨hc,w,h⟩|⟨hc,h⟩
 ·obtain⟨r2,e2⟩:=ih _ _ _ _ h.tail w c he hr;rw[yJ,gK,dW,dW,fW]at r2;exact⟨r2.1,vS (iN (ih _ _ _ _ g ‹W _› c r2.2) (vI (vL hc (iW he)) (qP hc e2)))⟩
 ·obtain⟨hi,w2,h⟩:=Gd.need hR w h;obtain⟨rfl,rfl⟩:=h.ret;replace hr:dW c (acc++[x.n])=true:=hr;rw[yJ,gK,dW,dW,fW]at hr;exact⟨hr.1,vS (iN (ih _ _ _ _ g ‹W _› c hr.2) (vT hi rfl))⟩
theorem xir{acc:List PT}(w0:W l)(h:Gd (bX m) (gr (.objL acc)) l v l'):QQ v l' l (.objL acc):=by
 have hR:=nA m;obtain⟨x,l1,g,_,w,h⟩:=Gd.call hR w0 h.bad
 rcases Gd.take w h with⟨hc,w,h⟩|⟨hc,h⟩
 ·obtain⟨ks,hv,t⟩:=ih _ _ _ _ h.tail w;refine⟨ks,hv,fun c hr=>?_⟩
  obtain⟨r2,e2⟩:=t c hr;rw[yJ,gK,dW,dW,fW]at r2;exact⟨r2.1,vS (iN (ih _ _ _ _ g w0 c r2.2) (vI (vL hc aN) (qP hc e2)))⟩
 ·obtain⟨hi,w2,h⟩:=Gd.need hR w h;obtain⟨rfl,rfl⟩:=h.ret;refine⟨acc++[x.n],rfl,fun c hr=>?_⟩
  rw[yJ,gK,dW,dW,fW]at hr;exact⟨hr.1,vS (iN (ih _ _ _ _ g w0 c hr.2) (vT hi rfl))⟩
theorem SF(w:W l)(h:Gd (bX m) (gr .obj) l v l'):QQ v l' l .obj:=by
 rcases Gd.take w h with⟨hc,w,h⟩|⟨hc,h⟩
 ·obtain⟨rfl,rfl⟩:=h.ret;exact⟨[],rfl,fun c hr=>vS (vT hc rfl)⟩
 ·obtain⟨ks,hv,t⟩:=ih _ _ _ _ h.tail w;exact⟨ks,hv,fun c hr=>vS (vI hc (t c hr).2)⟩
theorem xdm{acc:List PT}(w0:W l)(h:Gd (bX m) (gr (.stmsL acc)) l v l'):QQ v l' l (.stmsL acc):=by
 have hR:=nA m
 rcases Gd.eof h.bad with⟨hl,h⟩|⟨hl,h⟩
 ·obtain⟨rfl,rfl⟩:=h.ret;refine⟨⟨[],by simp[RV.s]⟩,fun c hr hi=>absurd hl (Gy hi),fun n hn _ _=>?_⟩
  subst hl;obtain⟨n,rfl⟩:∃k,n=k+1:=⟨n-1,by omega⟩
  rfl
 ·rcases Gd.at_ h with⟨hc,h⟩|⟨hc,h⟩
  ·obtain⟨rfl,rfl⟩:=h.ret;exact⟨⟨[],by simp[RV.s]⟩,fun c hr hi=>vS (vT hi rfl),fun n _ he=>absurd he hl⟩
  ·obtain⟨x,l1,g,hs,w,h⟩:=Gd.call hR w0 h;obtain⟨⟨ds,hd⟩,t1,t2⟩:=ih _ _ _ _ h.tail w;have hx:∀c,dW c v.s=true->bE c x.n=true:=fun c hr=>by
    rw[hd,yJ,yJ,gK,gK,dW,dW,fW]at hr;exact hr.1.2
   refine⟨⟨x.n::ds,by rw[hd];simp⟩,fun c hr hi=>vS (vI hc (vF hl (iN ((ih _ _ _ _ g w0).1 c (hx c hr)) (t1 c hr hi)))),fun n hn he hr=>?_⟩
   obtain⟨n,rfl⟩:∃k,n=k+1:=⟨n-1,by omega⟩
   have e1:=(ih _ _ _ _ g w0).1 lW (hx lW hr);have cQ:l1.length<l.length:=by
    have:=JK (.stmt lW l)
    rw[e1]at this;obtain⟨o,ho,hp⟩:=this
    cases ho
    have:=(hp _ _ rfl).2.2 rfl rfl
    exact this.2
   rw[fv,aD hl,e1];exact t2 n oM he hr
theorem xip(w:W l)(h:Gd (bX m) (gr .stms) l v l'):QQ v l' l .stms:=(ih _ _ _ _ h.tail w).2
theorem xds(w:W l)(h:Gd (bX m) (gr .block) l v l'):QQ v l' l .block:=fun c hr=>by
 have hR:=nA m;obtain⟨hi,w,h⟩:=Gd.need hR w h;obtain⟨x,l1,g,hs,w2,h⟩:=Gd.calls hR w h;obtain⟨hc,w3,h⟩:=Gd.need hR w2 h;obtain⟨rfl,rfl⟩:=h.ret;simp[nd,bE,jM]at hr;refine vS ?_;show w7 ev c l=_;unfold w7;exact qP hi ((ih _ _ _ _ g w).1 c hr hc)
theorem xdq{k:Int}(w:W l)(h:Gd (bX m) (gr (.decls k)) l v l'):QQ v l' l (.decls k):=by
 obtain⟨⟨ds,hd⟩,t⟩:=ih _ _ _ _ h.tail w;exact⟨by rw[hd];rfl,t⟩
theorem z8d{k:Int}{acc:List PT}(w0:W l)(h:Gd (bX m) (gr (.declsL k acc)) l v l'):QQ v l' l (.declsL k acc):=by
 have hR:=nA m;obtain⟨hk,w,h⟩:=Gd.name hR w0 h;have hx:∀{d:PT}{l2:Ts},W l2->Gd (bX m) (IC k acc d) l2 v l'->(∃ds,v.n=nd k (acc++d::ds))/\∀c,(k=24\/k=25)->bE c v.n=true->(if aM l2 0 sY=true then ev (.declL k (acc++[d]) c (l2.drop 1))else bY (.nd (nd k (acc++[d]))) l2)=bY (.nd v.n) l':=fun{d l2} w h=>by
  rcases Gd.take w h with⟨hc,w,h⟩|⟨hc,h⟩
  ·obtain⟨⟨ds,hd⟩,t⟩:=ih _ _ _ _ h.tail w
   grind
  ·obtain⟨rfl,rfl⟩:=h.ret;exact⟨⟨[],rfl⟩,fun c k2 hr=>vI hc rfl⟩
 have hy:∀{d:PT}{c:Cx},(∃ds,v.n=nd k (acc++d::ds))->(k=24\/k=25)->bE c v.n=true->bE c d=true/\(k=25->d.kids≠[]):=fun{d c} ⟨ds,hd⟩ k2 hr=>by
  rw[hd]at hr
  rcases k2 with rfl|rfl
  ·simp[nd,bE,jM,yJ,dW]at hr
   grind
  ·simp[nd,bE,jM,yJ,dW]at hr
   grind
 rcases Gd.take w h with⟨hc,w,h⟩|⟨hc,h⟩
 ·obtain⟨x,l1,g,_,w1,h⟩:=Gd.call hR w h;obtain⟨⟨ds,hd⟩,t⟩:=hx w1 h;refine⟨⟨_,hd⟩,fun c k2 hr=>vS ?_⟩
  show vr ev k acc c l=_;refine IL hk (vT hc (iN (ih _ _ _ _ g w c ?_) (t c k2 hr)))
  have:=(hy ⟨ds,hd⟩ k2 hr).1
  simpa [eD,bE,jM,dW]using this
 ·obtain⟨⟨ds,hd⟩,t⟩:=hx w h;refine⟨⟨_,hd⟩,fun c k2 hr=>vS ?_⟩
  show vr ev k acc c l=_;refine IL hk (vI hc (vF (fun e=>?_) (t c k2 hr)))
  exact(hy ⟨ds,hd⟩ k2 hr).2 e rfl
theorem xdp(w0:W l)(h:Gd (bX m) (gr .field) l v l'):QQ v l' l .field:=fun c hr=>by
 have hR:=nA m
 rcases Gd.take w0 h with⟨hc,w,h⟩|⟨hc,h⟩
 ·obtain⟨x,l1,g,_,w1,h⟩:=Gd.call hR w h;obtain⟨h1,w2,h⟩:=Gd.need hR w1 h;obtain⟨h2,w3,h⟩:=Gd.need hR w2 h;obtain⟨y,l2,g2,_,w4,h⟩:=Gd.call hR w3 h;obtain⟨rfl,rfl⟩:=h.ret;replace hr:bE c (nd 39 [x.n,y.n])=true:=hr;simp[nd,bE,jM,dW]at hr;exact vS (vT hc (iN (ih _ _ _ _ g w c hr.1) (qP h1 (qP h2 (iN (ih _ _ _ _ g2 w3 c hr.2) rfl)))))
 ·rcases Gd.eof h with⟨hl,h⟩|⟨hl,h⟩
  ·exact VC
  ·rcases Gd.kdI h with⟨hk,h⟩|⟨hk,h⟩
   ·exact VC
   ·obtain⟨w,h⟩:=Gd.skip w0 h.kdv.ptx;have h0:¬(kd l 0=0\/kd l 0=5):=fun e=>e.elim (w0.kd0 hl) hk
    have hF:Gd (bX m) (NU (tx l 0)) (l.drop 1) v l'->ev (.field c l)=bY (.nd v.n) l':=fun h=>by
     obtain⟨h1,w2,h⟩:=Gd.need hR w h;obtain⟨y,l2,g2,_,w4,h⟩:=Gd.call hR w2 h;obtain⟨rfl,rfl⟩:=h.ret;replace hr:bE c (eD 38 (tx l 0) [y.n])=true:=hr;simp[eD,bE,jM,dW]at hr;refine vS (vI hc (vF h0 (vT (AW.trans h1) ?_)));rw[zi];exact iN (ih _ _ _ _ g2 w2 c hr) rfl
    split at h
    ·rename_i h1
     rcases Gd.at_ h with⟨hi,h⟩|⟨hi,h⟩
     ·exact hF h
     ·obtain⟨rfl,rfl⟩:=h.ret;exact vS (vI hc (vF h0 (vI (AW.trans hi) (vT h1 rfl))))
    ·exact hF h
theorem Io{k:Nat}(w0:W l)(h:Gd (bX m) (gr (.lv k)) l v l'):QQ v l' l (.lv k):=fun c hr=>by
 have hR:=nA m;replace h:Gd (bX m) (lm k) l v l':=h;unfold lm at h
 split at h
 ·rename_i hk;exact vS (vT hk (ih _ _ _ _ h.tail w0 c hr))
 ·rename_i hk;obtain⟨x,l1,g,_,w,h⟩:=Gd.call hR w0 h;obtain⟨r2,e2⟩:=ih _ _ _ _ h.tail w c hr;exact vS (vF hk (iN (ih _ _ _ _ g w0 c r2) e2))
theorem SG{k:Nat}{x:PT}(w0:W l)(h:Gd (bX m) (gr (.lvL k x)) l v l'):QQ v l' l (.lvL k x):=fun c hr=>by
 have hR:=nA m
 rcases Gd.oper w0 h with⟨hk,hf,w,h⟩|⟨hf,h⟩
 ·unfold KW at h;rw[aD hf]at h;obtain⟨y,l1,g,_,w1,h⟩:=Gd.call hR w h;obtain⟨r2,e2⟩:=ih _ _ _ _ h.tail w1 c hr;have r3:bE c x=true/\bE c y.n=true:=by
   split at r2<;>simpa [gC,bE,jM,dW]using r2
  exact⟨r3.1,vS (vT BF (vF hf (iN (ih _ _ _ _ g w c r3.2) e2)))⟩
 ·unfold KW at h;obtain⟨rfl,rfl⟩:=h.ret;refine⟨hr,vS ?_⟩;show wb ev k x c l=_;unfold wb
  split
  ·rename_i hk;exact vT (hf BF) rfl
  ·rfl
theorem xdr(w0:W l)(h:Gd (bX m) (gr .chain) l v l'):QQ v l' l .chain:=fun c hr=>by
 have hR:=nA m
 rcases Gd.take w0 h with⟨hc,w,h⟩|⟨hc,h⟩
 ·obtain⟨x,l1,g,_,w1,h⟩:=Gd.call hR w h;obtain⟨r2,e2⟩:=ih _ _ _ _ h.tail w1 c hr;exact vS (vT hc (iN (ih _ _ _ _ g w c r2) e2))
 ·obtain⟨x,l1,g,_,w1,h⟩:=Gd.call hR w0 h;obtain⟨r2,e2⟩:=ih _ _ _ _ h.tail w1 c hr;exact vS (vI hc (iN (ih _ _ _ _ g w0 c r2) e2))
omit ih
theorem ES{c:Cx}{n:PT}(h:aM l 0 AZ=false)(h':aM l 0 sX=false):ev (.link n c l)=bY (.nb n false) l:=vS (vI h (vI h' rfl))
theorem Hu{c:Cx}{n:PT}(h:aM l 0 AZ=true)(hk:kd (l.drop 1) 0=1\/kd (l.drop 1) 0=2):ev (.link n c l)=bY (.nb (eD 18 (tx (l.drop 1) 0) [n]) true) ((l.drop 1).drop 1):=by
 refine vS (vT h ?_);rw[Bj,Hv,zi]
 grind
theorem Ht{c:Cx}{n i:PT}{l1:Ts}(h:aM l 0 sX=true)(e:ev (.assign c (l.drop 1))=bY (.nd i) l1)(hi:aM l1 0 yG=true):ev (.link n c l)=bY (.nb (nd 19 [n,i]) true) (l1.drop 1):=vS (vI (vL h aN) (vT h (iN e (qP hi rfl))))
include ih
theorem xis{x:PT}(w0:W l)(h:Gd (bX m) (gr (.newL x)) l v l'):QQ v l' l (.newL x):=fun c hr=>by
 have hR:=nA m
 rcases Gd.at_ h.bad with⟨hc,h⟩|⟨hc,h⟩
 ·obtain⟨_,w,h⟩:=Gd.need hR w0 h;obtain⟨as,l1,g,_,w1,h⟩:=Gd.calls hR w h;obtain⟨r2,e2⟩:=ih _ _ _ _ h.tail w1 c hr;simp[nd,bE,jM,dW]at r2;exact⟨r2.1,vS (EQ (ES (vL hc aN) (vL hc aN)) (vF aN (qP hc (Be (ih _ _ _ _ g w c aN r2.2) e2))))⟩
 ·rcases Gd.take w0 h with⟨hd,w,h⟩|⟨hd,h⟩
  ·exact Wa
  ·obtain⟨hb,w,h⟩:=Gd.need hR w0 h;exact Wv
theorem z8e{x:PT}(w0:W l)(h:Gd (bX m) (gr (.chainL x)) l v l'):QQ v l' l (.chainL x):=fun c hr=>by
 have hR:=nA m
 rcases Gd.take w0 h.bad with⟨hd,w,h⟩|⟨hd,h⟩
 ·exact Wa
 ·rcases Gd.take w0 h with⟨hb,w,h⟩|⟨hb,h⟩
  ·exact Wv
  ·rcases Gd.take w0 h with⟨hc,w,h⟩|⟨hc,h⟩
   ·obtain⟨as,l1,g,_,w1,h⟩:=Gd.calls hR w h;obtain⟨r2,e2⟩:=ih _ _ _ _ h.tail w1 c hr;simp[nd,bE,jM,dW]at r2;exact⟨r2.1,vS (EQ (ES hd hb) (vF aN (vT hc (Be (ih _ _ _ _ g w c aN r2.2) e2))))⟩
   ·obtain⟨rfl,rfl⟩:=h.ret;exact⟨hr,vS (EQ (ES hd hb) (vF aN (vI hc rfl)))⟩
end
section
variable{m:Nat}(ih:∀s l v l',bX m s l false=(v,l',false)->W l->QQ v l' l s){l l':Ts}{v:RV}
include ih
theorem xiv{d:Bool}(w0:W l)(h:Gd (bX m) (gr (.func d)) l v l'):QQ v l' l (.func d):=by
 have hR:=nA m;have h3:∀{o:Int}{s:Bs}{l1:Ts},W l1->Gd (bX m) (KV o s) l1 v l'->v.n.kind=11/\∀c,bE c v.n=true->(bnd (xS l1) fun ps l4=>ndR (ev (.block (pE o) l4)) fun b l5=>bY (Rv.nd (.mk 11 s 0 o (ps++[b]))) l5)=bY (Rv.nd v.n) l':=fun{o s l1} w h=>by
  obtain⟨ps,l2,g,_,w1,h⟩:=Gd.calls hR w h;obtain⟨b,l3,g2,_,w2,h⟩:=Gd.call hR w1 h;obtain⟨rfl,rfl⟩:=h.ret;refine⟨rfl,fun c hr=>?_⟩
  replace hr:bE c (.mk 11 s 0 o (ps.s++[b.n]))=true:=hr;rw[NL,gK,gK]at hr;exact U5 (ih _ _ _ _ g w hr.1) (iN (ih _ _ _ _ g2 w1 _ hr.2.2) rfl)
 have h2:∀{o:Int}{l1:Ts},W l1->Gd (bX m) (EO d o) l1 v l'->v.n.kind=11/\∀c,bE c v.n=true->(if(d||decide (kd l1 0=1))=true then rC l1 fun nm l3=>bnd (xS l3) fun ps l4=>ndR (ev (.block (pE o) l4)) fun b l5=>bY (Rv.nd (.mk 11 nm 0 o (ps++[b]))) l5 else bnd (xS l1) fun ps l4=>ndR (ev (.block (pE o) l4)) fun b l5=>bY (Rv.nd (.mk 11 [] 0 o (ps++[b]))) l5)=bY (Rv.nd v.n) l':=fun{o l1} w h=>by
  have hN:∀{k:Bs->RP},Gd (bX m) (.name k) l1 v l'->kd l1 0=1/\W (l1.drop 1)/\Gd (bX m) (k (tx l1 0)) (l1.drop 1) v l':=fun h=>Gd.name hR w h
  unfold EO at h
  split at h
  ·rename_i hd;obtain⟨hk,w1,h⟩:=hN h;obtain⟨e,t⟩:=h3 w1 h;exact⟨e,fun c hr=>vT (nh (.inl hd)) (IL hk (t c hr))⟩
  ·rename_i hd
   rcases Gd.kdI h with⟨hk,h⟩|⟨hk,h⟩
   ·obtain⟨_,w1,h⟩:=hN h;obtain⟨e,t⟩:=h3 w1 h;exact⟨e,fun c hr=>vT (nh (.inr (aA hk))) (IL hk (t c hr))⟩
   grind
 rcases Gd.take w0 h with⟨hc,w,h⟩|⟨hc,h⟩
 ·obtain⟨hf,w1,h⟩:=Gd.need hR w h;obtain⟨e,t⟩:=h2 w1 h;refine⟨e,fun c hr=>vS ?_⟩
  show ao ev d c l=_;unfold ao;simp only[hc,eE,show decide ((4:Int)=1)=false from rfl,cH,aK,bN];exact qP hf (t c hr)
 ·obtain⟨hf,w1,h⟩:=Gd.need hR w0 h
  rcases Gd.take w1 h with⟨hs,w2,h⟩|⟨hs,h⟩
  ·obtain⟨e,t⟩:=h2 w2 h;exact X6
  ·obtain⟨e,t⟩:=h2 w1 h;exact X6
theorem xdt(w0:W l)(h:Gd (bX m) (gr .arrow) l v l'):QQ v l' l .arrow:=fun c hr=>by
 have hR:=nA m;have h3:∀{o:Int}{ps:List PT}{l1:Ts},W l1->Gd (bX m) (PO o ps) l1 v l'->oU (oR ps)=true/\(fV pD l1 fun l2=>
  if aM l2 0 nN then ndR (ev (.block (pE o) l2)) fun b l3=>bY (Rv.nd (gC 11 o (ps++[b]))) l3
  else ndR (ev (.assign (pE o) l2)) fun n l3=>bY (Rv.nd (gC 11 o (ps++[nd 27 [nd 32 [n]]]))) l3)=bY (Rv.nd v.n) l':=fun{o ps l1} w h=>by
  obtain⟨hi,w1,h⟩:=Gd.need hR w h
  rcases Gd.at_ h with⟨hc,h⟩|⟨hc,h⟩
  ·obtain⟨b,l3,g2,_,w2,h⟩:=Gd.call hR w1 h;obtain⟨rfl,rfl⟩:=h.ret;replace hr:bE c (.mk 11 [] 0 o (ps++[b.n]))=true:=hr;rw[NL,gK,gK]at hr;exact⟨hr.1,qP hi (vT hc (iN (ih _ _ _ _ g2 w1 _ hr.2.2) rfl))⟩
  ·obtain⟨b,l3,g2,_,w2,h⟩:=Gd.call hR w1 h;obtain⟨rfl,rfl⟩:=h.ret;replace hr:bE c (.mk 11 [] 0 o (ps++[nd 27 [nd 32 [b.n]]]))=true:=hr;rw[NL,gK,gK]at hr;have r2:=hr.2.2;simp[nd,bE,jM,dW]at r2;exact⟨hr.1,qP hi (vI hc (iN (ih _ _ _ _ g2 w1 _ r2.2) rfl))⟩
 have h2:∀{o:Int}{l0:Ts},W l0->Gd (bX m) (CP o) l0 v l'->(if aM l0 0 iS then bnd (xS l0) fun(ps:List PT)(l1:Ts)=>fV pD l1 fun l2=>
  if aM l2 0 nN then ndR (ev (.block (pE o) l2)) fun b l3=>bY (Rv.nd (gC 11 o (ps++[b]))) l3
  else ndR (ev (.assign (pE o) l2)) fun n l3=>bY (Rv.nd (gC 11 o (ps++[nd 27 [nd 32 [n]]]))) l3 else rC l0 fun s l1=>fV pD l1 fun l2=>
  if aM l2 0 nN then ndR (ev (.block (pE o) l2)) fun b l3=>bY (Rv.nd (gC 11 o ([eD 7 s []]++[b]))) l3
  else ndR (ev (.assign (pE o) l2)) fun n l3=>bY (Rv.nd (gC 11 o ([eD 7 s []]++[nd 27 [nd 32 [n]]]))) l3)=bY (Rv.nd v.n) l':=fun{o l0} w h=>by
  rcases Gd.at_ h with⟨hc,h⟩|⟨hc,h⟩
  ·obtain⟨ps,l2,g,_,w1,h⟩:=Gd.calls hR w h;obtain⟨hd,t⟩:=h3 w1 h;exact vT hc (U5 (ih _ _ _ _ g w hd) t)
  ·obtain⟨hk,w1,h⟩:=Gd.name hR w h;exact vI hc (IL hk (h3 w1 h).2)
 refine vS ?_;show fw ev c l=_;unfold fw
 rcases Gd.take w0 h with⟨hc,w,h⟩|⟨hc,h⟩
 ·grind
 grind
theorem xio(w0:W l)(h:Gd (bX m) (gr .tryR) l v l'):QQ v l' l .tryR:=fun c hr=>by
 have hR:=nA m;have hE:∀{ks:List PT}{l1:Ts},W l1->Gd (bX m) (II ks) l1 v l'->dW c ks=true/\wc ev c ks l1=bY (Rv.nd v.n) l':=fun{ks l1} w h=>by
  rcases Gd.take w h with⟨hc,w,h⟩|⟨hc,h⟩
  ·obtain⟨b,l3,g2,_,w2,h⟩:=Gd.call hR w h;obtain⟨rfl,rfl⟩:=h.ret;replace hr:bE c (nd 36 (ks++[b.n]))=true:=hr;simp[nd,bE,jM,yJ,dW]at hr;exact⟨hr.2.1,vT hc (iN (ih _ _ _ _ g2 w c hr.2.2) rfl)⟩
  ·obtain⟨rfl,rfl⟩:=h.ret;replace hr:bE c (nd 36 ks)=true:=hr;simp[nd,bE,jM]at hr;exact⟨hr.2,vI hc (vF oM rfl)⟩
 obtain⟨a,l1,g,_,w1,h⟩:=Gd.call hR w0 h;refine vS ?_;show tb ev c l=_;unfold tb;simp only[AW,zi];have hb:∀{b:PT}{s:Bs},dW c [a.n,eD 41 s [b]]=true->bE c a.n=true/\bE c b=true:=fun h=>by simpa [eD,dW,bE,jM]using h
 rcases Gd.take w1 h with⟨hc,w,h⟩|⟨hc,h⟩
 ·rcases Gd.take w h with⟨hp,w2,h⟩|⟨hp,h⟩
  ·obtain⟨hk,w3,h⟩:=Gd.name hR w2 h;obtain⟨hi,w4,h⟩:=Gd.need hR w3 h;obtain⟨b,l3,g2,_,w5,h⟩:=Gd.call hR w4 h;obtain⟨r2,e2⟩:=hE w5 h;exact iN (ih _ _ _ _ g w0 c (hb r2).1) (vT hc (vT hp (IL hk (qP hi (iN (ih _ _ _ _ g2 w4 c (hb r2).2) e2)))))
  ·obtain⟨b,l3,g2,_,w5,h⟩:=Gd.call hR w h;obtain⟨r2,e2⟩:=hE w5 h;exact iN (ih _ _ _ _ g w0 c (hb r2).1) (vT hc (vI hp (iN (ih _ _ _ _ g2 w c (hb r2).2) e2)))
 ·obtain⟨r2,e2⟩:=hE w1 h;exact iN (ih _ _ _ _ g w0 c (by simpa [dW]using r2)) (vI hc e2)
theorem z8f(w0:W l)(h:Gd (bX m) (gr .assign) l v l'):QQ v l' l .assign:=fun c hr=>by
 have hR:=nA m
 rcases Gd.ahead h.bad with⟨ha,h⟩|⟨ha,h⟩
 ·exact vS (vT (oT ((YX l).trans ha)) (ih _ _ _ _ h.tail w0 c hr))
 ·replace ha:¬0<je l:=gB ((YX l).trans ha)
  rcases Gd.take w0 h with⟨hy,w,h⟩|⟨hy,h⟩
  ·obtain⟨x,l1,g,_,w1,h⟩:=Gd.call hR w h;obtain⟨rfl,rfl⟩:=h.ret;replace hr:bE c (nd 22 [x.n])=true:=hr;simp[nd,bE,jM,dW]at hr;exact vS (vF ha (vT hy (vT hr.1 (iN (ih _ _ _ _ g w c hr.2) rfl))))
  ·have hA:∀{x:PT}{l1:Ts},W l1->Gd (bX m) (ue x) l1 v l'->bE c x=true/\(if kd l1 0=5 then(if gF (tx l1 0) 24 4=0 then bY (Rv.nd x) l1 else if fy x=true then ndR (ev (.assign c (l1.drop 1))) fun m l2=>bY (Rv.nd (gC 16 (gF (tx l1 0) 24 4) [x,m])) l2 else rK)else bY (Rv.nd x) l1)=bY (Rv.nd v.n) l':=fun{x l1} w h=>by
    rcases Gd.oper w h with⟨hk,hf,w2,h⟩|⟨hf,h⟩
    ·rw[aD hf]at h;obtain⟨y,l2,g,_,w3,h⟩:=Gd.call hR w2 h;obtain⟨rfl,rfl⟩:=h.ret;replace hr:bE c (gC 16 (gF (tx l1 0) 24 4) [x,y.n])=true:=hr;simp[gC,bE,jM,dW]at hr;have h5:kd l1 0=5:=hk.elim id fun e=>absurd (w.op e).1 hf
     exact⟨hr.2.1,vT h5 (vF hf (vT hr.1 (iN (ih _ _ _ _ g w2 c hr.2.2) rfl)))⟩
    ·obtain⟨rfl,rfl⟩:=h.ret;refine⟨hr,?_⟩
     split
     ·rename_i hk;exact vT (hf (.inl hk)) rfl
     ·rfl
   obtain⟨x,l1,g,_,w1,h⟩:=Gd.call hR w0 h;have hC:∀{n:PT}{l2:Ts},ev (.cond c l)=bY (Rv.nd n) l2->(if kd l2 0=5 then(if gF (tx l2 0) 24 4=0 then bY (Rv.nd n) l2 else if fy n=true then ndR (ev (.assign c (l2.drop 1))) fun m l3=>bY (Rv.nd (gC 16 (gF (tx l2 0) 24 4) [n,m])) l3 else rK)else bY (Rv.nd n) l2)=bY (Rv.nd v.n) l'->ev (.assign c l)=bY (Rv.nd v.n) l':=fun e t=>vS (vF ha (vI hy (iN e t)))
   rcases Gd.take w1 h with⟨hq,w,h⟩|⟨hq,h⟩
   ·obtain⟨y,l2,g2,_,w2,h⟩:=Gd.call hR w h;obtain⟨hi,w3,h⟩:=Gd.need hR w2 h;obtain⟨z,l3,g3,_,w4,h⟩:=Gd.call hR w3 h;obtain⟨r2,t⟩:=hA w4 h;simp[nd,bE,jM,dW]at r2;exact hC (vS (iN (ih _ _ _ _ g w0 c r2.1) (vT hq (iN (ih _ _ _ _ g2 w c r2.2.1) (qP hi (iN (ih _ _ _ _ g3 w3 c r2.2.2) rfl)))))) t
   ·obtain⟨r2,t⟩:=hA w1 h;exact hC (vS (iN (ih _ _ _ _ g w0 c r2) (vI hq rfl))) t
theorem xdl(w0:W l)(h:Gd (bX m) (gr .unary) l v l'):QQ v l' l .unary:=fun c hr=>by
 have hR:=nA m
 rcases Gd.take w0 h.bad with⟨ha,w,h⟩|⟨ha,h⟩
 ·obtain⟨x,l1,g,_,w1,h⟩:=Gd.call hR w h;obtain⟨rfl,rfl⟩:=h.ret;replace hr:bE c (nd 23 [x.n])=true:=hr;simp[nd,bE,jM,dW]at hr;exact vS (vT (nh ((OM ha).symm.imp aA aA)) (vT (JW ha) (vT hr.1 (iN (ih _ _ _ _ g w c hr.2) rfl))))
 ·have Yo:(kd l 0=5\/kd l 0=2)->¬tx l 0=IZ:=fun hk e=>by rw[T8 e hk]at ha;cases ha
  rcases Gd.oper w0 h with⟨hk,hf,w,h⟩|⟨hf,h⟩
  ·rw[aD hf]at h;obtain⟨x,l1,g,_,w1,h⟩:=Gd.call hR w h;obtain⟨rfl,rfl⟩:=h.ret;replace hr:bE c (gC 12 (gF (tx l 0) 1 5) [x.n])=true:=hr;simp[gC,bE,jM,dW]at hr;exact vS (vT (nh (hk.imp aA aA)) (vF (Yo hk) (vF (fun e=>e (TL hf).1) (vF hf (iN (ih _ _ _ _ g w c hr.2) (vF (fun⟨a,b,d⟩=>hr.1.elim (fun e=>e a) fun e=>e.elim b d) rfl))))))
  ·rcases Gd.oper w0 h with⟨hk,hg,w,h⟩|⟨hg,h⟩
   ·rw[aD hg]at h;obtain⟨x,l1,g,_,w1,h⟩:=Gd.call hR w h;obtain⟨rfl,rfl⟩:=h.ret;replace hr:bE c (gC 17 (gF (tx l 0) 28 2) [x.n])=true:=hr;simp[gC,bE,jM,dW]at hr;exact vS (vT (nh (hk.imp aA aA)) (vF (Yo hk) (vT hg (iN (ih _ _ _ _ g w c hr.2) (vT hr.1 rfl)))))
   ·obtain⟨x,l1,g,_,w1,h⟩:=Gd.call hR w0 h;have hp:ev (.postf c l)=bY (Rv.nd v.n) l':=by
     rcases Gd.oper w1 h with⟨hk,hq,w,h⟩|⟨hq,h⟩
     ·rw[aD hq]at h;obtain⟨rfl,rfl⟩:=h.ret;replace hr:bE c (gC 17 (gF (tx l1 0) 28 2+100) [x.n])=true:=hr;simp[gC,bE,jM,dW]at hr;have h5:kd l1 0=5:=hk.elim id fun e=>absurd (w1.op e).2 hq
      exact vS (iN (ih _ _ _ _ g w0 c hr.2) (vT h5 (vF hq (vT hr.1 rfl))))
     ·obtain⟨rfl,rfl⟩:=h.ret;refine vS (iN (ih _ _ _ _ g w0 c hr) ?_)
      split
      ·rename_i hk;exact vT (hq (.inl hk)) rfl
      ·rfl
    refine vS ?_;show pg ev c l=_;unfold pg
    grind
theorem xiq(w0:W l)(h:Gd (bX m) (gr .prim) l v l'):QQ v l' l .prim:=fun c hr=>by
 have hR:=nA m
 rcases Gd.eof h.bad with⟨hl,h⟩|⟨hl,h⟩
 ·exact VC
 rcases Gd.kdI h with⟨hk,h⟩|⟨h3,h⟩
 ·obtain⟨w,h⟩:=Gd.skip w0 h.ptx;obtain⟨rfl,rfl⟩:=h.ret;exact vS (vF FP (vF FP (vT hk rfl)))
 rcases Gd.kdI h with⟨hk,h⟩|⟨h4,h⟩
 ·obtain⟨w,h⟩:=Gd.skip w0 h.ptx;obtain⟨rfl,rfl⟩:=h.ret;exact vS (vF FP (vT hk rfl))
 rcases Gd.kdI h with⟨hk,h⟩|⟨h1,h⟩
 ·obtain⟨w,h⟩:=Gd.skip w0 h.ptx;obtain⟨rfl,rfl⟩:=h.ret;exact vS (vT hk rfl)
 rcases Gd.take w0 h with⟨hc,w,h⟩|⟨c1,h⟩
 ·obtain⟨rfl,rfl⟩:=h.ret;exact vS (vF h1 (vF h4 (vF h3 (vT hc rfl))))
 rcases Gd.take w0 h with⟨hc,w,h⟩|⟨c2,h⟩
 ·obtain⟨rfl,rfl⟩:=h.ret;exact vS (vF h1 (vF h4 (vF h3 (vI c1 (vT hc rfl)))))
 rcases Gd.take w0 h with⟨hc,w,h⟩|⟨c3,h⟩
 ·obtain⟨rfl,rfl⟩:=h.ret;exact vS (vF h1 (vF h4 (vF h3 (vI c1 (vI c2 (vT hc rfl))))))
 rcases Gd.take w0 h with⟨hc,w,h⟩|⟨c4,h⟩
 ·obtain⟨rfl,rfl⟩:=h.ret;exact vS (vF h1 (vF h4 (vF h3 (vI c1 (vI c2 (vI c3 (vT hc rfl)))))))
 rcases Gd.take w0 h with⟨hc,w,h⟩|⟨c5,h⟩
 ·obtain⟨rfl,rfl⟩:=h.ret;exact vS (vF h1 (vF h4 (vF h3 (vI c1 (vI c2 (vI c3 (vI c4 (vT hc rfl))))))))
 have hh:∀{r:Re Rv},(if aM l 0 iS then ndR (ev (.assign c (l.drop 1))) fun n l1=>fV eQ l1 fun l2=>bY (Rv.nd n) l2
 else if aM l 0 sX then lsR (ev (.list2 yG c (l.drop 1))) fun ks l1=>bY (Rv.nd (nd 9 ks)) l1
 else if aM l 0 nN then lsR (ev (.fields c (l.drop 1))) fun ks l1=>bY (Rv.nd (nd 10 ks)) l1
 else if aM l 0 uN||aM l 0 jI then ev (.func false c l)
 else rK)=r->ev (.prim c l)=r:=fun t=>vS (vF h1 (vF h4 (vF h3 (vI c1 (vI c2 (vI c3 (vI c4 (vI c5 t))))))))
 rcases Gd.take w0 h with⟨hc,w,h⟩|⟨c6,h⟩
 ·obtain⟨x,l1,g,_,w1,h⟩:=Gd.call hR w h;obtain⟨hi,w2,h⟩:=Gd.need hR w1 h;obtain⟨rfl,rfl⟩:=h.ret;exact hh (vT hc (iN (ih _ _ _ _ g w c hr) (qP hi rfl)))
 rcases Gd.take w0 h with⟨hc,w,h⟩|⟨c7,h⟩
 ·obtain⟨x,l1,g,_,w1,h⟩:=Gd.calls hR w h;obtain⟨rfl,rfl⟩:=h.ret;simp[nd,bE,jM]at hr;exact hh (vI c6 (vT hc (Be (ih _ _ _ _ g w c aN hr) rfl)))
 rcases Gd.take w0 h with⟨hc,w,h⟩|⟨c8,h⟩
 ·obtain⟨ks,hv,t⟩:=ih _ _ _ _ h.tail w;rw[hv]at hr ⊢;exact hh (vI c6 (vI c7 (vT hc (Be (t c hr) rfl))))
 rcases Gd.at_ h with⟨hc,h⟩|⟨c9,h⟩
 ·exact hh (vI c6 (vI c7 (vI c8 (vT (nh (.inl hc)) ((ih _ _ _ _ h.tail w0).2 c hr)))))
 rcases Gd.at_ h with⟨ha,h⟩|⟨ha,h⟩
 ·rcases Gd.at_ h with⟨hb,h⟩|⟨hb,h⟩
  ·exact hh (vI c6 (vI c7 (vI c8 (vT (nh (.inr ha)) ((ih _ _ _ _ h.tail w0).2 c hr)))))
  ·exact VC
 ·exact VC
theorem xit(w0:W l)(h:Gd (bX m) (gr .loop) l v l'):QQ v l' l .loop:=fun c hr=>by
 have hR:=nA m;obtain⟨hi,w,h⟩:=Gd.need hR w0 h;have wK:∀{x:PT}{l1 l2:Ts}{c2:Cx},(sM l1=true->oD x=true)->oD x=false->ev (.stmt c2 l1)=bY (Rv.nd x) l2->ev (.inner c2 l1)=bY (Rv.nd x) l2:=fun hd hb e=>vS (vF (fun q=>by grind) e)
 have Z6:∀{x:RV}{l1 l2:Ts},bX m .stm l1 false=(x,l2,false)->W l1->oD x.n=false->bE { c with lp:=true } x.n=true->ev (.body c l1)=bY (Rv.nd x.n) l2:=fun g w hd hr=>vS (wK (ih _ _ _ _ g w).2 hd ((ih _ _ _ _ g w).1 _ hr))
 have h4:∀{a b d:PT}{l1:Ts},W l1->Gd (bX m) (ID a b d) l1 v l'->aM l1 0 eQ=true/\∃s:RV,ev (.body c (l1.drop 1))=bY (Rv.nd s.n) l'/\v.n=nd 30 [a,b,d,s.n]/\bE c a=true/\bE c b=true/\bE c d=true:=fun{a b d l1} w h=>by
  obtain⟨hp,w1,h⟩:=Gd.need hR w h;obtain⟨s,l2,g,_,w2,h⟩:=Gd.call hR w1 h;obtain⟨rfl,rfl⟩:=h.ret;replace hr:bE c (nd 30 [a,b,d,s.n])=true:=hr;rw[H0]at hr;simp only[gK,eM]at hr;exact⟨hp,s,Z6 g w1 hr.2.2.2.1 hr.2.2.2.2,rfl,hr.1,hr.2.1,hr.2.2.1⟩
 have h3:∀{a b:PT}{l2:Ts},W l2->Gd (bX m) (CQ a b) l2 v l'->bE c a=true/\bE c b=true/\(fV mO l2 fun l3=>
   if aM l3 0 eQ then ndR (ev (.body c (l3.drop 1))) fun s l5=>bY (Rv.nd (nd 30 [a,b,nd 37 [],s])) l5
   else ndR (ev (.assign c l3)) fun d l4=>fV eQ l4 fun l5=>ndR (ev (.body c l5)) fun s l6=>bY (Rv.nd (nd 30 [a,b,d,s])) l6)=bY (Rv.nd v.n) l':=fun{a b l2} w h=>by
  obtain⟨hs,w1,h⟩:=Gd.need hR w h
  rcases Gd.at_ h with⟨hc,h⟩|⟨hc,h⟩
  ·obtain⟨hp,s,e,hv,ra,rb,rd⟩:=h4 w1 h;exact⟨ra,rb,qP hs (vT hc (iN e (by rw[hv])))⟩
  ·obtain⟨d,l3,g,_,w2,h⟩:=Gd.call hR w1 h;obtain⟨hp,s,e,hv,ra,rb,rd⟩:=h4 w2 h;exact⟨ra,rb,qP hs (vI hc (iN (ih _ _ _ _ g w1 c rd) (qP hp (iN e (by rw[hv])))))⟩
 have h2:∀{a:PT}{l1:Ts},W l1->Gd (bX m) (zg a) l1 v l'->bE c a=true/\po ev c a l1=bY (Rv.nd v.n) l':=fun{a l1} w h=>by
  obtain⟨hs,w1,h⟩:=Gd.need hR w h
  rcases Gd.at_ h with⟨hc,h⟩|⟨hc,h⟩
  ·obtain⟨ra,rb,t⟩:=h3 w1 h;exact⟨ra,qP hs (vT hc t)⟩
  ·obtain⟨d,l3,g,_,w2,h⟩:=Gd.call hR w1 h;obtain⟨ra,rb,t⟩:=h3 w2 h;exact⟨ra,qP hs (vI hc (iN (ih _ _ _ _ g w1 c rb) t))⟩
 have hK:∀{k q:Int},((k=24/\q=1/\aM (l.drop 1) 0 pZ=false)\/(k=25/\q=2/\aM (l.drop 1) 0 pZ=true))->(aM (l.drop 1) 0 yY||aM (l.drop 1) 0 pZ)=true->Gd (bX m) (IF k q) (l.drop 1) v l'->ev (.loops c l)=bY (Rv.nd v.n) l':=fun{k q} hk hd h=>by
  refine vS ?_;show wa ev c l=_;refine qP hi ?_;have hD:¬(kd (l.drop 1) 1=1/\aM (l.drop 1) 2 wy=true)->Gd (bX m) (PP k) (l.drop 1) v l'->(if((aM (l.drop 1) 0 yY||aM (l.drop 1) 0 pZ)&&(decide (kd (l.drop 1) 1=1)&&aM (l.drop 1) 2 wy))=true then
    ndR (ev (.assign c ((l.drop 1).drop 3))) fun e l1=>fV eQ l1 fun l2=>ndR (ev (.body c l2)) fun s l3=>bY (Rv.nd (.mk 31 (tx (l.drop 1) 1) 0 (if aM (l.drop 1) 0 pZ then 2 else 1) [e,s])) l3
   else if(aM (l.drop 1) 0 yY||aM (l.drop 1) 0 pZ)=true then ndR (ev (.decl c (l.drop 1))) fun n l1=>po ev c n l1
   else if aM (l.drop 1) 0 mO then po ev c (nd 37 []) (l.drop 1)
   else ndR (ev (.assign c (l.drop 1))) fun n l1=>po ev c (nd 26 [n]) l1)=bY (Rv.nd v.n) l':=fun hn h=>by
   obtain⟨w2,h⟩:=Gd.skip w h;obtain⟨d,l3,g,_,w3,h⟩:=Gd.call hR w2 h;obtain⟨ra,t⟩:=h2 w3 h;refine vF (fun e=>hn aX) (vT hd (iN (vS ?_) t))
   show ev (.declL (if aM (l.drop 1) 0 pZ=true then 25 else 24) [] c ((l.drop 1).drop 1))=_
   rcases hk with⟨rfl,_,hk⟩|⟨rfl,_,hk⟩
   ·rw[hk];exact(ih _ _ _ _ g w2).2 c (.inl rfl) ra
   ·rw[hk];exact(ih _ _ _ _ g w2).2 c (.inr rfl) ra
  rcases Gd.kdI h with⟨h1,h⟩|⟨h1,h⟩
  ·rcases Gd.at_ h with⟨ho,h⟩|⟨ho,h⟩
   ·obtain⟨w2,h⟩:=Gd.skip w h.ptx;obtain⟨e,l3,g,_,w3,h⟩:=Gd.call hR w2 h;obtain⟨hp,w4,h⟩:=Gd.need hR w3 h;obtain⟨s,l4,g2,_,w5,h⟩:=Gd.call hR w4 h;obtain⟨rfl,rfl⟩:=h.ret;replace hr:bE c (.mk 31 (tx (l.drop 1) 1) 0 q [e.n,s.n])=true:=hr;rw[Tm]at hr;simp only[gK,eM]at hr;refine vT (by rw[hd,h1,ho];rfl) (iN (ih _ _ _ _ g w2 c hr.1) (qP hp (iN (Z6 g2 w4 hr.2.1 hr.2.2) ?_)))
    rcases hk with⟨rfl,rfl,hk⟩|⟨rfl,rfl,hk⟩<;>(rw[hk];rfl)
   grind
  grind
 rcases Gd.at_ h with⟨hc,h⟩|⟨hc,h⟩
 ·exact hK (.inl ⟨rfl,rfl,vL hc aN⟩) (nh (.inl hc)) h
 ·rcases Gd.at_ h with⟨hb,h⟩|⟨hb,h⟩
  ·grind
  ·refine vS ?_;show wa ev c l=_;refine qP hi ?_;rw[hc,hb];refine vF dL (vF aN ?_)
   rcases Gd.at_ h with⟨hs,h⟩|⟨hs,h⟩
   ·exact vT hs (h2 w h).2
   ·obtain⟨x,l1,g,_,w1,h⟩:=Gd.call hR w h;obtain⟨ra,t⟩:=h2 w1 h;exact vI hs (iN (ih _ _ _ _ g w c (ZC.symm.trans ra)) t)
theorem xiw(w0:W l)(h:Gd (bX m) (gr .cond) l v l'):QQ v l' l .cond:=fun c hr l0 hi hl=>by
 have hR:=nA m;obtain⟨hp,w1,h⟩:=Gd.need hR w0 h;obtain⟨e,l1,g,_,w2,h⟩:=Gd.call hR w1 h;obtain⟨hq,w3,h⟩:=Gd.need hR w2 h;obtain⟨a,l2,g2,_,w4,h⟩:=Gd.call hR w3 h;have wK:∀{x:RV}{l1 l2:Ts},bX m .stm l1 false=(x,l2,false)->W l1->oD x.n=false->bE c x.n=true->ev (.inner c l1)=bY (.nd x.n) l2:=fun g w hd hr=>vS (vF (fun q=>by rw[(ih _ _ _ _ g w).2 q]at hd;cases hd) ((ih _ _ _ _ g w).1 c hr))
 have hC:bE c e.n=true->ev (.condn c (l0.drop 1))=bY (.nd e.n) (l1.drop 1):=fun re=>by
  rw[<-hl];refine vS ?_;show tw ev c l=_;exact qP hp (iN (ih _ _ _ _ g w1 c re) (qP hq rfl))
 rcases Gd.take w4 h with⟨hE,w5,h⟩|⟨hE,h⟩
 ·obtain⟨b,l3,g3,_,w6,h⟩:=Gd.call hR w5 h;obtain⟨rfl,rfl⟩:=h.ret;replace hr:bE c (nd 28 [e.n,a.n,b.n])=true:=hr;rw[Rl]at hr;simp only[gK,eM]at hr;exact vS (vT hi (iN (hC hr.2.1) (iN (wK g2 w3 hr.2.2.1.1 hr.2.2.1.2) (vT hE (iN (wK g3 w5 hr.2.2.2.1 hr.2.2.2.2) rfl)))))
 ·obtain⟨rfl,rfl⟩:=h.ret;replace hr:bE c (nd 28 [e.n,a.n])=true:=hr;rw[Rk]at hr;simp only[gK,eM]at hr;exact vS (vT hi (iN (hC hr.1) (iN (wK g2 w3 hr.2.1 hr.2.2) (vI hE rfl))))
theorem SE(w0:W l)(h:Gd (bX m) (gr .stm) l v l'):QQ v l' l .stm:=by
 have hR:=nA m;have ka:∀{k:Int},v.n.kind=k->(k=24\/k=25\/k=11)->oD v.n=true:=fun{k} e hk=>by
  unfold oD
  grind
 rcases Gd.take w0 h.bad with⟨hc,w,h⟩|⟨a1,h⟩
 ·obtain⟨x,l1,g,_,w1,h⟩:=Gd.call hR w h;obtain⟨hi,w2,h⟩:=Gd.need hR w1 h;obtain⟨rfl,rfl⟩:=h.ret;obtain⟨hk,t⟩:=ih _ _ _ _ g w;refine⟨fun c hr=>vS (vT (nh (.inl hc)) (iN (vS ?_) (qP hi rfl))),fun _=>ka hk (.inl rfl)⟩
  show ev (.declL (if aM l 0 pZ=true then 25 else 24) [] c (l.drop 1))=_
  rw[vL hc aN]
  exact t c (.inl rfl) hr
 rcases Gd.take w0 h with⟨hc,w,h⟩|⟨a2,h⟩
 ·obtain⟨x,l1,g,_,w1,h⟩:=Gd.call hR w h;obtain⟨hi,w2,h⟩:=Gd.need hR w1 h;obtain⟨rfl,rfl⟩:=h.ret;obtain⟨hk,t⟩:=ih _ _ _ _ g w;refine⟨fun c hr=>vS (vT (nh (.inr hc)) (iN (vS ?_) (qP hi rfl))),fun _=>ka hk (.inr (.inl rfl))⟩
  show ev (.declL (if aM l 0 pZ=true then 25 else 24) [] c (l.drop 1))=_
  rw[hc];exact t c (.inr rfl) hr
 have uu:sM l=true->Gd (bX m) (.tail (.func true)) l v l'->QQ v l' l .stm:=fun hd h=>by
  obtain⟨hk,t⟩:=ih _ _ _ _ h.tail w0;exact⟨fun c hr=>vS (vF (Ip a1 a2) (vT hd (t c hr))),fun _=>ka hk (.inr (.inr rfl))⟩
 have mS:sM l=false->Gd (bX m) vi l v l'->QQ v l' l .stm:=fun hd h=>by
  refine⟨fun c hr=>vS (vF (Ip a1 a2) (vF UO ?_)),fun e=>by rw[hd]at e;cases e⟩
  have wK:∀{x:RV}{l1 l2:Ts}{c2:Cx},bX m .stm l1 false=(x,l2,false)->W l1->oD x.n=false->bE c2 x.n=true->ev (.inner c2 l1)=bY (.nd x.n) l2:=fun g w hd hr=>vS (vF (fun q=>by rw[(ih _ _ _ _ g w).2 q]at hd;cases hd) ((ih _ _ _ _ g w).1 _ hr))
  rcases Gd.at_ h with⟨hc,h⟩|⟨b1,h⟩
  ·exact vT hc (ih _ _ _ _ h.tail w0 c hr)
  refine vI b1 ?_
  rcases Gd.take w0 h with⟨hc,w,h⟩|⟨b2,h⟩
  ·obtain⟨rfl,rfl⟩:=h.ret;exact vT hc rfl
  refine vI b2 ?_;have vO:∀{s:Bs},aM l 0 s=true->s∈PJ->ev (.keyw c l)=bY (.nb v.n true) l'->(if kd l 0=2 then nbR (ev (.keyw c l)) fun n b l1=>if b=true then bY (.nd n) l1 else pa ev c l1 else pa ev c l)=bY (.nd v.n) l':=fun hi hs e=>vT (w0.word hi hs) (EQ e (vT rfl rfl))
  have mi:l.drop 2=(l.drop 1).drop 1:=zi
  rcases Gd.take w0 h with⟨hc,w,h⟩|⟨c1,h⟩
  ·exact vO hc aN (ih _ _ _ _ h.tail w c hr l hc rfl)
  rcases Gd.take w0 h with⟨hc,w,h⟩|⟨c2,h⟩
  ·obtain⟨hp,w1,h⟩:=Gd.need hR w h;obtain⟨e,l1,g,_,w2,h⟩:=Gd.call hR w1 h;obtain⟨hq,w3,h⟩:=Gd.need hR w2 h;obtain⟨a,l2,g2,_,w4,h⟩:=Gd.call hR w3 h;obtain⟨rfl,rfl⟩:=h.ret;replace hr:bE c (nd 29 [e.n,a.n])=true:=hr;rw[Tn]at hr;simp only[gK,eM]at hr;have hC:ev (.condn c (l.drop 1))=bY (.nd e.n) (l1.drop 1):=by
    refine vS ?_;show tw ev c (l.drop 1)=_;exact qP hp (iN (ih _ _ _ _ g w1 c hr.1) (qP hq rfl))
   refine vO hc aN (vS ?_)
   show wX ev c l=_;exact vI c1 (vT hc (iN hC (iN (vS (wK g2 w3 hr.2.1 hr.2.2)) rfl)))
  rcases Gd.take w0 h with⟨hc,w,h⟩|⟨c3,h⟩
  ·refine vO hc aN (vS ?_)
   show wX ev c l=_;exact vI c1 (vI c2 (vT hc (iN (ih _ _ _ _ h.tail w c hr) rfl)))
  rcases Gd.take w0 h with⟨hc,w,h⟩|⟨c4,h⟩
  ·refine vO hc aN (vS ?_)
   show wX ev c l=_;unfold wX;rw[AW (s:=mO),mi];refine vI c1 (vI c2 (vI c3 (vT hc ?_)))
   rcases Gd.at_ h with⟨hs,h⟩|⟨hs,h⟩
   ·obtain⟨hp,w1,h⟩:=Gd.need hR w h;obtain⟨rfl,rfl⟩:=h.ret;exact vT (Rj.symm.trans hr) (vT hs rfl)
   ·obtain⟨e,l1,g,_,w2,h⟩:=Gd.call hR w h;obtain⟨hq,w3,h⟩:=Gd.need hR w2 h;obtain⟨rfl,rfl⟩:=h.ret;replace hr:bE c (nd 32 [e.n])=true:=hr;rw[U2,gK]at hr;exact vT hr.1 (vI hs (iN (ih _ _ _ _ g w c hr.2) (qP hq rfl)))
  rcases Gd.take w0 h with⟨hc,w,h⟩|⟨c5,h⟩
  ·obtain⟨hp,w1,h⟩:=Gd.need hR w h;obtain⟨rfl,rfl⟩:=h.ret;simp[nd,bE]at hr;refine vO hc aN (vS ?_)
   show wX ev c l=_;unfold wX;refine vI c1 (vI c2 (vI c3 (vI c4 (vT (nh (.inl hc)) (vT hr (qP hp ?_))))));rw[vL hc aN]
   rfl
  rcases Gd.take w0 h with⟨hc,w,h⟩|⟨c6,h⟩
  ·obtain⟨hp,w1,h⟩:=Gd.need hR w h;obtain⟨rfl,rfl⟩:=h.ret;simp[nd,bE]at hr;refine vO hc aN (vS ?_)
   show wX ev c l=_;unfold wX;refine vI c1 (vI c2 (vI c3 (vI c4 (vT (nh (.inr hc)) (vT hr (qP hp ?_))))));rw[hc];rfl
  have Lp:¬(aM l 0 n5||aM l 0 jc)=true:=Ip c5 c6
  rcases Gd.take w0 h with⟨hc,w,h⟩|⟨c7,h⟩
  ·obtain⟨e,l1,g,_,w2,h⟩:=Gd.call hR w h;obtain⟨hq,w3,h⟩:=Gd.need hR w2 h;obtain⟨rfl,rfl⟩:=h.ret;refine vO hc aN (vS ?_)
   show wX ev c l=_;exact vI c1 (vI c2 (vI c3 (vI c4 (vF Lp (vT hc (iN (ih _ _ _ _ g w c (U3.symm.trans hr)) (qP hq rfl)))))))
  rcases Gd.take w0 h with⟨hc,w,h⟩|⟨c8,h⟩
  ·refine vO hc aN (vS ?_)
   show wX ev c l=_;exact vI c1 (vI c2 (vI c3 (vI c4 (vF Lp (vI c7 (vT hc (iN (ih _ _ _ _ h.tail w c hr) rfl)))))))
  ·obtain⟨x,l1,g,_,w2,h⟩:=Gd.call hR w0 h;obtain⟨hq,w3,h⟩:=Gd.need hR w2 h;obtain⟨rfl,rfl⟩:=h.ret;have hx:pa ev c l=bY (.nd (nd 26 [x.n])) (l1.drop 1):=by
    exact iN (ih _ _ _ _ g w0 c (ZC.symm.trans hr)) (qP hq rfl)
   have hy:ev (.keyw c l)=bY (.nb (nd 0 []) false) l:=by
    refine vS ?_;show wX ev c l=_;unfold wX;exact vI c1 (vI c2 (vI c3 (vI c4 (vF Lp (vI c7 (vI c8 rfl))))))
   split
   ·exact EQ hy (vF aN hx)
   ·exact hx
 have kc:∀{b:Bool},(aM l 0 uN||(aM l 0 jI&&aM l 1 uN))=b->sM l=b:=fun e=>by
  unfold sM;rw[a1,a2,e];rfl
 rcases Gd.at_ h with⟨hc,h⟩|⟨a3,h⟩
 ·grind
 rcases Gd.at_ h with⟨hc,h⟩|⟨a4,h⟩
 ·rcases Gd.at_ h with⟨hb,h⟩|⟨hb,h⟩
  ·grind
  grind
 grind
end
theorem Rb:∀(m:Nat)(s:RS)(l:Ts)(v:RV)(l':Ts),bX m s l false=(v,l',false)->W l->QQ v l' l s
 |0,s,l,v,l',h,w=>by cases h
 |m+1,s,l,v,l',h,w=>by
  have ih:=Rb m
  cases s with
  |stms=>exact xip ih w h
  |stmsL acc=>exact xdm ih w h
  |stm=>exact SE ih w h
  |block=>exact xds ih w h
  |decls k=>exact xdq ih w h
  |declsL k acc=>exact z8d ih w h
  |cond=>exact xiw ih w h
  |loop=>exact xit ih w h
  |tryR=>exact xio ih w h
  |func d=>exact xiv ih w h
  |names=>exact xdn ih w h
  |namesL acc=>exact z8c ih w h
  |arrow=>exact xdt ih w h
  |assign=>exact z8f ih w h
  |lv k=>exact Io ih w h
  |lvL k x=>exact SG ih w h
  |unary=>exact xdl ih w h
  |list e=>exact xiu ih w h
  |listL e acc=>exact xdo ih w h
  |chain=>exact xdr ih w h
  |newL x=>exact xis ih w h
  |chainL x=>exact z8e ih w h
  |prim=>exact xiq ih w h
  |obj=>exact SF ih w h
  |objL acc=>exact xir ih w h
  |field=>exact xdp ih w h
end Go.Proofs.YtjkcdcloomkooaaGreatDoor
