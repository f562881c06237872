/- Own work: walks and laws of the parser and its reference. -/
import Derived.Test.YtjkcdcloomkooaaGreatDoorQYQ
import Derived.Test.YtjkcdcloomkooaaGreatDoorQYX
set_option linter.unusedVariables false
set_option linter.unusedSimpArgs false
set_option linter.unusedSectionVars false
set_option maxHeartbeats 4000000
set_option maxRecDepth 100000
namespace Go.Proofs.YtjkcdcloomkooaaGreatDoor
def needK(k:Int):Bool:=decide (k=12)||(decide (k=16)||(decide (k=17)||(decide (k=28)||(decide (k=29)||(decide (k=30)||decide (k=31))))))
mutual
def oV:PT->Prop
 | .mk k _ _ _ ks=>(needK k=true->ks≠[])/\ks.length<=2000000/\cf ks
def cf:List PT->Prop
 |[]=>True
 |x::l=>oV x/\cf l
end
mutual
theorem oV.wid:∀{x:PT},oV x->vK x
 | .mk k nm i o ks,h=>by rw[vK];exact⟨h.2.1,cf.wid h.2.2⟩
theorem cf.wid:∀{l:List PT},cf l->th l
 |[],_=>by trivial
 |x::l,h=>by rw[th];exact⟨oV.wid h.1,cf.wid h.2⟩
end
theorem Ru:∀{a b:List PT},cf (a++b) ↔ cf a/\cf b
 |[],b=>by simp[cf]
 |x::a,b=>by rw[qD,cf,cf,Ru (a:=a),and_assoc]
theorem N8:∀a b:List PT,rJ (a++b)=max (rJ a) (rJ b)
 |[],b=>by simp[rJ]
 |x::a,b=>by rw[qD,rJ,rJ,N8 a b];omega
def RS.lst:RS->Bool
 | .stms|.stmsL _|.names|.namesL _|.list _|.listL _ _=>true
 |_=>false
def Bh(t:Bool)(n B:Nat):RV->Prop
 | .nd x=>t=false/\oV x/\gP x+3*n<=B
 | .ls l=>t=true/\l.length<=1000001/\cf l/\rJ l+3*n<=B
def qR(n B:Nat):RS->Prop
 | .stmsL acc|.listL _ acc|.objL acc|.namesL acc|.declsL _ acc=>acc.length+n<=1000000/\cf acc/\rJ acc+3*n<=B
 | .lvL _ x|.newL x|.chainL x=>n<=1000000/\oV x/\gP x+3*n<=B
 | .tryR=>n<=1000000/\3*n+3<=B
 |_=>n<=1000000/\3*n<=B
def RS.st:RS->Nat
 | .stm=>1
 |_=>0
def Inv(t:Bool):RP->Nat->Nat->Prop
 | .ret v,n,B=>Bh t n B v
 | .tail s,n,B=>s.lst=t/\qR n B s
 | .call s k,n,B=>(s.lst=false/\qR n (3*n) s)/\∀x n',n'+s.st<=n->oV x->gP x+3*n'<=3*n->Inv t (k x) n' B
 | .calls s k,n,B=>(s.lst=true/\qR n (3*n) s)/\∀ks n',n'<=n->ks.length<=1000001->cf ks->rJ ks+3*n'<=3*n->Inv t (k ks) n' B
 | .need _ k,n,B=>∀n',n=n'+1->Inv t k n' B
 | .take _ x y,n,B=>(∀n',n=n'+1->Inv t x n' B)/\Inv t y n B
 | .at_ _ _ x y,n,B=>Inv t x n B/\Inv t y n B
 | .kdI _ _ x y,n,B=>Inv t x n B/\Inv t y n B
 | .name k,n,B=>∀s n',n=n'+1->Inv t (k s) n' B
 | .key k,n,B=>∀s n',n=n'+1->Inv t (k s) n' B
 | .oper _ _ k,n,B=>(∀q n',n=n'+1->q≠0->Inv t (k q) n' B)/\Inv t (k 0) n B
 | .bad _ y,n,B=>Inv t y n B
 | .eof x y,n,B=>(n=0->Inv t x n B)/\(1<=n->Inv t y n B)
 | .skip j k,n,B=>Inv t k (n-j) B
 | .ptx _ k,n,B=>∀s,Inv t (k s) n B
 | .kdv _ k,n,B=>∀q,Inv t (k q) n B
 | .fail _,_,_=>True
 | .ahead x y,n,B=>Inv t x n B/\Inv t y n B
theorem Sc{l:Ts}{w:Bs}(h:aM l 0 w=true):l.length=(l.drop 1).length+1:=by have:=nZ h;grind
theorem PK{l:Ts}{k:Int}(h:kd l 0=k)(hk:k≠0):l.length=(l.drop 1).length+1:=by have:=lO h hk;grind
theorem xB{R:RR}(hR:∀s l b,nS l b (R s l b))(hI:∀s l v l' B,R s l false=(v,l',false)->W l->qR l.length B s->Bh s.lst l'.length B v)(hS:∀l v l',R .stm l false=(v,l',false)->l'.length<l.length)(t:Bool):
  ∀(p:RP)(l:Ts)(v:RV)(l':Ts)(B:Nat),W l->Inv t p l.length B->Gd R p l v l'->Bh t l'.length B v
 | .ret v0,l,v,l',B,w,h,g=>by obtain⟨rfl,rfl⟩:=g.ret;exact h
 | .tail s,l,v,l',B,w,h,g=>by
  have:=hI _ _ _ _ B g.tail w h.2
  rwa[h.1]at this
 | .call s k,l,v,l',B,w,h,g=>by
  obtain⟨x,l1,g1,hs,w1,g⟩:=Gd.call hR w g;have h1:=hI _ _ _ _ _ g1 w h.1.2;rw[h.1.1]at h1
  cases x with
  |ls q=>cases h1.1
  |nd x=>exact xB hR hI hS t _ _ _ _ B w1 (h.2 x _ (by cases s<;>first|exact hS _ _ _ g1|exact hs.length_le) h1.2.1 h1.2.2) g
 | .calls s k,l,v,l',B,w,h,g=>by
  obtain⟨x,l1,g1,hs,w1,g⟩:=Gd.calls hR w g;have h1:=hI _ _ _ _ _ g1 w h.1.2;rw[h.1.1]at h1
  cases x with
  |nd q=>cases h1.1
  |ls x=>exact xB hR hI hS t _ _ _ _ B w1 (h.2 x _ hs.length_le h1.2.1 h1.2.2.1 h1.2.2.2) g
 | .need s k,l,v,l',B,w,h,g=>by
  obtain⟨hi,w1,g⟩:=Gd.need hR w g;exact xB hR hI hS t _ _ _ _ B w1 (h _ (Sc hi)) g
 | .take s x y,l,v,l',B,w,h,g=>by
  rcases Gd.take w g with⟨hi,w1,g⟩|⟨hi,g⟩
  ·exact xB hR hI hS t _ _ _ _ B w1 (h.1 _ (Sc hi)) g
  ·exact xB hR hI hS t _ _ _ _ B w h.2 g
 | .at_ n s x y,l,v,l',B,w,h,g=>by
  rcases g.at_ with⟨hi,g⟩|⟨hi,g⟩
  ·exact xB hR hI hS t _ _ _ _ B w h.1 g
  ·exact xB hR hI hS t _ _ _ _ B w h.2 g
 | .kdI n k x y,l,v,l',B,w,h,g=>by
  rcases g.kdI with⟨hi,g⟩|⟨hi,g⟩
  ·exact xB hR hI hS t _ _ _ _ B w h.1 g
  ·exact xB hR hI hS t _ _ _ _ B w h.2 g
 | .name k,l,v,l',B,w,h,g=>by
  obtain⟨hk,w1,g⟩:=Gd.name hR w g;exact xB hR hI hS t _ _ _ _ B w1 (h _ _ (PK hk aN)) g
 | .key k,l,v,l',B,w,h,g=>by
  obtain⟨hk,w1,g⟩:=Gd.key hR w g;exact xB hR hI hS t _ _ _ _ B w1 (h _ _ (hk.elim (fun e=>PK e aN) fun e=>PK e aN)) g
 | .oper fr cnt k,l,v,l',B,w,h,g=>by
  rcases Gd.oper w g with⟨hk,hf,w1,g⟩|⟨hf,g⟩
  ·exact xB hR hI hS t _ _ _ _ B w1 (h.1 _ _ (hk.elim (fun e=>PK e aN) fun e=>PK e aN) hf) g
  ·exact xB hR hI hS t _ _ _ _ B w h.2 g
 | .bad x y,l,v,l',B,w,h,g=>xB hR hI hS t y _ _ _ B w h g.bad
 | .eof x y,l,v,l',B,w,h,g=>by
  rcases g.eof with⟨hi,g⟩|⟨hi,g⟩
  ·exact xB hR hI hS t _ _ _ _ B w (h.1 (by rw[hi];rfl)) g
  ·exact xB hR hI hS t _ _ _ _ B w (h.2 (aS.2 hi)) g
 | .skip j k,l,v,l',B,w,h,g=>by
  obtain⟨w1,g⟩:=Gd.skip w g;exact xB hR hI hS t _ _ _ _ B w1 (by rw[zC];exact h) g
 | .ptx n k,l,v,l',B,w,h,g=>xB hR hI hS t (k _) _ _ _ B w (h _) g.ptx
 | .kdv n k,l,v,l',B,w,h,g=>xB hR hI hS t (k _) _ _ _ B w (h _) g.kdv
 | .fail x,l,v,l',B,w,h,g=>(Gd.fail hR g).elim
 | .ahead x y,l,v,l',B,w,h,g=>by
  rcases g.ahead with⟨hi,g⟩|⟨hi,g⟩
  ·exact xB hR hI hS t _ _ _ _ B w h.1 g
  ·exact xB hR hI hS t _ _ _ _ B w h.2 g
theorem iIf{t:Bool}{c:Prop} [Decidable c] {x y:RP} {n B:Nat} (h1:c->Inv t x n B) (h2:¬c->Inv t y n B):Inv t (if c then x else y) n B:=by
 grind
theorem z16(n:Nat)(l:Ts)(b:Bool):rμ (bX (n+1) .stm l b).2.1 (bX (n+1) .stm l b).2.2<rμ l b\/(bX (n+1) .stm l b).2.2=true:=by
 have hR:=nA n;have hN:∀{w:Bs}{k:RP}{l:Ts}{b:Bool},tY (bX n) (.need w k) l b:=fun{w k l b}=>JN hR
 have hE:∀l b,tY (bX n) (.call .assign fun x=>.need mO (iX (nd 26 [x]))) l b:=fun l b=>N9 hR fun _ _ _=>hN
 have h3:∀l b,tY (bX n) PR l b:=fun l b=>xC hR (xC hR (hE l b))
 have h2:∀l b,tY (bX n) vi l b:=fun l b=>NZ (by cases n with
  |zero=>exact .inr rfl
  |succ n=>exact ZV (JN (nA n))) (xC hR (xC hR (xC hR (xC hR (xC hR (xC hR (xC hR (h3 l b))))))))
 have hF:∀l b,tY (bX n) (.tail (.func true)) l b:=fun l b=>by
  cases n with
  |zero=>exact .inr rfl
  |succ n=>exact ZV (xC (nA n) (JN (nA n)))
 show tY (bX n) q8 l b;exact W6
theorem zI{p:Prop} (hp:p:=by
 simp only[gr,IH,IC,NF,q8,vi,PR,B9,ID,CQ,zg,PP,B5,IF,Hm,ZB,II,QG,KV,EO,IG,zr,PO,CP,ue,DJ,KW,lm,NH,zh,x7,CR,zy,H4,PQ,QF,NU,NG,RP.isFn,iX,rZ,Inv,RS.lst,RS.st]
 repeat' (first
  |trivial
  |rfl
  |assumption
  |omega
  |exact bK _ _
  |exact fk _ (bK _ _)
  |(intro ri)
  |(subst ri)
  |exact absurd ri aN
  |(refine And.intro ?_ ?_)
  |(refine iIf ?_ ?_)
  |(simp only[nd,eD,gC,gP,rJ,N8,sD,qQ,bZ];omega)
  |(simp only[nd,eD,gC,oV,cf,Ru]at *)
  |fail)
 all_goals fail):p:=hp
theorem z9t{n B:Nat}(h:qR n B .stms):Inv true (gr .stms) n B:=by
 exact b7
theorem z42{n B:Nat}{acc:List PT}(h:qR n B (.stmsL acc)):Inv true (gr (.stmsL acc)) n B:=by
 exact BL
theorem xe3{n B:Nat}(h:qR n B .stm):Inv false (gr .stm) n B:=by
 exact b7
theorem z49{n B:Nat}(h:qR n B .block):Inv false (gr .block) n B:=by
 exact b7
theorem z47{n B:Nat}{k:Int}(h:qR n B (.decls k)):Inv false (gr (.decls k)) n B:=by
 exact b7
theorem z0c{n B:Nat}{k:Int}{acc:List PT}(h:qR n B (.declsL k acc)):Inv false (gr (.declsL k acc)) n B:=by
 exact BL
theorem z90{n B:Nat}(h:qR n B .cond):Inv false (gr .cond) n B:=by
 exact b7
theorem z9x{n B:Nat}(h:qR n B .loop):Inv false (gr .loop) n B:=by
 exact b7
theorem z9s{n B:Nat}(h:qR n B .tryR):Inv false (gr .tryR) n B:=by
 exact b7
theorem z9z{n B:Nat}{d:Bool}(h:qR n B (.func d)):Inv false (gr (.func d)) n B:=by
 exact b7
theorem z43{n B:Nat}(h:qR n B .names):Inv true (gr .names) n B:=by
 exact b7
theorem z0b{n B:Nat}{acc:List PT}(h:qR n B (.namesL acc)):Inv true (gr (.namesL acc)) n B:=by
 exact BL
theorem z5a{n B:Nat}(h:qR n B .arrow):Inv false (gr .arrow) n B:=by
 exact b7
theorem z0e{n B:Nat}(h:qR n B .assign):Inv false (gr .assign) n B:=by
 exact b7
theorem xj0{n B:Nat}{k:Nat}(h:qR n B (.lv k)):Inv false (gr (.lv k)) n B:=by
 exact b7
theorem xe5{n B:Nat}{k:Nat}{x:PT}(h:qR n B (.lvL k x)):Inv false (gr (.lvL k x)) n B:=by
 exact BL
theorem z41{n B:Nat}(h:qR n B .unary):Inv false (gr .unary) n B:=by
 exact b7
theorem z9y{n B:Nat}{e:Bs}(h:qR n B (.list e)):Inv true (gr (.list e)) n B:=by
 exact b7
theorem z44{n B:Nat}{e:Bs}{acc:List PT}(h:qR n B (.listL e acc)):Inv true (gr (.listL e acc)) n B:=by
 exact BL
theorem z48{n B:Nat}(h:qR n B .chain):Inv false (gr .chain) n B:=by
 exact b7
theorem z9w{n B:Nat}{x:PT}(h:qR n B (.newL x)):Inv false (gr (.newL x)) n B:=by
 exact BL
theorem z0d{n B:Nat}{x:PT}(h:qR n B (.chainL x)):Inv false (gr (.chainL x)) n B:=by
 exact BL
theorem z9u{n B:Nat}(h:qR n B .prim):Inv false (gr .prim) n B:=by
 exact b7
theorem xe4{n B:Nat}(h:qR n B .obj):Inv false (gr .obj) n B:=by
 exact b7
theorem z9v{n B:Nat}{acc:List PT}(h:qR n B (.objL acc)):Inv false (gr (.objL acc)) n B:=by
 exact BL
theorem z45{n B:Nat}(h:qR n B .field):Inv false (gr .field) n B:=by
 exact b7
theorem xj1:∀(s:RS){n B:Nat},qR n B s->Inv s.lst (gr s) n B
 | .stms,_,_,h=>z9t h
 | .stmsL _,_,_,h=>z42 h
 | .stm,_,_,h=>xe3 h
 | .block,_,_,h=>z49 h
 | .decls _,_,_,h=>z47 h
 | .declsL _ _,_,_,h=>z0c h
 | .cond,_,_,h=>z90 h
 | .loop,_,_,h=>z9x h
 | .tryR,_,_,h=>z9s h
 | .func _,_,_,h=>z9z h
 | .names,_,_,h=>z43 h
 | .namesL _,_,_,h=>z0b h
 | .arrow,_,_,h=>z5a h
 | .assign,_,_,h=>z0e h
 | .lv _,_,_,h=>xj0 h
 | .lvL _ _,_,_,h=>xe5 h
 | .unary,_,_,h=>z41 h
 | .list _,_,_,h=>z9y h
 | .listL _ _,_,_,h=>z44 h
 | .chain,_,_,h=>z48 h
 | .newL _,_,_,h=>z9w h
 | .chainL _,_,_,h=>z0d h
 | .prim,_,_,h=>z9u h
 | .obj,_,_,h=>xe4 h
 | .objL _,_,_,h=>z9v h
 | .field,_,_,h=>z45 h
theorem F8:∀(m:Nat)(s:RS)(l:Ts)(v:RV)(l':Ts)(B:Nat),bX m s l false=(v,l',false)->W l->qR l.length B s->Bh s.lst l'.length B v
 |0,s,l,v,l',B,h,w,hi=>by cases h
 |m+1,s,l,v,l',B,h,w,hi=>by
  refine xB (nA m) (fun s l v l' B h w hi=>F8 m s l v l' B h w hi) (fun l v l' h=>?_) s.lst (gr s) l v l' B w (xj1 s hi) h
  cases m with
  |zero=>cases h
  |succ m=>
   have:=z16 m l false
   rw[h,tZ]at this
   rcases this with h1|h1
   ·replace h1:l'.length+1<l.length+1:=h1;omega
   ·cases h1
theorem QP{l t r:Bs}{k:Int}{m:Nat}(h:jH uB fR l=.ok k t r):Kp ⟨k,t,m⟩:=by
 have hk:∀w∈Bi,gF w 24 4=0/\gF w 28 2=0:=aN
 have ho:∀w,(w∈yV\/w∈dm\/w∈pw)->w ∉ [nf,p9,py,pf,n5,jc,oy,q7]:=by
  have a:∀w∈yV,w ∉ [nf,p9,py,pf,n5,jc,oy,q7]:=aN
  have b:∀w∈dm,w ∉ [nf,p9,py,pf,n5,jc,oy,q7]:=aN
  have c:∀w∈pw,w ∉ [nf,p9,py,pf,n5,jc,oy,q7]:=aN
  grind
 have hm:∀{L:List Bs}{w:Bs},(L.any fun x=>x==w)=true->w∈L:=fun{L w} hw=>by
  grind
 cases l with
 |nil=>cases h
 |cons c l=>
  rw[jH]at h
  split at h
  ·injection h with h1 h2 h3
   subst h2
   split at h1
   ·rename_i hw;subst h1;exact⟨(by decide:(2:Int)≠0),fun e=>absurd e (by decide:¬(2:Int)=5),fun _=>hk _ (hm hw)⟩
   ·subst h1;exact⟨(by decide:(1:Int)≠0),fun e=>absurd e (by decide:¬(1:Int)=5),fun e=>absurd e (by decide:¬(1:Int)=2)⟩
  ·split at h
   ·unfold qZ at h
    split at h
    ·cases h
    ·split at h
     ·cases h
     ·split at h
      ·cases h
      ·injection h with h1 h2 h3
       subst h1;exact⟨(by decide:(3:Int)≠0),fun e=>absurd e (by decide:¬(3:Int)=5),fun e=>absurd e (by decide:¬(3:Int)=2)⟩
   ·split at h
    ·cases hl:lit uB c l with
     |none=>rw[hl]at h;cases h
     |some z=>
      rw[hl]at h
      injection h with h1 h2 h3
      subst h1;exact⟨(by decide:(4:Int)≠0),fun e=>absurd e (by decide:¬(4:Int)=5),fun e=>absurd e (by decide:¬(4:Int)=2)⟩
    ·cases hq:qC (c::l)with
     |none=>rw[hq]at h;cases h
     |some w=>
      rw[hq]at h
      injection h with h1 h2 h3
      subst h1 h2;refine⟨(by decide:(5:Int)≠0),fun _=>ho _ ?_,fun e=>absurd e (by decide:¬(5:Int)=2)⟩
      unfold qC at hq
      grind
theorem Tb:∀(n:Nat)(l:Bs){ts:List Tk}{e:Option (Nat×Int)},oQ uB fR n l=(ts,e)->∀x∈ts,Kp x
 |0,_,_,_,h,x,hx=>by cases h;cases hx
 |n+1,l,ts,e,h,x,hx=>by
  rw[oQ]at h
  split at h
  ·cases h;cases hx
  ·split at h
   ·cases h;cases hx
   ·split at h
    ·cases h;cases hx
    ·rename_i k t r ht
     cases h
     rcases dX.1 hx with rfl|hx
     ·exact QP ht
     ·exact Tb n r (ts:=(oQ uB fR n r).1) (e:=(oQ uB fR n r).2) rfl x hx
theorem Rq{l:Bs}{ts:List Tk}{e:Option (Nat×Int)}(h:lF l=(ts,e)):W (ts.map er):=fun t ht=>by
 obtain⟨x,hx,rfl⟩:=fT.1 ht
 have:=Tb _ _ (show oQ uB fR (l.length+1) l=_ from h) x hx
 exact⟨this.a,this.b,this.c⟩
theorem Nk:∀(n:Nat)(acc:List PT)(l:Ts){ks:List PT},W l->fv n acc l=some ks->dW lW acc=true->dW lW ks=true/\GG (IH acc) l (.ls ks) []
 |0,acc,l,ks,w,h,hr=>by cases h
 |n+1,acc,l,ks,w,h,hr=>by
  rw[fv]at h
  split at h
  ·rename_i hl
   cases h
   subst hl;exact⟨hr,.bad (.eof_t rfl .ret)⟩
  ·rename_i hl
   cases he:ev (.stmt lW l)with
   |none=>rw[he]at h;cases h
   |some o=>
    rw[he]at h
    cases o with
    |none=>cases h
    |some z=>
     obtain⟨v,l1⟩:=z
     cases v with
     |nb _ _=>cases h
     |ls _=>cases h
     |nd x=>
      obtain⟨w1,⟨g,r,_⟩,_⟩:=Rr _ _ _ _ he w;simp only[yI]at g r;obtain⟨h1,h2⟩:=Nk n _ _ w1 h (by rw[yJ,hr,dW,dW,r];rfl)
      refine⟨h1,.bad (.eof_f hl ?_)⟩
      cases hi:aM l 0 sK with
      |true=>exact absurd he (zuc hi (.inr (.inr (.inr rfl))) _)
      |false=>exact .at_f hi (.call g (.tail h2))
theorem z7i{m:Nat}{l:Ts}{v:RV}(w:W l)(h:bX m .stms l false=(v,[],false))(hr:dW lW v.s=true):vd l=some v.s:=(Rb _ _ _ _ _ h w).2 _ (xf _) rfl hr
theorem Rn{l:Ts}{ks:List PT}(w:W l)(h:vd l=some ks):dW lW ks=true/\∃m,∀k,m<=k->bX k .stms l false=(.ls ks,[],false):=by
 obtain⟨h1,h2⟩:=Nk _ _ _ w (show fv (l.length+1) [] l=some ks from h) rfl;exact⟨h1,GG.tail (s:=.stms) (GG.tail h2)⟩
open Go.RowKit
section
variable{n:Int}{toks:List Tk}{LR:List (List PV)}{l:Ts}
structure Y3(g:FuncId)(LR:List (List PV))(toks:List Tk)(o:Option (PT×Nat)):Prop where
 bad:o=none->MP g [.own 0 0] [aZ LR 0 lW] (.p (.pan mN)) [none]
 good:∀x m,o=some (x,m)->∃k i q nm K,jC x k i q nm K/\vK x/\m<=toks.length/\MP g [.own 0 0] [aZ LR 0 lW] (.p (.agg [pI k,pS nm,pI i,pI q,K])) [aZ LR (((toks.length:Nat):Int)-(m:Nat)) lW]
def ll(l:Ts):Option (PT×Nat):=(vd l).map fun ks=>(nd 42 ks,0)
theorem xcj(w:W toks)(h:bF n toks LR 0 toks):Y3 12 LR toks (ll toks):=by
 have hm:=z7f h;have hz:=h.z;unfold ll
 cases hs:vd toks with
 |none=>
  rw[hs]at hm;exact⟨fun _=>hm,fun _ _ h=>by cases h⟩
 |some ks=>
  rw[hs]at hm;refine⟨fun h=>(by cases h),fun y m h'=>?_⟩
  cases h'
  obtain⟨m,hr⟩:=(Rn w hs).2;have hw:=(F8 m .stms toks _ [] _ (hr m (nR _)) w ⟨hz,nR _⟩).2;obtain⟨k,i,q,nm,K,hv⟩:=zp (nd 42 ks);refine⟨k,i,q,nm,K,hv,Ge (by have:=hw.1;omega) hw.2.1.wid,aP _,?_⟩
  have kS:MP 12 [.own 0 0] [aZ LR 0 lW] (.p (.agg (gO (nd 42 ks)))) [aZ LR ((toks.length:Nat):Int) lW]:=hm;rw[hv.row]at kS;rw[show((toks.length:Nat):Int)-((0:Nat):Int)=((toks.length:Nat):Int) by omega]
  exact kS
end
def uA(x:PT)(at_ e:Int):PV:=.tup [.agg (gO x),pI at_,pI e]
def uY:PT:=.mk 0 [] 0 0 []
theorem NT(at_ e:Int):uA uY at_ e=.tup [zP,pI at_,pI e]:=by unfold uA uY;rfl
def kP(n:Nat):Nat:=match n with
 |9=>9
 |_=>0
def lP(n:Nat):Nat->Nat:=match n with
 |3=>fun _=>1
 |_=>fun _=>0
theorem Fr{g:FuncId}{s p r:PV}{HI:Prop}
  (h0:∀(P':Program)(G':World->Prop)(E:SO),(∀f l r,fS Tryz.prog GL f l r->fS P' G' f l r)->E=bG →
   vX P' G' E cO kP (fun _=>[]) lP (wW 4 (Tryz.f11.body.getD .skip)) (nI (mC 47 [1,4,5,6,7] 3 (fun _:Unit=>EV g p) (fun _=>xc none none none) fun _=>HI) (jG E cO Tryz.f11.results.toList r)) (.p s :: .p (.v (.func (.func g) #[] #[]))::List.replicate 45 (.p (.v undef))) [])
  (h1:HI->∀(P':Program)(G':World->Prop)(E:SO),(∀f l r,fS Tryz.prog GL f l r->fS P' G' f l r)->(∀f xs H r H',jL Tryz.prog GL f xs H r H'->jL P' G' f xs H r H')->E=bG->∀t1 t2 t3:Nat,
   vX P' G' E cO kP (fun _=>[]) lP (l8 5 (Tryz.f11.body.getD .skip)) (Ua E t1 t2 t3 r) ((rB [1,4,5,6,7] (EV g p) 47 0).set 23 .junk) (xc (some t1) (some t2) (some t3))):RL 11 [s,.v (.func (.func g) #[] #[])] r:=
 zzl kP (fun _=>[]) lP rfl rfl rfl rfl rfl rfl rfl rfl kR kR h0 h1
section
variable{g:FuncId}{s:ByteArray}(hs:s.size<=60000)
include hs
theorem z3h{ts:List Tk}{m:Nat}{e:Int}(h:lF s.data.toList=(ts,some (m,e))):RL 11 [pS s,.v (.func (.func g) #[] #[])] (uA uY ((s.size:Nat)-(m:Nat)) e):=by
 have hl:=NY s oM
 rw[A3 h]at hl;have he:e≠0:=NX _ _ m e (aG Prod.snd h);rw[NT];obtain⟨q,hq⟩:∃x:Int,((s.size:Nat):Int)-(m:Nat)=x:=⟨_,rfl⟩
 rw[hq]at hl ⊢;refine Fr (p:=.v undef) (HI:=False) (fun P G E hc hE=>?_) (fun h=>h.elim)
 have l0:=hc _ _ _ hl;have d1:decide (e=0)=false:=dF he;clear hE hc hl h hq hs;cbv;refine⟨_,l0,?_⟩;cbv;simp only[d1];cbv
 grind
theorem zvw{ts:List Tk}(h:lF s.data.toList=(ts,none))(hq:uV 0 ts=true):RL 11 [pS s,.v (.func (.func g) #[] #[])] (uA uY 0 5):=by
 have hl:=NY s oM
 have hz:ts.length<=1000000:=Um
 have hw:=nK (Pq (s.size:Nat) ts hz);rw[DI h]at hl;rw[hq]at hw;rw[NT];obtain⟨LR,tN⟩:∃x,kY (s.size:Nat) ts=x:=⟨_,rfl⟩
 rw[tN]at hl hw;refine Fr (p:=.v undef) (HI:=False) (fun P G E hc hE=>?_) (fun h=>h.elim)
 have l0:=hc _ _ _ hl;have l1:=hc _ _ _ hw;clear hE hc hl hw h hq hs hz;cbv;refine⟨_,l0,?_⟩;cbv;refine⟨_,l1,?_⟩;cbv
theorem Ad{r:PV}{ts:List Tk}(h:lF s.data.toList=(ts,none))(hq:uV 0 ts=false) (h1:∀(P':Program)(G':World->Prop)(E:SO),(∀f l r,fS Tryz.prog GL f l r->fS P' G' f l r)->(∀f xs H r H',jL Tryz.prog GL f xs H r H'->jL P' G' f xs H r H')->E=bG->∀(t1 t2 t3:Nat)(Q:Exit->List AV->AH->Prop),(∀env H,jG E cO Tryz.f11.results.toList r .ret env H->Q .ret env H) →
   (∀env a0 a1 a2 a3 a4 x y,r=.tup [zP,pI 0,pI 4]->env.getD 4 .junk=.own 0 0->env.getD 5 .junk=.own 1 0->env.getD 6 .junk=.own 2 0->Q (.panic mN) env (BB [a0,a1,a2,a3,a4] x y (some t1) (some t2) (some t3) [none])) →
   vX P' G' E cO kP (fun _=>[]) lP (l8 5 (Tryz.f11.body.getD .skip)) Q ((rB [1,4,5,6,7] (EV g (.ro 3 (kY (s.size:Nat) ts))) 47 0).set 23 .junk) (xc (some t1) (some t2) (some t3))):
  RL 11 [pS s,.v (.func (.func g) #[] #[])] r:=by
 have hl:=NY s oM
 have hz:ts.length<=1000000:=Um
 have hw:=nK (Pq (s.size:Nat) ts hz);rw[DI h]at hl;rw[hq]at hw;obtain⟨LR,tN⟩:∃x,kY (s.size:Nat) ts=x:=⟨_,rfl⟩
 rw[tN]at hl hw h1;refine Fr (p:=.ro 3 LR) (HI:=True) (fun P G E hc hE=>?_) (fun _ P G E hc hM hE t1 t2 t3=>h1 P G E hc hM hE t1 t2 t3 _ (fun env H hr=>hr) (fun env a0 a1 a2 a3 a4 x y hr e1 e2 e3=>⟨rfl,hr,e1,e2,e3,.mk ..⟩))
 have l0:=hc _ _ _ hl;have l1:=hc _ _ _ hw;clear hE hc hl hw h hq hs hz h1 tN;cbv;refine⟨_,l0,?_⟩;cbv;refine⟨_,l1,?_⟩;cbv;exact .mk () r5 trivial
theorem z3g{n:Int}{ts:List Tk}(hn:n=(s.size:Nat))(h:lF s.data.toList=(ts,none))(hq:uV 0 ts=false)(hg:MP g [.own 0 0] [aZ (kY n ts) 0 lW] (.p (.pan mN)) [none]):RL 11 [pS s,.v (.func (.func g) #[] #[])] (uA uY 0 4):=by
 subst hn;rw[NT];refine Ad hs h hq fun P G E hc hM hE t1 t2 t3 Q q1 q2=>?_
 replace hg:=hM _ _ _ _ _ hg;obtain⟨LR,tN⟩:∃x,kY (s.size:Nat) ts=x:=⟨_,rfl⟩
 rw[tN]at hg ⊢;clear hE hc hM h hq hs tN;cbv;refine .mk _ _ (Wk.refl _ _) [3] _ _ _ _ hg rfl rfl rfl ?_;cbv;exact q2 _ _ _ _ _ _ _ _ rfl rfl rfl rfl
section
variable{ts:List Tk}{a k i q:Int}{nm:ByteArray}{K:PV}(h:lF s.data.toList=(ts,none))(hq:uV 0 ts=false)(hK:al (.p K)=true)
 (hg:MP g [.own 0 0] [aZ (kY (s.size:Nat) ts) 0 lW] (.p (.agg [pI k,pS nm,pI i,pI q,K])) [aZ (kY (s.size:Nat) ts) a lW])
include h hq hK hg
theorem zzm(hl:a<((ts.length:Nat):Int)):RL 11 [pS s,.v (.func (.func g) #[] #[])] (uA uY 0 4):=by
 rw[NT];refine Ad hs h hq fun P G E hc hM hE t1 t2 t3 Q q1 q2=>?_
 replace hg:=hM _ _ _ _ _ hg;have hf:=hM _ _ _ _ _ (wB (vo (kY (s.size:Nat) ts) a lW));have cQ:E.lti a (E.ofN (kY (s.size:Nat) ts).length)=true:=by rw[hE,wu];exact aA hl
 obtain⟨LR,tN⟩:∃x,kY (s.size:Nat) ts=x:=⟨_,rfl⟩
 rw[tN]at hg hf cQ ⊢;clear hE hc hM h hq hs tN hl;cbv at hK;cbv at cQ;cbv;refine .mk _ _ (Wk.refl _ _) [3] _ _ _ _ hg rfl rfl rfl ?_;cbv;refine mV ?_;refine .mk _ _ (Wk.refl _ _) [3] _ _ _ _ hf rfl rfl rfl ?_;cbv;exact q2 _ _ _ _ _ _ _ _ rfl rfl rfl rfl
variable{x:PT}(hx:gO x=[pI k,pS nm,pI i,pI q,K])(hw:vK x)(hl:a=((ts.length:Nat):Int))
include hx hw hl
theorem Zy(hd:512<gP x):RL 11 [pS s,.v (.func (.func g) #[] #[])] (uA uY 0 5):=by
 rw[NT];have rP:=nK (OY (gP x) x 512 (nR _) hw aN)
 rw[hx,dF (show ¬((gP x:Nat):Int)<=512 by omega)]at rP
 refine Ad hs h hq fun P G E hc hM hE t1 t2 t3 Q q1 q2=>?_
 replace hg:=hM _ _ _ _ _ hg;replace rP:=hc _ _ _ rP;have cQ:E.lti a (E.ofN (kY (s.size:Nat) ts).length)=false:=Ut
 obtain⟨LR,tN⟩:∃x,kY (s.size:Nat) ts=x:=⟨_,rfl⟩
 rw[tN]at hg cQ ⊢;clear hE hc hM h hq hs tN hl hx hw hd;cbv at hK;cbv at cQ;cbv;refine .mk _ _ (Wk.refl _ _) [3] _ _ _ _ hg rfl rfl rfl ?_;cbv;refine mV ?_;refine⟨_,rP,?_⟩;cbv;refine q1 _ _ ?_;cbv
theorem Zz(hd:gP x<=512):RL 11 [pS s,.v (.func (.func g) #[] #[])] (uA x 0 0):=by
 unfold uA;have rP:=nK (OY (gP x) x 512 (nR _) hw aN)
 rw[hx,aA (show((gP x:Nat):Int)<=512 by omega)]at rP
 rw[hx];refine Ad hs h hq fun P G E hc hM hE t1 t2 t3 Q q1 q2=>?_
 replace hg:=hM _ _ _ _ _ hg;replace rP:=hc _ _ _ rP;have cQ:E.lti a (E.ofN (kY (s.size:Nat) ts).length)=false:=Ut
 obtain⟨LR,tN⟩:∃x,kY (s.size:Nat) ts=x:=⟨_,rfl⟩
 rw[tN]at hg cQ ⊢;clear hE hc hM h hq hs tN hl hx hw hd;cbv at hK;cbv at cQ;cbv;refine .mk _ _ (Wk.refl _ _) [3] _ _ _ _ hg rfl rfl rfl ?_;cbv;refine mV ?_;refine⟨_,rP,?_⟩;cbv;simp only[hK];cbv;refine q1 _ _ ?_;cbv
end
end
def lg(cl:Ts->Option (PT×Nat))(s:ByteArray):PV:=match lF s.data.toList with
 |(_,some p)=>uA uY ((s.size:Nat)-(p.1:Nat)) p.2
 |(ts,none)=>if uV 0 ts=true then uA uY 0 5 else(match cl (ts.map er)with
  |none=>uA uY 0 4
  |some (x,m)=>if m≠0 then uA uY 0 4 else if 512<gP x then uA uY 0 5 else uA x 0 0)
theorem ztk{g:FuncId}{s:ByteArray}{cl:Ts->Option (PT×Nat)}(hs:s.size<=60000)(dO:∀(ts:Ts)(LR:List (List PV)),W ts->bF (s.size:Nat) ts LR 0 ts->Y3 g LR ts (cl ts)):RL 11 [pS s,.v (.func (.func g) #[] #[])] (lg cl s):=by
 unfold lg
 cases h:lF s.data.toList with
 |mk ts e=>
  cases e with
  |some p=>exact z3h hs h
  |none=>
   have mY:=P3 (n:=(s.size:Nat)) h cj
   simp only
   cases hq:uV 0 ts with
   |true=>exact zvw hs h hq
   |false=>
    have hO:=dO _ _ (Rq h) mY;simp only[aK,bN]
    cases hc:cl (ts.map er)with
    |none=>exact z3g hs rfl h hq (hO.bad hc)
    |some xm=>
     obtain⟨x,m⟩:=xm;obtain⟨k,i,q,nm,K,hv,hw,hm,hg⟩:=hO.good x m hc;rw[nk]at hm hg;simp only
     by_cases h0:m=0
     ·subst h0;rw[aD dL]
      have hl:((ts.length:Nat):Int)-((0:Nat):Int)=((ts.length:Nat):Int):=eC
      by_cases hd:512<gP x
      ·rw[aF hd];exact Zy hs h hq hv.one hg hv.row hw hl hd
      ·rw[aD hd];exact Zz hs h hq hv.one hg hv.row hw hl oM
     ·rw[aF h0];exact zzm hs h hq hv.one hg oM
theorem z3k(x:PT)(a e:Int):∃k i q nm K,al (.p K)=true/\uA x a e=.tup [.agg [pI k,pS nm,pI i,pI q,K],pI a,pI e]:=by
 obtain⟨k,i,q,nm,K,hv⟩:=zp x;exact⟨k,i,q,nm,K,hv.one,by unfold uA;rw[hv.row]⟩
theorem zqo(cl:Ts->Option (PT×Nat))(s:ByteArray):∃x a e,lg cl s=uA x a e:=by
 unfold lg
 split
 ·grind
 ·split
  ·grind
  ·split
   ·grind
   ·split
    ·grind
    ·split<;>exact⟨_,_,_,rfl⟩
theorem O3(s:ByteArray)(hs:s.size<=60000):RL 6 [pS s] (lg ll s):=by
 have hp:=ztk hs (g:=12) (cl:=ll) fun ts LR w h=>xcj w h
 obtain⟨x,a,e,hx⟩:=zqo ll s;obtain⟨k,i,q,nm,K,hK,ho⟩:=z3k x a e;rw[hx,ho]at hp ⊢;refine xR aU mA mixed (fun _=>0) Tryz.func6 rfl kR kR rfl fun P G E hc hM hE=>?_
 replace hp:=hc _ _ _ hp;clear hc hM hE hx ho hs;cbv at hK;cbv;refine⟨_,hp,?_⟩;cbv;simp only[hK];cbv
def sA:ByteArray:=⟨#[108,101,116,32,97,32,61,32,49,59]⟩
def tA:List Tk:=[⟨2,[108,101,116],10⟩,⟨1,[97],6⟩,⟨5,[61],4⟩,⟨3,[49],2⟩,⟨5,[59],1⟩]
theorem J4:lF sA.data.toList=(tA,none):=cM
def Ud:PT:=.mk 5 [] 1 0 []
def Uc:PT:=.mk 40 [97] 0 0 [Ud]
def LF:PT:=.mk 24 [] 0 0 [Uc]
theorem Im:lg ll sA=uA (nd 42 [LF]) 0 0:=by
 unfold lg ll;rw[J4];rfl
abbrev LD:List PV:=[pI 5,pS ⟨#[]⟩,pI 1,pI 0,.v (.slice none 0 0)]
abbrev RW:List PV:=[pI 40,pS ⟨#[97]⟩,pI 0,pI 0,.ro 5 [LD]]
abbrev x8:List PV:=[pI 24,pS ⟨#[]⟩,pI 0,pI 0,.ro 5 [RW]]
abbrev U8:List PV:=[pI 42,pS ⟨#[]⟩,pI 0,pI 0,.ro 5 [x8]]
theorem RM:gO (nd 42 [LF])=U8:=by
 unfold LF Uc Ud nd;rfl
abbrev cP:PV:=.agg [pB false,pB false,pB false,pB false]
theorem zA (lo : Nat → Nat → Nat) {G : World → Prop} (hG : ∀ w w', Gr w w' → G w → G w') {f : FuncId} {fn : Func} {c : Code} (hf : Tryz.prog.funcs[f]? = some fn) (hb : fn.body = some c) (hn : (fn.name == "runtime.NumGoroutine") = false) {l : List PV} {r : PV} (hl : decide (l.length ≤ fn.ntmps) = true) (cV : yK fn.ntmps (fun _ => 0) (fun _ => []) lo c = true)
  (h:∀(P':Program)(G':World->Prop)(E:SO),(∀f l r,fS Tryz.prog G f l r->fS P' G' f l r)->E=bG->vX P' G' E cO (fun _=>0) (fun _=>[]) lo c (jG E cO fn.results.toList r) (l.map .p++List.replicate (fn.ntmps-l.length) (.p (.v undef))) []):fS Tryz.prog G f l r:=
 ap aU hG hf hb hn (oT hl) (aY.ofM aU mixed (fun _=>0) (fun _=>[]) lo cV (fun E=>jG E cO fn.results.toList r) fun P G E hc _ hE=>h P G E hc hE)
theorem TO:RL 82 [.agg LD,cP] (pB true):=by
 refine zA (fun n i=>match n,i with|22,0=>1|32,0=>1|34,0=>1|41,0=>1|43,0=>1|_,_=>0) mA Tryz.func82 rfl kR rfl kR fun P G E hc hE=>?_
 clear hc;have z0:E.ofN 0=0:=fH
 have z1:E.lei 0 1=true:=fH
 cbv;exact jl
structure FzA(E:SO):Prop where
 z0:E.ofN 1=1
 z1:E.lti 0 1=true
 z2:E.lti 1 1=false
 z3:E.wadd .i64 0 1=1
 z4:E.ple 0 0
 z5:E.nat 0=0
theorem LI{E:SO}(hE:E=bG):FzA E:=by subst hE;exact⟨rfl,rfl,rfl,rfl,bT 0,rfl⟩
theorem xkd:RL 88 [.ro 5 [LD],cP] (pB true):=by
 refine zA (fun _ _=>0) mA Tryz.func88 rfl kR rfl kR fun P G E hc hE=>?_
 have h1:=hc _ _ _ TO;clear hc;obtain⟨z0,z1,z2,z3,z4,z5⟩:=LI hE;have r0:([LD]:List (List PV))[E.nat 0]?=some LD:=by rw[z5];rfl
 cbv;cbv;simp only[z0];cbv;refine gV 18 [3,4,7,8,9] 1 (fun x:Bool=>[.own 0 0,.p (pB false),.p (.ro 5 [LD]),.p (pI 1),.p (pI (match x with|false=>0|true=>1))]) (fun _=>[some (.box [.p (pB false),.p (pB false),.p (pB false),.p (pB false)] 37 none)]) (fun _=>True) (fun x=>match x with|false=>1|true=>0) false r5 trivial ?_
 exact Wm
def iA:ByteArray:=⟨#[97]⟩
theorem J3:lF iA.data.toList=([⟨1,[97],1⟩],none):=cM
theorem xj2:RL 87 [pS ⟨#[97]⟩,pB false] (pB true):=by
 have hl:=NY iA aN
 rw[DI J3]at hl;refine zA (fun _ _=>0) mA Tryz.func87 rfl kR rfl kR fun P G E hc hE=>?_
 have h1:fS P G 26 [pS ⟨#[97]⟩] (.tup [.ro 3 [[pI 1,pS ⟨#[97]⟩,pI 0]],pI 0,pI 0]):=hc _ _ _ hl;clear hc hl;obtain⟨z0,z1,z2,z3,z4,z5⟩:=LI hE;have r0:([[pI 1,pS ⟨#[97]⟩,pI 0]]:List (List PV))[E.nat 0]?=some [pI 1,pS ⟨#[97]⟩,pI 0]:=by rw[z5];rfl
 have e0:E.eq ⟨#[97]⟩ ⟨#[97]⟩=true:=by rw[hE];exact aA (rfl:(⟨#[97]⟩:ByteArray)=⟨#[97]⟩)
 cbv at e0;cbv;exact jl
theorem UB:RL 81 [.agg x8,cP] (pB true):=by
 refine zA (fun _ _=>0) mA Tryz.func81 rfl kR rfl kR fun P G E hc hE=>?_
 have h1:=hc _ _ _ xkd;have h2:=hc _ _ _ xj2;clear hc;obtain⟨z0,z1,z2,z3,z4,z5⟩:=LI hE;have r0:([RW]:List (List PV))[E.nat 0]?=some RW:=by rw[z5];rfl
 cbv;cbv;simp only[z0];cbv;refine gV 52 [2,3,4,8,9,10] 2 (fun x:Bool=>[.own 0 0,.own 1 0,.p (pB false),.p (.ro 5 [RW]),.p (pI 1),.p (pI (match x with|false=>0|true=>1))]) (fun _=>[some (.box [.p (pI 24),.p (pS ⟨#[]⟩),.p (pI 0),.p (pI 0),.p (.ro 5 [RW])] 25 none),some (.box [.p (pB false),.p (pB false),.p (pB false),.p (pB false)] 37 none)]) (fun _=>True) (fun x=>match x with|false=>1|true=>0) false r5 trivial ?_
 intro x _
 cases x with
 |false=>
  cbv;refine mV ?_;exact .mk true r5 trivial aN
 |true=>
  exact jl
theorem QX:RL 49 [.agg x8,cP] (pB true):=by
 refine zA (fun n i=>match n,i with|10,0=>1|14,0=>1|16,0=>1|18,0=>1|20,0=>1|22,0=>1|_,_=>0) mA Tryz.func49 rfl kR rfl kR fun P G E hc hE=>?_
 have h1:=hc _ _ _ UB;clear hc;cbv;cbv;refine⟨_,h1,?_⟩;cbv
theorem xgu:RL 23 [.ro 5 [x8],cP] (pB true):=by
 refine zA (fun _ _=>0) mA Tryz.func23 rfl kR rfl kR fun P G E hc hE=>?_
 have h1:=hc _ _ _ QX;clear hc;obtain⟨z0,z1,z2,z3,z4,z5⟩:=LI hE;have r0:([x8]:List (List PV))[E.nat 0]?=some x8:=by rw[z5];rfl
 cbv;cbv;simp only[z0];cbv;refine gV 18 [3,4,7,8,9] 1 (fun x:Bool=>[.own 0 0,.p (pB false),.p (.ro 5 [x8]),.p (pI 1),.p (pI (match x with|false=>0|true=>1))]) (fun _=>[some (.box [.p (pB false),.p (pB false),.p (pB false),.p (pB false)] 37 none)]) (fun _=>True) (fun x=>match x with|false=>1|true=>0) false r5 trivial ?_
 exact Wm
theorem xgm:RL 9 [.agg U8] (pB true):=by
 have hw:vK (nd 42 [LF]):=by
  exact Gc (Gc (Gc zp6))
 have hs:=nK (OY 4 (nd 42 [LF]) 512 aN hw aN)
 rw[RM,show decide (((gP (nd 42 [LF]):Nat):Int)<=512)=true by decide]at hs
 refine zA (fun _ _=>0) mA Tryz.func9 rfl kR rfl kR fun P G E hc hE=>?_
 have h1:=hc _ _ _ hs;have h2:=hc _ _ _ xgu;clear hc hs hw;cbv;exact jl
theorem O8:RL 5 [] (pB true):=by
 have hp:=O3 sA aN
 rw[Im]at hp;unfold uA at hp;rw[RM]at hp;refine zA (fun _ _=>0) mA Tryz.func5 rfl kR rfl kR fun P G E hc hE=>?_
 have h1:=hc _ _ _ hp;have h2:=hc _ _ _ xgm;clear hc hp;obtain⟨z0,z1,z2,z3,z4,z5⟩:=LI hE;have r0:([x8]:List (List PV))[E.nat 0]?=some x8:=by rw[z5];rfl
 cbv;exact jl
end Go.Proofs.YtjkcdcloomkooaaGreatDoor
