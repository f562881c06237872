/- Own work: walks and laws of the parser and its reference. -/
import Derived.Test.YtjkcdcloomkooaaGreatDoorQXA
import Derived.Lib.MapLaws
import Derived.Lib.ValidLaws
import Derived.Lib.TrimUEq
import Derived.Laws.Runes
import Derived.Laws.RangeAny
namespace Go.Proofs.YtjkcdcloomkooaaGreatDoor
set_option linter.unusedVariables false
set_option linter.unusedSimpArgs false
set_option linter.unusedSectionVars false
set_option maxHeartbeats 4000000
set_option maxRecDepth 100000
abbrev Bs:=List UInt8
def oP(c:UInt8):Bool:=decide (97<=c/\c<=122)||(decide (65<=c/\c<=90)||(c==95||c==36))
def eH(c:UInt8):Bool:=decide (48<=c/\c<=57)
def nE(c:UInt8):Bool:=oP c||eH c
def xI(c:UInt8):Bool:=c==32||(c==9||(c==10||c==13))
def oD:Bs->Bs
 |[]=>[]
 |c::r=>if c=10 then c::r else oD r
def xD:Bs->Option Bs
 |[]=>none
 |c::r=>if c=42/\r.head?=some 47 then some r.tail else xD r
theorem HZ:∀l:Bs,(oD l).length<=l.length
 |[]=>nR _
 |c::r=>by
  unfold oD
  split
  ·exact nR _
  ·have:=HZ r
   grind
theorem HY:∀{l r:Bs},xD l=some r->r.length<=l.length
 |[],r,h=>by cases h
 |c::l,r,h=>by
  unfold xD at h
  split at h
  ·grind
  ·have:=HY h
   grind
def qE(l:Bs):Nat:=if l.take 2=[47,47]then 1 else if l.take 2=[47,42]then 2 else 0
def zX:Nat->Bs->Bs×Bool
 |0,l=>(l,true)
 |_+1,[]=>([],true)
 |n+1,c::r=>if xI c then zX n r else if qE (c::r)=1 then zX n (oD (r.drop 1))else if qE (c::r)=2 then(match xD (r.drop 1)with
  |none=>(c::r,false)
  |some r'=>zX n r')else(c::r,true)
theorem MC:∀(n m:Nat)(l:Bs),l.length<=n->l.length<=m->zX n l=zX m l
 |0,m,l,h,_=>by
  have:l=[]:=aQ oM
  subst this
  cases m<;>rfl
 |n+1,0,l,_,h=>by
  have:l=[]:=aQ oM
  subst this;rfl
 |n+1,m+1,[],_,_=>rfl
 |n+1,m+1,c::r,h,h'=>by
  simp only[qD]at h h';unfold zX
  split
  ·exact MC n m r oM oM
  ·split
   ·have h1:=HZ (r.drop 1);have h2:(r.drop 1).length<=r.length:=jT
    exact MC n m _ oM oM
   ·split
    ·split
     ·rfl
     ·rename_i r' hr;have h1:=HY hr;have h2:(r.drop 1).length<=r.length:=jT
      exact MC n m _ oM oM
    ·rfl
def kY(l:Bs):Bs×Bool:=zX l.length l
theorem Dp:kY []=([],true):=rfl
theorem MD{c:UInt8}{r:Bs}(h:xI c=true):kY (c::r)=kY r:=by
 show zX (r.length+1) (c::r)=zX r.length r;rw[zX,aF h]
theorem LV{c:UInt8}{r:Bs}(h:xI c=false)(h1:qE (c::r)=1):kY (c::r)=kY (oD (r.drop 1)):=by
 show zX (r.length+1) (c::r)=_;rw[zX,aE JH,aF h1]
 have h3:=HZ (r.drop 1);have h2:(r.drop 1).length<=r.length:=jT
 exact MC _ _ _ oM (nR _)
theorem LU{c:UInt8}{r r':Bs}(h:xI c=false)(h1:qE (c::r)=2)(h2:xD (r.drop 1)=some r'):kY (c::r)=kY r':=by
 show zX (r.length+1) (c::r)=_;rw[zX,aE JH,aE (by rw[h1];decide),aF h1,h2]
 have h3:=HY h2;have h4:(r.drop 1).length<=r.length:=jT
 exact MC _ _ _ oM (nR _)
theorem LY{c:UInt8}{r:Bs}(h:xI c=false)(h1:qE (c::r)=2)(h2:xD (r.drop 1)=none):kY (c::r)=(c::r,false):=by
 show zX (r.length+1) (c::r)=_;rw[zX,aE JH,aE (by rw[h1];decide),aF h1,h2]
theorem IE{c:UInt8}{r:Bs}(h:xI c=false)(h1:qE (c::r)=0):kY (c::r)=(c::r,true):=by
 show zX (r.length+1) (c::r)=_;rw[zX,aE JH,aE (by rw[h1];decide),aE (by rw[h1];decide)]
theorem Lb(l:Bs):qE l=0\/qE l=1\/qE l=2:=by
 unfold qE
 grind
theorem XD{motive:Bs->Prop}(nil:motive [])(ws:∀c r,xI c=true->motive r->motive (c::r))
  (ln:∀c r,xI c=false->qE (c::r)=1->motive (oD (r.drop 1))->motive (c::r))
  (cm:∀c r r',xI c=false->qE (c::r)=2->xD (r.drop 1)=some r'->motive r'->motive (c::r))
  (opn:∀c r,xI c=false->qE (c::r)=2->xD (r.drop 1)=none->motive (c::r))
  (stop:∀c r,xI c=false->qE (c::r)=0->motive (c::r)):∀(n:Nat)(l:Bs),l.length<=n->motive l
 |0,l,h=>by
  grind
 |n+1,[],_=>nil
 |n+1,c::r,h=>by
  simp only[qD]at h;have h4:(r.drop 1).length<=r.length:=jT
  have rec_:=XD nil ws ln cm opn stop n
  cases hw:xI c with
  |true=>grind
  |false=>
   rcases Lb (c::r)with hk|hk|hk
   ·exact stop c r hw hk
   ·have:=HZ (r.drop 1)
    grind
   ·cases hd:xD (r.drop 1)with
    |none=>exact opn c r hw hk hd
    |some r'=>
     have:=HY hd
     grind
theorem Ni:∀(l:Bs),oD l≠[]->∃u,l=u++oD l/\∀r',oD (u++10::r')=10::r'
 |[],h=>absurd rfl h
 |c::r,h=>by
  by_cases hc:c=10
  ·refine⟨[],?_,fun r'=>?_⟩
   ·unfold oD;rw[aF hc];rfl
   ·show oD (10::r')=_;unfold oD;rw[aF rfl]
  ·unfold oD at h ⊢;rw[aE hc]at h ⊢;obtain⟨u,h1,h2⟩:=Ni r h
   grind
theorem Nh:∀{l r:Bs},xD l=some r->∃u,l=u++r/\∀r',xD (u++r')=some r'
 |[],r,h=>by cases h
 |c::l,r,h=>by
  unfold xD at h
  split at h
  ·rename_i hc
   cases h
   cases l with
   |nil=>simp at hc
   |cons d l=>
    simp only[List.head?_cons,bV]at hc;obtain⟨rfl,rfl⟩:=hc;exact⟨[42,47],rfl,fun r'=>by
     show xD (42::47::r')=_;rfl⟩
  ·rename_i hc;obtain⟨u,h1,h2⟩:=Nh h
   cases u with
   |nil=>
    have h3:=h2 []
    cases h3
   |cons d u=>
    refine⟨c::d::u,by rw[h1];rfl,fun r'=>?_⟩
    show xD (c::(d::u++r'))=_;rw[xD,aE (by
     grind)]
    exact h2 r'
theorem Ng{c:UInt8}{r:Bs}{k:Nat}(h:qE (c::r)=k)(hk:k≠0):∃d r',r=d::r':=by
 cases r with
 |nil=>
  unfold qE at h
  grind
 |cons d r'=>exact⟨d,r',rfl⟩
theorem HG:∀l:Bs,(kY l).1.length<=l.length:=by
 intro l;refine XD (motive:=fun l=>(kY l).1.length<=l.length) ?_ ?_ ?_ ?_ ?_ ?_ l.length l (nR _)
 ·exact nR _
 ·intro c r hw ih;rw[MD hw,qD];omega
 ·intro c r hw hk ih;rw[LV hw hk,qD]
  have:=HZ (r.drop 1)
  grind
 ·intro c r r' hw hk hd ih;rw[LU hw hk hd,qD]
  have:=HY hd
  grind
 ·intro c r hw hk hd;rw[LY hw hk hd];exact nR _
 ·intro c r hw hk;rw[IE hw hk];exact nR _
theorem Ct:∀(l:Bs)(r:Bs)(b:Bool),kY l=(r,b)->(b=false->r.take 2=[47,42])/\(b=true->r=[]\/∃c r',r=c::r'/\xI c=false/\qE (c::r')=0):=by
 intro l;refine XD (motive:=fun l=>∀(r:Bs)(b:Bool),kY l=(r,b)->(b=false->r.take 2=[47,42])/\(b=true->r=[]\/∃c r',r=c::r'/\xI c=false/\qE (c::r')=0)) ?_ ?_ ?_ ?_ ?_ ?_ l.length l (nR _)
 ·intro r b h;rw[Dp]at h
  cases h
  exact⟨fun h=>by(cases h),fun _=>.inl rfl⟩
 ·intro c l hw ih r b h;rw[MD hw]at h;exact ih r b h
 ·intro c l hw hk ih r b h;rw[LV hw hk]at h;exact ih r b h
 ·intro c l l' hw hk hd ih r b h;rw[LU hw hk hd]at h;exact ih r b h
 ·intro c l hw hk hd r b h;rw[LY hw hk hd]at h
  cases h
  refine⟨fun _=>?_,fun h=>by(cases h)⟩
  unfold qE at hk
  grind
 ·intro c l hw hk r b h;rw[IE hw hk]at h
  grind
theorem zkr{c:UInt8}{r:Bs}(h:xI c=false)(h1:qE (c::r)=0):kY (c::r)=(c::r,true):=IE h h1
def YZ:List Bs:=[[97,115,121,110,99],[97,119,97,105,116],[98,114,101,97,107],[99,111,110,115,116],[99,111,110,116,105,110,117,101],[100,101,108,101,116,101],[101,108,115,101],[102,97,108,115,101],[102,105,110,97,108,108,121],[102,111,114],[102,117,110,99,116,105,111,110],[105,102],[105,110],[105,110,115,116,97,110,99,101,111,102],[108,101,116],[110,101,119],[110,117,108,108],[111,102],[114,101,116,117,114,110],[116,104,105,115],[116,104,114,111,119],[116,114,117,101],[116,114,121],[99,97,116,99,104],[116,121,112,101,111,102],[117,110,100,101,102,105,110,101,100],[119,104,105,108,101],[121,105,101,108,100]]
def zO:List Bs:=[[61,61,61],[33,61,61]]
def ff:List Bs:=[[43,61],[45,61],[42,61],[61,61],[33,61],[60,61],[62,61],[38,38],[124,124],[63,63],[61,62],[43,43],[45,45]]
def sr:List Bs:=[[123],[125],[40],[41],[91],[93],[59],[44],[46],[63],[58],[61],[43],[45],[42],[47],[37],[33],[60],[62]]
def mh(w:Bs):Bool:=YZ.any (· == w)
def rA(l:Bs):Option Bs:=if zO.any (· == l.take 3)then some (l.take 3)else if ff.any (· == l.take 2)then some (l.take 2)else if sr.any (· == l.take 1)then some (l.take 1)else none
def rU(c:UInt8):Option Nat:=if 48<=c/\c<=57 then some (c.toNat-48)else if 97<=c/\c<=102 then some (c.toNat-87)else if 65<=c/\c<=70 then some (c.toNat-55)else none
def iN(c:UInt8):Bool:=(rU c).isSome
def oZ(l:Bs):Nat:=l.foldl (fun n c=>16*n+(rU c).getD 0) 0
def lC(l:Bs):Nat:=l.foldl (fun n c=>10*n+(c.toNat-48)) 0
def ni(n:Nat):Bool:=decide (n<=1114111)&&!(decide (55296<=n)&&decide (n<=57343))
def zj(c:UInt8):Option UInt8:=if c=110 then some 10 else if c=116 then some 9 else if c=114 then some 13 else if c=98 then some 8 else if c=92\/c=34\/c=39 then some c else none
section
variable(U:Nat->Bs)(Rp:Bs->Bs)
def wS:Bs->Option (Bs×Bs)
 |[]=>none
 |c::r=>if c=123 then(match r.dropWhile iN with
  |[]=>none
  |d::r'=>if d=125/\1<=(r.takeWhile iN).length/\(r.takeWhile iN).length<=6/\ni (oZ (r.takeWhile iN))=true then some (U (oZ (r.takeWhile iN)),r')else none)else none
def l8:Bs->Option (Bs×Bs)
 |a::b::r=>(match rU a,rU b with
  |some x,some y=>some (U (16*x+y),r)
  |_,_=>none)
 |_=>none
def jR:Bs->Option (Bs×Bs)
 |[]=>none
 |c::r=>(match zj c with
  |some d=>some ([d],r)
  |none=>if c=48 then(if r.head?.any eH then none else some ([0],r))else if c=120 then l8 U r else if c=117 then wS U r else none)
def yK(q:UInt8):Nat->Bs->Option (Bs×Bs)
 |0,_=>none
 |_+1,[]=>none
 |n+1,c::r=>if c=q then some ([],r)else if c=10\/c=13 then none else if c=92 then(match jR U r with
  |none=>none
  |some p=>(yK q n p.2).map fun z=>(p.1++z.1,z.2))else(yK q n r).map fun z=>(c::z.1,z.2)
def lit(q:UInt8)(l:Bs):Option (Bs×Bs):=yK U q l.length l
end
inductive TR where
 |bad (e:Int)
 |ok (k:Int) (t:Bs) (r:Bs)
def rJ(l:Bs):TR:=
 if(l.takeWhile eH).head?=some 48/\1<(l.takeWhile eH).length then .bad 4 else if(l.dropWhile eH).head?.any oP then .bad 4 else if 9223372036854775807<lC (l.takeWhile eH)then .bad 5 else .ok 3 (l.takeWhile eH) (l.dropWhile eH)
def jQ(U:Nat->Bs)(Rp:Bs->Bs):Bs->TR
 |[]=>.bad 4
 |c::r=>if oP c then .ok (if mh ((c::r).takeWhile nE)then 2 else 1) ((c::r).takeWhile nE) ((c::r).dropWhile nE)else if eH c then rJ (c::r)else if c=34\/c=39 then(match lit U c r with
  |none=>.bad 4
  |some z=>.ok 4 (Rp z.1) z.2)else(match rA (c::r)with
  |none=>.bad 4
  |some w=>.ok 5 w ((c::r).drop w.length))
def JZ(r r':Bs):Prop:=r'.head?=r.head?\/r'.head?=some 32\/r'.head?=some 10\/r'=[]
theorem kn{p:UInt8->Bool}:∀(u r:Bs),(∀c∈u,p c=true)->(∀c,r.head?=some c->p c=false)->(u++r).takeWhile p=u/\(u++r).dropWhile p=r
 |[],[],_,_=>⟨rfl,rfl⟩
 |[],c::r,_,h=>by
  simp_all
 |c::u,r,h,h'=>by
  have h1:=h c (cR ..);have h2:=kn u r (fun x hx=>h x (bC _ hx)) h'
  simp_all
theorem mc{p:UInt8->Bool}:∀(l:Bs),(∀c∈l.takeWhile p,p c=true)/\(∀c,(l.dropWhile p).head?=some c->p c=false)/\l.takeWhile p++l.dropWhile p=l
 |[]=>⟨fun c h=>(by cases h),fun c h=>(by cases h),rfl⟩
 |c::l=>by
  have ih:=mc (p:=p) l
  cases hc:p c with
  |true=>
   simp_all
  |false=>
   simp_all
theorem En{p:UInt8->Bool}{r r':Bs}(h:JZ r r')(h32:p 32=false)(f7:p 10=false)(hr:∀c,r.head?=some c->p c=false):∀c,r'.head?=some c->p c=false:=fun c hc=>by
 rcases h with h|h|h|h
 ·grind
 ·grind
 ·grind
 grind
section
variable(U:Nat->Bs)(Rp:Bs->Bs)
theorem xcz:∀{l:Bs}{t r:Bs},l8 U l=some (t,r)->∃u,u≠[]/\l=u++r/\∀r',l8 U (u++r')=some (t,r')
 |[],_,_,h=>by cases h
 |[_],_,_,h=>by cases h
 |a::b::l,t,r,h=>by
  rw[l8]at h
  cases ha:rU a with
  |none=>rw[ha]at h;cases h
  |some x=>
   cases hb:rU b with
   |none=>grind
   |some y=>
    rw[ha,hb]at h
    cases h
    exact⟨[a,b],bZ _ _,rfl,fun r'=>by
     show l8 U (a::b::r')=_;rw[l8];rw[ha,hb]⟩
theorem xbl:∀{l:Bs}{t r:Bs},wS U l=some (t,r)->∃u,u≠[]/\l=u++r/\∀r',wS U (u++r')=some (t,r')
 |[],_,_,h=>by cases h
 |c::l,t,r,h=>by
  rw[wS]at h
  split at h
  ·rename_i hc;subst hc;obtain⟨h1,h2,h3⟩:=mc (p:=iN) l
   cases hd:l.dropWhile iN with
   |nil=>rw[hd]at h;cases h
   |cons d r2=>
    rw[hd]at h h3 h2;simp only at h
    split at h
    ·rename_i hg
     cases h
     obtain⟨rfl,oV⟩:=hg;refine⟨123::(l.takeWhile iN++[125]),bZ _ _,?_,fun r'=>?_⟩
     ·grind
     ·have h4:=kn (p:=iN) (l.takeWhile iN) (125::r') h1 (fun c hc=>by cases hc;decide)
      rw[pD,mE];show wS U (123::(l.takeWhile iN++125::r'))=_;rw[wS]
      grind
    ·cases h
  ·cases h
theorem WL:∀{l:Bs}{t r:Bs},jR U l=some (t,r)->∃u,u≠[]/\l=u++r/\∀r',r'.head?=r.head?->jR U (u++r')=some (t,r')
 |[],_,_,h=>by cases h
 |c::l,t,r,h=>by
  rw[jR]at h
  cases ht:zj c with
  |some d=>
   rw[ht]at h
   cases h
   exact⟨[c],bZ _ _,rfl,fun r' _=>by
    show jR U (c::r')=_;rw[jR];rw[ht]⟩
  |none=>
   rw[ht]at h;simp only at h
   split at h
   ·rename_i hc
    split at h
    ·cases h
    ·rename_i hd
     cases h
     exact⟨[c],bZ _ _,rfl,fun r' hr=>by
      show jR U (c::r')=_;rw[jR]
      grind⟩
   ·rename_i hc
    split at h
    ·rename_i hx;obtain⟨u,h1,h2,h3⟩:=xcz U h;exact T7
    ·rename_i hx
     split at h
     ·rename_i hu;obtain⟨u,h1,h2,h3⟩:=xbl U h;exact T7
     ·cases h
theorem HK{l:Bs}{p:Bs×Bs}(h:jR U l=some p):p.2.length<l.length:=by
 obtain⟨t,r⟩:=p;obtain⟨u,h1,h2,_⟩:=WL U h
 have:0<u.length:=aV.2 h1
 grind
theorem Cm(q:UInt8):∀(n m:Nat)(l:Bs),l.length<=n->l.length<=m->yK U q n l=yK U q m l
 |0,m,l,h,_=>by
  have:l=[]:=aQ oM
  subst this
  cases m<;>rfl
 |n+1,0,l,_,h=>by
  have:l=[]:=aQ oM
  subst this;rfl
 |n+1,m+1,[],_,_=>rfl
 |n+1,m+1,c::r,h,h'=>by
  simp only[qD]at h h';rw[yK,yK]
  split
  ·rfl
  ·split
   ·rfl
   ·split
    ·cases he:jR U r with
     |none=>rfl
     |some p=>
      have:=HK U he
      simp only;rw[Cm q n m p.2 oM oM]
    ·rw[Cm q n m r oM oM]
theorem L2(q:UInt8):lit U q []=none:=rfl
theorem XH(q:UInt8)(r:Bs):lit U q (q::r)=some ([],r):=by
 show yK U q (r.length+1) (q::r)=_;rw[yK,aF rfl]
theorem D1{q c:UInt8}(r:Bs)(h:c≠q)(h1:c=10\/c=13):lit U q (c::r)=none:=by
 show yK U q (r.length+1) (c::r)=_;rw[yK,aE h,aF h1]
theorem D4{q c:UInt8}{r:Bs}(h:c≠q)(h1:¬(c=10\/c=13))(h2:c=92)(h3:jR U r=none):lit U q (c::r)=none:=by
 show yK U q (r.length+1) (c::r)=_;rw[yK,aE h,aE h1,aF h2,h3]
theorem XQ{q c:UInt8}{r:Bs}{p:Bs×Bs}(h:c≠q)(h1:¬(c=10\/c=13))(h2:c=92)(h3:jR U r=some p):lit U q (c::r)=(lit U q p.2).map fun z=>(p.1++z.1,z.2):=by
 show yK U q (r.length+1) (c::r)=_;rw[yK,aE h,aE h1,aF h2,h3];simp only
 have:=HK U h3
 unfold lit;rw[Cm U q r.length p.2.length p.2 oM (nR _)]
theorem XG{q c:UInt8}(r:Bs)(h:c≠q)(h1:¬(c=10\/c=13))(h2:c≠92):lit U q (c::r)=(lit U q r).map fun z=>(c::z.1,z.2):=by
 show yK U q (r.length+1) (c::r)=_;rw[yK,aE h,aE h1,aE h2];rfl
theorem L0(q:UInt8){motive:Bs->Prop}(nil:motive [])(end_:∀r,motive (q::r))(brk:∀c r,c≠q->(c=10\/c=13)->motive (c::r))
  (esc0:∀c r,c≠q->¬(c=10\/c=13)->c=92->jR U r=none->motive (c::r)) (esc:∀c r p,c≠q->¬(c=10\/c=13)->c=92->jR U r=some p->motive p.2->motive (c::r))
  (chr:∀c r,c≠q->¬(c=10\/c=13)->c≠92->motive r->motive (c::r)):∀(n:Nat)(l:Bs),l.length<=n->motive l
 |0,l,h=>by
  grind
 |n+1,[],_=>nil
 |n+1,c::r,h=>by
  simp only[qD]at h;have rec_:=L0 q nil end_ brk esc0 esc chr n
  by_cases h1:c=q
  ·subst h1;exact end_ r
  ·by_cases h2:c=10\/c=13
   ·exact brk c r h1 h2
   ·by_cases h3:c=92
    ·cases he:jR U r with
     |none=>grind
     |some p=>
      have:=HK U he
      grind
    grind
theorem Bu(q:UInt8):∀(l:Bs),∀t r,lit U q l=some (t,r)->∃u,u≠[]/\l=u++r/\∀r',lit U q (u++r')=some (t,r'):=by
 intro l;refine L0 U q (motive:=fun l=>∀t r,lit U q l=some (t,r)->∃u,u≠[]/\l=u++r/\∀r',lit U q (u++r')=some (t,r')) ?_ ?_ ?_ ?_ ?_ ?_ l.length l (nR _)
 ·intro t r h
  cases h
 ·intro l t r h;rw[XH]at h
  cases h
  exact⟨[q],bZ _ _,rfl,fun r'=>XH U q r'⟩
 ·intro c l h1 h2 t r h;rw[D1 U l h1 h2]at h;cases h
 ·intro c l h1 h2 h3 he t r h;rw[D4 U h1 h2 h3 he]at h;cases h
 ·intro c l p h1 h2 h3 he ih t r h;rw[XQ U h1 h2 h3 he]at h
  cases hl:lit U q p.2 with
  |none=>rw[hl]at h;cases h
  |some z=>
   rw[hl]at h
   cases h
   obtain⟨u2,g1,g2,g3⟩:=ih z.1 z.2 hl;obtain⟨u1,k1,k2,k3⟩:=WL U (t:=p.1) (r:=p.2) he;refine⟨c::(u1++u2),bZ _ _,by rw[k2,g2];simp,fun r'=>?_⟩
   show lit U q (c::((u1++u2)++r'))=_;have h5:jR U ((u1++u2)++r')=some (p.1,u2++r'):=by
    rw[mE];refine k3 _ ?_;rw[g2]
    cases u2 with
    |nil=>exact absurd rfl g1
    |cons x y=>rfl
   rw[XQ U h1 h2 h3 h5]
   grind
 ·intro c l h1 h2 h3 ih t r h;rw[XG U l h1 h2 h3]at h
  cases hl:lit U q l with
  |none=>rw[hl]at h;cases h
  |some z=>
   rw[hl]at h
   cases h
   obtain⟨u,g1,g2,g3⟩:=ih z.1 z.2 hl;refine⟨c::u,bZ _ _,by rw[g2];rfl,fun r'=>?_⟩
   show lit U q (c::(u++r'))=_;rw[XG U _ h1 h2 h3,g3];rfl
end
theorem HP{L:List Bs}{k:Nat}(hk:(L.all fun w=>decide (w.length=k))=true){l:Bs}(h:L.any (· == l.take k)=true):k<=l.length:=by
 grind
theorem XC{l w:Bs}(h:rA l=some w):w≠[]/\l=w++l.drop w.length/\w.length<=l.length:=by
 have key:∀k,0<k->k<=l.length->l.take k=w->w≠[]/\l=w++l.drop w.length/\w.length<=l.length:=fun k h0 hk e=>by
  subst e;have h1:(l.take k).length=k:=aZ
  refine⟨fun e=>?_,by simp_all,by omega⟩
  grind
 unfold rA at h
 split at h
 ·rename_i hc;exact key 3 aT (HP aT hc) (bA h)
 ·split at h
  ·rename_i hc;exact key 2 aT (HP aT hc) (bA h)
  ·split at h
   ·rename_i hc;exact key 1 aT (HP aT hc) (bA h)
   ·cases h
theorem PF{l:Bs}(h:zO.any (· == l.take 3)=true):ff.any (· == l.take 2)=true:=by
 obtain⟨w,hw,he⟩:=fQ.1 h;have h3:w=l.take 3:=RB
 have h4:l.take 2=w.take 2:=aZ
 rw[h4];exact aR.1 (show(zO.all fun w=>ff.any (· == w.take 2))=true by decide) w hw
theorem P3{a b:UInt8}(hb:b=32\/b=10):ff.any (· == [a,b])=false:=by
 rw[jv];intro w hw he;have h3:w=[a,b]:=RB
 have h4:=aR.1 (show(ff.all fun w=>!w.contains 32&&!w.contains 10)=true by decide) w hw
 grind
theorem P4{a b c:UInt8}(hc:c=32\/c=10):zO.any (· == [a,b,c])=false:=by
 rw[jv];intro w hw he;have h3:w=[a,b,c]:=RB
 have h4:=aR.1 (show(zO.all fun w=>!w.contains 32&&!w.contains 10)=true by decide) w hw
 grind
theorem Kv{L:List Bs}{k:Nat}(hk:(L.all fun w=>decide (w.length=k))=true){x:Bs}(h:x.length≠k):L.any (· == x)=false:=by
 grind
theorem xb0{l w:Bs}(h:rA l=some w){r':Bs}(hr:JZ (l.drop w.length) r'):rA (w++r')=some w:=by
 unfold rA at h
 split at h
 ·rename_i hc
  cases h
  have hl:=HP aT hc
  have h1:(l.take 3).length=3:=aZ
  have h2:(l.take 3++r').take 3=l.take 3:=aZ
  unfold rA;rw[h2,aF hc]
 ·rename_i h3
  split at h
  ·rename_i hc
   cases h
   have hl:=HP aT hc
   obtain⟨a,b,l2,rfl⟩:∃a b l2,l=a::b::l2:=by
    match l,hl with
    |a::b::l2,_=>grind
   have gf:JZ l2 r':=hr;have h2:zO.any (· == ([a,b]++r').take 3)=false:=by
    cases r' with
    |nil=>exact Kv (k:=3) aT jT
    |cons c r'=>
     rcases gf with e|e|e|e
     ·cases l2 with
      |nil=>cases e
      |cons d l2=>
       grind
     ·cases e;exact P4 (.inl rfl)
     ·cases e;exact P4 (.inr rfl)
     ·cases e
   show rA ([a,b]++r')=some [a,b];unfold rA
   grind
  ·rename_i h2n
   split at h
   ·rename_i hc
    cases h
    have hl:=HP aT hc
    obtain⟨a,l2,rfl⟩:∃a l2,l=a::l2:=by
     match l,hl with
     |a::l2,_=>exact⟨a,l2,rfl⟩
    have gf:JZ l2 r':=hr;have h2:ff.any (· == ([a]++r').take 2)=false:=by
     cases r' with
     |nil=>exact Kv (k:=2) aT jT
     |cons c r'=>
      rcases gf with e|e|e|e
      ·cases l2 with
       |nil=>cases e
       |cons d l2=>
        grind
      ·cases e;exact P3 (.inl rfl)
      ·cases e;exact P3 (.inr rfl)
      ·cases e
    have h4:zO.any (· == ([a]++r').take 3)=false:=by
     cases h5:zO.any (· == ([a]++r').take 3)with
     |false=>rfl
     |true=>
      have:=PF h5
      grind
    show rA ([a]++r')=some [a];unfold rA
    grind
   ·cases h
section
variable(U:Nat->Bs)(Rp:Bs->Bs)
theorem z62{l t r:Bs}{k:Int}(h:rJ l=.ok k t r)(hd:∃c l',l=c::l'/\eH c=true):∃u,u≠[]/\l=u++r/\(∃c u',u=c::u'/\eH c=true)/\∀r',JZ r r'->rJ (u++r')=.ok k t r':=by
 obtain⟨h1,h2,h3⟩:=mc (p:=eH) l;obtain⟨c,l',rfl,hc⟩:=hd;have qo:(c::l').takeWhile eH=c::l'.takeWhile eH:=bw
 unfold rJ at h
 split at h
 ·cases h
 ·rename_i g1
  split at h
  ·cases h
  ·rename_i g2
   split at h
   ·cases h
   ·rename_i g3
    cases h
    refine⟨(c::l').takeWhile eH,by grind,h3.symm,⟨c,_,qo,hc⟩,fun r' hr=>?_⟩
    have h4:=kn (p:=eH) ((c::l').takeWhile eH) r' h1 (En hr aT aT h2)
    have h5:¬(r'.head?.any oP=true):=fun h=>by
     cases hh:r'.head? with
     |none=>rw[hh]at h;cases h
     |some x=>
      rw[hh]at h;have h6:∀y,((c::l').dropWhile eH).head?=some y->oP y=false:=fun y hy=>by
       grind
      have h7:=En (p:=oP) hr aT aT h6 x hh
      grind
    unfold rJ
    grind
theorem XV{l t r:Bs}{k:Int}(h:jQ U Rp l=.ok k t r):∃u,u≠[]/\l=u++r/\∀r',JZ r r'->jQ U Rp (u++r')=.ok k t r':=by
 cases l with
 |nil=>cases h
 |cons c l=>
  rw[jQ]at h
  split at h
  ·rename_i hc
   cases h
   obtain⟨h1,h2,h3⟩:=mc (p:=nE) (c::l);have hw:nE c=true:=by unfold nE;rw[hc];rfl
   have qo:(c::l).takeWhile nE=c::l.takeWhile nE:=bw
   refine⟨(c::l).takeWhile nE,by grind,h3.symm,fun r' hr=>?_⟩
   have h4:=kn (p:=nE) ((c::l).takeWhile nE) r' h1 (En hr aT aT h2)
   rw[qo]at h4 ⊢;show jQ U Rp (c::(l.takeWhile nE++r'))=_;rw[jQ]
   grind
  ·rename_i hc
   split at h
   ·rename_i hd;obtain⟨u,h1,h2,⟨c',u',rfl,wH⟩,h3⟩:=z62 h ⟨c,l,rfl,hd⟩;refine⟨c'::u',h1,h2,fun r' hr=>?_⟩
    have oJ:c=c':=by
     grind
    subst oJ;show jQ U Rp (c::(u'++r'))=_;rw[jQ]
    grind
   ·rename_i hd
    split at h
    ·rename_i hq
     cases hl:lit U c l with
     |none=>rw[hl]at h;cases h
     |some z=>
      rw[hl]at h
      cases h
      obtain⟨u,h1,h2,h3⟩:=Bu U c l z.1 z.2 hl;refine⟨c::u,bZ _ _,by grind,fun r' _=>?_⟩
      show jQ U Rp (c::(u++r'))=_;rw[jQ]
      grind
    ·rename_i hq
     cases ho:rA (c::l)with
     |none=>rw[ho]at h;cases h
     |some w=>
      rw[ho]at h
      cases h
      obtain⟨h1,h2,h3⟩:=XC ho;refine⟨t,h1,h2,fun r' hr=>?_⟩
      have h4:=xb0 ho hr
      cases t with
      |nil=>exact absurd rfl h1
      |cons x w=>
       have oJ:c=x:=by
        grind
       subst oJ;show jQ U Rp (c::(w++r'))=_;rw[jQ]
       grind
end
structure Tk where
 k:Int
 t:Bs
 rem:Nat
def Tk.up(n:Nat)(x:Tk):Tk:=⟨x.k,x.t,x.rem+n⟩
section
variable(U:Nat->Bs)(Rp:Bs->Bs)
def qW:Nat->Bs->List Tk×Option (Nat×Int)
 |0,_=>([],none)
 |n+1,l=>if(kY l).2=false then([],some ((kY l).1.length,4))else if(kY l).1=[]then([],none)else(match jQ U Rp (kY l).1 with
  | .bad e=>([],some ((kY l).1.length,e))
  | .ok k t r=>(⟨k,t,(kY l).1.length⟩::(qW n r).1,(qW n r).2))
def lex(l:Bs):List Tk×Option (Nat×Int):=qW U Rp (l.length+1) l
theorem HF{l t r:Bs}{k:Int}(h:jQ U Rp l=.ok k t r):r.length<l.length:=by
 obtain⟨u,h1,h2,_⟩:=XV U Rp h
 have:0<u.length:=aV.2 h1
 rw[h2,sE];omega
theorem XA:∀(n m:Nat)(l:Bs),l.length<n->l.length<m->qW U Rp n l=qW U Rp m l
 |0,m,l,h,_=>by omega
 |n+1,0,l,_,h=>by omega
 |n+1,m+1,l,h,h'=>by
  rw[qW,qW]
  split
  ·rfl
  ·split
   ·rfl
   ·cases ht:jQ U Rp (kY l).1 with
    |bad e=>rfl
    |ok k t r=>
     have h1:=HF U Rp ht;have h2:=HG l;simp only;rw[XA n m r oM oM]
theorem zq9{a b:Bs}(h:kY a=kY b):lex U Rp a=lex U Rp b:=by
 unfold lex;rw[XA U Rp (a.length+1) (a.length+b.length+1) a oM oM,XA U Rp (b.length+1) (a.length+b.length+1) b oM oM]
 rw[qW,qW,h]
theorem Nj{l r:Bs}(h:kY l=(r,false)):lex U Rp l=([],some (r.length,4)):=by
 unfold lex;rw[qW,h];rfl
theorem Dx{l:Bs}(h:kY l=([],true)):lex U Rp l=([],none):=by
 unfold lex;rw[qW,h];rfl
theorem Nb{l r:Bs}{e:Int}(h:kY l=(r,true))(hr:r≠[])(ht:jQ U Rp r=.bad e):lex U Rp l=([],some (r.length,e)):=by
 unfold lex;rw[qW,h];simp only[hr,ht,bT,Bool.true_eq_false]
theorem YC{l r t r2:Bs}{k:Int}(h:kY l=(r,true))(ht:jQ U Rp r=.ok k t r2):lex U Rp l=(⟨k,t,r.length⟩::(lex U Rp r2).1,(lex U Rp r2).2):=by
 have hr:r≠[]:=fun e=>by rw[e]at ht;cases ht
 have h1:=HF U Rp ht;have h2:=HG l;rw[h]at h2;simp only at h2;unfold lex;rw[XA U Rp (r2.length+1) l.length r2 oM oM]
 rw[qW];rw[h];simp only[hr,ht,bT,Bool.true_eq_false]
theorem Lz(l:Bs):∃u,l=u++(kY l).1:=by
 refine XD (motive:=fun l=>∃u,l=u++(kY l).1) ?_ ?_ ?_ ?_ ?_ ?_ l.length l (nR _)
 ·exact⟨[],rfl⟩
 ·intro c r hw ⟨u,ih⟩;rw[MD hw];exact⟨c::u,by rw[pD,<- ih]⟩
 ·intro c r hw hk ⟨u,ih⟩;rw[LV hw hk];obtain⟨d,l2,rfl⟩:=Ng hk aT
  have ih':oD l2=u++(kY (oD l2)).1:=ih;obtain⟨v,hv⟩:∃v,l2=v++oD l2:=by
   cases hd:oD l2 with
   |nil=>exact⟨l2,by simp⟩
   |cons x y=>
    obtain⟨v,h3,_⟩:=Ni l2 (by rw[hd];exact bZ _ _)
    exact⟨v,by rw[<-hd];exact h3⟩
  refine⟨c::d::(v++u),?_⟩;show c::d::l2=c::d::((v++u)++(kY (oD l2)).1);rw[mE,<- ih',<- hv]
 ·intro c r r' hw hk hd ⟨u,ih⟩;rw[LU hw hk hd];obtain⟨d,l2,rfl⟩:=Ng hk aT
  obtain⟨v,h3,_⟩:=Nh hd;have VC:l2=v++r':=h3;refine⟨c::d::(v++u),?_⟩;show c::d::l2=c::d::((v++u)++(kY r').1);rw[mE,<- ih,<- VC]
 ·intro c r hw hk hd;rw[LY hw hk hd];exact⟨[],rfl⟩
 ·intro c r hw hk;rw[IE hw hk];exact⟨[],rfl⟩
end
inductive PT where
 |mk (k:Int) (nm:Bs) (i o:Int) (ks:List PT)
def PT.kind:PT->Int
 | .mk k _ _ _ _=>k
def nd(k:Int)(ks:List PT):PT:=.mk k [] 0 0 ks
def dV(k:Int)(nm:Bs)(ks:List PT):PT:=.mk k nm 0 0 ks
def fR(k o:Int)(ks:List PT):PT:=.mk k [] 0 o ks
abbrev Ts:=List Tk
structure Cx where
 fn:Bool
 lp:Bool
 gn:Bool
 as_:Bool
def kd(l:Ts)(n:Nat):Int:=match l[n]? with
 |some t=>t.k
 |none=>0
def tx(l:Ts)(n:Nat):Bs:=match l[n]? with
 |some t=>t.t
 |none=>[]
def aL(l:Ts)(n:Nat)(s:Bs):Bool:=decide (tx l n=s)&&(decide (kd l n=2)||decide (kd l n=5))
def bi:Bs:=[108,101,116]
def qC:Bs:=[99,111,110,115,116]
def vA:Bs:=[102,117,110,99,116,105,111,110]
def iW:Bs:=[97,115,121,110,99]
def ol:Bs:=[105,102]
def LC:Bs:=[101,108,115,101]
def ru:Bs:=[119,104,105,108,101]
def sy:Bs:=[102,111,114]
def vj:Bs:=[111,102]
def s8:Bs:=[114,101,116,117,114,110]
def nu:Bs:=[98,114,101,97,107]
def kr:Bs:=[99,111,110,116,105,110,117,101]
def rq:Bs:=[116,104,114,111,119]
def t7:Bs:=[116,114,121]
def Mf:Bs:=[99,97,116,99,104]
def Np:Bs:=[102,105,110,97,108,108,121]
def Cd:Bs:=[121,105,101,108,100]
def LF:Bs:=[97,119,97,105,116]
def YT:Bs:=[110,101,119]
def XF:Bs:=[117,110,100,101,102,105,110,101,100]
def WA:Bs:=[110,117,108,108]
def WC:Bs:=[116,114,117,101]
def XE:Bs:=[102,97,108,115,101]
def WB:Bs:=[116,104,105,115]
def jD:Bs:=[40]
def eG:Bs:=[41]
def uD:Bs:=[91]
def xB:Bs:=[93]
def nS:Bs:=[123]
def uC:Bs:=[125]
def mH:Bs:=[59]
def rY:Bs:=[44]
def CT:Bs:=[46]
def Ew:Bs:=[61]
def qX:Bs:=[61,62]
def o7:Bs:=[42]
def Cc:Bs:=[63]
def yq:Bs:=[58]
def zQ:List Bs:=[[],[45],[33],[43],[116,121,112,101,111,102],[100,101,108,101,116,101],[43],[45],[42],[47],[37],[61,61],[33,61],[61,61,61],[33,61,61],[60],[60,61],[62],[62,61],[105,110],[105,110,115,116,97,110,99,101,111,102],[38,38],[124,124],[63,63],[61],[43,61],[45,61],[42,61],[43,43],[45,45]]
def gN(s:Bs)(fr:Nat)(cnt:Nat):Int:=match(List.range cnt).find? (fun j=>decide (zQ[fr+j]?=some s))with
 |some j=>((fr+j:Nat):Int)
 |none=>0
abbrev Re(α:Type):=Option (Option (α×Ts))
def bnd{α β:Type}(x:Re α)(k:α->Ts->Re β):Re β:=match x with
 |none=>none
 |some none=>some none
 |some (some (a,l))=>k a l
def bR{α:Type}(a:α)(l:Ts):Re α:=some (some (a,l))
def qY{α:Type}:Re α:=some none
def eZ{β:Type}(s:Bs)(l:Ts)(k:Ts->Re β):Re β:=if aL l 0 s then k (l.drop 1)else qY
def pZ{β:Type}(l:Ts)(k:Bs->Ts->Re β):Re β:=if kd l 0=1 then k (tx l 0) (l.drop 1)else qY
inductive Rv where
 |nd (n:PT)
 |nb (n:PT) (b:Bool)
 |ls (l:List PT)
def ndR{β:Type}(x:Re Rv)(k:PT->Ts->Re β):Re β:=bnd x fun v l=>match v with
 | .nd n=>k n l
 |_=>none
def nbR{β:Type}(x:Re Rv)(k:PT->Bool->Ts->Re β):Re β:=bnd x fun v l=>match v with
 | .nb n b=>k n b l
 |_=>none
def lsR{β:Type}(x:Re Rv)(k:List PT->Ts->Re β):Re β:=bnd x fun v l=>match v with
 | .ls n=>k n l
 |_=>none
inductive Sy where
 |stmt (c:Cx) (l:Ts)
 |keyw (c:Cx) (l:Ts)
 |condn (c:Cx) (l:Ts)
 |inner (c:Cx) (l:Ts)
 |body (c:Cx) (l:Ts)
 |loops (c:Cx) (l:Ts)
 |tryS (c:Cx) (l:Ts)
 |decl (c:Cx) (l:Ts)
 |declL (k:Int) (acc:List PT) (c:Cx) (l:Ts)
 |block (c:Cx) (l:Ts)
 |blockL (acc:List PT) (c:Cx) (l:Ts)
 |func (d:Bool) (c:Cx) (l:Ts)
 |arrow (c:Cx) (l:Ts)
 |assign (c:Cx) (l:Ts)
 |cond (c:Cx) (l:Ts)
 |opnd (k:Nat) (c:Cx) (l:Ts)
 |opndL (k:Nat) (n:PT) (c:Cx) (l:Ts)
 |unary (c:Cx) (l:Ts)
 |postf (c:Cx) (l:Ts)
 |link (n:PT) (c:Cx) (l:Ts)
 |chain (c:Cx) (l:Ts)
 |chainN (n:PT) (c:Cx) (l:Ts)
 |chainL (n:PT) (c:Cx) (l:Ts)
 |list2 (e:Bs) (c:Cx) (l:Ts)
 |list2L (e:Bs) (acc:List PT) (c:Cx) (l:Ts)
 |prim (c:Cx) (l:Ts)
 |fields (c:Cx) (l:Ts)
 |fieldsL (acc:List PT) (c:Cx) (l:Ts)
 |field (c:Cx) (l:Ts)
def tJ(l:Ts):Bool:=aL l 0 bi||(aL l 0 qC||(aL l 0 vA||(aL l 0 iW&&aL l 1 vA)))
def rX(l:List PT):List Bs:=l.map fun|.mk _ nm _ _ _=>nm
def qP:List Bs->Bool
 |[]=>true
 |x::l=>!l.contains x&&qP l
def namesL:Nat->List PT->Ts->Re (List PT)
 |0,_,_=>none
 |n+1,acc,l=>pZ l fun s l1=>if aL l1 0 eG then(if qP (rX (acc++[dV 7 s []]))then bR (acc++[dV 7 s []]) (l1.drop 1)else qY)else eZ rY l1 fun l2=>namesL n (acc++[dV 7 s []]) l2
def uQ(l:Ts):Re (List PT):=eZ jD l fun l1=>if aL l1 0 eG then bR [] (l1.drop 1)else namesL (l1.length+1) [] l1
def ve(l:Ts):Nat->Nat->Option Nat
 |0,_=>none
 |m+1,n=>if kd l n=1 then(if aL l (n+1) rY then(if kd l (n+2)=1 then ve l m (n+2)else none)else some (n+1))else some n
def oa(l:Ts):Nat:=
 if kd l (if aL l 0 iW then 1 else 0)=1 then(if aL l ((if aL l 0 iW then 1 else 0)+1) qX then(if aL l 0 iW then 1 else 0)+1 else 0)
 else if aL l (if aL l 0 iW then 1 else 0) jD then(match ve l (l.length+1) ((if aL l 0 iW then 1 else 0)+1)with
  |some n=>if aL l n eG&&aL l (n+1) qX then n+1 else 0
  |none=>0)
 else 0
def nV(o:Int):Cx:=⟨true,false,decide (o=3),decide (o=4)||decide (o=5)⟩
def mb(n:PT):Bool:=decide (n.kind=7)||(decide (n.kind=18)||decide (n.kind=19))
def CU(k:Nat):Nat×Nat:=match k with
 |0=>(22,2)
 |1=>(21,1)
 |2=>(11,4)
 |3=>(15,6)
 |4=>(6,2)
 |_=>(8,3)
section
variable(R:Sy->Re Rv)
def np(c:Cx)(l:Ts):Re Rv:=ndR (R (.assign c l)) fun n l1=>eZ mH l1 fun l2=>bR (.nd (nd 26 [n])) l2
def yp(c:Cx)(l:Ts):Re Rv:=
 if aL l 0 bi||aL l 0 qC then ndR (R (.decl c l)) fun n l1=>eZ mH l1 fun l2=>bR (.nd n) l2
 else if tJ l then R (.func true c l)
 else if aL l 0 nS then R (.block c l)
 else if aL l 0 mH then bR (.nd (nd 37 [])) (l.drop 1)
 else if kd l 0=2 then nbR (R (.keyw c l)) fun n b l1=>if b then bR (.nd n) l1 else np R c l1
 else np R c l
def xF(c:Cx)(l:Ts):Re Rv:=
 if aL l 0 ol then ndR (R (.condn c (l.drop 1))) fun e l1=>ndR (R (.inner c l1)) fun a l2=>if aL l2 0 LC then ndR (R (.inner c (l2.drop 1))) fun b l3=>bR (.nb (nd 28 [e,a,b]) true) l3 else bR (.nb (nd 28 [e,a]) true) l2
 else if aL l 0 ru then ndR (R (.condn c (l.drop 1))) fun e l1=>ndR (R (.body c l1)) fun a l2=>bR (.nb (nd 29 [e,a]) true) l2
 else if aL l 0 sy then ndR (R (.loops c (l.drop 1))) fun n l1=>bR (.nb n true) l1
 else if aL l 0 s8 then(if c.fn then(if aL l 1 mH then bR (.nb (nd 32 []) true) (l.drop 2)else ndR (R (.assign c (l.drop 1))) fun n l1=>eZ mH l1 fun l2=>bR (.nb (nd 32 [n]) true) l2)else qY)
 else if aL l 0 nu||aL l 0 kr then(if c.lp then eZ mH (l.drop 1) fun l1=>bR (.nb (nd (if aL l 0 kr then 34 else 33) []) true) l1 else qY)
 else if aL l 0 rq then ndR (R (.assign c (l.drop 1))) fun n l1=>eZ mH l1 fun l2=>bR (.nb (nd 35 [n]) true) l2
 else if aL l 0 t7 then ndR (R (.tryS c (l.drop 1))) fun n l1=>bR (.nb n true) l1
 else bR (.nb (nd 0 []) false) l
def nv(c:Cx)(l:Ts):Re Rv:=eZ jD l fun l1=>ndR (R (.assign c l1)) fun n l2=>eZ eG l2 fun l3=>bR (.nd n) l3
def yv(c:Cx)(l:Ts):Re Rv:=if tJ l then qY else R (.stmt c l)
def BH(c:Cx)(l:Ts):Re Rv:=R (.inner { c with lp:=true } l)
def mg(c:Cx)(a:PT)(l:Ts):Re Rv:=
 eZ mH l fun l1=>
  let third:=fun(b:PT)(l2:Ts)=>eZ mH l2 fun l3=>
   if aL l3 0 eG then ndR (R (.body c (l3.drop 1))) fun s l5=>bR (.nd (nd 30 [a,b,nd 37 [],s])) l5
   else ndR (R (.assign c l3)) fun d l4=>eZ eG l4 fun l5=>ndR (R (.body c l5)) fun s l6=>bR (.nd (nd 30 [a,b,d,s])) l6
  if aL l1 0 mH then third (nd 37 []) l1 else ndR (R (.assign c l1)) fun b l2=>third b l2
def sl(c:Cx)(l:Ts):Re Rv:=eZ jD l fun l0=>
 if(aL l0 0 bi||aL l0 0 qC)&&(decide (kd l0 1=1)&&aL l0 2 vj)then
  ndR (R (.assign c (l0.drop 3))) fun e l1=>eZ eG l1 fun l2=>ndR (R (.body c l2)) fun s l3=>bR (.nd (.mk 31 (tx l0 1) 0 (if aL l0 0 qC then 2 else 1) [e,s])) l3
 else if aL l0 0 bi||aL l0 0 qC then ndR (R (.decl c l0)) fun n l1=>mg R c n l1
 else if aL l0 0 mH then mg R c (nd 37 []) l0
 else ndR (R (.assign c l0)) fun n l1=>mg R c (nd 26 [n]) l1
def s7(c:Cx)(ks:List PT)(l:Ts):Re Rv:=
 if aL l 0 Np then ndR (R (.block c (l.drop 1))) fun f l1=>bR (.nd (nd 36 (ks++[f]))) l1
 else if ks.length=1 then qY else bR (.nd (nd 36 ks)) l
def nj(c:Cx)(l:Ts):Re Rv:=ndR (R (.block c l)) fun a l1=>
 if aL l1 0 Mf then
  (if aL l1 1 jD then pZ (l1.drop 2) fun s l2=>eZ eG l2 fun l3=>ndR (R (.block c l3)) fun b l4=>s7 R c [a,dV 41 s [b]] l4
  else ndR (R (.block c (l1.drop 1))) fun b l2=>s7 R c [a,nd 41 [b]] l2)
 else s7 R c [a] l1
def BM(c:Cx)(l:Ts):Re Rv:=R (.declL (if aL l 0 qC then 25 else 24) [] c (l.drop 1))
def rv(k:Int)(acc:List PT)(c:Cx)(l:Ts):Re Rv:=pZ l fun s l1=>
 let next:=fun(d:PT)(l2:Ts)=>if aL l2 0 rY then R (.declL k (acc++[d]) c (l2.drop 1))else bR (.nd (nd k (acc++[d]))) l2
 if aL l1 0 Ew then ndR (R (.assign c (l1.drop 1))) fun e l2=>next (dV 40 s [e]) l2
 else if k=25 then qY else next (dV 40 s []) l1
def ry(c:Cx)(l:Ts):Re Rv:=eZ nS l fun l1=>R (.blockL [] c l1)
def sp(acc:List PT)(c:Cx)(l:Ts):Re Rv:=if aL l 0 uC then bR (.nd (nd 27 acc)) (l.drop 1)else if l=[]then qY else ndR (R (.stmt c l)) fun n l1=>R (.blockL (acc++[n]) c l1)
def yA(d:Bool)(c:Cx)(l:Ts):Re Rv:=
 let o0:Int:=if aL l 0 iW then 4 else 1
 let l0:=if aL l 0 iW then l.drop 1 else l
 eZ vA l0 fun l1=>
  let o:Int:=if decide (o0=1)&&aL l1 0 o7 then 3 else o0
  let l2:=if decide (o0=1)&&aL l1 0 o7 then l1.drop 1 else l1
  let rest:=fun(nm:Bs)(l3:Ts)=>bnd (uQ l3) fun ps l4=>ndR (R (.block (nV o) l4)) fun b l5=>bR (.nd (.mk 11 nm 0 o (ps++[b]))) l5
  if d||decide (kd l2 0=1)then pZ l2 rest else rest [] l2
def bp(c:Cx)(l:Ts):Re Rv:=
 let o:Int:=if aL l 0 iW then 5 else 2
 let l0:=if aL l 0 iW then l.drop 1 else l
 let rest:=fun(ps:List PT)(l1:Ts)=>eZ qX l1 fun l2=>
  if aL l2 0 nS then ndR (R (.block (nV o) l2)) fun b l3=>bR (.nd (fR 11 o (ps++[b]))) l3
  else ndR (R (.assign (nV o) l2)) fun n l3=>bR (.nd (fR 11 o (ps++[nd 27 [nd 32 [n]]]))) l3
 if aL l0 0 jD then bnd (uQ l0) rest else pZ l0 fun s l1=>rest [dV 7 s []] l1
def zd(c:Cx)(l:Ts):Re Rv:=
 if 0<oa l then R (.arrow c l)
 else if aL l 0 Cd then(if c.gn then ndR (R (.assign c (l.drop 1))) fun n l1=>bR (.nd (nd 22 [n])) l1 else qY)
 else ndR (R (.cond c l)) fun n l1=>
  if kd l1 0=5 then(if gN (tx l1 0) 24 4=0 then bR (.nd n) l1 else if mb n then ndR (R (.assign c (l1.drop 1))) fun m l2=>bR (.nd (fR 16 (gN (tx l1 0) 24 4) [n,m])) l2 else qY)
  else bR (.nd n) l1
def ym(c:Cx)(l:Ts):Re Rv:=ndR (R (.opnd 0 c l)) fun n l1=>
 if aL l1 0 Cc then ndR (R (.assign c (l1.drop 1))) fun a l2=>eZ yq l2 fun l3=>ndR (R (.assign c l3)) fun b l4=>bR (.nd (nd 15 [n,a,b])) l4
 else bR (.nd n) l1
def yo(k:Nat)(c:Cx)(l:Ts):Re Rv:=if 6<=k then R (.unary c l)else ndR (R (.opnd (k+1) c l)) fun n l1=>R (.opndL k n c l1)
def s5(k:Nat)(n:PT)(c:Cx)(l:Ts):Re Rv:=
 if decide (kd l 0=5)||decide (kd l 0=2)then
  (if gN (tx l 0) (CU k).1 (CU k).2=0 then bR (.nd n) l else ndR (R (.opnd (k+1) c (l.drop 1))) fun m l1=>R (.opndL k (fR (if k<2 then 14 else 13) (gN (tx l 0) (CU k).1 (CU k).2) [n,m]) c l1))
 else bR (.nd n) l
def ny(c:Cx)(l:Ts):Re Rv:=
 if decide (kd l 0=5)||decide (kd l 0=2)then
  (if tx l 0=LF then(if c.as_ then ndR (R (.unary c (l.drop 1))) fun n l1=>bR (.nd (nd 23 [n])) l1 else qY)
  else if gN (tx l 0) 28 2≠0 then ndR (R (.unary c (l.drop 1))) fun n l1=>if mb n then bR (.nd (fR 17 (gN (tx l 0) 28 2) [n])) l1 else qY
  else if gN (tx l 0) 1 5=0 then R (.postf c l)
  else ndR (R (.unary c (l.drop 1))) fun n l1=>if gN (tx l 0) 1 5=5/\n.kind≠18/\n.kind≠19 then qY else bR (.nd (fR 12 (gN (tx l 0) 1 5) [n])) l1)
 else R (.postf c l)
def v8(c:Cx)(l:Ts):Re Rv:=ndR (R (.chain c l)) fun n l1=>
 if kd l1 0=5 then(if gN (tx l1 0) 28 2=0 then bR (.nd n) l1 else if mb n then bR (.nd (fR 17 (gN (tx l1 0) 28 2+100) [n])) (l1.drop 1)else qY)
 else bR (.nd n) l1
def uq(n:PT)(c:Cx)(l:Ts):Re Rv:=
 if aL l 0 CT then(if decide (kd l 1=1)||decide (kd l 1=2)then bR (.nb (dV 18 (tx l 1) [n]) true) (l.drop 2)else qY)
 else if aL l 0 uD then ndR (R (.assign c (l.drop 1))) fun i l1=>eZ xB l1 fun l2=>bR (.nb (nd 19 [n,i]) true) l2
 else bR (.nb n false) l
def yx(c:Cx)(l:Ts):Re Rv:=
 if aL l 0 YT then ndR (R (.prim c (l.drop 1))) fun n l1=>R (.chainN n c l1)
 else ndR (R (.prim c l)) fun n l1=>R (.chainL n c l1)
def yu(n:PT)(c:Cx)(l:Ts):Re Rv:=nbR (R (.link n c l)) fun m b l1=>if b then R (.chainN m c l1)else eZ jD l1 fun l2=>lsR (R (.list2 eG c l2)) fun as l3=>R (.chainL (nd 21 (m::as)) c l3)
def yz(n:PT)(c:Cx)(l:Ts):Re Rv:=nbR (R (.link n c l)) fun m b l1=>if b then R (.chainL m c l1)else if aL l1 0 jD then lsR (R (.list2 eG c (l1.drop 1))) fun as l3=>R (.chainL (nd 20 (n::as)) c l3)else bR (.nd n) l1
def s9(e:Bs)(c:Cx)(l:Ts):Re Rv:=if aL l 0 e then bR (.ls []) (l.drop 1)else R (.list2L e [] c l)
def sj(e:Bs)(acc:List PT)(c:Cx)(l:Ts):Re Rv:=ndR (R (.assign c l)) fun n l1=>if aL l1 0 e then bR (.ls (acc++[n])) (l1.drop 1)else eZ rY l1 fun l2=>R (.list2L e (acc++[n]) c l2)
def va(c:Cx)(l:Ts):Re Rv:=
 if kd l 0=1 then bR (.nd (dV 7 (tx l 0) [])) (l.drop 1)
 else if kd l 0=4 then bR (.nd (dV 6 (tx l 0) [])) (l.drop 1)
 else if kd l 0=3 then bR (.nd (.mk 5 [] (lC (tx l 0):Nat) 0 [])) (l.drop 1)
 else if aL l 0 XF then bR (.nd (nd 1 [])) (l.drop 1)
 else if aL l 0 WA then bR (.nd (nd 2 [])) (l.drop 1)
 else if aL l 0 WC then bR (.nd (nd 3 [])) (l.drop 1)
 else if aL l 0 XE then bR (.nd (nd 4 [])) (l.drop 1)
 else if aL l 0 WB then bR (.nd (nd 8 [])) (l.drop 1)
 else if aL l 0 jD then ndR (R (.assign c (l.drop 1))) fun n l1=>eZ eG l1 fun l2=>bR (.nd n) l2
 else if aL l 0 uD then lsR (R (.list2 xB c (l.drop 1))) fun ks l1=>bR (.nd (nd 9 ks)) l1
 else if aL l 0 nS then lsR (R (.fields c (l.drop 1))) fun ks l1=>bR (.nd (nd 10 ks)) l1
 else if aL l 0 vA||aL l 0 iW then R (.func false c l)
 else qY
def yy(c:Cx)(l:Ts):Re Rv:=if aL l 0 uC then bR (.ls []) (l.drop 1)else R (.fieldsL [] c l)
def ze(acc:List PT)(c:Cx)(l:Ts):Re Rv:=ndR (R (.field c l)) fun n l1=>if aL l1 0 uC then bR (.ls (acc++[n])) (l1.drop 1)else eZ rY l1 fun l2=>R (.fieldsL (acc++[n]) c l2)
def uz(c:Cx)(l:Ts):Re Rv:=
 if aL l 0 uD then ndR (R (.assign c (l.drop 1))) fun k l1=>eZ xB l1 fun l2=>eZ yq l2 fun l3=>ndR (R (.assign c l3)) fun v l4=>bR (.nd (nd 39 [k,v])) l4
 else if kd l 0=0\/kd l 0=5 then qY
 else if aL l 1 yq then ndR (R (.assign c (l.drop 2))) fun v l1=>bR (.nd (dV 38 (tx l 0) [v])) l1
 else if kd l 0=1 then bR (.nd (dV 38 (tx l 0) [dV 7 (tx l 0) []])) (l.drop 1)
 else qY
def BR:Sy->Re Rv
 | .stmt c l=>yp R c l
 | .keyw c l=>xF R c l
 | .condn c l=>nv R c l
 | .inner c l=>yv R c l
 | .body c l=>BH R c l
 | .loops c l=>sl R c l
 | .tryS c l=>nj R c l
 | .decl c l=>BM R c l
 | .declL k acc c l=>rv R k acc c l
 | .block c l=>ry R c l
 | .blockL acc c l=>sp R acc c l
 | .func d c l=>yA R d c l
 | .arrow c l=>bp R c l
 | .assign c l=>zd R c l
 | .cond c l=>ym R c l
 | .opnd k c l=>yo R k c l
 | .opndL k n c l=>s5 R k n c l
 | .unary c l=>ny R c l
 | .postf c l=>v8 R c l
 | .link n c l=>uq R n c l
 | .chain c l=>yx R c l
 | .chainN n c l=>yu R n c l
 | .chainL n c l=>yz R n c l
 | .list2 e c l=>s9 R e c l
 | .list2L e acc c l=>sj R e acc c l
 | .prim c l=>va R c l
 | .fields c l=>yy R c l
 | .fieldsL acc c l=>ze R acc c l
 | .field c l=>uz R c l
end
def nh:Nat->Sy->Re Rv
 |0,_=>none
 |n+1,s=>BR (nh n) s
def eV{α:Type}(P:α->Ts->Prop)(x:Re α):Prop:=∃o,x=some o/\∀a l,o=some (a,l)->P a l
theorem eV.fail{α:Type}{P:α->Ts->Prop}:eV P qY:=⟨none,rfl,fun _ _ h=>by cases h⟩
theorem eV.ok{α:Type}{P:α->Ts->Prop}{a:α}{l:Ts}(h:P a l):eV P (bR a l):=⟨_,rfl,fun _ _ e=>by cases e;exact h⟩
theorem eV.bnd{α β:Type}{P:α->Ts->Prop}{Q:β->Ts->Prop}{x:Re α}{k:α->Ts->Re β}(h:eV P x)(hk:∀a l,P a l->eV Q (k a l)):eV Q (bnd x k):=by
 obtain⟨o,rfl,ho⟩:=h
 cases o with
 |none=>exact .fail
 |some p=>exact hk p.1 p.2 (ho _ _ rfl)
theorem eV.mono{α:Type}{P Q:α->Ts->Prop}{x:Re α}(h:eV P x)(hk:∀a l,P a l->Q a l):eV Q x:=by
 obtain⟨o,e,ho⟩:=h;exact⟨o,e,fun a l h=>hk a l (ho a l h)⟩
theorem nH{l:Ts}{n:Nat}{s:Bs}(h:aL l n s=true):n<l.length:=by
 unfold aL kd at h
 grind
theorem kJ{l:Ts}{n:Nat}{k:Int}(h:kd l n=k)(hk:k≠0):n<l.length:=by
 unfold kd at h
 grind
def iY(l l':Ts):Prop:=l' <:+ l/\l'.length<l.length
def fY(l l':Ts):Prop:=l' <:+ l
theorem iY.leq{l l':Ts}(h:iY l l'):fY l l':=h.1
theorem fY.rfl{l:Ts}:fY l l:=na l
theorem fY.len{l l':Ts}(h:fY l l'):l'.length<=l.length:=lN h
theorem fY.trans{a b c:Ts}(h:fY a b)(h':fY b c):fY a c:=List.IsSuffix.trans h' h
theorem iY.trans{a b c:Ts}(h:iY a b)(h':fY b c):iY a c:=⟨h.leq.trans h',by have:=h'.len;have:=h.2;omega⟩
theorem fY.trans'{a b c:Ts}(h:fY a b)(h':iY b c):iY a c:=⟨h.trans h'.leq,by have:=h.len;have:=h'.2;omega⟩
theorem yQ{l:Ts}{n:Nat}(h:n<l.length)(k:Nat)(hk:1<=k)(Au:k<=n+1):iY l (l.drop k):=⟨cW _ _,by grind⟩
theorem eV.need{β:Type}{Q:β->Ts->Prop}{s:Bs}{l:Ts}{k:Ts->Re β}(hk:aL l 0 s=true->iY l (l.drop 1)->eV Q (k (l.drop 1))):eV Q (eZ s l k):=by
 unfold eZ
 split
 ·rename_i h;exact hk h (yQ (nH h) 1 (nR 1) (nR 1))
 ·exact .fail
theorem eV.name{β:Type}{Q:β->Ts->Prop}{l:Ts}{k:Bs->Ts->Re β}(hk:kd l 0=1->iY l (l.drop 1)->eV Q (k (tx l 0) (l.drop 1))):eV Q (pZ l k):=by
 unfold pZ
 split
 ·rename_i h;exact hk h (yQ (kJ h aT) 1 (nR 1) (nR 1))
 ·exact .fail
inductive Sh where
 |nd|nb|ls
def Rv.sh:Rv->Sh
 | .nd _=>.nd
 | .nb _ _=>.nb
 | .ls _=>.ls
theorem eV.ndR{β:Type}{Q:β->Ts->Prop}{P:Ts->Prop}{x:Re Rv}{k:PT->Ts->Re β}(h:eV (fun v l=>v.sh=.nd/\P l) x)(hk:∀n l,P l->eV Q (k n l)):eV Q (ndR x k):=
 h.bnd fun v l ⟨h1,h2⟩=>by
  cases v with
  |nd n=>exact hk n l h2
  |nb n b=>cases h1
  |ls n=>cases h1
theorem eV.lsR{β:Type}{Q:β->Ts->Prop}{P:Ts->Prop}{x:Re Rv}{k:List PT->Ts->Re β}(h:eV (fun v l=>v.sh=.ls/\P l) x)(hk:∀n l,P l->eV Q (k n l)):eV Q (lsR x k):=
 h.bnd fun v l ⟨h1,h2⟩=>by
  cases v with
  |nd n=>cases h1
  |nb n b=>cases h1
  |ls n=>exact hk n l h2
def Rv.ok:Rv->Bool
 | .nb _ b=>b
 |_=>true
theorem eV.nbR{β:Type}{Q:β->Ts->Prop}{P:Bool->Ts->Prop}{x:Re Rv}{k:PT->Bool->Ts->Re β}(h:eV (fun v l=>v.sh=.nb/\P v.ok l) x)(hk:∀n b l,P b l->eV Q (k n b l)):eV Q (nbR x k):=
 h.bnd fun v l ⟨h1,h2⟩=>by
  cases v with
  |nd n=>cases h1
  |nb n b=>exact hk n b l h2
  |ls n=>cases h1
theorem eV.ite{α:Type}{P:α->Ts->Prop}{c:Prop} [Decidable c] {x y:Re α} (h1:c->eV P x) (h2:¬c->eV P y):eV P (if c then x else y):=by
 grind
theorem Mk:∀(n:Nat)(acc:List PT)(l:Ts),l.length<n->eV (fun _ l'=>iY l l') (namesL n acc l)
 |0,_,_,h=>by omega
 |n+1,acc,l,h=>by
  refine .name fun _ h1=>.ite (fun h2=>.ite (fun _=>.ok ?_) fun _=>.fail) fun _=>.need fun _ h3=>?_
  ·exact h1.trans (yQ (nH h2) 1 (nR 1) (nR 1)).leq
  ·have h4:=h1.2;have h5:=h3.2;exact(Mk n _ _ oM).mono fun _ l' h6=>h1.trans (h3.leq.trans h6.leq)
theorem MO(l:Ts):eV (fun _ l'=>iY l l') (uQ l):=by
 refine .need fun _ h1=>.ite (fun h2=>.ok ?_) fun _=>?_
 ·exact h1.trans (yQ (nH h2) 1 (nR 1) (nR 1)).leq
 ·exact(Mk _ _ _ (oy _)).mono fun _ l' h6=>h1.trans h6.leq
def Sy.l:Sy->Ts
 | .stmt _ l|.keyw _ l|.condn _ l|.inner _ l|.body _ l|.loops _ l|.tryS _ l|.decl _ l|.declL _ _ _ l|.block _ l|.blockL _ _ l|.func _ _ l|.arrow _ l|.assign _ l|.cond _ l|.opnd _ _ l|.opndL _ _ _ l|.unary _ l|.postf _ l|.link _ _ l|.chain _ l|.chainN _ _ l|.chainL _ _ l|.list2 _ _ l|.list2L _ _ _ l|.prim _ l|.fields _ l|.fieldsL _ _ l|.field _ l=>l
def Sy.rank:Sy->Nat
 | .stmt _ _=>40
 | .keyw _ _=>38
 | .condn _ _=>1
 | .inner _ _=>42
 | .body _ _=>43
 | .loops _ _=>1
 | .tryS _ _=>4
 | .decl _ _=>2
 | .declL _ _ _ _=>1
 | .block _ _=>3
 | .blockL _ _ _=>44
 | .func _ _ _=>2
 | .arrow _ _=>2
 | .assign _ _=>30
 | .cond _ _=>28
 | .opnd k _ _=>if k<=6 then 26-2*k else 14
 | .opndL _ _ _ _=>1
 | .unary _ _=>12
 | .postf _ _=>10
 | .link _ _ _=>1
 | .chain _ _=>8
 | .chainN _ _ _=>3
 | .chainL _ _ _=>3
 | .list2 _ _ _=>33
 | .list2L _ _ _ _=>32
 | .prim _ _=>6
 | .fields _ _=>9
 | .fieldsL _ _ _=>8
 | .field _ _=>5
def Sy.meas(s:Sy):Nat:=64*s.l.length+s.rank
def Sy.shape:Sy->Sh
 | .keyw _ _|.link _ _ _=>.nb
 | .list2 _ _ _|.list2L _ _ _ _|.fields _ _|.fieldsL _ _ _=>.ls
 |_=>.nd
def Sy.lax:Sy->Bool
 | .opndL _ _ _ _|.chainL _ _ _=>true
 |_=>false
def Sy.post(s:Sy)(v:Rv)(l:Ts):Prop:=v.sh=s.shape/\fY s.l l/\(s.lax=false->v.ok=true->iY s.l l)
abbrev PB(l:Ts)(b:Bool)(l1:Ts):Prop:=fY l l1/\(b=true->iY l l1)
section
variable{R:Sy->Re Rv}{m:Nat}(hR:∀s:Sy,s.meas<m->eV s.post (R s))
include hR
theorem Pv(s:Sy)(h:s.meas<m)(h1:s.shape=.nd)(h2:s.lax=false):eV (fun v l=>v.sh=.nd/\iY s.l l) (R s):=
 (hR s h).mono fun v l ⟨a,b,c⟩=>⟨by rw[a,h1],c h2 (by
  rw[h1]at a
  cases v with
  |nd n=>rfl
  |nb n b=>cases a
  |ls n=>cases a)⟩
theorem QM(s:Sy)(h:s.meas<m)(h1:s.shape=.nd):eV (fun v l=>v.sh=.nd/\fY s.l l) (R s):=(hR s h).mono fun v l ⟨a,b,c⟩=>⟨by rw[a,h1],b⟩
theorem Pu(s:Sy)(h:s.meas<m)(h1:s.shape=.ls)(h2:s.lax=false):eV (fun v l=>v.sh=.ls/\iY s.l l) (R s):=
 (hR s h).mono fun v l ⟨a,b,c⟩=>⟨by rw[a,h1],c h2 (by
  rw[h1]at a
  cases v with
  |ls n=>rfl
  |nb n b=>cases a
  |nd n=>cases a)⟩
theorem QN(s:Sy)(h:s.meas<m)(h1:s.shape=.nb)(h2:s.lax=false):eV (fun v l=>v.sh=.nb/\PB s.l v.ok l) (R s):=(hR s h).mono fun v l ⟨a,b,c⟩=>⟨by rw[a,h1],b,c h2⟩
end
theorem d1{l:Ts}{s:Bs}(h:aL l 0 s=true):iY l (l.drop 1):=yQ (nH h) 1 (nR 1) (nR 1)
theorem xf5{l:Ts}{a b:Bs}(h:(aL l 0 a||aL l 0 b)=true):0<l.length:=by
 rcases Bool.or_eq_true_iff.1 h with h|h
 ·exact nH h
 ·exact nH h
theorem sC{s s':Sy}{m:Nat}(hs:s.meas<=m)(h:iY s.l s'.l)(h1:s'.rank<64):s'.meas<m:=by
 unfold Sy.meas at *
 have:=h.2
 omega
theorem yD{s s':Sy}{m:Nat}(hs:s.meas<=m)(h:fY s.l s'.l)(h1:s'.rank<s.rank):s'.meas<m:=by
 unfold Sy.meas at *
 have:=h.len
 omega
theorem sB:∀s:Sy,s.rank<64:=fun s=>by
 cases s
 all_goals first|exact oT rfl|(show(if _<=6 then 26-2*_ else 14)<64;split<;>omega)
section
variable{R:Sy->Re Rv}{m:Nat}(hR:∀s:Sy,s.meas<m->eV s.post (R s))
include hR
theorem cN{s:Sy}(hs:s.meas<=m)(s':Sy)(h:iY s.l s'.l)(h1:s'.shape=.nd:=by rfl)(h2:s'.lax=false:=by rfl):eV (fun v l=>v.sh=.nd/\iY s.l l) (R s'):=(Pv hR s' (sC hs h (sB _)) h1 h2).mono fun v l ⟨a,b⟩=>⟨a,h.trans b.leq⟩
theorem cX{s:Sy}(hs:s.meas<=m)(s':Sy)(h:iY s.l s'.l)(h1:s'.shape=.nd:=by rfl):eV (fun v l=>v.sh=.nd/\iY s.l l) (R s'):=(QM hR s' (sC hs h (sB _)) h1).mono fun v l ⟨a,b⟩=>⟨a,h.trans b⟩
theorem cL{s:Sy}(hs:s.meas<=m)(s':Sy)(h:iY s.l s'.l)(h1:s'.shape=.ls:=by rfl)(h2:s'.lax=false:=by rfl):eV (fun v l=>v.sh=.ls/\iY s.l l) (R s'):=(Pu hR s' (sC hs h (sB _)) h1 h2).mono fun v l ⟨a,b⟩=>⟨a,h.trans b.leq⟩
theorem eN{s:Sy}(hs:s.meas<=m)(s':Sy)(h:fY s.l s'.l)(hr:s'.rank<s.rank)(h1:s'.shape=.nd:=by rfl)(h2:s'.lax=false:=by rfl):eV (fun v l=>v.sh=.nd/\iY s.l l) (R s'):=(Pv hR s' (yD hs h hr) h1 h2).mono fun v l ⟨a,b⟩=>⟨a,h.trans' b⟩
theorem eL{s:Sy}(hs:s.meas<=m)(s':Sy)(h:fY s.l s'.l)(hr:s'.rank<s.rank)(h1:s'.shape=.ls:=by rfl)(h2:s'.lax=false:=by rfl):eV (fun v l=>v.sh=.ls/\iY s.l l) (R s'):=(Pu hR s' (yD hs h hr) h1 h2).mono fun v l ⟨a,b⟩=>⟨a,h.trans' b⟩
theorem eB{s:Sy}(hs:s.meas<=m)(s':Sy)(h:fY s.l s'.l)(hr:s'.rank<s.rank)(h1:s'.shape=.nb:=by rfl)(h2:s'.lax=false:=by rfl):eV (fun v l=>v.sh=.nb/\PB s.l v.ok l) (R s'):=(QN hR s' (yD hs h hr) h1 h2).mono fun v l ⟨a,b,c⟩=>⟨a,h.trans b,fun e=>h.trans' (c e)⟩
end
theorem pN{s:Sy}{n:PT}{l:Ts}(h1:s.shape=.nd)(h:iY s.l l):s.post (.nd n) l:=⟨h1.symm,h.leq,fun _ _=>h⟩
theorem pX{s:Sy}{n:PT}{l:Ts}(h1:s.shape=.nd)(h2:s.lax=true)(h:fY s.l l):s.post (.nd n) l:=⟨h1.symm,h,fun e=>by rw[h2]at e;cases e⟩
theorem pL{s:Sy}{n:List PT}{l:Ts}(h1:s.shape=.ls)(h:iY s.l l):s.post (.ls n) l:=⟨h1.symm,h.leq,fun _ _=>h⟩
theorem tb{s:Sy}{n:PT}{l:Ts}(h1:s.shape=.nb)(h:iY s.l l):s.post (.nb n true) l:=⟨h1.symm,h.leq,fun _ _=>h⟩
theorem Qq{s:Sy}{n:PT}{l:Ts}(h1:s.shape=.nb)(h:fY s.l l):s.post (.nb n false) l:=⟨h1.symm,h,fun _ e=>by cases e⟩
theorem xG{s:Sy}{x:Re Rv}(h1:s.shape=.nd)(h:eV (fun v l=>v.sh=.nd/\iY s.l l) x):eV s.post x:=h.mono fun v l ⟨a,b⟩=>⟨by rw[a,h1],b.leq,fun _ _=>b⟩
theorem VY{s:Sy}{x:Re Rv}(h1:s.shape=.ls)(h:eV (fun v l=>v.sh=.ls/\iY s.l l) x):eV s.post x:=h.mono fun v l ⟨a,b⟩=>⟨by rw[a,h1],b.leq,fun _ _=>b⟩
section
variable{R:Sy->Re Rv}{m:Nat}(hR:∀s:Sy,s.meas<m->eV s.post (R s))
include hR
theorem Ka{s:Sy}(h1:s.shape=.nd)(hr:30<s.rank)(hs:s.meas<=m)(c:Cx)(l:Ts)(hl:fY s.l l):eV s.post (np R c l):=by
 exact .ndR (eN hR hs (.assign c l) hl hr) fun n l1 h=>.need fun _ h2=>.ok (pN h1 (h.trans h2.leq))
theorem z5o(c:Cx)(l:Ts)(hs:(Sy.stmt c l).meas<=m):eV (Sy.stmt c l).post (yp R c l):=by
 refine .ite (fun _=>?_) fun _=>.ite (fun _=>?_) fun _=>.ite (fun _=>?_) fun _=>.ite (fun h=>?_) fun _=>.ite (fun _=>?_) fun _=>?_
 ·exact .ndR (eN hR hs (.decl c l) .rfl (oT rfl)) fun n l1 h=>.need fun _ h2=>.ok (pN rfl (h.trans h2.leq))
 ·exact xG rfl (eN hR hs (.func true c l) .rfl (oT rfl))
 ·exact xG rfl (eN hR hs (.block c l) .rfl (oT rfl))
 ·exact .ok (pN rfl (d1 h))
 ·exact .nbR (eB hR hs (.keyw c l) .rfl (oT rfl)) fun n b l1 h=>.ite (fun hb=>.ok (pN rfl (h.2 hb))) fun _=>Ka hR rfl (oT rfl) hs c l1 h.1
 ·exact Ka hR rfl (oT rfl) hs c l .rfl
theorem z7t(c:Cx)(l:Ts)(hs:(Sy.keyw c l).meas<=m):eV (Sy.keyw c l).post (xF R c l):=by
 refine .ite (fun h=>?_) fun _=>.ite (fun h=>?_) fun _=>.ite (fun h=>?_) fun _=>.ite (fun h=>?_) fun _=>.ite (fun h=>?_) fun _=>.ite (fun h=>?_) fun _=>.ite (fun h=>?_) fun _=>?_
 ·refine .ndR (cN hR hs (.condn c _) (d1 h)) fun e l1 h1=>.ndR (cN hR hs (.inner c l1) h1) fun a l2 h2=>.ite (fun h3=>?_) fun _=>.ok (tb rfl h2)
  exact .ndR (cN hR hs (.inner c _) (h2.trans (d1 h3).leq)) fun b l3 h4=>.ok (tb rfl h4)
 ·exact .ndR (cN hR hs (.condn c _) (d1 h)) fun e l1 h1=>.ndR (cN hR hs (.body c l1) h1) fun a l2 h2=>.ok (tb rfl h2)
 ·exact .ndR (cN hR hs (.loops c _) (d1 h)) fun e l1 h1=>.ok (tb rfl h1)
 ·refine .ite (fun _=>.ite (fun h1=>.ok (tb rfl (yQ (nH h1) 2 aT aT))) fun _=>?_) fun _=>.fail
  exact S6
 ·exact .ite (fun _=>.need fun _ h2=>.ok (tb rfl ((yQ (xf5 h) 1 aT aT).trans h2.leq))) fun _=>.fail
 ·exact S6
 ·exact .ndR (cN hR hs (.tryS c _) (d1 h)) fun e l1 h1=>.ok (tb rfl h1)
 ·exact .ok (Qq rfl .rfl)
theorem z4k(c:Cx)(l:Ts)(hs:(Sy.condn c l).meas<=m):eV (Sy.condn c l).post (nv R c l):=by
 exact .need fun _ h=>.ndR (cN hR hs (.assign c _) h) fun n l2 h1=>.need fun _ h2=>.ok (pN rfl (h1.trans h2.leq))
theorem z3t(c:Cx)(l:Ts)(hs:(Sy.inner c l).meas<=m):eV (Sy.inner c l).post (yv R c l):=by
 exact .ite (fun _=>.fail) fun _=>xG rfl (eN hR hs (.stmt c l) .rfl (oT rfl))
theorem z8q(c:Cx)(l:Ts)(hs:(Sy.body c l).meas<=m):eV (Sy.body c l).post (BH R c l):=xG rfl (eN hR hs (.inner _ l) .rfl (oT rfl))
theorem Cy{s:Sy}(h0:s.shape=.nd)(hs:s.meas<=m)(c:Cx)(a:PT)(l:Ts)(hl:iY s.l l):eV s.post (mg R c a l):=by
 refine .need fun _ h1=>?_
 have third:∀(b:PT)(l2:Ts),iY s.l l2->eV s.post (eZ mH l2 fun l3=>
   if aL l3 0 eG then ndR (R (.body c (l3.drop 1))) fun s l5=>bR (.nd (nd 30 [a,b,nd 37 [],s])) l5
   else ndR (R (.assign c l3)) fun d l4=>eZ eG l4 fun l5=>ndR (R (.body c l5)) fun s l6=>bR (.nd (nd 30 [a,b,d,s])) l6):=fun b l2 h=>by
  refine .need fun _ h2=>.ite (fun h3=>?_) fun _=>?_
  ·exact .ndR (cN hR hs (.body c _) (h.trans (h2.leq.trans (d1 h3).leq))) fun s l5 h4=>.ok (pN h0 h4)
  ·exact .ndR (cN hR hs (.assign c _) (h.trans h2.leq)) fun d l4 h4=>.need fun _ h5=>.ndR (cN hR hs (.body c _) (h4.trans h5.leq)) fun s l6 h6=>.ok (pN h0 h6)
 refine .ite (fun _=>third _ _ (hl.trans h1.leq)) fun _=>.ndR (cN hR hs (.assign c _) (hl.trans h1.leq)) fun b l2 h2=>third _ _ h2
theorem z2z(c:Cx)(l:Ts)(hs:(Sy.loops c l).meas<=m):eV (Sy.loops c l).post (sl R c l):=by
 refine .need fun _ h0=>.ite (fun h=>?_) fun _=>.ite (fun h=>?_) fun _=>.ite (fun h=>?_) fun _=>?_
 ·simp only[gH]at h;exact .ndR (cN hR hs (.assign c _) (h0.trans (yQ (nH h.2.2) 3 aT aT).leq)) fun e l1 h1=>.need fun _ h2=>.ndR (cN hR hs (.body c _) (h1.trans h2.leq)) fun s l3 h3=>.ok (pN rfl h3)
 ·exact .ndR (cN hR hs (.decl c _) h0) fun n l1 h1=>Cy hR rfl hs c n l1 h1
 ·exact Cy hR rfl hs c _ _ h0
 ·exact .ndR (cN hR hs (.assign c _) h0) fun n l1 h1=>Cy hR rfl hs c _ l1 h1
theorem D9{s:Sy}(h0:s.shape=.nd)(hs:s.meas<=m)(c:Cx)(ks:List PT)(l:Ts)(hl:iY s.l l):eV s.post (s7 R c ks l):=by
 refine .ite (fun h=>?_) fun _=>.ite (fun _=>.fail) fun _=>.ok (pN h0 hl)
 exact .ndR (cN hR hs (.block c _) (hl.trans (d1 h).leq)) fun f l1 h1=>.ok (pN h0 h1)
theorem xae(c:Cx)(l:Ts)(hs:(Sy.tryS c l).meas<=m):eV (Sy.tryS c l).post (nj R c l):=by
 refine .ndR (eN hR hs (.block c l) .rfl (oT rfl)) fun a l1 h1=>.ite (fun h=>?_) fun _=>D9 hR rfl hs c _ l1 h1
 refine .ite (fun h2=>?_) fun _=>?_
 ·refine .name fun _ h3=>.need fun _ h4=>.ndR (cN hR hs (.block c _) (h1.trans (fY.trans (cW _ _) (h3.leq.trans h4.leq)))) fun b l4 h5=>D9 hR rfl hs c _ l4 h5
 ·exact .ndR (cN hR hs (.block c _) (h1.trans (d1 h).leq)) fun b l2 h5=>D9 hR rfl hs c _ l2 h5
theorem z4f(k:Int)(acc:List PT)(c:Cx)(l:Ts)(hs:(Sy.declL k acc c l).meas<=m):eV (Sy.declL k acc c l).post (rv R k acc c l):=by
 refine .name fun _ h1=>?_
 have next:∀(d:PT)(l2:Ts),iY l l2->eV (Sy.declL k acc c l).post (if aL l2 0 rY then R (.declL k (acc++[d]) c (l2.drop 1))else bR (.nd (nd k (acc++[d]))) l2):=fun d l2 h=>.ite (fun h2=>xG rfl (cN hR hs (.declL _ _ c _) (h.trans (d1 h2).leq))) fun _=>.ok (pN rfl h)
 refine .ite (fun h2=>?_) fun _=>.ite (fun _=>.fail) fun _=>next _ _ h1
 exact .ndR (cN hR hs (.assign c _) (h1.trans (d1 h2).leq)) fun e l2 h3=>next _ _ h3
theorem z4o(c:Cx)(l:Ts)(hs:(Sy.block c l).meas<=m):eV (Sy.block c l).post (ry R c l):=by
 exact .need fun _ h=>xG rfl (cN hR hs (.blockL [] c _) h)
theorem Wl(acc:List PT)(c:Cx)(l:Ts)(hs:(Sy.blockL acc c l).meas<=m):eV (Sy.blockL acc c l).post (sp R acc c l):=by
 refine .ite (fun h=>.ok (pN rfl (d1 h))) fun _=>.ite (fun _=>.fail) fun _=>?_
 exact .ndR (eN hR hs (.stmt c l) .rfl (oT rfl)) fun n l1 h1=>xG rfl (cN hR hs (.blockL _ c l1) h1)
theorem z8d(d:Bool)(c:Cx)(l:Ts)(hs:(Sy.func d c l).meas<=m):eV (Sy.func d c l).post (yA R d c l):=by
 unfold yA;have h0:fY l (if aL l 0 iW then l.drop 1 else l):=by
  exact H6
 generalize (if aL l 0 iW=true then l.drop 1 else l)=l0 at h0 ⊢
 generalize (if aL l 0 iW=true then(4:Int)else 1)=o0
 refine .need fun _ h1=>?_
 have h2:fY (l0.drop 1) (if(decide (o0=1)&&aL (l0.drop 1) 0 o7)=true then(l0.drop 1).drop 1 else l0.drop 1):=by
  exact H6
 generalize (if(decide (o0=1)&&aL (l0.drop 1) 0 o7)=true then(l0.drop 1).drop 1 else l0.drop 1)=l2 at h2 ⊢
 generalize (if(decide (o0=1)&&aL (l0.drop 1) 0 o7)=true then(3:Int)else o0)=o
 have h3:iY l l2:=h0.trans' (h1.trans h2);have rest:∀(nm:Bs)(l3:Ts),iY l l3->eV (Sy.func d c l).post (bnd (uQ l3) fun ps l4=>ndR (R (.block (nV o) l4)) fun b l5=>bR (.nd (.mk 11 nm 0 o (ps++[b]))) l5):=fun nm l3 h=>
  .bnd (MO l3) fun ps l4 h4=>.ndR (cN hR hs (.block _ l4) (h.trans h4.leq)) fun b l5 h5=>.ok (pN rfl h5)
 exact .ite (fun _=>.name fun _ h4=>rest _ _ (h3.trans h4.leq)) fun _=>rest _ _ h3
theorem z4s(c:Cx)(l:Ts)(hs:(Sy.arrow c l).meas<=m):eV (Sy.arrow c l).post (bp R c l):=by
 unfold bp;have h0:fY l (if aL l 0 iW then l.drop 1 else l):=by
  exact H6
 generalize (if aL l 0 iW=true then l.drop 1 else l)=l0 at h0 ⊢
 generalize (if aL l 0 iW=true then(5:Int)else 2)=o
 have rest:∀(ps:List PT)(l1:Ts),iY l l1->eV (Sy.arrow c l).post (eZ qX l1 fun l2=>
   if aL l2 0 nS then ndR (R (.block (nV o) l2)) fun b l3=>bR (.nd (fR 11 o (ps++[b]))) l3
   else ndR (R (.assign (nV o) l2)) fun n l3=>bR (.nd (fR 11 o (ps++[nd 27 [nd 32 [n]]]))) l3):=fun ps l1 h=>by
  refine .need fun _ h2=>.ite (fun _=>?_) fun _=>?_
  ·exact .ndR (cN hR hs (.block _ _) (h.trans h2.leq)) fun b l3 h3=>.ok (pN rfl h3)
  ·exact .ndR (cN hR hs (.assign _ _) (h.trans h2.leq)) fun b l3 h3=>.ok (pN rfl h3)
 exact .ite (fun _=>.bnd (MO l0) fun ps l1 h1=>rest ps l1 (h0.trans' h1)) fun _=>.name fun _ h1=>rest _ _ (h0.trans' h1)
theorem Wf(c:Cx)(l:Ts)(hs:(Sy.assign c l).meas<=m):eV (Sy.assign c l).post (zd R c l):=by
 refine .ite (fun _=>xG rfl (eN hR hs (.arrow c l) .rfl (oT rfl))) fun _=>.ite (fun h=>.ite (fun _=>?_) fun _=>.fail) fun _=>?_
 ·exact .ndR (cN hR hs (.assign c _) (d1 h)) fun n l1 h1=>.ok (pN rfl h1)
 ·refine .ndR (eN hR hs (.cond c l) .rfl (oT rfl)) fun n l1 h1=>.ite (fun h2=>.ite (fun _=>.ok (pN rfl h1)) fun _=>.ite (fun _=>?_) fun _=>.fail) fun _=>.ok (pN rfl h1)
  exact .ndR (cN hR hs (.assign c _) (h1.trans (yQ (kJ h2 aT) 1 aT aT).leq)) fun k l2 h3=>.ok (pN rfl h3)
theorem z8o(c:Cx)(l:Ts)(hs:(Sy.cond c l).meas<=m):eV (Sy.cond c l).post (ym R c l):=by
 refine .ndR (eN hR hs (.opnd 0 c l) .rfl (oT rfl)) fun n l1 h1=>.ite (fun h=>?_) fun _=>.ok (pN rfl h1)
 exact .ndR (cN hR hs (.assign c _) (h1.trans (d1 h).leq)) fun a l2 h2=>.need fun _ h3=>.ndR (cN hR hs (.assign c _) (h2.trans h3.leq)) fun b l4 h4=>.ok (pN rfl h4)
theorem z6x(k:Nat)(c:Cx)(l:Ts)(hs:(Sy.opnd k c l).meas<=m):eV (Sy.opnd k c l).post (yo R k c l):=by
 refine .ite (fun h=>?_) fun h=>?_
 ·exact xG rfl (eN hR hs (.unary c l) .rfl (by show 12<(if k<=6 then 26-2*k else 14);split<;>omega))
 ·exact .ndR (eN hR hs (.opnd (k+1) c l) .rfl (by show(if k+1<=6 then 26-2*(k+1)else 14)<(if k<=6 then 26-2*k else 14);grind)) fun n l1 h1=>xG rfl (cX hR hs (.opndL k n c l1) h1)
theorem z2c(k:Nat)(n:PT)(c:Cx)(l:Ts)(hs:(Sy.opndL k n c l).meas<=m):eV (Sy.opndL k n c l).post (s5 R k n c l):=by
 refine .ite (fun h=>.ite (fun _=>.ok (pX rfl rfl .rfl)) fun _=>?_) fun _=>.ok (pX rfl rfl .rfl)
 have h1:iY l (l.drop 1):=by
  exact Tf
 exact .ndR (cN hR hs (.opnd (k+1) c _) h1) fun x l1 h2=>xG rfl (cX hR hs (.opndL k _ c l1) h2)
theorem z0r(c:Cx)(l:Ts)(hs:(Sy.unary c l).meas<=m):eV (Sy.unary c l).post (ny R c l):=by
 refine .ite (fun h=>?_) fun _=>xG rfl (eN hR hs (.postf c l) .rfl (oT rfl))
 have h1:iY l (l.drop 1):=by
  exact Tf
 refine .ite (fun _=>.ite (fun _=>?_) fun _=>.fail) fun _=>.ite (fun _=>?_) fun _=>.ite (fun _=>?_) fun _=>?_
 ·exact .ndR (cN hR hs (.unary c _) h1) fun x l1 h2=>.ok (pN rfl h2)
 ·exact .ndR (cN hR hs (.unary c _) h1) fun x l1 h2=>.ite (fun _=>.ok (pN rfl h2)) fun _=>.fail
 ·exact xG rfl (eN hR hs (.postf c l) .rfl (oT rfl))
 ·exact .ndR (cN hR hs (.unary c _) h1) fun x l1 h2=>.ite (fun _=>.fail) fun _=>.ok (pN rfl h2)
theorem z13(c:Cx)(l:Ts)(hs:(Sy.postf c l).meas<=m):eV (Sy.postf c l).post (v8 R c l):=by
 refine .ndR (eN hR hs (.chain c l) .rfl (oT rfl)) fun n l1 h1=>.ite (fun h2=>.ite (fun _=>.ok (pN rfl h1)) fun _=>.ite (fun _=>?_) fun _=>.fail) fun _=>.ok (pN rfl h1)
 exact .ok (pN rfl (h1.trans (cW _ _)))
theorem z7j(n:PT)(c:Cx)(l:Ts)(hs:(Sy.link n c l).meas<=m):eV (Sy.link n c l).post (uq R n c l):=by
 refine .ite (fun h=>.ite (fun _=>?_) fun _=>.fail) fun _=>.ite (fun h=>?_) fun _=>.ok (Qq rfl .rfl)
 ·exact .ok (tb rfl ((d1 h).trans (by rw[show l.drop 2=(l.drop 1).drop 1 by rw[yS]];exact cW _ _)))
 ·exact .ndR (cN hR hs (.assign c _) (d1 h)) fun i l1 h1=>.need fun _ h2=>.ok (tb rfl (h1.trans h2.leq))
theorem z4l(c:Cx)(l:Ts)(hs:(Sy.chain c l).meas<=m):eV (Sy.chain c l).post (yx R c l):=by
 refine .ite (fun h=>?_) fun _=>?_
 ·exact .ndR (cN hR hs (.prim c _) (d1 h)) fun n l1 h1=>xG rfl (cN hR hs (.chainN n c l1) h1)
 ·exact .ndR (eN hR hs (.prim c l) .rfl (oT rfl)) fun n l1 h1=>xG rfl (cX hR hs (.chainL n c l1) h1)
theorem Wr(n:PT)(c:Cx)(l:Ts)(hs:(Sy.chainN n c l).meas<=m):eV (Sy.chainN n c l).post (yu R n c l):=by
 refine .nbR (eB hR hs (.link n c l) .rfl (oT rfl)) fun x b l1 h1=>.ite (fun hb=>xG rfl (cN hR hs (.chainN x c l1) (h1.2 hb))) fun _=>.need fun _ h2=>?_
 exact .lsR (cL hR hs (.list2 eG c _) (h1.1.trans' h2)) fun ks l3 h3=>xG rfl (cX hR hs (.chainL _ c l3) h3)
theorem Wq(n:PT)(c:Cx)(l:Ts)(hs:(Sy.chainL n c l).meas<=m):eV (Sy.chainL n c l).post (yz R n c l):=by
 refine .nbR (eB hR hs (.link n c l) .rfl (oT rfl)) fun x b l1 h1=>.ite (fun hb=>xG rfl (cX hR hs (.chainL x c l1) (h1.2 hb))) fun _=>.ite (fun h2=>?_) fun _=>.ok (pX rfl rfl h1.1)
 exact .lsR (cL hR hs (.list2 eG c _) (h1.1.trans' (d1 h2))) fun ks l3 h3=>xG rfl (cX hR hs (.chainL _ c l3) h3)
theorem z26(e:Bs)(c:Cx)(l:Ts)(hs:(Sy.list2 e c l).meas<=m):eV (Sy.list2 e c l).post (s9 R e c l):=by
 exact .ite (fun h=>.ok (pL rfl (d1 h))) fun _=>VY rfl (eL hR hs (.list2L e [] c l) .rfl (oT rfl))
theorem Xa(e:Bs)(acc:List PT)(c:Cx)(l:Ts)(hs:(Sy.list2L e acc c l).meas<=m):eV (Sy.list2L e acc c l).post (sj R e acc c l):=by
 refine .ndR (eN hR hs (.assign c l) .rfl (oT rfl)) fun n l1 h1=>.ite (fun h=>.ok (pL rfl (h1.trans (d1 h).leq))) fun _=>.need fun _ h2=>?_
 exact VY rfl (cL hR hs (.list2L e _ c _) (h1.trans h2.leq))
theorem z6r(c:Cx)(l:Ts)(hs:(Sy.prim c l).meas<=m):eV (Sy.prim c l).post (va R c l):=by
 have hk:∀{k:Int},kd l 0=k->k≠0->iY l (l.drop 1):=fun h h1=>yQ (kJ h h1) 1 aT aT
 refine .ite (fun h=>.ok (pN rfl (hk h aT))) fun _=>.ite (fun h=>.ok (pN rfl (hk h aT))) fun _=>.ite (fun h=>.ok (pN rfl (hk h aT))) fun _=>?_
 refine .ite (fun h=>.ok (pN rfl (d1 h))) fun _=>.ite (fun h=>.ok (pN rfl (d1 h))) fun _=>.ite (fun h=>.ok (pN rfl (d1 h))) fun _=>.ite (fun h=>.ok (pN rfl (d1 h))) fun _=>.ite (fun h=>.ok (pN rfl (d1 h))) fun _=>?_
 refine .ite (fun h=>?_) fun _=>.ite (fun h=>?_) fun _=>.ite (fun h=>?_) fun _=>.ite (fun h=>?_) fun _=>.fail
 ·exact .ndR (cN hR hs (.assign c _) (d1 h)) fun n l1 h1=>.need fun _ h2=>.ok (pN rfl (h1.trans h2.leq))
 ·exact .lsR (cL hR hs (.list2 _ c _) (d1 h)) fun n l1 h1=>.ok (pN rfl h1)
 ·exact .lsR (cL hR hs (.fields c _) (d1 h)) fun n l1 h1=>.ok (pN rfl h1)
 ·exact xG rfl (eN hR hs (.func false c l) .rfl (oT rfl))
theorem Wz(c:Cx)(l:Ts)(hs:(Sy.fields c l).meas<=m):eV (Sy.fields c l).post (yy R c l):=by
 exact .ite (fun h=>.ok (pL rfl (d1 h))) fun _=>VY rfl (eL hR hs (.fieldsL [] c l) .rfl (oT rfl))
theorem Ym(acc:List PT)(c:Cx)(l:Ts)(hs:(Sy.fieldsL acc c l).meas<=m):eV (Sy.fieldsL acc c l).post (ze R acc c l):=by
 refine .ndR (eN hR hs (.field c l) .rfl (oT rfl)) fun n l1 h1=>.ite (fun h=>.ok (pL rfl (h1.trans (d1 h).leq))) fun _=>.need fun _ h2=>?_
 exact VY rfl (cL hR hs (.fieldsL _ c _) (h1.trans h2.leq))
theorem z31(c:Cx)(l:Ts)(hs:(Sy.field c l).meas<=m):eV (Sy.field c l).post (uz R c l):=by
 refine .ite (fun h=>?_) fun _=>.ite (fun _=>.fail) fun h0=>.ite (fun h=>?_) fun _=>.ite (fun h=>?_) fun _=>.fail
 ·exact .ndR (cN hR hs (.assign c _) (d1 h)) fun k l1 h1=>.need fun _ h2=>.need fun _ h3=>.ndR (cN hR hs (.assign c _) (h1.trans (h2.leq.trans h3.leq))) fun v l4 h4=>.ok (pN rfl h4)
 ·exact .ndR (cN hR hs (.assign c _) (yQ (nH h) 2 aT aT)) fun v l1 h1=>.ok (pN rfl h1)
 ·exact .ok (pN rfl (yQ (kJ h aT) 1 aT aT))
end
theorem Br:∀(n:Nat)(s:Sy),s.meas<n->eV s.post (nh n s)
 |0,_,h=>by omega
 |n+1,s,h=>by
  have ih:=Br n;have hs:s.meas<=n:=dU
  cases s with
  |stmt c l=>exact z5o ih c l hs
  |keyw c l=>exact z7t ih c l hs
  |condn c l=>exact z4k ih c l hs
  |inner c l=>exact z3t ih c l hs
  |body c l=>exact z8q ih c l hs
  |loops c l=>exact z2z ih c l hs
  |tryS c l=>exact xae ih c l hs
  |decl c l=>exact xG rfl (eN ih hs (.declL _ [] c (l.drop 1)) (cW _ _) (oT rfl))
  |declL k acc c l=>exact z4f ih k acc c l hs
  |block c l=>exact z4o ih c l hs
  |blockL acc c l=>exact Wl ih acc c l hs
  |func d c l=>exact z8d ih d c l hs
  |arrow c l=>exact z4s ih c l hs
  |assign c l=>exact Wf ih c l hs
  |cond c l=>exact z8o ih c l hs
  |opnd k c l=>exact z6x ih k c l hs
  |opndL k x c l=>exact z2c ih k x c l hs
  |unary c l=>exact z0r ih c l hs
  |postf c l=>exact z13 ih c l hs
  |link x c l=>exact z7j ih x c l hs
  |chain c l=>exact z4l ih c l hs
  |chainN x c l=>exact Wr ih x c l hs
  |chainL x c l=>exact Wq ih x c l hs
  |list2 e c l=>exact z26 ih e c l hs
  |list2L e acc c l=>exact Xa ih e acc c l hs
  |prim c l=>exact z6r ih c l hs
  |fields c l=>exact Wz ih c l hs
  |fieldsL acc c l=>exact Ym ih acc c l hs
  |field c l=>exact z31 ih c l hs
def Lf{α:Type}(x y:Re α):Prop:=x=none\/x=y
theorem Lf.rfl{α:Type}{x:Re α}:Lf x x:=.inr (Eq.refl x)
theorem Lf.bnd{α β:Type}{x y:Re α}{k k':α->Ts->Re β}(h:Lf x y)(hk:∀a l,Lf (k a l) (k' a l)):Lf (bnd x k) (bnd y k'):=by
 rcases h with h|h
 ·subst h;exact .inl (Eq.refl _)
 ·subst h
  match x with
  |none=>exact .inl (Eq.refl _)
  |some none=>exact .rfl
  |some (some (a,l))=>exact hk a l
theorem Lf.ite{α:Type}{c:Prop} [Decidable c] {x y x' y':Re α} (h1:Lf x x') (h2:Lf y y'):Lf (if c then x else y) (if c then x' else y'):=by
 grind
theorem Lf.need{β:Type}{s:Bs}{l:Ts}{k k':Ts->Re β}(hk:∀l,Lf (k l) (k' l)):Lf (eZ s l k) (eZ s l k'):=.ite (hk _) .rfl
theorem Lf.name{β:Type}{l:Ts}{k k':Bs->Ts->Re β}(hk:∀s l,Lf (k s l) (k' s l)):Lf (pZ l k) (pZ l k'):=.ite (hk _ _) .rfl
theorem Lf.nd{β:Type}{x y:Re Rv}{k k':PT->Ts->Re β}(h:Lf x y)(hk:∀n l,Lf (k n l) (k' n l)):Lf (ndR x k) (ndR y k'):=.bnd h fun v l=>by
 cases v with
 |nd n=>exact hk n l
 |nb n b=>exact .rfl
 |ls n=>exact .rfl
theorem Lf.nb{β:Type}{x y:Re Rv}{k k':PT->Bool->Ts->Re β}(h:Lf x y)(hk:∀n b l,Lf (k n b l) (k' n b l)):Lf (nbR x k) (nbR y k'):=.bnd h fun v l=>by
 cases v with
 |nb n b=>exact hk n b l
 |nd n=>exact .rfl
 |ls n=>exact .rfl
theorem Lf.ls{β:Type}{x y:Re Rv}{k k':List PT->Ts->Re β}(h:Lf x y)(hk:∀n l,Lf (k n l) (k' n l)):Lf (lsR x k) (lsR y k'):=.bnd h fun v l=>by
 cases v with
 |ls n=>exact hk n l
 |nb n b=>exact .rfl
 |nd n=>exact .rfl
theorem Lx{R R':Sy->Re Rv}(h:∀s,Lf (R s) (R' s))(s:Sy):Lf (BR R s) (BR R' s):=by
 have hx:∀c l,Lf (np R c l) (np R' c l):=fun c l=>by
  exact .nd (h _) fun n l=>.need fun l=>.rfl
 have hf:∀c a l,Lf (mg R c a l) (mg R' c a l):=fun c a l=>by
  refine .need fun l1=>?_
  have third:∀(b:PT)(l2:Ts),Lf (eZ mH l2 fun l3=>
   if aL l3 0 eG then ndR (R (.body c (l3.drop 1))) fun s l5=>bR (Rv.nd (nd 30 [a,b,nd 37 [],s])) l5
   else ndR (R (.assign c l3)) fun d l4=>eZ eG l4 fun l5=>ndR (R (.body c l5)) fun s l6=>bR (Rv.nd (nd 30 [a,b,d,s])) l6) (eZ mH l2 fun l3=>
   if aL l3 0 eG then ndR (R' (.body c (l3.drop 1))) fun s l5=>bR (Rv.nd (nd 30 [a,b,nd 37 [],s])) l5
   else ndR (R' (.assign c l3)) fun d l4=>eZ eG l4 fun l5=>ndR (R' (.body c l5)) fun s l6=>bR (Rv.nd (nd 30 [a,b,d,s])) l6):=fun b l2=>
   .need fun l3=>.ite (.nd (h _) fun _ _=>.rfl) (.nd (h _) fun _ _=>.need fun _=>.nd (h _) fun _ _=>.rfl)
  exact .ite (third _ _) (.nd (h _) fun _ _=>third _ _)
 have ht:∀c ks l,Lf (s7 R c ks l) (s7 R' c ks l):=fun c ks l=>by
  exact .ite (.nd (h _) fun _ _=>.rfl) .rfl
 cases s with
 |stmt c l=>
  show Lf (yp R c l) (yp R' c l);exact .ite (.nd (h _) fun _ _=>.need fun _=>.rfl) (.ite (h _) (.ite (h _) (.ite .rfl (.ite (.nb (h _) fun _ _ _=>.ite .rfl (hx _ _)) (hx _ _)))))
 |keyw c l=>
  show Lf (xF R c l) (xF R' c l);exact .ite (.nd (h _) fun _ _=>.nd (h _) fun _ _=>.ite (.nd (h _) fun _ _=>.rfl) .rfl) (.ite (.nd (h _) fun _ _=>.nd (h _) fun _ _=>.rfl) (.ite (.nd (h _) fun _ _=>.rfl) (.ite (.ite (.ite .rfl (.nd (h _) fun _ _=>.need fun _=>.rfl)) .rfl) (.ite .rfl (.ite (.nd (h _) fun _ _=>.need fun _=>.rfl) (.ite (.nd (h _) fun _ _=>.rfl) .rfl))))))
 |condn c l=>
  show Lf (nv R c l) (nv R' c l);exact .need fun _=>.nd (h _) fun _ _=>.need fun _=>.rfl
 |inner c l=>
  show Lf (yv R c l) (yv R' c l);exact .ite .rfl (h _)
 |body c l=>
  show Lf (BH R c l) (BH R' c l);exact h _
 |loops c l=>
  show Lf (sl R c l) (sl R' c l);exact .need fun _=>.ite (.nd (h _) fun _ _=>.need fun _=>.nd (h _) fun _ _=>.rfl) (.ite (.nd (h _) fun _ _=>hf _ _ _) (.ite (hf _ _ _) (.nd (h _) fun _ _=>hf _ _ _)))
 |tryS c l=>
  show Lf (nj R c l) (nj R' c l);exact .nd (h _) fun _ _=>.ite (.ite (.name fun _ _=>.need fun _=>.nd (h _) fun _ _=>ht _ _ _) (.nd (h _) fun _ _=>ht _ _ _)) (ht _ _ _)
 |decl c l=>
  show Lf (BM R c l) (BM R' c l);exact h _
 |declL k acc c l=>
  show Lf (rv R k acc c l) (rv R' k acc c l);exact .name fun _ _=>.ite (.nd (h _) fun _ _=>.ite (h _) .rfl) (.ite .rfl (.ite (h _) .rfl))
 |block c l=>
  show Lf (ry R c l) (ry R' c l);exact .need fun _=>h _
 |blockL acc c l=>
  show Lf (sp R acc c l) (sp R' acc c l);exact .ite .rfl (.ite .rfl (.nd (h _) fun _ _=>h _))
 |func d c l=>
  show Lf (yA R d c l) (yA R' d c l);unfold yA;exact .need fun _=>.ite (.name fun _ _=>.bnd .rfl fun _ _=>.nd (h _) fun _ _=>.rfl) (.bnd .rfl fun _ _=>.nd (h _) fun _ _=>.rfl)
 |arrow c l=>
  show Lf (bp R c l) (bp R' c l);exact .ite (.bnd .rfl fun _ _=>.need fun _=>.ite (.nd (h _) fun _ _=>.rfl) (.nd (h _) fun _ _=>.rfl)) (.name fun _ _=>.need fun _=>.ite (.nd (h _) fun _ _=>.rfl) (.nd (h _) fun _ _=>.rfl))
 |assign c l=>
  show Lf (zd R c l) (zd R' c l);exact .ite (h _) (.ite (.ite (.nd (h _) fun _ _=>.rfl) .rfl) (.nd (h _) fun _ _=>.ite (.ite .rfl (.ite (.nd (h _) fun _ _=>.rfl) .rfl)) .rfl))
 |cond c l=>
  show Lf (ym R c l) (ym R' c l);exact .nd (h _) fun _ _=>.ite (.nd (h _) fun _ _=>.need fun _=>.nd (h _) fun _ _=>.rfl) .rfl
 |opnd k c l=>
  show Lf (yo R k c l) (yo R' k c l);exact .ite (h _) (.nd (h _) fun _ _=>h _)
 |opndL k n c l=>
  show Lf (s5 R k n c l) (s5 R' k n c l);exact .ite (.ite .rfl (.nd (h _) fun _ _=>h _)) .rfl
 |unary c l=>
  show Lf (ny R c l) (ny R' c l);exact .ite (.ite (.ite (.nd (h _) fun _ _=>.rfl) .rfl) (.ite (.nd (h _) fun _ _=>.rfl) (.ite (h _) (.nd (h _) fun _ _=>.rfl)))) (h _)
 |postf c l=>
  show Lf (v8 R c l) (v8 R' c l);exact .nd (h _) fun _ _=>.rfl
 |link n c l=>
  show Lf (uq R n c l) (uq R' n c l);exact .ite .rfl (.ite (.nd (h _) fun _ _=>.need fun _=>.rfl) .rfl)
 |chain c l=>
  show Lf (yx R c l) (yx R' c l);exact .ite (.nd (h _) fun _ _=>h _) (.nd (h _) fun _ _=>h _)
 |chainN n c l=>
  show Lf (yu R n c l) (yu R' n c l);exact .nb (h _) fun _ _ _=>.ite (h _) (.need fun _=>.ls (h _) fun _ _=>h _)
 |chainL n c l=>
  show Lf (yz R n c l) (yz R' n c l);exact .nb (h _) fun _ _ _=>.ite (h _) (.ite (.ls (h _) fun _ _=>h _) .rfl)
 |list2 e c l=>
  show Lf (s9 R e c l) (s9 R' e c l);exact .ite .rfl (h _)
 |list2L e acc c l=>
  show Lf (sj R e acc c l) (sj R' e acc c l);exact .nd (h _) fun _ _=>.ite .rfl (.need fun _=>h _)
 |prim c l=>
  show Lf (va R c l) (va R' c l);exact .ite .rfl (.ite .rfl (.ite .rfl (.ite .rfl (.ite .rfl (.ite .rfl (.ite .rfl (.ite .rfl (.ite (.nd (h _) fun _ _=>.need fun _=>.rfl) (.ite (.ls (h _) fun _ _=>.rfl) (.ite (.ls (h _) fun _ _=>.rfl) (.ite (h _) .rfl)))))))))))
 |fields c l=>
  show Lf (yy R c l) (yy R' c l);exact .ite .rfl (h _)
 |fieldsL acc c l=>
  show Lf (ze R acc c l) (ze R' acc c l);exact .nd (h _) fun _ _=>.ite .rfl (.need fun _=>h _)
 |field c l=>
  show Lf (uz R c l) (uz R' c l);exact .ite (.nd (h _) fun _ _=>.need fun _=>.need fun _=>.nd (h _) fun _ _=>.rfl) (.ite .rfl (.ite (.nd (h _) fun _ _=>.rfl) .rfl))
theorem Lp:∀(n:Nat)(s:Sy),Lf (nh n s) (nh (n+1) s)
 |0,_=>.inl rfl
 |n+1,s=>Lx (Lp n) s
theorem Kg{n m:Nat}(h:n<=m)(s:Sy):Lf (nh n s) (nh m s):=by
 induction m with
 |zero=>have:n=0:=by omega
        subst this;exact .rfl
 |succ m ih=>
  rcases bB m n with h1|h1
  ·have:n=m+1:=dU
   subst this;exact .rfl
  ·rcases ih h1 with h2|h2
   ·exact .inl h2
   ·rw[h2];exact Lp m s
def ev(s:Sy):Re Rv:=nh (s.meas+1) s
theorem z86{n:Nat}{s:Sy}(h:s.meas<n):nh n s=ev s:=by
 obtain⟨o,ho,_⟩:=Br (s.meas+1) s (oy _)
 rcases Kg (show s.meas+1<=n by omega) s with h1|h1
 ·rw[ho]at h1;cases h1
 ·exact h1.symm
theorem yl(s:Sy):eV s.post (ev s):=Br _ s (oy _)
theorem xer(n:Nat)(s:Sy):Lf (nh n s) (ev s):=by
 rcases bB s.meas n with h|h
 ·exact .inr (z86 h)
 ·exact Kg (show n<=s.meas+1 by omega) s
theorem qA(s:Sy):ev s=BR ev s:=by
 obtain⟨o,ho,_⟩:=yl s;have h:Lf (nh (s.meas+1) s) (BR ev s):=Lx (xer s.meas) s
 rcases h with h|h
 ·have h2:ev s=none:=h;rw[ho]at h2;cases h2
 ·exact h
theorem YE{l z:Ts}{n:Nat}(h:n<l.length)(s:Bs):aL (l++z) n s=aL l n s:=by
 unfold aL tx kd
 grind
theorem LJ{l z:Ts}{n:Nat}(h:n<l.length):kd (l++z) n=kd l n:=by
 unfold kd
 grind
theorem VH{l z:Ts}{n:Nat}(h:n<l.length):tx (l++z) n=tx l n:=by
 unfold tx
 grind
theorem zh9{l:Ts}{n:Nat}{s s':Bs}(h:aL l n s=true)(eA:s≠s'):aL l n s'=false:=by
 unfold aL at h ⊢
 grind
theorem XR{l:Ts}{n:Nat}{s:Bs}(h:aL l n s=true):kd l n=2\/kd l n=5:=by
 unfold aL at h
 grind
theorem ME{l:Ts}{n:Nat}{s:Bs}(h:aL l n s=true):tx l n=s:=by
 unfold aL at h
 grind
def gT{α:Type}(z l:Ts)(x x':Re α):Prop:=∀a l1,x=some (some (a,l1))->l1 <:+ l/\(l1≠[]\/aL z 0 eG=true->x'=some (some (a,l1++z)))
section
variable{α β:Type}{z l:Ts}
theorem gT.fail{x':Re α}:gT z l qY x':=fun _ _ h=>by cases h
theorem gT.ok{a:α}{l1:Ts}(h:l1 <:+ l):gT z l (bR a l1) (bR a (l1++z)):=fun _ _ e=>by cases e;exact⟨h,fun _=>rfl⟩
theorem gT.suf{l':Ts}{x x':Re α}(h:gT z l' x x')(hl:l' <:+ l):gT z l x x':=fun a l1 e=>⟨(h a l1 e).1.trans hl,(h a l1 e).2⟩
theorem gT.bnd{x x':Re α}{k k':α->Ts->Re β}(h:gT z l x x')(hk:∀a l1,x=some (some (a,l1))->l1 <:+ l->gT z l1 (k a l1) (k' a (l1++z))):gT z l (bnd x k) (bnd x' k'):=fun b l2 e=>by
 cases hx:x with
 |none=>rw[hx]at e;cases e
 |some o=>
  cases o with
  |none=>rw[hx]at e;cases e
  |some p=>
   obtain⟨a,l1⟩:=p;rw[hx]at e;obtain⟨h1,h2⟩:=h a l1 hx;obtain⟨h3,h4⟩:=hk a l1 hx h1 b l2 e;refine⟨h3.trans h1,fun hw=>?_⟩
   have h5:=h2 (hw.imp (fun h6 h7=>by grind) id)
   rw[h5];exact h4 hw
theorem gT.nd{x x':Re Rv}{k k':PT->Ts->Re β}(h:gT z l x x')(hk:∀n l1,x=some (some (.nd n,l1))->l1 <:+ l->gT z l1 (k n l1) (k' n (l1++z))):gT z l (ndR x k) (ndR x' k'):=.bnd h fun v l1 h0 h1=>by
 cases v with
 |nd n=>exact hk n l1 h0 h1
 |nb n b=>exact fun _ _ e=>by cases e
 |ls n=>exact fun _ _ e=>by cases e
theorem gT.nb{x x':Re Rv}{k k':PT->Bool->Ts->Re β}(h:gT z l x x')(hk:∀n b l1,x=some (some (.nb n b,l1))->l1 <:+ l->gT z l1 (k n b l1) (k' n b (l1++z))):gT z l (nbR x k) (nbR x' k'):=.bnd h fun v l1 h0 h1=>by
 cases v with
 |nb n b=>exact hk n b l1 h0 h1
 |nd n=>exact fun _ _ e=>by cases e
 |ls n=>exact fun _ _ e=>by cases e
theorem gT.ls{x x':Re Rv}{k k':List PT->Ts->Re β}(h:gT z l x x')(hk:∀n l1,x=some (some (.ls n,l1))->l1 <:+ l->gT z l1 (k n l1) (k' n (l1++z))):gT z l (lsR x k) (lsR x' k'):=.bnd h fun v l1 h0 h1=>by
 cases v with
 |ls n=>exact hk n l1 h0 h1
 |nb n b=>exact fun _ _ e=>by cases e
 |nd n=>exact fun _ _ e=>by cases e
theorem gT.ite{c c':Prop} [Decidable c] [Decidable c'] {x y x' y':Re α} (h1:c->c'->gT z l x x') (h2:¬c->¬c'->gT z l y y') (h3:c->¬c'->gT z l x y') (h4:¬c->c'->gT z l y x'):gT z l (if c then x else y) (if c' then x' else y'):=by
 grind
theorem gT.drop{k:Nat}(h:k<=l.length):(l++z).drop k=l.drop k++z:=List.drop_append_of_le_length h
theorem gT.none{x x':Re α}(hz:aL z 0 eG=false)(h:∀a l1,x=some (some (a,l1))->l1=[]):gT z l x x':=fun a l1 e=>by
 grind
theorem gT.ends{x x':Re α}{y:Re α}(hz:aL z 0 eG=false)(h:gT z [] x y):gT z l x x':=.none hz fun a l1 e=>List.suffix_nil.1 (h a l1 e).1
theorem gT.iff{c c':Prop} [Decidable c] [Decidable c'] {x y x' y':Re α} (hc:l≠[]\/aL z 0 eG=true->(c ↔ c')) (hn:¬(l≠[]\/aL z 0 eG=true)->¬c) (h1:c->gT z l x x') (h2:gT z l y y'):gT z l (if c then x else y) (if c' then x' else y'):=by
 by_cases hw:l≠[]\/aL z 0 eG=true
 ·grind
 ·have hl:l=[]:=jL fun h=>hw (.inl h)
  have hz:aL z 0 eG=false:=by
   grind
  subst hl;exact .ite (fun h _=>h1 h) (fun _ _=>h2) (fun h _=>absurd h (hn hw)) fun h _=>.ends hz h2
theorem CP{l:Ts}(h:l≠[]):0<l.length:=aV.2 h
theorem E2(n:Nat)(s:Bs):aL [] n s=false:=by unfold aL kd tx;simp
theorem Bx(n:Nat):kd [] n=0:=by unfold kd;simp
theorem gT.is{s:Bs}(hs:s≠eG){x y x' y':Re α}(h1:aL l 0 s=true->gT z l x x')(h2:gT z l y y'):gT z l (if aL l 0 s then x else y) (if aL (l++z) 0 s then x' else y'):=by
 refine .iff (fun hw=>?_) (fun hw=>?_) h1 h2
 ·by_cases hl:l=[]
  ·subst hl;rw[E2,sR,zh9 (hw.resolve_left fun h=>h rfl) (iQ hs)]
  ·rw[YE (CP hl)]
 ·have:l=[]:=jL fun h=>hw (.inl h)
  subst this;rw[E2];grind
theorem z5{z:Ts}(h:aL z 0 eG=true):(kd z 0=2\/kd z 0=5)/\tx z 0=eG:=⟨XR h,ME h⟩
theorem gT.kdI{k:Int}(h5:k≠5)(W8:k≠2)(h0:k≠0){x y x' y':Re α}(h1:kd l 0=k->gT z l x x')(h2:gT z l y y'):gT z l (if kd l 0=k then x else y) (if kd (l++z) 0=k then x' else y'):=by
 refine .iff (fun hw=>?_) (fun hw=>?_) h1 h2
 ·by_cases hl:l=[]
  ·subst hl;refine⟨fun e=>absurd e.symm h0,fun e=>?_⟩
   rcases(z5 (hw.resolve_left fun h=>h rfl)).1 with e2|e2
   ·exact absurd (e.symm.trans e2) W8
   ·exact absurd (e.symm.trans e2) h5
  ·rw[LJ (CP hl)]
 ·have:l=[]:=jL fun h=>hw (.inl h)
  subst this;rw[Bx];exact fun e=>h0 e.symm
theorem gT.need{s:Bs}{k k':Ts->Re α}(hk:aL l 0 s=true->gT z (l.drop 1) (k (l.drop 1)) (k' (l.drop 1++z))):gT z l (eZ s l k) (eZ s (l++z) k'):=by
 unfold eZ
 by_cases h:aL l 0 s=true
 ·have hp:=nH h;rw[aF h,aF (by rw[YE hp];exact h),gT.drop oM]
  exact(hk h).suf (cW _ _)
 ·rw[aE h];exact .fail
theorem gT.name{k k':Bs->Ts->Re α}(hk:kd l 0=1->gT z (l.drop 1) (k (tx l 0) (l.drop 1)) (k' (tx l 0) (l.drop 1++z))):gT z l (pZ l k) (pZ (l++z) k'):=by
 unfold pZ
 by_cases h:Go.Proofs.YtjkcdcloomkooaaGreatDoor.kd l 0=1
 ·have hp:=kJ h aT
  rw[aF h,aF (by rw[LJ hp];exact h),VH hp,gT.drop oM]
  exact(hk h).suf (cW _ _)
 ·rw[aE h];exact .fail
end
def Sy.put:Sy->Ts->Sy
 | .stmt c _,l=>.stmt c l
 | .keyw c _,l=>.keyw c l
 | .condn c _,l=>.condn c l
 | .inner c _,l=>.inner c l
 | .body c _,l=>.body c l
 | .loops c _,l=>.loops c l
 | .tryS c _,l=>.tryS c l
 | .decl c _,l=>.decl c l
 | .declL k a c _,l=>.declL k a c l
 | .block c _,l=>.block c l
 | .blockL a c _,l=>.blockL a c l
 | .func d c _,l=>.func d c l
 | .arrow c _,l=>.arrow c l
 | .assign c _,l=>.assign c l
 | .cond c _,l=>.cond c l
 | .opnd k c _,l=>.opnd k c l
 | .opndL k n c _,l=>.opndL k n c l
 | .unary c _,l=>.unary c l
 | .postf c _,l=>.postf c l
 | .link n c _,l=>.link n c l
 | .chain c _,l=>.chain c l
 | .chainN n c _,l=>.chainN n c l
 | .chainL n c _,l=>.chainL n c l
 | .list2 e c _,l=>.list2 e c l
 | .list2L e a c _,l=>.list2L e a c l
 | .prim c _,l=>.prim c l
 | .fields c _,l=>.fields c l
 | .fieldsL a c _,l=>.fieldsL a c l
 | .field c _,l=>.field c l
def xZ{α:Type}(x:Re α):Prop:=∀r,x≠some (some r)
theorem xZ.nd{β:Type}{x:Re Rv}{k:PT->Ts->Re β}(h:xZ x):xZ (ndR x k):=fun r e=>by
 unfold ndR bnd at e
 exact H0
theorem xZ.ls{β:Type}{x:Re Rv}{k:List PT->Ts->Re β}(h:xZ x):xZ (lsR x k):=fun r e=>by
 unfold lsR bnd at e
 exact H0
theorem xZ.fail{α:Type}:xZ (qY:Re α):=fun r e=>by cases e
theorem xZ.need{β:Type}{s:Bs}{l:Ts}{k:Ts->Re β}(h:aL l 0 s=false):xZ (eZ s l k):=by
 unfold eZ;rw[aE aZ]
 exact .fail
theorem xZ.needK{β:Type}{s:Bs}{l:Ts}{k:Ts->Re β}(h:aL l 0 s=true->xZ (k (l.drop 1))):xZ (eZ s l k):=by
 unfold eZ
 split
 ·exact h mI
 ·exact .fail
theorem xZ.bnd{α β:Type}{x:Re α}{k:α->Ts->Re β}(h:xZ x):xZ (bnd x k):=fun r e=>by
 unfold Go.Proofs.YtjkcdcloomkooaaGreatDoor.bnd at e
 exact H0
theorem xZ.ite{α:Type}{c:Prop} [Decidable c] {x y:Re α} (h1:c->xZ x) (h2:¬c->xZ y):xZ (if c then x else y):=by
 grind
theorem dp{l z:Ts}(h:0<l.length):(l++z).drop 1=l.drop 1++z:=gT.drop h
theorem MR{s:Sy}{v:Rv}{l:Ts}(h:ev s=some (some (v,l))):s.post v l:=by
 obtain⟨o,ho,hp⟩:=yl s
 grind
section
variable{z:Ts}{m:Nat}(hR:∀s:Sy,s.meas<m->gT z s.l (ev s) (ev (s.put (s.l++z))))
include hR
end
theorem sd{l:Ts}{k:Nat}:l.drop k <:+ l:=cW k l
theorem gT.op{z l:Ts}{fr cnt:Nat}(h0:gN eG fr cnt=0){x x' y y':Re Rv}(hx:l≠[]->kd l 0=5->gT z l x x')(hy:gT z l y y'):
  gT z l (if kd l 0=5 then(if gN (tx l 0) fr cnt=0 then y else x)else y) (if kd (l++z) 0=5 then(if gN (tx (l++z) 0) fr cnt=0 then y' else x')else y'):=by
 by_cases hl:l=[]
 ·subst hl;rw[Bx,aE aT]
  by_cases hz:aL z 0 eG=true
  ·rw[sR,(z5 hz).2,h0,aF rfl]
   grind
  ·exact .ends (by simpa using hz) hy
 ·rw[LJ (CP hl),VH (CP hl)]
  grind
theorem gT.op2{z l:Ts}{fr cnt:Nat}(h0:gN eG fr cnt=0){x x' y y':Re Rv}(hx:l≠[]->gT z l x x')(hy:gT z l y y'):
  gT z l (if decide (kd l 0=5)||decide (kd l 0=2)then(if gN (tx l 0) fr cnt=0 then y else x)else y) (if decide (kd (l++z) 0=5)||decide (kd (l++z) 0=2)then(if gN (tx (l++z) 0) fr cnt=0 then y' else x')else y'):=by
 by_cases hl:l=[]
 ·subst hl;rw[Bx,aE aT]
  by_cases hz:aL z 0 eG=true
  ·rw[sR,(z5 hz).2,h0,aF rfl]
   grind
  ·exact .ends (by simpa using hz) hy
 ·rw[LJ (CP hl),VH (CP hl)]
  grind
theorem sO{l l1 l2:Ts}(h:fY l l1)(h2:fY l1 l2):fY l l2:=h.trans h2
section
variable{z:Ts}{m:Nat}(hR:∀s:Sy,s.meas<m->gT z s.l (ev s) (ev (s.put (s.l++z))))
include hR
omit hR in
theorem mL{s:Sy}(hs:s.meas<=m){l:Ts}(h:iY s.l l)(s':Sy)(h':fY l s'.l):s'.meas<m:=sC hs (h.trans h') (sB _)
end
def brk(s:Bs):Nat:=if s=jD\/s=uD\/s=nS then 1 else if s=eG\/s=xB\/s=uC then 2 else 0
def rO(t:Tk):Nat:=if t.k=5 then brk t.t else 0
def uc:Nat->Ts->Nat
 |n,[]=>n
 |n,t::l=>uc (match rO t with|0=>n|1=>n+1|_=>n-1) l
def uO:Nat->Ts->Bool
 |_,[]=>false
 |n,t::l=>match rO t with
  |0=>uO n l
  |1=>if 128<n+1 then true else uO (n+1) l
  |_=>uO (n-1) l
theorem Lv:∀(n:Nat)(a b:Ts),uc n (a++b)=uc (uc n a) b
 |n,[],b=>rfl
 |n,t::a,b=>by rw[pD,uc,uc,Lv]
def YS(t:Tk):Prop:=t.k=2->brk t.t=0
def fp(b c:Nat)(l l1:Ts):Prop:=∃d,l=d++l1/\∀n,uc (n+b) d=n+c
theorem fp.rfl{b:Nat}{l:Ts}:fp b b l l:=⟨[],Eq.refl l,fun _=>Eq.refl _⟩
theorem fp.trans{b c e:Nat}{l l1 l2:Ts}(h:fp b c l l1)(h':fp c e l1 l2):fp b e l l2:=by
 obtain⟨d,h1,h2⟩:=h;obtain⟨d',h3,h4⟩:=h';exact⟨d++d',by grind,fun n=>by rw[Lv,h2,h4]⟩
theorem fp.up{b c:Nat}{l l1:Ts}(k:Nat)(h:fp b c l l1):fp (b+k) (c+k) l l1:=by
 obtain⟨d,h1,h2⟩:=h;exact⟨d,h1,fun n=>by rw[show n+(b+k)=n+k+b by omega,h2];omega⟩
theorem fp.tok{l:Ts}{t:Tk}(h:l[0]?=some t)(b:Nat)(hb:rO t=2->0<b):fp b (match rO t with|0=>b|1=>b+1|_=>b-1) l (l.drop 1):=by
 cases l with
 |nil=>cases h
 |cons x l=>
  cases h
  refine⟨[t],Eq.refl _,fun n=>?_⟩
  have hle:rO t<=2:=by unfold rO brk;grind
  rw[uc,uc]
  grind
theorem Yp{l:Ts}{s:Bs}(h:aL l 0 s=true)(hT:∀t∈l,YS t):∃t,l[0]?=some t/\rO t=brk s:=by
 have hp:=nH h;have hk:=XR h;have ht:=ME h;refine⟨l[0],aB hp,?_⟩;have hm:=hT l[0] (nf hp);unfold kd at hk;unfold tx at ht;rw[aB hp]at hk ht;simp only at hk ht;unfold rO
 rcases hk with e|e
 ·rw[aE (by rw[e];decide),<- ht]
  exact(hm e).symm
 ·rw[aF e,ht]
def Bl{α:Type}(b c:Nat)(l:Ts)(x:Re α):Prop:=(∀t∈l,YS t)->∀a l1,x=some (some (a,l1))->fp b c l l1
section
variable{α β:Type}{b c e:Nat}{l:Ts}
theorem Bl.fail:Bl b c l (qY:Re α):=fun _ _ _ h=>by cases h
theorem Bl.ok{a:α}:Bl b b l (bR a l):=fun _ _ _ h=>by cases h;exact .rfl
theorem Bl.pre{l1:Ts}{x:Re α}(h:(∀t∈l,YS t)->fp b e l l1)(hx:Bl e c l1 x):Bl b c l x:=fun hT a l2 he=>by
 have h1:=h hT;obtain⟨d,hd,_⟩:=id h1;exact h1.trans (hx (fun t ht=>hT t aZ) a l2 he)
theorem Bl.bnd{x:Re α}{k:α->Ts->Re β}(h:Bl b e l x)(hk:∀a l1,x=some (some (a,l1))->Bl e c l1 (k a l1)):Bl b c l (bnd x k):=fun hT a l2 he=>by
 cases hx:x with
 |none=>rw[hx]at he;cases he
 |some o=>
  cases o with
  |none=>rw[hx]at he;cases he
  |some p=>
   obtain⟨a1,l1⟩:=p;rw[hx]at he;exact Bl.pre (fun hT=>h hT a1 l1 hx) (hk a1 l1 hx) hT a l2 he
theorem Bl.nd{x:Re Rv}{k:PT->Ts->Re β}(h:Bl b e l x)(hk:∀n l1,x=some (some (.nd n,l1))->Bl e c l1 (k n l1)):Bl b c l (ndR x k):=.bnd h fun v l1 h0=>by
 cases v with
 |nd n=>exact hk n l1 h0
 |nb n b=>exact fun _ _ _ e=>by cases e
 |ls n=>exact fun _ _ _ e=>by cases e
theorem Bl.nb{x:Re Rv}{k:PT->Bool->Ts->Re β}(h:Bl b e l x)(hk:∀n q l1,x=some (some (.nb n q,l1))->Bl e c l1 (k n q l1)):Bl b c l (nbR x k):=.bnd h fun v l1 h0=>by
 cases v with
 |nb n q=>exact hk n q l1 h0
 |nd n=>exact fun _ _ _ e=>by cases e
 |ls n=>exact fun _ _ _ e=>by cases e
theorem Bl.ls{x:Re Rv}{k:List PT->Ts->Re β}(h:Bl b e l x)(hk:∀n l1,x=some (some (.ls n,l1))->Bl e c l1 (k n l1)):Bl b c l (lsR x k):=.bnd h fun v l1 h0=>by
 cases v with
 |ls n=>exact hk n l1 h0
 |nb n b=>exact fun _ _ _ e=>by cases e
 |nd n=>exact fun _ _ _ e=>by cases e
theorem Bl.ite{p:Prop} [Decidable p] {x y:Re α} (h1:p->Bl b c l x) (h2:¬p->Bl b c l y):Bl b c l (if p then x else y):=by
 grind
theorem Bl.w0{s:Bs}{x:Re α}(h:aL l 0 s=true)(hs:brk s=0)(hx:Bl b c (l.drop 1) x):Bl b c l x:=.pre (fun hT=>by
 obtain⟨t,h1,h2⟩:=Yp h hT
 have:=fp.tok h1 b oM
 grind) hx
theorem Bl.n0{s:Bs}{k:Ts->Re α}(hs:brk s=0)(hx:aL l 0 s=true->Bl b c (l.drop 1) (k (l.drop 1))):Bl b c l (eZ s l k):=.ite (fun h=>.w0 h hs (hx h)) fun _=>.fail
theorem Bl.k0{x:Re α}(h:kd l 0≠5\/brk (tx l 0)=0)(hx:Bl b c (l.drop 1) x):Bl b c l x:=.pre (fun hT=>by
 cases l with
 |nil=>exact .rfl
 |cons t l=>
  have h2:rO t=0:=by
   unfold rO
   rcases h with h|h
   ·exact aE h
   ·split
    ·exact h
    ·exact Eq.refl _
  have:=fp.tok (l:=t::l) (Eq.refl _) b oM
  grind) hx
theorem Bl.name{k:Bs->Ts->Re α}(hx:kd l 0=1->Bl b c (l.drop 1) (k (tx l 0) (l.drop 1))):Bl b c l (pZ l k):=.ite (fun h=>.k0 (.inl JH) (hx h)) fun _=>.fail
end
def Sy.ob:Sy->Nat
 | .blockL _ _ _|.list2 _ _ _|.list2L _ _ _ _|.fields _ _|.fieldsL _ _ _=>1
 |_=>0
def Sy.eok:Sy->Prop
 | .list2 e _ _|.list2L e _ _ _=>brk e=2
 | .decl _ l=>brk (tx l 0)=0
 |_=>True
section
variable{m:Nat}(hB:∀s:Sy,s.meas<m->s.eok->Bl s.ob 0 s.l (ev s))
include hB
end
def rC{α:Type}(z:Ts)(x x':Re α):Prop:=∀a l1,x=some (some (a,l1))->x'=some (some (a,l1++z))
section
variable{α β:Type}{z l:Ts}
theorem rC.fail{x':Re α}:rC z qY x':=fun _ _ h=>by cases h
theorem rC.ok{a:α}{l1:Ts}:rC z (bR a l1) (bR a (l1++z)):=fun _ _ e=>by cases e;rfl
theorem rC.bnd{x x':Re α}{k k':α->Ts->Re β}(h:rC z x x')(hk:∀a l1,x=some (some (a,l1))->rC z (k a l1) (k' a (l1++z))):rC z (bnd x k) (bnd x' k'):=fun b l2 e=>by
 cases hx:x with
 |none=>rw[hx]at e;cases e
 |some o=>
  cases o with
  |none=>rw[hx]at e;cases e
  |some p=>
   obtain⟨a,l1⟩:=p;rw[hx]at e;rw[h a l1 hx];exact hk a l1 hx b l2 e
theorem rC.nd{x x':Re Rv}{k k':PT->Ts->Re β}(h:rC z x x')(hk:∀n l1,x=some (some (.nd n,l1))->rC z (k n l1) (k' n (l1++z))):rC z (ndR x k) (ndR x' k'):=.bnd h fun v l1 h0=>by
 cases v with
 |nd n=>exact hk n l1 h0
 |nb n b=>exact fun _ _ e=>by cases e
 |ls n=>exact fun _ _ e=>by cases e
theorem rC.nb{x x':Re Rv}{k k':PT->Bool->Ts->Re β}(h:rC z x x')(hk:∀n b l1,x=some (some (.nb n b,l1))->rC z (k n b l1) (k' n b (l1++z))):rC z (nbR x k) (nbR x' k'):=.bnd h fun v l1 h0=>by
 cases v with
 |nb n b=>exact hk n b l1 h0
 |nd n=>exact fun _ _ e=>by cases e
 |ls n=>exact fun _ _ e=>by cases e
theorem rC.ite{c:Prop} [Decidable c] {x y x' y':Re α} (h1:c->rC z x x') (h2:¬c->rC z y y'):rC z (if c then x else y) (if c then x' else y'):=by
 grind
theorem rC.need{s:Bs}{k k':Ts->Re α}(hk:aL l 0 s=true->rC z (k (l.drop 1)) (k' (l.drop 1++z))):rC z (eZ s l k) (eZ s (l++z) k'):=by
 unfold eZ
 by_cases h:aL l 0 s=true
 ·have hp:=nH h;rw[aF h,aF (by rw[YE hp];exact h),dp hp]
  exact hk h
 ·rw[aE h];exact .fail
theorem rC.name{k k':Bs->Ts->Re α}(hk:kd l 0=1->rC z (k (tx l 0) (l.drop 1)) (k' (tx l 0) (l.drop 1++z))):rC z (pZ l k) (pZ (l++z) k'):=by
 unfold pZ
 by_cases h:kd l 0=1
 ·have hp:=kJ h aT
  rw[aF h,aF (by rw[LJ hp];exact h),VH hp,dp hp]
  exact hk h
 ·rw[aE h];exact .fail
theorem rC.is{s:Bs}(hz:aL z 0 s=false){x y x' y':Re α}(h1:aL l 0 s=true->rC z x x')(h2:rC z y y'):rC z (if aL l 0 s then x else y) (if aL (l++z) 0 s then x' else y'):=by
 by_cases hl:l=[]
 ·subst hl;rw[E2,sR,hz];exact h2
 ·rw[YE (CP hl)]
  grind
end
def Sy.stm:Sy->Bool
 | .stmt _ _|.keyw _ _|.inner _ _|.body _ _|.loops _ _|.tryS _ _|.block _ _|.blockL _ _ _|.func _ _ _=>true
 |_=>false
section
variable{z:Ts}{m:Nat}(hC:∀s:Sy,s.meas<m->s.stm=true->s.l≠[]->rC z (ev s) (ev (s.put (s.l++z))))
end
def jC:Cx:=⟨false,false,false,false⟩
def fk:Nat->List PT->Ts->Option (List PT)
 |0,_,_=>none
 |n+1,acc,l=>if l=[]then some acc else match ev (.stmt jC l)with
  |some (some (.nd x,l1))=>fk n (acc++[x]) l1
  |_=>none
def GZ(l:Ts):Option (List PT):=fk (l.length+1) [] l
mutual
def jO:PT->Prop
 | .mk _ _ _ _ ks=>ks.length<=2000000/\tF ks
def tF:List PT->Prop
 |[]=>True
 |k::ks=>jO k/\tF ks
end
theorem sf:∀{a b:List PT},tF a->tF b->tF (a++b)
 |[],_,_,h=>h
 |x::a,b,h,h'=>by
  rw[pD,tF];exact⟨h.1,sf h.2 h'⟩
theorem bg{x:PT}(h:jO x):tF [x]:=by exact⟨h,trivial⟩
theorem kj{k i o:Int}{nm:Bs}{ks:List PT}(h:ks.length<=2000000)(h':tF ks):jO (.mk k nm i o ks):=by exact⟨h,h'⟩
theorem xW{k i o:Int}{nm:Bs}:jO (.mk k nm i o []):=kj (aP _) (by trivial)
theorem xX{k i o:Int}{nm:Bs}{x:PT}(h:jO x):jO (.mk k nm i o [x]):=kj (show 1<=2000000 by decide) (bg h)
theorem BK{k i o:Int}{nm:Bs}{x y:PT}(h:jO x)(h2:jO y):jO (.mk k nm i o [x,y]):=kj (show 2<=2000000 by decide) (by exact⟨h,bg h2⟩)
theorem Qi{k i o:Int}{nm:Bs}{x y z:PT}(h:jO x)(h2:jO y)(h3:jO z):jO (.mk k nm i o [x,y,z]):=kj (show 3<=2000000 by decide) (by exact⟨h,h2,bg h3⟩)
theorem Qj{k i o:Int}{nm:Bs}{x y z v:PT}(h:jO x)(h2:jO y)(h3:jO z)(h4:jO v):jO (.mk k nm i o [x,y,z,v]):=kj (show 4<=2000000 by decide) (by exact⟨h,h2,h3,bg h4⟩)
theorem NK{k i o:Int}{nm:Bs}{ks:List PT}{x:PT}(h:tF ks)(hl:ks.length<=1000000)(h2:jO x):jO (.mk k nm i o (ks++[x])):=kj aZ (sf h (bg h2))
def Rv.wd:Rv->Prop
 | .nd n=>jO n
 | .nb n _=>jO n
 | .ls ks=>tF ks/\ks.length<=1000000
def Sy.wpre(s:Sy):Prop:=s.l.length<=1000000/\match s with
 | .declL _ acc _ l|.blockL acc _ l|.list2L _ acc _ l|.fieldsL acc _ l=>tF acc/\acc.length+l.length<=1000000
 | .opndL _ n _ _|.link n _ _|.chainN n _ _|.chainL n _ _=>jO n
 |_=>True
def Wd{α:Type}(P:α->Ts->Prop)(x:Re α):Prop:=∀a l,x=some (some (a,l))->P a l
section
variable{α β:Type}{P:α->Ts->Prop}{l:Ts}
theorem Wd.fail:Wd P qY:=fun _ _ h=>by cases h
theorem Wd.ok{a:α}(h:P a l):Wd P (bR a l):=fun _ _ e=>by cases e;exact h
theorem Wd.bnd{Q:β->Ts->Prop}{x:Re β}{k:β->Ts->Re α}(h:Wd Q x)(hk:∀b l1,Q b l1->Wd P (k b l1)):Wd P (bnd x k):=fun a l2 he=>by
 cases hx:x with
 |none=>rw[hx]at he;cases he
 |some o=>
  cases o with
  |none=>rw[hx]at he;cases he
  |some p=>
   rw[hx]at he;exact hk p.1 p.2 (h _ _ hx) a l2 he
theorem Wd.ite{c:Prop} [Decidable c] {x y:Re α} (h1:c->Wd P x) (h2:¬c->Wd P y):Wd P (if c then x else y):=by
 grind
theorem Wd.need{s:Bs}{k:Ts->Re α}(h:aL l 0 s=true->Wd P (k (l.drop 1))):Wd P (eZ s l k):=.ite h fun _=>.fail
theorem Wd.name{k:Bs->Ts->Re α}(h:kd l 0=1->Wd P (k (tx l 0) (l.drop 1))):Wd P (pZ l k):=.ite h fun _=>.fail
end
abbrev kK(x:Re Rv):Prop:=Wd (fun v _=>v.wd) x
theorem lX{n:PT}{l:Ts}(h:jO n):kK (bR (.nd n) l):=Wd.ok (P:=fun(v:Rv) _=>v.wd) h
theorem kv{n:PT}{b:Bool}{l:Ts}(h:jO n):kK (bR (.nb n b) l):=Wd.ok (P:=fun(v:Rv) _=>v.wd) h
theorem YY{n:List PT}{l:Ts}(h:tF n/\n.length<=1000000):kK (bR (.ls n) l):=Wd.ok (P:=fun(v:Rv) _=>v.wd) h
theorem Ky:∀(n:Nat)(acc:List PT)(l:Ts),tF acc->acc.length+l.length<=1000000->Wd (fun ps l'=>tF ps/\ps.length+l'.length<=1000000) (namesL n acc l)
 |0,_,_,_,_=>fun _ _ e=>by cases e
 |n+1,acc,l,h,hl=>by
  have h7:∀s:Bs,tF (acc++[dV 7 s []]):=fun s=>sf h (bg xW)
  refine .name fun hk=>?_
  have hp:=kJ hk aT
  refine .ite (fun h1=>.ite (fun _=>.ok ⟨h7 _,?_⟩) fun _=>.fail) fun _=>.need fun h1=>Ky n _ _ (h7 _) ?_
  ·grind
  grind
theorem Pf{l:Ts}(hl:l.length<=1000000):Wd (fun ps l'=>tF ps/\ps.length+l'.length<=1000000) (uQ l):=by
 refine .need fun h=>.ite (fun _=>.ok ⟨by trivial,?_⟩) fun _=>Ky _ _ _ (by trivial) ?_
 ·grind
 grind
section
variable{m:Nat}(hW:∀s:Sy,s.meas<m->s.wpre->kK (ev s))
include hW
theorem wN(s':Sy)(h:s'.meas<m)(hp:s'.wpre){k:PT->Ts->Re Rv}(hk:∀n l1,jO n->fY s'.l l1->kK (k n l1)):kK (ndR (ev s') k):=by
 refine .bnd (Q:=fun v l1=>v.wd/\fY s'.l l1) (fun v l e=>⟨hW s' h hp v l e,(MR e).2.1⟩) fun v l1 ⟨h1,h2⟩=>?_
 cases v with
 |nd n=>exact hk n l1 h1 h2
 |nb n b=>exact fun _ _ e=>by cases e
 |ls n=>exact fun _ _ e=>by cases e
theorem wE{s:Sy}(hs:s.meas<=m)(s':Sy)(h:fY s.l s'.l)(hr:s'.rank<s.rank)(hx:s'.lax=false)(hp:s'.wpre){k:PT->Ts->Re Rv}(hk:∀n l1,jO n->iY s.l l1->kK (k n l1)):kK (ndR (ev s') k):=by
 refine .bnd (Q:=fun v l1=>v.wd/\s'.post v l1) (fun v l e=>⟨hW s' (yD hs h hr) hp v l e,MR e⟩) fun v l1 ⟨h1,h2⟩=>?_
 cases v with
 |nd n=>exact hk n l1 h1 (h.trans' (h2.2.2 hx rfl))
 |nb n b=>exact fun _ _ e=>by cases e
 |ls n=>exact fun _ _ e=>by cases e
theorem wL(s':Sy)(h:s'.meas<m)(hp:s'.wpre){k:List PT->Ts->Re Rv}(hk:∀n l1,tF n->n.length<=1000000->fY s'.l l1->kK (k n l1)):kK (lsR (ev s') k):=by
 refine .bnd (Q:=fun v l1=>v.wd/\fY s'.l l1) (fun v l e=>⟨hW s' h hp v l e,(MR e).2.1⟩) fun v l1 ⟨h1,h2⟩=>?_
 cases v with
 |ls n=>exact hk n l1 h1.1 h1.2 h2
 |nb n b=>exact fun _ _ e=>by cases e
 |nd n=>exact fun _ _ e=>by cases e
theorem wB{s:Sy}(hs:s.meas<=m)(s':Sy)(h:fY s.l s'.l)(hr:s'.rank<s.rank)(hx:s'.lax=false)(hp:s'.wpre){k:PT->Bool->Ts->Re Rv}(hk:∀n b l1,jO n->PB s.l b l1->kK (k n b l1)):kK (nbR (ev s') k):=by
 refine .bnd (Q:=fun v l1=>v.wd/\s'.post v l1) (fun v l e=>⟨hW s' (yD hs h hr) hp v l e,MR e⟩) fun v l1 ⟨h1,h2⟩=>?_
 cases v with
 |nb n b=>exact hk n b l1 h1 ⟨h.trans h2.2.1,fun hb=>h.trans' (h2.2.2 hx hb)⟩
 |nd n=>exact fun _ _ e=>by cases e
 |ls n=>exact fun _ _ e=>by cases e
theorem Om(c:Cx)(l:Ts)(h:(Sy.assign c l).meas<m)(hl:l.length<=1000000):kK (np ev c l):=wN hW (.assign c l) h ⟨hl,trivial⟩ fun n l1 hn _=>.need fun _=>lX (xX hn)
theorem xd5(s:Sy)(hs:s.meas<=m)(hp:s.wpre):kK (BR ev s):=by
 have hl:=hp.1;have ml:∀{l:Ts},iY s.l l->∀(s':Sy),fY l s'.l->s'.meas<m:=fun h s' h'=>mL hs h s' h'
 have ln:∀{l:Ts},fY s.l l->l.length<=1000000:=fun h=>aS h.len hl
 have fe:∀(c:Cx)(a:PT)(l:Ts),jO a->iY s.l l->kK (mg ev c a l):=fun c a l ha h=>by
  have third:∀(b:PT)(l2:Ts),jO b->iY s.l l2->kK (eZ mH l2 fun l3=>
   if aL l3 0 eG then ndR (ev (.body c (l3.drop 1))) fun s l5=>bR (Rv.nd (nd 30 [a,b,nd 37 [],s])) l5
   else ndR (ev (.assign c l3)) fun d l4=>eZ eG l4 fun l5=>ndR (ev (.body c l5)) fun s l6=>bR (Rv.nd (nd 30 [a,b,d,s])) l6):=fun b l2 hb h2=>
   .need fun _=>.ite (fun _=>wN hW (.body c _) (ml h2 _ (fY.trans sd sd)) ⟨ln (h2.leq.trans (fY.trans sd sd)),trivial⟩ fun x _ hx _=>lX (Qj ha hb xW hx)) fun _=>wN hW (.assign c _) (ml h2 _ sd) ⟨ln (h2.leq.trans sd),trivial⟩ fun d l4 hd h4=>.need fun _=>wN hW (.body c _) (ml h2 _ (fY.trans (fY.trans sd h4) sd)) ⟨ln (h2.leq.trans (fY.trans (fY.trans sd h4) sd)),trivial⟩ fun x _ hx _=>lX (Qj ha hb hd hx)
  exact .need fun _=>.ite (fun _=>third _ _ xW (h.trans sd)) fun _=>wN hW (.assign c _) (ml h _ sd) ⟨ln (h.leq.trans sd),trivial⟩ fun b l2 hb h2=>third b l2 hb (h.trans (fY.trans sd h2))
 have te:∀(c:Cx)(ks:List PT)(l:Ts),tF ks->ks.length<=2->iY s.l l->kK (s7 ev c ks l):=fun c ks l hk h2 h=>by
  exact .ite (fun _=>wN hW (.block c _) (ml h _ sd) ⟨ln (h.leq.trans sd),trivial⟩ fun x _ hx _=>lX (NK hk oM hx)) fun _=>.ite (fun _=>.fail) fun _=>lX (kj oM hk)
 cases s with
 |stmt c l=>
  show kK (yp ev c l);exact .ite (fun _=>wN hW (.decl c l) (yD hs .rfl (oT rfl)) ⟨hl,trivial⟩ fun n l1 hn _=>.need fun _=>lX hn) fun _=>.ite (fun _=>hW (.func true c l) (yD hs .rfl (oT rfl)) ⟨hl,trivial⟩) fun _=>.ite (fun _=>hW (.block c l) (yD hs .rfl (oT rfl)) ⟨hl,trivial⟩) fun _=>.ite (fun _=>lX xW) fun _=>
   .ite (fun _=>wB hW hs (.keyw c l) .rfl (oT rfl) rfl ⟨hl,trivial⟩ fun n b l1 hn h1=>.ite (fun _=>lX hn) fun _=>Om hW c l1 (yD hs h1.1 (oT rfl)) (ln h1.1)) fun _=>Om hW c l (yD hs .rfl (oT rfl)) hl
 |keyw c l=>
  show kK (xF ev c l);refine .ite (fun h=>?_) fun _=>.ite (fun h=>?_) fun _=>.ite (fun h=>?_) fun _=>.ite (fun h=>?_) fun _=>.ite (fun h=>?_) fun _=>.ite (fun h=>?_) fun _=>.ite (fun h=>?_) fun _=>kv xW
  ·exact wN hW (.condn c _) (sC hs (d1 h) (sB _)) ⟨ln sd,trivial⟩ fun e l1 he h1=>wN hW (.inner c l1) (mL hs (d1 h) _ h1) ⟨ln (fY.trans sd h1),trivial⟩ fun a l2 ha h2=>.ite (fun h3=>wN hW (.inner c _) (mL hs (d1 h) _ ((sO h1 h2).trans sd)) ⟨ln (fY.trans sd ((sO h1 h2).trans sd)),trivial⟩ fun x _ hx _=>kv (Qi he ha hx)) fun _=>kv (BK he ha)
  ·exact wN hW (.condn c _) (sC hs (d1 h) (sB _)) ⟨ln sd,trivial⟩ fun e l1 he h1=>wN hW (.body c l1) (mL hs (d1 h) _ h1) ⟨ln (fY.trans sd h1),trivial⟩ fun a l2 ha h2=>kv (BK he ha)
  ·exact wN hW (.loops c _) (sC hs (d1 h) (sB _)) ⟨ln sd,trivial⟩ fun e l1 he h1=>kv he
  ·exact .ite (fun _=>.ite (fun _=>kv xW) fun _=>wN hW (.assign c _) (sC hs (d1 h) (sB _)) ⟨ln sd,trivial⟩ fun n l1 hn _=>.need fun _=>kv (xX hn)) fun _=>.fail
  ·exact .ite (fun _=>.need fun _=>kv xW) fun _=>.fail
  ·exact wN hW (.assign c _) (sC hs (d1 h) (sB _)) ⟨ln sd,trivial⟩ fun n l1 hn _=>.need fun _=>kv (xX hn)
  ·exact wN hW (.tryS c _) (sC hs (d1 h) (sB _)) ⟨ln sd,trivial⟩ fun e l1 he h1=>kv he
 |condn c l=>
  show kK (nv ev c l);exact .need fun h=>wN hW (.assign c _) (sC hs (d1 h) (sB _)) ⟨ln sd,trivial⟩ fun n l1 hn _=>.need fun _=>lX hn
 |inner c l=>
  show kK (yv ev c l);exact .ite (fun _=>.fail) fun _=>hW (.stmt c l) (yD hs .rfl (oT rfl)) ⟨hl,trivial⟩
 |body c l=>exact hW (.inner { c with lp:=true } l) (yD hs .rfl (oT rfl)) ⟨hl,trivial⟩
 |loops c l=>
  show kK (sl ev c l);refine .need fun h=>?_
  have h0:=d1 h;generalize l.drop 1=l0 at h0 ⊢;exact .ite (fun _=>wN hW (.assign c _) (mL hs h0 _ sd) ⟨ln (h0.leq.trans sd),trivial⟩ fun e l1 he h1=>.need fun _=>wN hW (.body c _) (mL hs h0 _ (fY.trans (fY.trans sd h1) sd)) ⟨ln (h0.leq.trans (fY.trans (fY.trans sd h1) sd)),trivial⟩ fun x _ hx _=>lX (BK he hx)) fun _=>
   .ite (fun _=>wN hW (.decl c l0) (mL hs h0 _ .rfl) ⟨ln h0.leq,trivial⟩ fun n l1 hn h1=>fe _ _ _ hn (h0.trans h1)) fun _=>.ite (fun _=>fe _ _ _ xW h0) fun _=>wN hW (.assign c l0) (mL hs h0 _ .rfl) ⟨ln h0.leq,trivial⟩ fun n l1 hn h1=>fe _ _ _ (xX hn) (h0.trans h1)
 |tryS c l=>
  show kK (nj ev c l);exact wE hW hs (.block c l) .rfl (oT rfl) rfl ⟨hl,trivial⟩ fun a l1 ha h1=>.ite (fun _=>.ite (fun _=>.name fun _=>.need fun _=>wN hW (.block c _) (mL hs h1 _ (fY.trans (fY.trans sd sd) sd)) ⟨ln (h1.leq.trans (fY.trans (fY.trans sd sd) sd)),trivial⟩ fun b l4 hb h4=>te _ _ _ (by exact⟨ha,bg (xX hb)⟩) (nR 2) (h1.trans (fY.trans (fY.trans (fY.trans sd sd) sd) h4))) fun _=>wN hW (.block c _) (mL hs h1 _ sd) ⟨ln (h1.leq.trans sd),trivial⟩ fun b l2 hb h4=>te _ _ _ (by exact⟨ha,bg (xX hb)⟩) (nR 2) (h1.trans (fY.trans sd h4))) fun _=>te _ _ _ (bg ha) (show 1<=2 by decide) h1
 |decl c l=>exact hW (.declL (if aL l 0 qC then 25 else 24) [] c (l.drop 1)) (yD hs sd (oT rfl)) ⟨ln sd,by trivial,by show 0+(l.drop 1).length<=1000000;have:=ln (l:=l.drop 1) sd;omega⟩
 |declL k acc c l=>
  show kK (rv ev k acc c l);obtain⟨_,h2,h3⟩:=hp;change acc.length+l.length<=1000000 at h3;refine .name fun hk=>?_
  have h0:iY l (l.drop 1):=yQ (kJ hk aT) 1 (nR 1) (nR 1)
  have next:∀(d:PT)(l2:Ts),jO d->iY l l2->kK (if aL l2 0 rY then ev (.declL k (acc++[d]) c (l2.drop 1))else bR (Rv.nd (nd k (acc++[d]))) l2):=fun d l2 hd h4=>
   .ite (fun h5=>hW (.declL k _ c _) (mL hs h4 _ sd) ⟨ln (h4.leq.trans sd),sf h2 (bg hd),by have:=h4.2;grind⟩) fun _=>lX (NK h2 oM hd)
  exact .ite (fun h1=>wN hW (.assign c _) (mL hs h0 _ sd) ⟨ln (h0.leq.trans sd),trivial⟩ fun e l2 he h4=>next _ _ (xX he) (h0.trans (fY.trans sd h4))) fun _=>.ite (fun _=>.fail) fun _=>next _ _ xW h0
 |block c l=>
  show kK (ry ev c l);exact .need fun h=>hW (.blockL [] c _) (sC hs (d1 h) (sB _)) ⟨ln sd,by trivial,by show 0+(l.drop 1).length<=1000000;have:=ln (l:=l.drop 1) sd;omega⟩
 |blockL acc c l=>
  show kK (sp ev acc c l);obtain⟨_,h2,h3⟩:=hp;change acc.length+l.length<=1000000 at h3;exact .ite (fun _=>lX (kj oM h2)) fun _=>.ite (fun _=>.fail) fun _=>wE hW hs (.stmt c l) .rfl (oT rfl) rfl ⟨hl,trivial⟩ fun n l1 hn h1=>hW (.blockL _ c l1) (sC hs h1 (sB _)) ⟨ln h1.leq,sf h2 (bg hn),by have:l1.length<l.length:=h1.2;grind⟩
 |func d c l=>
  show kK (yA ev d c l);have f3:∀(o:Int)(nm:Bs)(l3:Ts),iY l l3->kK (bnd (uQ l3) fun ps l4=>ndR (ev (.block (nV o) l4)) fun b l5=>bR (Rv.nd (.mk 11 nm 0 o (ps++[b]))) l5):=fun o nm l3 h3=>
   .bnd (Q:=fun ps l'=>(tF ps/\ps.length+l'.length<=1000000)/\fY l3 l') (fun ps l' e=>⟨Pf (ln h3.leq) ps l' e,by
    obtain⟨o',ho,hP⟩:=MO l3;rw[e]at ho
    cases ho
    exact(hP _ _ rfl).1⟩) fun ps l4 ⟨h4,h5⟩=>wN hW (.block _ l4) (mL hs h3 _ h5) ⟨ln (h3.leq.trans h5),trivial⟩ fun b _ hb _=>lX (NK h4.1 oM hb)
  have f2:∀(o:Int)(l2:Ts),iY l l2->kK (if d||decide (kd l2 0=1)then pZ l2 fun nm l3=>bnd (uQ l3) fun ps l4=>ndR (ev (.block (nV o) l4)) fun b l5=>bR (Rv.nd (.mk 11 nm 0 o (ps++[b]))) l5 else bnd (uQ l2) fun ps l4=>ndR (ev (.block (nV o) l4)) fun b l5=>bR (Rv.nd (.mk 11 [] 0 o (ps++[b]))) l5):=fun o l2 h2=>
   .ite (fun _=>.name fun _=>f3 _ _ _ (h2.trans sd)) fun _=>f3 _ _ _ h2
  unfold yA;refine .need fun hf=>?_
  have h1:iY l ((if aL l 0 iW=true then l.drop 1 else l).drop 1):=by
   have:fY l (if aL l 0 iW=true then l.drop 1 else l):=by split<;>first|exact sd|exact .rfl
   exact this.trans' (d1 hf)
  generalize (if aL l 0 iW=true then l.drop 1 else l).drop 1=l1 at h1 ⊢
  refine f2 _ _ (h1.trans ?_);generalize (decide ((if aL l 0 iW=true then(4:Int)else 1)=1)&&aL l1 0 o7)=q
  cases q with
  |true=>exact sd
  |false=>exact .rfl
 |arrow c l=>
  show kK (bp ev c l);have f2:∀(o:Int)(ps:List PT)(l1:Ts),tF ps->ps.length<=1000000->iY l l1->kK (eZ qX l1 fun l2=>
   if aL l2 0 nS then ndR (ev (.block (nV o) l2)) fun b l3=>bR (Rv.nd (fR 11 o (ps++[b]))) l3
   else ndR (ev (.assign (nV o) l2)) fun n l3=>bR (Rv.nd (fR 11 o (ps++[nd 27 [nd 32 [n]]]))) l3):=fun o ps l1 h4 h5 h1=>
   .need fun _=>.ite (fun _=>wN hW (.block _ _) (mL hs h1 _ sd) ⟨ln (h1.leq.trans sd),trivial⟩ fun b _ hb _=>lX (NK h4 h5 hb)) fun _=>wN hW (.assign _ _) (mL hs h1 _ sd) ⟨ln (h1.leq.trans sd),trivial⟩ fun b _ hb _=>lX (NK h4 h5 (xX (xX hb)))
  unfold bp;have h0:fY l (if aL l 0 iW=true then l.drop 1 else l):=by split<;>first|exact sd|exact .rfl
  generalize (if aL l 0 iW=true then l.drop 1 else l)=l0 at h0 ⊢
  exact .ite (fun _=>.bnd (Q:=fun ps l'=>(tF ps/\ps.length+l'.length<=1000000)/\iY l0 l') (fun ps l' e=>⟨Pf (ln h0) ps l' e,by
    obtain⟨o',ho,hP⟩:=MO l0
    grind⟩) fun ps l1 ⟨h4,h5⟩=>f2 _ _ _ h4.1 oM (h0.trans' h5)) fun _=>.name fun hk=>f2 _ _ _ (bg xW) (show 1<=1000000 by decide) (h0.trans' (yQ (kJ hk aT) 1 (nR 1) (nR 1)))
 |assign c l=>
  show kK (zd ev c l);refine .ite (fun _=>hW (.arrow c l) (yD hs .rfl (oT rfl)) ⟨hl,trivial⟩) fun _=>.ite (fun h=>.ite (fun _=>wN hW (.assign c _) (sC hs (d1 h) (sB _)) ⟨ln sd,trivial⟩ fun n _ hn _=>lX (xX hn)) fun _=>.fail) fun _=>?_
  exact wE hW hs (.cond c l) .rfl (oT rfl) rfl ⟨hl,trivial⟩ fun n l1 hn h1=>.ite (fun _=>.ite (fun _=>lX hn) fun _=>.ite (fun _=>wN hW (.assign c _) (mL hs h1 _ sd) ⟨ln (h1.leq.trans sd),trivial⟩ fun x _ hx _=>lX (BK hn hx)) fun _=>.fail) fun _=>lX hn
 |cond c l=>
  show kK (ym ev c l);exact wE hW hs (.opnd 0 c l) .rfl (oT rfl) rfl ⟨hl,trivial⟩ fun n l1 hn h1=>.ite (fun h=>wN hW (.assign c _) (mL hs h1 _ sd) ⟨ln (h1.leq.trans sd),trivial⟩ fun a l2 ha h2=>.need fun _=>wN hW (.assign c _) (mL hs h1 _ (fY.trans (fY.trans sd h2) sd)) ⟨ln (h1.leq.trans (fY.trans (fY.trans sd h2) sd)),trivial⟩ fun b _ hb _=>lX (Qi hn ha hb)) fun _=>lX hn
 |opnd k c l=>
  show kK (yo ev k c l);have r1:(Sy.unary c l).rank<(Sy.opnd k c l).rank:=by
   show 12<if k<=6 then 26-2*k else 14
   split<;>omega
  refine .ite (fun _=>hW (.unary c l) (yD hs .rfl r1) ⟨hl,trivial⟩) fun h=>wE hW hs (.opnd (k+1) c l) .rfl ?_ rfl ⟨hl,trivial⟩ fun n l1 hn h1=>hW (.opndL k n c l1) (sC hs h1 (sB _)) ⟨ln h1.leq,hn⟩
  show(if k+1<=6 then 26-2*(k+1)else 14)<if k<=6 then 26-2*k else 14
  grind
 |opndL k n c l=>
  show kK (s5 ev k n c l);have hn:jO n:=hp.2;refine .ite (fun h=>.ite (fun _=>lX hn) fun hf=>?_) fun _=>lX hn
  have hp:0<l.length:=by
   exact Rq
  have h0:iY l (l.drop 1):=yQ hp 1 (nR 1) (nR 1);exact wN hW (.opnd (k+1) c _) (sC hs h0 (sB _)) ⟨ln sd,trivial⟩ fun x l1 hx h1=>hW (.opndL k _ c l1) (mL hs h0 _ h1) ⟨ln (fY.trans sd h1),BK hn hx⟩
 |unary c l=>
  show kK (ny ev c l);refine .ite (fun h=>?_) fun _=>hW (.postf c l) (yD hs .rfl (oT rfl)) ⟨hl,trivial⟩
  have hp:0<l.length:=by
   exact Rq
  have hm:=sC (s':=.unary c (l.drop 1)) hs (yQ hp 1 (nR 1) (nR 1)) (sB _);exact .ite (fun _=>.ite (fun _=>wN hW (.unary c _) hm ⟨ln sd,trivial⟩ fun x _ hx _=>lX (xX hx)) fun _=>.fail) fun _=>.ite (fun _=>wN hW (.unary c _) hm ⟨ln sd,trivial⟩ fun x _ hx _=>.ite (fun _=>lX (xX hx)) fun _=>.fail) fun _=>.ite (fun _=>hW (.postf c l) (yD hs .rfl (oT rfl)) ⟨hl,trivial⟩) fun _=>wN hW (.unary c _) hm ⟨ln sd,trivial⟩ fun x _ hx _=>.ite (fun _=>.fail) fun _=>lX (xX hx)
 |postf c l=>
  show kK (v8 ev c l);exact wE hW hs (.chain c l) .rfl (oT rfl) rfl ⟨hl,trivial⟩ fun n l1 hn h1=>.ite (fun _=>.ite (fun _=>lX hn) fun _=>.ite (fun _=>lX (xX hn)) fun _=>.fail) fun _=>lX hn
 |link n c l=>
  show kK (uq ev n c l);have hn:jO n:=hp.2;exact .ite (fun _=>.ite (fun _=>kv (xX hn)) fun _=>.fail) fun _=>.ite (fun h=>wN hW (.assign c _) (sC hs (d1 h) (sB _)) ⟨ln sd,trivial⟩ fun x _ hx _=>.need fun _=>kv (BK hn hx)) fun _=>kv hn
 |chain c l=>
  show kK (yx ev c l);exact .ite (fun h=>wN hW (.prim c _) (sC hs (d1 h) (sB _)) ⟨ln sd,trivial⟩ fun n l1 hn h1=>hW (.chainN n c l1) (mL hs (d1 h) _ h1) ⟨ln (fY.trans sd h1),hn⟩) fun _=>wE hW hs (.prim c l) .rfl (oT rfl) rfl ⟨hl,trivial⟩ fun n l1 hn h1=>hW (.chainL n c l1) (sC hs h1 (sB _)) ⟨ln h1.leq,hn⟩
 |chainN n c l=>
  show kK (yu ev n c l);have hn:jO n:=hp.2;exact wB hW hs (.link n c l) .rfl (oT rfl) rfl ⟨hl,hn⟩ fun x b l1 hx h1=>.ite (fun hb=>hW (.chainN x c l1) (sC hs (h1.2 hb) (sB _)) ⟨ln h1.1,hx⟩) fun _=>.need fun h=>wL hW (.list2 eG c _) (sC hs (h1.1.trans' (d1 h)) (sB _)) ⟨ln (h1.1.trans sd),trivial⟩ fun qs l2 hq vD h2=>hW (.chainL _ c l2) (mL hs (h1.1.trans' (d1 h)) _ h2) ⟨ln (h1.1.trans (fY.trans sd h2)),kj aZ (by exact⟨hx,hq⟩)⟩
 |chainL n c l=>
  show kK (yz ev n c l);have hn:jO n:=hp.2;exact wB hW hs (.link n c l) .rfl (oT rfl) rfl ⟨hl,hn⟩ fun x b l1 hx h1=>.ite (fun hb=>hW (.chainL x c l1) (sC hs (h1.2 hb) (sB _)) ⟨ln h1.1,hx⟩) fun _=>.ite (fun h=>wL hW (.list2 eG c _) (sC hs (h1.1.trans' (d1 h)) (sB _)) ⟨ln (h1.1.trans sd),trivial⟩ fun qs l2 hq vD h2=>hW (.chainL _ c l2) (mL hs (h1.1.trans' (d1 h)) _ h2) ⟨ln (h1.1.trans (fY.trans sd h2)),kj aZ (by exact⟨hn,hq⟩)⟩) fun _=>lX hn
 |list2 e c l=>
  show kK (s9 ev e c l);exact .ite (fun _=>YY ⟨by trivial,aP _⟩) fun _=>hW (.list2L e [] c l) (yD hs .rfl (oT rfl)) ⟨hl,by trivial,by show 0+l.length<=1000000;have:l.length<=1000000:=hl;omega⟩
 |list2L e acc c l=>
  show kK (sj ev e acc c l);obtain⟨_,h2,h3⟩:=hp;change acc.length+l.length<=1000000 at h3;exact wE hW hs (.assign c l) .rfl (oT rfl) rfl ⟨hl,trivial⟩ fun n l1 hn h1=>by
   have h4:l1.length<l.length:=h1.2;exact .ite (fun _=>YY ⟨sf h2 (bg hn),by grind⟩) fun _=>.need fun _=>hW (.list2L e _ c _) (mL hs h1 _ sd) ⟨ln (h1.leq.trans sd),sf h2 (bg hn),by grind⟩
 |prim c l=>
  show kK (va ev c l);exact .ite (fun _=>lX xW) fun _=>.ite (fun _=>lX xW) fun _=>.ite (fun _=>lX xW) fun _=>.ite (fun _=>lX xW) fun _=>.ite (fun _=>lX xW) fun _=>.ite (fun _=>lX xW) fun _=>.ite (fun _=>lX xW) fun _=>.ite (fun _=>lX xW) fun _=>
   .ite (fun h=>wN hW (.assign c _) (sC hs (d1 h) (sB _)) ⟨ln sd,trivial⟩ fun x _ hx _=>.need fun _=>lX hx) fun _=>.ite (fun h=>wL hW (.list2 xB c _) (sC hs (d1 h) (sB _)) ⟨ln sd,trivial⟩ fun q _ hq vD _=>lX (kj oM hq)) fun _=>.ite (fun h=>wL hW (.fields c _) (sC hs (d1 h) (sB _)) ⟨ln sd,trivial⟩ fun q _ hq vD _=>lX (kj oM hq)) fun _=>.ite (fun _=>hW (.func false c l) (yD hs .rfl (oT rfl)) ⟨hl,trivial⟩) fun _=>.fail
 |fields c l=>
  show kK (yy ev c l);exact .ite (fun _=>YY ⟨by trivial,aP _⟩) fun _=>hW (.fieldsL [] c l) (yD hs .rfl (oT rfl)) ⟨hl,by trivial,by show 0+l.length<=1000000;have:l.length<=1000000:=hl;omega⟩
 |fieldsL acc c l=>
  show kK (ze ev acc c l);obtain⟨_,h2,h3⟩:=hp;change acc.length+l.length<=1000000 at h3;exact wE hW hs (.field c l) .rfl (oT rfl) rfl ⟨hl,trivial⟩ fun n l1 hn h1=>by
   have h4:l1.length<l.length:=h1.2;exact .ite (fun _=>YY ⟨sf h2 (bg hn),by grind⟩) fun _=>.need fun _=>hW (.fieldsL _ c _) (mL hs h1 _ sd) ⟨ln (h1.leq.trans sd),sf h2 (bg hn),by grind⟩
 |field c l=>
  show kK (uz ev c l);exact .ite (fun h=>wN hW (.assign c _) (sC hs (d1 h) (sB _)) ⟨ln sd,trivial⟩ fun k l1 hk h1=>.need fun _=>.need fun _=>wN hW (.assign c _) (mL hs (d1 h) _ (fY.trans (fY.trans h1 sd) sd)) ⟨ln (fY.trans sd (fY.trans (fY.trans h1 sd) sd)),trivial⟩ fun x _ hx _=>lX (BK hk hx)) fun _=>.ite (fun _=>.fail) fun _=>.ite (fun h=>wN hW (.assign c _) (sC hs (yQ (nH h) 2 aT (nR 2)) (sB _)) ⟨ln sd,trivial⟩ fun x _ hx _=>lX (xX hx)) fun _=>.ite (fun _=>lX (xX xW)) fun _=>.fail
end
theorem Bt:∀(m:Nat)(s:Sy),s.meas<m->s.wpre->kK (ev s)
 |0,_,h,_=>by omega
 |m+1,s,h,hp=>by
  rw[qA];exact xd5 (fun s h hp=>Bt m s h hp) s oM hp
theorem Pg:∀(n:Nat)(acc:List PT)(l:Ts){ks:List PT},tF acc->acc.length+l.length<=1000000->fk n acc l=some ks->tF ks/\ks.length<=1000000
 |0,_,_,_,_,_,h=>by cases h
 |n+1,acc,l,ks,ha,hl,h=>by
  rw[fk]at h
  by_cases hn:l=[]
  ·grind
  ·rw[aE hn]at h
   split at h
   ·rename_i x l1 e;have h1:iY l l1:=(MR e).2.2 rfl rfl;have h2:=h1.2;exact Pg n _ l1 (sf ha (bg (Bt _ (.stmt jC l) (oy _) ⟨by show l.length<=1000000;omega,trivial⟩ _ _ e))) aZ h
   ·cases h
def Qh(n:Nat):UInt8:=if n<10 then UInt8.ofNat (48+n)else UInt8.ofNat (87+n)
def qB(c:UInt8):Bs:=if c=34\/c=92 then [92,c]else if c=10 then [92,110]else if c=9 then [92,116]else if c=13 then [92,114]else if c=8 then [92,98]else if c.toNat<32\/c=127 then [92,120,Qh (c.toNat/16),Qh (c.toNat%16)]else [c]
def quo(x:Bs):Bs:=34::(x.flatMap qB++[34])
section
variable(U:Nat->Bs)(Rp:Bs->Bs)
structure One(w:Bs)(k:Int)(t:Bs):Prop where
 s:kY w=(w,true)
 t:jQ U Rp w=.ok k t []
theorem One.cat{w t:Bs}{k:Int}(h:One U Rp w k t)(z:Bs):lex U Rp (w++32::z)=(⟨k,t,w.length+1+z.length⟩::(lex U Rp z).1,(lex U Rp z).2):=by
 obtain⟨u,h1,h2,h3⟩:=XV U Rp h.t;rw[cA]at h2;subst h2;have h4:=h3 (32::z) (.inr (.inl rfl));have mQ:=Ct w w true h.s
 rcases mQ.2 rfl with e|⟨c,r',e,hw,hk⟩
 ·exact absurd e h1
 ·subst e;have m4:qE (c::(r'++32::z))=0:=by
   cases r' with
   |cons p q=>exact hk
   |nil=>
    unfold qE
    grind
  have lQ:kY ((c::r')++32::z)=((c::r')++32::z,true):=zkr hw m4;rw[YC U Rp lQ h4];have h5:lex U Rp (32::z)=lex U Rp z:=zq9 U Rp (MD aT)
  grind
theorem One.lex{w t:Bs}{k:Int}(h:One U Rp w k t):lex U Rp w=([⟨k,t,w.length⟩],none):=by
 rw[YC U Rp h.s h.t,Dx U Rp Dp]
theorem Yb{l t r:Bs}{k:Int}(h:jQ U Rp l=.ok k t r)(hk:k≠4):l=t++r:=by
 cases l with
 |nil=>cases h
 |cons c l=>
  rw[jQ]at h
  split at h
  ·cases h
   simp_all
  ·split at h
   ·exact Sb
   ·split at h
    ·grind
    ·cases ho:rA (c::l)with
     |none=>rw[ho]at h;cases h
     |some w=>
      rw[ho]at h
      cases h
      exact(XC ho).2.1
end
open Go.Lib
def encL(r:Int):List UInt8:=(Utf8.encode r).data.toList
theorem K9(r:Int):(Utf8.encode r).data.toList=encL r:=rfl
theorem CA(r:Int):encL r=encodeRune r:=by
 unfold encL Utf8.encode encodeRune
 by_cases hv:Utf8.valid r=true
 ·have aj:(0<=r/\r<55296)\/(57344<=r/\r<=1114111):=by simpa [Utf8.valid]using hv
  obtain⟨n,rfl⟩:=VF (show 0<=r by omega)
  simp only[hv,fE,Int.toNat_natCast];have hb:∀z:Int,∀m:Nat,z=m->z.toNat.toUInt8=UInt8.ofNat m:=fun z m h=>by subst h;simp
  by_cases h1:n<128
  ·rw[aF h1,encodeRuneZ_one oM oM];simp
  rw[aE h1]
  by_cases h2:n<2048
  ·rw[aF h2,encodeRuneZ_two oM oM]
   grind
  rw[aE h2]
  by_cases h3:n<65536
  ·rw[aF h3,encodeRuneZ_three oM]
   grind
  rw[aE h3,encodeRuneZ_four oM oM]
  simp only[jZ,vL]
  grind
 ·have aj:r<0\/(55296<=r/\r<=57343)\/1114111<r:=by
   simp[Utf8.valid]at hv;omega
  rw[encodeRuneZ_bad aj];simp[hv,Utf8.runeError]
def uh:Nat->List UInt8->List UInt8
 |0,_=>[]
 |n+1,l=>if l=[]then []else encL (decodeL l).1++uh n (l.drop (decodeL l).2)
def gD(l:List UInt8):List UInt8:=uh l.length l
def bq(s:ByteArray):ByteArray:=⟨(gD s.data.toList).toArray⟩
theorem YD(l:List UInt8)(eA:l≠[]):1<=(decodeL l).2:=by
 have h:=decodeL_drop ⟨l.toArray⟩ 0;simp only[DM]at h;rw[h];have cf:0<(ByteArray.mk l.toArray).size:=by
  have:=aV.2 eA
  simpa [ByteArray.size]using this
 by_cases ha:((ByteArray.mk l.toArray)[0]'cf).toNat<128
 ·rw[decode_ascii _ 0 cf ha];exact nR _
 ·exact(decode_high _ 0 cf oM).2
theorem M8:∀(n m:Nat)(l:List UInt8),l.length<=n->l.length<=m->uh n l=uh m l
 |0,0,_,_,_=>rfl
 |0,m+1,l,h,_=>by
  have:l=[]:=aQ oM
  subst this;simp[uh]
 |n+1,0,l,_,h=>by
  have:l=[]:=aQ oM
  subst this;simp[uh]
 |n+1,m+1,l,hn,hm=>by
  unfold uh
  by_cases hl:l=[]
  ·simp[hl]
  ·have hw:=YD l hl;have hlen:(l.drop (decodeL l).2).length<=l.length-1:=aZ
   have hp:=aV.2 hl;rw[M8 n m _ oM oM]
theorem E0(l:List UInt8)(eA:l≠[]):gD l=encL (decodeL l).1++gD (l.drop (decodeL l).2):=by
 have hp:=aV.2 eA;have hw:=YD l eA;unfold gD;obtain⟨n,hn⟩:∃n,l.length=n+1:=⟨l.length-1,by omega⟩
 rw[hn];rw[uh,aE eA];rw[M8 n (l.drop (decodeL l).2).length _ aZ (nR _)]
theorem zmt:∀(n:Nat)(l:List UInt8),l.length<=n->(validD l=true/\gD l=l)\/(validD l=false/\l.length<(gD l).length):=by
 intro n
 induction n with
 |zero=>
  intro l hl
  have:l=[]:=aQ oM
  subst this;exact .inl ⟨rfl,rfl⟩
 |succ n ih=>
  intro l hl
  by_cases eA:l=[]
  ·grind
  have hw:=YD l eA;rw[validD_step l eA,E0 l eA];have hd:(l.drop (decodeL l).2).length=l.length-(decodeL l).2:=yR
  by_cases hv:(decodeL l).1=65533/\(decodeL l).2=1
  ·rw[aF hv];refine .inr ⟨rfl,?_⟩;rw[hv.1,hv.2];have he:(encL ((65533:Nat):Int)).length=3:=aT
   grind
  ·rw[aE hv];have he:=encode_decode l eA hv;rw[CA,he]
   rcases ih (l.drop (decodeL l).2) oM with⟨h1,h2⟩|⟨h1,h2⟩
   ·simp_all
   grind
theorem zk0{l:List UInt8}(h:validD l=true):gD l=l:=by
 rcases zmt l.length l (nR _)with⟨_,h2⟩|⟨h1,_⟩
 ·exact h2
 grind
theorem z8n(a b:ByteArray):(a++b).data.toList=a.data.toList++b.data.toList:=bw
theorem Nd(l:List UInt8)(r wd:Nat)(eA:l≠[])(h:decodeL l=(r,wd)):gD l=encL (r:Int)++gD (l.drop wd):=by
 have h3:=E0 l eA
 grind
theorem z6c(s:ByteArray)(pos r wd:Nat)(acc:ByteArray)(L:List UInt8)(hp:pos<s.size)(hd:Utf8.decode s pos=(r,wd))
  (ha:acc.data.toList++gD (s.data.toList.drop pos)=L):(acc++Utf8.encode (r:Int)).data.toList++gD (s.data.toList.drop (pos+wd))=L:=by
 have eA:s.data.toList.drop pos≠[]:=by
  simp_all
 have h1:=Nd _ r wd eA ((decodeL_drop s pos).trans hd);rw[yS]at h1;rw[z8n,K9,<- ha,h1,mE]
theorem MI(r:Int):(encL r).length<=4:=by rw[CA];unfold encodeRune;rw[tc];exact(encodeRuneZ_length r).2
theorem vk(m:Nat)(h:m<256):(UInt8.ofNat m).toNat=m:=by
 simp_all
theorem uv{z:Int}{m:Nat}(h:z=m):z.toNat.toUInt8=UInt8.ofNat m:=by subst h;simp
def yi(r:Nat):Prop:=r<55296\/(57344<=r/\r<=1114111)
theorem z4g(r:Nat)(hv:yi r)(l:List UInt8):decodeL (encL (r:Int)++l)=(r,(encL (r:Int)).length):=by
 unfold yi at hv;rw[CA];unfold encodeRune
 by_cases h1:r<128
 ·rw[encodeRuneZ_one oM oM]
  simp only[jZ,vL];rw[decodeL_N];have e:(([(r:Int).toNat.toUInt8]++l:List UInt8).getD 0 0).toNat=r:=by
   simp[Nat.mod_eq_of_lt (show r<256 by omega)]
  rw[e];simp[decodeN,h1]
 by_cases h2:r<2048
 ·rw[encodeRuneZ_two oM oM]
  simp only[jZ,vL];rw[uv (m:=192+r/64) oM,uv (m:=128+r%64) oM,decodeL_N]
  simp only[pD,sR,bc,be,qD,bW];rw[vk _ oM,vk _ oM]
  have a1:¬192+r/64<128:=dU
  have a2:(192+r/64)/32=6:=dU
  have a3:(128+r%64)/64=2:=dU
  have a4:(192+r/64)%32*64+(128+r%64)%64=r:=dU
  unfold decodeN;rw[aE a1,aF ⟨a2,by omega,a3⟩,a4,aF oM]
 by_cases h3:r<65536
 ·rw[encodeRuneZ_three oM]
  simp only[jZ,vL];rw[uv (m:=224+r/4096) oM,uv (m:=128+r/64%64) oM,uv (m:=128+r%64) oM,decodeL_N]
  simp only[pD,sR,bc,be,qD,bW];rw[vk _ oM,vk _ oM,vk _ oM]
  have a1:¬224+r/4096<128:=dU
  have a2:¬(224+r/4096)/32=6:=dU
  have a2':(224+r/4096)/16=14:=dU
  have a3:(128+r/64%64)/64=2:=dU
  have a3':(128+r%64)/64=2:=dU
  have a4:(224+r/4096)%16*4096+(128+r/64%64)%64*64+(128+r%64)%64=r:=dU
  unfold decodeN;rw[aE a1,aE (fun h=>a2 h.1),aF ⟨a2',⟨by omega,a3⟩,⟨by omega,a3'⟩⟩,a4,aF oM]
 ·rw[encodeRuneZ_four oM oM]
  simp only[jZ,vL];rw[uv (m:=240+r/262144) oM,uv (m:=128+r/4096%64) oM,uv (m:=128+r/64%64) oM,uv (m:=128+r%64) oM,decodeL_N]
  simp only[pD,sR,bc,be,qD,bW];rw[vk _ oM,vk _ oM,vk _ oM,vk _ oM]
  have a1:¬240+r/262144<128:=dU
  have a2:¬(240+r/262144)/32=6:=dU
  have a2':¬(240+r/262144)/16=14:=dU
  have a2'':(240+r/262144)/8=30:=dU
  have a3:(128+r/4096%64)/64=2:=dU
  have a3':(128+r/64%64)/64=2:=dU
  have a3'':(128+r%64)/64=2:=dU
  have a4:(240+r/262144)%8*262144+(128+r/4096%64)%64*4096+(128+r/64%64)%64*64+(128+r%64)%64=r:=dU
  unfold decodeN;rw[aE a1,aE (fun h=>a2 h.1),aE (fun h=>a2' h.1),aF ⟨a2'',⟨by omega,a3⟩,⟨by omega,a3'⟩,⟨by omega,a3''⟩⟩,a4,aF oM]
theorem zqc(r:Int):∃q:Nat,yi q/\encL r=encL (q:Int):=by
 by_cases h:(0<=r/\r<55296)\/(57344<=r/\r<=1114111)
 ·obtain⟨n,rfl⟩:=VF (show 0<=r by omega)
  exact⟨n,by unfold yi;omega,rfl⟩
 ·refine⟨65533,by unfold yi;omega,?_⟩
  rw[CA,CA];unfold encodeRune;rw[encodeRuneZ_bad oM]
  rfl
theorem Nl(l:List UInt8):(gD l).length<=4*l.length:=by
 generalize hn:l.length=n
 induction n using Nat.strongRecOn generalizing l with
 |ind n ih=>
  by_cases hl:l=[]
  ·subst hl;simp[gD,uh]
  ·rw[E0 l hl];have hw:=YD l hl;have hp:=aV.2 hl;have h4:=MI ((decodeL l).1:Int)
   have:=ih _ (show(l.drop (decodeL l).2).length<n by grind) _ rfl
   grind
inductive RV where
 |nd (n:PT)
 |ls (l:List PT)
def RV.n:RV->PT
 | .nd x=>x
 | .ls _=>.mk 0 [] 0 0 []
def RV.s:RV->List PT
 | .nd _=>[]
 | .ls l=>l
inductive RS where
 |stms
 |stmsL (acc:List PT)
 |stm
 |block
 |decls (k:Int)
 |declsL (k:Int) (acc:List PT)
 |cond
 |loop
 |tryR
 |func (d:Bool)
 |names
 |namesL (acc:List PT)
 |arrow
 |assign
 |lv (k:Nat)
 |lvL (k:Nat) (x:PT)
 |unary
 |list (e:Bs)
 |listL (e:Bs) (acc:List PT)
 |chain
 |newL (x:PT)
 |chainL (x:PT)
 |prim
 |obj
 |objL (acc:List PT)
 |field
inductive RP where
 |ret (v:RV)
 |tail (s:RS)
 |call (s:RS) (k:PT->RP)
 |calls (s:RS) (k:List PT->RP)
 |need (w:Bs) (k:RP)
 |take (w:Bs) (x y:RP)
 |at_ (n:Nat) (w:Bs) (x y:RP)
 |kdI (n:Nat) (k:Int) (x y:RP)
 |name (k:Bs->RP)
 |key (k:Bs->RP)
 |oper (fr cnt:Nat) (k:Int->RP)
 |bad (x y:RP)
 |eof (x y:RP)
 |skip (n:Nat) (k:RP)
 |ptx (n:Nat) (k:Bs->RP)
 |kdv (n:Nat) (k:Int->RP)
 |fail (k:RP)
 |ahead (x y:RP)
def nr(l:Ts):Nat->Nat->Bool
 |0,_=>false
 |m+1,n=>if kd l n=1 then(if aL l (n+1) eG then aL l (n+2) qX else if aL l (n+1) rY then nr l m (n+2)else false)else false
def ki(l:Ts):Bool:=
 if kd l (if aL l 0 iW then 1 else 0)=1 then aL l ((if aL l 0 iW then 1 else 0)+1) qX
 else if aL l (if aL l 0 iW then 1 else 0) jD then
  (if aL l ((if aL l 0 iW then 1 else 0)+1) eG then aL l ((if aL l 0 iW then 1 else 0)+2) qX else nr l (l.length+1) ((if aL l 0 iW then 1 else 0)+1))
 else false
abbrev RR:=RS->Ts->Bool->RV×Ts×Bool
def RP.run(R:RR):RP->Ts->Bool->RV×Ts×Bool
 | .ret v,l,b=>(v,l,b)
 | .tail s,l,b=>R s l b
 | .call s k,l,b=>(k (R s l b).1.n).run R (R s l b).2.1 (R s l b).2.2
 | .calls s k,l,b=>(k (R s l b).1.s).run R (R s l b).2.1 (R s l b).2.2
 | .need w k,l,b=>if b=false/\aL l 0 w=true then k.run R (l.drop 1) false else k.run R l true
 | .take w x y,l,b=>if b=false/\aL l 0 w=true then x.run R (l.drop 1) false else y.run R l b
 | .at_ n w x y,l,b=>if aL l n w=true then x.run R l b else y.run R l b
 | .kdI n k x y,l,b=>if kd l n=k then x.run R l b else y.run R l b
 | .name k,l,b=>if b=false/\kd l 0=1 then(k (tx l 0)).run R (l.drop 1) false else(k []).run R l true
 | .key k,l,b=>if b=false/\(kd l 0=1\/kd l 0=2)then(k (tx l 0)).run R (l.drop 1) false else(k []).run R l true
 | .oper fr cnt k,l,b=>if b=false/\(kd l 0=5\/kd l 0=2)/\gN (tx l 0) fr cnt≠0 then(k (gN (tx l 0) fr cnt)).run R (l.drop 1) false else(k 0).run R l b
 | .bad x y,l,b=>if b=true then x.run R l b else y.run R l b
 | .eof x y,l,b=>if l=[]then x.run R l b else y.run R l b
 | .skip n k,l,b=>k.run R (l.drop n) b
 | .ptx n k,l,b=>(k (tx l n)).run R l b
 | .kdv n k,l,b=>(k (kd l n)).run R l b
 | .fail k,l,b=>k.run R l true
 | .ahead x y,l,b=>if ki l=true then x.run R l b else y.run R l b
def RP.isFn(x y:RP):RP:=.at_ 0 vA x (.at_ 0 iW (.at_ 1 vA x y) y)
def iR(n:PT):RP:=.ret (.nd n)
def rZ:RP:=iR (nd 0 [])
def YQ(acc:List PT):RP:=.bad (.ret (.ls acc)) (.eof (.ret (.ls acc)) (.at_ 0 uC (.ret (.ls acc)) (.call .stm fun x=>.tail (.stmsL (acc++[x])))))
def NB(k:Int)(acc:List PT)(d:PT):RP:=.take rY (.tail (.declsL k (acc++[d]))) (iR (nd k (acc++[d])))
def VL(k:Int)(acc:List PT):RP:=.name fun s=>.take Ew (.call .assign fun e=>NB k acc (dV 40 s [e])) (NB k acc (dV 40 s []))
def YL:RP:=
 .take rq (.call .assign fun x=>.need mH (iR (nd 35 [x])))
 (.take t7 (.tail .tryR)
 (.call .assign fun x=>.need mH (iR (nd 26 [x]))))
def ye:RP:=
 .at_ 0 nS (.tail .block)
 (.take mH (iR (nd 37 []))
 (.take ol (.tail .cond)
 (.take ru (.need jD (.call .assign fun c=>.need eG (.call .stm fun x=>iR (nd 29 [c,x]))))
 (.take sy (.tail .loop)
 (.take s8 (.at_ 0 mH (.need mH (iR (nd 32 []))) (.call .assign fun e=>.need mH (iR (nd 32 [e]))))
 (.take nu (.need mH (iR (nd 33 [])))
 (.take kr (.need mH (iR (nd 34 [])))
 YL)))))))
def sx:RP:=
 .bad rZ
 (.take bi (.call (.decls 24) fun n=>.need mH (iR n))
 (.take qC (.call (.decls 25) fun n=>.need mH (iR n))
 (.isFn (.tail (.func true)) ye)))
def Et:RP:=.need jD (.call .assign fun c=>.need eG (.call .stm fun x=>.take LC (.call .stm fun y=>iR (nd 28 [c,x,y])) (iR (nd 28 [c,x]))))
def NC(f s t:PT):RP:=.need eG (.call .stm fun x=>iR (nd 30 [f,s,t,x]))
def GP(f s:PT):RP:=.need mH (.at_ 0 eG (NC f s (nd 37 [])) (.call .assign fun t=>NC f s t))
def BE(f:PT):RP:=.need mH (.at_ 0 mH (GP f (nd 37 [])) (.call .assign fun s=>GP f s))
def YJ(k:Int):RP:=.skip 1 (.call (.decls k) fun f=>BE f)
def Eu(q:Int):RP:=.ptx 1 fun s=>.skip 3 (.call .assign fun e=>.need eG (.call .stm fun x=>iR (.mk 31 s 0 q [e,x])))
def ND(k q:Int):RP:=.kdI 1 1 (.at_ 2 vj (Eu q) (YJ k)) (YJ k)
def Qa:RP:=.at_ 0 mH (BE (nd 37 [])) (.call .assign fun x=>BE (nd 26 [x]))
def Ed:RP:=.at_ 0 bi (ND 24 1) (.at_ 0 qC (ND 25 2) Qa)
def NF(ks:List PT):RP:=.take Np (.call .block fun f=>iR (nd 36 (ks++[f]))) (iR (nd 36 ks))
def vo:RP:=.call .block fun a=>.take Mf (.take jD (.name fun s=>.need eG (.call .block fun b=>NF [a,dV 41 s [b]])) (.call .block fun b=>NF [a,nd 41 [b]])) (NF [a])
def NT(o:Int)(s:Bs):RP:=.calls .names fun ps=>.call .block fun b=>iR (.mk 11 s 0 o (ps++[b]))
def IV(d:Bool)(o:Int):RP:=if d=true then .name fun s=>NT o s else .kdI 0 1 (.name fun s=>NT o s) (NT o [])
def NE(d:Bool):RP:=.take iW (.need vA (IV d 4)) (.need vA (.take o7 (IV d 3) (IV d 1)))
def BT(acc:List PT):RP:=.bad (.need eG (.ret (.ls acc))) (.name fun s=>.take rY (.tail (.namesL (acc++[dV 7 s []]))) (.need eG (.ret (.ls (acc++[dV 7 s []])))))
def YI(o:Int)(ps:List PT):RP:=.need qX (.at_ 0 nS (.call .block fun b=>iR (fR 11 o (ps++[b]))) (.call .assign fun x=>iR (fR 11 o (ps++[nd 27 [nd 32 [x]]]))))
def GO(o:Int):RP:=.at_ 0 jD (.calls .names fun ps=>YI o ps) (.name fun s=>YI o [dV 7 s []])
def vq(x:PT):RP:=.oper 24 4 fun n=>if n=0 then iR x else .call .assign fun y=>iR (fR 16 n [x,y])
def HO:RP:=.bad rZ (.ahead (.tail .arrow) (.take Cd (.call .assign fun x=>iR (nd 22 [x])) (.call (.lv 0) fun x=>.take Cc (.call .assign fun y=>.need yq (.call .assign fun z=>vq (nd 15 [x,y,z]))) (vq x))))
def cx(k:Nat)(x:PT)(n:Int):RP:=if n=0 then iR x else .call (.lv (k+1)) fun y=>.tail (.lvL k (fR (if k<2 then 14 else 13) n [x,y]))
def mj(k:Nat):RP:=if 6<=k then .tail .unary else .call (.lv (k+1)) fun x=>.tail (.lvL k x)
def VO:RP:=.bad rZ (.take LF (.call .unary fun x=>iR (nd 23 [x])) (.oper 1 5 fun n=>if n=0 then(.oper 28 2 fun m=>if m=0 then(.call .chain fun x=>.oper 28 2 fun q=>if q=0 then iR x else iR (fR 17 (q+100) [x]))else .call .unary fun x=>iR (fR 17 m [x]))else .call .unary fun x=>iR (fR 12 n [x])))
def BF(e:Bs)(acc:List PT):RP:=.bad (.need e (.ret (.ls acc))) (.call .assign fun x=>.take rY (.tail (.listL e (acc++[x]))) (.need e (.ret (.ls (acc++[x])))))
def DH(x:PT):RP:=.need jD (.calls (.list eG) fun as=>.tail (.chainL (nd 21 (x::as))))
def GQ(x:PT):RP:=.bad (DH x) (.at_ 0 jD (DH x) (.take CT (.key fun s=>.tail (.newL (dV 18 s [x]))) (.need uD (.call .assign fun i=>.need xB (.tail (.newL (nd 19 [x,i])))))))
def BV(x:PT):RP:=.bad (iR x) (.take CT (.key fun s=>.tail (.chainL (dV 18 s [x]))) (.take uD (.call .assign fun i=>.need xB (.tail (.chainL (nd 19 [x,i])))) (.take jD (.calls (.list eG) fun as=>.tail (.chainL (nd 20 (x::as)))) (iR x))))
def O7:RP:=
 .take XF (iR (nd 1 [])) (.take WA (iR (nd 2 [])) (.take WC (iR (nd 3 [])) (.take XE (iR (nd 4 [])) (.take WB (iR (nd 8 []))
 (.take jD (.call .assign fun x=>.need eG (iR x)) (.take uD (.calls (.list xB) fun ks=>iR (nd 9 ks)) (.take nS (.tail .obj) (.isFn (.tail (.func false)) (.fail rZ)))))))))
def YK:RP:=
 .bad (.fail rZ) (.eof (.fail rZ)
 (.kdI 0 3 (.ptx 0 fun s=>.skip 1 (iR (.mk 5 [] (lC s:Nat) 0 [])))
 (.kdI 0 4 (.ptx 0 fun s=>.skip 1 (iR (dV 6 s [])))
 (.kdI 0 1 (.ptx 0 fun s=>.skip 1 (iR (dV 7 s []))) O7))))
def vp(acc:List PT):RP:=.bad (.need uC (iR (nd 10 acc))) (.call .field fun x=>.take rY (.tail (.objL (acc++[x]))) (.need uC (iR (nd 10 (acc++[x])))))
def VZ(s:Bs):RP:=.need yq (.call .assign fun v=>iR (dV 38 s [v]))
def VN:RP:=.take uD (.call .assign fun k=>.need xB (.need yq (.call .assign fun v=>iR (nd 39 [k,v]))))
 (.eof (.fail rZ) (.kdI 0 5 (.fail rZ) (.kdv 0 fun k=>.ptx 0 fun s=>.skip 1 (if k=1 then .at_ 0 yq (VZ s) (iR (dV 38 s [dV 7 s []]))else VZ s))))
def gr:RS->RP
 | .stms=>.tail (.stmsL [])
 | .stmsL acc=>YQ acc
 | .stm=>sx
 | .block=>.need nS (.calls .stms fun ks=>.need uC (iR (nd 27 ks)))
 | .decls k=>.tail (.declsL k [])
 | .declsL k acc=>VL k acc
 | .cond=>Et
 | .loop=>.need jD Ed
 | .tryR=>vo
 | .func d=>NE d
 | .names=>.need jD (.take eG (.ret (.ls [])) (.tail (.namesL [])))
 | .namesL acc=>BT acc
 | .arrow=>.take iW (GO 5) (GO 2)
 | .assign=>HO
 | .lv k=>mj k
 | .lvL k x=>.oper (CU k).1 (CU k).2 fun n=>cx k x n
 | .unary=>VO
 | .list e=>.take e (.ret (.ls [])) (.tail (.listL e []))
 | .listL e acc=>BF e acc
 | .chain=>.take YT (.call .prim fun x=>.tail (.newL x)) (.call .prim fun x=>.tail (.chainL x))
 | .newL x=>GQ x
 | .chainL x=>BV x
 | .prim=>YK
 | .obj=>.take uC (iR (nd 10 [])) (.tail (.objL []))
 | .objL acc=>vp acc
 | .field=>VN
def bN:Nat->RR
 |0,_,l,_=>(.nd (nd 0 []),l,true)
 |n+1,s,l,b=>(gr s).run (bN n) l b
theorem rL(n:Nat)(s:RS)(l:Ts)(b:Bool):bN (n+1) s l b=(gr s).run (bN n) l b:=rfl
def RS.rank:RS->Nat
 | .stms=>32
 | .stmsL _=>31
 | .stm=>30
 | .block=>1
 | .decls _=>4
 | .declsL _ _=>3
 | .cond=>1
 | .loop=>1
 | .tryR=>2
 | .func _=>2
 | .names=>2
 | .namesL _=>1
 | .arrow=>3
 | .assign=>26
 | .lv k=>24-2*k
 | .lvL _ _=>3
 | .unary=>10
 | .list _=>29
 | .listL _ _=>28
 | .chain=>8
 | .newL _=>4
 | .chainL _=>3
 | .prim=>6
 | .obj=>8
 | .objL _=>7
 | .field=>5
def RS.brk:RS->Nat
 | .stms=>2
 | .block=>3
 | .decls _=>1
 | .names=>1
 | .list _=>1
 | .newL _=>2
 |_=>0
def rμ(l:Ts)(b:Bool):Nat:=if b=true then 0 else l.length+1
def cG(s:RS)(l:Ts)(b:Bool):Nat:=if b=true then s.brk else 64*(l.length+1)+s.rank
theorem t8(l:Ts):rμ l true=0:=rfl
theorem tI(l:Ts):rμ l false=l.length+1:=rfl
theorem xa1:∀s:RS,s.rank<64:=fun s=>by cases s<;>simp only[RS.rank]<;>omega
theorem LD:∀s:RS,s.brk<64:=fun s=>by cases s<;>simp only[RS.brk]<;>omega
theorem z6h{s s':RS}{l l':Ts}{b':Bool}(h:rμ l' b'<rμ l false):cG s' l' b'<cG s l false:=by
 have h1:=xa1 s';exact Tg
theorem WR{s s':RS}{l l':Ts}{b':Bool}(h:rμ l' b'<=rμ l false)(hr:s'.rank<s.rank):cG s' l' b'<cG s l false:=by
 exact Tg
structure nW(l:Ts)(b:Bool)(o:RV×Ts×Bool):Prop where
 s:o.2.1 <:+ l
 b:b=true->o.2.2=true
theorem nW.drop{l:Ts}{b:Bool}{o:RV×Ts×Bool}(k:Nat)(h:nW (l.drop k) b o):nW l b o:=⟨h.s.trans (cW _ _),h.b⟩
theorem nW.of{l:Ts}{b:Bool}{o:RV×Ts×Bool}(h:nW l true o):nW l b o:=⟨h.s,fun _=>h.b rfl⟩
theorem yC{R:RR}(hR:∀s l b,nW l b (R s l b)):∀(p:RP)(l:Ts)(b:Bool),nW l b (p.run R l b)
 | .ret v,l,b=>⟨na _,id⟩
 | .tail s,l,b=>hR s l b
 | .call s k,l,b=>by
  have h1:=hR s l b;have h2:=yC hR (k (R s l b).1.n) (R s l b).2.1 (R s l b).2.2;exact⟨h2.s.trans h1.s,fun h=>h2.b (h1.b h)⟩
 | .calls s k,l,b=>by
  have h1:=hR s l b;have h2:=yC hR (k (R s l b).1.s) (R s l b).2.1 (R s l b).2.2;exact⟨h2.s.trans h1.s,fun h=>h2.b (h1.b h)⟩
 | .need w k,l,b=>by
  rw[RP.run]
  split
  ·rename_i h
   have:=(yC hR k (l.drop 1) false).drop 1
   exact A6
  ·exact(yC hR k l true).of
 | .take w x y,l,b=>by
  rw[RP.run]
  split
  ·rename_i h
   have:=(yC hR x (l.drop 1) false).drop 1
   exact A6
  ·exact yC hR y l b
 | .at_ n w x y,l,b=>by
  exact RQ
 | .kdI n k x y,l,b=>by
  exact RQ
 | .name k,l,b=>by
  exact Rj
 | .key k,l,b=>by
  exact Rj
 | .oper fr cnt k,l,b=>by
  rw[RP.run]
  split
  ·rename_i h
   have:=(yC hR (k (gN (tx l 0) fr cnt)) (l.drop 1) false).drop 1
   exact A6
  ·exact yC hR (k 0) l b
 | .bad x y,l,b=>by
  exact RQ
 | .eof x y,l,b=>by
  exact RQ
 | .skip n k,l,b=>(yC hR k (l.drop n) b).drop n
 | .ptx n k,l,b=>yC hR (k (tx l n)) l b
 | .kdv n k,l,b=>yC hR (k (kd l n)) l b
 | .fail k,l,b=>(yC hR k l true).of
 | .ahead x y,l,b=>by
  exact RQ
theorem nC:∀(n:Nat)(s:RS)(l:Ts)(b:Bool),nW l b (bN n s l b)
 |0,s,l,b=>⟨na _,fun _=>rfl⟩
 |n+1,s,l,b=>yC (nC n) (gr s) l b
theorem nW.μ{l:Ts}{b:Bool}{o:RV×Ts×Bool}(h:nW l b o):rμ o.2.1 o.2.2<=rμ l b:=by
 have h1:=lN h.s;have h2:=h.b;unfold rμ
 by_cases e:o.2.2=true
 ·rw[aF e];omega
 ·rw[aE e,aE fun hb=>e (h2 hb)];omega
def tG(R:RR)(p:RP)(l:Ts)(b:Bool):Prop:=rμ (p.run R l b).2.1 (p.run R l b).2.2<rμ l b\/(p.run R l b).2.2=true
theorem Og{R:RR}(hR:∀s l b,nW l b (R s l b)){p:RP}{l:Ts}{w:Bs}(h:aL l 0 w=true):rμ (p.run R (l.drop 1) false).2.1 (p.run R (l.drop 1) false).2.2<rμ l false:=by
 have:=(yC hR p (l.drop 1) false).μ
 have h1:=nH h;rw[tI,yR]at this;rw[tI];omega
theorem HR{R:RR}(hR:∀s l b,nW l b (R s l b)){w:Bs}{k:RP}{l:Ts}{b:Bool}:tG R (.need w k) l b:=by
 unfold tG;rw[RP.run]
 split
 ·rename_i h;rw[h.1];exact .inl (Og hR h.2)
 ·exact .inr ((yC hR k l true).b rfl)
theorem wR{R:RR}(hR:∀s l b,nW l b (R s l b)){w:Bs}{x y:RP}{l:Ts}{b:Bool}(h:tG R y l b):tG R (.take w x y) l b:=by
 unfold tG at h ⊢;rw[RP.run]
 split
 ·rename_i h;rw[h.1];exact .inl (Og hR h.2)
 ·exact h
theorem LN{R:RR}{n:Nat}{w:Bs}{x y:RP}{l:Ts}{b:Bool}(h:tG R x l b)(h':tG R y l b):tG R (.at_ n w x y) l b:=by
 unfold tG at h h' ⊢;rw[RP.run]
 split
 ·exact h
 ·exact h'
theorem K8{R:RR}(hR:∀s l b,nW l b (R s l b)){s:RS}{k:PT->RP}{l:Ts}{b:Bool}(h:∀x l' b',tG R (k x) l' b'):tG R (.call s k) l b:=by
 have h1:=h (R s l b).1.n (R s l b).2.1 (R s l b).2.2;have h2:=(hR s l b).μ;unfold tG at h1 ⊢;rw[RP.run]
 rcases h1 with h1|h1
 ·exact .inl oM
 ·exact .inr h1
theorem WK{n:Nat}{s:RS}{l:Ts}{b:Bool}(h:tG (bN n) (gr s) l b):tG (bN (n+1)) (.tail s) l b:=h
theorem z5p(n:Nat)(l:Ts)(b:Bool):rμ (bN (n+2) .stm l b).2.1 (bN (n+2) .stm l b).2.2<rμ l b\/(bN (n+2) .stm l b).2.2=true:=by
 have hR:=nC (n+1);have hN:∀{w:Bs}{k:RP}{l:Ts}{b:Bool},tG (bN (n+1)) (.need w k) l b:=fun{w k l b}=>HR hR
 have hE:∀l b,tG (bN (n+1)) (.call .assign fun x=>.need mH (iR (nd 26 [x]))) l b:=fun l b=>K8 hR fun _ _ _=>hN
 have h3:∀l b,tG (bN (n+1)) YL l b:=fun l b=>wR hR (wR hR (hE l b))
 have h2:∀l b,tG (bN (n+1)) ye l b:=fun l b=>LN (WK (HR (nC n))) (wR hR (wR hR (wR hR (wR hR (wR hR (wR hR (wR hR (h3 l b))))))))
 have hF:∀l b,tG (bN (n+1)) (.tail (.func true)) l b:=fun l b=>WK (wR (nC n) (HR (nC n)))
 show tG (bN (n+1)) sx l b;exact Ss
end Go.Proofs.YtjkcdcloomkooaaGreatDoor
