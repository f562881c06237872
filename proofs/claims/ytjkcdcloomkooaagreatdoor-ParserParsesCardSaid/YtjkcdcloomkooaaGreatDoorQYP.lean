/- Own work: walks and laws of the parser and its reference. -/
import Derived.Test.YtjkcdcloomkooaaGreatDoorQYA
import Derived.Lib.MapLaws
import Derived.Lib.ValidLaws
import Derived.Lib.TrimUEq
import Derived.Laws.Runes
import Derived.Laws.RangeAny
set_option linter.unusedVariables false
set_option linter.unusedSimpArgs false
set_option linter.unusedSectionVars false
set_option maxHeartbeats 4000000
set_option maxRecDepth 100000
namespace Go.Proofs.YtjkcdcloomkooaaGreatDoor
abbrev Bs:=List UInt8
def oA(c:UInt8):Bool:=decide (97<=c/\c<=122)||(decide (65<=c/\c<=90)||(c==95||c==36))
def eO(c:UInt8):Bool:=decide (48<=c/\c<=57)
def mP(c:UInt8):Bool:=oA c||eO c
def wA(c:UInt8):Bool:=c==32||(c==9||(c==10||c==13))
def oS:Bs->Bs
 |[]=>[]
 |c::r=>if c=10 then c::r else oS r
def xP:Bs->Option Bs
 |[]=>none
 |c::r=>if c=42/\r.head?=some 47 then some r.tail else xP r
theorem JU:∀l:Bs,(oS l).length<=l.length
 |[]=>nR _
 |c::r=>by
  unfold oS
  split
  ·exact nR _
  ·have:=JU r
   grind
theorem JT:∀{l r:Bs},xP l=some r->r.length<=l.length
 |[],r,h=>by cases h
 |c::l,r,h=>by
  unfold xP at h
  split at h
  ·grind
  ·have:=JT h
   grind
def pF(l:Bs):Nat:=if l.take 2=[47,47]then 1 else if l.take 2=[47,42]then 2 else 0
def aj:Nat->Bs->Bs×Bool
 |0,l=>(l,true)
 |_+1,[]=>([],true)
 |n+1,c::r=>if wA c then aj n r else if pF (c::r)=1 then aj n (oS (r.drop 1))else if pF (c::r)=2 then(match xP (r.drop 1)with
  |none=>(c::r,false)
  |some r'=>aj n r')else(c::r,true)
theorem OV:∀(n m:Nat)(l:Bs),l.length<=n->l.length<=m->aj n l=aj m l
 |0,m,l,h,_=>by
  have:l=[]:=aQ oM
  subst this
  cases m<;>rfl
 |n+1,0,l,_,h=>by
  have:l=[]:=aQ oM
  subst this;rfl
 |n+1,m+1,[],_,_=>rfl
 |n+1,m+1,c::r,h,h'=>by
  simp only[qQ]at h h';unfold aj
  split
  ·exact OV n m r oM oM
  ·split
   ·have h1:=JU (r.drop 1);have h2:(r.drop 1).length<=r.length:=dL
    exact OV n m _ oM oM
   ·split
    ·split
     ·rfl
     ·rename_i r' hr;have h1:=JT hr;have h2:(r.drop 1).length<=r.length:=dL
      exact OV n m _ oM oM
    ·rfl
def lA(l:Bs):Bs×Bool:=aj l.length l
theorem G7:lA []=([],true):=rfl
theorem OS{c:UInt8}{r:Bs}(h:wA c=true):lA (c::r)=lA r:=by
 show aj (r.length+1) (c::r)=aj r.length r;rw[aj,aF h]
theorem OG{c:UInt8}{r:Bs}(h:wA c=false)(h1:pF (c::r)=1):lA (c::r)=lA (oS (r.drop 1)):=by
 show aj (r.length+1) (c::r)=_;rw[aj,aD LQ,aF h1]
 have h3:=JU (r.drop 1);have h2:(r.drop 1).length<=r.length:=dL
 exact OV _ _ _ oM (nR _)
theorem OE{c:UInt8}{r r':Bs}(h:wA c=false)(h1:pF (c::r)=2)(h2:xP (r.drop 1)=some r'):lA (c::r)=lA r':=by
 show aj (r.length+1) (c::r)=_;rw[aj,aD LQ,aD (by rw[h1];decide),aF h1,h2]
 have h3:=JT h2;have h4:(r.drop 1).length<=r.length:=dL
 exact OV _ _ _ oM (nR _)
theorem ON{c:UInt8}{r:Bs}(h:wA c=false)(h1:pF (c::r)=2)(h2:xP (r.drop 1)=none):lA (c::r)=(c::r,false):=by
 show aj (r.length+1) (c::r)=_;rw[aj,aD LQ,aD (by rw[h1];decide),aF h1,h2]
theorem DS{c:UInt8}{r:Bs}(h:wA c=false)(h1:pF (c::r)=0):lA (c::r)=(c::r,true):=by
 show aj (r.length+1) (c::r)=_;rw[aj,aD LQ,aD (by rw[h1];decide),aD (by rw[h1];decide)]
theorem Ob(l:Bs):pF l=0\/pF l=1\/pF l=2:=by
 unfold pF
 grind
theorem A7{motive:Bs->Prop}(nil:motive [])(ws:∀c r,wA c=true->motive r->motive (c::r))
  (ln:∀c r,wA c=false->pF (c::r)=1->motive (oS (r.drop 1))->motive (c::r))
  (cm:∀c r r',wA c=false->pF (c::r)=2->xP (r.drop 1)=some r'->motive r'->motive (c::r))
  (opn:∀c r,wA c=false->pF (c::r)=2->xP (r.drop 1)=none->motive (c::r))
  (stop:∀c r,wA c=false->pF (c::r)=0->motive (c::r)):∀(n:Nat)(l:Bs),l.length<=n->motive l
 |0,l,h=>by
  grind
 |n+1,[],_=>nil
 |n+1,c::r,h=>by
  simp only[qQ]at h;have h4:(r.drop 1).length<=r.length:=dL
  have rec_:=A7 nil ws ln cm opn stop n
  cases hw:wA c with
  |true=>grind
  |false=>
   rcases Ob (c::r)with hk|hk|hk
   ·exact stop c r hw hk
   ·have:=JU (r.drop 1)
    grind
   ·cases hd:xP (r.drop 1)with
    |none=>exact opn c r hw hk hd
    |some r'=>
     have:=JT hd
     grind
theorem Qg:∀(l:Bs),oS l≠[]->∃u,l=u++oS l/\∀r',oS (u++10::r')=10::r'
 |[],h=>absurd rfl h
 |c::r,h=>by
  by_cases hc:c=10
  ·refine⟨[],?_,fun r'=>?_⟩
   ·unfold oS;rw[aF hc];rfl
   ·show oS (10::r')=_;unfold oS;rw[aF rfl]
  ·unfold oS at h ⊢;rw[aD hc]at h ⊢;obtain⟨u,h1,h2⟩:=Qg r h
   grind
theorem Qf:∀{l r:Bs},xP l=some r->∃u,l=u++r/\∀r',xP (u++r')=some r'
 |[],r,h=>by cases h
 |c::l,r,h=>by
  unfold xP at h
  split at h
  ·rename_i hc
   cases h
   cases l with
   |nil=>simp at hc
   |cons d l=>
    simp only[List.head?_cons,bQ]at hc;obtain⟨rfl,rfl⟩:=hc;exact⟨[42,47],rfl,fun r'=>by
     show xP (42::47::r')=_;rfl⟩
  ·rename_i hc;obtain⟨u,h1,h2⟩:=Qf h
   cases u with
   |nil=>
    have h3:=h2 []
    cases h3
   |cons d u=>
    refine⟨c::d::u,by rw[h1];rfl,fun r'=>?_⟩
    show xP (c::(d::u++r'))=_;rw[xP,aD (by
     grind)]
    exact h2 r'
theorem Qk{c:UInt8}{r:Bs}{k:Nat}(h:pF (c::r)=k)(hk:k≠0):∃d r',r=d::r':=by
 cases r with
 |nil=>
  unfold pF at h
  grind
 |cons d r'=>exact⟨d,r',rfl⟩
theorem DG:∀l:Bs,(lA l).1.length<=l.length:=by
 intro l;refine A7 (motive:=fun l=>(lA l).1.length<=l.length) ?_ ?_ ?_ ?_ ?_ ?_ l.length l (nR _)
 ·exact nR _
 ·intro c r hw ih;rw[OS hw,qQ];omega
 ·intro c r hw hk ih;rw[OG hw hk,qQ]
  have:=JU (r.drop 1)
  grind
 ·intro c r r' hw hk hd ih;rw[OE hw hk hd,qQ]
  have:=JT hd
  grind
 ·intro c r hw hk hd;rw[ON hw hk hd];exact nR _
 ·intro c r hw hk;rw[DS hw hk];exact nR _
theorem Ez:∀(l:Bs)(r:Bs)(b:Bool),lA l=(r,b)->(b=false->r.take 2=[47,42])/\(b=true->r=[]\/∃c r',r=c::r'/\wA c=false/\pF (c::r')=0):=by
 intro l;refine A7 (motive:=fun l=>∀(r:Bs)(b:Bool),lA l=(r,b)->(b=false->r.take 2=[47,42])/\(b=true->r=[]\/∃c r',r=c::r'/\wA c=false/\pF (c::r')=0)) ?_ ?_ ?_ ?_ ?_ ?_ l.length l (nR _)
 ·intro r b h;rw[G7]at h
  cases h
  exact⟨fun h=>by(cases h),fun _=>.inl rfl⟩
 ·intro c l hw ih r b h;rw[OS hw]at h;exact ih r b h
 ·intro c l hw hk ih r b h;rw[OG hw hk]at h;exact ih r b h
 ·intro c l l' hw hk hd ih r b h;rw[OE hw hk hd]at h;exact ih r b h
 ·intro c l hw hk hd r b h;rw[ON hw hk hd]at h
  cases h
  refine⟨fun _=>?_,fun h=>by(cases h)⟩
  unfold pF at hk
  grind
 ·intro c l hw hk r b h;rw[DS hw hk]at h
  grind
theorem zhv{c:UInt8}{r:Bs}(h:wA c=false)(h1:pF (c::r)=0):lA (c::r)=(c::r,true):=DS h h1
def Bi:List Bs:=[[97,115,121,110,99],[97,119,97,105,116],[98,114,101,97,107],[99,111,110,115,116],[99,111,110,116,105,110,117,101],[100,101,108,101,116,101],[101,108,115,101],[102,97,108,115,101],[102,105,110,97,108,108,121],[102,111,114],[102,117,110,99,116,105,111,110],[105,102],[105,110],[105,110,115,116,97,110,99,101,111,102],[108,101,116],[110,101,119],[110,117,108,108],[111,102],[114,101,116,117,114,110],[116,104,105,115],[116,104,114,111,119],[116,114,117,101],[116,114,121],[99,97,116,99,104],[116,121,112,101,111,102],[117,110,100,101,102,105,110,101,100],[119,104,105,108,101],[121,105,101,108,100]]
def yV:List Bs:=[[61,61,61],[33,61,61]]
def dm:List Bs:=[[43,61],[45,61],[42,61],[61,61],[33,61],[60,61],[62,61],[38,38],[124,124],[63,63],[61,62],[43,43],[45,45]]
def pw:List Bs:=[[123],[125],[40],[41],[91],[93],[59],[44],[46],[63],[58],[61],[43],[45],[42],[47],[37],[33],[60],[62]]
def mq(w:Bs):Bool:=Bi.any (· == w)
def qC(l:Bs):Option Bs:=if yV.any (· == l.take 3)then some (l.take 3)else if dm.any (· == l.take 2)then some (l.take 2)else if pw.any (· == l.take 1)then some (l.take 1)else none
def sL(c:UInt8):Option Nat:=if 48<=c/\c<=57 then some (c.toNat-48)else if 97<=c/\c<=102 then some (c.toNat-87)else if 65<=c/\c<=70 then some (c.toNat-55)else none
def iR(c:UInt8):Bool:=(sL c).isSome
def pV(l:Bs):Nat:=l.foldl (fun n c=>16*n+(sL c).getD 0) 0
def lE(l:Bs):Nat:=l.foldl (fun n c=>10*n+(c.toNat-48)) 0
def oh(n:Nat):Bool:=decide (n<=1114111)&&!(decide (55296<=n)&&decide (n<=57343))
def AR(c:UInt8):Option UInt8:=if c=110 then some 10 else if c=116 then some 9 else if c=114 then some 13 else if c=98 then some 8 else if c=92\/c=34\/c=39 then some c else none
section
variable(U:Nat->Bs)(Rp:Bs->Bs)
def xD:Bs->Option (Bs×Bs)
 |[]=>none
 |c::r=>if c=123 then(match r.dropWhile iR with
  |[]=>none
  |d::r'=>if d=125/\1<=(r.takeWhile iR).length/\(r.takeWhile iR).length<=6/\oh (pV (r.takeWhile iR))=true then some (U (pV (r.takeWhile iR)),r')else none)else none
def m5:Bs->Option (Bs×Bs)
 |a::b::r=>(match sL a,sL b with
  |some x,some y=>some (U (16*x+y),r)
  |_,_=>none)
 |_=>none
def jV:Bs->Option (Bs×Bs)
 |[]=>none
 |c::r=>(match AR c with
  |some d=>some ([d],r)
  |none=>if c=48 then(if r.head?.any eO then none else some ([0],r))else if c=120 then m5 U r else if c=117 then xD U r else none)
def yW(q:UInt8):Nat->Bs->Option (Bs×Bs)
 |0,_=>none
 |_+1,[]=>none
 |n+1,c::r=>if c=q then some ([],r)else if c=10\/c=13 then none else if c=92 then(match jV U r with
  |none=>none
  |some p=>(yW q n p.2).map fun z=>(p.1++z.1,z.2))else(yW q n r).map fun z=>(c::z.1,z.2)
def lit(q:UInt8)(l:Bs):Option (Bs×Bs):=yW U q l.length l
end
inductive TR where
 |bad (e:Int)
 |ok (k:Int) (t:Bs) (r:Bs)
def qZ(l:Bs):TR:=
 if(l.takeWhile eO).head?=some 48/\1<(l.takeWhile eO).length then .bad 4 else if(l.dropWhile eO).head?.any oA then .bad 4 else if 9223372036854775807<lE (l.takeWhile eO)then .bad 5 else .ok 3 (l.takeWhile eO) (l.dropWhile eO)
def jH(U:Nat->Bs)(Rp:Bs->Bs):Bs->TR
 |[]=>.bad 4
 |c::r=>if oA c then .ok (if mq ((c::r).takeWhile mP)then 2 else 1) ((c::r).takeWhile mP) ((c::r).dropWhile mP)else if eO c then qZ (c::r)else if c=34\/c=39 then(match lit U c r with
  |none=>.bad 4
  |some z=>.ok 4 (Rp z.1) z.2)else(match qC (c::r)with
  |none=>.bad 4
  |some w=>.ok 5 w ((c::r).drop w.length))
def ME(r r':Bs):Prop:=r'.head?=r.head?\/r'.head?=some 32\/r'.head?=some 10\/r'=[]
theorem ld{p:UInt8->Bool}:∀(u r:Bs),(∀c∈u,p c=true)->(∀c,r.head?=some c->p c=false)->(u++r).takeWhile p=u/\(u++r).dropWhile p=r
 |[],[],_,_=>⟨rfl,rfl⟩
 |[],c::r,_,h=>by
  simp_all
 |c::u,r,h,h'=>by
  have h1:=h c (cK ..);have h2:=ld u r (fun x hx=>h x (aV _ hx)) h'
  simp_all
theorem n6{p:UInt8->Bool}:∀(l:Bs),(∀c∈l.takeWhile p,p c=true)/\(∀c,(l.dropWhile p).head?=some c->p c=false)/\l.takeWhile p++l.dropWhile p=l
 |[]=>⟨fun c h=>(by cases h),fun c h=>(by cases h),rfl⟩
 |c::l=>by
  have ih:=n6 (p:=p) l
  cases hc:p c with
  |true=>
   simp_all
  |false=>
   simp_all
theorem Hh{p:UInt8->Bool}{r r':Bs}(h:ME r r')(h32:p 32=false)(fh:p 10=false)(hr:∀c,r.head?=some c->p c=false):∀c,r'.head?=some c->p c=false:=fun c hc=>by
 rcases h with h|h|h|h
 ·grind
 ·grind
 ·grind
 grind
section
variable(U:Nat->Bs)(Rp:Bs->Bs)
theorem xe6:∀{l:Bs}{t r:Bs},m5 U l=some (t,r)->∃u,u≠[]/\l=u++r/\∀r',m5 U (u++r')=some (t,r')
 |[],_,_,h=>by cases h
 |[_],_,_,h=>by cases h
 |a::b::l,t,r,h=>by
  rw[m5]at h
  cases ha:sL a with
  |none=>rw[ha]at h;cases h
  |some x=>
   cases hb:sL b with
   |none=>grind
   |some y=>
    rw[ha,hb]at h
    cases h
    exact⟨[a,b],bK _ _,rfl,fun r'=>by
     show m5 U (a::b::r')=_;rw[m5];rw[ha,hb]⟩
theorem xdi:∀{l:Bs}{t r:Bs},xD U l=some (t,r)->∃u,u≠[]/\l=u++r/\∀r',xD U (u++r')=some (t,r')
 |[],_,_,h=>by cases h
 |c::l,t,r,h=>by
  rw[xD]at h
  split at h
  ·rename_i hc;subst hc;obtain⟨h1,h2,h3⟩:=n6 (p:=iR) l
   cases hd:l.dropWhile iR with
   |nil=>rw[hd]at h;cases h
   |cons d r2=>
    rw[hd]at h h3 h2;simp only at h
    split at h
    ·rename_i hg
     cases h
     obtain⟨rfl,pO⟩:=hg;refine⟨123::(l.takeWhile iR++[125]),bK _ _,?_,fun r'=>?_⟩
     ·grind
     ·have h4:=ld (p:=iR) (l.takeWhile iR) (125::r') h1 (fun c hc=>by cases hc;decide)
      rw[qD,mI];show xD U (123::(l.takeWhile iR++125::r'))=_;rw[xD]
      grind
    ·cases h
  ·cases h
theorem ZW:∀{l:Bs}{t r:Bs},jV U l=some (t,r)->∃u,u≠[]/\l=u++r/\∀r',r'.head?=r.head?->jV U (u++r')=some (t,r')
 |[],_,_,h=>by cases h
 |c::l,t,r,h=>by
  rw[jV]at h
  cases ht:AR c with
  |some d=>
   rw[ht]at h
   cases h
   exact⟨[c],bK _ _,rfl,fun r' _=>by
    show jV U (c::r')=_;rw[jV];rw[ht]⟩
  |none=>
   rw[ht]at h;simp only at h
   split at h
   ·rename_i hc
    split at h
    ·cases h
    ·rename_i hd
     cases h
     exact⟨[c],bK _ _,rfl,fun r' hr=>by
      show jV U (c::r')=_;rw[jV]
      grind⟩
   ·rename_i hc
    split at h
    ·rename_i hx;obtain⟨u,h1,h2,h3⟩:=xe6 U h;exact Vq
    ·rename_i hx
     split at h
     ·rename_i hu;obtain⟨u,h1,h2,h3⟩:=xdi U h;exact Vq
     ·cases h
theorem JI{l:Bs}{p:Bs×Bs}(h:jV U l=some p):p.2.length<l.length:=by
 obtain⟨t,r⟩:=p;obtain⟨u,h1,h2,_⟩:=ZW U h
 have:0<u.length:=aS.2 h1
 grind
theorem F3(q:UInt8):∀(n m:Nat)(l:Bs),l.length<=n->l.length<=m->yW U q n l=yW U q m l
 |0,m,l,h,_=>by
  have:l=[]:=aQ oM
  subst this
  cases m<;>rfl
 |n+1,0,l,_,h=>by
  have:l=[]:=aQ oM
  subst this;rfl
 |n+1,m+1,[],_,_=>rfl
 |n+1,m+1,c::r,h,h'=>by
  simp only[qQ]at h h';rw[yW,yW]
  split
  ·rfl
  ·split
   ·rfl
   ·split
    ·cases he:jV U r with
     |none=>rfl
     |some p=>
      have:=JI U he
      simp only;rw[F3 q n m p.2 oM oM]
    ·rw[F3 q n m r oM oM]
theorem O2(q:UInt8):lit U q []=none:=rfl
theorem Ai(q:UInt8)(r:Bs):lit U q (q::r)=some ([],r):=by
 show yW U q (r.length+1) (q::r)=_;rw[yW,aF rfl]
theorem F9{q c:UInt8}(r:Bs)(h:c≠q)(h1:c=10\/c=13):lit U q (c::r)=none:=by
 show yW U q (r.length+1) (c::r)=_;rw[yW,aD h,aF h1]
theorem Fk{q c:UInt8}{r:Bs}(h:c≠q)(h1:¬(c=10\/c=13))(h2:c=92)(h3:jV U r=none):lit U q (c::r)=none:=by
 show yW U q (r.length+1) (c::r)=_;rw[yW,aD h,aD h1,aF h2,h3]
theorem Aj{q c:UInt8}{r:Bs}{p:Bs×Bs}(h:c≠q)(h1:¬(c=10\/c=13))(h2:c=92)(h3:jV U r=some p):lit U q (c::r)=(lit U q p.2).map fun z=>(p.1++z.1,z.2):=by
 show yW U q (r.length+1) (c::r)=_;rw[yW,aD h,aD h1,aF h2,h3];simp only
 have:=JI U h3
 unfold lit;rw[F3 U q r.length p.2.length p.2 oM (nR _)]
theorem Ah{q c:UInt8}(r:Bs)(h:c≠q)(h1:¬(c=10\/c=13))(h2:c≠92):lit U q (c::r)=(lit U q r).map fun z=>(c::z.1,z.2):=by
 show yW U q (r.length+1) (c::r)=_;rw[yW,aD h,aD h1,aD h2];rfl
theorem O1(q:UInt8){motive:Bs->Prop}(nil:motive [])(end_:∀r,motive (q::r))(brk:∀c r,c≠q->(c=10\/c=13)->motive (c::r))
  (esc0:∀c r,c≠q->¬(c=10\/c=13)->c=92->jV U r=none->motive (c::r)) (esc:∀c r p,c≠q->¬(c=10\/c=13)->c=92->jV U r=some p->motive p.2->motive (c::r))
  (chr:∀c r,c≠q->¬(c=10\/c=13)->c≠92->motive r->motive (c::r)):∀(n:Nat)(l:Bs),l.length<=n->motive l
 |0,l,h=>by
  grind
 |n+1,[],_=>nil
 |n+1,c::r,h=>by
  simp only[qQ]at h;have rec_:=O1 q nil end_ brk esc0 esc chr n
  by_cases h1:c=q
  ·subst h1;exact end_ r
  ·by_cases h2:c=10\/c=13
   ·exact brk c r h1 h2
   ·by_cases h3:c=92
    ·cases he:jV U r with
     |none=>grind
     |some p=>
      have:=JI U he
      grind
    grind
theorem E6(q:UInt8):∀(l:Bs),∀t r,lit U q l=some (t,r)->∃u,u≠[]/\l=u++r/\∀r',lit U q (u++r')=some (t,r'):=by
 intro l;refine O1 U q (motive:=fun l=>∀t r,lit U q l=some (t,r)->∃u,u≠[]/\l=u++r/\∀r',lit U q (u++r')=some (t,r')) ?_ ?_ ?_ ?_ ?_ ?_ l.length l (nR _)
 ·intro t r h
  cases h
 ·intro l t r h;rw[Ai]at h
  cases h
  exact⟨[q],bK _ _,rfl,fun r'=>Ai U q r'⟩
 ·intro c l h1 h2 t r h;rw[F9 U l h1 h2]at h;cases h
 ·intro c l h1 h2 h3 he t r h;rw[Fk U h1 h2 h3 he]at h;cases h
 ·intro c l p h1 h2 h3 he ih t r h;rw[Aj U h1 h2 h3 he]at h
  cases hl:lit U q p.2 with
  |none=>rw[hl]at h;cases h
  |some z=>
   rw[hl]at h
   cases h
   obtain⟨u2,g1,g2,g3⟩:=ih z.1 z.2 hl;obtain⟨u1,k1,k2,k3⟩:=ZW U (t:=p.1) (r:=p.2) he;refine⟨c::(u1++u2),bK _ _,by rw[k2,g2];simp,fun r'=>?_⟩
   show lit U q (c::((u1++u2)++r'))=_;have h5:jV U ((u1++u2)++r')=some (p.1,u2++r'):=by
    rw[mI];refine k3 _ ?_;rw[g2]
    cases u2 with
    |nil=>exact absurd rfl g1
    |cons x y=>rfl
   rw[Aj U h1 h2 h3 h5]
   grind
 ·intro c l h1 h2 h3 ih t r h;rw[Ah U l h1 h2 h3]at h
  cases hl:lit U q l with
  |none=>rw[hl]at h;cases h
  |some z=>
   rw[hl]at h
   cases h
   obtain⟨u,g1,g2,g3⟩:=ih z.1 z.2 hl;refine⟨c::u,bK _ _,by rw[g2];rfl,fun r'=>?_⟩
   show lit U q (c::(u++r'))=_;rw[Ah U _ h1 h2 h3,g3];rfl
end
theorem JJ{L:List Bs}{k:Nat}(hk:(L.all fun w=>decide (w.length=k))=true){l:Bs}(h:L.any (· == l.take k)=true):k<=l.length:=by
 grind
theorem Ac{l w:Bs}(h:qC l=some w):w≠[]/\l=w++l.drop w.length/\w.length<=l.length:=by
 have key:∀k,0<k->k<=l.length->l.take k=w->w≠[]/\l=w++l.drop w.length/\w.length<=l.length:=fun k h0 hk e=>by
  subst e;have h1:(l.take k).length=k:=aX
  refine⟨fun e=>?_,by simp_all,by omega⟩
  grind
 unfold qC at h
 split at h
 ·rename_i hc;exact key 3 aN (JJ aN hc) (bA h)
 ·split at h
  ·rename_i hc;exact key 2 aN (JJ aN hc) (bA h)
  ·split at h
   ·rename_i hc;exact key 1 aN (JJ aN hc) (bA h)
   ·cases h
theorem SI{l:Bs}(h:yV.any (· == l.take 3)=true):dm.any (· == l.take 2)=true:=by
 obtain⟨w,hw,he⟩:=fY.1 h;have h3:w=l.take 3:=UP
 have h4:l.take 2=w.take 2:=aX
 rw[h4];exact aO.1 (show(yV.all fun w=>dm.any (· == w.take 2))=true by decide) w hw
theorem R9{a b:UInt8}(hb:b=32\/b=10):dm.any (· == [a,b])=false:=by
 rw[ko];intro w hw he;have h3:w=[a,b]:=UP
 have h4:=aO.1 (show(dm.all fun w=>!w.contains 32&&!w.contains 10)=true by decide) w hw
 grind
theorem Ra{a b c:UInt8}(hc:c=32\/c=10):yV.any (· == [a,b,c])=false:=by
 rw[ko];intro w hw he;have h3:w=[a,b,c]:=UP
 have h4:=aO.1 (show(yV.all fun w=>!w.contains 32&&!w.contains 10)=true by decide) w hw
 grind
theorem Nb{L:List Bs}{k:Nat}(hk:(L.all fun w=>decide (w.length=k))=true){x:Bs}(h:x.length≠k):L.any (· == x)=false:=by
 grind
theorem xdy{l w:Bs}(h:qC l=some w){r':Bs}(hr:ME (l.drop w.length) r'):qC (w++r')=some w:=by
 unfold qC at h
 split at h
 ·rename_i hc
  cases h
  have hl:=JJ aN hc
  have h1:(l.take 3).length=3:=aX
  have h2:(l.take 3++r').take 3=l.take 3:=aX
  unfold qC;rw[h2,aF hc]
 ·rename_i h3
  split at h
  ·rename_i hc
   cases h
   have hl:=JJ aN hc
   obtain⟨a,b,l2,rfl⟩:∃a b l2,l=a::b::l2:=by
    match l,hl with
    |a::b::l2,_=>grind
   have gv:ME l2 r':=hr;have h2:yV.any (· == ([a,b]++r').take 3)=false:=by
    cases r' with
    |nil=>exact Nb (k:=3) aN dL
    |cons c r'=>
     rcases gv with e|e|e|e
     ·cases l2 with
      |nil=>cases e
      |cons d l2=>
       grind
     ·cases e;exact Ra (.inl rfl)
     ·cases e;exact Ra (.inr rfl)
     ·cases e
   show qC ([a,b]++r')=some [a,b];unfold qC
   grind
  ·rename_i h2n
   split at h
   ·rename_i hc
    cases h
    have hl:=JJ aN hc
    obtain⟨a,l2,rfl⟩:∃a l2,l=a::l2:=by
     match l,hl with
     |a::l2,_=>exact⟨a,l2,rfl⟩
    have gv:ME l2 r':=hr;have h2:dm.any (· == ([a]++r').take 2)=false:=by
     cases r' with
     |nil=>exact Nb (k:=2) aN dL
     |cons c r'=>
      rcases gv with e|e|e|e
      ·cases l2 with
       |nil=>cases e
       |cons d l2=>
        grind
      ·cases e;exact R9 (.inl rfl)
      ·cases e;exact R9 (.inr rfl)
      ·cases e
    have h4:yV.any (· == ([a]++r').take 3)=false:=by
     cases h5:yV.any (· == ([a]++r').take 3)with
     |false=>rfl
     |true=>
      have:=SI h5
      grind
    show qC ([a]++r')=some [a];unfold qC
    grind
   ·cases h
section
variable(U:Nat->Bs)(Rp:Bs->Bs)
theorem z8l{l t r:Bs}{k:Int}(h:qZ l=.ok k t r)(hd:∃c l',l=c::l'/\eO c=true):∃u,u≠[]/\l=u++r/\(∃c u',u=c::u'/\eO c=true)/\∀r',ME r r'->qZ (u++r')=.ok k t r':=by
 obtain⟨h1,h2,h3⟩:=n6 (p:=eO) l;obtain⟨c,l',rfl,hc⟩:=hd;have ry:(c::l').takeWhile eO=c::l'.takeWhile eO:=cj
 unfold qZ at h
 split at h
 ·cases h
 ·rename_i g1
  split at h
  ·cases h
  ·rename_i g2
   split at h
   ·cases h
   ·rename_i g3
    cases h
    refine⟨(c::l').takeWhile eO,by grind,h3.symm,⟨c,_,ry,hc⟩,fun r' hr=>?_⟩
    have h4:=ld (p:=eO) ((c::l').takeWhile eO) r' h1 (Hh hr aN aN h2)
    have h5:¬(r'.head?.any oA=true):=fun h=>by
     cases hh:r'.head? with
     |none=>rw[hh]at h;cases h
     |some x=>
      rw[hh]at h;have h6:∀y,((c::l').dropWhile eO).head?=some y->oA y=false:=fun y hy=>by
       grind
      have h7:=Hh (p:=oA) hr aN aN h6 x hh
      grind
    unfold qZ
    grind
theorem OO{l t r:Bs}{k:Int}(h:jH U Rp l=.ok k t r):∃u,u≠[]/\l=u++r/\∀r',ME r r'->jH U Rp (u++r')=.ok k t r':=by
 cases l with
 |nil=>cases h
 |cons c l=>
  rw[jH]at h
  split at h
  ·rename_i hc
   cases h
   obtain⟨h1,h2,h3⟩:=n6 (p:=mP) (c::l);have hw:mP c=true:=by unfold mP;rw[hc];rfl
   have ry:(c::l).takeWhile mP=c::l.takeWhile mP:=cj
   refine⟨(c::l).takeWhile mP,by grind,h3.symm,fun r' hr=>?_⟩
   have h4:=ld (p:=mP) ((c::l).takeWhile mP) r' h1 (Hh hr aN aN h2)
   rw[ry]at h4 ⊢;show jH U Rp (c::(l.takeWhile mP++r'))=_;rw[jH]
   grind
  ·rename_i hc
   split at h
   ·rename_i hd;obtain⟨u,h1,h2,⟨c',u',rfl,wO⟩,h3⟩:=z8l h ⟨c,l,rfl,hd⟩;refine⟨c'::u',h1,h2,fun r' hr=>?_⟩
    have oZ:c=c':=by
     grind
    subst oZ;show jH U Rp (c::(u'++r'))=_;rw[jH]
    grind
   ·rename_i hd
    split at h
    ·rename_i hq
     cases hl:lit U c l with
     |none=>rw[hl]at h;cases h
     |some z=>
      rw[hl]at h
      cases h
      obtain⟨u,h1,h2,h3⟩:=E6 U c l z.1 z.2 hl;refine⟨c::u,bK _ _,by grind,fun r' _=>?_⟩
      show jH U Rp (c::(u++r'))=_;rw[jH]
      grind
    ·rename_i hq
     cases ho:qC (c::l)with
     |none=>rw[ho]at h;cases h
     |some w=>
      rw[ho]at h
      cases h
      obtain⟨h1,h2,h3⟩:=Ac ho;refine⟨t,h1,h2,fun r' hr=>?_⟩
      have h4:=xdy ho hr
      cases t with
      |nil=>exact absurd rfl h1
      |cons x w=>
       have oZ:c=x:=by
        grind
       subst oZ;show jH U Rp (c::(w++r'))=_;rw[jH]
       grind
end
structure Tk where
 k:Int
 t:Bs
 rem:Nat
def Tk.up(n:Nat)(x:Tk):Tk:=⟨x.k,x.t,x.rem+n⟩
section
variable(U:Nat->Bs)(Rp:Bs->Bs)
def oQ:Nat->Bs->List Tk×Option (Nat×Int)
 |0,_=>([],none)
 |n+1,l=>if(lA l).2=false then([],some ((lA l).1.length,4))else if(lA l).1=[]then([],none)else(match jH U Rp (lA l).1 with
  | .bad e=>([],some ((lA l).1.length,e))
  | .ok k t r=>(⟨k,t,(lA l).1.length⟩::(oQ n r).1,(oQ n r).2))
def lex(l:Bs):List Tk×Option (Nat×Int):=oQ U Rp (l.length+1) l
theorem DF{l t r:Bs}{k:Int}(h:jH U Rp l=.ok k t r):r.length<l.length:=by
 obtain⟨u,h1,h2,_⟩:=OO U Rp h
 have:0<u.length:=aS.2 h1
 rw[h2,sD];omega
theorem Aa:∀(n m:Nat)(l:Bs),l.length<n->l.length<m->oQ U Rp n l=oQ U Rp m l
 |0,m,l,h,_=>by omega
 |n+1,0,l,_,h=>by omega
 |n+1,m+1,l,h,h'=>by
  rw[oQ,oQ]
  split
  ·rfl
  ·split
   ·rfl
   ·cases ht:jH U Rp (lA l).1 with
    |bad e=>rfl
    |ok k t r=>
     have h1:=DF U Rp ht;have h2:=DG l;simp only;rw[Aa n m r oM oM]
theorem zr2{a b:Bs}(h:lA a=lA b):lex U Rp a=lex U Rp b:=by
 unfold lex;rw[Aa U Rp (a.length+1) (a.length+b.length+1) a oM oM,Aa U Rp (b.length+1) (a.length+b.length+1) b oM oM]
 rw[oQ,oQ,h]
theorem Qh{l r:Bs}(h:lA l=(r,false)):lex U Rp l=([],some (r.length,4)):=by
 unfold lex;rw[oQ,h];rfl
theorem Gb{l:Bs}(h:lA l=([],true)):lex U Rp l=([],none):=by
 unfold lex;rw[oQ,h];rfl
theorem Qq{l r:Bs}{e:Int}(h:lA l=(r,true))(hr:r≠[])(ht:jH U Rp r=.bad e):lex U Rp l=([],some (r.length,e)):=by
 unfold lex;rw[oQ,h];simp only[hr,ht,bN,Bool.true_eq_false]
theorem PF{l r t r2:Bs}{k:Int}(h:lA l=(r,true))(ht:jH U Rp r=.ok k t r2):lex U Rp l=(⟨k,t,r.length⟩::(lex U Rp r2).1,(lex U Rp r2).2):=by
 have hr:r≠[]:=fun e=>by rw[e]at ht;cases ht
 have h1:=DF U Rp ht;have h2:=DG l;rw[h]at h2;simp only at h2;unfold lex;rw[Aa U Rp (r2.length+1) l.length r2 oM oM]
 rw[oQ];rw[h];simp only[hr,ht,bN,Bool.true_eq_false]
theorem P2(l:Bs):∃u,l=u++(lA l).1:=by
 refine A7 (motive:=fun l=>∃u,l=u++(lA l).1) ?_ ?_ ?_ ?_ ?_ ?_ l.length l (nR _)
 ·exact⟨[],rfl⟩
 ·intro c r hw ⟨u,ih⟩;rw[OS hw];exact⟨c::u,by rw[qD,<- ih]⟩
 ·intro c r hw hk ⟨u,ih⟩;rw[OG hw hk];obtain⟨d,l2,rfl⟩:=Qk hk aN
  have ih':oS l2=u++(lA (oS l2)).1:=ih;obtain⟨v,hv⟩:∃v,l2=v++oS l2:=by
   cases hd:oS l2 with
   |nil=>exact⟨l2,by simp⟩
   |cons x y=>
    obtain⟨v,h3,_⟩:=Qg l2 (by rw[hd];exact bK _ _)
    exact⟨v,by rw[<-hd];exact h3⟩
  refine⟨c::d::(v++u),?_⟩;show c::d::l2=c::d::((v++u)++(lA (oS l2)).1);rw[mI,<- ih',<- hv]
 ·intro c r r' hw hk hd ⟨u,ih⟩;rw[OE hw hk hd];obtain⟨d,l2,rfl⟩:=Qk hk aN
  obtain⟨v,h3,_⟩:=Qf hd;have YQ:l2=v++r':=h3;refine⟨c::d::(v++u),?_⟩;show c::d::l2=c::d::((v++u)++(lA r').1);rw[mI,<- ih,<- YQ]
 ·intro c r hw hk hd;rw[ON hw hk hd];exact⟨[],rfl⟩
 ·intro c r hw hk;rw[DS hw hk];exact⟨[],rfl⟩
end
inductive PT where
 |mk (k:Int) (nm:Bs) (i o:Int) (ks:List PT)
def PT.kind:PT->Int
 | .mk k _ _ _ _=>k
def nd(k:Int)(ks:List PT):PT:=.mk k [] 0 0 ks
def eD(k:Int)(nm:Bs)(ks:List PT):PT:=.mk k nm 0 0 ks
def gC(k o:Int)(ks:List PT):PT:=.mk k [] 0 o ks
abbrev Ts:=List Tk
structure Cx where
 fn:Bool
 lp:Bool
 gn:Bool
 as_:Bool
def kd(l:Ts)(n:Nat):Int:=match l[n]? with
 |some t=>t.k
 |none=>0
def tx(l:Ts)(n:Nat):Bs:=match l[n]? with
 |some t=>t.t
 |none=>[]
def aM(l:Ts)(n:Nat)(s:Bs):Bool:=decide (tx l n=s)&&(decide (kd l n=2)||decide (kd l n=5))
def yY:Bs:=[108,101,116]
def pZ:Bs:=[99,111,110,115,116]
def uN:Bs:=[102,117,110,99,116,105,111,110]
def jI:Bs:=[97,115,121,110,99]
def nf:Bs:=[105,102]
def CZ:Bs:=[101,108,115,101]
def p9:Bs:=[119,104,105,108,101]
def py:Bs:=[102,111,114]
def wy:Bs:=[111,102]
def pf:Bs:=[114,101,116,117,114,110]
def n5:Bs:=[98,114,101,97,107]
def jc:Bs:=[99,111,110,116,105,110,117,101]
def oy:Bs:=[116,104,114,111,119]
def q7:Bs:=[116,114,121]
def ZP:Bs:=[99,97,116,99,104]
def Aq:Bs:=[102,105,110,97,108,108,121]
def ZR:Bs:=[121,105,101,108,100]
def IZ:Bs:=[97,119,97,105,116]
def QI:Bs:=[110,101,119]
def OI:Bs:=[117,110,100,101,102,105,110,101,100]
def NN:Bs:=[110,117,108,108]
def NQ:Bs:=[116,114,117,101]
def OH:Bs:=[102,97,108,115,101]
def NO:Bs:=[116,104,105,115]
def iS:Bs:=[40]
def eQ:Bs:=[41]
def sX:Bs:=[91]
def yG:Bs:=[93]
def nN:Bs:=[123]
def sK:Bs:=[125]
def mO:Bs:=[59]
def sY:Bs:=[44]
def AZ:Bs:=[46]
def Ho:Bs:=[61]
def pD:Bs:=[61,62]
def u9:Bs:=[42]
def ZQ:Bs:=[63]
def zx:Bs:=[58]
def af:List Bs:=[[],[45],[33],[43],[116,121,112,101,111,102],[100,101,108,101,116,101],[43],[45],[42],[47],[37],[61,61],[33,61],[61,61,61],[33,61,61],[60],[60,61],[62],[62,61],[105,110],[105,110,115,116,97,110,99,101,111,102],[38,38],[124,124],[63,63],[61],[43,61],[45,61],[42,61],[43,43],[45,45]]
def gF(s:Bs)(fr:Nat)(cnt:Nat):Int:=match(List.range cnt).find? (fun j=>decide (af[fr+j]?=some s))with
 |some j=>((fr+j:Nat):Int)
 |none=>0
abbrev Re(α:Type):=Option (Option (α×Ts))
def bnd{α β:Type}(x:Re α)(k:α->Ts->Re β):Re β:=match x with
 |none=>none
 |some none=>some none
 |some (some (a,l))=>k a l
def bY{α:Type}(a:α)(l:Ts):Re α:=some (some (a,l))
def rK{α:Type}:Re α:=some none
def fV{β:Type}(s:Bs)(l:Ts)(k:Ts->Re β):Re β:=if aM l 0 s then k (l.drop 1)else rK
def rC{β:Type}(l:Ts)(k:Bs->Ts->Re β):Re β:=if kd l 0=1 then k (tx l 0) (l.drop 1)else rK
inductive Rv where
 |nd (n:PT)
 |nb (n:PT) (b:Bool)
 |ls (l:List PT)
def ndR{β:Type}(x:Re Rv)(k:PT->Ts->Re β):Re β:=bnd x fun v l=>match v with
 | .nd n=>k n l
 |_=>none
def nbR{β:Type}(x:Re Rv)(k:PT->Bool->Ts->Re β):Re β:=bnd x fun v l=>match v with
 | .nb n b=>k n b l
 |_=>none
def lsR{β:Type}(x:Re Rv)(k:List PT->Ts->Re β):Re β:=bnd x fun v l=>match v with
 | .ls n=>k n l
 |_=>none
inductive Sy where
 |stmt (c:Cx) (l:Ts)
 |keyw (c:Cx) (l:Ts)
 |condn (c:Cx) (l:Ts)
 |inner (c:Cx) (l:Ts)
 |body (c:Cx) (l:Ts)
 |loops (c:Cx) (l:Ts)
 |tryS (c:Cx) (l:Ts)
 |decl (c:Cx) (l:Ts)
 |declL (k:Int) (acc:List PT) (c:Cx) (l:Ts)
 |block (c:Cx) (l:Ts)
 |blockL (acc:List PT) (c:Cx) (l:Ts)
 |func (d:Bool) (c:Cx) (l:Ts)
 |arrow (c:Cx) (l:Ts)
 |assign (c:Cx) (l:Ts)
 |cond (c:Cx) (l:Ts)
 |opnd (k:Nat) (c:Cx) (l:Ts)
 |opndL (k:Nat) (n:PT) (c:Cx) (l:Ts)
 |unary (c:Cx) (l:Ts)
 |postf (c:Cx) (l:Ts)
 |link (n:PT) (c:Cx) (l:Ts)
 |chain (c:Cx) (l:Ts)
 |chainN (n:PT) (c:Cx) (l:Ts)
 |chainL (n:PT) (c:Cx) (l:Ts)
 |list2 (e:Bs) (c:Cx) (l:Ts)
 |list2L (e:Bs) (acc:List PT) (c:Cx) (l:Ts)
 |prim (c:Cx) (l:Ts)
 |fields (c:Cx) (l:Ts)
 |fieldsL (acc:List PT) (c:Cx) (l:Ts)
 |field (c:Cx) (l:Ts)
def sM(l:Ts):Bool:=aM l 0 yY||(aM l 0 pZ||(aM l 0 uN||(aM l 0 jI&&aM l 1 uN)))
def oR(l:List PT):List Bs:=l.map fun|.mk _ nm _ _ _=>nm
def oU:List Bs->Bool
 |[]=>true
 |x::l=>!l.contains x&&oU l
def namesL:Nat->List PT->Ts->Re (List PT)
 |0,_,_=>none
 |n+1,acc,l=>rC l fun s l1=>if aM l1 0 eQ then(if oU (oR (acc++[eD 7 s []]))then bY (acc++[eD 7 s []]) (l1.drop 1)else rK)else fV sY l1 fun l2=>namesL n (acc++[eD 7 s []]) l2
def xS(l:Ts):Re (List PT):=fV iS l fun l1=>if aM l1 0 eQ then bY [] (l1.drop 1)else namesL (l1.length+1) [] l1
def ph(l:Ts):Nat->Nat->Option Nat
 |0,_=>none
 |m+1,n=>if kd l n=1 then(if aM l (n+1) sY then(if kd l (n+2)=1 then ph l m (n+2)else none)else some (n+1))else some n
def je(l:Ts):Nat:=
 if kd l (if aM l 0 jI then 1 else 0)=1 then(if aM l ((if aM l 0 jI then 1 else 0)+1) pD then(if aM l 0 jI then 1 else 0)+1 else 0)
 else if aM l (if aM l 0 jI then 1 else 0) iS then(match ph l (l.length+1) ((if aM l 0 jI then 1 else 0)+1)with
  |some n=>if aM l n eQ&&aM l (n+1) pD then n+1 else 0
  |none=>0)
 else 0
def pE(o:Int):Cx:=⟨true,false,decide (o=3),decide (o=4)||decide (o=5)⟩
def fy(n:PT):Bool:=decide (n.kind=7)||(decide (n.kind=18)||decide (n.kind=19))
def oe(k:Nat):Nat×Nat:=match k with
 |0=>(22,2)
 |1=>(21,1)
 |2=>(11,4)
 |3=>(15,6)
 |4=>(6,2)
 |_=>(8,3)
section
variable(R:Sy->Re Rv)
def pa(c:Cx)(l:Ts):Re Rv:=ndR (R (.assign c l)) fun n l1=>fV mO l1 fun l2=>bY (.nd (nd 26 [n])) l2
def vq(c:Cx)(l:Ts):Re Rv:=
 if aM l 0 yY||aM l 0 pZ then ndR (R (.decl c l)) fun n l1=>fV mO l1 fun l2=>bY (.nd n) l2
 else if sM l then R (.func true c l)
 else if aM l 0 nN then R (.block c l)
 else if aM l 0 mO then bY (.nd (nd 37 [])) (l.drop 1)
 else if kd l 0=2 then nbR (R (.keyw c l)) fun n b l1=>if b then bY (.nd n) l1 else pa R c l1
 else pa R c l
def wX(c:Cx)(l:Ts):Re Rv:=
 if aM l 0 nf then ndR (R (.condn c (l.drop 1))) fun e l1=>ndR (R (.inner c l1)) fun a l2=>if aM l2 0 CZ then ndR (R (.inner c (l2.drop 1))) fun b l3=>bY (.nb (nd 28 [e,a,b]) true) l3 else bY (.nb (nd 28 [e,a]) true) l2
 else if aM l 0 p9 then ndR (R (.condn c (l.drop 1))) fun e l1=>ndR (R (.body c l1)) fun a l2=>bY (.nb (nd 29 [e,a]) true) l2
 else if aM l 0 py then ndR (R (.loops c (l.drop 1))) fun n l1=>bY (.nb n true) l1
 else if aM l 0 pf then(if c.fn then(if aM l 1 mO then bY (.nb (nd 32 []) true) (l.drop 2)else ndR (R (.assign c (l.drop 1))) fun n l1=>fV mO l1 fun l2=>bY (.nb (nd 32 [n]) true) l2)else rK)
 else if aM l 0 n5||aM l 0 jc then(if c.lp then fV mO (l.drop 1) fun l1=>bY (.nb (nd (if aM l 0 jc then 34 else 33) []) true) l1 else rK)
 else if aM l 0 oy then ndR (R (.assign c (l.drop 1))) fun n l1=>fV mO l1 fun l2=>bY (.nb (nd 35 [n]) true) l2
 else if aM l 0 q7 then ndR (R (.tryS c (l.drop 1))) fun n l1=>bY (.nb n true) l1
 else bY (.nb (nd 0 []) false) l
def tw(c:Cx)(l:Ts):Re Rv:=fV iS l fun l1=>ndR (R (.assign c l1)) fun n l2=>fV eQ l2 fun l3=>bY (.nd n) l3
def DR(c:Cx)(l:Ts):Re Rv:=if sM l then rK else R (.stmt c l)
def CT(c:Cx)(l:Ts):Re Rv:=R (.inner { c with lp:=true } l)
def po(c:Cx)(a:PT)(l:Ts):Re Rv:=
 fV mO l fun l1=>
  let third:=fun(b:PT)(l2:Ts)=>fV mO l2 fun l3=>
   if aM l3 0 eQ then ndR (R (.body c (l3.drop 1))) fun s l5=>bY (.nd (nd 30 [a,b,nd 37 [],s])) l5
   else ndR (R (.assign c l3)) fun d l4=>fV eQ l4 fun l5=>ndR (R (.body c l5)) fun s l6=>bY (.nd (nd 30 [a,b,d,s])) l6
  if aM l1 0 mO then third (nd 37 []) l1 else ndR (R (.assign c l1)) fun b l2=>third b l2
def wa(c:Cx)(l:Ts):Re Rv:=fV iS l fun l0=>
 if(aM l0 0 yY||aM l0 0 pZ)&&(decide (kd l0 1=1)&&aM l0 2 wy)then
  ndR (R (.assign c (l0.drop 3))) fun e l1=>fV eQ l1 fun l2=>ndR (R (.body c l2)) fun s l3=>bY (.nd (.mk 31 (tx l0 1) 0 (if aM l0 0 pZ then 2 else 1) [e,s])) l3
 else if aM l0 0 yY||aM l0 0 pZ then ndR (R (.decl c l0)) fun n l1=>po R c n l1
 else if aM l0 0 mO then po R c (nd 37 []) l0
 else ndR (R (.assign c l0)) fun n l1=>po R c (nd 26 [n]) l1
def wc(c:Cx)(ks:List PT)(l:Ts):Re Rv:=
 if aM l 0 Aq then ndR (R (.block c (l.drop 1))) fun f l1=>bY (.nd (nd 36 (ks++[f]))) l1
 else if ks.length=1 then rK else bY (.nd (nd 36 ks)) l
def tb(c:Cx)(l:Ts):Re Rv:=ndR (R (.block c l)) fun a l1=>
 if aM l1 0 ZP then
  (if aM l1 1 iS then rC (l1.drop 2) fun s l2=>fV eQ l2 fun l3=>ndR (R (.block c l3)) fun b l4=>wc R c [a,eD 41 s [b]] l4
  else ndR (R (.block c (l1.drop 1))) fun b l2=>wc R c [a,nd 41 [b]] l2)
 else wc R c [a] l1
def DA(c:Cx)(l:Ts):Re Rv:=R (.declL (if aM l 0 pZ then 25 else 24) [] c (l.drop 1))
def vr(k:Int)(acc:List PT)(c:Cx)(l:Ts):Re Rv:=rC l fun s l1=>
 let next:=fun(d:PT)(l2:Ts)=>if aM l2 0 sY then R (.declL k (acc++[d]) c (l2.drop 1))else bY (.nd (nd k (acc++[d]))) l2
 if aM l1 0 Ho then ndR (R (.assign c (l1.drop 1))) fun e l2=>next (eD 40 s [e]) l2
 else if k=25 then rK else next (eD 40 s []) l1
def w7(c:Cx)(l:Ts):Re Rv:=fV nN l fun l1=>R (.blockL [] c l1)
def wt(acc:List PT)(c:Cx)(l:Ts):Re Rv:=if aM l 0 sK then bY (.nd (nd 27 acc)) (l.drop 1)else if l=[]then rK else ndR (R (.stmt c l)) fun n l1=>R (.blockL (acc++[n]) c l1)
def ao(d:Bool)(c:Cx)(l:Ts):Re Rv:=
 let o0:Int:=if aM l 0 jI then 4 else 1
 let l0:=if aM l 0 jI then l.drop 1 else l
 fV uN l0 fun l1=>
  let o:Int:=if decide (o0=1)&&aM l1 0 u9 then 3 else o0
  let l2:=if decide (o0=1)&&aM l1 0 u9 then l1.drop 1 else l1
  let rest:=fun(nm:Bs)(l3:Ts)=>bnd (xS l3) fun ps l4=>ndR (R (.block (pE o) l4)) fun b l5=>bY (.nd (.mk 11 nm 0 o (ps++[b]))) l5
  if d||decide (kd l2 0=1)then rC l2 rest else rest [] l2
def fw(c:Cx)(l:Ts):Re Rv:=
 let o:Int:=if aM l 0 jI then 5 else 2
 let l0:=if aM l 0 jI then l.drop 1 else l
 let rest:=fun(ps:List PT)(l1:Ts)=>fV pD l1 fun l2=>
  if aM l2 0 nN then ndR (R (.block (pE o) l2)) fun b l3=>bY (.nd (gC 11 o (ps++[b]))) l3
  else ndR (R (.assign (pE o) l2)) fun n l3=>bY (.nd (gC 11 o (ps++[nd 27 [nd 32 [n]]]))) l3
 if aM l0 0 iS then bnd (xS l0) rest else rC l0 fun s l1=>rest [eD 7 s []] l1
def wo(c:Cx)(l:Ts):Re Rv:=
 if 0<je l then R (.arrow c l)
 else if aM l 0 ZR then(if c.gn then ndR (R (.assign c (l.drop 1))) fun n l1=>bY (.nd (nd 22 [n])) l1 else rK)
 else ndR (R (.cond c l)) fun n l1=>
  if kd l1 0=5 then(if gF (tx l1 0) 24 4=0 then bY (.nd n) l1 else if fy n then ndR (R (.assign c (l1.drop 1))) fun m l2=>bY (.nd (gC 16 (gF (tx l1 0) 24 4) [n,m])) l2 else rK)
  else bY (.nd n) l1
def DE(c:Cx)(l:Ts):Re Rv:=ndR (R (.opnd 0 c l)) fun n l1=>
 if aM l1 0 ZQ then ndR (R (.assign c (l1.drop 1))) fun a l2=>fV zx l2 fun l3=>ndR (R (.assign c l3)) fun b l4=>bY (.nd (nd 15 [n,a,b])) l4
 else bY (.nd n) l1
def pb(k:Nat)(c:Cx)(l:Ts):Re Rv:=if 6<=k then R (.unary c l)else ndR (R (.opnd (k+1) c l)) fun n l1=>R (.opndL k n c l1)
def wb(k:Nat)(n:PT)(c:Cx)(l:Ts):Re Rv:=
 if decide (kd l 0=5)||decide (kd l 0=2)then
  (if gF (tx l 0) (oe k).1 (oe k).2=0 then bY (.nd n) l else ndR (R (.opnd (k+1) c (l.drop 1))) fun m l1=>R (.opndL k (gC (if k<2 then 14 else 13) (gF (tx l 0) (oe k).1 (oe k).2) [n,m]) c l1))
 else bY (.nd n) l
def pg(c:Cx)(l:Ts):Re Rv:=
 if decide (kd l 0=5)||decide (kd l 0=2)then
  (if tx l 0=IZ then(if c.as_ then ndR (R (.unary c (l.drop 1))) fun n l1=>bY (.nd (nd 23 [n])) l1 else rK)
  else if gF (tx l 0) 28 2≠0 then ndR (R (.unary c (l.drop 1))) fun n l1=>if fy n then bY (.nd (gC 17 (gF (tx l 0) 28 2) [n])) l1 else rK
  else if gF (tx l 0) 1 5=0 then R (.postf c l)
  else ndR (R (.unary c (l.drop 1))) fun n l1=>if gF (tx l 0) 1 5=5/\n.kind≠18/\n.kind≠19 then rK else bY (.nd (gC 12 (gF (tx l 0) 1 5) [n])) l1)
 else R (.postf c l)
def AE(c:Cx)(l:Ts):Re Rv:=ndR (R (.chain c l)) fun n l1=>
 if kd l1 0=5 then(if gF (tx l1 0) 28 2=0 then bY (.nd n) l1 else if fy n then bY (.nd (gC 17 (gF (tx l1 0) 28 2+100) [n])) (l1.drop 1)else rK)
 else bY (.nd n) l1
def zv(n:PT)(c:Cx)(l:Ts):Re Rv:=
 if aM l 0 AZ then(if decide (kd l 1=1)||decide (kd l 1=2)then bY (.nb (eD 18 (tx l 1) [n]) true) (l.drop 2)else rK)
 else if aM l 0 sX then ndR (R (.assign c (l.drop 1))) fun i l1=>fV yG l1 fun l2=>bY (.nb (nd 19 [n,i]) true) l2
 else bY (.nb n false) l
def w8(c:Cx)(l:Ts):Re Rv:=
 if aM l 0 QI then ndR (R (.prim c (l.drop 1))) fun n l1=>R (.chainN n c l1)
 else ndR (R (.prim c l)) fun n l1=>R (.chainL n c l1)
def DQ(n:PT)(c:Cx)(l:Ts):Re Rv:=nbR (R (.link n c l)) fun m b l1=>if b then R (.chainN m c l1)else fV iS l1 fun l2=>lsR (R (.list2 eQ c l2)) fun as l3=>R (.chainL (nd 21 (m::as)) c l3)
def DZ(n:PT)(c:Cx)(l:Ts):Re Rv:=nbR (R (.link n c l)) fun m b l1=>if b then R (.chainL m c l1)else if aM l1 0 iS then lsR (R (.list2 eQ c (l1.drop 1))) fun as l3=>R (.chainL (nd 20 (n::as)) c l3)else bY (.nd n) l1
def vz(e:Bs)(c:Cx)(l:Ts):Re Rv:=if aM l 0 e then bY (.ls []) (l.drop 1)else R (.list2L e [] c l)
def wm(e:Bs)(acc:List PT)(c:Cx)(l:Ts):Re Rv:=ndR (R (.assign c l)) fun n l1=>if aM l1 0 e then bY (.ls (acc++[n])) (l1.drop 1)else fV sY l1 fun l2=>R (.list2L e (acc++[n]) c l2)
def u7(c:Cx)(l:Ts):Re Rv:=
 if kd l 0=1 then bY (.nd (eD 7 (tx l 0) [])) (l.drop 1)
 else if kd l 0=4 then bY (.nd (eD 6 (tx l 0) [])) (l.drop 1)
 else if kd l 0=3 then bY (.nd (.mk 5 [] (lE (tx l 0):Nat) 0 [])) (l.drop 1)
 else if aM l 0 OI then bY (.nd (nd 1 [])) (l.drop 1)
 else if aM l 0 NN then bY (.nd (nd 2 [])) (l.drop 1)
 else if aM l 0 NQ then bY (.nd (nd 3 [])) (l.drop 1)
 else if aM l 0 OH then bY (.nd (nd 4 [])) (l.drop 1)
 else if aM l 0 NO then bY (.nd (nd 8 [])) (l.drop 1)
 else if aM l 0 iS then ndR (R (.assign c (l.drop 1))) fun n l1=>fV eQ l1 fun l2=>bY (.nd n) l2
 else if aM l 0 sX then lsR (R (.list2 yG c (l.drop 1))) fun ks l1=>bY (.nd (nd 9 ks)) l1
 else if aM l 0 nN then lsR (R (.fields c (l.drop 1))) fun ks l1=>bY (.nd (nd 10 ks)) l1
 else if aM l 0 uN||aM l 0 jI then R (.func false c l)
 else rK
def DT(c:Cx)(l:Ts):Re Rv:=if aM l 0 sK then bY (.ls []) (l.drop 1)else R (.fieldsL [] c l)
def DV(acc:List PT)(c:Cx)(l:Ts):Re Rv:=ndR (R (.field c l)) fun n l1=>if aM l1 0 sK then bY (.ls (acc++[n])) (l1.drop 1)else fV sY l1 fun l2=>R (.fieldsL (acc++[n]) c l2)
def AA(c:Cx)(l:Ts):Re Rv:=
 if aM l 0 sX then ndR (R (.assign c (l.drop 1))) fun k l1=>fV yG l1 fun l2=>fV zx l2 fun l3=>ndR (R (.assign c l3)) fun v l4=>bY (.nd (nd 39 [k,v])) l4
 else if kd l 0=0\/kd l 0=5 then rK
 else if aM l 1 zx then ndR (R (.assign c (l.drop 2))) fun v l1=>bY (.nd (eD 38 (tx l 0) [v])) l1
 else if kd l 0=1 then bY (.nd (eD 38 (tx l 0) [eD 7 (tx l 0) []])) (l.drop 1)
 else rK
def JC:Sy->Re Rv
 | .stmt c l=>vq R c l
 | .keyw c l=>wX R c l
 | .condn c l=>tw R c l
 | .inner c l=>DR R c l
 | .body c l=>CT R c l
 | .loops c l=>wa R c l
 | .tryS c l=>tb R c l
 | .decl c l=>DA R c l
 | .declL k acc c l=>vr R k acc c l
 | .block c l=>w7 R c l
 | .blockL acc c l=>wt R acc c l
 | .func d c l=>ao R d c l
 | .arrow c l=>fw R c l
 | .assign c l=>wo R c l
 | .cond c l=>DE R c l
 | .opnd k c l=>pb R k c l
 | .opndL k n c l=>wb R k n c l
 | .unary c l=>pg R c l
 | .postf c l=>AE R c l
 | .link n c l=>zv R n c l
 | .chain c l=>w8 R c l
 | .chainN n c l=>DQ R n c l
 | .chainL n c l=>DZ R n c l
 | .list2 e c l=>vz R e c l
 | .list2L e acc c l=>wm R e acc c l
 | .prim c l=>u7 R c l
 | .fields c l=>DT R c l
 | .fieldsL acc c l=>DV R acc c l
 | .field c l=>AA R c l
end
def og:Nat->Sy->Re Rv
 |0,_=>none
 |n+1,s=>JC (og n) s
def fJ{α:Type}(P:α->Ts->Prop)(x:Re α):Prop:=∃o,x=some o/\∀a l,o=some (a,l)->P a l
theorem fJ.fail{α:Type}{P:α->Ts->Prop}:fJ P rK:=⟨none,rfl,fun _ _ h=>by cases h⟩
theorem fJ.ok{α:Type}{P:α->Ts->Prop}{a:α}{l:Ts}(h:P a l):fJ P (bY a l):=⟨_,rfl,fun _ _ e=>by cases e;exact h⟩
theorem fJ.bnd{α β:Type}{P:α->Ts->Prop}{Q:β->Ts->Prop}{x:Re α}{k:α->Ts->Re β}(h:fJ P x)(hk:∀a l,P a l->fJ Q (k a l)):fJ Q (bnd x k):=by
 obtain⟨o,rfl,ho⟩:=h
 cases o with
 |none=>exact .fail
 |some p=>exact hk p.1 p.2 (ho _ _ rfl)
theorem fJ.mono{α:Type}{P Q:α->Ts->Prop}{x:Re α}(h:fJ P x)(hk:∀a l,P a l->Q a l):fJ Q x:=by
 obtain⟨o,e,ho⟩:=h;exact⟨o,e,fun a l h=>hk a l (ho a l h)⟩
theorem nZ{l:Ts}{n:Nat}{s:Bs}(h:aM l n s=true):n<l.length:=by
 unfold aM kd at h
 grind
theorem lO{l:Ts}{n:Nat}{k:Int}(h:kd l n=k)(hk:k≠0):n<l.length:=by
 unfold kd at h
 grind
def nB(l l':Ts):Prop:=l' <:+ l/\l'.length<l.length
def uC(l l':Ts):Prop:=l' <:+ l
theorem nB.leq{l l':Ts}(h:nB l l'):uC l l':=h.1
theorem uC.rfl{l:Ts}:uC l l:=o8 l
theorem uC.len{l l':Ts}(h:uC l l'):l'.length<=l.length:=lM h
theorem uC.trans{a b c:Ts}(h:uC a b)(h':uC b c):uC a c:=List.IsSuffix.trans h' h
theorem nB.trans{a b c:Ts}(h:nB a b)(h':uC b c):nB a c:=⟨h.leq.trans h',by have:=h'.len;have:=h.2;omega⟩
theorem uC.trans'{a b c:Ts}(h:uC a b)(h':nB b c):nB a c:=⟨h.trans h'.leq,by have:=h.len;have:=h'.2;omega⟩
theorem jf{l:Ts}{n:Nat}(h:n<l.length)(k:Nat)(hk:1<=k)(D8:k<=n+1):nB l (l.drop k):=⟨bJ _ _,by grind⟩
theorem fJ.need{β:Type}{Q:β->Ts->Prop}{s:Bs}{l:Ts}{k:Ts->Re β}(hk:aM l 0 s=true->nB l (l.drop 1)->fJ Q (k (l.drop 1))):fJ Q (fV s l k):=by
 unfold fV
 split
 ·rename_i h;exact hk h (jf (nZ h) 1 (nR 1) (nR 1))
 ·exact .fail
theorem fJ.name{β:Type}{Q:β->Ts->Prop}{l:Ts}{k:Bs->Ts->Re β}(hk:kd l 0=1->nB l (l.drop 1)->fJ Q (k (tx l 0) (l.drop 1))):fJ Q (rC l k):=by
 unfold rC
 split
 ·rename_i h;exact hk h (jf (lO h aN) 1 (nR 1) (nR 1))
 ·exact .fail
inductive Sh where
 |nd|nb|ls
def Rv.sh:Rv->Sh
 | .nd _=>.nd
 | .nb _ _=>.nb
 | .ls _=>.ls
theorem fJ.ndR{β:Type}{Q:β->Ts->Prop}{P:Ts->Prop}{x:Re Rv}{k:PT->Ts->Re β}(h:fJ (fun v l=>v.sh=.nd/\P l) x)(hk:∀n l,P l->fJ Q (k n l)):fJ Q (ndR x k):=
 h.bnd fun v l ⟨h1,h2⟩=>by
  cases v with
  |nd n=>exact hk n l h2
  |nb n b=>cases h1
  |ls n=>cases h1
theorem fJ.lsR{β:Type}{Q:β->Ts->Prop}{P:Ts->Prop}{x:Re Rv}{k:List PT->Ts->Re β}(h:fJ (fun v l=>v.sh=.ls/\P l) x)(hk:∀n l,P l->fJ Q (k n l)):fJ Q (lsR x k):=
 h.bnd fun v l ⟨h1,h2⟩=>by
  cases v with
  |nd n=>cases h1
  |nb n b=>cases h1
  |ls n=>exact hk n l h2
def Rv.ok:Rv->Bool
 | .nb _ b=>b
 |_=>true
theorem fJ.nbR{β:Type}{Q:β->Ts->Prop}{P:Bool->Ts->Prop}{x:Re Rv}{k:PT->Bool->Ts->Re β}(h:fJ (fun v l=>v.sh=.nb/\P v.ok l) x)(hk:∀n b l,P b l->fJ Q (k n b l)):fJ Q (nbR x k):=
 h.bnd fun v l ⟨h1,h2⟩=>by
  cases v with
  |nd n=>cases h1
  |nb n b=>exact hk n b l h2
  |ls n=>cases h1
theorem fJ.ite{α:Type}{P:α->Ts->Prop}{c:Prop} [Decidable c] {x y:Re α} (h1:c->fJ P x) (h2:¬c->fJ P y):fJ P (if c then x else y):=by
 grind
theorem P8:∀(n:Nat)(acc:List PT)(l:Ts),l.length<n->fJ (fun _ l'=>nB l l') (namesL n acc l)
 |0,_,_,h=>by omega
 |n+1,acc,l,h=>by
  refine .name fun _ h1=>.ite (fun h2=>.ite (fun _=>.ok ?_) fun _=>.fail) fun _=>.need fun _ h3=>?_
  ·exact h1.trans (jf (nZ h2) 1 (nR 1) (nR 1)).leq
  ·have h4:=h1.2;have h5:=h3.2;exact(P8 n _ _ oM).mono fun _ l' h6=>h1.trans (h3.leq.trans h6.leq)
theorem Gi(l:Ts):fJ (fun _ l'=>nB l l') (xS l):=by
 refine .need fun _ h1=>.ite (fun h2=>.ok ?_) fun _=>?_
 ·exact h1.trans (jf (nZ h2) 1 (nR 1) (nR 1)).leq
 ·exact(P8 _ _ _ (xf _)).mono fun _ l' h6=>h1.trans h6.leq
def Sy.l:Sy->Ts
 | .stmt _ l|.keyw _ l|.condn _ l|.inner _ l|.body _ l|.loops _ l|.tryS _ l|.decl _ l|.declL _ _ _ l|.block _ l|.blockL _ _ l|.func _ _ l|.arrow _ l|.assign _ l|.cond _ l|.opnd _ _ l|.opndL _ _ _ l|.unary _ l|.postf _ l|.link _ _ l|.chain _ l|.chainN _ _ l|.chainL _ _ l|.list2 _ _ l|.list2L _ _ _ l|.prim _ l|.fields _ l|.fieldsL _ _ l|.field _ l=>l
def Sy.rank:Sy->Nat
 | .stmt _ _=>40
 | .keyw _ _=>38
 | .condn _ _=>1
 | .inner _ _=>42
 | .body _ _=>43
 | .loops _ _=>1
 | .tryS _ _=>4
 | .decl _ _=>2
 | .declL _ _ _ _=>1
 | .block _ _=>3
 | .blockL _ _ _=>44
 | .func _ _ _=>2
 | .arrow _ _=>2
 | .assign _ _=>30
 | .cond _ _=>28
 | .opnd k _ _=>if k<=6 then 26-2*k else 14
 | .opndL _ _ _ _=>1
 | .unary _ _=>12
 | .postf _ _=>10
 | .link _ _ _=>1
 | .chain _ _=>8
 | .chainN _ _ _=>3
 | .chainL _ _ _=>3
 | .list2 _ _ _=>33
 | .list2L _ _ _ _=>32
 | .prim _ _=>6
 | .fields _ _=>9
 | .fieldsL _ _ _=>8
 | .field _ _=>5
def Sy.meas(s:Sy):Nat:=64*s.l.length+s.rank
def Sy.shape:Sy->Sh
 | .keyw _ _|.link _ _ _=>.nb
 | .list2 _ _ _|.list2L _ _ _ _|.fields _ _|.fieldsL _ _ _=>.ls
 |_=>.nd
def Sy.lax:Sy->Bool
 | .opndL _ _ _ _|.chainL _ _ _=>true
 |_=>false
def Sy.post(s:Sy)(v:Rv)(l:Ts):Prop:=v.sh=s.shape/\uC s.l l/\(s.lax=false->v.ok=true->nB s.l l)
abbrev PB(l:Ts)(b:Bool)(l1:Ts):Prop:=uC l l1/\(b=true->nB l l1)
section
variable{R:Sy->Re Rv}{m:Nat}(hR:∀s:Sy,s.meas<m->fJ s.post (R s))
include hR
theorem S3(s:Sy)(h:s.meas<m)(h1:s.shape=.nd)(h2:s.lax=false):fJ (fun v l=>v.sh=.nd/\nB s.l l) (R s):=
 (hR s h).mono fun v l ⟨a,b,c⟩=>⟨by rw[a,h1],c h2 (by
  rw[h1]at a
  cases v with
  |nd n=>rfl
  |nb n b=>cases a
  |ls n=>cases a)⟩
theorem UF(s:Sy)(h:s.meas<m)(h1:s.shape=.nd):fJ (fun v l=>v.sh=.nd/\uC s.l l) (R s):=(hR s h).mono fun v l ⟨a,b,c⟩=>⟨by rw[a,h1],b⟩
theorem Sa(s:Sy)(h:s.meas<m)(h1:s.shape=.ls)(h2:s.lax=false):fJ (fun v l=>v.sh=.ls/\nB s.l l) (R s):=
 (hR s h).mono fun v l ⟨a,b,c⟩=>⟨by rw[a,h1],c h2 (by
  rw[h1]at a
  cases v with
  |ls n=>rfl
  |nb n b=>cases a
  |nd n=>cases a)⟩
theorem UG(s:Sy)(h:s.meas<m)(h1:s.shape=.nb)(h2:s.lax=false):fJ (fun v l=>v.sh=.nb/\PB s.l v.ok l) (R s):=(hR s h).mono fun v l ⟨a,b,c⟩=>⟨by rw[a,h1],b,c h2⟩
end
theorem d1{l:Ts}{s:Bs}(h:aM l 0 s=true):nB l (l.drop 1):=jf (nZ h) 1 (nR 1) (nR 1)
theorem xiy{l:Ts}{a b:Bs}(h:(aM l 0 a||aM l 0 b)=true):0<l.length:=by
 rcases Bool.or_eq_true_iff.1 h with h|h
 ·exact nZ h
 ·exact nZ h
theorem Gm{s s':Sy}{m:Nat}(hs:s.meas<=m)(h:nB s.l s'.l)(h1:s'.rank<64):s'.meas<m:=by
 unfold Sy.meas at *
 have:=h.2
 omega
theorem Gk{s s':Sy}{m:Nat}(hs:s.meas<=m)(h:uC s.l s'.l)(h1:s'.rank<s.rank):s'.meas<m:=by
 unfold Sy.meas at *
 have:=h.len
 omega
theorem Gl:∀s:Sy,s.rank<64:=fun s=>by
 cases s
 all_goals first|exact oT rfl|(show(if _<=6 then 26-2*_ else 14)<64;split<;>omega)
section
variable{R:Sy->Re Rv}{m:Nat}(hR:∀s:Sy,s.meas<m->fJ s.post (R s))
include hR
theorem cN{s:Sy}(hs:s.meas<=m)(s':Sy)(h:nB s.l s'.l)(h1:s'.shape=.nd:=by rfl)(h2:s'.lax=false:=by rfl):fJ (fun v l=>v.sh=.nd/\nB s.l l) (R s'):=(S3 hR s' (Gm hs h (Gl _)) h1 h2).mono fun v l ⟨a,b⟩=>⟨a,h.trans b.leq⟩
theorem cX{s:Sy}(hs:s.meas<=m)(s':Sy)(h:nB s.l s'.l)(h1:s'.shape=.nd:=by rfl):fJ (fun v l=>v.sh=.nd/\nB s.l l) (R s'):=(UF hR s' (Gm hs h (Gl _)) h1).mono fun v l ⟨a,b⟩=>⟨a,h.trans b⟩
theorem cL{s:Sy}(hs:s.meas<=m)(s':Sy)(h:nB s.l s'.l)(h1:s'.shape=.ls:=by rfl)(h2:s'.lax=false:=by rfl):fJ (fun v l=>v.sh=.ls/\nB s.l l) (R s'):=(Sa hR s' (Gm hs h (Gl _)) h1 h2).mono fun v l ⟨a,b⟩=>⟨a,h.trans b.leq⟩
theorem eN{s:Sy}(hs:s.meas<=m)(s':Sy)(h:uC s.l s'.l)(hr:s'.rank<s.rank)(h1:s'.shape=.nd:=by rfl)(h2:s'.lax=false:=by rfl):fJ (fun v l=>v.sh=.nd/\nB s.l l) (R s'):=(S3 hR s' (Gk hs h hr) h1 h2).mono fun v l ⟨a,b⟩=>⟨a,h.trans' b⟩
theorem eL{s:Sy}(hs:s.meas<=m)(s':Sy)(h:uC s.l s'.l)(hr:s'.rank<s.rank)(h1:s'.shape=.ls:=by rfl)(h2:s'.lax=false:=by rfl):fJ (fun v l=>v.sh=.ls/\nB s.l l) (R s'):=(Sa hR s' (Gk hs h hr) h1 h2).mono fun v l ⟨a,b⟩=>⟨a,h.trans' b⟩
theorem eB{s:Sy}(hs:s.meas<=m)(s':Sy)(h:uC s.l s'.l)(hr:s'.rank<s.rank)(h1:s'.shape=.nb:=by rfl)(h2:s'.lax=false:=by rfl):fJ (fun v l=>v.sh=.nb/\PB s.l v.ok l) (R s'):=(UG hR s' (Gk hs h hr) h1 h2).mono fun v l ⟨a,b,c⟩=>⟨a,h.trans b,fun e=>h.trans' (c e)⟩
end
theorem pN{s:Sy}{n:PT}{l:Ts}(h1:s.shape=.nd)(h:nB s.l l):s.post (.nd n) l:=⟨h1.symm,h.leq,fun _ _=>h⟩
theorem pX{s:Sy}{n:PT}{l:Ts}(h1:s.shape=.nd)(h2:s.lax=true)(h:uC s.l l):s.post (.nd n) l:=⟨h1.symm,h,fun e=>by rw[h2]at e;cases e⟩
theorem pL{s:Sy}{n:List PT}{l:Ts}(h1:s.shape=.ls)(h:nB s.l l):s.post (.ls n) l:=⟨h1.symm,h.leq,fun _ _=>h⟩
theorem uf{s:Sy}{n:PT}{l:Ts}(h1:s.shape=.nb)(h:nB s.l l):s.post (.nb n true) l:=⟨h1.symm,h.leq,fun _ _=>h⟩
theorem Ub{s:Sy}{n:PT}{l:Ts}(h1:s.shape=.nb)(h:uC s.l l):s.post (.nb n false) l:=⟨h1.symm,h,fun _ e=>by cases e⟩
theorem xQ{s:Sy}{x:Re Rv}(h1:s.shape=.nd)(h:fJ (fun v l=>v.sh=.nd/\nB s.l l) x):fJ s.post x:=h.mono fun v l ⟨a,b⟩=>⟨by rw[a,h1],b.leq,fun _ _=>b⟩
theorem ZM{s:Sy}{x:Re Rv}(h1:s.shape=.ls)(h:fJ (fun v l=>v.sh=.ls/\nB s.l l) x):fJ s.post x:=h.mono fun v l ⟨a,b⟩=>⟨by rw[a,h1],b.leq,fun _ _=>b⟩
section
variable{R:Sy->Re Rv}{m:Nat}(hR:∀s:Sy,s.meas<m->fJ s.post (R s))
include hR
theorem Nt{s:Sy}(h1:s.shape=.nd)(hr:30<s.rank)(hs:s.meas<=m)(c:Cx)(l:Ts)(hl:uC s.l l):fJ s.post (pa R c l):=by
 exact .ndR (eN hR hs (.assign c l) hl hr) fun n l1 h=>.need fun _ h2=>.ok (pN h1 (h.trans h2.leq))
theorem z68(c:Cx)(l:Ts)(hs:(Sy.stmt c l).meas<=m):fJ (Sy.stmt c l).post (vq R c l):=by
 refine .ite (fun _=>?_) fun _=>.ite (fun _=>?_) fun _=>.ite (fun _=>?_) fun _=>.ite (fun h=>?_) fun _=>.ite (fun _=>?_) fun _=>?_
 ·exact .ndR (eN hR hs (.decl c l) .rfl (oT rfl)) fun n l1 h=>.need fun _ h2=>.ok (pN rfl (h.trans h2.leq))
 ·exact xQ rfl (eN hR hs (.func true c l) .rfl (oT rfl))
 ·exact xQ rfl (eN hR hs (.block c l) .rfl (oT rfl))
 ·exact .ok (pN rfl (d1 h))
 ·exact .nbR (eB hR hs (.keyw c l) .rfl (oT rfl)) fun n b l1 h=>.ite (fun hb=>.ok (pN rfl (h.2 hb))) fun _=>Nt hR rfl (oT rfl) hs c l1 h.1
 ·exact Nt hR rfl (oT rfl) hs c l .rfl
theorem z9e(c:Cx)(l:Ts)(hs:(Sy.keyw c l).meas<=m):fJ (Sy.keyw c l).post (wX R c l):=by
 refine .ite (fun h=>?_) fun _=>.ite (fun h=>?_) fun _=>.ite (fun h=>?_) fun _=>.ite (fun h=>?_) fun _=>.ite (fun h=>?_) fun _=>.ite (fun h=>?_) fun _=>.ite (fun h=>?_) fun _=>?_
 ·refine .ndR (cN hR hs (.condn c _) (d1 h)) fun e l1 h1=>.ndR (cN hR hs (.inner c l1) h1) fun a l2 h2=>.ite (fun h3=>?_) fun _=>.ok (uf rfl h2)
  exact .ndR (cN hR hs (.inner c _) (h2.trans (d1 h3).leq)) fun b l3 h4=>.ok (uf rfl h4)
 ·exact .ndR (cN hR hs (.condn c _) (d1 h)) fun e l1 h1=>.ndR (cN hR hs (.body c l1) h1) fun a l2 h2=>.ok (uf rfl h2)
 ·exact .ndR (cN hR hs (.loops c _) (d1 h)) fun e l1 h1=>.ok (uf rfl h1)
 ·refine .ite (fun _=>.ite (fun h1=>.ok (uf rfl (jf (nZ h1) 2 aN aN))) fun _=>?_) fun _=>.fail
  exact Vj
 ·exact .ite (fun _=>.need fun _ h2=>.ok (uf rfl ((jf (xiy h) 1 aN aN).trans h2.leq))) fun _=>.fail
 ·exact Vj
 ·exact .ndR (cN hR hs (.tryS c _) (d1 h)) fun e l1 h1=>.ok (uf rfl h1)
 ·exact .ok (Ub rfl .rfl)
theorem z58(c:Cx)(l:Ts)(hs:(Sy.condn c l).meas<=m):fJ (Sy.condn c l).post (tw R c l):=by
 exact .need fun _ h=>.ndR (cN hR hs (.assign c _) h) fun n l2 h1=>.need fun _ h2=>.ok (pN rfl (h1.trans h2.leq))
theorem z5b(c:Cx)(l:Ts)(hs:(Sy.inner c l).meas<=m):fJ (Sy.inner c l).post (DR R c l):=by
 exact .ite (fun _=>.fail) fun _=>xQ rfl (eN hR hs (.stmt c l) .rfl (oT rfl))
theorem xaj(c:Cx)(l:Ts)(hs:(Sy.body c l).meas<=m):fJ (Sy.body c l).post (CT R c l):=xQ rfl (eN hR hs (.inner _ l) .rfl (oT rfl))
theorem Fj{s:Sy}(h0:s.shape=.nd)(hs:s.meas<=m)(c:Cx)(a:PT)(l:Ts)(hl:nB s.l l):fJ s.post (po R c a l):=by
 refine .need fun _ h1=>?_
 have third:∀(b:PT)(l2:Ts),nB s.l l2->fJ s.post (fV mO l2 fun l3=>
   if aM l3 0 eQ then ndR (R (.body c (l3.drop 1))) fun s l5=>bY (.nd (nd 30 [a,b,nd 37 [],s])) l5
   else ndR (R (.assign c l3)) fun d l4=>fV eQ l4 fun l5=>ndR (R (.body c l5)) fun s l6=>bY (.nd (nd 30 [a,b,d,s])) l6):=fun b l2 h=>by
  refine .need fun _ h2=>.ite (fun h3=>?_) fun _=>?_
  ·exact .ndR (cN hR hs (.body c _) (h.trans (h2.leq.trans (d1 h3).leq))) fun s l5 h4=>.ok (pN h0 h4)
  ·exact .ndR (cN hR hs (.assign c _) (h.trans h2.leq)) fun d l4 h4=>.need fun _ h5=>.ndR (cN hR hs (.body c _) (h4.trans h5.leq)) fun s l6 h6=>.ok (pN h0 h6)
 refine .ite (fun _=>third _ _ (hl.trans h1.leq)) fun _=>.ndR (cN hR hs (.assign c _) (hl.trans h1.leq)) fun b l2 h2=>third _ _ h2
theorem z4c(c:Cx)(l:Ts)(hs:(Sy.loops c l).meas<=m):fJ (Sy.loops c l).post (wa R c l):=by
 refine .need fun _ h0=>.ite (fun h=>?_) fun _=>.ite (fun h=>?_) fun _=>.ite (fun h=>?_) fun _=>?_
 ·simp only[gK]at h;exact .ndR (cN hR hs (.assign c _) (h0.trans (jf (nZ h.2.2) 3 aN aN).leq)) fun e l1 h1=>.need fun _ h2=>.ndR (cN hR hs (.body c _) (h1.trans h2.leq)) fun s l3 h3=>.ok (pN rfl h3)
 ·exact .ndR (cN hR hs (.decl c _) h0) fun n l1 h1=>Fj hR rfl hs c n l1 h1
 ·exact Fj hR rfl hs c _ _ h0
 ·exact .ndR (cN hR hs (.assign c _) h0) fun n l1 h1=>Fj hR rfl hs c _ l1 h1
theorem Ff{s:Sy}(h0:s.shape=.nd)(hs:s.meas<=m)(c:Cx)(ks:List PT)(l:Ts)(hl:nB s.l l):fJ s.post (wc R c ks l):=by
 refine .ite (fun h=>?_) fun _=>.ite (fun _=>.fail) fun _=>.ok (pN h0 hl)
 exact .ndR (cN hR hs (.block c _) (hl.trans (d1 h).leq)) fun f l1 h1=>.ok (pN h0 h1)
theorem xcc(c:Cx)(l:Ts)(hs:(Sy.tryS c l).meas<=m):fJ (Sy.tryS c l).post (tb R c l):=by
 refine .ndR (eN hR hs (.block c l) .rfl (oT rfl)) fun a l1 h1=>.ite (fun h=>?_) fun _=>Ff hR rfl hs c _ l1 h1
 refine .ite (fun h2=>?_) fun _=>?_
 ·refine .name fun _ h3=>.need fun _ h4=>.ndR (cN hR hs (.block c _) (h1.trans (uC.trans (bJ _ _) (h3.leq.trans h4.leq)))) fun b l4 h5=>Ff hR rfl hs c _ l4 h5
 ·exact .ndR (cN hR hs (.block c _) (h1.trans (d1 h).leq)) fun b l2 h5=>Ff hR rfl hs c _ l2 h5
theorem z52(k:Int)(acc:List PT)(c:Cx)(l:Ts)(hs:(Sy.declL k acc c l).meas<=m):fJ (Sy.declL k acc c l).post (vr R k acc c l):=by
 refine .name fun _ h1=>?_
 have next:∀(d:PT)(l2:Ts),nB l l2->fJ (Sy.declL k acc c l).post (if aM l2 0 sY then R (.declL k (acc++[d]) c (l2.drop 1))else bY (.nd (nd k (acc++[d]))) l2):=fun d l2 h=>.ite (fun h2=>xQ rfl (cN hR hs (.declL _ _ c _) (h.trans (d1 h2).leq))) fun _=>.ok (pN rfl h)
 refine .ite (fun h2=>?_) fun _=>.ite (fun _=>.fail) fun _=>next _ _ h1
 exact .ndR (cN hR hs (.assign c _) (h1.trans (d1 h2).leq)) fun e l2 h3=>next _ _ h3
theorem z6c(c:Cx)(l:Ts)(hs:(Sy.block c l).meas<=m):fJ (Sy.block c l).post (w7 R c l):=by
 exact .need fun _ h=>xQ rfl (cN hR hs (.blockL [] c _) h)
theorem z0x(acc:List PT)(c:Cx)(l:Ts)(hs:(Sy.blockL acc c l).meas<=m):fJ (Sy.blockL acc c l).post (wt R acc c l):=by
 refine .ite (fun h=>.ok (pN rfl (d1 h))) fun _=>.ite (fun _=>.fail) fun _=>?_
 exact .ndR (eN hR hs (.stmt c l) .rfl (oT rfl)) fun n l1 h1=>xQ rfl (cN hR hs (.blockL _ c l1) h1)
theorem z94(d:Bool)(c:Cx)(l:Ts)(hs:(Sy.func d c l).meas<=m):fJ (Sy.func d c l).post (ao R d c l):=by
 unfold ao;have h0:uC l (if aM l 0 jI then l.drop 1 else l):=by
  exact K6
 generalize (if aM l 0 jI=true then l.drop 1 else l)=l0 at h0 ⊢
 generalize (if aM l 0 jI=true then(4:Int)else 1)=o0
 refine .need fun _ h1=>?_
 have h2:uC (l0.drop 1) (if(decide (o0=1)&&aM (l0.drop 1) 0 u9)=true then(l0.drop 1).drop 1 else l0.drop 1):=by
  exact K6
 generalize (if(decide (o0=1)&&aM (l0.drop 1) 0 u9)=true then(l0.drop 1).drop 1 else l0.drop 1)=l2 at h2 ⊢
 generalize (if(decide (o0=1)&&aM (l0.drop 1) 0 u9)=true then(3:Int)else o0)=o
 have h3:nB l l2:=h0.trans' (h1.trans h2);have rest:∀(nm:Bs)(l3:Ts),nB l l3->fJ (Sy.func d c l).post (bnd (xS l3) fun ps l4=>ndR (R (.block (pE o) l4)) fun b l5=>bY (.nd (.mk 11 nm 0 o (ps++[b]))) l5):=fun nm l3 h=>
  .bnd (Gi l3) fun ps l4 h4=>.ndR (cN hR hs (.block _ l4) (h.trans h4.leq)) fun b l5 h5=>.ok (pN rfl h5)
 exact .ite (fun _=>.name fun _ h4=>rest _ _ (h3.trans h4.leq)) fun _=>rest _ _ h3
theorem z6h(c:Cx)(l:Ts)(hs:(Sy.arrow c l).meas<=m):fJ (Sy.arrow c l).post (fw R c l):=by
 unfold fw;have h0:uC l (if aM l 0 jI then l.drop 1 else l):=by
  exact K6
 generalize (if aM l 0 jI=true then l.drop 1 else l)=l0 at h0 ⊢
 generalize (if aM l 0 jI=true then(5:Int)else 2)=o
 have rest:∀(ps:List PT)(l1:Ts),nB l l1->fJ (Sy.arrow c l).post (fV pD l1 fun l2=>
   if aM l2 0 nN then ndR (R (.block (pE o) l2)) fun b l3=>bY (.nd (gC 11 o (ps++[b]))) l3
   else ndR (R (.assign (pE o) l2)) fun n l3=>bY (.nd (gC 11 o (ps++[nd 27 [nd 32 [n]]]))) l3):=fun ps l1 h=>by
  refine .need fun _ h2=>.ite (fun _=>?_) fun _=>?_
  ·exact .ndR (cN hR hs (.block _ _) (h.trans h2.leq)) fun b l3 h3=>.ok (pN rfl h3)
  ·exact .ndR (cN hR hs (.assign _ _) (h.trans h2.leq)) fun b l3 h3=>.ok (pN rfl h3)
 exact .ite (fun _=>.bnd (Gi l0) fun ps l1 h1=>rest ps l1 (h0.trans' h1)) fun _=>.name fun _ h1=>rest _ _ (h0.trans' h1)
theorem z02(c:Cx)(l:Ts)(hs:(Sy.assign c l).meas<=m):fJ (Sy.assign c l).post (wo R c l):=by
 refine .ite (fun _=>xQ rfl (eN hR hs (.arrow c l) .rfl (oT rfl))) fun _=>.ite (fun h=>.ite (fun _=>?_) fun _=>.fail) fun _=>?_
 ·exact .ndR (cN hR hs (.assign c _) (d1 h)) fun n l1 h1=>.ok (pN rfl h1)
 ·refine .ndR (eN hR hs (.cond c l) .rfl (oT rfl)) fun n l1 h1=>.ite (fun h2=>.ite (fun _=>.ok (pN rfl h1)) fun _=>.ite (fun _=>?_) fun _=>.fail) fun _=>.ok (pN rfl h1)
  exact .ndR (cN hR hs (.assign c _) (h1.trans (jf (lO h2 aN) 1 aN aN).leq)) fun k l2 h3=>.ok (pN rfl h3)
theorem xah(c:Cx)(l:Ts)(hs:(Sy.cond c l).meas<=m):fJ (Sy.cond c l).post (DE R c l):=by
 refine .ndR (eN hR hs (.opnd 0 c l) .rfl (oT rfl)) fun n l1 h1=>.ite (fun h=>?_) fun _=>.ok (pN rfl h1)
 exact .ndR (cN hR hs (.assign c _) (h1.trans (d1 h).leq)) fun a l2 h2=>.need fun _ h3=>.ndR (cN hR hs (.assign c _) (h2.trans h3.leq)) fun b l4 h4=>.ok (pN rfl h4)
theorem z8g(k:Nat)(c:Cx)(l:Ts)(hs:(Sy.opnd k c l).meas<=m):fJ (Sy.opnd k c l).post (pb R k c l):=by
 refine .ite (fun h=>?_) fun h=>?_
 ·exact xQ rfl (eN hR hs (.unary c l) .rfl (by show 12<(if k<=6 then 26-2*k else 14);split<;>omega))
 ·exact .ndR (eN hR hs (.opnd (k+1) c l) .rfl (by show(if k+1<=6 then 26-2*(k+1)else 14)<(if k<=6 then 26-2*k else 14);grind)) fun n l1 h1=>xQ rfl (cX hR hs (.opndL k n c l1) h1)
theorem z3m(k:Nat)(n:PT)(c:Cx)(l:Ts)(hs:(Sy.opndL k n c l).meas<=m):fJ (Sy.opndL k n c l).post (wb R k n c l):=by
 refine .ite (fun h=>.ite (fun _=>.ok (pX rfl rfl .rfl)) fun _=>?_) fun _=>.ok (pX rfl rfl .rfl)
 have h1:nB l (l.drop 1):=by
  exact Xa
 exact .ndR (cN hR hs (.opnd (k+1) c _) h1) fun x l1 h2=>xQ rfl (cX hR hs (.opndL k _ c l1) h2)
theorem z1v(c:Cx)(l:Ts)(hs:(Sy.unary c l).meas<=m):fJ (Sy.unary c l).post (pg R c l):=by
 refine .ite (fun h=>?_) fun _=>xQ rfl (eN hR hs (.postf c l) .rfl (oT rfl))
 have h1:nB l (l.drop 1):=by
  exact Xa
 refine .ite (fun _=>.ite (fun _=>?_) fun _=>.fail) fun _=>.ite (fun _=>?_) fun _=>.ite (fun _=>?_) fun _=>?_
 ·exact .ndR (cN hR hs (.unary c _) h1) fun x l1 h2=>.ok (pN rfl h2)
 ·exact .ndR (cN hR hs (.unary c _) h1) fun x l1 h2=>.ite (fun _=>.ok (pN rfl h2)) fun _=>.fail
 ·exact xQ rfl (eN hR hs (.postf c l) .rfl (oT rfl))
 ·exact .ndR (cN hR hs (.unary c _) h1) fun x l1 h2=>.ite (fun _=>.fail) fun _=>.ok (pN rfl h2)
theorem z3d(c:Cx)(l:Ts)(hs:(Sy.postf c l).meas<=m):fJ (Sy.postf c l).post (AE R c l):=by
 refine .ndR (eN hR hs (.chain c l) .rfl (oT rfl)) fun n l1 h1=>.ite (fun h2=>.ite (fun _=>.ok (pN rfl h1)) fun _=>.ite (fun _=>?_) fun _=>.fail) fun _=>.ok (pN rfl h1)
 exact .ok (pN rfl (h1.trans (bJ _ _)))
theorem z82(n:PT)(c:Cx)(l:Ts)(hs:(Sy.link n c l).meas<=m):fJ (Sy.link n c l).post (zv R n c l):=by
 refine .ite (fun h=>.ite (fun _=>?_) fun _=>.fail) fun _=>.ite (fun h=>?_) fun _=>.ok (Ub rfl .rfl)
 ·exact .ok (uf rfl ((d1 h).trans (by rw[show l.drop 2=(l.drop 1).drop 1 by rw[zD]];exact bJ _ _)))
 ·exact .ndR (cN hR hs (.assign c _) (d1 h)) fun i l1 h1=>.need fun _ h2=>.ok (uf rfl (h1.trans h2.leq))
theorem z59(c:Cx)(l:Ts)(hs:(Sy.chain c l).meas<=m):fJ (Sy.chain c l).post (w8 R c l):=by
 refine .ite (fun h=>?_) fun _=>?_
 ·exact .ndR (cN hR hs (.prim c _) (d1 h)) fun n l1 h1=>xQ rfl (cN hR hs (.chainN n c l1) h1)
 ·exact .ndR (eN hR hs (.prim c l) .rfl (oT rfl)) fun n l1 h1=>xQ rfl (cX hR hs (.chainL n c l1) h1)
theorem z0q(n:PT)(c:Cx)(l:Ts)(hs:(Sy.chainN n c l).meas<=m):fJ (Sy.chainN n c l).post (DQ R n c l):=by
 refine .nbR (eB hR hs (.link n c l) .rfl (oT rfl)) fun x b l1 h1=>.ite (fun hb=>xQ rfl (cN hR hs (.chainN x c l1) (h1.2 hb))) fun _=>.need fun _ h2=>?_
 exact .lsR (cL hR hs (.list2 eQ c _) (h1.1.trans' h2)) fun ks l3 h3=>xQ rfl (cX hR hs (.chainL _ c l3) h3)
theorem z0r(n:PT)(c:Cx)(l:Ts)(hs:(Sy.chainL n c l).meas<=m):fJ (Sy.chainL n c l).post (DZ R n c l):=by
 refine .nbR (eB hR hs (.link n c l) .rfl (oT rfl)) fun x b l1 h1=>.ite (fun hb=>xQ rfl (cX hR hs (.chainL x c l1) (h1.2 hb))) fun _=>.ite (fun h2=>?_) fun _=>.ok (pX rfl rfl h1.1)
 exact .lsR (cL hR hs (.list2 eQ c _) (h1.1.trans' (d1 h2))) fun ks l3 h3=>xQ rfl (cX hR hs (.chainL _ c l3) h3)
theorem z4h(e:Bs)(c:Cx)(l:Ts)(hs:(Sy.list2 e c l).meas<=m):fJ (Sy.list2 e c l).post (vz R e c l):=by
 exact .ite (fun h=>.ok (pL rfl (d1 h))) fun _=>ZM rfl (eL hR hs (.list2L e [] c l) .rfl (oT rfl))
theorem zz0(e:Bs)(acc:List PT)(c:Cx)(l:Ts)(hs:(Sy.list2L e acc c l).meas<=m):fJ (Sy.list2L e acc c l).post (wm R e acc c l):=by
 refine .ndR (eN hR hs (.assign c l) .rfl (oT rfl)) fun n l1 h1=>.ite (fun h=>.ok (pL rfl (h1.trans (d1 h).leq))) fun _=>.need fun _ h2=>?_
 exact ZM rfl (cL hR hs (.list2L e _ c _) (h1.trans h2.leq))
theorem z8a(c:Cx)(l:Ts)(hs:(Sy.prim c l).meas<=m):fJ (Sy.prim c l).post (u7 R c l):=by
 have hk:∀{k:Int},kd l 0=k->k≠0->nB l (l.drop 1):=fun h h1=>jf (lO h h1) 1 aN aN
 refine .ite (fun h=>.ok (pN rfl (hk h aN))) fun _=>.ite (fun h=>.ok (pN rfl (hk h aN))) fun _=>.ite (fun h=>.ok (pN rfl (hk h aN))) fun _=>?_
 refine .ite (fun h=>.ok (pN rfl (d1 h))) fun _=>.ite (fun h=>.ok (pN rfl (d1 h))) fun _=>.ite (fun h=>.ok (pN rfl (d1 h))) fun _=>.ite (fun h=>.ok (pN rfl (d1 h))) fun _=>.ite (fun h=>.ok (pN rfl (d1 h))) fun _=>?_
 refine .ite (fun h=>?_) fun _=>.ite (fun h=>?_) fun _=>.ite (fun h=>?_) fun _=>.ite (fun h=>?_) fun _=>.fail
 ·exact .ndR (cN hR hs (.assign c _) (d1 h)) fun n l1 h1=>.need fun _ h2=>.ok (pN rfl (h1.trans h2.leq))
 ·exact .lsR (cL hR hs (.list2 _ c _) (d1 h)) fun n l1 h1=>.ok (pN rfl h1)
 ·exact .lsR (cL hR hs (.fields c _) (d1 h)) fun n l1 h1=>.ok (pN rfl h1)
 ·exact xQ rfl (eN hR hs (.func false c l) .rfl (oT rfl))
theorem z0g(c:Cx)(l:Ts)(hs:(Sy.fields c l).meas<=m):fJ (Sy.fields c l).post (DT R c l):=by
 exact .ite (fun h=>.ok (pL rfl (d1 h))) fun _=>ZM rfl (eL hR hs (.fieldsL [] c l) .rfl (oT rfl))
theorem zwj(acc:List PT)(c:Cx)(l:Ts)(hs:(Sy.fieldsL acc c l).meas<=m):fJ (Sy.fieldsL acc c l).post (DV R acc c l):=by
 refine .ndR (eN hR hs (.field c l) .rfl (oT rfl)) fun n l1 h1=>.ite (fun h=>.ok (pL rfl (h1.trans (d1 h).leq))) fun _=>.need fun _ h2=>?_
 exact ZM rfl (cL hR hs (.fieldsL _ c _) (h1.trans h2.leq))
theorem z5k(c:Cx)(l:Ts)(hs:(Sy.field c l).meas<=m):fJ (Sy.field c l).post (AA R c l):=by
 refine .ite (fun h=>?_) fun _=>.ite (fun _=>.fail) fun h0=>.ite (fun h=>?_) fun _=>.ite (fun h=>?_) fun _=>.fail
 ·exact .ndR (cN hR hs (.assign c _) (d1 h)) fun k l1 h1=>.need fun _ h2=>.need fun _ h3=>.ndR (cN hR hs (.assign c _) (h1.trans (h2.leq.trans h3.leq))) fun v l4 h4=>.ok (pN rfl h4)
 ·exact .ndR (cN hR hs (.assign c _) (jf (nZ h) 2 aN aN)) fun v l1 h1=>.ok (pN rfl h1)
 ·exact .ok (pN rfl (jf (lO h aN) 1 aN aN))
end
theorem E5:∀(n:Nat)(s:Sy),s.meas<n->fJ s.post (og n s)
 |0,_,h=>by omega
 |n+1,s,h=>by
  have ih:=E5 n;have hs:s.meas<=n:=eC
  cases s with
  |stmt c l=>exact z68 ih c l hs
  |keyw c l=>exact z9e ih c l hs
  |condn c l=>exact z58 ih c l hs
  |inner c l=>exact z5b ih c l hs
  |body c l=>exact xaj ih c l hs
  |loops c l=>exact z4c ih c l hs
  |tryS c l=>exact xcc ih c l hs
  |decl c l=>exact xQ rfl (eN ih hs (.declL _ [] c (l.drop 1)) (bJ _ _) (oT rfl))
  |declL k acc c l=>exact z52 ih k acc c l hs
  |block c l=>exact z6c ih c l hs
  |blockL acc c l=>exact z0x ih acc c l hs
  |func d c l=>exact z94 ih d c l hs
  |arrow c l=>exact z6h ih c l hs
  |assign c l=>exact z02 ih c l hs
  |cond c l=>exact xah ih c l hs
  |opnd k c l=>exact z8g ih k c l hs
  |opndL k x c l=>exact z3m ih k x c l hs
  |unary c l=>exact z1v ih c l hs
  |postf c l=>exact z3d ih c l hs
  |link x c l=>exact z82 ih x c l hs
  |chain c l=>exact z59 ih c l hs
  |chainN x c l=>exact z0q ih x c l hs
  |chainL x c l=>exact z0r ih x c l hs
  |list2 e c l=>exact z4h ih e c l hs
  |list2L e acc c l=>exact zz0 ih e acc c l hs
  |prim c l=>exact z8a ih c l hs
  |fields c l=>exact z0g ih c l hs
  |fieldsL acc c l=>exact zwj ih acc c l hs
  |field c l=>exact z5k ih c l hs
def Lf{α:Type}(x y:Re α):Prop:=x=none\/x=y
theorem Lf.rfl{α:Type}{x:Re α}:Lf x x:=.inr (Eq.refl x)
theorem Lf.bnd{α β:Type}{x y:Re α}{k k':α->Ts->Re β}(h:Lf x y)(hk:∀a l,Lf (k a l) (k' a l)):Lf (bnd x k) (bnd y k'):=by
 rcases h with h|h
 ·subst h;exact .inl (Eq.refl _)
 ·subst h
  match x with
  |none=>exact .inl (Eq.refl _)
  |some none=>exact .rfl
  |some (some (a,l))=>exact hk a l
theorem Lf.ite{α:Type}{c:Prop} [Decidable c] {x y x' y':Re α} (h1:Lf x x') (h2:Lf y y'):Lf (if c then x else y) (if c then x' else y'):=by
 grind
theorem Lf.need{β:Type}{s:Bs}{l:Ts}{k k':Ts->Re β}(hk:∀l,Lf (k l) (k' l)):Lf (fV s l k) (fV s l k'):=.ite (hk _) .rfl
theorem Lf.name{β:Type}{l:Ts}{k k':Bs->Ts->Re β}(hk:∀s l,Lf (k s l) (k' s l)):Lf (rC l k) (rC l k'):=.ite (hk _ _) .rfl
theorem Lf.nd{β:Type}{x y:Re Rv}{k k':PT->Ts->Re β}(h:Lf x y)(hk:∀n l,Lf (k n l) (k' n l)):Lf (ndR x k) (ndR y k'):=.bnd h fun v l=>by
 cases v with
 |nd n=>exact hk n l
 |nb n b=>exact .rfl
 |ls n=>exact .rfl
theorem Lf.nb{β:Type}{x y:Re Rv}{k k':PT->Bool->Ts->Re β}(h:Lf x y)(hk:∀n b l,Lf (k n b l) (k' n b l)):Lf (nbR x k) (nbR y k'):=.bnd h fun v l=>by
 cases v with
 |nb n b=>exact hk n b l
 |nd n=>exact .rfl
 |ls n=>exact .rfl
theorem Lf.ls{β:Type}{x y:Re Rv}{k k':List PT->Ts->Re β}(h:Lf x y)(hk:∀n l,Lf (k n l) (k' n l)):Lf (lsR x k) (lsR y k'):=.bnd h fun v l=>by
 cases v with
 |ls n=>exact hk n l
 |nb n b=>exact .rfl
 |nd n=>exact .rfl
theorem P1{R R':Sy->Re Rv}(h:∀s,Lf (R s) (R' s))(s:Sy):Lf (JC R s) (JC R' s):=by
 have hx:∀c l,Lf (pa R c l) (pa R' c l):=fun c l=>by
  exact .nd (h _) fun n l=>.need fun l=>.rfl
 have hf:∀c a l,Lf (po R c a l) (po R' c a l):=fun c a l=>by
  refine .need fun l1=>?_
  have third:∀(b:PT)(l2:Ts),Lf (fV mO l2 fun l3=>
   if aM l3 0 eQ then ndR (R (.body c (l3.drop 1))) fun s l5=>bY (Rv.nd (nd 30 [a,b,nd 37 [],s])) l5
   else ndR (R (.assign c l3)) fun d l4=>fV eQ l4 fun l5=>ndR (R (.body c l5)) fun s l6=>bY (Rv.nd (nd 30 [a,b,d,s])) l6) (fV mO l2 fun l3=>
   if aM l3 0 eQ then ndR (R' (.body c (l3.drop 1))) fun s l5=>bY (Rv.nd (nd 30 [a,b,nd 37 [],s])) l5
   else ndR (R' (.assign c l3)) fun d l4=>fV eQ l4 fun l5=>ndR (R' (.body c l5)) fun s l6=>bY (Rv.nd (nd 30 [a,b,d,s])) l6):=fun b l2=>
   .need fun l3=>.ite (.nd (h _) fun _ _=>.rfl) (.nd (h _) fun _ _=>.need fun _=>.nd (h _) fun _ _=>.rfl)
  exact .ite (third _ _) (.nd (h _) fun _ _=>third _ _)
 have ht:∀c ks l,Lf (wc R c ks l) (wc R' c ks l):=fun c ks l=>by
  exact .ite (.nd (h _) fun _ _=>.rfl) .rfl
 cases s with
 |stmt c l=>
  show Lf (vq R c l) (vq R' c l);exact .ite (.nd (h _) fun _ _=>.need fun _=>.rfl) (.ite (h _) (.ite (h _) (.ite .rfl (.ite (.nb (h _) fun _ _ _=>.ite .rfl (hx _ _)) (hx _ _)))))
 |keyw c l=>
  show Lf (wX R c l) (wX R' c l);exact .ite (.nd (h _) fun _ _=>.nd (h _) fun _ _=>.ite (.nd (h _) fun _ _=>.rfl) .rfl) (.ite (.nd (h _) fun _ _=>.nd (h _) fun _ _=>.rfl) (.ite (.nd (h _) fun _ _=>.rfl) (.ite (.ite (.ite .rfl (.nd (h _) fun _ _=>.need fun _=>.rfl)) .rfl) (.ite .rfl (.ite (.nd (h _) fun _ _=>.need fun _=>.rfl) (.ite (.nd (h _) fun _ _=>.rfl) .rfl))))))
 |condn c l=>
  show Lf (tw R c l) (tw R' c l);exact .need fun _=>.nd (h _) fun _ _=>.need fun _=>.rfl
 |inner c l=>
  show Lf (DR R c l) (DR R' c l);exact .ite .rfl (h _)
 |body c l=>
  show Lf (CT R c l) (CT R' c l);exact h _
 |loops c l=>
  show Lf (wa R c l) (wa R' c l);exact .need fun _=>.ite (.nd (h _) fun _ _=>.need fun _=>.nd (h _) fun _ _=>.rfl) (.ite (.nd (h _) fun _ _=>hf _ _ _) (.ite (hf _ _ _) (.nd (h _) fun _ _=>hf _ _ _)))
 |tryS c l=>
  show Lf (tb R c l) (tb R' c l);exact .nd (h _) fun _ _=>.ite (.ite (.name fun _ _=>.need fun _=>.nd (h _) fun _ _=>ht _ _ _) (.nd (h _) fun _ _=>ht _ _ _)) (ht _ _ _)
 |decl c l=>
  show Lf (DA R c l) (DA R' c l);exact h _
 |declL k acc c l=>
  show Lf (vr R k acc c l) (vr R' k acc c l);exact .name fun _ _=>.ite (.nd (h _) fun _ _=>.ite (h _) .rfl) (.ite .rfl (.ite (h _) .rfl))
 |block c l=>
  show Lf (w7 R c l) (w7 R' c l);exact .need fun _=>h _
 |blockL acc c l=>
  show Lf (wt R acc c l) (wt R' acc c l);exact .ite .rfl (.ite .rfl (.nd (h _) fun _ _=>h _))
 |func d c l=>
  show Lf (ao R d c l) (ao R' d c l);unfold ao;exact .need fun _=>.ite (.name fun _ _=>.bnd .rfl fun _ _=>.nd (h _) fun _ _=>.rfl) (.bnd .rfl fun _ _=>.nd (h _) fun _ _=>.rfl)
 |arrow c l=>
  show Lf (fw R c l) (fw R' c l);exact .ite (.bnd .rfl fun _ _=>.need fun _=>.ite (.nd (h _) fun _ _=>.rfl) (.nd (h _) fun _ _=>.rfl)) (.name fun _ _=>.need fun _=>.ite (.nd (h _) fun _ _=>.rfl) (.nd (h _) fun _ _=>.rfl))
 |assign c l=>
  show Lf (wo R c l) (wo R' c l);exact .ite (h _) (.ite (.ite (.nd (h _) fun _ _=>.rfl) .rfl) (.nd (h _) fun _ _=>.ite (.ite .rfl (.ite (.nd (h _) fun _ _=>.rfl) .rfl)) .rfl))
 |cond c l=>
  show Lf (DE R c l) (DE R' c l);exact .nd (h _) fun _ _=>.ite (.nd (h _) fun _ _=>.need fun _=>.nd (h _) fun _ _=>.rfl) .rfl
 |opnd k c l=>
  show Lf (pb R k c l) (pb R' k c l);exact .ite (h _) (.nd (h _) fun _ _=>h _)
 |opndL k n c l=>
  show Lf (wb R k n c l) (wb R' k n c l);exact .ite (.ite .rfl (.nd (h _) fun _ _=>h _)) .rfl
 |unary c l=>
  show Lf (pg R c l) (pg R' c l);exact .ite (.ite (.ite (.nd (h _) fun _ _=>.rfl) .rfl) (.ite (.nd (h _) fun _ _=>.rfl) (.ite (h _) (.nd (h _) fun _ _=>.rfl)))) (h _)
 |postf c l=>
  show Lf (AE R c l) (AE R' c l);exact .nd (h _) fun _ _=>.rfl
 |link n c l=>
  show Lf (zv R n c l) (zv R' n c l);exact .ite .rfl (.ite (.nd (h _) fun _ _=>.need fun _=>.rfl) .rfl)
 |chain c l=>
  show Lf (w8 R c l) (w8 R' c l);exact .ite (.nd (h _) fun _ _=>h _) (.nd (h _) fun _ _=>h _)
 |chainN n c l=>
  show Lf (DQ R n c l) (DQ R' n c l);exact .nb (h _) fun _ _ _=>.ite (h _) (.need fun _=>.ls (h _) fun _ _=>h _)
 |chainL n c l=>
  show Lf (DZ R n c l) (DZ R' n c l);exact .nb (h _) fun _ _ _=>.ite (h _) (.ite (.ls (h _) fun _ _=>h _) .rfl)
 |list2 e c l=>
  show Lf (vz R e c l) (vz R' e c l);exact .ite .rfl (h _)
 |list2L e acc c l=>
  show Lf (wm R e acc c l) (wm R' e acc c l);exact .nd (h _) fun _ _=>.ite .rfl (.need fun _=>h _)
 |prim c l=>
  show Lf (u7 R c l) (u7 R' c l);exact .ite .rfl (.ite .rfl (.ite .rfl (.ite .rfl (.ite .rfl (.ite .rfl (.ite .rfl (.ite .rfl (.ite (.nd (h _) fun _ _=>.need fun _=>.rfl) (.ite (.ls (h _) fun _ _=>.rfl) (.ite (.ls (h _) fun _ _=>.rfl) (.ite (h _) .rfl)))))))))))
 |fields c l=>
  show Lf (DT R c l) (DT R' c l);exact .ite .rfl (h _)
 |fieldsL acc c l=>
  show Lf (DV R acc c l) (DV R' acc c l);exact .nd (h _) fun _ _=>.ite .rfl (.need fun _=>h _)
 |field c l=>
  show Lf (AA R c l) (AA R' c l);exact .ite (.nd (h _) fun _ _=>.need fun _=>.need fun _=>.nd (h _) fun _ _=>.rfl) (.ite .rfl (.ite (.nd (h _) fun _ _=>.rfl) .rfl))
theorem Oz:∀(n:Nat)(s:Sy),Lf (og n s) (og (n+1) s)
 |0,_=>.inl rfl
 |n+1,s=>P1 (Oz n) s
theorem Nj{n m:Nat}(h:n<=m)(s:Sy):Lf (og n s) (og m s):=by
 induction m with
 |zero=>have:n=0:=by omega
        subst this;exact .rfl
 |succ m ih=>
  rcases aW m n with h1|h1
  ·have:n=m+1:=eC
   subst this;exact .rfl
  ·rcases ih h1 with h2|h2
   ·exact .inl h2
   ·rw[h2];exact Oz m s
def ev(s:Sy):Re Rv:=og (s.meas+1) s
theorem xax{n:Nat}{s:Sy}(h:s.meas<n):og n s=ev s:=by
 obtain⟨o,ho,_⟩:=E5 (s.meas+1) s (xf _)
 rcases Nj (show s.meas+1<=n by omega) s with h1|h1
 ·rw[ho]at h1;cases h1
 ·exact h1.symm
theorem JK(s:Sy):fJ s.post (ev s):=E5 _ s (xf _)
theorem xhh(n:Nat)(s:Sy):Lf (og n s) (ev s):=by
 rcases aW s.meas n with h|h
 ·exact .inr (xax h)
 ·exact Nj (show n<=s.meas+1 by omega) s
theorem mU(s:Sy):ev s=JC ev s:=by
 obtain⟨o,ho,_⟩:=JK s;have h:Lf (og (s.meas+1) s) (JC ev s):=P1 (xhh s.meas) s
 rcases h with h|h
 ·have h2:ev s=none:=h;rw[ho]at h2;cases h2
 ·exact h
theorem B1{l z:Ts}{n:Nat}(h:n<l.length)(s:Bs):aM (l++z) n s=aM l n s:=by
 unfold aM tx kd
 grind
theorem OA{l z:Ts}{n:Nat}(h:n<l.length):kd (l++z) n=kd l n:=by
 unfold kd
 grind
theorem YW{l z:Ts}{n:Nat}(h:n<l.length):tx (l++z) n=tx l n:=by
 unfold tx
 grind
theorem Ql{l:Ts}{n:Nat}{s s':Bs}(h:aM l n s=true)(dN:s≠s'):aM l n s'=false:=by
 unfold aM at h ⊢
 grind
theorem OM{l:Ts}{n:Nat}{s:Bs}(h:aM l n s=true):kd l n=2\/kd l n=5:=by
 unfold aM at h
 grind
theorem JW{l:Ts}{n:Nat}{s:Bs}(h:aM l n s=true):tx l n=s:=by
 unfold aM at h
 grind
structure Stq(l:Ts):Prop where
 dot:aM l 0 AZ=false
 lbr:aM l 0 sX=false
 lpar:aM l 0 iS=false
 pun:kd l 0≠5\/gF (tx l 0) 28 2=0
structure Y0(l:Ts):Prop extends Stq l where
 quest:aM l 0 ZQ=false
 arr:aM l 0 pD=false
 op:(kd l 0≠5/\kd l 0≠2)\/∀fr cnt,(fr,cnt)∈[(22,2),(21,1),(11,4),(15,6),(6,2),(8,3)]->gF (tx l 0) fr cnt=0
theorem Y0.bin{l:Ts}(h:Y0 l)(k:Nat):(decide (kd l 0=5)||decide (kd l 0=2))=false\/gF (tx l 0) (oe k).1 (oe k).2=0:=by
 rcases h.op with h|h
 ·grind
 ·right
  refine h _ _ ?_;unfold oe
  split<;>decide
def Gg(l:Ts):Bool:=(decide (kd l 0=5)||decide (kd l 0=2))&&(decide (tx l 0=IZ)||(decide (gF (tx l 0) 28 2≠0)||decide (gF (tx l 0) 1 5≠0)))
def hY{α:Type}(z l:Ts)(x x':Re α):Prop:=∀a l1,x=some (some (a,l1))->l1 <:+ l/\(l1≠[]\/aM z 0 eQ=true->x'=some (some (a,l1++z)))
section
variable{α β:Type}{z l:Ts}
theorem hY.fail{x':Re α}:hY z l rK x':=fun _ _ h=>by cases h
theorem hY.ok{a:α}{l1:Ts}(h:l1 <:+ l):hY z l (bY a l1) (bY a (l1++z)):=fun _ _ e=>by cases e;exact⟨h,fun _=>rfl⟩
theorem hY.suf{l':Ts}{x x':Re α}(h:hY z l' x x')(hl:l' <:+ l):hY z l x x':=fun a l1 e=>⟨(h a l1 e).1.trans hl,(h a l1 e).2⟩
theorem hY.bnd{x x':Re α}{k k':α->Ts->Re β}(h:hY z l x x')(hk:∀a l1,x=some (some (a,l1))->l1 <:+ l->hY z l1 (k a l1) (k' a (l1++z))):hY z l (bnd x k) (bnd x' k'):=fun b l2 e=>by
 cases hx:x with
 |none=>rw[hx]at e;cases e
 |some o=>
  cases o with
  |none=>rw[hx]at e;cases e
  |some p=>
   obtain⟨a,l1⟩:=p;rw[hx]at e;obtain⟨h1,h2⟩:=h a l1 hx;obtain⟨h3,h4⟩:=hk a l1 hx h1 b l2 e;refine⟨h3.trans h1,fun hw=>?_⟩
   have h5:=h2 (hw.imp (fun h6 h7=>by grind) id)
   rw[h5];exact h4 hw
theorem hY.nd{x x':Re Rv}{k k':PT->Ts->Re β}(h:hY z l x x')(hk:∀n l1,x=some (some (.nd n,l1))->l1 <:+ l->hY z l1 (k n l1) (k' n (l1++z))):hY z l (ndR x k) (ndR x' k'):=.bnd h fun v l1 h0 h1=>by
 cases v with
 |nd n=>exact hk n l1 h0 h1
 |nb n b=>exact fun _ _ e=>by cases e
 |ls n=>exact fun _ _ e=>by cases e
theorem hY.nb{x x':Re Rv}{k k':PT->Bool->Ts->Re β}(h:hY z l x x')(hk:∀n b l1,x=some (some (.nb n b,l1))->l1 <:+ l->hY z l1 (k n b l1) (k' n b (l1++z))):hY z l (nbR x k) (nbR x' k'):=.bnd h fun v l1 h0 h1=>by
 cases v with
 |nb n b=>exact hk n b l1 h0 h1
 |nd n=>exact fun _ _ e=>by cases e
 |ls n=>exact fun _ _ e=>by cases e
theorem hY.ls{x x':Re Rv}{k k':List PT->Ts->Re β}(h:hY z l x x')(hk:∀n l1,x=some (some (.ls n,l1))->l1 <:+ l->hY z l1 (k n l1) (k' n (l1++z))):hY z l (lsR x k) (lsR x' k'):=.bnd h fun v l1 h0 h1=>by
 cases v with
 |ls n=>exact hk n l1 h0 h1
 |nb n b=>exact fun _ _ e=>by cases e
 |nd n=>exact fun _ _ e=>by cases e
theorem hY.ite{c c':Prop} [Decidable c] [Decidable c'] {x y x' y':Re α} (h1:c->c'->hY z l x x') (h2:¬c->¬c'->hY z l y y') (h3:c->¬c'->hY z l x y') (h4:¬c->c'->hY z l y x'):hY z l (if c then x else y) (if c' then x' else y'):=by
 grind
theorem hY.drop{k:Nat}(h:k<=l.length):(l++z).drop k=l.drop k++z:=List.drop_append_of_le_length h
theorem hY.none{x x':Re α}(hz:aM z 0 eQ=false)(h:∀a l1,x=some (some (a,l1))->l1=[]):hY z l x x':=fun a l1 e=>by
 grind
theorem hY.ends{x x':Re α}{y:Re α}(hz:aM z 0 eQ=false)(h:hY z [] x y):hY z l x x':=.none hz fun a l1 e=>List.suffix_nil.1 (h a l1 e).1
theorem hY.iff{c c':Prop} [Decidable c] [Decidable c'] {x y x' y':Re α} (hc:l≠[]\/aM z 0 eQ=true->(c ↔ c')) (hn:¬(l≠[]\/aM z 0 eQ=true)->¬c) (h1:c->hY z l x x') (h2:hY z l y y'):hY z l (if c then x else y) (if c' then x' else y'):=by
 by_cases hw:l≠[]\/aM z 0 eQ=true
 ·grind
 ·have hl:l=[]:=jS fun h=>hw (.inl h)
  have hz:aM z 0 eQ=false:=by
   grind
  subst hl;exact .ite (fun h _=>h1 h) (fun _ _=>h2) (fun h _=>absurd h (hn hw)) fun h _=>.ends hz h2
theorem EF{l:Ts}(h:l≠[]):0<l.length:=aS.2 h
theorem Gj(n:Nat)(s:Bs):aM [] n s=false:=by unfold aM kd tx;simp
theorem E8(n:Nat):kd [] n=0:=by unfold kd;simp
theorem hY.is{s:Bs}(hs:s≠eQ){x y x' y':Re α}(h1:aM l 0 s=true->hY z l x x')(h2:hY z l y y'):hY z l (if aM l 0 s then x else y) (if aM (l++z) 0 s then x' else y'):=by
 refine .iff (fun hw=>?_) (fun hw=>?_) h1 h2
 ·by_cases hl:l=[]
  ·subst hl;rw[Gj,tB,Ql (hw.resolve_left fun h=>h rfl) (iW hs)]
  ·rw[B1 (EF hl)]
 ·have:l=[]:=jS fun h=>hw (.inl h)
  subst this;rw[Gj];grind
theorem z5{z:Ts}(h:aM z 0 eQ=true):(kd z 0=2\/kd z 0=5)/\tx z 0=eQ:=⟨OM h,JW h⟩
theorem hY.kdI{k:Int}(h5:k≠5)(Zm:k≠2)(h0:k≠0){x y x' y':Re α}(h1:kd l 0=k->hY z l x x')(h2:hY z l y y'):hY z l (if kd l 0=k then x else y) (if kd (l++z) 0=k then x' else y'):=by
 refine .iff (fun hw=>?_) (fun hw=>?_) h1 h2
 ·by_cases hl:l=[]
  ·subst hl;refine⟨fun e=>absurd e.symm h0,fun e=>?_⟩
   rcases(z5 (hw.resolve_left fun h=>h rfl)).1 with e2|e2
   ·exact absurd (e.symm.trans e2) Zm
   ·exact absurd (e.symm.trans e2) h5
  ·rw[OA (EF hl)]
 ·have:l=[]:=jS fun h=>hw (.inl h)
  subst this;rw[E8];exact fun e=>h0 e.symm
theorem hY.need{s:Bs}{k k':Ts->Re α}(hk:aM l 0 s=true->hY z (l.drop 1) (k (l.drop 1)) (k' (l.drop 1++z))):hY z l (fV s l k) (fV s (l++z) k'):=by
 unfold fV
 by_cases h:aM l 0 s=true
 ·have hp:=nZ h;rw[aF h,aF (by rw[B1 hp];exact h),hY.drop oM]
  exact(hk h).suf (bJ _ _)
 ·rw[aD h];exact .fail
theorem hY.name{k k':Bs->Ts->Re α}(hk:kd l 0=1->hY z (l.drop 1) (k (tx l 0) (l.drop 1)) (k' (tx l 0) (l.drop 1++z))):hY z l (rC l k) (rC (l++z) k'):=by
 unfold rC
 by_cases h:Go.Proofs.YtjkcdcloomkooaaGreatDoor.kd l 0=1
 ·have hp:=lO h aN
  rw[aF h,aF (by rw[OA hp];exact h),YW hp,hY.drop oM]
  exact(hk h).suf (bJ _ _)
 ·rw[aD h];exact .fail
end
def Sy.put:Sy->Ts->Sy
 | .stmt c _,l=>.stmt c l
 | .keyw c _,l=>.keyw c l
 | .condn c _,l=>.condn c l
 | .inner c _,l=>.inner c l
 | .body c _,l=>.body c l
 | .loops c _,l=>.loops c l
 | .tryS c _,l=>.tryS c l
 | .decl c _,l=>.decl c l
 | .declL k a c _,l=>.declL k a c l
 | .block c _,l=>.block c l
 | .blockL a c _,l=>.blockL a c l
 | .func d c _,l=>.func d c l
 | .arrow c _,l=>.arrow c l
 | .assign c _,l=>.assign c l
 | .cond c _,l=>.cond c l
 | .opnd k c _,l=>.opnd k c l
 | .opndL k n c _,l=>.opndL k n c l
 | .unary c _,l=>.unary c l
 | .postf c _,l=>.postf c l
 | .link n c _,l=>.link n c l
 | .chain c _,l=>.chain c l
 | .chainN n c _,l=>.chainN n c l
 | .chainL n c _,l=>.chainL n c l
 | .list2 e c _,l=>.list2 e c l
 | .list2L e a c _,l=>.list2L e a c l
 | .prim c _,l=>.prim c l
 | .fields c _,l=>.fields c l
 | .fieldsL a c _,l=>.fieldsL a c l
 | .field c _,l=>.field c l
def nY{α:Type}(x:Re α):Prop:=∀r,x≠some (some r)
theorem nY.nd{β:Type}{x:Re Rv}{k:PT->Ts->Re β}(h:nY x):nY (ndR x k):=fun r e=>by
 unfold ndR bnd at e
 exact Jy
theorem nY.ls{β:Type}{x:Re Rv}{k:List PT->Ts->Re β}(h:nY x):nY (lsR x k):=fun r e=>by
 unfold lsR bnd at e
 exact Jy
theorem nY.fail{α:Type}:nY (rK:Re α):=fun r e=>by cases e
theorem nY.need{β:Type}{s:Bs}{l:Ts}{k:Ts->Re β}(h:aM l 0 s=false):nY (fV s l k):=by
 unfold fV;rw[aD aX]
 exact .fail
theorem nY.needK{β:Type}{s:Bs}{l:Ts}{k:Ts->Re β}(h:aM l 0 s=true->nY (k (l.drop 1))):nY (fV s l k):=by
 unfold fV
 split
 ·exact h jO
 ·exact .fail
theorem nY.bnd{α β:Type}{x:Re α}{k:α->Ts->Re β}(h:nY x):nY (bnd x k):=fun r e=>by
 unfold Go.Proofs.YtjkcdcloomkooaaGreatDoor.bnd at e
 exact Jy
theorem nY.ite{α:Type}{c:Prop} [Decidable c] {x y:Re α} (h1:c->nY x) (h2:¬c->nY y):nY (if c then x else y):=by
 grind
theorem zl4{c:Cx}{l:Ts}(hp:nY (ev (.prim c l)))(ha:je l=0)(hy:aM l 0 ZR=false)(hn:aM l 0 QI=false)(hb:Gg l=false):nY (ev (.assign c l)):=by
 have h1:nY (ev (.chain c l)):=by
  rw[mU];show nY (w8 ev c l);unfold w8;rw[hn];exact .nd hp
 have h2:nY (ev (.postf c l)):=by
  rw[mU];exact nY.nd h1
 have h3:nY (ev (.unary c l)):=by
  rw[mU];show nY (pg ev c l);unfold Gg at hb;refine .ite (fun h5=>?_) fun _=>h2
  rw[h5,bO]at hb;simp only[cG,gX,mJ]at hb;rw[aD hb.1,aD (by rw[mJ];exact hb.2.1),aF hb.2.2]
  exact h2
 have h4:∀(j k:Nat),k+j=6->nY (ev (.opnd k c l)):=by
  intro j
  induction j with
  |zero=>
   intro k hk;rw[mU];show nY (pb ev k c l);unfold pb
   grind
  |succ j ih=>
   intro k hk;rw[mU];show nY (pb ev k c l);unfold pb;rw[aD oM]
   exact .nd (ih (k+1) oM)
 rw[mU];show nY (wo ev c l);unfold wo;rw[aD oM,hy,aD aN]
 refine .nd ?_;rw[mU];exact nY.nd (h4 6 0 rfl)
theorem dp{l z:Ts}(h:0<l.length):(l++z).drop 1=l.drop 1++z:=hY.drop h
theorem zv8{c:Cx}{l:Ts}(h:∀w,w∈[nf,p9,py,pf,n5,jc,oy,q7]->aM l 0 w=false):ev (.keyw c l)=bY (.nb (nd 0 []) false) l:=by
 rw[mU];show wX ev c l=_;unfold wX;simp_all
section
variable{z:Ts}{m:Nat}(hR:∀s:Sy,s.meas<m->hY z s.l (ev s) (ev (s.put (s.l++z))))
include hR
end
theorem zl8(l:Ts):∃n0,n0=(if aM l 0 jI then 1 else 0)/\je l=(if kd l n0=1 then(if aM l (n0+1) pD then n0+1 else 0)else if aM l n0 iS then(match ph l (l.length+1) (n0+1)with
  |some n=>if aM l n eQ&&aM l (n+1) pD then n+1 else 0
  |none=>0)else 0):=⟨_,rfl,rfl⟩
theorem z6i{l:Ts}(hA:aM l 0 jI=false):je l=(if kd l 0=1 then(if aM l 1 pD then 1 else 0)else if aM l 0 iS then(match ph l (l.length+1) 1 with
  |some n=>if aM l n eQ&&aM l (n+1) pD then n+1 else 0
  |none=>0)else 0):=by
 obtain⟨n0,e0,ha⟩:=zl8 l
 grind
theorem sd{l:Ts}{k:Nat}:l.drop k <:+ l:=bJ k l
theorem hY.op{z l:Ts}{fr cnt:Nat}(h0:gF eQ fr cnt=0){x x' y y':Re Rv}(hx:l≠[]->kd l 0=5->hY z l x x')(hy:hY z l y y'):
  hY z l (if kd l 0=5 then(if gF (tx l 0) fr cnt=0 then y else x)else y) (if kd (l++z) 0=5 then(if gF (tx (l++z) 0) fr cnt=0 then y' else x')else y'):=by
 by_cases hl:l=[]
 ·subst hl;rw[E8,aD aN]
  by_cases hz:aM z 0 eQ=true
  ·rw[tB,(z5 hz).2,h0,aF rfl]
   grind
  ·exact .ends (by simpa using hz) hy
 ·rw[OA (EF hl),YW (EF hl)]
  grind
theorem hY.op2{z l:Ts}{fr cnt:Nat}(h0:gF eQ fr cnt=0){x x' y y':Re Rv}(hx:l≠[]->hY z l x x')(hy:hY z l y y'):
  hY z l (if decide (kd l 0=5)||decide (kd l 0=2)then(if gF (tx l 0) fr cnt=0 then y else x)else y) (if decide (kd (l++z) 0=5)||decide (kd (l++z) 0=2)then(if gF (tx (l++z) 0) fr cnt=0 then y' else x')else y'):=by
 by_cases hl:l=[]
 ·subst hl;rw[E8,aD aN]
  by_cases hz:aM z 0 eQ=true
  ·rw[tB,(z5 hz).2,h0,aF rfl]
   grind
  ·exact .ends (by simpa using hz) hy
 ·rw[OA (EF hl),YW (EF hl)]
  grind
section
variable{z:Ts}{m:Nat}(hR:∀s:Sy,s.meas<m->hY z s.l (ev s) (ev (s.put (s.l++z))))
include hR
end
def brk(s:Bs):Nat:=if s=iS\/s=sX\/s=nN then 1 else if s=eQ\/s=yG\/s=sK then 2 else 0
def sB(t:Tk):Nat:=if t.k=5 then brk t.t else 0
def wx:Nat->Ts->Nat
 |n,[]=>n
 |n,t::l=>wx (match sB t with|0=>n|1=>n+1|_=>n-1) l
def uV:Nat->Ts->Bool
 |_,[]=>false
 |n,t::l=>match sB t with
  |0=>uV n l
  |1=>if 128<n+1 then true else uV (n+1) l
  |_=>uV (n-1) l
theorem Ot:∀(n:Nat)(a b:Ts),wx n (a++b)=wx (wx n a) b
 |n,[],b=>rfl
 |n,t::a,b=>by rw[qD,wx,wx,Ot]
def Bc(t:Tk):Prop:=t.k=2->brk t.t=0
def gg(b c:Nat)(l l1:Ts):Prop:=∃d,l=d++l1/\∀n,wx (n+b) d=n+c
theorem gg.rfl{b:Nat}{l:Ts}:gg b b l l:=⟨[],Eq.refl l,fun _=>Eq.refl _⟩
theorem gg.trans{b c e:Nat}{l l1 l2:Ts}(h:gg b c l l1)(h':gg c e l1 l2):gg b e l l2:=by
 obtain⟨d,h1,h2⟩:=h;obtain⟨d',h3,h4⟩:=h';exact⟨d++d',by grind,fun n=>by rw[Ot,h2,h4]⟩
theorem gg.up{b c:Nat}{l l1:Ts}(k:Nat)(h:gg b c l l1):gg (b+k) (c+k) l l1:=by
 obtain⟨d,h1,h2⟩:=h;exact⟨d,h1,fun n=>by rw[show n+(b+k)=n+k+b by omega,h2];omega⟩
theorem gg.tok{l:Ts}{t:Tk}(h:l[0]?=some t)(b:Nat)(hb:sB t=2->0<b):gg b (match sB t with|0=>b|1=>b+1|_=>b-1) l (l.drop 1):=by
 cases l with
 |nil=>cases h
 |cons x l=>
  cases h
  refine⟨[t],Eq.refl _,fun n=>?_⟩
  have hle:sB t<=2:=by unfold sB brk;grind
  rw[wx,wx]
  grind
theorem zv9{l:Ts}{s:Bs}(h:aM l 0 s=true)(hT:∀t∈l,Bc t):∃t,l[0]?=some t/\sB t=brk s:=by
 have hp:=nZ h;have hk:=OM h;have ht:=JW h;refine⟨l[0],aB hp,?_⟩;have hm:=hT l[0] (oa hp);unfold kd at hk;unfold tx at ht;rw[aB hp]at hk ht;simp only at hk ht;unfold sB
 rcases hk with e|e
 ·rw[aD (by rw[e];decide),<- ht]
  exact(hm e).symm
 ·rw[aF e,ht]
def Bl{α:Type}(b c:Nat)(l:Ts)(x:Re α):Prop:=(∀t∈l,Bc t)->∀a l1,x=some (some (a,l1))->gg b c l l1
section
variable{α β:Type}{b c e:Nat}{l:Ts}
theorem Bl.fail:Bl b c l (rK:Re α):=fun _ _ _ h=>by cases h
theorem Bl.ok{a:α}:Bl b b l (bY a l):=fun _ _ _ h=>by cases h;exact .rfl
theorem Bl.pre{l1:Ts}{x:Re α}(h:(∀t∈l,Bc t)->gg b e l l1)(hx:Bl e c l1 x):Bl b c l x:=fun hT a l2 he=>by
 have h1:=h hT;obtain⟨d,hd,_⟩:=id h1;exact h1.trans (hx (fun t ht=>hT t aX) a l2 he)
theorem Bl.bnd{x:Re α}{k:α->Ts->Re β}(h:Bl b e l x)(hk:∀a l1,x=some (some (a,l1))->Bl e c l1 (k a l1)):Bl b c l (bnd x k):=fun hT a l2 he=>by
 cases hx:x with
 |none=>rw[hx]at he;cases he
 |some o=>
  cases o with
  |none=>rw[hx]at he;cases he
  |some p=>
   obtain⟨a1,l1⟩:=p;rw[hx]at he;exact Bl.pre (fun hT=>h hT a1 l1 hx) (hk a1 l1 hx) hT a l2 he
theorem Bl.nd{x:Re Rv}{k:PT->Ts->Re β}(h:Bl b e l x)(hk:∀n l1,x=some (some (.nd n,l1))->Bl e c l1 (k n l1)):Bl b c l (ndR x k):=.bnd h fun v l1 h0=>by
 cases v with
 |nd n=>exact hk n l1 h0
 |nb n b=>exact fun _ _ _ e=>by cases e
 |ls n=>exact fun _ _ _ e=>by cases e
theorem Bl.nb{x:Re Rv}{k:PT->Bool->Ts->Re β}(h:Bl b e l x)(hk:∀n q l1,x=some (some (.nb n q,l1))->Bl e c l1 (k n q l1)):Bl b c l (nbR x k):=.bnd h fun v l1 h0=>by
 cases v with
 |nb n q=>exact hk n q l1 h0
 |nd n=>exact fun _ _ _ e=>by cases e
 |ls n=>exact fun _ _ _ e=>by cases e
theorem Bl.ls{x:Re Rv}{k:List PT->Ts->Re β}(h:Bl b e l x)(hk:∀n l1,x=some (some (.ls n,l1))->Bl e c l1 (k n l1)):Bl b c l (lsR x k):=.bnd h fun v l1 h0=>by
 cases v with
 |ls n=>exact hk n l1 h0
 |nb n b=>exact fun _ _ _ e=>by cases e
 |nd n=>exact fun _ _ _ e=>by cases e
theorem Bl.ite{p:Prop} [Decidable p] {x y:Re α} (h1:p->Bl b c l x) (h2:¬p->Bl b c l y):Bl b c l (if p then x else y):=by
 grind
theorem Bl.w0{s:Bs}{x:Re α}(h:aM l 0 s=true)(hs:brk s=0)(hx:Bl b c (l.drop 1) x):Bl b c l x:=.pre (fun hT=>by
 obtain⟨t,h1,h2⟩:=zv9 h hT
 have:=gg.tok h1 b oM
 grind) hx
theorem Bl.n0{s:Bs}{k:Ts->Re α}(hs:brk s=0)(hx:aM l 0 s=true->Bl b c (l.drop 1) (k (l.drop 1))):Bl b c l (fV s l k):=.ite (fun h=>.w0 h hs (hx h)) fun _=>.fail
theorem Bl.k0{x:Re α}(h:kd l 0≠5\/brk (tx l 0)=0)(hx:Bl b c (l.drop 1) x):Bl b c l x:=.pre (fun hT=>by
 cases l with
 |nil=>exact .rfl
 |cons t l=>
  have h2:sB t=0:=by
   unfold sB
   rcases h with h|h
   ·exact aD h
   ·split
    ·exact h
    ·exact Eq.refl _
  have:=gg.tok (l:=t::l) (Eq.refl _) b oM
  grind) hx
theorem Bl.name{k:Bs->Ts->Re α}(hx:kd l 0=1->Bl b c (l.drop 1) (k (tx l 0) (l.drop 1))):Bl b c l (rC l k):=.ite (fun h=>.k0 (.inl LQ) (hx h)) fun _=>.fail
end
def Sy.ob:Sy->Nat
 | .blockL _ _ _|.list2 _ _ _|.list2L _ _ _ _|.fields _ _|.fieldsL _ _ _=>1
 |_=>0
def Sy.eok:Sy->Prop
 | .list2 e _ _|.list2L e _ _ _=>brk e=2
 | .decl _ l=>brk (tx l 0)=0
 |_=>True
section
variable{m:Nat}(hB:∀s:Sy,s.meas<m->s.eok->Bl s.ob 0 s.l (ev s))
include hB
end
def rN{α:Type}(z:Ts)(x x':Re α):Prop:=∀a l1,x=some (some (a,l1))->x'=some (some (a,l1++z))
section
variable{α β:Type}{z l:Ts}
theorem rN.fail{x':Re α}:rN z rK x':=fun _ _ h=>by cases h
theorem rN.ok{a:α}{l1:Ts}:rN z (bY a l1) (bY a (l1++z)):=fun _ _ e=>by cases e;rfl
theorem rN.bnd{x x':Re α}{k k':α->Ts->Re β}(h:rN z x x')(hk:∀a l1,x=some (some (a,l1))->rN z (k a l1) (k' a (l1++z))):rN z (bnd x k) (bnd x' k'):=fun b l2 e=>by
 cases hx:x with
 |none=>rw[hx]at e;cases e
 |some o=>
  cases o with
  |none=>rw[hx]at e;cases e
  |some p=>
   obtain⟨a,l1⟩:=p;rw[hx]at e;rw[h a l1 hx];exact hk a l1 hx b l2 e
theorem rN.nd{x x':Re Rv}{k k':PT->Ts->Re β}(h:rN z x x')(hk:∀n l1,x=some (some (.nd n,l1))->rN z (k n l1) (k' n (l1++z))):rN z (ndR x k) (ndR x' k'):=.bnd h fun v l1 h0=>by
 cases v with
 |nd n=>exact hk n l1 h0
 |nb n b=>exact fun _ _ e=>by cases e
 |ls n=>exact fun _ _ e=>by cases e
theorem rN.nb{x x':Re Rv}{k k':PT->Bool->Ts->Re β}(h:rN z x x')(hk:∀n b l1,x=some (some (.nb n b,l1))->rN z (k n b l1) (k' n b (l1++z))):rN z (nbR x k) (nbR x' k'):=.bnd h fun v l1 h0=>by
 cases v with
 |nb n b=>exact hk n b l1 h0
 |nd n=>exact fun _ _ e=>by cases e
 |ls n=>exact fun _ _ e=>by cases e
theorem rN.ite{c:Prop} [Decidable c] {x y x' y':Re α} (h1:c->rN z x x') (h2:¬c->rN z y y'):rN z (if c then x else y) (if c then x' else y'):=by
 grind
theorem rN.need{s:Bs}{k k':Ts->Re α}(hk:aM l 0 s=true->rN z (k (l.drop 1)) (k' (l.drop 1++z))):rN z (fV s l k) (fV s (l++z) k'):=by
 unfold fV
 by_cases h:aM l 0 s=true
 ·have hp:=nZ h;rw[aF h,aF (by rw[B1 hp];exact h),dp hp]
  exact hk h
 ·rw[aD h];exact .fail
theorem rN.name{k k':Bs->Ts->Re α}(hk:kd l 0=1->rN z (k (tx l 0) (l.drop 1)) (k' (tx l 0) (l.drop 1++z))):rN z (rC l k) (rC (l++z) k'):=by
 unfold rC
 by_cases h:kd l 0=1
 ·have hp:=lO h aN
  rw[aF h,aF (by rw[OA hp];exact h),YW hp,dp hp]
  exact hk h
 ·rw[aD h];exact .fail
theorem rN.is{s:Bs}(hz:aM z 0 s=false){x y x' y':Re α}(h1:aM l 0 s=true->rN z x x')(h2:rN z y y'):rN z (if aM l 0 s then x else y) (if aM (l++z) 0 s then x' else y'):=by
 by_cases hl:l=[]
 ·subst hl;rw[Gj,tB,hz];exact h2
 ·rw[B1 (EF hl)]
  grind
end
def Sy.stm:Sy->Bool
 | .stmt _ _|.keyw _ _|.inner _ _|.body _ _|.loops _ _|.tryS _ _|.block _ _|.blockL _ _ _|.func _ _ _=>true
 |_=>false
section
variable{z:Ts}{m:Nat}(hC:∀s:Sy,s.meas<m->s.stm=true->s.l≠[]->rN z (ev s) (ev (s.put (s.l++z))))
end
def lW:Cx:=⟨false,false,false,false⟩
def fv:Nat->List PT->Ts->Option (List PT)
 |0,_,_=>none
 |n+1,acc,l=>if l=[]then some acc else match ev (.stmt lW l)with
  |some (some (.nd x,l1))=>fv n (acc++[x]) l1
  |_=>none
def vd(l:Ts):Option (List PT):=fv (l.length+1) [] l
theorem zuc{c:Cx}{l:Ts}{w:Bs}(h:aM l 0 w=true)(hw:w=CZ\/w=ZP\/w=Aq\/w=sK):nY (ev (.stmt c l)):=by
 have hn:∀s:Bs,(s≠CZ/\s≠ZP/\s≠Aq/\s≠sK)->aM l 0 s=false:=fun s hs=>Ql h fun e=>by
  grind
 have hk:=OM h;have hd:∀l',l'=l->nY (pa ev c l'):=fun l' e=>by
  subst e;refine nY.nd (zl4 ?_ ?_ (hn _ aN) (hn _ aN) ?_)
  ·rw[mU];show nY (u7 ev c l');unfold u7;rw[aD oM,aD oM,aD oM]
   rw[hn OI aN,hn NN aN,hn NQ aN,hn OH aN,hn NO aN,hn iS aN,hn sX aN,hn nN aN,hn uN aN,hn jI aN]
   exact .fail
  ·rw[z6i (hn jI aN),aD oM,hn iS aN]
   rfl
  ·unfold Gg;rw[JW h]
   rcases hw with e|e|e|e<;>subst e<;>rcases hk with e|e<;>(rw[e];decide)
 rw[mU];show nY (vq ev c l);unfold vq;rw[show sM l=false by unfold sM;rw[hn yY aN,hn pZ aN,hn uN aN,hn jI aN];rfl]
 rw[hn yY aN,hn pZ aN,hn nN aN,hn mO aN]
 refine .ite (nofun) fun _=>.ite (nofun) fun _=>.ite (nofun) fun _=>.ite (nofun) fun _=>.ite (fun _=>?_) fun _=>hd _ rfl
 rw[zv8 fun w' hm=>hn w' ⟨fun e=>by subst e;exact absurd hm aN,fun e=>by subst e;exact absurd hm aN,fun e=>by subst e;exact absurd hm aN,fun e=>by subst e;exact absurd hm aN⟩]
 exact hd _ rfl
mutual
def vK:PT->Prop
 | .mk _ _ _ _ ks=>ks.length<=2000000/\th ks
def th:List PT->Prop
 |[]=>True
 |k::ks=>vK k/\th ks
end
theorem zsw{x:PT}(h:vK x):th [x]:=by exact⟨h,trivial⟩
theorem Ge{k i o:Int}{nm:Bs}{ks:List PT}(h:ks.length<=2000000)(h':th ks):vK (.mk k nm i o ks):=by exact⟨h,h'⟩
theorem zp6{k i o:Int}{nm:Bs}:vK (.mk k nm i o []):=Ge (aP _) (by trivial)
theorem Gc{k i o:Int}{nm:Bs}{x:PT}(h:vK x):vK (.mk k nm i o [x]):=Ge (show 1<=2000000 by decide) (zsw h)
def Rv.wd:Rv->Prop
 | .nd n=>vK n
 | .nb n _=>vK n
 | .ls ks=>th ks/\ks.length<=1000000
def Sy.wpre(s:Sy):Prop:=s.l.length<=1000000/\match s with
 | .declL _ acc _ l|.blockL acc _ l|.list2L _ acc _ l|.fieldsL acc _ l=>th acc/\acc.length+l.length<=1000000
 | .opndL _ n _ _|.link n _ _|.chainN n _ _|.chainL n _ _=>vK n
 |_=>True
def Wd{α:Type}(P:α->Ts->Prop)(x:Re α):Prop:=∀a l,x=some (some (a,l))->P a l
section
variable{α β:Type}{P:α->Ts->Prop}{l:Ts}
theorem Wd.fail:Wd P rK:=fun _ _ h=>by cases h
theorem Wd.ok{a:α}(h:P a l):Wd P (bY a l):=fun _ _ e=>by cases e;exact h
theorem Wd.bnd{Q:β->Ts->Prop}{x:Re β}{k:β->Ts->Re α}(h:Wd Q x)(hk:∀b l1,Q b l1->Wd P (k b l1)):Wd P (bnd x k):=fun a l2 he=>by
 cases hx:x with
 |none=>rw[hx]at he;cases he
 |some o=>
  cases o with
  |none=>rw[hx]at he;cases he
  |some p=>
   rw[hx]at he;exact hk p.1 p.2 (h _ _ hx) a l2 he
theorem Wd.ite{c:Prop} [Decidable c] {x y:Re α} (h1:c->Wd P x) (h2:¬c->Wd P y):Wd P (if c then x else y):=by
 grind
theorem Wd.need{s:Bs}{k:Ts->Re α}(h:aM l 0 s=true->Wd P (k (l.drop 1))):Wd P (fV s l k):=.ite h fun _=>.fail
theorem Wd.name{k:Bs->Ts->Re α}(h:kd l 0=1->Wd P (k (tx l 0) (l.drop 1))):Wd P (rC l k):=.ite h fun _=>.fail
end
abbrev WdV(x:Re Rv):Prop:=Wd (fun v _=>v.wd) x
section
variable{m:Nat}(hW:∀s:Sy,s.meas<m->s.wpre->WdV (ev s))
include hW
end
def Su(n:Nat):UInt8:=if n<10 then UInt8.ofNat (48+n)else UInt8.ofNat (87+n)
def qB(c:UInt8):Bs:=if c=34\/c=92 then [92,c]else if c=10 then [92,110]else if c=9 then [92,116]else if c=13 then [92,114]else if c=8 then [92,98]else if c.toNat<32\/c=127 then [92,120,Su (c.toNat/16),Su (c.toNat%16)]else [c]
def quo(x:Bs):Bs:=34::(x.flatMap qB++[34])
section
variable(U:Nat->Bs)(Rp:Bs->Bs)
structure One(w:Bs)(k:Int)(t:Bs):Prop where
 s:lA w=(w,true)
 t:jH U Rp w=.ok k t []
theorem One.cat{w t:Bs}{k:Int}(h:One U Rp w k t)(z:Bs):lex U Rp (w++32::z)=(⟨k,t,w.length+1+z.length⟩::(lex U Rp z).1,(lex U Rp z).2):=by
 obtain⟨u,h1,h2,h3⟩:=OO U Rp h.t;rw[cB]at h2;subst h2;have h4:=h3 (32::z) (.inr (.inl rfl));have mY:=Ez w w true h.s
 rcases mY.2 rfl with e|⟨c,r',e,hw,hk⟩
 ·exact absurd e h1
 ·subst e;have mn:pF (c::(r'++32::z))=0:=by
   cases r' with
   |cons p q=>exact hk
   |nil=>
    unfold pF
    grind
  have lQ:lA ((c::r')++32::z)=((c::r')++32::z,true):=zhv hw mn;rw[PF U Rp lQ h4];have h5:lex U Rp (32::z)=lex U Rp z:=zr2 U Rp (OS aN)
  grind
theorem One.lex{w t:Bs}{k:Int}(h:One U Rp w k t):lex U Rp w=([⟨k,t,w.length⟩],none):=by
 rw[PF U Rp h.s h.t,Gb U Rp G7]
theorem F5{l t r:Bs}{k:Int}(h:jH U Rp l=.ok k t r)(hk:k≠4):l=t++r:=by
 cases l with
 |nil=>cases h
 |cons c l=>
  rw[jH]at h
  split at h
  ·cases h
   simp_all
  ·split at h
   ·exact Vn
   ·split at h
    ·grind
    ·cases ho:qC (c::l)with
     |none=>rw[ho]at h;cases h
     |some w=>
      rw[ho]at h
      cases h
      exact(Ac ho).2.1
end
open Go.Lib
def encL(r:Int):List UInt8:=(Utf8.encode r).data.toList
theorem Na(r:Int):(Utf8.encode r).data.toList=encL r:=rfl
theorem zw(r:Int):encL r=encodeRune r:=by
 unfold encL Utf8.encode encodeRune
 by_cases hv:Utf8.valid r=true
 ·have be:(0<=r/\r<55296)\/(57344<=r/\r<=1114111):=by simpa [Utf8.valid]using hv
  obtain⟨n,rfl⟩:=YU (show 0<=r by omega)
  simp only[hv,eE,Int.toNat_natCast];have hb:∀z:Int,∀m:Nat,z=m->z.toNat.toUInt8=UInt8.ofNat m:=fun z m h=>by subst h;simp
  by_cases h1:n<128
  ·rw[aF h1,encodeRuneZ_one oM oM];simp
  rw[aD h1]
  by_cases h2:n<2048
  ·rw[aF h2,encodeRuneZ_two oM oM]
   grind
  rw[aD h2]
  by_cases h3:n<65536
  ·rw[aF h3,encodeRuneZ_three oM]
   grind
  rw[aD h3,encodeRuneZ_four oM oM]
  simp only[kJ,vU]
  grind
 ·have be:r<0\/(55296<=r/\r<=57343)\/1114111<r:=by
   simp[Utf8.valid]at hv;omega
  rw[encodeRuneZ_bad be];simp[hv,Utf8.runeError]
def vj:Nat->List UInt8->List UInt8
 |0,_=>[]
 |n+1,l=>if l=[]then []else encL (decodeL l).1++vj n (l.drop (decodeL l).2)
def fR(l:List UInt8):List UInt8:=vj l.length l
def cb(s:ByteArray):ByteArray:=⟨(fR s.data.toList).toArray⟩
theorem PA(l:List UInt8)(dN:l≠[]):1<=(decodeL l).2:=by
 have h:=decodeL_drop ⟨l.toArray⟩ 0;simp only[BD]at h;rw[h];have cr:0<(ByteArray.mk l.toArray).size:=by
  have:=aS.2 dN
  simpa [ByteArray.size]using this
 by_cases ha:((ByteArray.mk l.toArray)[0]'cr).toNat<128
 ·rw[decode_ascii _ 0 cr ha];exact nR _
 ·exact(decode_high _ 0 cr oM).2
theorem Pa:∀(n m:Nat)(l:List UInt8),l.length<=n->l.length<=m->vj n l=vj m l
 |0,0,_,_,_=>rfl
 |0,m+1,l,h,_=>by
  have:l=[]:=aQ oM
  subst this;simp[vj]
 |n+1,0,l,_,h=>by
  have:l=[]:=aQ oM
  subst this;simp[vj]
 |n+1,m+1,l,hn,hm=>by
  unfold vj
  by_cases hl:l=[]
  ·simp[hl]
  ·have hw:=PA l hl;have hlen:(l.drop (decodeL l).2).length<=l.length-1:=aX
   have hp:=aS.2 hl;rw[Pa n m _ oM oM]
theorem B0(l:List UInt8)(dN:l≠[]):fR l=encL (decodeL l).1++fR (l.drop (decodeL l).2):=by
 have hp:=aS.2 dN;have hw:=PA l dN;unfold fR;obtain⟨n,hn⟩:∃n,l.length=n+1:=⟨l.length-1,by omega⟩
 rw[hn];rw[vj,aD dN];rw[Pa n (l.drop (decodeL l).2).length _ aX (nR _)]
theorem znc:∀(n:Nat)(l:List UInt8),l.length<=n->(validD l=true/\fR l=l)\/(validD l=false/\l.length<(fR l).length):=by
 intro n
 induction n with
 |zero=>
  intro l hl
  have:l=[]:=aQ oM
  subst this;exact .inl ⟨rfl,rfl⟩
 |succ n ih=>
  intro l hl
  by_cases dN:l=[]
  ·grind
  have hw:=PA l dN;rw[validD_step l dN,B0 l dN];have hd:(l.drop (decodeL l).2).length=l.length-(decodeL l).2:=zC
  by_cases hv:(decodeL l).1=65533/\(decodeL l).2=1
  ·rw[aF hv];refine .inr ⟨rfl,?_⟩;rw[hv.1,hv.2];have he:(encL ((65533:Nat):Int)).length=3:=aN
   grind
  ·rw[aD hv];have he:=encode_decode l dN hv;rw[zw,he]
   rcases ih (l.drop (decodeL l).2) oM with⟨h1,h2⟩|⟨h1,h2⟩
   ·simp_all
   grind
theorem zli{l:List UInt8}(h:validD l=true):fR l=l:=by
 rcases znc l.length l (nR _)with⟨_,h2⟩|⟨h1,_⟩
 ·exact h2
 grind
theorem xaf(a b:ByteArray):(a++b).data.toList=a.data.toList++b.data.toList:=cj
theorem Qb(l:List UInt8)(r wd:Nat)(dN:l≠[])(h:decodeL l=(r,wd)):fR l=encL (r:Int)++fR (l.drop wd):=by
 have h3:=B0 l dN
 grind
theorem z7u(s:ByteArray)(pos r wd:Nat)(acc:ByteArray)(L:List UInt8)(hp:pos<s.size)(hd:Utf8.decode s pos=(r,wd))
  (ha:acc.data.toList++fR (s.data.toList.drop pos)=L):(acc++Utf8.encode (r:Int)).data.toList++fR (s.data.toList.drop (pos+wd))=L:=by
 have dN:s.data.toList.drop pos≠[]:=by
  simp_all
 have h1:=Qb _ r wd dN ((decodeL_drop s pos).trans hd);rw[zD]at h1;rw[xaf,Na,<- ha,h1,mI]
theorem OU(r:Int):(encL r).length<=4:=by rw[zw];unfold encodeRune;rw[nk];exact(encodeRuneZ_length r).2
theorem wz(m:Nat)(h:m<256):(UInt8.ofNat m).toNat=m:=by
 simp_all
theorem vt{z:Int}{m:Nat}(h:z=m):z.toNat.toUInt8=UInt8.ofNat m:=by subst h;simp
def zt(r:Nat):Prop:=r<55296\/(57344<=r/\r<=1114111)
theorem Qz(r:Nat)(hv:zt r)(l:List UInt8):decodeL (encL (r:Int)++l)=(r,(encL (r:Int)).length):=by
 unfold zt at hv;rw[zw];unfold encodeRune
 by_cases h1:r<128
 ·rw[encodeRuneZ_one oM oM]
  simp only[kJ,vU];rw[decodeL_N];have e:(([(r:Int).toNat.toUInt8]++l:List UInt8).getD 0 0).toNat=r:=by
   simp[Nat.mod_eq_of_lt (show r<256 by omega)]
  rw[e];simp[decodeN,h1]
 by_cases h2:r<2048
 ·rw[encodeRuneZ_two oM oM]
  simp only[kJ,vU];rw[vt (m:=192+r/64) oM,vt (m:=128+r%64) oM,decodeL_N]
  simp only[qD,tB,bq,bt,qQ,bZ];rw[wz _ oM,wz _ oM]
  have a1:¬192+r/64<128:=eC
  have a2:(192+r/64)/32=6:=eC
  have a3:(128+r%64)/64=2:=eC
  have a4:(192+r/64)%32*64+(128+r%64)%64=r:=eC
  unfold decodeN;rw[aD a1,aF ⟨a2,by omega,a3⟩,a4,aF oM]
 by_cases h3:r<65536
 ·rw[encodeRuneZ_three oM]
  simp only[kJ,vU];rw[vt (m:=224+r/4096) oM,vt (m:=128+r/64%64) oM,vt (m:=128+r%64) oM,decodeL_N]
  simp only[qD,tB,bq,bt,qQ,bZ];rw[wz _ oM,wz _ oM,wz _ oM]
  have a1:¬224+r/4096<128:=eC
  have a2:¬(224+r/4096)/32=6:=eC
  have a2':(224+r/4096)/16=14:=eC
  have a3:(128+r/64%64)/64=2:=eC
  have a3':(128+r%64)/64=2:=eC
  have a4:(224+r/4096)%16*4096+(128+r/64%64)%64*64+(128+r%64)%64=r:=eC
  unfold decodeN;rw[aD a1,aD (fun h=>a2 h.1),aF ⟨a2',⟨by omega,a3⟩,⟨by omega,a3'⟩⟩,a4,aF oM]
 ·rw[encodeRuneZ_four oM oM]
  simp only[kJ,vU];rw[vt (m:=240+r/262144) oM,vt (m:=128+r/4096%64) oM,vt (m:=128+r/64%64) oM,vt (m:=128+r%64) oM,decodeL_N]
  simp only[qD,tB,bq,bt,qQ,bZ];rw[wz _ oM,wz _ oM,wz _ oM,wz _ oM]
  have a1:¬240+r/262144<128:=eC
  have a2:¬(240+r/262144)/32=6:=eC
  have a2':¬(240+r/262144)/16=14:=eC
  have a2'':(240+r/262144)/8=30:=eC
  have a3:(128+r/4096%64)/64=2:=eC
  have a3':(128+r/64%64)/64=2:=eC
  have a3'':(128+r%64)/64=2:=eC
  have a4:(240+r/262144)%8*262144+(128+r/4096%64)%64*4096+(128+r/64%64)%64*64+(128+r%64)%64=r:=eC
  unfold decodeN;rw[aD a1,aD (fun h=>a2 h.1),aD (fun h=>a2' h.1),aF ⟨a2'',⟨by omega,a3⟩,⟨by omega,a3'⟩,⟨by omega,a3''⟩⟩,a4,aF oM]
theorem Pk(r:Int):∃q:Nat,zt q/\encL r=encL (q:Int):=by
 by_cases h:(0<=r/\r<55296)\/(57344<=r/\r<=1114111)
 ·obtain⟨n,rfl⟩:=YU (show 0<=r by omega)
  exact⟨n,by unfold zt;omega,rfl⟩
 ·refine⟨65533,by unfold zt;omega,?_⟩
  rw[zw,zw];unfold encodeRune;rw[encodeRuneZ_bad oM]
  rfl
theorem z1s(r:Int)(l:List UInt8)(h:validD l=true):validD (encL r++l)=true:=by
 obtain⟨q,hq,e⟩:=Pk r;rw[e];have hd:=Qz q hq l;have hp:1<=(encL (q:Int)).length:=by rw[zw];unfold encodeRune;rw[nk];exact(encodeRuneZ_length _).1
 have dN:encL (q:Int)++l≠[]:=by intro h;simp_all
 rw[validD_step _ dN,hd];have h3:¬(q=65533/\(encL (q:Int)).length=1):=by
  rintro⟨rfl,h⟩
  have:(encL ((65533:Nat):Int)).length=3:=aN
  omega
 grind
theorem zi5:∀(l:List UInt8),validD (fR l)=true:=by
 intro l;generalize hn:l.length=n
 induction n using Nat.strongRecOn generalizing l with
 |ind n ih=>
  by_cases hl:l=[]
  ·subst hl;rfl
  ·rw[B0 l hl];have hw:=PA l hl;have hp:=aS.2 hl;exact z1s _ _ (ih _ aX _ rfl)
theorem Qm(l:List UInt8):(fR l).length<=4*l.length:=by
 generalize hn:l.length=n
 induction n using Nat.strongRecOn generalizing l with
 |ind n ih=>
  by_cases hl:l=[]
  ·subst hl;simp[fR,vj]
  ·rw[B0 l hl];have hw:=PA l hl;have hp:=aS.2 hl;have h4:=OU ((decodeL l).1:Int)
   have:=ih _ (show(l.drop (decodeL l).2).length<n by grind) _ rfl
   grind
inductive RV where
 |nd (n:PT)
 |ls (l:List PT)
def RV.n:RV->PT
 | .nd x=>x
 | .ls _=>.mk 0 [] 0 0 []
def RV.s:RV->List PT
 | .nd _=>[]
 | .ls l=>l
inductive RS where
 |stms
 |stmsL (acc:List PT)
 |stm
 |block
 |decls (k:Int)
 |declsL (k:Int) (acc:List PT)
 |cond
 |loop
 |tryR
 |func (d:Bool)
 |names
 |namesL (acc:List PT)
 |arrow
 |assign
 |lv (k:Nat)
 |lvL (k:Nat) (x:PT)
 |unary
 |list (e:Bs)
 |listL (e:Bs) (acc:List PT)
 |chain
 |newL (x:PT)
 |chainL (x:PT)
 |prim
 |obj
 |objL (acc:List PT)
 |field
inductive RP where
 |ret (v:RV)
 |tail (s:RS)
 |call (s:RS) (k:PT->RP)
 |calls (s:RS) (k:List PT->RP)
 |need (w:Bs) (k:RP)
 |take (w:Bs) (x y:RP)
 |at_ (n:Nat) (w:Bs) (x y:RP)
 |kdI (n:Nat) (k:Int) (x y:RP)
 |name (k:Bs->RP)
 |key (k:Bs->RP)
 |oper (fr cnt:Nat) (k:Int->RP)
 |bad (x y:RP)
 |eof (x y:RP)
 |skip (n:Nat) (k:RP)
 |ptx (n:Nat) (k:Bs->RP)
 |kdv (n:Nat) (k:Int->RP)
 |fail (k:RP)
 |ahead (x y:RP)
def ou(l:Ts):Nat->Nat->Bool
 |0,_=>false
 |m+1,n=>if kd l n=1 then(if aM l (n+1) eQ then aM l (n+2) pD else if aM l (n+1) sY then ou l m (n+2)else false)else false
def lc(l:Ts):Bool:=
 if kd l (if aM l 0 jI then 1 else 0)=1 then aM l ((if aM l 0 jI then 1 else 0)+1) pD
 else if aM l (if aM l 0 jI then 1 else 0) iS then
  (if aM l ((if aM l 0 jI then 1 else 0)+1) eQ then aM l ((if aM l 0 jI then 1 else 0)+2) pD else ou l (l.length+1) ((if aM l 0 jI then 1 else 0)+1))
 else false
abbrev RR:=RS->Ts->Bool->RV×Ts×Bool
def RP.run(R:RR):RP->Ts->Bool->RV×Ts×Bool
 | .ret v,l,b=>(v,l,b)
 | .tail s,l,b=>R s l b
 | .call s k,l,b=>(k (R s l b).1.n).run R (R s l b).2.1 (R s l b).2.2
 | .calls s k,l,b=>(k (R s l b).1.s).run R (R s l b).2.1 (R s l b).2.2
 | .need w k,l,b=>if b=false/\aM l 0 w=true then k.run R (l.drop 1) false else k.run R l true
 | .take w x y,l,b=>if b=false/\aM l 0 w=true then x.run R (l.drop 1) false else y.run R l b
 | .at_ n w x y,l,b=>if aM l n w=true then x.run R l b else y.run R l b
 | .kdI n k x y,l,b=>if kd l n=k then x.run R l b else y.run R l b
 | .name k,l,b=>if b=false/\kd l 0=1 then(k (tx l 0)).run R (l.drop 1) false else(k []).run R l true
 | .key k,l,b=>if b=false/\(kd l 0=1\/kd l 0=2)then(k (tx l 0)).run R (l.drop 1) false else(k []).run R l true
 | .oper fr cnt k,l,b=>if b=false/\(kd l 0=5\/kd l 0=2)/\gF (tx l 0) fr cnt≠0 then(k (gF (tx l 0) fr cnt)).run R (l.drop 1) false else(k 0).run R l b
 | .bad x y,l,b=>if b=true then x.run R l b else y.run R l b
 | .eof x y,l,b=>if l=[]then x.run R l b else y.run R l b
 | .skip n k,l,b=>k.run R (l.drop n) b
 | .ptx n k,l,b=>(k (tx l n)).run R l b
 | .kdv n k,l,b=>(k (kd l n)).run R l b
 | .fail k,l,b=>k.run R l true
 | .ahead x y,l,b=>if lc l=true then x.run R l b else y.run R l b
def RP.isFn(x y:RP):RP:=.at_ 0 uN x (.at_ 0 jI (.at_ 1 uN x y) y)
def iX(n:PT):RP:=.ret (.nd n)
def rZ:RP:=iX (nd 0 [])
def IH(acc:List PT):RP:=.bad (.ret (.ls acc)) (.eof (.ret (.ls acc)) (.at_ 0 sK (.ret (.ls acc)) (.call .stm fun x=>.tail (.stmsL (acc++[x])))))
def IC(k:Int)(acc:List PT)(d:PT):RP:=.take sY (.tail (.declsL k (acc++[d]))) (iX (nd k (acc++[d])))
def NF(k:Int)(acc:List PT):RP:=.name fun s=>.take Ho (.call .assign fun e=>IC k acc (eD 40 s [e])) (IC k acc (eD 40 s []))
def PR:RP:=
 .take oy (.call .assign fun x=>.need mO (iX (nd 35 [x])))
 (.take q7 (.tail .tryR)
 (.call .assign fun x=>.need mO (iX (nd 26 [x]))))
def vi:RP:=
 .at_ 0 nN (.tail .block)
 (.take mO (iX (nd 37 []))
 (.take nf (.tail .cond)
 (.take p9 (.need iS (.call .assign fun c=>.need eQ (.call .stm fun x=>iX (nd 29 [c,x]))))
 (.take py (.tail .loop)
 (.take pf (.at_ 0 mO (.need mO (iX (nd 32 []))) (.call .assign fun e=>.need mO (iX (nd 32 [e]))))
 (.take n5 (.need mO (iX (nd 33 [])))
 (.take jc (.need mO (iX (nd 34 [])))
 PR)))))))
def q8:RP:=
 .bad rZ
 (.take yY (.call (.decls 24) fun n=>.need mO (iX n))
 (.take pZ (.call (.decls 25) fun n=>.need mO (iX n))
 (.isFn (.tail (.func true)) vi)))
def B9:RP:=.need iS (.call .assign fun c=>.need eQ (.call .stm fun x=>.take CZ (.call .stm fun y=>iX (nd 28 [c,x,y])) (iX (nd 28 [c,x]))))
def ID(f s t:PT):RP:=.need eQ (.call .stm fun x=>iX (nd 30 [f,s,t,x]))
def CQ(f s:PT):RP:=.need mO (.at_ 0 eQ (ID f s (nd 37 [])) (.call .assign fun t=>ID f s t))
def zg(f:PT):RP:=.need mO (.at_ 0 mO (CQ f (nd 37 [])) (.call .assign fun s=>CQ f s))
def PP(k:Int):RP:=.skip 1 (.call (.decls k) fun f=>zg f)
def B5(q:Int):RP:=.ptx 1 fun s=>.skip 3 (.call .assign fun e=>.need eQ (.call .stm fun x=>iX (.mk 31 s 0 q [e,x])))
def IF(k q:Int):RP:=.kdI 1 1 (.at_ 2 wy (B5 q) (PP k)) (PP k)
def Hm:RP:=.at_ 0 mO (zg (nd 37 [])) (.call .assign fun x=>zg (nd 26 [x]))
def ZB:RP:=.at_ 0 yY (IF 24 1) (.at_ 0 pZ (IF 25 2) Hm)
def II(ks:List PT):RP:=.take Aq (.call .block fun f=>iX (nd 36 (ks++[f]))) (iX (nd 36 ks))
def QG:RP:=.call .block fun a=>.take ZP (.take iS (.name fun s=>.need eQ (.call .block fun b=>II [a,eD 41 s [b]])) (.call .block fun b=>II [a,nd 41 [b]])) (II [a])
def KV(o:Int)(s:Bs):RP:=.calls .names fun ps=>.call .block fun b=>iX (.mk 11 s 0 o (ps++[b]))
def EO(d:Bool)(o:Int):RP:=if d=true then .name fun s=>KV o s else .kdI 0 1 (.name fun s=>KV o s) (KV o [])
def IG(d:Bool):RP:=.take jI (.need uN (EO d 4)) (.need uN (.take u9 (EO d 3) (EO d 1)))
def zr(acc:List PT):RP:=.bad (.need eQ (.ret (.ls acc))) (.name fun s=>.take sY (.tail (.namesL (acc++[eD 7 s []]))) (.need eQ (.ret (.ls (acc++[eD 7 s []])))))
def PO(o:Int)(ps:List PT):RP:=.need pD (.at_ 0 nN (.call .block fun b=>iX (gC 11 o (ps++[b]))) (.call .assign fun x=>iX (gC 11 o (ps++[nd 27 [nd 32 [x]]]))))
def CP(o:Int):RP:=.at_ 0 iS (.calls .names fun ps=>PO o ps) (.name fun s=>PO o [eD 7 s []])
def ue(x:PT):RP:=.oper 24 4 fun n=>if n=0 then iX x else .call .assign fun y=>iX (gC 16 n [x,y])
def DJ:RP:=.bad rZ (.ahead (.tail .arrow) (.take ZR (.call .assign fun x=>iX (nd 22 [x])) (.call (.lv 0) fun x=>.take ZQ (.call .assign fun y=>.need zx (.call .assign fun z=>ue (nd 15 [x,y,z]))) (ue x))))
def KW(k:Nat)(x:PT)(n:Int):RP:=if n=0 then iX x else .call (.lv (k+1)) fun y=>.tail (.lvL k (gC (if k<2 then 14 else 13) n [x,y]))
def lm(k:Nat):RP:=if 6<=k then .tail .unary else .call (.lv (k+1)) fun x=>.tail (.lvL k x)
def NH:RP:=.bad rZ (.take IZ (.call .unary fun x=>iX (nd 23 [x])) (.oper 1 5 fun n=>if n=0 then(.oper 28 2 fun m=>if m=0 then(.call .chain fun x=>.oper 28 2 fun q=>if q=0 then iX x else iX (gC 17 (q+100) [x]))else .call .unary fun x=>iX (gC 17 m [x]))else .call .unary fun x=>iX (gC 12 n [x])))
def zh(e:Bs)(acc:List PT):RP:=.bad (.need e (.ret (.ls acc))) (.call .assign fun x=>.take sY (.tail (.listL e (acc++[x]))) (.need e (.ret (.ls (acc++[x])))))
def x7(x:PT):RP:=.need iS (.calls (.list eQ) fun as=>.tail (.chainL (nd 21 (x::as))))
def CR(x:PT):RP:=.bad (x7 x) (.at_ 0 iS (x7 x) (.take AZ (.key fun s=>.tail (.newL (eD 18 s [x]))) (.need sX (.call .assign fun i=>.need yG (.tail (.newL (nd 19 [x,i])))))))
def zy(x:PT):RP:=.bad (iX x) (.take AZ (.key fun s=>.tail (.chainL (eD 18 s [x]))) (.take sX (.call .assign fun i=>.need yG (.tail (.chainL (nd 19 [x,i])))) (.take iS (.calls (.list eQ) fun as=>.tail (.chainL (nd 20 (x::as)))) (iX x))))
def H4:RP:=
 .take OI (iX (nd 1 [])) (.take NN (iX (nd 2 [])) (.take NQ (iX (nd 3 [])) (.take OH (iX (nd 4 [])) (.take NO (iX (nd 8 []))
 (.take iS (.call .assign fun x=>.need eQ (iX x)) (.take sX (.calls (.list yG) fun ks=>iX (nd 9 ks)) (.take nN (.tail .obj) (.isFn (.tail (.func false)) (.fail rZ)))))))))
def PQ:RP:=
 .bad (.fail rZ) (.eof (.fail rZ)
 (.kdI 0 3 (.ptx 0 fun s=>.skip 1 (iX (.mk 5 [] (lE s:Nat) 0 [])))
 (.kdI 0 4 (.ptx 0 fun s=>.skip 1 (iX (eD 6 s [])))
 (.kdI 0 1 (.ptx 0 fun s=>.skip 1 (iX (eD 7 s []))) H4))))
def QF(acc:List PT):RP:=.bad (.need sK (iX (nd 10 acc))) (.call .field fun x=>.take sY (.tail (.objL (acc++[x]))) (.need sK (iX (nd 10 (acc++[x])))))
def NU(s:Bs):RP:=.need zx (.call .assign fun v=>iX (eD 38 s [v]))
def NG:RP:=.take sX (.call .assign fun k=>.need yG (.need zx (.call .assign fun v=>iX (nd 39 [k,v]))))
 (.eof (.fail rZ) (.kdI 0 5 (.fail rZ) (.kdv 0 fun k=>.ptx 0 fun s=>.skip 1 (if k=1 then .at_ 0 zx (NU s) (iX (eD 38 s [eD 7 s []]))else NU s))))
def gr:RS->RP
 | .stms=>.tail (.stmsL [])
 | .stmsL acc=>IH acc
 | .stm=>q8
 | .block=>.need nN (.calls .stms fun ks=>.need sK (iX (nd 27 ks)))
 | .decls k=>.tail (.declsL k [])
 | .declsL k acc=>NF k acc
 | .cond=>B9
 | .loop=>.need iS ZB
 | .tryR=>QG
 | .func d=>IG d
 | .names=>.need iS (.take eQ (.ret (.ls [])) (.tail (.namesL [])))
 | .namesL acc=>zr acc
 | .arrow=>.take jI (CP 5) (CP 2)
 | .assign=>DJ
 | .lv k=>lm k
 | .lvL k x=>.oper (oe k).1 (oe k).2 fun n=>KW k x n
 | .unary=>NH
 | .list e=>.take e (.ret (.ls [])) (.tail (.listL e []))
 | .listL e acc=>zh e acc
 | .chain=>.take QI (.call .prim fun x=>.tail (.newL x)) (.call .prim fun x=>.tail (.chainL x))
 | .newL x=>CR x
 | .chainL x=>zy x
 | .prim=>PQ
 | .obj=>.take sK (iX (nd 10 [])) (.tail (.objL []))
 | .objL acc=>QF acc
 | .field=>NG
def bX:Nat->RR
 |0,_,l,_=>(.nd (nd 0 []),l,true)
 |n+1,s,l,b=>(gr s).run (bX n) l b
theorem IW(n:Nat)(s:RS)(l:Ts)(b:Bool):bX (n+1) s l b=(gr s).run (bX n) l b:=rfl
def RS.rank:RS->Nat
 | .stms=>32
 | .stmsL _=>31
 | .stm=>30
 | .block=>1
 | .decls _=>4
 | .declsL _ _=>3
 | .cond=>1
 | .loop=>1
 | .tryR=>2
 | .func _=>2
 | .names=>2
 | .namesL _=>1
 | .arrow=>3
 | .assign=>26
 | .lv k=>24-2*k
 | .lvL _ _=>3
 | .unary=>10
 | .list _=>29
 | .listL _ _=>28
 | .chain=>8
 | .newL _=>4
 | .chainL _=>3
 | .prim=>6
 | .obj=>8
 | .objL _=>7
 | .field=>5
def RS.brk:RS->Nat
 | .stms=>2
 | .block=>3
 | .decls _=>1
 | .names=>1
 | .list _=>1
 | .newL _=>2
 |_=>0
def rμ(l:Ts)(b:Bool):Nat:=if b=true then 0 else l.length+1
def dU(s:RS)(l:Ts)(b:Bool):Nat:=if b=true then s.brk else 64*(l.length+1)+s.rank
theorem ud(l:Ts):rμ l true=0:=rfl
theorem tZ(l:Ts):rμ l false=l.length+1:=rfl
theorem xcy:∀s:RS,s.rank<64:=fun s=>by cases s<;>simp only[RS.rank]<;>omega
theorem NR:∀s:RS,s.brk<64:=fun s=>by cases s<;>simp only[RS.brk]<;>omega
theorem z7x{s s':RS}{l l':Ts}{b':Bool}(h:rμ l' b'<rμ l false):dU s' l' b'<dU s l false:=by
 have h1:=xcy s';exact Xb
theorem A4{s s':RS}{l l':Ts}{b':Bool}(h:rμ l' b'<=rμ l false)(hr:s'.rank<s.rank):dU s' l' b'<dU s l false:=by
 exact Xb
structure nS(l:Ts)(b:Bool)(o:RV×Ts×Bool):Prop where
 s:o.2.1 <:+ l
 b:b=true->o.2.2=true
theorem nS.drop{l:Ts}{b:Bool}{o:RV×Ts×Bool}(k:Nat)(h:nS (l.drop k) b o):nS l b o:=⟨h.s.trans (bJ _ _),h.b⟩
theorem nS.of{l:Ts}{b:Bool}{o:RV×Ts×Bool}(h:nS l true o):nS l b o:=⟨h.s,fun _=>h.b rfl⟩
theorem yL{R:RR}(hR:∀s l b,nS l b (R s l b)):∀(p:RP)(l:Ts)(b:Bool),nS l b (p.run R l b)
 | .ret v,l,b=>⟨o8 _,id⟩
 | .tail s,l,b=>hR s l b
 | .call s k,l,b=>by
  have h1:=hR s l b;have h2:=yL hR (k (R s l b).1.n) (R s l b).2.1 (R s l b).2.2;exact⟨h2.s.trans h1.s,fun h=>h2.b (h1.b h)⟩
 | .calls s k,l,b=>by
  have h1:=hR s l b;have h2:=yL hR (k (R s l b).1.s) (R s l b).2.1 (R s l b).2.2;exact⟨h2.s.trans h1.s,fun h=>h2.b (h1.b h)⟩
 | .need w k,l,b=>by
  rw[RP.run]
  split
  ·rename_i h
   have:=(yL hR k (l.drop 1) false).drop 1
   exact Cf
  ·exact(yL hR k l true).of
 | .take w x y,l,b=>by
  rw[RP.run]
  split
  ·rename_i h
   have:=(yL hR x (l.drop 1) false).drop 1
   exact Cf
  ·exact yL hR y l b
 | .at_ n w x y,l,b=>by
  exact VI
 | .kdI n k x y,l,b=>by
  exact VI
 | .name k,l,b=>by
  exact V7
 | .key k,l,b=>by
  exact V7
 | .oper fr cnt k,l,b=>by
  rw[RP.run]
  split
  ·rename_i h
   have:=(yL hR (k (gF (tx l 0) fr cnt)) (l.drop 1) false).drop 1
   exact Cf
  ·exact yL hR (k 0) l b
 | .bad x y,l,b=>by
  exact VI
 | .eof x y,l,b=>by
  exact VI
 | .skip n k,l,b=>(yL hR k (l.drop n) b).drop n
 | .ptx n k,l,b=>yL hR (k (tx l n)) l b
 | .kdv n k,l,b=>yL hR (k (kd l n)) l b
 | .fail k,l,b=>(yL hR k l true).of
 | .ahead x y,l,b=>by
  exact VI
theorem nA:∀(n:Nat)(s:RS)(l:Ts)(b:Bool),nS l b (bX n s l b)
 |0,s,l,b=>⟨o8 _,fun _=>rfl⟩
 |n+1,s,l,b=>yL (nA n) (gr s) l b
theorem nS.μ{l:Ts}{b:Bool}{o:RV×Ts×Bool}(h:nS l b o):rμ o.2.1 o.2.2<=rμ l b:=by
 have h1:=lM h.s;have h2:=h.b;unfold rμ
 by_cases e:o.2.2=true
 ·rw[aF e];omega
 ·rw[aD e,aD fun hb=>e (h2 hb)];omega
def tY(R:RR)(p:RP)(l:Ts)(b:Bool):Prop:=rμ (p.run R l b).2.1 (p.run R l b).2.2<rμ l b\/(p.run R l b).2.2=true
theorem Sz{R:RR}(hR:∀s l b,nS l b (R s l b)){p:RP}{l:Ts}{w:Bs}(h:aM l 0 w=true):rμ (p.run R (l.drop 1) false).2.1 (p.run R (l.drop 1) false).2.2<rμ l false:=by
 have:=(yL hR p (l.drop 1) false).μ
 have h1:=nZ h;rw[tZ,zC]at this;rw[tZ];omega
theorem JN{R:RR}(hR:∀s l b,nS l b (R s l b)){w:Bs}{k:RP}{l:Ts}{b:Bool}:tY R (.need w k) l b:=by
 unfold tY;rw[RP.run]
 split
 ·rename_i h;rw[h.1];exact .inl (Sz hR h.2)
 ·exact .inr ((yL hR k l true).b rfl)
theorem xC{R:RR}(hR:∀s l b,nS l b (R s l b)){w:Bs}{x y:RP}{l:Ts}{b:Bool}(h:tY R y l b):tY R (.take w x y) l b:=by
 unfold tY at h ⊢;rw[RP.run]
 split
 ·rename_i h;rw[h.1];exact .inl (Sz hR h.2)
 ·exact h
theorem NZ{R:RR}{n:Nat}{w:Bs}{x y:RP}{l:Ts}{b:Bool}(h:tY R x l b)(h':tY R y l b):tY R (.at_ n w x y) l b:=by
 unfold tY at h h' ⊢;rw[RP.run]
 split
 ·exact h
 ·exact h'
theorem N9{R:RR}(hR:∀s l b,nS l b (R s l b)){s:RS}{k:PT->RP}{l:Ts}{b:Bool}(h:∀x l' b',tY R (k x) l' b'):tY R (.call s k) l b:=by
 have h1:=h (R s l b).1.n (R s l b).2.1 (R s l b).2.2;have h2:=(hR s l b).μ;unfold tY at h1 ⊢;rw[RP.run]
 rcases h1 with h1|h1
 ·exact .inl oM
 ·exact .inr h1
theorem ZV{n:Nat}{s:RS}{l:Ts}{b:Bool}(h:tY (bX n) (gr s) l b):tY (bX (n+1)) (.tail s) l b:=h
theorem z69(n:Nat)(l:Ts)(b:Bool):rμ (bX (n+2) .stm l b).2.1 (bX (n+2) .stm l b).2.2<rμ l b\/(bX (n+2) .stm l b).2.2=true:=by
 have hR:=nA (n+1);have hN:∀{w:Bs}{k:RP}{l:Ts}{b:Bool},tY (bX (n+1)) (.need w k) l b:=fun{w k l b}=>JN hR
 have hE:∀l b,tY (bX (n+1)) (.call .assign fun x=>.need mO (iX (nd 26 [x]))) l b:=fun l b=>N9 hR fun _ _ _=>hN
 have h3:∀l b,tY (bX (n+1)) PR l b:=fun l b=>xC hR (xC hR (hE l b))
 have h2:∀l b,tY (bX (n+1)) vi l b:=fun l b=>NZ (ZV (JN (nA n))) (xC hR (xC hR (xC hR (xC hR (xC hR (xC hR (xC hR (h3 l b))))))))
 have hF:∀l b,tY (bX (n+1)) (.tail (.func true)) l b:=fun l b=>ZV (xC (nA n) (JN (nA n)))
 show tY (bX (n+1)) q8 l b;exact W6
theorem xbg:∀c:UInt8,oA c=true->wA c=false/\c≠47:=by
 intro c h;have key:=aO.1 (show((List.range 256).all fun n=>!oA (UInt8.ofNat n)||(!wA (UInt8.ofNat n)&&decide (UInt8.ofNat n≠47)))=true by decide +kernel) c.toNat (bV.2 c.toNat_lt)
 rw[mF]at key;simp only[h,tU,bI,gK,eM,bD]at key;exact key
theorem xfn{c:UInt8}(r:Bs)(h:c≠47):pF (c::r)=0:=by
 unfold pF;rw[aD,aD]
 ·cases r with
  |nil=>simp
  |cons d r=>simp[h]
 ·cases r with
  |nil=>simp
  |cons d r=>simp[h]
section
variable(U:Nat->Bs)(Rp:Bs->Bs)
end
end Go.Proofs.YtjkcdcloomkooaaGreatDoor
