/- Own work: Valid of a well-formed tree. -/
import Derived.Test.YtjkcdcloomkooaaGreatDoorQYRV
set_option linter.unusedVariables false
set_option linter.unusedSimpArgs false
set_option linter.unusedSectionVars false
set_option maxHeartbeats 8000000
set_option maxRecDepth 100000
namespace Go.Proofs.YtjkcdcloomkooaaGreatDoor
open Go.RowKit
def exK(n:Nat):Nat:=match n with|22=>39|32=>36|34=>15|41=>14|43=>14|_=>0
theorem lj{p:Prop} (h:p:=by
 refine xR aU mA mixed exK Tryz.func82 rfl kR kR rfl fun P G E hc hM hE=>?_
 have F:=ug hE
 first|have z1:=Z1 E hE|skip
 first|have z2:=Z2 E hE|skip
 first|replace h1:=hc _ _ _ h1|skip
 first|replace h2:=hc _ _ _ h2|skip
 first|replace h3:=hc _ _ _ h3|replace h3:=hc _ _ _ (h3 rfl)|skip
 first|replace h4:=hc _ _ _ h4|skip
 first|replace h5:=hc _ _ _ h5|replace h5:=hc _ _ _ (h5 rfl)|skip
 first|replace h6:=hc _ _ _ h6|skip
 clear hc hM hE
 cbv
 first|cbv at z1|skip
 repeat (first|(simp only[F.n0];try cbv)|(simp only[F.n1];try cbv)|(simp only[F.n2];try cbv)|(simp only[F.n3];try cbv)|(simp only[F.n4];try cbv)|(simp only[z1];try cbv)|(simp only[z2];try cbv)|(simp only[d2];try cbv)|(simp only[d5];try cbv)|(simp only[d8];try cbv)|(simp only[d9];try cbv)|(refine⟨_,h1,?_⟩;cbv)|(refine⟨_,h2,?_⟩;cbv)|(refine⟨_,h3,?_⟩;cbv)|(refine⟨_,h4,?_⟩;cbv)|(refine⟨_,h5,?_⟩;cbv)|(refine⟨_,h6,?_⟩;cbv)|(refine⟨F.p0,_,F.g0,?_⟩;cbv)|(refine⟨F.p1,_,F.g1,?_⟩;cbv)|(refine⟨F.p2,_,F.g2,?_⟩;cbv)|(refine⟨F.p3,_,F.g3,?_⟩;cbv)|fail)
 all_goals trivial):p:=h
section
variable{i o:Int}{nm:Bs}{c:Cx}
theorem xff{k:Int}(hk:k=1\/k=2\/k=3\/k=4\/k=8):RL 82 [.agg (bU (.mk k nm i o [])),cR c] (pB true):=by
 rw[bU,bW];obtain⟨T,hT⟩:∃T,bL nm=T:=⟨_,rfl⟩
 rw[hT];obtain⟨c1,c2,c3,c4⟩:=c
 rcases hk with rfl|rfl|rfl|rfl|rfl<;>exact lj
theorem xkj  (hi:0<=i):RL 82 [.agg (bU (.mk 5 nm i o [])),cR c] (pB true):=by
 rw[bU,bW];obtain⟨T,hT⟩:∃T,bL nm=T:=⟨_,rfl⟩
 rw[hT];obtain⟨c1,c2,c3,c4⟩:=c;have Z1:∀E:SO,E=bG->E.lei 0 i=true:=fun E hE=>by rw[hE];exact aA oM
 exact lj
theorem xfe  (h1:RL 107 [pS (bL nm)] (pB true)):RL 82 [.agg (bU (.mk 6 nm i o [])),cR c] (pB true):=by
 rw[bU,bW];exact Cj
theorem TQ  (h1:RL 87 [pS (bL nm),pB false] (pB true)):RL 82 [.agg (bU (.mk 7 nm i o [])),cR c] (pB true):=by
 rw[bU,bW];exact Cj
theorem xko{ks:List PT}(h1:RL 88 [.ro 5 (bW ks),cR c] (pB true)):RL 82 [.agg (bU (.mk 9 nm i o ks)),cR c] (pB true):=by
 exact Wg
theorem xkg{ks:List PT}(h1:RL 108 [.ro 5 (bW ks),cR c] (pB true)):RL 82 [.agg (bU (.mk 10 nm i o ks)),cR c] (pB true):=by
 exact Wg
theorem TU{ks:List PT}(h1:RL 90 [.agg (bU (.mk 11 nm i o ks))] (pB true)):RL 82 [.agg (bU (.mk 11 nm i o ks)),cR c] (pB true):=by
 rw[bU];obtain⟨R,hR⟩:∃R,bW ks=R:=⟨_,rfl⟩
 rw[bU]at h1;rw[hR]at h1 ⊢;exact Cj
theorem TP{x:PT}(wI:1<=o)(tG:o<=5)(h1:RL 82 [.agg (bU x),cR c] (pB true))(hk:o≠5\/x.kind=18\/x.kind=19):RL 82 [.agg (bU (.mk 12 nm i o [x])),cR c] (pB true):=by
 rw[bU,bW,bW];obtain⟨k1,i1,o1,m1,K1,v1⟩:=iT x;rw[v1]at h1 ⊢;obtain⟨T,hT⟩:∃T,bL nm=T:=⟨_,rfl⟩
 rw[hT];obtain⟨c1,c2,c3,c4⟩:=c;have wE:x.kind=k1:=by
  cases x with
  |mk a b c d e=>exact(JF v1).1
 have hd:decide (o=5)=false\/(decide (o=5)=true/\decide (k1=18)=true)\/(decide (o=5)=true/\decide (k1=18)=false/\decide (k1=19)=true):=by
  rw[wE]at hk
  by_cases h5:o=5
  ·rcases hk with hk|rfl|rfl
   ·exact absurd h5 hk
   ·exact .inr (.inl ⟨aA h5,rfl⟩)
   ·exact .inr (.inr ⟨aA h5,rfl,rfl⟩)
  ·exact .inl (dF h5)
 have Z1:∀E:SO,E=bG->E.lei 1 o=true:=fun E hE=>by rw[hE];exact aA oM
 have Z2:∀E:SO,E=bG->E.lei o 5=true:=fun E hE=>by rw[hE];exact aA oM
 rcases hd with d5|⟨d5,d8⟩|⟨d5,d8,d9⟩<;>exact lj
theorem xkl{x y:PT}(wI:6<=o)(tG:o<=20)(h1:RL 88 [.ro 5 (bW [x,y]),cR c] (pB true)):RL 82 [.agg (bU (.mk 13 nm i o [x,y])),cR c] (pB true):=by
 rw[bU,bW,bW,bW];rw[bW,bW,bW]at h1;obtain⟨k1,i1,o1,m1,K1,v1⟩:=iT x;rw[v1]at h1 ⊢;obtain⟨k2,i2,o2,m2,K2,v2⟩:=iT y;rw[v2]at h1 ⊢;obtain⟨T,hT⟩:∃T,bL nm=T:=⟨_,rfl⟩
 rw[hT];obtain⟨c1,c2,c3,c4⟩:=c;have Z1:∀E:SO,E=bG->E.lei 6 o=true:=fun E hE=>by rw[hE];exact aA oM
 have Z2:∀E:SO,E=bG->E.lei o 20=true:=fun E hE=>by rw[hE];exact aA oM
 exact lj
theorem xki{x y:PT}(wI:21<=o)(tG:o<=23)(h1:RL 88 [.ro 5 (bW [x,y]),cR c] (pB true)):RL 82 [.agg (bU (.mk 14 nm i o [x,y])),cR c] (pB true):=by
 rw[bU,bW,bW,bW];rw[bW,bW,bW]at h1;obtain⟨k1,i1,o1,m1,K1,v1⟩:=iT x;rw[v1]at h1 ⊢;obtain⟨k2,i2,o2,m2,K2,v2⟩:=iT y;rw[v2]at h1 ⊢;obtain⟨T,hT⟩:∃T,bL nm=T:=⟨_,rfl⟩
 rw[hT];obtain⟨c1,c2,c3,c4⟩:=c;have Z1:∀E:SO,E=bG->E.lei 21 o=true:=fun E hE=>by rw[hE];exact aA oM
 have Z2:∀E:SO,E=bG->E.lei o 23=true:=fun E hE=>by rw[hE];exact aA oM
 exact lj
theorem xfg{x y z:PT}(h1:RL 88 [.ro 5 (bW [x,y,z]),cR c] (pB true)):RL 82 [.agg (bU (.mk 15 nm i o [x,y,z])),cR c] (pB true):=by
 rw[bU,bW,bW,bW,bW];rw[bW,bW,bW,bW]at h1;obtain⟨k1,i1,o1,m1,K1,v1⟩:=iT x;rw[v1]at h1 ⊢;obtain⟨k2,i2,o2,m2,K2,v2⟩:=iT y;rw[v2]at h1 ⊢;obtain⟨k3,i3,o3,m3,K3,v3⟩:=iT z;rw[v3]at h1 ⊢;exact Vb
theorem xkn{x y:PT}(wI:24<=o)(tG:o<=27)(h1:RL 54 [.agg (bU x)] (pB true))(h2:RL 88 [.ro 5 (bW [x,y]),cR c] (pB true)):RL 82 [.agg (bU (.mk 16 nm i o [x,y])),cR c] (pB true):=by
 rw[bU,bW,bW,bW];rw[bW,bW,bW]at h2;obtain⟨k1,i1,o1,m1,K1,v1⟩:=iT x;rw[v1]at h1 h2 ⊢;obtain⟨k2,i2,o2,m2,K2,v2⟩:=iT y;rw[v2]at h2 ⊢;obtain⟨T,hT⟩:∃T,bL nm=T:=⟨_,rfl⟩
 rw[hT];obtain⟨c1,c2,c3,c4⟩:=c;have Z1:∀E:SO,E=bG->E.lei 24 o=true:=fun E hE=>by rw[hE];exact aA oM
 have Z2:∀E:SO,E=bG->E.lei o 27=true:=fun E hE=>by rw[hE];exact aA oM
 exact lj
theorem xkf{x:PT}(ho:o=28\/o=29\/o=128\/o=129)(h1:RL 54 [.agg (bU x)] (pB true))(h2:RL 82 [.agg (bU x),cR c] (pB true)):RL 82 [.agg (bU (.mk 17 nm i o [x])),cR c] (pB true):=by
 rw[bU,bW,bW];obtain⟨k1,i1,o1,m1,K1,v1⟩:=iT x;rw[v1]at h1 h2 ⊢;obtain⟨T,hT⟩:∃T,bL nm=T:=⟨_,rfl⟩
 rw[hT];obtain⟨c1,c2,c3,c4⟩:=c
 rcases ho with rfl|rfl|rfl|rfl<;>exact lj
theorem xkh{x:PT}(h1:RL 87 [pS (bL nm),pB true] (pB true))(h2:RL 82 [.agg (bU x),cR c] (pB true)):RL 82 [.agg (bU (.mk 18 nm i o [x])),cR c] (pB true):=by
 rw[bU,bW,bW];obtain⟨k1,i1,o1,m1,K1,v1⟩:=iT x;rw[v1]at h2 ⊢;exact Cj
theorem xkk{x y:PT}(h1:RL 88 [.ro 5 (bW [x,y]),cR c] (pB true)):RL 82 [.agg (bU (.mk 19 nm i o [x,y])),cR c] (pB true):=by
 rw[bU,bW,bW,bW];rw[bW,bW,bW]at h1;obtain⟨k1,i1,o1,m1,K1,v1⟩:=iT x;rw[v1]at h1 ⊢;obtain⟨k2,i2,o2,m2,K2,v2⟩:=iT y;rw[v2]at h1 ⊢;exact Vb
theorem Qx{k:Int}{ks:List PT}(hk:k=20\/k=21)(dN:ks≠[])(h1:RL 88 [.ro 5 (bW ks),cR c] (pB true)):RL 82 [.agg (bU (.mk k nm i o ks)),cR c] (pB true):=by
 rw[bU];obtain⟨R,hR⟩:∃R,bW ks=R:=⟨_,rfl⟩
 rw[hR]at h1 ⊢;obtain⟨T,hT⟩:∃T,bL nm=T:=⟨_,rfl⟩
 rw[hT]at ⊢;obtain⟨c1,c2,c3,c4⟩:=c;obtain⟨M,qK⟩:∃M:Int,((R.length:Nat):Int)=M:=⟨_,rfl⟩
 have lU:0<M:=by
  have:=aS.2 dN
  rw[<-qK,<- hR,na];omega
 have Z1:∀E:SO,E=bG->E.ofN R.length=M:=fun E hE=>by rw[hE];exact qK
 have Z2:∀E:SO,E=bG->E.lti 0 M=true:=fun E hE=>by rw[hE];exact aA lU
 rcases hk with rfl|rfl<;>exact lj
theorem xke{x:PT}(hg:c.gn=true)(h1:RL 82 [.agg (bU x),cR c] (pB true)):RL 82 [.agg (bU (.mk 22 nm i o [x])),cR c] (pB true):=by
 rw[bU,bW,bW];obtain⟨k1,i1,o1,m1,K1,v1⟩:=iT x;rw[v1]at h1 ⊢;obtain⟨T,hT⟩:∃T,bL nm=T:=⟨_,rfl⟩
 rw[hT];obtain⟨c1,c2,c3,c4⟩:=c;replace hg:c3=true:=hg;subst hg;exact lj
theorem xkm{x:PT}(hg:c.as_=true)(h1:RL 82 [.agg (bU x),cR c] (pB true)):RL 82 [.agg (bU (.mk 23 nm i o [x])),cR c] (pB true):=by
 rw[bU,bW,bW];obtain⟨k1,i1,o1,m1,K1,v1⟩:=iT x;rw[v1]at h1 ⊢;obtain⟨T,hT⟩:∃T,bL nm=T:=⟨_,rfl⟩
 rw[hT];obtain⟨c1,c2,c3,c4⟩:=c;replace hg:c4=true:=hg;subst hg;exact lj
end
end Go.Proofs.YtjkcdcloomkooaaGreatDoor
