/- Own work: Valid of a well-formed tree. -/
import Derived.Test.YtjkcdcloomkooaaGreatDoorQYRV
set_option linter.unusedVariables false
set_option linter.unusedSimpArgs false
set_option linter.unusedSectionVars false
set_option maxHeartbeats 8000000
set_option maxRecDepth 100000
namespace Go.Proofs.YtjkcdcloomkooaaGreatDoor
open Go.RowKit
def stK(n:Nat):Nat:=match n with|10=>10|14=>24|16=>17|18=>17|20=>43|22=>32|_=>0
theorem q9{p:Prop} (h:p:=by
 refine xR aU mA mixed stK Tryz.func49 rfl kR kR rfl fun P G E hc hM hE=>?_
 have F:=ug hE
 first|have z1:=Z1 E hE|skip
 first|have z2:=Z2 E hE|skip
 first|replace h1:=hc _ _ _ h1|skip
 first|replace h2:=hc _ _ _ h2|skip
 first|replace h3:=hc _ _ _ h3|replace h3:=hc _ _ _ (h3 rfl)|skip
 first|replace h4:=hc _ _ _ h4|skip
 first|replace h5:=hc _ _ _ h5|replace h5:=hc _ _ _ (h5 rfl)|skip
 first|replace h6:=hc _ _ _ h6|skip
 clear hc hM hE
 cbv
 first|cbv at z1|skip
 repeat (first|(simp only[F.n0];try cbv)|(simp only[F.n1];try cbv)|(simp only[F.n2];try cbv)|(simp only[F.n3];try cbv)|(simp only[F.n4];try cbv)|(simp only[z1];try cbv)|(simp only[z2];try cbv)|(simp only[d2];try cbv)|(simp only[d5];try cbv)|(simp only[d8];try cbv)|(simp only[d9];try cbv)|(refine⟨_,h1,?_⟩;cbv)|(refine⟨_,h2,?_⟩;cbv)|(refine⟨_,h3,?_⟩;cbv)|(refine⟨_,h4,?_⟩;cbv)|(refine⟨_,h5,?_⟩;cbv)|(refine⟨_,h6,?_⟩;cbv)|(refine⟨F.p0,_,F.g0,?_⟩;cbv)|(refine⟨F.p1,_,F.g1,?_⟩;cbv)|(refine⟨F.p2,_,F.g2,?_⟩;cbv)|(refine⟨F.p3,_,F.g3,?_⟩;cbv)|fail)
 all_goals trivial):p:=h
section
variable{i o:Int}{nm:Bs}{c:Cx}
theorem QZ{k:Int}{ks:List PT}(hk:k=24\/k=25)(h1:RL 81 [.agg (bU (.mk k nm i o ks)),cR c] (pB true)):RL 49 [.agg (bU (.mk k nm i o ks)),cR c] (pB true):=by
 rw[bU];obtain⟨R,hR⟩:∃R,bW ks=R:=⟨_,rfl⟩
 rw[bU]at h1;rw[hR]at h1 ⊢;obtain⟨T,hT⟩:∃T,bL nm=T:=⟨_,rfl⟩
 rw[hT]at h1 ⊢;obtain⟨c1,c2,c3,c4⟩:=c
 rcases hk with rfl|rfl<;>exact q9
theorem Sw{k:Int}{x:PT}(hk:k=26\/k=35)(h1:RL 82 [.agg (bU x),cR c] (pB true)):RL 49 [.agg (bU (.mk k nm i o [x])),cR c] (pB true):=by
 rw[bU,bW,bW];obtain⟨k1,i1,o1,m1,K1,v1⟩:=iT x;rw[v1]at h1 ⊢;obtain⟨T,hT⟩:∃T,bL nm=T:=⟨_,rfl⟩
 rw[hT];obtain⟨c1,c2,c3,c4⟩:=c
 rcases hk with rfl|rfl<;>exact q9
theorem xg5{ks:List PT}(h1:RL 23 [.ro 5 (bW ks),cR c] (pB true)):RL 49 [.agg (bU (.mk 27 nm i o ks)),cR c] (pB true):=by
 exact Wf
theorem xgz{x y:PT}(h1:RL 82 [.agg (bU x),cR c] (pB true))(h2:RL 83 [.agg (bU y),cR c] (pB true)):RL 49 [.agg (bU (.mk 28 nm i o [x,y])),cR c] (pB true):=by
 rw[bU,bW,bW,bW];obtain⟨k1,i1,o1,m1,K1,v1⟩:=iT x;rw[v1]at h1 ⊢;obtain⟨k2,i2,o2,m2,K2,v2⟩:=iT y;rw[v2]at h2 ⊢;obtain⟨T,hT⟩:∃T,bL nm=T:=⟨_,rfl⟩
 rw[hT];obtain⟨c1,c2,c3,c4⟩:=c;have Z1:∀E:SO,E=bG->E.lti 2 2=false:=fun E hE=>by rw[hE];rfl
 have Z2:∀E:SO,E=bG->E.lti 3 2=false:=fun E hE=>by rw[hE];rfl
 exact q9
theorem xgy{x y z:PT}(h1:RL 82 [.agg (bU x),cR c] (pB true))(h2:RL 83 [.agg (bU y),cR c] (pB true))(h3:RL 84 [.agg (bU y)] (pB false))(h4:RL 83 [.agg (bU z),cR c] (pB true)):RL 49 [.agg (bU (.mk 28 nm i o [x,y,z])),cR c] (pB true):=by
 rw[bU,bW,bW,bW,bW];obtain⟨k1,i1,o1,m1,K1,v1⟩:=iT x;rw[v1]at h1 ⊢;obtain⟨k2,i2,o2,m2,K2,v2⟩:=iT y;rw[v2]at h2 h3 ⊢;obtain⟨k3,i3,o3,m3,K3,v3⟩:=iT z;rw[v3]at h4 ⊢;obtain⟨T,hT⟩:∃T,bL nm=T:=⟨_,rfl⟩
 rw[hT];obtain⟨c1,c2,c3,c4⟩:=c;have Z1:∀E:SO,E=bG->E.lti 3 2=false:=fun E hE=>by rw[hE];rfl
 have Z2:∀E:SO,E=bG->E.lti 3 3=false:=fun E hE=>by rw[hE];rfl
 exact q9
theorem xgw{x y:PT}(h1:RL 82 [.agg (bU x),cR c] (pB true))(h2:RL 83 [.agg (bU y),cR { c with lp:=true }] (pB true)):RL 49 [.agg (bU (.mk 29 nm i o [x,y])),cR c] (pB true):=by
 rw[bU,bW,bW,bW];obtain⟨k1,i1,o1,m1,K1,v1⟩:=iT x;rw[v1]at h1 ⊢;obtain⟨k2,i2,o2,m2,K2,v2⟩:=iT y;rw[v2]at h2 ⊢;exact Va
theorem xg0{f s t x:PT}{es et:Bool}(h1:RL 85 [.agg (bU f),cR c] (pB true))(h2:RL 86 [.agg (bU s)] (pB es))(h3:es=false->RL 82 [.agg (bU s),cR c] (pB true))(h4:RL 86 [.agg (bU t)] (pB et))(h5:et=false->RL 82 [.agg (bU t),cR c] (pB true))(h6:RL 83 [.agg (bU x),cR { c with lp:=true }] (pB true)):RL 49 [.agg (bU (.mk 30 nm i o [f,s,t,x])),cR c] (pB true):=by
 rw[bU,bW,bW,bW,bW,bW];obtain⟨k1,i1,o1,m1,K1,v1⟩:=iT f;rw[v1]at h1 ⊢;obtain⟨k2,i2,o2,m2,K2,v2⟩:=iT s;rw[v2]at h2 h3 ⊢;obtain⟨k3,i3,o3,m3,K3,v3⟩:=iT t;rw[v3]at h4 h5 ⊢;obtain⟨k4,i4,o4,m4,K4,v4⟩:=iT x;rw[v4]at h6 ⊢;obtain⟨T,hT⟩:∃T,bL nm=T:=⟨_,rfl⟩
 rw[hT];obtain⟨c1,c2,c3,c4⟩:=c;have hb:(es=false/\et=false)\/(es=false/\et=true)\/(es=true/\et=false)\/(es=true/\et=true):=by cases es<;>cases et<;>simp
 rcases hb with⟨rfl,rfl⟩|⟨rfl,rfl⟩|⟨rfl,rfl⟩|⟨rfl,rfl⟩<;>exact q9
theorem xg1{x y:PT}(ho:o=1\/o=2)(h1:RL 87 [pS (bL nm),pB false] (pB true))(h2:RL 82 [.agg (bU x),cR c] (pB true))(h3:RL 83 [.agg (bU y),cR { c with lp:=true }] (pB true)):RL 49 [.agg (bU (.mk 31 nm i o [x,y])),cR c] (pB true):=by
 rw[bU,bW,bW,bW];obtain⟨k1,i1,o1,m1,K1,v1⟩:=iT x;rw[v1]at h2 ⊢;obtain⟨k2,i2,o2,m2,K2,v2⟩:=iT y;rw[v2]at h3 ⊢;obtain⟨T,hT⟩:∃T,bL nm=T:=⟨_,rfl⟩
 rw[hT]at h1 ⊢;obtain⟨c1,c2,c3,c4⟩:=c
 rcases ho with rfl|rfl<;>exact q9
theorem To{ks:List PT}(hg:c.fn=true)(hl:ks.length<=1)(h1:RL 88 [.ro 5 (bW ks),cR c] (pB true)):RL 49 [.agg (bU (.mk 32 nm i o ks)),cR c] (pB true):=by
 rw[bU];obtain⟨R,hR⟩:∃R,bW ks=R:=⟨_,rfl⟩
 rw[hR]at h1 ⊢;obtain⟨T,hT⟩:∃T,bL nm=T:=⟨_,rfl⟩
 rw[hT]at ⊢;obtain⟨c1,c2,c3,c4⟩:=c;replace hg:c1=true:=hg;subst hg;obtain⟨M,qK⟩:∃M:Int,((R.length:Nat):Int)=M:=⟨_,rfl⟩
 have lU:M<=1:=by
  rw[<-qK,<- hR,na];omega
 have Z1:∀E:SO,E=bG->E.ofN R.length=M:=fun E hE=>by rw[hE];exact qK
 have Z2:∀E:SO,E=bG->E.lei M 1=true:=fun E hE=>by rw[hE];exact aA lU
 exact q9
theorem xg4{k:Int}(hk:k=33\/k=34)(hg:c.lp=true):RL 49 [.agg (bU (.mk k nm i o [])),cR c] (pB true):=by
 rw[bU,bW];obtain⟨T,hT⟩:∃T,bL nm=T:=⟨_,rfl⟩
 rw[hT];obtain⟨c1,c2,c3,c4⟩:=c;replace hg:c2=true:=hg;subst hg
 rcases hk with rfl|rfl<;>exact q9
theorem xg3  :RL 49 [.agg (bU (.mk 37 nm i o [])),cR c] (pB true):=by
 rw[bU,bW];exact Va
theorem H7{ks:List PT}(h1:RL 89 [.ro 5 (bW ks),cR c] (pB true)):RL 49 [.agg (bU (.mk 36 nm i o ks)),cR c] (pB true):=by
 exact Wf
theorem QY{ks:List PT}(hn:nm≠[])(h2:o≠2)(h5:o≠5)(h1:RL 90 [.agg (bU (.mk 11 nm i o ks))] (pB true)):RL 49 [.agg (bU (.mk 11 nm i o ks)),cR c] (pB true):=by
 rw[bU];obtain⟨R,hR⟩:∃R,bW ks=R:=⟨_,rfl⟩
 rw[bU]at h1;rw[hR]at h1 ⊢;obtain⟨T,hT⟩:∃T,bL nm=T:=⟨_,rfl⟩
 rw[hT]at h1 ⊢;obtain⟨c1,c2,c3,c4⟩:=c;have dN:¬T=⟨#[]⟩:=fun e=>hn (ov (b:=[]) (hT.trans e))
 have d2:decide (o=2)=false:=dF h2;have d5:decide (o=5)=false:=dF h5;have Z1:∀E:SO,E=bG->E.eq T ⟨#[]⟩=false:=fun E hE=>by rw[hE];exact dF dN
 exact q9
end
end Go.Proofs.YtjkcdcloomkooaaGreatDoor
