/- Own work: ParserTwo returns true. -/
import Derived.Test.YtcfecmeocimclaaGreatDoorZA0
import Derived.Test.YtcfecmeocimclaaGreatDoorZHI
import Derived.Test.YtcfecmeocimclaaGreatDoorZPWV
namespace Go.Proofs.YtcfecmeocimclaaGreatDoor
open Go.RowKit
set_option maxRecDepth 100000
set_option linter.unusedSimpArgs false
set_option linter.unusedVariables false
theorem zy0 (ks:List PT):zk9 (nd 42 ks) 0 0=.tup [.agg [pI 42,pS ⟨#[]⟩,pI 0,pI 0,zam ks],pI 0,pI 0]:=by
 unfold zk9 nd;rw [zba];rfl
theorem zvq {s:ByteArray} {ts:Ts} {ks:List PT} (h:ScrOk s ts ks) (hs:s.size<=60000):zep ks/\ks.length<=1000000:=by
 have hc:=zn6 h.lex
 have:s.data.toList.length=s.size:=rfl
 exact zqw _ [] (ts.map er) (by trivial) (by simp only [List.length_nil,lLM];omega) (show zia ((ts.map er).length + 1) [] (ts.map er)=some ks from h.scr)
theorem zvu {ks:List PT} {i:Nat} (h:i < ks.length) (hw:zep ks):∃ k q o nm K,zge (.p K)=true/\(zad ks)[i]?=some [pI k,pS nm,pI q,pI o,K]/\V0 14 [.agg [pI k,pS nm,pI q,pI o,K],.agg [pI k,pS nm,pI q,pI o,K]] (pB true):=by
 obtain ⟨k,q,o,nm,K,hv⟩:=zi3 ks[i];have hx:=zio hw (List.getElem_mem h);have hs:=zsn _ ks[i] ks[i] (nR _) hx hx;rw [zm7,hv.row] at hs;refine ⟨k,q,o,nm,K,hv.one,?_,hs⟩;rw [zf5,List.getElem?_eq_getElem h,Option.map_some,hv.row]
structure TwJ (n:Int) (i:Int):Prop where
 i0:0<=i
 i1:i<=n
structure TwR (la lc:Int) (RA RB RC:List (List PV)):Prop where
 a:∀ i:Int,0<=i->i < la->∃ k q o nm K,zge (.p K)=true/\RC[i.toNat]?=some [pI k,pS nm,pI q,pI o,K]/\RA[i.toNat]?=some [pI k,pS nm,pI q,pI o,K]/\V0 14 [.agg [pI k,pS nm,pI q,pI o,K],.agg [pI k,pS nm,pI q,pI o,K]] (pB true)
 b:∀ i:Int,la<=i->i < lc->∃ k q o nm K,zge (.p K)=true/\RC[i.toNat]?=some [pI k,pS nm,pI q,pI o,K]/\RB[(i - la).toNat]?=some [pI k,pS nm,pI q,pI o,K]/\V0 14 [.agg [pI k,pS nm,pI q,pI o,K],.agg [pI k,pS nm,pI q,pI o,K]] (pB true)
theorem twR {ks kt:List PT} (hw:zep ks) (hw':zep kt):TwR (ks.length:Nat) ((ks.length:Nat) + (kt.length:Nat)) (zad ks) (zad kt) (zad (ks++kt)):=by
 have hl:=zby ks
 constructor
 ·intro i h0 h1;obtain ⟨k,q,o,nm,K,g1,g2,g3⟩:=zvu (i:=i.toNat) (show i.toNat < ks.length by omega) hw
  refine ⟨k,q,o,nm,K,g1,?_,g2,g3⟩;rw [zck,List.getElem?_append_left (by omega)]
  exact g2
 ·intro i h0 h1;obtain ⟨k,q,o,nm,K,g1,g2,g3⟩:=zvu (i:=(i - (ks.length:Nat)).toNat) (show (i - (ks.length:Nat)).toNat < kt.length by omega) hw'
  refine ⟨k,q,o,nm,K,g1,?_,g2,g3⟩;rw [zck,List.getElem?_append_right (by omega),show i.toNat - (zad ks).length=(i - (ks.length:Nat)).toNat by omega]
  exact g2
set_option maxHeartbeats 4000000 in
theorem znx (s t:ByteArray):RL 6 [pS s,pS t] (pB true):=by
 obtain ⟨n,hn⟩:∃ n:Int,((s.size:Nat):Int)=n:=⟨_,rfl⟩
 obtain ⟨m,hm⟩:∃ n:Int,((t.size:Nat):Int)=n:=⟨_,rfl⟩
 rcases (show 600 < n\/(¬ 600 < n/\600 < m)\/(¬ 600 < n/\¬ 600 < m) by omega) with h|⟨h,h'⟩|⟨h,h'⟩
 ·have hE0:=hm;refine zdn zaa zbh mixed (fun n=>match n with|14=>34|_=>0) Tryz.func6 rfl (by kernel_rfl) (by kernel_rfl) rfl fun P G E hc hM hE=>?_
  have h1:=hc _ _ _ zeo;have z1:E.size s=n:=by rw [hE];exact hn
  have z2:E.size t=m:=by rw [hE];exact hm
  have d1:E.lti 600 n=true:=by rw [hE];exact dT h
  clear hE hc hM hn hm h;cbv
  repeat (first|(refine ⟨_,h1,?_⟩;cbv)|(simp only [z1];cbv)|simp only [z1]|(simp only [d1];cbv)|simp only [d1])
 ·have hE0:=hm;refine zdn zaa zbh mixed (fun n=>match n with|14=>34|_=>0) Tryz.func6 rfl (by kernel_rfl) (by kernel_rfl) rfl fun P G E hc hM hE=>?_
  have h1:=hc _ _ _ zeo;have z1:E.size s=n:=by rw [hE];exact hn
  have z2:E.size t=m:=by rw [hE];exact hm
  have d1:E.lti 600 n=false:=by rw [hE];exact dF h
  have d2:E.lti 600 m=true:=by rw [hE];exact dT h'
  clear hE hc hM hn hm h h';cbv
  repeat (first|(refine ⟨_,h1,?_⟩;cbv)|(simp only [z1];cbv)|simp only [z1]|(simp only [d1];cbv)|simp only [d1]|(simp only [z2];cbv)|simp only [z2]|(simp only [d2];cbv)|simp only [d2])
 ·have hp:=zjp s (by omega)
  have hq:=zjp t (by omega)
  rcases zlv s with ⟨a,e,he,ho⟩|⟨ts,ks,hS⟩
  ·rw [ho] at hp;obtain ⟨k1,i1,o1,nm1,K1,ok1,ho1⟩:=zlw ptZ a e;rw [ho1] at hp;obtain ⟨x,a2,e2,hx⟩:=zjz scO t;obtain ⟨k2,i2,o2,nm2,K2,ok2,ho2⟩:=zlw x a2 e2;rw [hx,ho2] at hq;refine zdn zaa zbh mixed (fun n=>match n with|14=>34|_=>0) Tryz.func6 rfl (by kernel_rfl) (by kernel_rfl) rfl fun P G E hc hM hE=>?_
   have h1:=hc _ _ _ zeo;have z1:E.size s=n:=by rw [hE];exact hn
   have z2:E.size t=m:=by rw [hE];exact hm
   replace hp:=hc _ _ _ hp;replace hq:=hc _ _ _ hq;have d1:E.lti 600 n=false:=by rw [hE];exact dF h
   have d2:E.lti 600 m=false:=by rw [hE];exact dF h'
   have d3:decide (e=0)=false:=dF he;clear hE hc hM hn hm h h' ho ho1 ho2 hx;cbv at ok1;cbv at ok2;cbv
   repeat (first|(refine ⟨_,h1,?_⟩;cbv)|(simp only [z1];cbv)|simp only [z1]|(simp only [d1];cbv)|simp only [d1]|(simp only [z2];cbv)|simp only [z2]|(simp only [d2];cbv)|simp only [d2]|(refine ⟨_,hp,?_⟩;cbv)|(simp only [ok1];cbv)|simp only [ok1]|(refine ⟨_,hq,?_⟩;cbv)|(simp only [ok2];cbv)|simp only [ok2]|(simp only [d3];cbv)|simp only [d3])
  ·rcases zlv t with ⟨a,e,he,ho⟩|⟨tt,kt,hT⟩
   ·rw [hS.out,zy0] at hp;rw [ho] at hq;obtain ⟨k1,i1,o1,nm1,K1,ok1,ho1⟩:=zlw ptZ a e;rw [ho1] at hq;have ok2:=zez ks;obtain ⟨K2,hK2⟩:∃ K,zam ks=K:=⟨_,rfl⟩
    rw [hK2] at ok2 hp;refine zdn zaa zbh mixed (fun n=>match n with|14=>34|_=>0) Tryz.func6 rfl (by kernel_rfl) (by kernel_rfl) rfl fun P G E hc hM hE=>?_
    have h1:=hc _ _ _ zeo;have z1:E.size s=n:=by rw [hE];exact hn
    have z2:E.size t=m:=by rw [hE];exact hm
    replace hp:=hc _ _ _ hp;replace hq:=hc _ _ _ hq;have d1:E.lti 600 n=false:=by rw [hE];exact dF h
    have d2:E.lti 600 m=false:=by rw [hE];exact dF h'
    have d3:decide (e=0)=false:=dF he;clear hE hc hM hn hm h h' ho ho1 hS hK2;cbv at ok1;cbv at ok2;cbv
    repeat (first|(refine ⟨_,h1,?_⟩;cbv)|(simp only [z1];cbv)|simp only [z1]|(simp only [d1];cbv)|simp only [d1]|(simp only [z2];cbv)|simp only [z2]|(simp only [d2];cbv)|simp only [d2]|(refine ⟨_,hp,?_⟩;cbv)|(simp only [ok2];cbv)|simp only [ok2]|(refine ⟨_,hq,?_⟩;cbv)|(simp only [ok1];cbv)|simp only [ok1]|(simp only [d3];cbv)|simp only [d3])
   ·obtain ⟨u,hu⟩:=z3z hS hT;obtain ⟨Y,hY⟩:∃ x,s++⟨#[10]⟩=x:=⟨_,rfl⟩
    obtain ⟨X,hX⟩:∃ x,Y++t=x:=⟨_,rfl⟩
    rw [hY,hX] at hu;have hYs:Y.size=s.size + 1:=by rw [<-hY,ByteArray.size_append];rfl
    have hr:=zjp X (by rw [<-hX,ByteArray.size_append];omega)
    rw [hS.out,zy0] at hp;rw [hT.out,zy0] at hq;rw [hu.out,zy0] at hr;obtain ⟨hw1,hl1⟩:=zvq hS (by omega)
    obtain ⟨hw2,hl2⟩:=zvq hT (by omega)
    have hR:=twR hw1 hw2;have ok1:=zez ks;have ok2:=zez kt;have ok3:=zez (ks++kt);obtain ⟨μ,hμ⟩:∃ μ:Int->Nat,∀ x,μ x=2000000000 - x.toNat:=⟨_,fun _=>rfl⟩
    obtain ⟨la,hla⟩:∃ x:Int,((ks.length:Nat):Int)=x:=⟨_,rfl⟩
    obtain ⟨lb,hlb⟩:∃ x:Int,((kt.length:Nat):Int)=x:=⟨_,rfl⟩
    obtain ⟨lc,hlc⟩:∃ x:Int,la + lb=x:=⟨_,rfl⟩
    have hra:=zby ks;have hrb:=zby kt;have hrc:=zby (ks++kt);rw [lLA] at hrc;rw [hla,hlb,hlc] at hR;obtain ⟨RA,hRA⟩:∃ x,zad ks=x:=⟨_,rfl⟩
    obtain ⟨RB,hRB⟩:∃ x,zad kt=x:=⟨_,rfl⟩
    obtain ⟨RC,hRC⟩:∃ x,zad (ks++kt)=x:=⟨_,rfl⟩
    rw [hRA] at hra hR;rw [hRB] at hrb hR;rw [hRC] at hrc hR;have hcl:((RC.length:Nat):Int)=lc:=by rw [hrc];omega
    have hab:0<=la/\0<=lb/\la<=1000000/\lb<=1000000:=by omega
    obtain ⟨hab1,hab2,hab3,hab4⟩:=hab
    rcases (show ks=[]/\kt=[]\/ks=[]/\kt ≠ []\/ks ≠ []/\kt=[]\/ks ≠ []/\kt ≠ [] from by
     rcases cEm (ks=[]) with a|a <;> rcases cEm (kt=[]) with b|b
     ·exact .inl ⟨a,b⟩
     ·exact .inr (.inl ⟨a,b⟩)
     ·exact .inr (.inr (.inl ⟨a,b⟩))
     ·exact .inr (.inr (.inr ⟨a,b⟩))) with ⟨ka,kb⟩|⟨ka,kb⟩|⟨ka,kb⟩|⟨ka,kb⟩
    ·have ga:zam ks=.v (.slice none 0 0):=by rw [ka,zam]
     have gb:zam kt=.v (.slice none 0 0):=by rw [kb,zam]
     have gc:zam (ks++kt)=.v (.slice none 0 0):=by rw [ka,kb,lNA,zam]
     rw [ga] at hp ok1;rw [gb] at hq ok2;rw [gc] at hr ok3;have la0:la=0:=by rw [<-hla,ka];rfl
     have lb0:lb=0:=by rw [<-hlb,kb];rfl
     subst la0 lb0;have lc0:lc=0:=by omega
     subst lc0;clear ga gb gc ka kb hw1 hw2 hRA hRB hRC;cbv at ok1;cbv at ok2;cbv at ok3;refine zdn zaa zbh mixed (fun n=>match n with|14=>34|_=>0) Tryz.func6 rfl (by kernel_rfl) (by kernel_rfl) rfl fun P G E hc hM hE=>?_
     have h1:=hc _ _ _ zeo;have z1:E.size s=n:=by rw [hE];exact hn
     have z2:E.size t=m:=by rw [hE];exact hm
     replace hp:=hc _ _ _ hp;replace hq:=hc _ _ _ hq;replace hr:=hc _ _ _ hr;have n0:E.ofN 0=0:=by rw [hE];rfl
     replace hn:((s.size:Nat):Int)=n:=hn;replace hm:((t.size:Nat):Int)=m:=hm;replace h:¬ 600 < n:=h;replace h':¬ 600 < m:=h';replace hYs:Y.size=s.size + 1:=hYs;have f1:decide (0=0)=true:=dT rfl;have w0:E.wadd .i64 0 0=0:=by rw [hE];first|exact (zaf (by omega) (by omega)).trans (by omega)|rfl
     have d1:E.lti 600 n=false:=by rw [hE];exact dF h
     have d2:E.lti 600 m=false:=by rw [hE];exact dF h'
     have c1:E.cat s ⟨#[10]⟩:=by rw [hE];show ((s.size:Nat):Int) + 1<=_;omega
     have e1:E.add s ⟨#[10]⟩=Y:=by rw [hE];exact hY
     have c2:E.cat Y t:=by rw [hE];show ((Y.size:Nat):Int) + ((t.size:Nat):Int)<=_;omega
     have e2:E.add Y t=X:=by rw [hE];exact hX
     clear hS hT hu hn hm h h' hY hX hYs;cbv
     repeat (first|(refine ⟨_,h1,?_⟩;cbv)|(simp only [z1];cbv)|simp only [z1]|(simp only [d1];cbv)|simp only [d1]|(simp only [z2];cbv)|simp only [z2]|(simp only [d2];cbv)|simp only [d2]|(refine ⟨_,hp,?_⟩;cbv)|(simp only [ok1];cbv)|simp only [ok1]|(refine ⟨_,hq,?_⟩;cbv)|(simp only [ok2];cbv)|simp only [ok2]|(refine ⟨c1,?_⟩;cbv)|(simp only [e1];cbv)|simp only [e1]|(refine ⟨c2,?_⟩;cbv)|(simp only [e2];cbv)|simp only [e2]|(refine ⟨_,hr,?_⟩;cbv)|(simp only [ok3];cbv)|simp only [ok3]|(simp only [n0];cbv)|simp only [n0]|(simp only [w0];cbv)|simp only [w0]|(simp only [f1];cbv)|simp only [f1])
     clear h1 z1 d1 z2 d2 hp hq hr c1 e1 c2 e2 w0 f1 ok1 ok2 ok3;refine zbg 119 [4,5,8,11,14,15] 3 (fun x:Int=>[.p (pB false),.own 0 0,.own 1 0,.own 2 0,.p (pI 0),.p (pI x)]) (fun _=>[some (.box [.p (pI 42),.p (pS ⟨#[]⟩),.p (pI 0),.p (pI 0),.p (.v (.slice none 0 0))] 27 none),some (.box [.p (pI 42),.p (pS ⟨#[]⟩),.p (pI 0),.p (pI 0),.p (.v (.slice none 0 0))] 27 none),some (.box [.p (pI 42),.p (pS ⟨#[]⟩),.p (pI 0),.p (pI 0),.p (.v (.slice none 0 0))] 27 none)]) (TwJ 0) μ 0 ⟨rfl,rfl,rfl,rfl,rfl⟩ ⟨Int.le_refl 0,by omega⟩ ?_
     rintro i ⟨j0,j1⟩
     have d4:E.lti i 0=false:=by rw [hE];exact dF (by omega)
     cbv
     repeat (first|(simp only [n0];cbv)|simp only [n0]|(simp only [d4];cbv)|simp only [d4])
    ·have ga:zam ks=.v (.slice none 0 0):=by rw [ka,zam]
     have gb:zam kt=.ro 5 RB:=by exact zb1 (List.exists_cons_of_ne_nil kb) hRB
     have gc:zam (ks++kt)=.ro 5 RC:=by exact zb1 (List.exists_cons_of_ne_nil (by simp [ka,kb])) hRC
     rw [ga] at hp ok1;rw [gb] at hq ok2;rw [gc] at hr ok3;have la0:la=0:=by rw [<-hla,ka];rfl
     have lc0:lb=lc:=by omega
     subst la0 lc0;clear ga gb gc ka kb hw1 hw2 hRA hRB hRC;cbv at ok1;cbv at ok2;cbv at ok3;refine zdn zaa zbh mixed (fun n=>match n with|14=>34|_=>0) Tryz.func6 rfl (by kernel_rfl) (by kernel_rfl) rfl fun P G E hc hM hE=>?_
     have h1:=hc _ _ _ zeo;have z1:E.size s=n:=by rw [hE];exact hn
     have z2:E.size t=m:=by rw [hE];exact hm
     replace hp:=hc _ _ _ hp;replace hq:=hc _ _ _ hq;replace hr:=hc _ _ _ hr;have n0:E.ofN 0=0:=by rw [hE];rfl
     have n2:E.ofN RB.length=lb:=by rw [hE,hrb];exact hlb
     cbv at n2;have n3:E.ofN RC.length=lb:=by rw [hE];exact hcl
     cbv at n3;replace hn:((s.size:Nat):Int)=n:=hn;replace hm:((t.size:Nat):Int)=m:=hm;replace h:¬ 600 < n:=h;replace h':¬ 600 < m:=h';replace hYs:Y.size=s.size + 1:=hYs;replace hab2:0<=lb:=hab2;replace hab4:lb<=1000000:=hab4;have f1:decide (lb=lb)=true:=dT rfl;have w0:E.wadd .i64 0 lb=lb:=by rw [hE];first|exact (zaf (by omega) (by omega)).trans (by omega)|rfl
     have d1:E.lti 600 n=false:=by rw [hE];exact dF h
     have d2:E.lti 600 m=false:=by rw [hE];exact dF h'
     have c1:E.cat s ⟨#[10]⟩:=by rw [hE];show ((s.size:Nat):Int) + 1<=_;omega
     have e1:E.add s ⟨#[10]⟩=Y:=by rw [hE];exact hY
     have c2:E.cat Y t:=by rw [hE];show ((Y.size:Nat):Int) + ((t.size:Nat):Int)<=_;omega
     have e2:E.add Y t=X:=by rw [hE];exact hX
     clear hS hT hu hn hm h h' hY hX hYs;cbv
     repeat (first|(refine ⟨_,h1,?_⟩;cbv)|(simp only [z1];cbv)|simp only [z1]|(simp only [d1];cbv)|simp only [d1]|(simp only [z2];cbv)|simp only [z2]|(simp only [d2];cbv)|simp only [d2]|(refine ⟨_,hp,?_⟩;cbv)|(simp only [ok1];cbv)|simp only [ok1]|(refine ⟨_,hq,?_⟩;cbv)|(simp only [ok2];cbv)|simp only [ok2]|(refine ⟨c1,?_⟩;cbv)|(simp only [e1];cbv)|simp only [e1]|(refine ⟨c2,?_⟩;cbv)|(simp only [e2];cbv)|simp only [e2]|(refine ⟨_,hr,?_⟩;cbv)|(simp only [ok3];cbv)|simp only [ok3]|(simp only [n0];cbv)|simp only [n0]|(simp only [n2];cbv)|simp only [n2]|(simp only [n3];cbv)|simp only [n3]|(simp only [w0];cbv)|simp only [w0]|(simp only [f1];cbv)|simp only [f1])
     clear h1 z1 d1 z2 d2 hp hq hr c1 e1 c2 e2 w0 f1 ok1 ok2 ok3;refine zbg 119 [4,5,8,11,14,15] 3 (fun x:Int=>[.p (pB false),.own 0 0,.own 1 0,.own 2 0,.p (pI 0),.p (pI x)]) (fun _=>[some (.box [.p (pI 42),.p (pS ⟨#[]⟩),.p (pI 0),.p (pI 0),.p (.v (.slice none 0 0))] 27 none),some (.box [.p (pI 42),.p (pS ⟨#[]⟩),.p (pI 0),.p (pI 0),.p (.ro 5 RB)] 27 none),some (.box [.p (pI 42),.p (pS ⟨#[]⟩),.p (pI 0),.p (pI 0),.p (.ro 5 RC)] 27 none)]) (TwJ lb) μ 0 ⟨rfl,rfl,rfl,rfl,rfl⟩ ⟨Int.le_refl 0,by omega⟩ ?_
     rintro i ⟨j0,j1⟩
     rcases (show i < lb\/¬ i < lb by omega) with hA|hA
     ·have hE0:=hE;obtain ⟨i2,hi2⟩:∃ x:Int,i + 1=x:=⟨_,rfl⟩
      have w1:E.wadd .i64 i 1=i2:=by rw [hE,<- hi2];exact zaf (by omega) (by omega)
      have hI2:TwJ lb i2:=⟨by omega,by omega⟩
      have hmu:μ i2 < μ i:=by rw [hμ,hμ];omega
      have d4:E.lti i lb=true:=by rw [hE];exact dT (by omega)
      obtain ⟨k1,q1,o1,nm1,K1,okr,g1,g2,g3⟩:=hR.b i (by omega) (by omega)
      obtain ⟨j,hj⟩:∃ x:Int,i - 0=x:=⟨_,rfl⟩
      rw [hj] at g2;have d5:E.lti i 0=false:=by rw [hE];exact dF (by omega)
      have d6:E.lei 0 i=true:=by rw [hE];exact dT (by omega)
      have w2:E.wsub .i64 i 0=j:=by rw [hE,<- hj];exact zaf (by omega) (by omega)
      have p0:E.ple 0 i:=by rw [hE];exact j0
      have p1:E.ple 0 j:=by rw [hE];show 0<=j;omega
      have r1:RC[E.nat i]?=some [pI k1,pS nm1,pI q1,pI o1,K1]:=by rw [hE];exact g1
      have r2:RB[E.nat j]?=some [pI k1,pS nm1,pI q1,pI o1,K1]:=by rw [hE];exact g2
      have hsm:=hc _ _ _ (upL g3);cbv at okr;cbv
      repeat (first|(simp only [n3];cbv)|simp only [n3]|(simp only [d4];cbv)|simp only [d4]|(simp only [d5];cbv)|simp only [d5]|(simp only [d6];cbv)|simp only [d6]|(refine ⟨p0,_,r1,?_⟩;cbv)|(simp only [w2];cbv)|simp only [w2]|(refine ⟨p1,_,r2,?_⟩;cbv)|(simp only [okr];cbv)|simp only [okr]|(refine ⟨_,hsm,?_⟩;cbv)|(simp only [w1];cbv)|simp only [w1])
      exact .mk i2 ⟨rfl,rfl,rfl,rfl,rfl⟩ hI2 hmu
     ·have hE0:=hE;have d4:E.lti i lb=false:=by rw [hE];exact dF (by omega)
      cbv
      repeat (first|(simp only [n3];cbv)|simp only [n3]|(simp only [d4];cbv)|simp only [d4])
    ·have ga:zam ks=.ro 5 RA:=by exact zb1 (List.exists_cons_of_ne_nil ka) hRA
     have gb:zam kt=.v (.slice none 0 0):=by rw [kb,zam]
     have gc:zam (ks++kt)=.ro 5 RC:=by exact zb1 (List.exists_cons_of_ne_nil (by simp [ka,kb])) hRC
     rw [ga] at hp ok1;rw [gb] at hq ok2;rw [gc] at hr ok3;have lb0:lb=0:=by rw [<-hlb,kb];rfl
     have lc0:la=lc:=by omega
     subst lb0 lc0;clear ga gb gc ka kb hw1 hw2 hRA hRB hRC;cbv at ok1;cbv at ok2;cbv at ok3;refine zdn zaa zbh mixed (fun n=>match n with|14=>34|_=>0) Tryz.func6 rfl (by kernel_rfl) (by kernel_rfl) rfl fun P G E hc hM hE=>?_
     have h1:=hc _ _ _ zeo;have z1:E.size s=n:=by rw [hE];exact hn
     have z2:E.size t=m:=by rw [hE];exact hm
     replace hp:=hc _ _ _ hp;replace hq:=hc _ _ _ hq;replace hr:=hc _ _ _ hr;have n0:E.ofN 0=0:=by rw [hE];rfl
     have n1:E.ofN RA.length=la:=by rw [hE,hra];exact hla
     cbv at n1;have n3:E.ofN RC.length=la:=by rw [hE];exact hcl
     cbv at n3;replace hn:((s.size:Nat):Int)=n:=hn;replace hm:((t.size:Nat):Int)=m:=hm;replace h:¬ 600 < n:=h;replace h':¬ 600 < m:=h';replace hYs:Y.size=s.size + 1:=hYs;replace hab1:0<=la:=hab1;replace hab3:la<=1000000:=hab3;have f1:decide (la=la)=true:=dT rfl;have w0:E.wadd .i64 la 0=la:=by rw [hE];first|exact (zaf (by omega) (by omega)).trans (by omega)|rfl
     have d1:E.lti 600 n=false:=by rw [hE];exact dF h
     have d2:E.lti 600 m=false:=by rw [hE];exact dF h'
     have c1:E.cat s ⟨#[10]⟩:=by rw [hE];show ((s.size:Nat):Int) + 1<=_;omega
     have e1:E.add s ⟨#[10]⟩=Y:=by rw [hE];exact hY
     have c2:E.cat Y t:=by rw [hE];show ((Y.size:Nat):Int) + ((t.size:Nat):Int)<=_;omega
     have e2:E.add Y t=X:=by rw [hE];exact hX
     clear hS hT hu hn hm h h' hY hX hYs;cbv
     repeat (first|(refine ⟨_,h1,?_⟩;cbv)|(simp only [z1];cbv)|simp only [z1]|(simp only [d1];cbv)|simp only [d1]|(simp only [z2];cbv)|simp only [z2]|(simp only [d2];cbv)|simp only [d2]|(refine ⟨_,hp,?_⟩;cbv)|(simp only [ok1];cbv)|simp only [ok1]|(refine ⟨_,hq,?_⟩;cbv)|(simp only [ok2];cbv)|simp only [ok2]|(refine ⟨c1,?_⟩;cbv)|(simp only [e1];cbv)|simp only [e1]|(refine ⟨c2,?_⟩;cbv)|(simp only [e2];cbv)|simp only [e2]|(refine ⟨_,hr,?_⟩;cbv)|(simp only [ok3];cbv)|simp only [ok3]|(simp only [n0];cbv)|simp only [n0]|(simp only [n1];cbv)|simp only [n1]|(simp only [n3];cbv)|simp only [n3]|(simp only [w0];cbv)|simp only [w0]|(simp only [f1];cbv)|simp only [f1])
     clear h1 z1 d1 z2 d2 hp hq hr c1 e1 c2 e2 w0 f1 ok1 ok2 ok3;refine zbg 119 [4,5,8,11,14,15] 3 (fun x:Int=>[.p (pB false),.own 0 0,.own 1 0,.own 2 0,.p (pI la),.p (pI x)]) (fun _=>[some (.box [.p (pI 42),.p (pS ⟨#[]⟩),.p (pI 0),.p (pI 0),.p (.ro 5 RA)] 27 none),some (.box [.p (pI 42),.p (pS ⟨#[]⟩),.p (pI 0),.p (pI 0),.p (.v (.slice none 0 0))] 27 none),some (.box [.p (pI 42),.p (pS ⟨#[]⟩),.p (pI 0),.p (pI 0),.p (.ro 5 RC)] 27 none)]) (TwJ la) μ 0 ⟨rfl,rfl,rfl,rfl,rfl⟩ ⟨Int.le_refl 0,by omega⟩ ?_
     rintro i ⟨j0,j1⟩
     rcases (show i < la\/¬ i < la by omega) with hA|hA
     ·have hE0:=hE;obtain ⟨i2,hi2⟩:∃ x:Int,i + 1=x:=⟨_,rfl⟩
      have w1:E.wadd .i64 i 1=i2:=by rw [hE,<- hi2];exact zaf (by omega) (by omega)
      have hI2:TwJ la i2:=⟨by omega,by omega⟩
      have hmu:μ i2 < μ i:=by rw [hμ,hμ];omega
      have d4:E.lti i la=true:=by rw [hE];exact dT (by omega)
      obtain ⟨k1,q1,o1,nm1,K1,okr,g1,g2,g3⟩:=hR.a i j0 hA;have d5:E.lti i la=true:=by rw [hE];exact dT hA
      have d6:E.lei la i=false:=by rw [hE];exact dF (by omega)
      have p0:E.ple 0 i:=by rw [hE];exact j0
      have r1:RC[E.nat i]?=some [pI k1,pS nm1,pI q1,pI o1,K1]:=by rw [hE];exact g1
      have r2:RA[E.nat i]?=some [pI k1,pS nm1,pI q1,pI o1,K1]:=by rw [hE];exact g2
      have hsm:=hc _ _ _ (upL g3);cbv at okr;cbv
      repeat (first|(simp only [n3];cbv)|simp only [n3]|(simp only [d4];cbv)|simp only [d4]|(simp only [d5];cbv)|simp only [d5]|(refine ⟨p0,_,r1,?_⟩;cbv)|(refine ⟨p0,_,r2,?_⟩;cbv)|(simp only [okr];cbv)|simp only [okr]|(refine ⟨_,hsm,?_⟩;cbv)|(simp only [d6];cbv)|simp only [d6]|(simp only [w1];cbv)|simp only [w1])
      exact .mk i2 ⟨rfl,rfl,rfl,rfl,rfl⟩ hI2 hmu
     ·have hE0:=hE;have d4:E.lti i la=false:=by rw [hE];exact dF (by omega)
      cbv
      repeat (first|(simp only [n3];cbv)|simp only [n3]|(simp only [d4];cbv)|simp only [d4])
    ·have ga:zam ks=.ro 5 RA:=by exact zb1 (List.exists_cons_of_ne_nil ka) hRA
     have gb:zam kt=.ro 5 RB:=by exact zb1 (List.exists_cons_of_ne_nil kb) hRB
     have gc:zam (ks++kt)=.ro 5 RC:=by exact zb1 (List.exists_cons_of_ne_nil (by simp [ka,kb])) hRC
     rw [ga] at hp ok1;rw [gb] at hq ok2;rw [gc] at hr ok3;clear ga gb gc ka kb hw1 hw2 hRA hRB hRC;cbv at ok1;cbv at ok2;cbv at ok3;refine zdn zaa zbh mixed (fun n=>match n with|14=>34|_=>0) Tryz.func6 rfl (by kernel_rfl) (by kernel_rfl) rfl fun P G E hc hM hE=>?_
     have h1:=hc _ _ _ zeo;have z1:E.size s=n:=by rw [hE];exact hn
     have z2:E.size t=m:=by rw [hE];exact hm
     replace hp:=hc _ _ _ hp;replace hq:=hc _ _ _ hq;replace hr:=hc _ _ _ hr;have n1:E.ofN RA.length=la:=by rw [hE,hra];exact hla
     cbv at n1;have n2:E.ofN RB.length=lb:=by rw [hE,hrb];exact hlb
     cbv at n2;have n3:E.ofN RC.length=lc:=by rw [hE];exact hcl
     cbv at n3;replace hn:((s.size:Nat):Int)=n:=hn;replace hm:((t.size:Nat):Int)=m:=hm;replace h:¬ 600 < n:=h;replace h':¬ 600 < m:=h';replace hYs:Y.size=s.size + 1:=hYs;replace hab1:0<=la:=hab1;replace hab3:la<=1000000:=hab3;replace hab2:0<=lb:=hab2;replace hab4:lb<=1000000:=hab4;replace hlc:la + lb=lc:=hlc;have f1:decide (lc=lc)=true:=dT rfl;have w0:E.wadd .i64 la lb=lc:=by rw [hE];first|exact (zaf (by omega) (by omega)).trans (by omega)|rfl
     have d1:E.lti 600 n=false:=by rw [hE];exact dF h
     have d2:E.lti 600 m=false:=by rw [hE];exact dF h'
     have c1:E.cat s ⟨#[10]⟩:=by rw [hE];show ((s.size:Nat):Int) + 1<=_;omega
     have e1:E.add s ⟨#[10]⟩=Y:=by rw [hE];exact hY
     have c2:E.cat Y t:=by rw [hE];show ((Y.size:Nat):Int) + ((t.size:Nat):Int)<=_;omega
     have e2:E.add Y t=X:=by rw [hE];exact hX
     clear hS hT hu hn hm h h' hY hX hYs;cbv
     repeat (first|(refine ⟨_,h1,?_⟩;cbv)|(simp only [z1];cbv)|simp only [z1]|(simp only [d1];cbv)|simp only [d1]|(simp only [z2];cbv)|simp only [z2]|(simp only [d2];cbv)|simp only [d2]|(refine ⟨_,hp,?_⟩;cbv)|(simp only [ok1];cbv)|simp only [ok1]|(refine ⟨_,hq,?_⟩;cbv)|(simp only [ok2];cbv)|simp only [ok2]|(refine ⟨c1,?_⟩;cbv)|(simp only [e1];cbv)|simp only [e1]|(refine ⟨c2,?_⟩;cbv)|(simp only [e2];cbv)|simp only [e2]|(refine ⟨_,hr,?_⟩;cbv)|(simp only [ok3];cbv)|simp only [ok3]|(simp only [n1];cbv)|simp only [n1]|(simp only [n2];cbv)|simp only [n2]|(simp only [n3];cbv)|simp only [n3]|(simp only [w0];cbv)|simp only [w0]|(simp only [f1];cbv)|simp only [f1])
     clear h1 z1 d1 z2 d2 hp hq hr c1 e1 c2 e2 w0 f1 ok1 ok2 ok3;refine zbg 119 [4,5,8,11,14,15] 3 (fun x:Int=>[.p (pB false),.own 0 0,.own 1 0,.own 2 0,.p (pI la),.p (pI x)]) (fun _=>[some (.box [.p (pI 42),.p (pS ⟨#[]⟩),.p (pI 0),.p (pI 0),.p (.ro 5 RA)] 27 none),some (.box [.p (pI 42),.p (pS ⟨#[]⟩),.p (pI 0),.p (pI 0),.p (.ro 5 RB)] 27 none),some (.box [.p (pI 42),.p (pS ⟨#[]⟩),.p (pI 0),.p (pI 0),.p (.ro 5 RC)] 27 none)]) (TwJ lc) μ 0 ⟨rfl,rfl,rfl,rfl,rfl⟩ ⟨Int.le_refl 0,by omega⟩ ?_
     rintro i ⟨j0,j1⟩
     rcases (show i < la\/(¬ i < la/\i < lc)\/¬ i < lc by omega) with hA|hA|hA
     ·have hE0:=hE;obtain ⟨i2,hi2⟩:∃ x:Int,i + 1=x:=⟨_,rfl⟩
      have w1:E.wadd .i64 i 1=i2:=by rw [hE,<- hi2];exact zaf (by omega) (by omega)
      have hI2:TwJ lc i2:=⟨by omega,by omega⟩
      have hmu:μ i2 < μ i:=by rw [hμ,hμ];omega
      have d4:E.lti i lc=true:=by rw [hE];exact dT (by omega)
      obtain ⟨k1,q1,o1,nm1,K1,okr,g1,g2,g3⟩:=hR.a i j0 hA;have d5:E.lti i la=true:=by rw [hE];exact dT hA
      have d6:E.lei la i=false:=by rw [hE];exact dF (by omega)
      have p0:E.ple 0 i:=by rw [hE];exact j0
      have r1:RC[E.nat i]?=some [pI k1,pS nm1,pI q1,pI o1,K1]:=by rw [hE];exact g1
      have r2:RA[E.nat i]?=some [pI k1,pS nm1,pI q1,pI o1,K1]:=by rw [hE];exact g2
      have hsm:=hc _ _ _ (upL g3);cbv at okr;cbv
      repeat (first|(simp only [n3];cbv)|simp only [n3]|(simp only [d4];cbv)|simp only [d4]|(simp only [d5];cbv)|simp only [d5]|(refine ⟨p0,_,r1,?_⟩;cbv)|(refine ⟨p0,_,r2,?_⟩;cbv)|(simp only [okr];cbv)|simp only [okr]|(refine ⟨_,hsm,?_⟩;cbv)|(simp only [d6];cbv)|simp only [d6]|(simp only [w1];cbv)|simp only [w1])
      exact .mk i2 ⟨rfl,rfl,rfl,rfl,rfl⟩ hI2 hmu
     ·have hE0:=hE;obtain ⟨i2,hi2⟩:∃ x:Int,i + 1=x:=⟨_,rfl⟩
      have w1:E.wadd .i64 i 1=i2:=by rw [hE,<- hi2];exact zaf (by omega) (by omega)
      have hI2:TwJ lc i2:=⟨by omega,by omega⟩
      have hmu:μ i2 < μ i:=by rw [hμ,hμ];omega
      have d4:E.lti i lc=true:=by rw [hE];exact dT (by omega)
      obtain ⟨k1,q1,o1,nm1,K1,okr,g1,g2,g3⟩:=hR.b i (by omega) (by omega)
      obtain ⟨j,hj⟩:∃ x:Int,i - la=x:=⟨_,rfl⟩
      rw [hj] at g2;have d5:E.lti i la=false:=by rw [hE];exact dF (by omega)
      have d6:E.lei la i=true:=by rw [hE];exact dT (by omega)
      have w2:E.wsub .i64 i la=j:=by rw [hE,<- hj];exact zaf (by omega) (by omega)
      have p0:E.ple 0 i:=by rw [hE];exact j0
      have p1:E.ple 0 j:=by rw [hE];show 0<=j;omega
      have r1:RC[E.nat i]?=some [pI k1,pS nm1,pI q1,pI o1,K1]:=by rw [hE];exact g1
      have r2:RB[E.nat j]?=some [pI k1,pS nm1,pI q1,pI o1,K1]:=by rw [hE];exact g2
      have hsm:=hc _ _ _ (upL g3);cbv at okr;cbv
      repeat (first|(simp only [n3];cbv)|simp only [n3]|(simp only [d4];cbv)|simp only [d4]|(simp only [d5];cbv)|simp only [d5]|(simp only [d6];cbv)|simp only [d6]|(refine ⟨p0,_,r1,?_⟩;cbv)|(simp only [w2];cbv)|simp only [w2]|(refine ⟨p1,_,r2,?_⟩;cbv)|(simp only [okr];cbv)|simp only [okr]|(refine ⟨_,hsm,?_⟩;cbv)|(simp only [w1];cbv)|simp only [w1])
      exact .mk i2 ⟨rfl,rfl,rfl,rfl,rfl⟩ hI2 hmu
     ·have hE0:=hE;have d4:E.lti i lc=false:=by rw [hE];exact dF (by omega)
      cbv
      repeat (first|(simp only [n3];cbv)|simp only [n3]|(simp only [d4];cbv)|simp only [d4])
end Go.Proofs.YtcfecmeocimclaaGreatDoor
