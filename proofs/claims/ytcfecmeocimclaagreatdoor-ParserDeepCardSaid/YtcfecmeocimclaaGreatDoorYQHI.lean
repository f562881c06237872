/- Own work: crowded and shallow. -/
import Derived.Test.YtcfecmeocimclaaGreatDoorYQA0
import Derived.Test.YtcfecmeocimclaaGreatDoorYQGZ
import Derived.Test.YtcfecmeocimclaaGreatDoorYQHH
namespace Go.Proofs.YtcfecmeocimclaaGreatDoor
open Go.RowKit
set_option maxRecDepth 100000
set_option linter.unusedSimpArgs false
set_option linter.unusedVariables false
structure CrI (n:Int) (toks:List Tk) (q:Bool) (x:Int × Int × Ts × Nat):Prop where
 d:toks.drop x.1.toNat=x.2.2.1
 i0:0<=x.1
 i1:x.1 + ((x.2.2.1.length:Nat):Int)=((toks.length:Nat):Int)
 m:((x.2.2.2:Nat):Int)=x.2.1
 m1:x.2.2.2<=128
 q:za4 x.2.2.2 x.2.2.1=q
set_option maxHeartbeats 2000000 in
theorem znc (n:Int) (toks:List Tk) (hz:toks.length<=1000000):V0 33 [.ro 3 (zbt n toks)] (pB (za4 0 toks)):=by
 obtain ⟨q,hq⟩:∃ q,za4 0 toks=q:=⟨_,rfl⟩
 rw [hq];have hrl:=zeb n toks;have hget:∀ (j:Nat) (t:Tk),toks[j]?=some t->(zbt n toks)[j]?=some [pI t.k,pS (bL t.t),pI (n - (t.rem:Nat))]:=fun j t ht=>by
  unfold zbt;rw [List.getElem?_map,ht];rfl
 obtain ⟨LR,hLR⟩:∃ x,zbt n toks=x:=⟨_,rfl⟩
 rw [hLR] at hrl hget;rw [hLR];obtain ⟨M,hM⟩:∃ M:Int,((toks.length:Nat):Int)=M:=⟨_,rfl⟩
 obtain ⟨μ,hμ⟩:∃ μ:Int × Int × Ts × Nat->Nat,∀ x,μ x=x.2.2.1.length:=⟨_,fun _=>rfl⟩
 refine zao zaa zbl mixed (fun _=>0) Tryz.func33 rfl (by kernel_rfl) (by kernel_rfl) rfl fun P G E hc hE=>?_
 have l0:E.ofN LR.length=M:=by rw [hE,hrl];exact hM
 cbv at l0;have x0:CrI n toks q (0,0,toks,0):=⟨rfl,Int.le_refl 0,by simp,rfl,Nat.zero_le _,hq⟩
 cbv;simp only [l0];cbv;refine za7 33 [3,6,7,8] 0 (fun x:Int × Int × Ts × Nat=>[.p (pI x.2.1),.p (.ro 3 LR),.p (pI M),.p (pI x.1)]) (fun _=>[]) (CrI n toks q) μ (0,0,toks,0) ⟨rfl,rfl,rfl,rfl,rfl⟩ x0 ?_
 rintro ⟨i,op,l,m⟩ hI
 obtain ⟨g1,g2,g3,g4,g5,g6⟩:=hI;simp only at g1 g2 g3 g4 g5 g6;replace hM:((toks.length:Nat):Int)=M:=hM
 cases l with
 | nil =>
  have d1:E.lti i M=false:=by rw [hE];exact dF (by simp only [List.length_nil] at g3;omega)
  have e0:false=q:=g6;subst e0;cbv;simp only [d1];cbv;all_goals trivial
 | cons t l =>
  have d1:E.lti i M=true:=by rw [hE];exact dT (by simp only [lLC] at g3;omega)
  have ht:toks[i.toNat]?=some t:=by
   have:=congrArg (fun r:List Tk=>r[0]?) g1
   rw [List.getElem?_drop] at this;simpa using this
  have p0:E.ple 0 i:=by rw [hE];exact g2
  have r0:LR[E.nat i]?=some [pI t.k,pS (bL t.t),pI (n - (t.rem:Nat))]:=by rw [hE];exact hget _ t ht
  obtain ⟨i2,hi2⟩:∃ i2,i + 1=i2:=⟨_,rfl⟩
  have ea:E.wadd .i64 i 1=i2:=by rw [hE,<- hi2];exact zac (by omega) (by simp only [lLC] at g3;omega)
  have n1:toks.drop i2.toNat=l:=by
   have:i2.toNat=i.toNat + 1:=by omega
   rw [this,<- lDD,g1];rfl
  have n2:0<=i2:=by omega
  have n3:i2 + ((l.length:Nat):Int)=((toks.length:Nat):Int):=by simp only [lLC] at g3;omega
  have hmu:∀ (op':Int) (m':Nat),μ (i2,op',l,m') < μ (i,op,t :: l,m):=fun op' m'=>by rw [hμ,hμ];show l.length < (t :: l).length;simp
  have eqs:∀ w:Bs,E.eq (bL t.t) (bL w)=decide (t.t=w):=fun w=>by
   rw [hE];exact decide_eq_decide.2 ⟨znf,congrArg bL⟩
  rw [za4] at g6;obtain ⟨K,hK⟩:∃ K,t.k=K:=⟨_,rfl⟩
  obtain ⟨T,hT⟩:∃ T,bL t.t=T:=⟨_,rfl⟩
  obtain ⟨Z,hZ⟩:∃ Z,n - ((t.rem:Nat):Int)=Z:=⟨_,rfl⟩
  rw [hK,hT,hZ] at r0;rw [hT] at eqs
  rcases cEm (K=5) with hk|hk
  ·have dk:decide (K=5)=true:=dT hk;have hb:tkB t=brk t.t:=by unfold tkB;rw [hK,if_pos hk]
   rcases cEm (t.t=zbo) with hw|hw1
   ·have hb1:tkB t=1:=by rw [hb,hw];decide
    rw [hb1] at g6;have w1:=eqs zbo;have w2:=eqs zn4;have w3:=eqs zg9;rw [hw] at w1 w2 w3;cbv at w1 w2 w3;replace g4:((m:Nat):Int)=op:=g4;obtain ⟨op2,ho2⟩:∃ x,op + 1=x:=⟨_,rfl⟩
    have eo:E.wadd .i64 op 1=op2:=by rw [hE,<- ho2];exact zac (by omega) (by omega)
    rcases Nat.lt_or_ge 128 (m + 1) with h|h
    ·have e0:true=q:=by rw [<-g6];simp only [if_pos h]
     have d8:E.lti 128 op2=true:=by rw [hE];exact dT (by omega)
     subst e0;cbv
     repeat (first|(simp only [d1];cbv)|(refine ⟨p0,_,r0,?_⟩;cbv)|(simp only [dk];cbv)|(simp only [w1];cbv)|(simp only [eo];cbv)|(simp only [d8];cbv))
     all_goals trivial
    ·have g7:za4 (m + 1) l=q:=by rw [<-g6];simp only [if_neg (show ¬ 128 < m + 1 by omega)]
     have d8:E.lti 128 op2=false:=by rw [hE];exact dF (by omega)
     have hx:CrI n toks q (i2,op2,l,m + 1):=⟨n1,n2,n3,by show ((m + 1:Nat):Int)=op2;omega,h,g7⟩
     have hy:=hmu op2 (m + 1);cbv
     repeat (first|(simp only [d1];cbv)|(refine ⟨p0,_,r0,?_⟩;cbv)|(simp only [dk];cbv)|(simp only [w1];cbv)|(simp only [eo];cbv)|(simp only [d8];cbv)|(simp only [ea];cbv))
     exact .mk _ ⟨rfl,rfl,rfl,rfl,rfl⟩ hx hy
   rcases cEm (t.t=zn4) with hw|hw2
   ·have hb1:tkB t=1:=by rw [hb,hw];decide
    rw [hb1] at g6;have w1:=eqs zbo;have w2:=eqs zn4;have w3:=eqs zg9;rw [hw] at w1 w2 w3;cbv at w1 w2 w3;replace g4:((m:Nat):Int)=op:=g4;obtain ⟨op2,ho2⟩:∃ x,op + 1=x:=⟨_,rfl⟩
    have eo:E.wadd .i64 op 1=op2:=by rw [hE,<- ho2];exact zac (by omega) (by omega)
    rcases Nat.lt_or_ge 128 (m + 1) with h|h
    ·have e0:true=q:=by rw [<-g6];simp only [if_pos h]
     have d8:E.lti 128 op2=true:=by rw [hE];exact dT (by omega)
     subst e0;cbv
     repeat (first|(simp only [d1];cbv)|(refine ⟨p0,_,r0,?_⟩;cbv)|(simp only [dk];cbv)|(simp only [w1,w2];cbv)|(simp only [eo];cbv)|(simp only [d8];cbv))
     all_goals trivial
    ·have g7:za4 (m + 1) l=q:=by rw [<-g6];simp only [if_neg (show ¬ 128 < m + 1 by omega)]
     have d8:E.lti 128 op2=false:=by rw [hE];exact dF (by omega)
     have hx:CrI n toks q (i2,op2,l,m + 1):=⟨n1,n2,n3,by show ((m + 1:Nat):Int)=op2;omega,h,g7⟩
     have hy:=hmu op2 (m + 1);cbv
     repeat (first|(simp only [d1];cbv)|(refine ⟨p0,_,r0,?_⟩;cbv)|(simp only [dk];cbv)|(simp only [w1,w2];cbv)|(simp only [eo];cbv)|(simp only [d8];cbv)|(simp only [ea];cbv))
     exact .mk _ ⟨rfl,rfl,rfl,rfl,rfl⟩ hx hy
   rcases cEm (t.t=zg9) with hw|hw3
   ·have hb1:tkB t=1:=by rw [hb,hw];decide
    rw [hb1] at g6;have w1:=eqs zbo;have w2:=eqs zn4;have w3:=eqs zg9;rw [hw] at w1 w2 w3;cbv at w1 w2 w3;replace g4:((m:Nat):Int)=op:=g4;obtain ⟨op2,ho2⟩:∃ x,op + 1=x:=⟨_,rfl⟩
    have eo:E.wadd .i64 op 1=op2:=by rw [hE,<- ho2];exact zac (by omega) (by omega)
    rcases Nat.lt_or_ge 128 (m + 1) with h|h
    ·have e0:true=q:=by rw [<-g6];simp only [if_pos h]
     have d8:E.lti 128 op2=true:=by rw [hE];exact dT (by omega)
     subst e0;cbv
     repeat (first|(simp only [d1];cbv)|(refine ⟨p0,_,r0,?_⟩;cbv)|(simp only [dk];cbv)|(simp only [w1,w2,w3];cbv)|(simp only [eo];cbv)|(simp only [d8];cbv))
     all_goals trivial
    ·have g7:za4 (m + 1) l=q:=by rw [<-g6];simp only [if_neg (show ¬ 128 < m + 1 by omega)]
     have d8:E.lti 128 op2=false:=by rw [hE];exact dF (by omega)
     have hx:CrI n toks q (i2,op2,l,m + 1):=⟨n1,n2,n3,by show ((m + 1:Nat):Int)=op2;omega,h,g7⟩
     have hy:=hmu op2 (m + 1);cbv
     repeat (first|(simp only [d1];cbv)|(refine ⟨p0,_,r0,?_⟩;cbv)|(simp only [dk];cbv)|(simp only [w1,w2,w3];cbv)|(simp only [eo];cbv)|(simp only [d8];cbv)|(simp only [ea];cbv))
     exact .mk _ ⟨rfl,rfl,rfl,rfl,rfl⟩ hx hy
   rcases cEm (t.t=zan) with hw|hw4
   ·have hb1:tkB t=2:=by rw [hb,hw];decide
    rw [hb1] at g6;have g7:za4 (m - 1) l=q:=g6;have w1:=eqs zbo;have w2:=eqs zn4;have w3:=eqs zg9;have w4:=eqs zan;have w5:=eqs zqa;have w6:=eqs ztr;rw [hw] at w1 w2 w3 w4 w5 w6;cbv at w1 w2 w3 w4 w5 w6;replace g4:((m:Nat):Int)=op:=g4;obtain ⟨op2,ho2⟩:∃ x,op - 1=x:=⟨_,rfl⟩
    have eo:E.wsub .i64 op 1=op2:=by rw [hE,<- ho2];exact zac (by omega) (by omega)
    obtain ⟨op3,ho3⟩:∃ x,E.max op2 0=x:=⟨_,rfl⟩
    have ho4:((m - 1:Nat):Int)=op3:=by rw [<-ho3,hE];show _=if (0:Int) > op2 then 0 else op2;split <;> omega
    have hx:CrI n toks q (i2,op3,l,m - 1):=⟨n1,n2,n3,ho4,by show m - 1<=128;omega,g7⟩
    have hy:=hmu op3 (m - 1);cbv
    repeat (first|(simp only [d1];cbv)|(refine ⟨p0,_,r0,?_⟩;cbv)|(simp only [dk];cbv)|(simp only [w1,w2,w3,w4];cbv)|(simp only [eo];cbv)|(simp only [ho3];cbv)|(simp only [ea];cbv))
    exact .mk _ ⟨rfl,rfl,rfl,rfl,rfl⟩ hx hy
   rcases cEm (t.t=zqa) with hw|hw5
   ·have hb1:tkB t=2:=by rw [hb,hw];decide
    rw [hb1] at g6;have g7:za4 (m - 1) l=q:=g6;have w1:=eqs zbo;have w2:=eqs zn4;have w3:=eqs zg9;have w4:=eqs zan;have w5:=eqs zqa;have w6:=eqs ztr;rw [hw] at w1 w2 w3 w4 w5 w6;cbv at w1 w2 w3 w4 w5 w6;replace g4:((m:Nat):Int)=op:=g4;obtain ⟨op2,ho2⟩:∃ x,op - 1=x:=⟨_,rfl⟩
    have eo:E.wsub .i64 op 1=op2:=by rw [hE,<- ho2];exact zac (by omega) (by omega)
    obtain ⟨op3,ho3⟩:∃ x,E.max op2 0=x:=⟨_,rfl⟩
    have ho4:((m - 1:Nat):Int)=op3:=by rw [<-ho3,hE];show _=if (0:Int) > op2 then 0 else op2;split <;> omega
    have hx:CrI n toks q (i2,op3,l,m - 1):=⟨n1,n2,n3,ho4,by show m - 1<=128;omega,g7⟩
    have hy:=hmu op3 (m - 1);cbv
    repeat (first|(simp only [d1];cbv)|(refine ⟨p0,_,r0,?_⟩;cbv)|(simp only [dk];cbv)|(simp only [w1,w2,w3,w4,w5];cbv)|(simp only [eo];cbv)|(simp only [ho3];cbv)|(simp only [ea];cbv))
    exact .mk _ ⟨rfl,rfl,rfl,rfl,rfl⟩ hx hy
   rcases cEm (t.t=ztr) with hw|hw6
   ·have hb1:tkB t=2:=by rw [hb,hw];decide
    rw [hb1] at g6;have g7:za4 (m - 1) l=q:=g6;have w1:=eqs zbo;have w2:=eqs zn4;have w3:=eqs zg9;have w4:=eqs zan;have w5:=eqs zqa;have w6:=eqs ztr;rw [hw] at w1 w2 w3 w4 w5 w6;cbv at w1 w2 w3 w4 w5 w6;replace g4:((m:Nat):Int)=op:=g4;obtain ⟨op2,ho2⟩:∃ x,op - 1=x:=⟨_,rfl⟩
    have eo:E.wsub .i64 op 1=op2:=by rw [hE,<- ho2];exact zac (by omega) (by omega)
    obtain ⟨op3,ho3⟩:∃ x,E.max op2 0=x:=⟨_,rfl⟩
    have ho4:((m - 1:Nat):Int)=op3:=by rw [<-ho3,hE];show _=if (0:Int) > op2 then 0 else op2;split <;> omega
    have hx:CrI n toks q (i2,op3,l,m - 1):=⟨n1,n2,n3,ho4,by show m - 1<=128;omega,g7⟩
    have hy:=hmu op3 (m - 1);cbv
    repeat (first|(simp only [d1];cbv)|(refine ⟨p0,_,r0,?_⟩;cbv)|(simp only [dk];cbv)|(simp only [w1,w2,w3,w4,w5,w6];cbv)|(simp only [eo];cbv)|(simp only [ho3];cbv)|(simp only [ea];cbv))
    exact .mk _ ⟨rfl,rfl,rfl,rfl,rfl⟩ hx hy
   have hb0:tkB t=0:=by
    rw [hb];unfold brk;rw [if_neg (by rintro (h|h|h) <;> first|exact hw1 h|exact hw2 h|exact hw3 h),if_neg (by rintro (h|h|h) <;> first|exact hw4 h|exact hw5 h|exact hw6 h)]
   rw [hb0] at g6;have g7:za4 m l=q:=g6;have w1:E.eq T (bL zbo)=false:=by rw [eqs];exact dF hw1
   have w2:E.eq T (bL zn4)=false:=by rw [eqs];exact dF hw2
   have w3:E.eq T (bL zg9)=false:=by rw [eqs];exact dF hw3
   have w4:E.eq T (bL zan)=false:=by rw [eqs];exact dF hw4
   have w5:E.eq T (bL zqa)=false:=by rw [eqs];exact dF hw5
   have w6:E.eq T (bL ztr)=false:=by rw [eqs];exact dF hw6
   cbv at w1 w2 w3 w4 w5 w6;replace g4:((m:Nat):Int)=op:=g4;have hx:CrI n toks q (i2,op,l,m):=⟨n1,n2,n3,g4,g5,g7⟩;have hy:=hmu op m;cbv
   repeat (first|(simp only [d1];cbv)|(refine ⟨p0,_,r0,?_⟩;cbv)|(simp only [dk];cbv)|(simp only [w1,w2,w3,w4,w5,w6];cbv)|(simp only [ea];cbv))
   exact .mk _ ⟨rfl,rfl,rfl,rfl,rfl⟩ hx hy
  ·have dk:decide (K=5)=false:=dF hk;have hb0:tkB t=0:=by unfold tkB;rw [hK,if_neg hk]
   rw [hb0] at g6;have hx:CrI n toks q (i2,op,l,m):=⟨n1,n2,n3,g4,g5,g6⟩;have hy:=hmu op m;cbv
   repeat (first|(simp only [d1];cbv)|(refine ⟨p0,_,r0,?_⟩;cbv)|(simp only [dk];cbv)|(simp only [ea];cbv))
   exact .mk _ ⟨rfl,rfl,rfl,rfl,rfl⟩ hx hy
mutual
def zd5:PT->Nat
 | .mk _ _ _ _ ks=>zgk ks + 1
def zgk:List PT->Nat
 | []=>0
 | k :: ks=>max (zd5 k) (zgk ks)
end
theorem zl6 (x:PT):1<=zd5 x:=by
 cases x with
 | mk k nm i o ks=>rw [zd5];omega
theorem zj1:∀ {ks:List PT} {y:PT},y ∈ ks->zd5 y<=zgk ks
 | [],y,h=>by cases h
 | k :: ks,y,h=>by
  rw [zgk]
  rcases List.mem_cons.1 h with rfl|h
  ·exact Nat.le_max_left _ _
  ·exact Nat.le_trans (zj1 h) (Nat.le_max_right _ _)
theorem zh4:∀ (ps:List PT) (i:Nat),(zaf ps)[i]?=ps[i]?.map zbe
 | [],i=>by rw [zaf];simp
 | p :: ps,0=>by rw [zaf];rfl
 | p :: ps,i + 1=>by rw [zaf,List.getElem?_cons_succ,List.getElem?_cons_succ,zh4 ps i]
structure ShI (ks:List PT) (most:Int) (q:Bool) (x:Int × List PT):Prop where
 d:ks.drop x.1.toNat=x.2
 i0:0<=x.1
 i1:x.1 + ((x.2.length:Nat):Int)=((ks.length:Nat):Int)
 q:decide (((zgk x.2 + 1:Nat):Int)<=most)=q
theorem z3v {k:PT} {ks:List PT} {most:Int} (h:decide (((zd5 k:Nat):Int)<=most - 1)=true):decide (((zgk (k :: ks) + 1:Nat):Int)<=most)=decide (((zgk ks + 1:Nat):Int)<=most):=by
 have h:=oT h;rw [zgk];refine decide_eq_decide.2 ⟨fun h2=>?_,fun h2=>?_⟩
 ·have:=Nat.le_max_right (zd5 k) (zgk ks)
  omega
 ·rcases Nat.le_total (zd5 k) (zgk ks) with h3|h3
  ·rw [Nat.max_eq_right h3];exact h2
  ·rw [Nat.max_eq_left h3];omega
theorem z0c {k:PT} {ks:List PT} {most:Int} (h:decide (((zd5 k:Nat):Int)<=most - 1)=false):decide (((zgk (k :: ks) + 1:Nat):Int)<=most)=false:=by
 have h:=of_decide_eq_false h;rw [zgk]
 have:=Nat.le_max_left (zd5 k) (zgk ks)
 exact dF (by omega)
theorem zfn:∀ {ks:List PT} {y:PT},ze2 ks->y ∈ ks->zex y
 | [],y,_,h=>by cases h
 | k :: ks,y,hw,h=>by
  rw [ze2] at hw
  rcases List.mem_cons.1 h with rfl|h
  ·exact hw.1
  ·exact zfn hw.2 h
set_option maxHeartbeats 2000000 in
theorem zgo:∀ (d:Nat) (x:PT) (most:Int),zd5 x<=d->zex x->most<=100000->V0 30 [.agg (zbe x),pI most] (pB (decide (((zd5 x:Nat):Int)<=most)))
 | 0,x,_,h,_,_=>by have:=zl6 x;omega
 | d + 1,.mk kq nq iq oq ks,most,hd,hw,hm=>by
  rw [zex] at hw;obtain ⟨hwl,hwk⟩:=hw;rw [zd5] at hd;have ihk:∀ y ∈ ks,∀ b:Int,b<=100000->V0 30 [.agg (zbe y),pI b] (pB (decide (((zd5 y:Nat):Int)<=b))):=fun y hy b hb=>zgo d y b (by have:=zj1 hy;omega) (zfn hwk hy) hb
  rw [zd5,zbe];obtain ⟨q,hq⟩:∃ q,decide (((zgk ks + 1:Nat):Int)<=most)=q:=⟨_,rfl⟩
  rw [hq];have ok:=zjv ks
  rcases (show most < 1\/1<=most by omega) with hlt|hge
  ·have e0:false=q:=by rw [<-hq];exact (dF (by omega)).symm
   obtain ⟨KK,hKK⟩:∃ KK,zap ks=KK:=⟨_,rfl⟩
   rw [hKK] at ok ⊢;subst e0;refine zao zaa zbl mixed (fun _=>0) Tryz.func30 rfl (by kernel_rfl) (by kernel_rfl) rfl fun P G E hc hE=>?_
   have d1:E.lti most 1=true:=by rw [hE];exact dT hlt
   clear hc hE;cbv at ok;cbv
   repeat (first|(simp only [ok];cbv)|(simp only [d1];cbv))
   all_goals trivial
  ·obtain ⟨μ,hμ⟩:∃ μ:Int × List PT->Nat,∀ x,μ x=x.2.length:=⟨_,fun _=>rfl⟩
   obtain ⟨b,hb⟩:∃ b,most - 1=b:=⟨_,rfl⟩
   cases ks with
   | nil =>
    have e0:true=q:=by rw [<-hq];exact (dT (by rw [zgk];omega)).symm
    subst e0;rw [zap];refine zao zaa zbl mixed (fun _=>0) Tryz.func30 rfl (by kernel_rfl) (by kernel_rfl) rfl fun P G E hc hE=>?_
    have d1:E.lti most 1=false:=by rw [hE];exact dF (by omega)
    have o0:E.ofN 0=0:=by rw [hE];rfl
    have d0:E.lti 0 0=false:=by rw [hE];rfl
    cbv
    repeat (first|(simp only [d1];cbv)|(simp only [o0];cbv))
    refine za7 22 [1,10,11,12] 0 (fun x:Int × List PT=>[.p (pI most),.p (.v (.slice none 0 0)),.p (pI 0),.p (pI 0)]) (fun _=>[]) (fun _=>True) μ (0,[]) ⟨rfl,rfl,rfl,rfl,rfl⟩ trivial ?_
    rintro ⟨i,l⟩ _
    cbv;simp only [d0];cbv;all_goals trivial
   | cons k0 ks0 =>
    obtain ⟨ks,hks⟩:∃ ks,k0 :: ks0=ks:=⟨_,rfl⟩
    rw [zev ⟨k0,ks0,rfl⟩ rfl];rw [hks] at hq hwl hwk ihk ⊢;have hget:=zh4 ks;have hrl:=zcp ks;obtain ⟨R,hR⟩:∃ R,zaf ks=R:=⟨_,rfl⟩
    rw [hR] at hget hrl;rw [hR];obtain ⟨M,hM⟩:∃ M:Int,((ks.length:Nat):Int)=M:=⟨_,rfl⟩
    refine zao zaa zbl mixed (fun _=>0) Tryz.func30 rfl (by kernel_rfl) (by kernel_rfl) rfl fun P G E hc hE=>?_
    have d1:E.lti most 1=false:=by rw [hE];exact dF (by omega)
    have l0:E.ofN R.length=M:=by rw [hE,hrl];exact hM
    have eb:E.wsub .i64 most 1=b:=by rw [hE,<- hb];exact zac (by omega) (by omega)
    cbv at l0;cbv
    repeat (first|(simp only [d1];cbv)|(simp only [l0];cbv))
    refine za7 22 [1,10,11,12] 0 (fun x:Int × List PT=>[.p (pI most),.p (.ro 5 R),.p (pI M),.p (pI x.1)]) (fun _=>[]) (ShI ks most q) μ (0,ks) ⟨rfl,rfl,rfl,rfl,rfl⟩ ⟨rfl,Int.le_refl 0,by simp,hq⟩ ?_
    rintro ⟨i,l⟩ hI
    obtain ⟨g1,g2,g3,g4⟩:=hI;simp only at g1 g2 g3 g4;replace hM:((ks.length:Nat):Int)=M:=hM;replace hwl:ks.length<=2000000:=hwl
    cases l with
    | nil =>
     have d2:E.lti i M=false:=by rw [hE];exact dF (by simp only [List.length_nil] at g3;omega)
     have e0:true=q:=by rw [<-g4];exact (dT (by rw [zgk];omega)).symm
     subst e0;cbv;simp only [d2];cbv;all_goals trivial
    | cons y l =>
     have d2:E.lti i M=true:=by rw [hE];exact dT (by simp only [lLC] at g3;omega)
     have hy:ks[i.toNat]?=some y:=by
      have:=congrArg (fun r:List PT=>r[0]?) g1
      rw [List.getElem?_drop] at this;simpa using this
     have p0:E.ple 0 i:=by rw [hE];exact g2
     obtain ⟨k2,i3,o2,n2,KK,hv⟩:=zli y;have r0:R[E.nat i]?=some [pI k2,pS n2,pI i3,pI o2,KK]:=by rw [hE];show R[i.toNat]?=_;rw [hget,hy,<- hv.row];rfl
     obtain ⟨i2,hi2⟩:∃ i2,i + 1=i2:=⟨_,rfl⟩
     have ea:E.wadd .i64 i 1=i2:=by rw [hE,<- hi2];exact zac (by omega) (by simp only [lLC] at g3;omega)
     have g3a:i2 + ((l.length:Nat):Int)=((ks.length:Nat):Int):=by simp only [lLC] at g3;omega
     have ok2:=hv.one;cbv at ok2;have hcl:=ihk y (List.mem_of_getElem? hy) b (by omega)
     rw [hv.row] at hcl
     cases hdy:decide (((zd5 y:Nat):Int)<=b) with
     | true =>
      rw [hdy] at hcl;replace hcl:=hc _ _ _ hcl;have g5:decide (((zgk l + 1:Nat):Int)<=most)=q:=by rw [<-g4];exact (z3v (by rw [hb];exact hdy)).symm
      have hx:ShI ks most q (i2,l):=⟨by
       have:i2.toNat=i.toNat + 1:=by omega
       rw [this,<- lDD,g1];rfl,by omega,g3a,g5⟩
      have hmu:μ (i2,l) < μ (i,y :: l):=by rw [hμ,hμ];show l.length < (y :: l).length;simp
      cbv
      repeat (first|(simp only [d2];cbv)|(refine ⟨p0,_,r0,?_⟩;cbv)|(simp only [ok2];cbv)|(simp only [eb];cbv)|(refine ⟨_,hcl,?_⟩;cbv)|(simp only [ea];cbv))
      exact .mk _ ⟨rfl,rfl,rfl,rfl,rfl⟩ hx hmu
     | false =>
      rw [hdy] at hcl;replace hcl:=hc _ _ _ hcl;have e0:false=q:=by rw [<-g4];exact (z0c (by rw [hb];exact hdy)).symm
      subst e0;cbv
      repeat (first|(simp only [d2];cbv)|(refine ⟨p0,_,r0,?_⟩;cbv)|(simp only [ok2];cbv)|(simp only [eb];cbv)|(refine ⟨_,hcl,?_⟩;cbv))
      all_goals trivial
end Go.Proofs.YtcfecmeocimclaaGreatDoor

/- Own work: a tree is the same as itself. -/
namespace Go.Proofs.YtcfecmeocimclaaGreatDoor
open Go.RowKit
set_option maxRecDepth 100000
set_option linter.unusedSimpArgs false
set_option linter.unusedVariables false
set_option linter.unusedSectionVars false
def zig (k:Int):Bool × Bool × Bool :=
 if k < 1\/42 < k then (true,true,true) else if k=5 then (false,true,false) else if k=11\/k=31 then (true,false,true) else if k=12\/k=13\/k=14\/k=16\/k=17 then (false,false,true)
 else if k=6\/k=7\/k=18\/k=38\/k=40\/k=41 then (true,false,false) else (false,false,false)
theorem z2a {k:Int} {b1 b2 b3:Bool} (h0:1<=k) (h1:k<=42) (h:∀ (P:Program) (G:World->Prop) (E:SO),E.lti k 1=false->E.lti 42 k=false->awp P G E tyT (fun _=>0) (Tryz.f25.body.getD .skip) (zcs E tyT Tryz.f25.results.toList (.tup [pB b1,pB b2,pB b3])) (([pI k]:List PV).map .p++List.replicate (33 - ([pI k]:List PV).length) (.p (.v undef))) []):V0 25 [pI k] (.tup [pB b1,pB b2,pB b3]):=by
 refine zao zaa zbl mixed (fun _=>0) Tryz.func25 rfl (by kernel_rfl) (by kernel_rfl) rfl fun P G E hc hE=>?_
 exact h P G E (by rw [hE];exact dF (by omega)) (by rw [hE];exact dF (by omega))
theorem zts {k:Int} {b1 b2 b3:Bool} (h:zig k=(b1,b2,b3)):V0 25 [pI k] (.tup [pB b1,pB b2,pB b3]):=by
 rcases (show k < 1\/42 < k\/(1<=k/\k<=42) by omega) with hk|hk|⟨hk0,hk1⟩
 ·unfold zig at h;rw [if_pos (.inl hk)] at h
  cases h
  refine zao zaa zbl mixed (fun _=>0) Tryz.func25 rfl (by kernel_rfl) (by kernel_rfl) rfl fun P G E hc hE=>?_
  have d1:E.lti k 1=true:=by rw [hE];exact dT hk
  clear hc hE;cbv;simp only [d1];cbv
 ·unfold zig at h;rw [if_pos (.inr hk)] at h
  cases h
  refine zao zaa zbl mixed (fun _=>0) Tryz.func25 rfl (by kernel_rfl) (by kernel_rfl) rfl fun P G E hc hE=>?_
  have d1:E.lti k 1=false:=by rw [hE];exact dF (by omega)
  have d2:E.lti 42 k=true:=by rw [hE];exact dT hk
  clear hc hE;cbv
  repeat (first|(simp only [d1];cbv)|(simp only [d2];cbv))
 ·by_cases hv:k=5\/k=11\/k=31\/k=12\/k=13\/k=14\/k=16\/k=17\/k=6\/k=7\/k=18\/k=38\/k=40\/k=41
  ·refine z2a hk0 hk1 fun P G E d1 d2=>?_
   rcases hv with rfl|rfl|rfl|rfl|rfl|rfl|rfl|rfl|rfl|rfl|rfl|rfl|rfl|rfl
   all_goals
    cases h
    cbv
    repeat (first|(simp only [d1];cbv)|(simp only [d2];cbv))
  ·simp only [not_or] at hv;obtain ⟨v5,v11,v31,v12,v13,v14,v16,v17,v6,v7,v18,v38,v40,v41⟩:=hv;have e:zig k=(false,false,false):=by
    unfold zig;rw [if_neg (by omega),if_neg (by omega),if_neg (by omega),if_neg (by omega),if_neg (by omega)]
   rw [e] at h
   cases h
   refine z2a hk0 hk1 fun P G E d1 d2=>?_
   replace v5:decide (k=5)=false:=dF v5;replace v11:decide (k=11)=false:=dF v11;replace v31:decide (k=31)=false:=dF v31;replace v12:decide (k=12)=false:=dF v12;replace v13:decide (k=13)=false:=dF v13;replace v14:decide (k=14)=false:=dF v14;replace v16:decide (k=16)=false:=dF v16;replace v17:decide (k=17)=false:=dF v17;replace v6:decide (k=6)=false:=dF v6;replace v7:decide (k=7)=false:=dF v7;replace v18:decide (k=18)=false:=dF v18;replace v38:decide (k=38)=false:=dF v38;replace v40:decide (k=40)=false:=dF v40;replace v41:decide (k=41)=false:=dF v41;cbv
   repeat (first|(simp only [d1];cbv)|(simp only [d2];cbv)|(simp only [v5];cbv)|(simp only [v11];cbv)|(simp only [v31];cbv)|(simp only [v12];cbv)|(simp only [v13];cbv)|(simp only [v14];cbv)|(simp only [v16];cbv)|(simp only [v17];cbv)|(simp only [v6];cbv)|(simp only [v7];cbv)|(simp only [v18];cbv)|(simp only [v38];cbv)|(simp only [v40];cbv)|(simp only [v41];cbv))
mutual
def ze4:PT->PT->Bool
 | .mk k n i o ks,.mk k' n' i' o' ks'=>(decide (k=k') && (!(zig k).1 || decide (n=n')) && (!(zig k).2.1 || decide (i=i')) && (!(zig k).2.2 || decide (o=o'))) && (decide (ks.length=ks'.length) && zhh ks ks')
def zhh:List PT->List PT->Bool
 | k :: ks,k' :: ks'=>ze4 k k' && zhh ks ks'
 | _,_=>true
end
mutual
theorem zod:∀ x:PT,ze4 x x=true
 | .mk k n i o ks=>by
  rw [ze4,zof ks];simp
theorem zof:∀ x:List PT,zhh x x=true
 | []=>rfl
 | k :: ks=>by rw [zhh,zod k,zof ks];rfl
end
theorem zo1:∀ dk b1 dn b2 di b3 dq:Bool,((dk=false\/(dk=true/\b1=true/\dn=false)\/(dk=true/\b1=false/\b2=true/\di=false)\/(dk=true/\b1=true/\dn=true/\b2=true/\di=false)\/(dk=true/\b1=false/\b2=false/\b3=true/\dq=false)\/(dk=true/\b1=true/\dn=true/\b2=false/\b3=true/\dq=false)\/(dk=true/\b1=false/\b2=true/\di=true/\b3=true/\dq=false)\/(dk=true/\b1=true/\dn=true/\b2=true/\di=true/\b3=true/\dq=false))/\(dk && (!b1 || dn) && (!b2 || di) && (!b3 || dq))=false) ∨
 (dk=true/\(b1=false\/b1=true/\dn=true)/\(b2=false\/b2=true/\di=true)/\(b3=false\/b3=true/\dq=true)/\(dk && (!b1 || dn) && (!b2 || di) && (!b3 || dq))=true):=by
 intro dk b1 dn b2 di b3 dq
 cases dk <;> cases b1 <;> cases dn <;> cases b2 <;> cases di <;> cases b3 <;> cases dq <;> simp
structure SmI (ks ks':List PT) (q:Bool) (x:Int × List PT × List PT):Prop where
 d:ks.drop x.1.toNat=x.2.1
 d':ks'.drop x.1.toNat=x.2.2
 i0:0<=x.1
 i1:x.1 + ((x.2.1.length:Nat):Int)=((ks.length:Nat):Int)
 le:x.2.1.length=x.2.2.length
 q:zhh x.2.1 x.2.2=q
abbrev smH (P:Program) (G:World->Prop) (E:SO) (k i o k' i' o':Int) (T T':ByteArray) (KK KK':PV) (HI:Prop) (q:Bool):Prop :=
 awp P G E tyT (fun _=>0) (zeh 3 (Tryz.f14.body.getD .skip)) (zb7 (CutIs 77 [2,3,4] 2 (fun _:Unit=>[.own 0 0,.own 1 0,.p (pB false)]) (fun _=>[some (.box [.p (pI k),.p (pS T),.p (pI i),.p (pI o),.p KK] 27 none),some (.box [.p (pI k'),.p (pS T'),.p (pI i'),.p (pI o'),.p KK'] 27 none)]) (fun _=>HI)) (zcs E tyT Tryz.f14.results.toList (pB q)))
  (([.agg [pI k,pS T,pI i,pI o,KK],.agg [pI k',pS T',pI i',pI o',KK']]:List PV).map .p++List.replicate (77 - ([.agg [pI k,pS T,pI i,pI o,KK],.agg [pI k',pS T',pI i',pI o',KK']]:List PV).length) (.p (.v undef))) []
section
variable {P:Program} {G:World->Prop} {E:SO} {k i o k' i' o':Int} {T T':ByteArray} {KK KK':PV} {b1 b2 b3 dk dn di dq:Bool} {HI:Prop}
 (h1:Ret P G 25 [pI k] (.tup [pB b1,pB b2,pB b3])) (ok:zhb (.p KK)=true) (ok':zhb (.p KK')=true) (e2:E.eq T T'=dn) (hdk:decide (k=k')=dk) (hdi:decide (i=i')=di) (hdq:decide (o=o')=dq)
include h1 ok ok' e2 hdk hdi hdq
set_option maxHeartbeats 8000000 in
theorem zld (h:dk=false\/(dk=true/\b1=true/\dn=false)\/(dk=true/\b1=false/\b2=true/\di=false)\/(dk=true/\b1=true/\dn=true/\b2=true/\di=false)):smH P G E k i o k' i' o' T T' KK KK' HI false:=by
 cbv at ok;cbv at ok'
 rcases h with rfl|⟨rfl,rfl,rfl⟩|⟨rfl,rfl,rfl,rfl⟩|⟨rfl,rfl,rfl,rfl,rfl⟩
 all_goals
  cbv
  repeat (first|(refine ⟨_,h1,?_⟩;cbv)|(simp only [ok,ok',e2,hdk,hdi,hdq];cbv))
set_option maxHeartbeats 8000000 in
theorem z2m (h:(dk=true/\b1=false/\b2=false/\b3=true/\dq=false)\/(dk=true/\b1=true/\dn=true/\b2=false/\b3=true/\dq=false)\/(dk=true/\b1=false/\b2=true/\di=true/\b3=true/\dq=false)\/(dk=true/\b1=true/\dn=true/\b2=true/\di=true/\b3=true/\dq=false)):smH P G E k i o k' i' o' T T' KK KK' HI false:=by
 cbv at ok;cbv at ok'
 rcases h with ⟨rfl,rfl,rfl,rfl,rfl⟩|⟨rfl,rfl,rfl,rfl,rfl,rfl⟩|⟨rfl,rfl,rfl,rfl,rfl,rfl⟩|⟨rfl,rfl,rfl,rfl,rfl,rfl,rfl⟩
 all_goals
  cbv
  repeat (first|(refine ⟨_,h1,?_⟩;cbv)|(simp only [ok,ok',e2,hdk,hdi,hdq];cbv))
set_option maxHeartbeats 8000000 in
theorem z2l {q:Bool} (hI:HI) (hk:dk=true) (hb1:b1=false) (h2:b2=false\/b2=true/\di=true) (h3:b3=false\/b3=true/\dq=true):smH P G E k i o k' i' o' T T' KK KK' HI q:=by
 cbv at ok;cbv at ok';subst hk hb1
 rcases h2 with rfl|⟨rfl,rfl⟩ <;> rcases h3 with rfl|⟨rfl,rfl⟩
 all_goals
  cbv
  repeat (first|(refine ⟨_,h1,?_⟩;cbv)|(simp only [ok,ok',e2,hdk,hdi,hdq];cbv))
 all_goals exact .mk () ⟨rfl,rfl,rfl,rfl,rfl⟩ hI
set_option maxHeartbeats 8000000 in
theorem z2k {q:Bool} (hI:HI) (hk:dk=true) (hb1:b1=true/\dn=true) (h2:b2=false\/b2=true/\di=true) (h3:b3=false\/b3=true/\dq=true):smH P G E k i o k' i' o' T T' KK KK' HI q:=by
 cbv at ok;cbv at ok';obtain ⟨hb1,hb2⟩:=hb1;subst hk hb1 hb2
 rcases h2 with rfl|⟨rfl,rfl⟩ <;> rcases h3 with rfl|⟨rfl,rfl⟩
 all_goals
  cbv
  repeat (first|(refine ⟨_,h1,?_⟩;cbv)|(simp only [ok,ok',e2,hdk,hdi,hdq];cbv))
 all_goals exact .mk () ⟨rfl,rfl,rfl,rfl,rfl⟩ hI
end
end Go.Proofs.YtcfecmeocimclaaGreatDoor
