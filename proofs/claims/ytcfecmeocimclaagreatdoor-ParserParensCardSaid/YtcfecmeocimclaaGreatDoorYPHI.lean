/- Own work: crowded and shallow. -/
import Derived.Test.YtcfecmeocimclaaGreatDoorYPA0
import Derived.Test.YtcfecmeocimclaaGreatDoorYPGZ
import Derived.Test.YtcfecmeocimclaaGreatDoorYPHH
namespace Go.Proofs.YtcfecmeocimclaaGreatDoor
open Go.RowKit
set_option maxRecDepth 100000
set_option linter.unusedSimpArgs false
set_option linter.unusedVariables false
structure CrI (n:Int) (toks:List Tk) (q:Bool) (x:Int × Int × Ts × Nat):Prop where
 d:toks.drop x.1.toNat=x.2.2.1
 i0:0<=x.1
 i1:x.1 + ((x.2.2.1.length:Nat):Int)=((toks.length:Nat):Int)
 m:((x.2.2.2:Nat):Int)=x.2.1
 m1:x.2.2.2<=128
 q:zbe x.2.2.2 x.2.2.1=q
set_option maxHeartbeats 2000000 in
theorem zmj (n:Int) (toks:List Tk) (hz:toks.length<=1000000):V0 33 [.ro 3 (zbq n toks)] (pB (zbe 0 toks)):=by
 obtain ⟨q,hq⟩:∃ q,zbe 0 toks=q:=⟨_,rfl⟩
 rw [hq];have hrl:=zd6 n toks;have hget:∀ (j:Nat) (t:Tk),toks[j]?=some t->(zbq n toks)[j]?=some [pI t.k,pS (bL t.t),pI (n - (t.rem:Nat))]:=fun j t ht=>by
  unfold zbq;rw [List.getElem?_map,ht];rfl
 obtain ⟨LR,hLR⟩:∃ x,zbq n toks=x:=⟨_,rfl⟩
 rw [hLR] at hrl hget;rw [hLR];obtain ⟨M,hM⟩:∃ M:Int,((toks.length:Nat):Int)=M:=⟨_,rfl⟩
 obtain ⟨μ,hμ⟩:∃ μ:Int × Int × Ts × Nat->Nat,∀ x,μ x=x.2.2.1.length:=⟨_,fun _=>rfl⟩
 refine zao zaa zby mixed (fun _=>0) Tryz.func33 rfl (by kernel_rfl) (by kernel_rfl) rfl fun P G E hc hE=>?_
 have l0:E.ofN LR.length=M:=by rw [hE,hrl];exact hM
 cbv at l0;have x0:CrI n toks q (0,0,toks,0):=⟨rfl,Int.le_refl 0,by simp,rfl,Nat.zero_le _,hq⟩
 cbv;simp only [l0];cbv;refine zbn 33 [3,6,7,8] 0 (fun x:Int × Int × Ts × Nat=>[.p (pI x.2.1),.p (.ro 3 LR),.p (pI M),.p (pI x.1)]) (fun _=>[]) (CrI n toks q) μ (0,0,toks,0) ⟨rfl,rfl,rfl,rfl,rfl⟩ x0 ?_
 rintro ⟨i,op,l,m⟩ hI
 obtain ⟨g1,g2,g3,g4,g5,g6⟩:=hI;simp only at g1 g2 g3 g4 g5 g6;replace hM:((toks.length:Nat):Int)=M:=hM
 cases l with
 | nil =>
  have d1:E.lti i M=false:=by rw [hE];exact dF (by simp only [List.length_nil] at g3;omega)
  have e0:false=q:=g6;subst e0;cbv;simp only [d1];cbv;all_goals trivial
 | cons t l =>
  have d1:E.lti i M=true:=by rw [hE];exact dT (by simp only [lLC] at g3;omega)
  have ht:toks[i.toNat]?=some t:=by
   have:=congrArg (fun r:List Tk=>r[0]?) g1
   rw [List.getElem?_drop] at this;simpa using this
  have p0:E.ple 0 i:=by rw [hE];exact g2
  have r0:LR[E.nat i]?=some [pI t.k,pS (bL t.t),pI (n - (t.rem:Nat))]:=by rw [hE];exact hget _ t ht
  obtain ⟨i2,hi2⟩:∃ i2,i + 1=i2:=⟨_,rfl⟩
  have ea:E.wadd .i64 i 1=i2:=by rw [hE,<- hi2];exact zaq (by omega) (by simp only [lLC] at g3;omega)
  have n1:toks.drop i2.toNat=l:=by
   have:i2.toNat=i.toNat + 1:=by omega
   rw [this,<- lDD,g1];rfl
  have n2:0<=i2:=by omega
  have n3:i2 + ((l.length:Nat):Int)=((toks.length:Nat):Int):=by simp only [lLC] at g3;omega
  have hmu:∀ (op':Int) (m':Nat),μ (i2,op',l,m') < μ (i,op,t :: l,m):=fun op' m'=>by rw [hμ,hμ];show l.length < (t :: l).length;simp
  have eqs:∀ w:Bs,E.eq (bL t.t) (bL w)=decide (t.t=w):=fun w=>by
   rw [hE];exact decide_eq_decide.2 ⟨zqd,congrArg bL⟩
  rw [zbe] at g6;obtain ⟨K,hK⟩:∃ K,t.k=K:=⟨_,rfl⟩
  obtain ⟨T,hT⟩:∃ T,bL t.t=T:=⟨_,rfl⟩
  obtain ⟨Z,hZ⟩:∃ Z,n - ((t.rem:Nat):Int)=Z:=⟨_,rfl⟩
  rw [hK,hT,hZ] at r0;rw [hT] at eqs
  rcases cEm (K=5) with hk|hk
  ·have dk:decide (K=5)=true:=dT hk;have hb:tkB t=brk t.t:=by unfold tkB;rw [hK,if_pos hk]
   rcases cEm (t.t=zbm) with hw|hw1
   ·have hb1:tkB t=1:=by rw [hb,hw];decide
    rw [hb1] at g6;have w1:=eqs zbm;have w2:=eqs zm3;have w3:=eqs zgy;rw [hw] at w1 w2 w3;cbv at w1 w2 w3;replace g4:((m:Nat):Int)=op:=g4;obtain ⟨op2,ho2⟩:∃ x,op + 1=x:=⟨_,rfl⟩
    have eo:E.wadd .i64 op 1=op2:=by rw [hE,<- ho2];exact zaq (by omega) (by omega)
    rcases Nat.lt_or_ge 128 (m + 1) with h|h
    ·have e0:true=q:=by rw [<-g6];simp only [if_pos h]
     have d8:E.lti 128 op2=true:=by rw [hE];exact dT (by omega)
     subst e0;cbv
     repeat (first|(simp only [d1];cbv)|(refine ⟨p0,_,r0,?_⟩;cbv)|(simp only [dk];cbv)|(simp only [w1];cbv)|(simp only [eo];cbv)|(simp only [d8];cbv))
     all_goals trivial
    ·have g7:zbe (m + 1) l=q:=by rw [<-g6];simp only [if_neg (show ¬ 128 < m + 1 by omega)]
     have d8:E.lti 128 op2=false:=by rw [hE];exact dF (by omega)
     have hx:CrI n toks q (i2,op2,l,m + 1):=⟨n1,n2,n3,by show ((m + 1:Nat):Int)=op2;omega,h,g7⟩
     have hy:=hmu op2 (m + 1);cbv
     repeat (first|(simp only [d1];cbv)|(refine ⟨p0,_,r0,?_⟩;cbv)|(simp only [dk];cbv)|(simp only [w1];cbv)|(simp only [eo];cbv)|(simp only [d8];cbv)|(simp only [ea];cbv))
     exact .mk _ ⟨rfl,rfl,rfl,rfl,rfl⟩ hx hy
   rcases cEm (t.t=zm3) with hw|hw2
   ·have hb1:tkB t=1:=by rw [hb,hw];decide
    rw [hb1] at g6;have w1:=eqs zbm;have w2:=eqs zm3;have w3:=eqs zgy;rw [hw] at w1 w2 w3;cbv at w1 w2 w3;replace g4:((m:Nat):Int)=op:=g4;obtain ⟨op2,ho2⟩:∃ x,op + 1=x:=⟨_,rfl⟩
    have eo:E.wadd .i64 op 1=op2:=by rw [hE,<- ho2];exact zaq (by omega) (by omega)
    rcases Nat.lt_or_ge 128 (m + 1) with h|h
    ·have e0:true=q:=by rw [<-g6];simp only [if_pos h]
     have d8:E.lti 128 op2=true:=by rw [hE];exact dT (by omega)
     subst e0;cbv
     repeat (first|(simp only [d1];cbv)|(refine ⟨p0,_,r0,?_⟩;cbv)|(simp only [dk];cbv)|(simp only [w1,w2];cbv)|(simp only [eo];cbv)|(simp only [d8];cbv))
     all_goals trivial
    ·have g7:zbe (m + 1) l=q:=by rw [<-g6];simp only [if_neg (show ¬ 128 < m + 1 by omega)]
     have d8:E.lti 128 op2=false:=by rw [hE];exact dF (by omega)
     have hx:CrI n toks q (i2,op2,l,m + 1):=⟨n1,n2,n3,by show ((m + 1:Nat):Int)=op2;omega,h,g7⟩
     have hy:=hmu op2 (m + 1);cbv
     repeat (first|(simp only [d1];cbv)|(refine ⟨p0,_,r0,?_⟩;cbv)|(simp only [dk];cbv)|(simp only [w1,w2];cbv)|(simp only [eo];cbv)|(simp only [d8];cbv)|(simp only [ea];cbv))
     exact .mk _ ⟨rfl,rfl,rfl,rfl,rfl⟩ hx hy
   rcases cEm (t.t=zgy) with hw|hw3
   ·have hb1:tkB t=1:=by rw [hb,hw];decide
    rw [hb1] at g6;have w1:=eqs zbm;have w2:=eqs zm3;have w3:=eqs zgy;rw [hw] at w1 w2 w3;cbv at w1 w2 w3;replace g4:((m:Nat):Int)=op:=g4;obtain ⟨op2,ho2⟩:∃ x,op + 1=x:=⟨_,rfl⟩
    have eo:E.wadd .i64 op 1=op2:=by rw [hE,<- ho2];exact zaq (by omega) (by omega)
    rcases Nat.lt_or_ge 128 (m + 1) with h|h
    ·have e0:true=q:=by rw [<-g6];simp only [if_pos h]
     have d8:E.lti 128 op2=true:=by rw [hE];exact dT (by omega)
     subst e0;cbv
     repeat (first|(simp only [d1];cbv)|(refine ⟨p0,_,r0,?_⟩;cbv)|(simp only [dk];cbv)|(simp only [w1,w2,w3];cbv)|(simp only [eo];cbv)|(simp only [d8];cbv))
     all_goals trivial
    ·have g7:zbe (m + 1) l=q:=by rw [<-g6];simp only [if_neg (show ¬ 128 < m + 1 by omega)]
     have d8:E.lti 128 op2=false:=by rw [hE];exact dF (by omega)
     have hx:CrI n toks q (i2,op2,l,m + 1):=⟨n1,n2,n3,by show ((m + 1:Nat):Int)=op2;omega,h,g7⟩
     have hy:=hmu op2 (m + 1);cbv
     repeat (first|(simp only [d1];cbv)|(refine ⟨p0,_,r0,?_⟩;cbv)|(simp only [dk];cbv)|(simp only [w1,w2,w3];cbv)|(simp only [eo];cbv)|(simp only [d8];cbv)|(simp only [ea];cbv))
     exact .mk _ ⟨rfl,rfl,rfl,rfl,rfl⟩ hx hy
   rcases cEm (t.t=zam) with hw|hw4
   ·have hb1:tkB t=2:=by rw [hb,hw];decide
    rw [hb1] at g6;have g7:zbe (m - 1) l=q:=g6;have w1:=eqs zbm;have w2:=eqs zm3;have w3:=eqs zgy;have w4:=eqs zam;have w5:=eqs zo4;have w6:=eqs zsg;rw [hw] at w1 w2 w3 w4 w5 w6;cbv at w1 w2 w3 w4 w5 w6;replace g4:((m:Nat):Int)=op:=g4;obtain ⟨op2,ho2⟩:∃ x,op - 1=x:=⟨_,rfl⟩
    have eo:E.wsub .i64 op 1=op2:=by rw [hE,<- ho2];exact zaq (by omega) (by omega)
    obtain ⟨op3,ho3⟩:∃ x,E.max op2 0=x:=⟨_,rfl⟩
    have ho4:((m - 1:Nat):Int)=op3:=by rw [<-ho3,hE];show _=if (0:Int) > op2 then 0 else op2;split <;> omega
    have hx:CrI n toks q (i2,op3,l,m - 1):=⟨n1,n2,n3,ho4,by show m - 1<=128;omega,g7⟩
    have hy:=hmu op3 (m - 1);cbv
    repeat (first|(simp only [d1];cbv)|(refine ⟨p0,_,r0,?_⟩;cbv)|(simp only [dk];cbv)|(simp only [w1,w2,w3,w4];cbv)|(simp only [eo];cbv)|(simp only [ho3];cbv)|(simp only [ea];cbv))
    exact .mk _ ⟨rfl,rfl,rfl,rfl,rfl⟩ hx hy
   rcases cEm (t.t=zo4) with hw|hw5
   ·have hb1:tkB t=2:=by rw [hb,hw];decide
    rw [hb1] at g6;have g7:zbe (m - 1) l=q:=g6;have w1:=eqs zbm;have w2:=eqs zm3;have w3:=eqs zgy;have w4:=eqs zam;have w5:=eqs zo4;have w6:=eqs zsg;rw [hw] at w1 w2 w3 w4 w5 w6;cbv at w1 w2 w3 w4 w5 w6;replace g4:((m:Nat):Int)=op:=g4;obtain ⟨op2,ho2⟩:∃ x,op - 1=x:=⟨_,rfl⟩
    have eo:E.wsub .i64 op 1=op2:=by rw [hE,<- ho2];exact zaq (by omega) (by omega)
    obtain ⟨op3,ho3⟩:∃ x,E.max op2 0=x:=⟨_,rfl⟩
    have ho4:((m - 1:Nat):Int)=op3:=by rw [<-ho3,hE];show _=if (0:Int) > op2 then 0 else op2;split <;> omega
    have hx:CrI n toks q (i2,op3,l,m - 1):=⟨n1,n2,n3,ho4,by show m - 1<=128;omega,g7⟩
    have hy:=hmu op3 (m - 1);cbv
    repeat (first|(simp only [d1];cbv)|(refine ⟨p0,_,r0,?_⟩;cbv)|(simp only [dk];cbv)|(simp only [w1,w2,w3,w4,w5];cbv)|(simp only [eo];cbv)|(simp only [ho3];cbv)|(simp only [ea];cbv))
    exact .mk _ ⟨rfl,rfl,rfl,rfl,rfl⟩ hx hy
   rcases cEm (t.t=zsg) with hw|hw6
   ·have hb1:tkB t=2:=by rw [hb,hw];decide
    rw [hb1] at g6;have g7:zbe (m - 1) l=q:=g6;have w1:=eqs zbm;have w2:=eqs zm3;have w3:=eqs zgy;have w4:=eqs zam;have w5:=eqs zo4;have w6:=eqs zsg;rw [hw] at w1 w2 w3 w4 w5 w6;cbv at w1 w2 w3 w4 w5 w6;replace g4:((m:Nat):Int)=op:=g4;obtain ⟨op2,ho2⟩:∃ x,op - 1=x:=⟨_,rfl⟩
    have eo:E.wsub .i64 op 1=op2:=by rw [hE,<- ho2];exact zaq (by omega) (by omega)
    obtain ⟨op3,ho3⟩:∃ x,E.max op2 0=x:=⟨_,rfl⟩
    have ho4:((m - 1:Nat):Int)=op3:=by rw [<-ho3,hE];show _=if (0:Int) > op2 then 0 else op2;split <;> omega
    have hx:CrI n toks q (i2,op3,l,m - 1):=⟨n1,n2,n3,ho4,by show m - 1<=128;omega,g7⟩
    have hy:=hmu op3 (m - 1);cbv
    repeat (first|(simp only [d1];cbv)|(refine ⟨p0,_,r0,?_⟩;cbv)|(simp only [dk];cbv)|(simp only [w1,w2,w3,w4,w5,w6];cbv)|(simp only [eo];cbv)|(simp only [ho3];cbv)|(simp only [ea];cbv))
    exact .mk _ ⟨rfl,rfl,rfl,rfl,rfl⟩ hx hy
   have hb0:tkB t=0:=by
    rw [hb];unfold brk;rw [if_neg (by rintro (h|h|h) <;> first|exact hw1 h|exact hw2 h|exact hw3 h),if_neg (by rintro (h|h|h) <;> first|exact hw4 h|exact hw5 h|exact hw6 h)]
   rw [hb0] at g6;have g7:zbe m l=q:=g6;have w1:E.eq T (bL zbm)=false:=by rw [eqs];exact dF hw1
   have w2:E.eq T (bL zm3)=false:=by rw [eqs];exact dF hw2
   have w3:E.eq T (bL zgy)=false:=by rw [eqs];exact dF hw3
   have w4:E.eq T (bL zam)=false:=by rw [eqs];exact dF hw4
   have w5:E.eq T (bL zo4)=false:=by rw [eqs];exact dF hw5
   have w6:E.eq T (bL zsg)=false:=by rw [eqs];exact dF hw6
   cbv at w1 w2 w3 w4 w5 w6;replace g4:((m:Nat):Int)=op:=g4;have hx:CrI n toks q (i2,op,l,m):=⟨n1,n2,n3,g4,g5,g7⟩;have hy:=hmu op m;cbv
   repeat (first|(simp only [d1];cbv)|(refine ⟨p0,_,r0,?_⟩;cbv)|(simp only [dk];cbv)|(simp only [w1,w2,w3,w4,w5,w6];cbv)|(simp only [ea];cbv))
   exact .mk _ ⟨rfl,rfl,rfl,rfl,rfl⟩ hx hy
  ·have dk:decide (K=5)=false:=dF hk;have hb0:tkB t=0:=by unfold tkB;rw [hK,if_neg hk]
   rw [hb0] at g6;have hx:CrI n toks q (i2,op,l,m):=⟨n1,n2,n3,g4,g5,g6⟩;have hy:=hmu op m;cbv
   repeat (first|(simp only [d1];cbv)|(refine ⟨p0,_,r0,?_⟩;cbv)|(simp only [dk];cbv)|(simp only [ea];cbv))
   exact .mk _ ⟨rfl,rfl,rfl,rfl,rfl⟩ hx hy
mutual
def zgw:PT->Nat
 | .mk _ _ _ _ ks=>zk3 ks + 1
def zk3:List PT->Nat
 | []=>0
 | k :: ks=>max (zgw k) (zk3 ks)
end
theorem zte (x:PT):1<=zgw x:=by
 cases x with
 | mk k nm i o ks=>rw [zgw];omega
theorem zon:∀ {ks:List PT} {y:PT},y ∈ ks->zgw y<=zk3 ks
 | [],y,h=>by cases h
 | k :: ks,y,h=>by
  rw [zk3]
  rcases List.mem_cons.1 h with rfl|h
  ·exact Nat.le_max_left _ _
  ·exact Nat.le_trans (zon h) (Nat.le_max_right _ _)
theorem zhr:∀ (ps:List PT) (i:Nat),(zae ps)[i]?=ps[i]?.map zbb
 | [],i=>by rw [zae];simp
 | p :: ps,0=>by rw [zae];rfl
 | p :: ps,i + 1=>by rw [zae,List.getElem?_cons_succ,List.getElem?_cons_succ,zhr ps i]
structure ShI (ks:List PT) (most:Int) (q:Bool) (x:Int × List PT):Prop where
 d:ks.drop x.1.toNat=x.2
 i0:0<=x.1
 i1:x.1 + ((x.2.length:Nat):Int)=((ks.length:Nat):Int)
 q:decide (((zk3 x.2 + 1:Nat):Int)<=most)=q
theorem z17 {k:PT} {ks:List PT} {most:Int} (h:decide (((zgw k:Nat):Int)<=most - 1)=true):decide (((zk3 (k :: ks) + 1:Nat):Int)<=most)=decide (((zk3 ks + 1:Nat):Int)<=most):=by
 have h:=oT h;rw [zk3];refine decide_eq_decide.2 ⟨fun h2=>?_,fun h2=>?_⟩
 ·have:=Nat.le_max_right (zgw k) (zk3 ks)
  omega
 ·rcases Nat.le_total (zgw k) (zk3 ks) with h3|h3
  ·rw [Nat.max_eq_right h3];exact h2
  ·rw [Nat.max_eq_left h3];omega
theorem zyu {k:PT} {ks:List PT} {most:Int} (h:decide (((zgw k:Nat):Int)<=most - 1)=false):decide (((zk3 (k :: ks) + 1:Nat):Int)<=most)=false:=by
 have h:=of_decide_eq_false h;rw [zk3]
 have:=Nat.le_max_left (zgw k) (zk3 ks)
 exact dF (by omega)
theorem zla:∀ {ks:List PT} {y:PT},zez ks->y ∈ ks->zfd y
 | [],y,_,h=>by cases h
 | k :: ks,y,hw,h=>by
  rw [zez] at hw
  rcases List.mem_cons.1 h with rfl|h
  ·exact hw.1
  ·exact zla hw.2 h
set_option maxHeartbeats 2000000 in
theorem zga:∀ (d:Nat) (x:PT) (most:Int),zgw x<=d->zfd x->most<=100000->V0 30 [.agg (zbb x),pI most] (pB (decide (((zgw x:Nat):Int)<=most)))
 | 0,x,_,h,_,_=>by have:=zte x;omega
 | d + 1,.mk kq nq iq oq ks,most,hd,hw,hm=>by
  rw [zfd] at hw;obtain ⟨hwl,hwk⟩:=hw;rw [zgw] at hd;have ihk:∀ y ∈ ks,∀ b:Int,b<=100000->V0 30 [.agg (zbb y),pI b] (pB (decide (((zgw y:Nat):Int)<=b))):=fun y hy b hb=>zga d y b (by have:=zon hy;omega) (zla hwk hy) hb
  rw [zgw,zbb];obtain ⟨q,hq⟩:∃ q,decide (((zk3 ks + 1:Nat):Int)<=most)=q:=⟨_,rfl⟩
  rw [hq];have ok:=zjd ks
  rcases (show most < 1\/1<=most by omega) with hlt|hge
  ·have e0:false=q:=by rw [<-hq];exact (dF (by omega)).symm
   obtain ⟨KK,hKK⟩:∃ KK,zan ks=KK:=⟨_,rfl⟩
   rw [hKK] at ok ⊢;subst e0;refine zao zaa zby mixed (fun _=>0) Tryz.func30 rfl (by kernel_rfl) (by kernel_rfl) rfl fun P G E hc hE=>?_
   have d1:E.lti most 1=true:=by rw [hE];exact dT hlt
   clear hc hE;cbv at ok;cbv
   repeat (first|(simp only [ok];cbv)|(simp only [d1];cbv))
   all_goals trivial
  ·obtain ⟨μ,hμ⟩:∃ μ:Int × List PT->Nat,∀ x,μ x=x.2.length:=⟨_,fun _=>rfl⟩
   obtain ⟨b,hb⟩:∃ b,most - 1=b:=⟨_,rfl⟩
   cases ks with
   | nil =>
    have e0:true=q:=by rw [<-hq];exact (dT (by rw [zk3];omega)).symm
    subst e0;rw [zan];refine zao zaa zby mixed (fun _=>0) Tryz.func30 rfl (by kernel_rfl) (by kernel_rfl) rfl fun P G E hc hE=>?_
    have d1:E.lti most 1=false:=by rw [hE];exact dF (by omega)
    have o0:E.ofN 0=0:=by rw [hE];rfl
    have d0:E.lti 0 0=false:=by rw [hE];rfl
    cbv
    repeat (first|(simp only [d1];cbv)|(simp only [o0];cbv))
    refine zbn 22 [1,10,11,12] 0 (fun x:Int × List PT=>[.p (pI most),.p (.v (.slice none 0 0)),.p (pI 0),.p (pI 0)]) (fun _=>[]) (fun _=>True) μ (0,[]) ⟨rfl,rfl,rfl,rfl,rfl⟩ trivial ?_
    rintro ⟨i,l⟩ _
    cbv;simp only [d0];cbv;all_goals trivial
   | cons k0 ks0 =>
    obtain ⟨ks,hks⟩:∃ ks,k0 :: ks0=ks:=⟨_,rfl⟩
    rw [zeo ⟨k0,ks0,rfl⟩ rfl];rw [hks] at hq hwl hwk ihk ⊢;have hget:=zhr ks;have hrl:=zcq ks;obtain ⟨R,hR⟩:∃ R,zae ks=R:=⟨_,rfl⟩
    rw [hR] at hget hrl;rw [hR];obtain ⟨M,hM⟩:∃ M:Int,((ks.length:Nat):Int)=M:=⟨_,rfl⟩
    refine zao zaa zby mixed (fun _=>0) Tryz.func30 rfl (by kernel_rfl) (by kernel_rfl) rfl fun P G E hc hE=>?_
    have d1:E.lti most 1=false:=by rw [hE];exact dF (by omega)
    have l0:E.ofN R.length=M:=by rw [hE,hrl];exact hM
    have eb:E.wsub .i64 most 1=b:=by rw [hE,<- hb];exact zaq (by omega) (by omega)
    cbv at l0;cbv
    repeat (first|(simp only [d1];cbv)|(simp only [l0];cbv))
    refine zbn 22 [1,10,11,12] 0 (fun x:Int × List PT=>[.p (pI most),.p (.ro 5 R),.p (pI M),.p (pI x.1)]) (fun _=>[]) (ShI ks most q) μ (0,ks) ⟨rfl,rfl,rfl,rfl,rfl⟩ ⟨rfl,Int.le_refl 0,by simp,hq⟩ ?_
    rintro ⟨i,l⟩ hI
    obtain ⟨g1,g2,g3,g4⟩:=hI;simp only at g1 g2 g3 g4;replace hM:((ks.length:Nat):Int)=M:=hM;replace hwl:ks.length<=2000000:=hwl
    cases l with
    | nil =>
     have d2:E.lti i M=false:=by rw [hE];exact dF (by simp only [List.length_nil] at g3;omega)
     have e0:true=q:=by rw [<-g4];exact (dT (by rw [zk3];omega)).symm
     subst e0;cbv;simp only [d2];cbv;all_goals trivial
    | cons y l =>
     have d2:E.lti i M=true:=by rw [hE];exact dT (by simp only [lLC] at g3;omega)
     have hy:ks[i.toNat]?=some y:=by
      have:=congrArg (fun r:List PT=>r[0]?) g1
      rw [List.getElem?_drop] at this;simpa using this
     have p0:E.ple 0 i:=by rw [hE];exact g2
     obtain ⟨k2,i3,o2,n2,KK,hv⟩:=zi8 y;have r0:R[E.nat i]?=some [pI k2,pS n2,pI i3,pI o2,KK]:=by rw [hE];show R[i.toNat]?=_;rw [hget,hy,<- hv.row];rfl
     obtain ⟨i2,hi2⟩:∃ i2,i + 1=i2:=⟨_,rfl⟩
     have ea:E.wadd .i64 i 1=i2:=by rw [hE,<- hi2];exact zaq (by omega) (by simp only [lLC] at g3;omega)
     have g3a:i2 + ((l.length:Nat):Int)=((ks.length:Nat):Int):=by simp only [lLC] at g3;omega
     have ok2:=hv.one;cbv at ok2;have hcl:=ihk y (List.mem_of_getElem? hy) b (by omega)
     rw [hv.row] at hcl
     cases hdy:decide (((zgw y:Nat):Int)<=b) with
     | true =>
      rw [hdy] at hcl;replace hcl:=hc _ _ _ hcl;have g5:decide (((zk3 l + 1:Nat):Int)<=most)=q:=by rw [<-g4];exact (z17 (by rw [hb];exact hdy)).symm
      have hx:ShI ks most q (i2,l):=⟨by
       have:i2.toNat=i.toNat + 1:=by omega
       rw [this,<- lDD,g1];rfl,by omega,g3a,g5⟩
      have hmu:μ (i2,l) < μ (i,y :: l):=by rw [hμ,hμ];show l.length < (y :: l).length;simp
      cbv
      repeat (first|(simp only [d2];cbv)|(refine ⟨p0,_,r0,?_⟩;cbv)|(simp only [ok2];cbv)|(simp only [eb];cbv)|(refine ⟨_,hcl,?_⟩;cbv)|(simp only [ea];cbv))
      exact .mk _ ⟨rfl,rfl,rfl,rfl,rfl⟩ hx hmu
     | false =>
      rw [hdy] at hcl;replace hcl:=hc _ _ _ hcl;have e0:false=q:=by rw [<-g4];exact (zyu (by rw [hb];exact hdy)).symm
      subst e0;cbv
      repeat (first|(simp only [d2];cbv)|(refine ⟨p0,_,r0,?_⟩;cbv)|(simp only [ok2];cbv)|(simp only [eb];cbv)|(refine ⟨_,hcl,?_⟩;cbv))
      all_goals trivial
end Go.Proofs.YtcfecmeocimclaaGreatDoor

/- Own work: a tree is the same as itself. -/
namespace Go.Proofs.YtcfecmeocimclaaGreatDoor
open Go.RowKit
set_option maxRecDepth 100000
set_option linter.unusedSimpArgs false
set_option linter.unusedVariables false
set_option linter.unusedSectionVars false
def znr (k:Int):Bool × Bool × Bool :=
 if k < 1\/42 < k then (true,true,true) else if k=5 then (false,true,false) else if k=11\/k=31 then (true,false,true) else if k=12\/k=13\/k=14\/k=16\/k=17 then (false,false,true)
 else if k=6\/k=7\/k=18\/k=38\/k=40\/k=41 then (true,false,false) else (false,false,false)
theorem z0u {k:Int} {b1 b2 b3:Bool} (h0:1<=k) (h1:k<=42) (h:∀ (P:Program) (G:World->Prop) (E:SO),E.lti k 1=false->E.lti 42 k=false->awp P G E tyT (fun _=>0) (Tryz.f25.body.getD .skip) (zex E tyT Tryz.f25.results.toList (.tup [pB b1,pB b2,pB b3])) (([pI k]:List PV).map .p++List.replicate (33 - ([pI k]:List PV).length) (.p (.v undef))) []):V0 25 [pI k] (.tup [pB b1,pB b2,pB b3]):=by
 refine zao zaa zby mixed (fun _=>0) Tryz.func25 rfl (by kernel_rfl) (by kernel_rfl) rfl fun P G E hc hE=>?_
 exact h P G E (by rw [hE];exact dF (by omega)) (by rw [hE];exact dF (by omega))
theorem zyo {k:Int} {b1 b2 b3:Bool} (h:znr k=(b1,b2,b3)):V0 25 [pI k] (.tup [pB b1,pB b2,pB b3]):=by
 rcases (show k < 1\/42 < k\/(1<=k/\k<=42) by omega) with hk|hk|⟨hk0,hk1⟩
 ·unfold znr at h;rw [if_pos (.inl hk)] at h
  cases h
  refine zao zaa zby mixed (fun _=>0) Tryz.func25 rfl (by kernel_rfl) (by kernel_rfl) rfl fun P G E hc hE=>?_
  have d1:E.lti k 1=true:=by rw [hE];exact dT hk
  clear hc hE;cbv;simp only [d1];cbv
 ·unfold znr at h;rw [if_pos (.inr hk)] at h
  cases h
  refine zao zaa zby mixed (fun _=>0) Tryz.func25 rfl (by kernel_rfl) (by kernel_rfl) rfl fun P G E hc hE=>?_
  have d1:E.lti k 1=false:=by rw [hE];exact dF (by omega)
  have d2:E.lti 42 k=true:=by rw [hE];exact dT hk
  clear hc hE;cbv
  repeat (first|(simp only [d1];cbv)|(simp only [d2];cbv))
 ·by_cases hv:k=5\/k=11\/k=31\/k=12\/k=13\/k=14\/k=16\/k=17\/k=6\/k=7\/k=18\/k=38\/k=40\/k=41
  ·refine z0u hk0 hk1 fun P G E d1 d2=>?_
   rcases hv with rfl|rfl|rfl|rfl|rfl|rfl|rfl|rfl|rfl|rfl|rfl|rfl|rfl|rfl
   all_goals
    cases h
    cbv
    repeat (first|(simp only [d1];cbv)|(simp only [d2];cbv))
  ·simp only [not_or] at hv;obtain ⟨v5,v11,v31,v12,v13,v14,v16,v17,v6,v7,v18,v38,v40,v41⟩:=hv;have e:znr k=(false,false,false):=by
    unfold znr;rw [if_neg (by omega),if_neg (by omega),if_neg (by omega),if_neg (by omega),if_neg (by omega)]
   rw [e] at h
   cases h
   refine z0u hk0 hk1 fun P G E d1 d2=>?_
   replace v5:decide (k=5)=false:=dF v5;replace v11:decide (k=11)=false:=dF v11;replace v31:decide (k=31)=false:=dF v31;replace v12:decide (k=12)=false:=dF v12;replace v13:decide (k=13)=false:=dF v13;replace v14:decide (k=14)=false:=dF v14;replace v16:decide (k=16)=false:=dF v16;replace v17:decide (k=17)=false:=dF v17;replace v6:decide (k=6)=false:=dF v6;replace v7:decide (k=7)=false:=dF v7;replace v18:decide (k=18)=false:=dF v18;replace v38:decide (k=38)=false:=dF v38;replace v40:decide (k=40)=false:=dF v40;replace v41:decide (k=41)=false:=dF v41;cbv
   repeat (first|(simp only [d1];cbv)|(simp only [d2];cbv)|(simp only [v5];cbv)|(simp only [v11];cbv)|(simp only [v31];cbv)|(simp only [v12];cbv)|(simp only [v13];cbv)|(simp only [v14];cbv)|(simp only [v16];cbv)|(simp only [v17];cbv)|(simp only [v6];cbv)|(simp only [v7];cbv)|(simp only [v18];cbv)|(simp only [v38];cbv)|(simp only [v40];cbv)|(simp only [v41];cbv))
mutual
def zpk:PT->PT->Bool
 | .mk k n i o ks,.mk k' n' i' o' ks'=>(decide (k=k') && (!(znr k).1 || decide (n=n')) && (!(znr k).2.1 || decide (i=i')) && (!(znr k).2.2 || decide (o=o'))) && (decide (ks.length=ks'.length) && zpl ks ks')
def zpl:List PT->List PT->Bool
 | k :: ks,k' :: ks'=>zpk k k' && zpl ks ks'
 | _,_=>true
end
mutual
theorem znb:∀ x:PT,zpk x x=true
 | .mk k n i o ks=>by
  rw [zpk,znc ks];simp
theorem znc:∀ x:List PT,zpl x x=true
 | []=>rfl
 | k :: ks=>by rw [zpl,znb k,znc ks];rfl
end
theorem zy1:∀ dk b1 dn b2 di b3 dq:Bool,((dk=false\/(dk=true/\b1=true/\dn=false)\/(dk=true/\b1=false/\b2=true/\di=false)\/(dk=true/\b1=true/\dn=true/\b2=true/\di=false)\/(dk=true/\b1=false/\b2=false/\b3=true/\dq=false)\/(dk=true/\b1=true/\dn=true/\b2=false/\b3=true/\dq=false)\/(dk=true/\b1=false/\b2=true/\di=true/\b3=true/\dq=false)\/(dk=true/\b1=true/\dn=true/\b2=true/\di=true/\b3=true/\dq=false))/\(dk && (!b1 || dn) && (!b2 || di) && (!b3 || dq))=false) ∨
 (dk=true/\(b1=false\/b1=true/\dn=true)/\(b2=false\/b2=true/\di=true)/\(b3=false\/b3=true/\dq=true)/\(dk && (!b1 || dn) && (!b2 || di) && (!b3 || dq))=true):=by
 intro dk b1 dn b2 di b3 dq
 cases dk <;> cases b1 <;> cases dn <;> cases b2 <;> cases di <;> cases b3 <;> cases dq <;> simp
structure SmI (ks ks':List PT) (q:Bool) (x:Int × List PT × List PT):Prop where
 d:ks.drop x.1.toNat=x.2.1
 d':ks'.drop x.1.toNat=x.2.2
 i0:0<=x.1
 i1:x.1 + ((x.2.1.length:Nat):Int)=((ks.length:Nat):Int)
 le:x.2.1.length=x.2.2.length
 q:zpl x.2.1 x.2.2=q
abbrev smH (P:Program) (G:World->Prop) (E:SO) (k i o k' i' o':Int) (T T':ByteArray) (KK KK':PV) (HI:Prop) (q:Bool):Prop :=
 awp P G E tyT (fun _=>0) (zet 3 (Tryz.f14.body.getD .skip)) (zb9 (CutIs 77 [2,3,4] 2 (fun _:Unit=>[.own 0 0,.own 1 0,.p (pB false)]) (fun _=>[some (.box [.p (pI k),.p (pS T),.p (pI i),.p (pI o),.p KK] 27 none),some (.box [.p (pI k'),.p (pS T'),.p (pI i'),.p (pI o'),.p KK'] 27 none)]) (fun _=>HI)) (zex E tyT Tryz.f14.results.toList (pB q)))
  (([.agg [pI k,pS T,pI i,pI o,KK],.agg [pI k',pS T',pI i',pI o',KK']]:List PV).map .p++List.replicate (77 - ([.agg [pI k,pS T,pI i,pI o,KK],.agg [pI k',pS T',pI i',pI o',KK']]:List PV).length) (.p (.v undef))) []
section
variable {P:Program} {G:World->Prop} {E:SO} {k i o k' i' o':Int} {T T':ByteArray} {KK KK':PV} {b1 b2 b3 dk dn di dq:Bool} {HI:Prop}
 (h1:Ret P G 25 [pI k] (.tup [pB b1,pB b2,pB b3])) (ok:zh3 (.p KK)=true) (ok':zh3 (.p KK')=true) (e2:E.eq T T'=dn) (hdk:decide (k=k')=dk) (hdi:decide (i=i')=di) (hdq:decide (o=o')=dq)
include h1 ok ok' e2 hdk hdi hdq
set_option maxHeartbeats 8000000 in
theorem zsr (h:dk=false\/(dk=true/\b1=true/\dn=false)\/(dk=true/\b1=false/\b2=true/\di=false)\/(dk=true/\b1=true/\dn=true/\b2=true/\di=false)):smH P G E k i o k' i' o' T T' KK KK' HI false:=by
 cbv at ok;cbv at ok'
 rcases h with rfl|⟨rfl,rfl,rfl⟩|⟨rfl,rfl,rfl,rfl⟩|⟨rfl,rfl,rfl,rfl,rfl⟩
 all_goals
  cbv
  repeat (first|(refine ⟨_,h1,?_⟩;cbv)|(simp only [ok,ok',e2,hdk,hdi,hdq];cbv))
set_option maxHeartbeats 8000000 in
theorem z4o (h:(dk=true/\b1=false/\b2=false/\b3=true/\dq=false)\/(dk=true/\b1=true/\dn=true/\b2=false/\b3=true/\dq=false)\/(dk=true/\b1=false/\b2=true/\di=true/\b3=true/\dq=false)\/(dk=true/\b1=true/\dn=true/\b2=true/\di=true/\b3=true/\dq=false)):smH P G E k i o k' i' o' T T' KK KK' HI false:=by
 cbv at ok;cbv at ok'
 rcases h with ⟨rfl,rfl,rfl,rfl,rfl⟩|⟨rfl,rfl,rfl,rfl,rfl,rfl⟩|⟨rfl,rfl,rfl,rfl,rfl,rfl⟩|⟨rfl,rfl,rfl,rfl,rfl,rfl,rfl⟩
 all_goals
  cbv
  repeat (first|(refine ⟨_,h1,?_⟩;cbv)|(simp only [ok,ok',e2,hdk,hdi,hdq];cbv))
set_option maxHeartbeats 8000000 in
theorem z4n {q:Bool} (hI:HI) (hk:dk=true) (hb1:b1=false) (h2:b2=false\/b2=true/\di=true) (h3:b3=false\/b3=true/\dq=true):smH P G E k i o k' i' o' T T' KK KK' HI q:=by
 cbv at ok;cbv at ok';subst hk hb1
 rcases h2 with rfl|⟨rfl,rfl⟩ <;> rcases h3 with rfl|⟨rfl,rfl⟩
 all_goals
  cbv
  repeat (first|(refine ⟨_,h1,?_⟩;cbv)|(simp only [ok,ok',e2,hdk,hdi,hdq];cbv))
 all_goals exact .mk () ⟨rfl,rfl,rfl,rfl,rfl⟩ hI
set_option maxHeartbeats 8000000 in
theorem z4m {q:Bool} (hI:HI) (hk:dk=true) (hb1:b1=true/\dn=true) (h2:b2=false\/b2=true/\di=true) (h3:b3=false\/b3=true/\dq=true):smH P G E k i o k' i' o' T T' KK KK' HI q:=by
 cbv at ok;cbv at ok';obtain ⟨hb1,hb2⟩:=hb1;subst hk hb1 hb2
 rcases h2 with rfl|⟨rfl,rfl⟩ <;> rcases h3 with rfl|⟨rfl,rfl⟩
 all_goals
  cbv
  repeat (first|(refine ⟨_,h1,?_⟩;cbv)|(simp only [ok,ok',e2,hdk,hdi,hdq];cbv))
 all_goals exact .mk () ⟨rfl,rfl,rfl,rfl,rfl⟩ hI
end
set_option maxHeartbeats 8000000 in
theorem zsq:∀ (d:Nat) (x y:PT),zgw x<=d->zfd x->zfd y->V0 14 [.agg (zbb x),.agg (zbb y)] (pB (zpk x y))
 | 0,x,_,h,_,_=>by have:=zte x;omega
 | d + 1,.mk k nm i o ks,.mk k' nm' i' o' ks',hd,hw,hw'=>by
  rw [zfd] at hw hw';obtain ⟨hwl,hwk⟩:=hw;obtain ⟨hwl',hwk'⟩:=hw';rw [zgw] at hd;have ihk:∀ y ∈ ks,∀ y' ∈ ks',V0 14 [.agg (zbb y),.agg (zbb y')] (pB (zpk y y')):=fun y hy y' hy'=>zsq d y y' (by have:=zon hy;omega) (zla hwk hy) (zla hwk' hy')
  rw [zbb,zbb];obtain ⟨b1,b2,b3,hu⟩:∃ b1 b2 b3,znr k=(b1,b2,b3):=⟨_,_,_,rfl⟩
  have hU:=zyo hu;obtain ⟨dk,hdk⟩:∃ b,decide (k=k')=b:=⟨_,rfl⟩
  obtain ⟨dn,hdn⟩:∃ b,decide (nm=nm')=b:=⟨_,rfl⟩
  obtain ⟨di,hdi⟩:∃ b,decide (i=i')=b:=⟨_,rfl⟩
  obtain ⟨dq,hdq⟩:∃ b,decide (o=o')=b:=⟨_,rfl⟩
  obtain ⟨hb,hhb⟩:∃ b,(dk && (!b1 || dn) && (!b2 || di) && (!b3 || dq))=b:=⟨_,rfl⟩
  obtain ⟨q,hq⟩:∃ q,zpk (.mk k nm i o ks) (.mk k' nm' i' o' ks')=q:=⟨_,rfl⟩
  rw [hq];rw [zpk,hu,hdk,hdn,hdi,hdq,hhb] at hq;have ok:=zjd ks;have ok':=zjd ks';obtain ⟨KK,hKK⟩:∃ KK,zan ks=KK:=⟨_,rfl⟩
  obtain ⟨KK',hKK'⟩:∃ KK,zan ks'=KK:=⟨_,rfl⟩
  rw [hKK] at ok ⊢;rw [hKK'] at ok' ⊢;have hee:decide (bL nm=bL nm')=dn:=by rw [<-hdn];exact decide_eq_decide.2 ⟨zqd,congrArg bL⟩
  obtain ⟨T,hT⟩:∃ T,bL nm=T:=⟨_,rfl⟩
  obtain ⟨T',hT'⟩:∃ T,bL nm'=T:=⟨_,rfl⟩
  rw [hT,hT'] at hee ⊢;refine zer zaa zby (f:=14) Tryz.func14 rfl (by kernel_rfl) (oT (by kernel_rfl)) ?_
  refine Seg.cutK 3 77 [2,3,4] 2 (fun _:Unit=>[.own 0 0,.own 1 0,.p (pB false)]) (fun _=>[some (.box [.p (pI k),.p (pS T),.p (pI i),.p (pI o),.p KK] 27 none),some (.box [.p (pI k'),.p (pS T'),.p (pI i'),.p (pI o'),.p KK'] 27 none)]) (fun _=>hb=true) zaa mixed (fun _=>0) (fun E=>zex E tyT Tryz.f14.results.toList (pB q)) (by kernel_rfl) ?_ ?_
  ·intro P G E hc hM hE;have h1:=hc _ _ _ hU;have e2:E.eq T T'=dn:=by rw [hE];exact hee
   have key:=zy1 dk b1 dn b2 di b3 dq
   rcases key with ⟨h,h2⟩|⟨ha,hb',hc',hd',he'⟩
   ·rw [h2] at hhb;subst hhb;have e0:false=q:=by rw [<-hq,Bool.false_and]
    subst e0
    rcases h with h|h|h|h|h
    ·exact zsr h1 ok ok' e2 hdk hdi hdq (.inl h)
    ·exact zsr h1 ok ok' e2 hdk hdi hdq (.inr (.inl h))
    ·exact zsr h1 ok ok' e2 hdk hdi hdq (.inr (.inr (.inl h)))
    ·exact zsr h1 ok ok' e2 hdk hdi hdq (.inr (.inr (.inr h)))
    ·exact z4o h1 ok ok' e2 hdk hdi hdq h
   ·rcases hb' with hb'|hb'
    ·exact z4n h1 ok ok' e2 hdk hdi hdq (hhb.symm.trans he') ha hb' hc' hd'
    ·exact z4m h1 ok ok' e2 hdk hdi hdq (hhb.symm.trans he') ha hb' hc' hd'
  ·rintro _ hbt
   subst hbt;rw [Bool.true_and] at hq;clear hU hdn hdk hdi hdq hhb hee hT hT' hu
   cases ks with
   | nil =>
    have ga:KK=.v (.slice none 0 0):=by rw [<-hKK,zan]
    subst ga
    cases ks' with
    | nil =>
     have gb:KK'=.v (.slice none 0 0):=by rw [<-hKK',zan]
     subst gb;have e0:true=q:=by rw [<-hq];rfl
     subst e0;refine Seg.of zaa mixed (fun n=>match n with|9=>10|_=>0) (by kernel_rfl) (fun E=>zex E tyT Tryz.f14.results.toList (pB true)) fun P G E hc hM hE=>?_
     have o0:E.ofN 0=0:=by rw [hE];rfl
     have d0:E.lti 0 0=false:=by rw [hE];rfl
     clear hc hM hE ihk;cbv;simp only [o0];cbv;refine zbn 77 [2,3,4,60,61] 2 (fun _:Unit=>[.own 0 0,.own 1 0,.p (pB false),.p (pI 0),.p (pI 0)]) (fun _=>[some (.box [.p (pI k),.p (pS T),.p (pI i),.p (pI o),.p (.v (.slice none 0 0))] 27 none),some (.box [.p (pI k'),.p (pS T'),.p (pI i'),.p (pI o'),.p (.v (.slice none 0 0))] 27 none)]) (fun _=>True) (fun _=>0) () ⟨rfl,rfl,rfl,rfl,rfl⟩ trivial ?_
     intro _ _;cbv;simp only [d0];cbv
    | cons y ys =>
     obtain ⟨R',hR'⟩:∃ R,zae (y :: ys)=R:=⟨_,rfl⟩
     have gb:KK'=.ro 5 R':=by rw [<-hKK'];exact zeo ⟨y,ys,rfl⟩ hR'
     subst gb;have e0:false=q:=by rw [<-hq];rfl
     subst e0;have hrl:=zcq (y :: ys);rw [hR'] at hrl;obtain ⟨M,hM'⟩:∃ M:Int,((R'.length:Nat):Int)=M:=⟨_,rfl⟩
     have hM0:(0:Int) ≠ M:=by rw [<-hM',hrl,lLC];omega
     refine Seg.of zaa mixed (fun n=>match n with|9=>10|_=>0) (by kernel_rfl) (fun E=>zex E tyT Tryz.f14.results.toList (pB false)) fun P G E hc hM hE=>?_
     have o0:E.ofN 0=0:=by rw [hE];rfl
     have l0:E.ofN R'.length=M:=by rw [hE];exact hM'
     have d0:decide (0=M)=false:=dF hM0;clear hc hM hE ihk;cbv at l0;cbv;simp only [o0,l0,d0];cbv
   | cons x xs =>
    obtain ⟨R,hR⟩:∃ R,zae (x :: xs)=R:=⟨_,rfl⟩
    have ga:KK=.ro 5 R:=by rw [<-hKK];exact zeo ⟨x,xs,rfl⟩ hR
    subst ga;have hrl:=zcq (x :: xs);have hget:=zhr (x :: xs);rw [hR] at hrl hget;obtain ⟨M,hM1⟩:∃ M:Int,((R.length:Nat):Int)=M:=⟨_,rfl⟩
    cases ks' with
    | nil =>
     have gb:KK'=.v (.slice none 0 0):=by rw [<-hKK',zan]
     subst gb;have e0:false=q:=by rw [<-hq];rfl
     subst e0;have hM0:M ≠ 0:=by rw [<-hM1,hrl,lLC];omega
     refine Seg.of zaa mixed (fun n=>match n with|9=>10|_=>0) (by kernel_rfl) (fun E=>zex E tyT Tryz.f14.results.toList (pB false)) fun P G E hc hM hE=>?_
     have o0:E.ofN 0=0:=by rw [hE];rfl
     have l0:E.ofN R.length=M:=by rw [hE];exact hM1
     have d0:decide (M=0)=false:=dF hM0;clear hc hM hE ihk;cbv at l0;cbv;simp only [o0,l0,d0];cbv
    | cons y ys =>
     obtain ⟨R',hR'⟩:∃ R,zae (y :: ys)=R:=⟨_,rfl⟩
     have gb:KK'=.ro 5 R':=by rw [<-hKK'];exact zeo ⟨y,ys,rfl⟩ hR'
     subst gb;have hrl':=zcq (y :: ys);have hget':=zhr (y :: ys);rw [hR'] at hrl' hget';obtain ⟨M',hM2⟩:∃ M:Int,((R'.length:Nat):Int)=M:=⟨_,rfl⟩
     obtain ⟨ks,hks⟩:∃ ks,x :: xs=ks:=⟨_,rfl⟩
     obtain ⟨ks',hks'⟩:∃ ks,y :: ys=ks:=⟨_,rfl⟩
     rw [hks] at hq hrl hget hwl ihk;rw [hks'] at hq hrl' hget' hwl' ihk
     by_cases hlen:ks.length=ks'.length
     ·have hMM:M'=M:=by rw [<-hM1,<- hM2,hrl,hrl',hlen]
      rw [dT hlen,Bool.true_and] at hq;rw [hMM] at hM2;obtain ⟨μ,hμ⟩:∃ μ:Int × List PT × List PT->Nat,∀ x,μ x=x.2.1.length:=⟨_,fun _=>rfl⟩
      refine Seg.of zaa mixed (fun n=>match n with|9=>10|_=>0) (by kernel_rfl) (fun E=>zex E tyT Tryz.f14.results.toList (pB q)) fun P G E hc hM hE=>?_
      have l0:E.ofN R.length=M:=by rw [hE];exact hM1
      have l1:E.ofN R'.length=M:=by rw [hE];exact hM2
      have d0:decide (M=M)=true:=dT rfl;cbv at l0;cbv at l1;cbv
      repeat (simp only [l0,l1,d0];cbv)
      refine zbn 77 [2,3,4,60,61] 2 (fun x:Int × List PT × List PT=>[.own 0 0,.own 1 0,.p (pB false),.p (pI M),.p (pI x.1)]) (fun _=>[some (.box [.p (pI k),.p (pS T),.p (pI i),.p (pI o),.p (.ro 5 R)] 27 none),some (.box [.p (pI k'),.p (pS T'),.p (pI i'),.p (pI o'),.p (.ro 5 R')] 27 none)]) (SmI ks ks' q) μ (0,ks,ks') ⟨rfl,rfl,rfl,rfl,rfl⟩ ⟨rfl,rfl,Int.le_refl 0,by simp,hlen,hq⟩ ?_
      rintro ⟨j,l,l'⟩ hI
      obtain ⟨g1,g2,g3,g4,g5,g6⟩:=hI;simp only at g1 g2 g3 g4 g5 g6;replace hM1:((R.length:Nat):Int)=M:=hM1
      cases l with
      | nil =>
       have d2:E.lti j M=false:=by rw [hE];exact dF (by simp only [List.length_nil] at g4;omega)
       have e0:true=q:=by rw [<-g6];cases l' <;> rfl
       subst e0;cbv;simp only [d2];cbv
      | cons z l =>
       cases l' with
       | nil=>simp at g5
       | cons z' l' =>
        have d2:E.lti j M=true:=by rw [hE];exact dT (by simp only [lLC] at g4;omega)
        have hz:ks[j.toNat]?=some z:=by
         have:=congrArg (fun r:List PT=>r[0]?) g1
         rw [List.getElem?_drop] at this;simpa using this
        have hz':ks'[j.toNat]?=some z':=by
         have:=congrArg (fun r:List PT=>r[0]?) g2
         rw [List.getElem?_drop] at this;simpa using this
        have p0:E.ple 0 j:=by rw [hE];exact g3
        obtain ⟨k1,q1,o1,n1,K1,hv⟩:=zi8 z;obtain ⟨k2,q2,o2,n2,K2,hv'⟩:=zi8 z';have r0:R[E.nat j]?=some [pI k1,pS n1,pI q1,pI o1,K1]:=by rw [hE];show R[j.toNat]?=_;rw [hget,hz,<- hv.row];rfl
        have r1:R'[E.nat j]?=some [pI k2,pS n2,pI q2,pI o2,K2]:=by rw [hE];show R'[j.toNat]?=_;rw [hget',hz',<- hv'.row];rfl
        obtain ⟨j2,hj2⟩:∃ i2,j + 1=i2:=⟨_,rfl⟩
        have ea:E.wadd .i64 j 1=j2:=by rw [hE,<- hj2];exact zaq (by omega) (by simp only [lLC] at g4;omega)
        have g4a:j2 + ((l.length:Nat):Int)=((ks.length:Nat):Int):=by simp only [lLC] at g4;omega
        have ok1:=hv.one;have ok2:=hv'.one;cbv at ok1;cbv at ok2;have hcl:=ihk z (List.mem_of_getElem? hz) z' (List.mem_of_getElem? hz');rw [hv.row,hv'.row] at hcl
        cases hsz:zpk z z' with
        | true =>
         rw [hsz] at hcl;replace hcl:=hc _ _ _ hcl;have g6a:zpl l l'=q:=by rw [<-g6,zpl,hsz,Bool.true_and]
         have hx:SmI ks ks' q (j2,l,l'):=⟨by
          have:j2.toNat=j.toNat + 1:=by omega
          rw [this,<- lDD,g1];rfl,by
          have:j2.toNat=j.toNat + 1:=by omega
          rw [this,<- lDD,g2];rfl,by omega,g4a,by simpa using g5,g6a⟩
         have hmu:μ (j2,l,l') < μ (j,z :: l,z' :: l'):=by rw [hμ,hμ];show l.length < (z :: l).length;simp
         cbv
         repeat (first|(simp only [d2];cbv)|(refine ⟨p0,_,r0,?_⟩;cbv)|(refine ⟨p0,_,r1,?_⟩;cbv)|(refine ⟨_,hcl,?_⟩;cbv)|(simp only [ea];cbv))
         exact .mk _ ⟨rfl,rfl,rfl,rfl,rfl⟩ hx hmu
        | false =>
         rw [hsz] at hcl;replace hcl:=hc _ _ _ hcl;have e0:false=q:=by rw [<-g6,zpl,hsz,Bool.false_and]
         subst e0;cbv
         repeat (first|(simp only [d2];cbv)|(refine ⟨p0,_,r0,?_⟩;cbv)|(refine ⟨p0,_,r1,?_⟩;cbv)|(refine ⟨_,hcl,?_⟩;cbv))
     ·have e0:false=q:=by rw [<-hq,dF hlen,Bool.false_and]
      subst e0;have hM0:M ≠ M':=by rw [<-hM1,<- hM2,hrl,hrl'];omega
      refine Seg.of zaa mixed (fun n=>match n with|9=>10|_=>0) (by kernel_rfl) (fun E=>zex E tyT Tryz.f14.results.toList (pB false)) fun P G E hc hM hE=>?_
      have l0:E.ofN R.length=M:=by rw [hE];exact hM1
      have l1:E.ofN R'.length=M':=by rw [hE];exact hM2
      have d0:decide (M=M')=false:=dF hM0;clear hc hM hE ihk;cbv at l0;cbv at l1;cbv;simp only [l0,l1,d0];cbv
end Go.Proofs.YtcfecmeocimclaaGreatDoor
