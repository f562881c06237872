/- Own work: crowded and shallow. -/
import Derived.Test.YtcfecmeocimclaaGreatDoorYAA0
import Derived.Test.YtcfecmeocimclaaGreatDoorYAGZ
import Derived.Test.YtcfecmeocimclaaGreatDoorYAHH
namespace Go.Proofs.YtcfecmeocimclaaGreatDoor
set_option linter.unusedSimpArgs false
set_option linter.unusedVariables false
set_option maxRecDepth 100000
open Go.RowKit
structure CrI (n:Int) (toks:List Tk) (q:Bool) (x:Int × Int × Ts × Nat):Prop where
 d:toks.drop x.1.toNat=x.2.2.1
 i0:0<=x.1
 i1:x.1 + ((x.2.2.1.length:Nat):Int)=((toks.length:Nat):Int)
 m:((x.2.2.2:Nat):Int)=x.2.1
 m1:x.2.2.2<=128
 q:za3 x.2.2.2 x.2.2.1=q
set_option maxHeartbeats 2000000 in
theorem zmt (n:Int) (toks:List Tk) (hz:toks.length<=1000000):V0 33 [.ro 3 (zbr n toks)] (pB (za3 0 toks)):=by
 obtain ⟨q,hq⟩:∃ q,za3 0 toks=q:=⟨_,rfl⟩
 rw [hq];have hrl:=zd7 n toks;have hget:∀ (j:Nat) (t:Tk),toks[j]?=some t->(zbr n toks)[j]?=some [pI t.k,pS (bL t.t),pI (n - (t.rem:Nat))]:=fun j t ht=>by
  unfold zbr;rw [List.getElem?_map,ht];rfl
 obtain ⟨LR,hLR⟩:∃ x,zbr n toks=x:=⟨_,rfl⟩
 rw [hLR] at hrl hget;rw [hLR];obtain ⟨M,hM⟩:∃ M:Int,((toks.length:Nat):Int)=M:=⟨_,rfl⟩
 obtain ⟨μ,hμ⟩:∃ μ:Int × Int × Ts × Nat->Nat,∀ x,μ x=x.2.2.1.length:=⟨_,fun _=>rfl⟩
 refine zaq zaa zby mixed (fun _=>0) Tryz.func33 rfl (by kernel_rfl) (by kernel_rfl) rfl fun P G E hc hE=>?_
 have l0:E.ofN LR.length=M:=by rw [hE,hrl];exact hM
 cbv at l0;have x0:CrI n toks q (0,0,toks,0):=⟨rfl,Int.le_refl 0,by simp,rfl,Nat.zero_le _,hq⟩
 cbv;simp only [l0];cbv;refine zbs 33 [3,6,7,8] 0 (fun x:Int × Int × Ts × Nat=>[.p (pI x.2.1),.p (.ro 3 LR),.p (pI M),.p (pI x.1)]) (fun _=>[]) (CrI n toks q) μ (0,0,toks,0) ⟨rfl,rfl,rfl,rfl,rfl⟩ x0 ?_
 rintro ⟨i,op,l,m⟩ hI
 obtain ⟨g1,g2,g3,g4,g5,g6⟩:=hI;simp only at g1 g2 g3 g4 g5 g6;replace hM:((toks.length:Nat):Int)=M:=hM
 cases l with
 | nil =>
  have d1:E.lti i M=false:=by rw [hE];exact dF (by simp only [List.length_nil] at g3;omega)
  have e0:false=q:=g6;subst e0;cbv;simp only [d1];cbv;all_goals trivial
 | cons t l =>
  have d1:E.lti i M=true:=by rw [hE];exact dT (by simp only [lLC] at g3;omega)
  have ht:toks[i.toNat]?=some t:=by
   have:=congrArg (fun r:List Tk=>r[0]?) g1
   rw [List.getElem?_drop] at this;simpa using this
  have p0:E.ple 0 i:=by rw [hE];exact g2
  have r0:LR[E.nat i]?=some [pI t.k,pS (bL t.t),pI (n - (t.rem:Nat))]:=by rw [hE];exact hget _ t ht
  obtain ⟨i2,hi2⟩:∃ i2,i + 1=i2:=⟨_,rfl⟩
  have ea:E.wadd .i64 i 1=i2:=by rw [hE,<- hi2];exact zaf (by omega) (by simp only [lLC] at g3;omega)
  have n1:toks.drop i2.toNat=l:=by
   have:i2.toNat=i.toNat + 1:=by omega
   rw [this,<- lDD,g1];rfl
  have n2:0<=i2:=by omega
  have n3:i2 + ((l.length:Nat):Int)=((toks.length:Nat):Int):=by simp only [lLC] at g3;omega
  have hmu:∀ (op':Int) (m':Nat),μ (i2,op',l,m') < μ (i,op,t :: l,m):=fun op' m'=>by rw [hμ,hμ];show l.length < (t :: l).length;simp
  have eqs:∀ w:Bs,E.eq (bL t.t) (bL w)=decide (t.t=w):=fun w=>by
   rw [hE];exact decide_eq_decide.2 ⟨zub,congrArg bL⟩
  rw [za3] at g6;obtain ⟨K,hK⟩:∃ K,t.k=K:=⟨_,rfl⟩
  obtain ⟨T,hT⟩:∃ T,bL t.t=T:=⟨_,rfl⟩
  obtain ⟨Z,hZ⟩:∃ Z,n - ((t.rem:Nat):Int)=Z:=⟨_,rfl⟩
  rw [hK,hT,hZ] at r0;rw [hT] at eqs
  rcases cEm (K=5) with hk|hk
  ·have dk:decide (K=5)=true:=dT hk;have hb:tkB t=brk t.t:=by unfold tkB;rw [hK,if_pos hk]
   rcases cEm (t.t=zbm) with hw|hw1
   ·have hb1:tkB t=1:=by rw [hb,hw];decide
    rw [hb1] at g6;have w1:=eqs zbm;have w2:=eqs zng;have w3:=eqs zg3;rw [hw] at w1 w2 w3;cbv at w1 w2 w3;replace g4:((m:Nat):Int)=op:=g4;obtain ⟨op2,ho2⟩:∃ x,op + 1=x:=⟨_,rfl⟩
    have eo:E.wadd .i64 op 1=op2:=by rw [hE,<- ho2];exact zaf (by omega) (by omega)
    rcases Nat.lt_or_ge 128 (m + 1) with h|h
    ·have e0:true=q:=by rw [<-g6];simp only [if_pos h]
     have d8:E.lti 128 op2=true:=by rw [hE];exact dT (by omega)
     subst e0;cbv
     repeat (first|(simp only [d1];cbv)|(refine ⟨p0,_,r0,?_⟩;cbv)|(simp only [dk];cbv)|(simp only [w1];cbv)|(simp only [eo];cbv)|(simp only [d8];cbv))
     all_goals trivial
    ·have g7:za3 (m + 1) l=q:=by rw [<-g6];simp only [if_neg (show ¬ 128 < m + 1 by omega)]
     have d8:E.lti 128 op2=false:=by rw [hE];exact dF (by omega)
     have hx:CrI n toks q (i2,op2,l,m + 1):=⟨n1,n2,n3,by show ((m + 1:Nat):Int)=op2;omega,h,g7⟩
     have hy:=hmu op2 (m + 1);cbv
     repeat (first|(simp only [d1];cbv)|(refine ⟨p0,_,r0,?_⟩;cbv)|(simp only [dk];cbv)|(simp only [w1];cbv)|(simp only [eo];cbv)|(simp only [d8];cbv)|(simp only [ea];cbv))
     exact .mk _ ⟨rfl,rfl,rfl,rfl,rfl⟩ hx hy
   rcases cEm (t.t=zng) with hw|hw2
   ·have hb1:tkB t=1:=by rw [hb,hw];decide
    rw [hb1] at g6;have w1:=eqs zbm;have w2:=eqs zng;have w3:=eqs zg3;rw [hw] at w1 w2 w3;cbv at w1 w2 w3;replace g4:((m:Nat):Int)=op:=g4;obtain ⟨op2,ho2⟩:∃ x,op + 1=x:=⟨_,rfl⟩
    have eo:E.wadd .i64 op 1=op2:=by rw [hE,<- ho2];exact zaf (by omega) (by omega)
    rcases Nat.lt_or_ge 128 (m + 1) with h|h
    ·have e0:true=q:=by rw [<-g6];simp only [if_pos h]
     have d8:E.lti 128 op2=true:=by rw [hE];exact dT (by omega)
     subst e0;cbv
     repeat (first|(simp only [d1];cbv)|(refine ⟨p0,_,r0,?_⟩;cbv)|(simp only [dk];cbv)|(simp only [w1,w2];cbv)|(simp only [eo];cbv)|(simp only [d8];cbv))
     all_goals trivial
    ·have g7:za3 (m + 1) l=q:=by rw [<-g6];simp only [if_neg (show ¬ 128 < m + 1 by omega)]
     have d8:E.lti 128 op2=false:=by rw [hE];exact dF (by omega)
     have hx:CrI n toks q (i2,op2,l,m + 1):=⟨n1,n2,n3,by show ((m + 1:Nat):Int)=op2;omega,h,g7⟩
     have hy:=hmu op2 (m + 1);cbv
     repeat (first|(simp only [d1];cbv)|(refine ⟨p0,_,r0,?_⟩;cbv)|(simp only [dk];cbv)|(simp only [w1,w2];cbv)|(simp only [eo];cbv)|(simp only [d8];cbv)|(simp only [ea];cbv))
     exact .mk _ ⟨rfl,rfl,rfl,rfl,rfl⟩ hx hy
   rcases cEm (t.t=zg3) with hw|hw3
   ·have hb1:tkB t=1:=by rw [hb,hw];decide
    rw [hb1] at g6;have w1:=eqs zbm;have w2:=eqs zng;have w3:=eqs zg3;rw [hw] at w1 w2 w3;cbv at w1 w2 w3;replace g4:((m:Nat):Int)=op:=g4;obtain ⟨op2,ho2⟩:∃ x,op + 1=x:=⟨_,rfl⟩
    have eo:E.wadd .i64 op 1=op2:=by rw [hE,<- ho2];exact zaf (by omega) (by omega)
    rcases Nat.lt_or_ge 128 (m + 1) with h|h
    ·have e0:true=q:=by rw [<-g6];simp only [if_pos h]
     have d8:E.lti 128 op2=true:=by rw [hE];exact dT (by omega)
     subst e0;cbv
     repeat (first|(simp only [d1];cbv)|(refine ⟨p0,_,r0,?_⟩;cbv)|(simp only [dk];cbv)|(simp only [w1,w2,w3];cbv)|(simp only [eo];cbv)|(simp only [d8];cbv))
     all_goals trivial
    ·have g7:za3 (m + 1) l=q:=by rw [<-g6];simp only [if_neg (show ¬ 128 < m + 1 by omega)]
     have d8:E.lti 128 op2=false:=by rw [hE];exact dF (by omega)
     have hx:CrI n toks q (i2,op2,l,m + 1):=⟨n1,n2,n3,by show ((m + 1:Nat):Int)=op2;omega,h,g7⟩
     have hy:=hmu op2 (m + 1);cbv
     repeat (first|(simp only [d1];cbv)|(refine ⟨p0,_,r0,?_⟩;cbv)|(simp only [dk];cbv)|(simp only [w1,w2,w3];cbv)|(simp only [eo];cbv)|(simp only [d8];cbv)|(simp only [ea];cbv))
     exact .mk _ ⟨rfl,rfl,rfl,rfl,rfl⟩ hx hy
   rcases cEm (t.t=zan) with hw|hw4
   ·have hb1:tkB t=2:=by rw [hb,hw];decide
    rw [hb1] at g6;have g7:za3 (m - 1) l=q:=g6;have w1:=eqs zbm;have w2:=eqs zng;have w3:=eqs zg3;have w4:=eqs zan;have w5:=eqs zpm;have w6:=eqs zsz;rw [hw] at w1 w2 w3 w4 w5 w6;cbv at w1 w2 w3 w4 w5 w6;replace g4:((m:Nat):Int)=op:=g4;obtain ⟨op2,ho2⟩:∃ x,op - 1=x:=⟨_,rfl⟩
    have eo:E.wsub .i64 op 1=op2:=by rw [hE,<- ho2];exact zaf (by omega) (by omega)
    obtain ⟨op3,ho3⟩:∃ x,E.max op2 0=x:=⟨_,rfl⟩
    have ho4:((m - 1:Nat):Int)=op3:=by rw [<-ho3,hE];show _=if (0:Int) > op2 then 0 else op2;split <;> omega
    have hx:CrI n toks q (i2,op3,l,m - 1):=⟨n1,n2,n3,ho4,by show m - 1<=128;omega,g7⟩
    have hy:=hmu op3 (m - 1);cbv
    repeat (first|(simp only [d1];cbv)|(refine ⟨p0,_,r0,?_⟩;cbv)|(simp only [dk];cbv)|(simp only [w1,w2,w3,w4];cbv)|(simp only [eo];cbv)|(simp only [ho3];cbv)|(simp only [ea];cbv))
    exact .mk _ ⟨rfl,rfl,rfl,rfl,rfl⟩ hx hy
   rcases cEm (t.t=zpm) with hw|hw5
   ·have hb1:tkB t=2:=by rw [hb,hw];decide
    rw [hb1] at g6;have g7:za3 (m - 1) l=q:=g6;have w1:=eqs zbm;have w2:=eqs zng;have w3:=eqs zg3;have w4:=eqs zan;have w5:=eqs zpm;have w6:=eqs zsz;rw [hw] at w1 w2 w3 w4 w5 w6;cbv at w1 w2 w3 w4 w5 w6;replace g4:((m:Nat):Int)=op:=g4;obtain ⟨op2,ho2⟩:∃ x,op - 1=x:=⟨_,rfl⟩
    have eo:E.wsub .i64 op 1=op2:=by rw [hE,<- ho2];exact zaf (by omega) (by omega)
    obtain ⟨op3,ho3⟩:∃ x,E.max op2 0=x:=⟨_,rfl⟩
    have ho4:((m - 1:Nat):Int)=op3:=by rw [<-ho3,hE];show _=if (0:Int) > op2 then 0 else op2;split <;> omega
    have hx:CrI n toks q (i2,op3,l,m - 1):=⟨n1,n2,n3,ho4,by show m - 1<=128;omega,g7⟩
    have hy:=hmu op3 (m - 1);cbv
    repeat (first|(simp only [d1];cbv)|(refine ⟨p0,_,r0,?_⟩;cbv)|(simp only [dk];cbv)|(simp only [w1,w2,w3,w4,w5];cbv)|(simp only [eo];cbv)|(simp only [ho3];cbv)|(simp only [ea];cbv))
    exact .mk _ ⟨rfl,rfl,rfl,rfl,rfl⟩ hx hy
   rcases cEm (t.t=zsz) with hw|hw6
   ·have hb1:tkB t=2:=by rw [hb,hw];decide
    rw [hb1] at g6;have g7:za3 (m - 1) l=q:=g6;have w1:=eqs zbm;have w2:=eqs zng;have w3:=eqs zg3;have w4:=eqs zan;have w5:=eqs zpm;have w6:=eqs zsz;rw [hw] at w1 w2 w3 w4 w5 w6;cbv at w1 w2 w3 w4 w5 w6;replace g4:((m:Nat):Int)=op:=g4;obtain ⟨op2,ho2⟩:∃ x,op - 1=x:=⟨_,rfl⟩
    have eo:E.wsub .i64 op 1=op2:=by rw [hE,<- ho2];exact zaf (by omega) (by omega)
    obtain ⟨op3,ho3⟩:∃ x,E.max op2 0=x:=⟨_,rfl⟩
    have ho4:((m - 1:Nat):Int)=op3:=by rw [<-ho3,hE];show _=if (0:Int) > op2 then 0 else op2;split <;> omega
    have hx:CrI n toks q (i2,op3,l,m - 1):=⟨n1,n2,n3,ho4,by show m - 1<=128;omega,g7⟩
    have hy:=hmu op3 (m - 1);cbv
    repeat (first|(simp only [d1];cbv)|(refine ⟨p0,_,r0,?_⟩;cbv)|(simp only [dk];cbv)|(simp only [w1,w2,w3,w4,w5,w6];cbv)|(simp only [eo];cbv)|(simp only [ho3];cbv)|(simp only [ea];cbv))
    exact .mk _ ⟨rfl,rfl,rfl,rfl,rfl⟩ hx hy
   have hb0:tkB t=0:=by
    rw [hb];unfold brk;rw [if_neg (by rintro (h|h|h) <;> first|exact hw1 h|exact hw2 h|exact hw3 h),if_neg (by rintro (h|h|h) <;> first|exact hw4 h|exact hw5 h|exact hw6 h)]
   rw [hb0] at g6;have g7:za3 m l=q:=g6;have w1:E.eq T (bL zbm)=false:=by rw [eqs];exact dF hw1
   have w2:E.eq T (bL zng)=false:=by rw [eqs];exact dF hw2
   have w3:E.eq T (bL zg3)=false:=by rw [eqs];exact dF hw3
   have w4:E.eq T (bL zan)=false:=by rw [eqs];exact dF hw4
   have w5:E.eq T (bL zpm)=false:=by rw [eqs];exact dF hw5
   have w6:E.eq T (bL zsz)=false:=by rw [eqs];exact dF hw6
   cbv at w1 w2 w3 w4 w5 w6;replace g4:((m:Nat):Int)=op:=g4;have hx:CrI n toks q (i2,op,l,m):=⟨n1,n2,n3,g4,g5,g7⟩;have hy:=hmu op m;cbv
   repeat (first|(simp only [d1];cbv)|(refine ⟨p0,_,r0,?_⟩;cbv)|(simp only [dk];cbv)|(simp only [w1,w2,w3,w4,w5,w6];cbv)|(simp only [ea];cbv))
   exact .mk _ ⟨rfl,rfl,rfl,rfl,rfl⟩ hx hy
  ·have dk:decide (K=5)=false:=dF hk;have hb0:tkB t=0:=by unfold tkB;rw [hK,if_neg hk]
   rw [hb0] at g6;have hx:CrI n toks q (i2,op,l,m):=⟨n1,n2,n3,g4,g5,g6⟩;have hy:=hmu op m;cbv
   repeat (first|(simp only [d1];cbv)|(refine ⟨p0,_,r0,?_⟩;cbv)|(simp only [dk];cbv)|(simp only [ea];cbv))
   exact .mk _ ⟨rfl,rfl,rfl,rfl,rfl⟩ hx hy
mutual
def zek:PT->Nat
 | .mk _ _ _ _ ks=>zfi ks + 1
def zfi:List PT->Nat
 | []=>0
 | k :: ks=>max (zek k) (zfi ks)
end
theorem z1v (x:PT):1<=zek x:=by
 cases x with
 | mk k nm i o ks=>rw [zek];omega
theorem zt2:∀ {ks:List PT} {y:PT},y ∈ ks->zek y<=zfi ks
 | [],y,h=>by cases h
 | k :: ks,y,h=>by
  rw [zfi]
  rcases List.mem_cons.1 h with rfl|h
  ·exact Nat.le_max_left _ _
  ·exact Nat.le_trans (zt2 h) (Nat.le_max_right _ _)
theorem znr:∀ (ps:List PT) (i:Nat),(zae ps)[i]?=ps[i]?.map za8
 | [],i=>by rw [zae];simp
 | p :: ps,0=>by rw [zae];rfl
 | p :: ps,i + 1=>by rw [zae,List.getElem?_cons_succ,List.getElem?_cons_succ,znr ps i]
structure ShI (ks:List PT) (most:Int) (q:Bool) (x:Int × List PT):Prop where
 d:ks.drop x.1.toNat=x.2
 i0:0<=x.1
 i1:x.1 + ((x.2.length:Nat):Int)=((ks.length:Nat):Int)
 q:decide (((zfi x.2 + 1:Nat):Int)<=most)=q
theorem z33 {k:PT} {ks:List PT} {most:Int} (h:decide (((zek k:Nat):Int)<=most - 1)=true):decide (((zfi (k :: ks) + 1:Nat):Int)<=most)=decide (((zfi ks + 1:Nat):Int)<=most):=by
 have h:=oT h;rw [zfi];refine decide_eq_decide.2 ⟨fun h2=>?_,fun h2=>?_⟩
 ·have:=Nat.le_max_right (zek k) (zfi ks)
  omega
 ·rcases Nat.le_total (zek k) (zfi ks) with h3|h3
  ·rw [Nat.max_eq_right h3];exact h2
  ·rw [Nat.max_eq_left h3];omega
theorem z0c {k:PT} {ks:List PT} {most:Int} (h:decide (((zek k:Nat):Int)<=most - 1)=false):decide (((zfi (k :: ks) + 1:Nat):Int)<=most)=false:=by
 have h:=of_decide_eq_false h;rw [zfi]
 have:=Nat.le_max_left (zek k) (zfi ks)
 exact dF (by omega)
theorem zsw:∀ {ks:List PT} {y:PT},ze5 ks->y ∈ ks->zfz y
 | [],y,_,h=>by cases h
 | k :: ks,y,hw,h=>by
  rw [ze5] at hw
  rcases List.mem_cons.1 h with rfl|h
  ·exact hw.1
  ·exact zsw hw.2 h
set_option maxHeartbeats 2000000 in
theorem zgi:∀ (d:Nat) (x:PT) (most:Int),zek x<=d->zfz x->most<=100000->V0 30 [.agg (za8 x),pI most] (pB (decide (((zek x:Nat):Int)<=most)))
 | 0,x,_,h,_,_=>by have:=z1v x;omega
 | d + 1,.mk kq nq iq oq ks,most,hd,hw,hm=>by
  rw [zfz] at hw;obtain ⟨hwl,hwk⟩:=hw;rw [zek] at hd;have ihk:∀ y ∈ ks,∀ b:Int,b<=100000->V0 30 [.agg (za8 y),pI b] (pB (decide (((zek y:Nat):Int)<=b))):=fun y hy b hb=>zgi d y b (by have:=zt2 hy;omega) (zsw hwk hy) hb
  rw [zek,za8];obtain ⟨q,hq⟩:∃ q,decide (((zfi ks + 1:Nat):Int)<=most)=q:=⟨_,rfl⟩
  rw [hq];have ok:=zov ks
  rcases (show most < 1\/1<=most by omega) with hlt|hge
  ·have e0:false=q:=by rw [<-hq];exact (dF (by omega)).symm
   obtain ⟨KK,hKK⟩:∃ KK,zao ks=KK:=⟨_,rfl⟩
   rw [hKK] at ok ⊢;subst e0;refine zaq zaa zby mixed (fun _=>0) Tryz.func30 rfl (by kernel_rfl) (by kernel_rfl) rfl fun P G E hc hE=>?_
   have d1:E.lti most 1=true:=by rw [hE];exact dT hlt
   clear hc hE;cbv at ok;cbv
   repeat (first|(simp only [ok];cbv)|(simp only [d1];cbv))
   all_goals trivial
  ·obtain ⟨μ,hμ⟩:∃ μ:Int × List PT->Nat,∀ x,μ x=x.2.length:=⟨_,fun _=>rfl⟩
   obtain ⟨b,hb⟩:∃ b,most - 1=b:=⟨_,rfl⟩
   cases ks with
   | nil =>
    have e0:true=q:=by rw [<-hq];exact (dT (by rw [zfi];omega)).symm
    subst e0;rw [zao];refine zaq zaa zby mixed (fun _=>0) Tryz.func30 rfl (by kernel_rfl) (by kernel_rfl) rfl fun P G E hc hE=>?_
    have d1:E.lti most 1=false:=by rw [hE];exact dF (by omega)
    have o0:E.ofN 0=0:=by rw [hE];rfl
    have d0:E.lti 0 0=false:=by rw [hE];rfl
    cbv
    repeat (first|(simp only [d1];cbv)|(simp only [o0];cbv))
    refine zbs 22 [1,10,11,12] 0 (fun x:Int × List PT=>[.p (pI most),.p (.v (.slice none 0 0)),.p (pI 0),.p (pI 0)]) (fun _=>[]) (fun _=>True) μ (0,[]) ⟨rfl,rfl,rfl,rfl,rfl⟩ trivial ?_
    rintro ⟨i,l⟩ _
    cbv;simp only [d0];cbv;all_goals trivial
   | cons k0 ks0 =>
    obtain ⟨ks,hks⟩:∃ ks,k0 :: ks0=ks:=⟨_,rfl⟩
    rw [zhr ⟨k0,ks0,rfl⟩ rfl];rw [hks] at hq hwl hwk ihk ⊢;have hget:=znr ks;have hrl:=zep ks;obtain ⟨R,hR⟩:∃ R,zae ks=R:=⟨_,rfl⟩
    rw [hR] at hget hrl;rw [hR];obtain ⟨M,hM⟩:∃ M:Int,((ks.length:Nat):Int)=M:=⟨_,rfl⟩
    refine zaq zaa zby mixed (fun _=>0) Tryz.func30 rfl (by kernel_rfl) (by kernel_rfl) rfl fun P G E hc hE=>?_
    have d1:E.lti most 1=false:=by rw [hE];exact dF (by omega)
    have l0:E.ofN R.length=M:=by rw [hE,hrl];exact hM
    have eb:E.wsub .i64 most 1=b:=by rw [hE,<- hb];exact zaf (by omega) (by omega)
    cbv at l0;cbv
    repeat (first|(simp only [d1];cbv)|(simp only [l0];cbv))
    refine zbs 22 [1,10,11,12] 0 (fun x:Int × List PT=>[.p (pI most),.p (.ro 5 R),.p (pI M),.p (pI x.1)]) (fun _=>[]) (ShI ks most q) μ (0,ks) ⟨rfl,rfl,rfl,rfl,rfl⟩ ⟨rfl,Int.le_refl 0,by simp,hq⟩ ?_
    rintro ⟨i,l⟩ hI
    obtain ⟨g1,g2,g3,g4⟩:=hI;simp only at g1 g2 g3 g4;replace hM:((ks.length:Nat):Int)=M:=hM;replace hwl:ks.length<=2000000:=hwl
    cases l with
    | nil =>
     have d2:E.lti i M=false:=by rw [hE];exact dF (by simp only [List.length_nil] at g3;omega)
     have e0:true=q:=by rw [<-g4];exact (dT (by rw [zfi];omega)).symm
     subst e0;cbv;simp only [d2];cbv;all_goals trivial
    | cons y l =>
     have d2:E.lti i M=true:=by rw [hE];exact dT (by simp only [lLC] at g3;omega)
     have hy:ks[i.toNat]?=some y:=by
      have:=congrArg (fun r:List PT=>r[0]?) g1
      rw [List.getElem?_drop] at this;simpa using this
     have p0:E.ple 0 i:=by rw [hE];exact g2
     obtain ⟨k2,i3,o2,n2,KK,hv⟩:=zih y;have r0:R[E.nat i]?=some [pI k2,pS n2,pI i3,pI o2,KK]:=by rw [hE];show R[i.toNat]?=_;rw [hget,hy,<- hv.row];rfl
     obtain ⟨i2,hi2⟩:∃ i2,i + 1=i2:=⟨_,rfl⟩
     have ea:E.wadd .i64 i 1=i2:=by rw [hE,<- hi2];exact zaf (by omega) (by simp only [lLC] at g3;omega)
     have g3a:i2 + ((l.length:Nat):Int)=((ks.length:Nat):Int):=by simp only [lLC] at g3;omega
     have ok2:=hv.one;cbv at ok2;have hcl:=ihk y (List.mem_of_getElem? hy) b (by omega)
     rw [hv.row] at hcl
     cases hdy:decide (((zek y:Nat):Int)<=b) with
     | true =>
      rw [hdy] at hcl;replace hcl:=hc _ _ _ hcl;have g5:decide (((zfi l + 1:Nat):Int)<=most)=q:=by rw [<-g4];exact (z33 (by rw [hb];exact hdy)).symm
      have hx:ShI ks most q (i2,l):=⟨by
       have:i2.toNat=i.toNat + 1:=by omega
       rw [this,<- lDD,g1];rfl,by omega,g3a,g5⟩
      have hmu:μ (i2,l) < μ (i,y :: l):=by rw [hμ,hμ];show l.length < (y :: l).length;simp
      cbv
      repeat (first|(simp only [d2];cbv)|(refine ⟨p0,_,r0,?_⟩;cbv)|(simp only [ok2];cbv)|(simp only [eb];cbv)|(refine ⟨_,hcl,?_⟩;cbv)|(simp only [ea];cbv))
      exact .mk _ ⟨rfl,rfl,rfl,rfl,rfl⟩ hx hmu
     | false =>
      rw [hdy] at hcl;replace hcl:=hc _ _ _ hcl;have e0:false=q:=by rw [<-g4];exact (z0c (by rw [hb];exact hdy)).symm
      subst e0;cbv
      repeat (first|(simp only [d2];cbv)|(refine ⟨p0,_,r0,?_⟩;cbv)|(simp only [ok2];cbv)|(simp only [eb];cbv)|(refine ⟨_,hcl,?_⟩;cbv))
      all_goals trivial
end Go.Proofs.YtcfecmeocimclaaGreatDoor
