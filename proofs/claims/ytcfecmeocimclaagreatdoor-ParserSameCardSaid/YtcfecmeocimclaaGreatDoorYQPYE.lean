/- Own work: the reference's Few. -/
import Derived.Test.YtcfecmeocimclaaGreatDoorYQA0
import Derived.Test.YtcfecmeocimclaaGreatDoorYQPYD
import Derived.Test.YtcfecmeocimclaaGreatDoorYQHC
namespace Go.Proofs.YtcfecmeocimclaaGreatDoor
open Go.RowKit
set_option maxRecDepth 100000
set_option linter.unusedSimpArgs false
set_option linter.unusedVariables false
mutual
def zga:Nat->PT->Int->Int
 | 0,_,_=>-1
 | d + 1,.mk _ nm _ _ ks,m=>if 60 < nm.length then -1 else zit d ks (m - 1)
def zit:Nat->List PT->Int->Int
 | _,[],m=>m
 | d,k :: ks,m=>if m < 0 then m else zit d ks (zga d k m)
end
mutual
theorem zo3:∀ (d:Nat) (x:PT) (m:Int),0<=m->-1<=zga d x m/\zga d x m < m
 | 0,x,m,h=>by rw [zga];omega
 | d + 1,.mk _ nm _ _ ks,m,h=>by
  rw [zga]
  split
  ·omega
  ·have:=zo4 d ks (m - 1) (by omega)
   omega
theorem zo4:∀ (d:Nat) (ks:List PT) (m:Int),-1<=m->-1<=zit d ks m/\zit d ks m<=m
 | d,[],m,h=>by rw [zit];omega
 | d,k :: ks,m,h=>by
  rw [zit]
  split
  ·omega
  ·have h1:=zo3 d k m (by omega)
   have:=zo4 d ks (zga d k m) h1.1
   omega
end
mutual
theorem zml:∀ (d:Nat) (x:PT) (m:Int),m<=1000->0<=zga d x m->zex x
 | 0,x,m,_,h=>by rw [zga] at h;omega
 | d + 1,.mk _ nm _ _ ks,m,hm,h=>by
  rw [zga] at h
  split at h
  ·omega
  ·have:=zqt d ks (m - 1) (by omega) h
   exact zfm (by omega) this.2
theorem zqt:∀ (d:Nat) (ks:List PT) (m:Int),m<=1000->0<=zit d ks m->(((ks.length:Nat):Int)<=m)/\ze2 ks
 | d,[],m,_,h=>by rw [zit] at h;exact ⟨by simpa using h,trivial⟩
 | d,k :: ks,m,hm,h=>by
  rw [zit] at h
  split at h
  ·omega
  ·rename_i h0;have h1:=zo3 d k m (by omega)
   have h2:=zqt d ks (zga d k m) (by omega) h
   have h3:=zo4 d ks (zga d k m) h1.1;refine ⟨by simp only [lLC];omega,?_⟩
   rw [ze2];exact ⟨zml d k m hm (by omega),h2.2⟩
end
structure RmI (ks:List PT) (d:Nat) (r:Int) (x:Int × List PT × Int):Prop where
 dr:ks.drop x.1.toNat=x.2.1
 i0:0<=x.1
 m0:-1<=x.2.2
 m1:x.1 + x.2.2<=1000
 i1:x.1 + ((x.2.1.length:Nat):Int)=((ks.length:Nat):Int)
 r:zit d x.2.1 x.2.2=r
set_option maxHeartbeats 4000000 in
theorem zt3:∀ (d:Nat) (x:PT) (m:Int),d<=1000->0<=m->m<=1000->V0 24 [.agg (zi6 x),pI m,pI d] (pI (zga d x m))
 | 0,x,m,_,h0,h1=>by
  rw [zga];obtain ⟨k,i,q,nm,R,hv⟩:=zjp x;rw [hv];obtain ⟨m2,hm2⟩:∃ i,m - 1=i:=⟨_,rfl⟩
  refine zez zbl Tryz.func24 rfl (by kernel_rfl) rfl (by kernel_rfl) fun P G E hc hE=>?_
  have ew:E.wsub .i64 m 1=m2:=by rw [hE,<- hm2];exact zac (by omega) (by omega)
  clear hc hE;cbv
  repeat (first|(simp only [ew];cbv)|simp only [ew])
 | d + 1,.mk k nm i o ks,m,hd,h0,h1=>by
  rw [zga,zi6];have ihk:∀ y ∈ ks,∀ m:Int,0<=m->m<=1000->V0 24 [.agg (zi6 y),pI m,pI d] (pI (zga d y m)):=fun y _ m a b=>zt3 d y m (by omega) a b
  obtain ⟨T,hT⟩:∃ T,bL nm=T:=⟨_,rfl⟩
  have hTs:((T.size:Nat):Int)=((nm.length:Nat):Int):=by rw [<-hT];rfl
  obtain ⟨tz,htz⟩:∃ z:Int,((nm.length:Nat):Int)=z:=⟨_,rfl⟩
  obtain ⟨dz,hdz⟩:∃ z:Int,(((d + 1:Nat):Nat):Int)=z:=⟨_,rfl⟩
  obtain ⟨ez,hez⟩:∃ z:Int,((d:Nat):Int)=z:=⟨_,rfl⟩
  obtain ⟨m2,hm2⟩:∃ i,m - 1=i:=⟨_,rfl⟩
  have hrl:=zgc ks;have hget:=zgd ks;obtain ⟨R,hR⟩:∃ R,zge ks=R:=⟨_,rfl⟩
  rw [hR] at hrl hget ⊢;rw [hT,hm2];simp only [hdz,hez] at ihk ⊢;have hd0:dz ≠ 0:=by omega
  by_cases hl:60 < nm.length
  ·rw [if_pos hl];refine zez zbl Tryz.func24 rfl (by kernel_rfl) rfl (by kernel_rfl) fun P G E hc hE=>?_
   have ew:E.wsub .i64 m 1=m2:=by rw [hE,<- hm2];exact zac (by omega) (by omega)
   have z1:E.size T=tz:=by rw [hE];show ((T.size:Nat):Int)=_;omega
   have d1:E.lti 60 tz=true:=by rw [hE];exact dT (by omega)
   have d2:decide (dz=0)=false:=dF hd0;clear hc hE;cbv
   repeat (first|(simp only [ew];cbv)|simp only [ew]|(simp only [d2];cbv)|simp only [d2]|(simp only [z1];cbv)|simp only [z1]|(simp only [d1];cbv)|simp only [d1])
  ·rw [if_neg hl];obtain ⟨r,hr⟩:∃ r,zit d ks m2=r:=⟨_,rfl⟩
   rw [hr];obtain ⟨μ,hμ⟩:∃ μ:Int × List PT × Int->Nat,∀ x,μ x=x.2.1.length:=⟨_,fun _=>rfl⟩
   obtain ⟨M,hM⟩:∃ M:Int,((R.length:Nat):Int)=M:=⟨_,rfl⟩
   refine zez zbl Tryz.func24 rfl (by kernel_rfl) rfl (by kernel_rfl) fun P G E hc hE=>?_
   have ew:E.wsub .i64 m 1=m2:=by rw [hE,<- hm2];exact zac (by omega) (by omega)
   have z1:E.size T=tz:=by rw [hE];show ((T.size:Nat):Int)=_;omega
   have d1:E.lti 60 tz=false:=by rw [hE];exact dF (by omega)
   have d2:decide (dz=0)=false:=dF hd0;have e1:E.wsub .i64 dz 1=ez:=by rw [hE,<- hdz,<- hez];exact (zac (by omega) (by omega)).trans (by omega)
   have l0:E.ofN R.length=M:=by rw [hE];exact hM
   have hst:RmI ks d r (0,ks,m2):=⟨rfl,Int.le_refl 0,show -1<=m2 by omega,show 0 + m2<=1000 by omega,by simp,hr⟩
   cbv at l0;cbv
   repeat (first|(simp only [ew];cbv)|simp only [ew]|(simp only [d2];cbv)|simp only [d2]|(simp only [z1];cbv)|simp only [z1]|(simp only [d1];cbv)|simp only [d1])
   refine za7 39 [1,2,3,6,7] 1 (fun x:Int × List PT × Int=>[.p (pI x.2.2),.p (pI dz),.own 0 0,.p (pI 0),.p (pI x.1)]) (fun _=>[some (.box [.p (pI k),.p (pS T),.p (pI i),.p (pI o),.p (.ro 5 R)] 27 none)]) (RmI ks d r) μ (0,ks,m2) ⟨rfl,rfl,rfl,rfl,rfl⟩ hst ?_
   rintro ⟨j,l,c⟩ hI
   obtain ⟨g1,g2,g3,g4,g5,g6⟩:=hI;simp only at g1 g2 g3 g4 g5 g6;replace hM:((R.length:Nat):Int)=M:=hM;replace g5:j + ((l.length:Nat):Int)=((ks.length:Nat):Int):=g5
   cases l with
   | nil =>
    have e0:c=r:=by rw [<-g6,zit]
    subst e0;have d3:E.lti j M=false:=by rw [hE];exact dF (by simp only [List.length_nil] at g5;omega)
    clear hc hE;cbv
    repeat (first|(simp only [l0];cbv)|simp only [l0]|(simp only [d3];cbv)|simp only [d3])
   | cons z l =>
    have d3:E.lti j M=true:=by rw [hE];exact dT (by simp only [lLC] at g5;omega)
    rcases (show c < 0\/0<=c by omega) with hc0|hc0
    ·have e0:c=r:=by rw [<-g6,zit,if_pos hc0]
     subst e0;have d4:E.lei 0 c=false:=by rw [hE];exact dF (by omega)
     clear hc hE;cbv
     repeat (first|(simp only [l0];cbv)|simp only [l0]|(simp only [d3];cbv)|simp only [d3]|(simp only [d4];cbv)|simp only [d4])
    ·have d4:E.lei 0 c=true:=by rw [hE];exact dT hc0
     have hz:ks[j.toNat]?=some z:=by
      have:=congrArg (fun r:List PT=>r[0]?) g1
      rw [List.getElem?_drop] at this;simpa using this
     have p0:E.ple 0 j:=by rw [hE];exact g2
     obtain ⟨k1,q1,o1,n1,K1,hv⟩:=zjp z;have r0:R[E.nat j]?=some [pI k1,pS n1,pI q1,pI o1,.ro 5 K1]:=by rw [hE];show R[j.toNat]?=_;rw [hget,hz,<- hv];rfl
     obtain ⟨j2,hj2⟩:∃ i2,j + 1=i2:=⟨_,rfl⟩
     have ea:E.wadd .i64 j 1=j2:=by rw [hE,<- hj2];exact zac (by omega) (by omega)
     have hcl:=ihk z (List.mem_of_getElem? hz) c hc0 (by omega)
     have hlt:=zo3 d z c hc0;obtain ⟨c2,hc2⟩:∃ y,zga d z c=y:=⟨_,rfl⟩
     rw [hc2] at hlt;rw [hv,hc2] at hcl;replace hcl:=hc _ _ _ hcl;have hx:RmI ks d r (j2,l,c2):=⟨by
      show ks.drop j2.toNat=l;rw [show j2.toNat=j.toNat + 1 by omega,<- lDD,g1]
      rfl,show 0<=j2 by omega,hlt.1,show j2 + c2<=1000 by omega,by show j2 + ((l.length:Nat):Int)=_;simp only [lLC] at g5;omega,by show zit d l c2=r;rw [<-g6,zit,if_neg (by omega),hc2]⟩
     have hmu:μ (j2,l,c2) < μ (j,z :: l,c):=by rw [hμ,hμ];show l.length < (z :: l).length;simp
     clear hc hE;cbv
     repeat (first|(simp only [l0];cbv)|simp only [l0]|(simp only [d3];cbv)|simp only [d3]|(simp only [d4];cbv)|simp only [d4]|(refine ⟨p0,_,r0,?_⟩;cbv)|(simp only [e1];cbv)|simp only [e1]|(refine ⟨_,hcl,?_⟩;cbv)|(simp only [ea];cbv)|simp only [ea])
     exact .mk _ ⟨rfl,rfl,rfl,rfl,rfl⟩ hx hmu
theorem zyv (n:Int) (hn:0<=n) (hn2:n<=1000) (x:PT):V0 13 [.agg (zi6 x),pI n] (pB (decide (0<=zga 60 x n))):=by
 have h:=zt3 60 x n (by decide) hn hn2
 obtain ⟨c,hc⟩:∃ c,zga 60 x n=c:=⟨_,rfl⟩
 rw [hc] at h ⊢;obtain ⟨k,i,q,nm,K,hv⟩:=zjp x;rw [hv] at h ⊢;obtain ⟨b,hb⟩:∃ b,decide (0<=c)=b:=⟨_,rfl⟩
 rw [hb];refine zez zbl Tryz.func13 rfl (by kernel_rfl) rfl (by kernel_rfl) fun P G E hc hE=>?_
 have h1:=hc _ _ _ h;have d1:E.lei 0 c=b:=by rw [hE];exact hb
 clear hc hE;cbv at h1;cbv
 repeat (first|(refine ⟨_,h1,?_⟩;cbv)|(simp only [d1];cbv)|simp only [d1])
end Go.Proofs.YtcfecmeocimclaaGreatDoor
