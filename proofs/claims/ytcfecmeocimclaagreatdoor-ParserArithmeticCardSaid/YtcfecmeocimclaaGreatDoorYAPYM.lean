/- Own work: ParserArithmetic returns true: the loop. -/
import Derived.Test.YtcfecmeocimclaaGreatDoorYAA0
import Derived.Test.YtcfecmeocimclaaGreatDoorYAPYL
namespace Go.Proofs.YtcfecmeocimclaaGreatDoor
set_option linter.unusedSimpArgs false
set_option linter.unusedVariables false
set_option linter.unusedSectionVars false
set_option maxRecDepth 100000
open Go.RowKit
theorem zn7 {u:Un} {d:Int} (h:u.neg=false) (hd:d=((u.d:Nat):Int)):(unA u).val=d:=by
 unfold unA;rw [h,hd];rfl
theorem zn6 {u:Un} {d:Int} (h:u.neg=true) (hd:d=((u.d:Nat):Int)):(unA u).val=-d:=by
 unfold unA;rw [h,hd];rfl
theorem unB0 {u:Un} (h:u.neg=false):unB u=[dgC u.d]:=by unfold unB;rw [h];rfl
theorem unB1 {u:Un} (h:u.neg=true):unB u=[45,dgC u.d]:=by unfold unB;rw [h];rfl
theorem zzs {x:Int} (h0:-1000<=x) (h1:x<=1000):IntKind.i64.wrap x=x:=zaf (by omega) (by omega)
theorem zkp {U:Nat->Un} {O:Nat->Nat} {i i2 t p t' p':Int} {tx T3:ByteArray} {j:Nat} (hI:ArI U O (i,tx,t,p)) (hj:j < 5) (hij:i.toNat=j + 1) (hi:i + 1=i2) (h:T3.data.toList=tx.data.toList++(32 :: opC (O j) :: 32 :: unB (U (j + 1))))
  (ht:t'=IntKind.i64.wrap (tpA U O (j + 2)).1) (hp:p'=IntKind.i64.wrap (tpA U O (j + 2)).2):ArI U O (i2,T3,t',p'):=by
 obtain ⟨i0,i1,htx,_,_⟩:=hI;simp only at i0 i1 htx;have e:i2.toNat=j + 2:=by omega
 refine ⟨show 0<=i2 by omega,show i2<=6 by omega,?_,by show t'=IntKind.i64.wrap (tpA U O i2.toNat).1;rw [e];exact ht,by show p'=IntKind.i64.wrap (tpA U O i2.toNat).2;rw [e];exact hp⟩
 show T3.data.toList=txA U O i2.toNat;rw [e,zz5 U O hj,h,htx,hij]
theorem z68 {k:Nat} (h:k<=2):k=0\/k=1\/k=2:=by omega
section
variable {n0 n1 n2 n3 n4 n5 o0 o1 o2 o3 o4 m:Int} {fN fO:Nat->Int} {O:Nat->Nat}
 (hN:∀ i,i < 6->∃ nv,[c8 n0,c8 n1,c8 n2,c8 n3,c8 n4,c8 n5][i]?=some (c8 nv)/\fN i=nv/\0<=nv)
 (hO:∀ i,i < 5->∃ ov,[c8 o0,c8 o1,c8 o2,c8 o3,c8 o4][i]?=some (c8 ov)/\ov.tmod 3=((O i:Nat):Int)/\O i<=2)
include hN hO
set_option maxHeartbeats 8000000 in
theorem z5u:Seg Tryz.prog GL 96 (Tryz.f4.body.getD .skip) (zfm zas tyT Tryz.f4.results.toList (pB true)) (([.agg [.v (.int .u8 n0),.v (.int .u8 n1),.v (.int .u8 n2),.v (.int .u8 n3),.v (.int .u8 n4),.v (.int .u8 n5)],.agg [.v (.int .u8 o0),.v (.int .u8 o1),.v (.int .u8 o2),.v (.int .u8 o3),.v (.int .u8 o4)],.v (.int .u8 m)]:List PV).map .p++List.replicate (96 - 3) (.p (.v undef))) []:=by
 refine Seg.cutK 5 96 [6,7,8,9] 0 (fun y:ByteArray × Int × Int=>[.p (pB false),.p (pS y.1),.p (pI y.2.1),.p (pI y.2.2)]) (fun _=>[]) (fun y=>ArI (arU m fN) O (6,y)) zaa mixed (fun n=>match n with|16=>11|_=>0) (fun E=>zfm E tyT Tryz.f4.results.toList (pB true)) (by kernel_rfl) ?_ ?_
 ·intro P G E hc hM hE;have h1:=hc _ _ _ zzb;obtain ⟨μ,hμ⟩:∃ μ:Int->Nat,∀ x,μ x=6 - x.toNat:=⟨_,fun _=>rfl⟩
  have hI0:ArI (arU m fN) O (0,⟨#[]⟩,0,0):=⟨Int.le_refl 0,by decide,rfl,(zzs (by decide) (by decide)).symm,(zzs (by decide) (by decide)).symm⟩
  cbv
  repeat (first|(refine ⟨_,h1,?_⟩;cbv))
  refine zbs 96 [2,3,4,6,7,8,9,10] 2 (fun x:Int × ByteArray × Int × Int=>[c8 m,.own 0 0,.own 1 0,.p (pB false),.p (pS x.2.1),.p (pI x.2.2.1),.p (pI x.2.2.2),.p (pI x.1)]) (fun _=>arH n0 n1 n2 n3 n4 n5 o0 o1 o2 o3 o4) (ArI (arU m fN) O) (fun x=>μ x.1) (0,⟨#[]⟩,0,0) ⟨rfl,rfl,rfl,rfl,rfl⟩ hI0 ?_
  rintro ⟨i,tx,t,p⟩ hI
  obtain ⟨i0,i1,ht,hT,hP⟩:=id hI;simp only at i0 i1 ht hT hP
  rcases (show i=6\/i < 6 by omega) with h6|h6
  ·subst h6;have l6:E.lti 6 6=false:=by rw [hE];rfl
   clear hc hM hE hN hO ht hT hP;cbv
   repeat (first|(simp only [l6];cbv)|simp only [l6])
   exact .mk (tx,t,p) ⟨rfl,rfl,rfl,rfl,rfl⟩ hI
  ·obtain ⟨nv,hn1,hn2,hn3⟩:=hN i.toNat (by omega)
   obtain ⟨d,d1,y,bt,ng,dB,F⟩:=arF hE (m:=m) i0 h6 hn1 hn2 hn3;obtain ⟨p0,p1,r0,dg,cv,sh,bd,b1,ad,q0,q1,q2,ex,dd,d9,ne,db⟩:=id F;have hd0:0<=d/\d<=9:=by omega
   have hds:dB.size=1:=by show dB.data.toList.length=1;rw [db];rfl
   have hts:tx.size<=100:=by show tx.data.toList.length<=100;rw [ht];exact zwn _ _ _
   have l6:E.lti i 6=true:=by rw [hE];exact dT h6
   obtain ⟨i2,hi2⟩:∃ x,i + 1=x:=⟨_,rfl⟩
   have wi:E.wadd .i64 i 1=i2:=by rw [hE,<- hi2];exact zaf (by omega) (by omega)
   have hmu:μ i2 < μ i:=by rw [hμ,hμ];omega
   obtain ⟨hd0,hd1⟩:=hd0
   rcases (show i=0\/0 < i by omega) with hi0|hi0
   ·cases ng with
    | false =>
     subst hi0;have d0:E.lti 0 0=false:=by rw [hE];rfl
     have s1:E.eq ⟨#[43]⟩ ⟨#[42]⟩=false:=by rw [hE];show decide ((⟨#[43]⟩:ByteArray)=⟨#[42]⟩)=false;decide
     have s2:E.eq ⟨#[43]⟩ ⟨#[45]⟩=false:=by rw [hE];show decide ((⟨#[43]⟩:ByteArray)=⟨#[45]⟩)=false;decide
     obtain ⟨t2,ht2⟩:∃ x,IntKind.i64.wrap (t + p)=x:=⟨_,rfl⟩
     have wa:E.wadd .i64 t p=t2:=by rw [hE];exact ht2
     obtain ⟨T3,c3,e3,l3,z3⟩:=zbn hE (a:=tx) (b:=dB) (by omega) (by omega)
     have hv:=zn7 ne dd;have hu:=unB0 ne;have hx:ArI (arU m fN) O (i2,T3,t2,d):=⟨by omega,by omega,by
      show T3.data.toList=txA _ _ i2.toNat;rw [l3,ht,db,<- hi2];show _=unB (arU m fN 0)++[];rw [List.append_nil];exact hu.symm,by
      show t2=IntKind.i64.wrap (tpA _ _ i2.toNat).1;rw [<-hi2,<- ht2,hT,hP,zna];rfl,by
      show d=IntKind.i64.wrap (tpA _ _ i2.toNat).2;rw [<-hi2];show d=IntKind.i64.wrap (unA (arU m fN 0)).val;have hv2:(unA (arU m fN 0)).val=d:=hv;rw [hv2,zzs (by omega) (by omega)]⟩
     clear hc hM hE hN hO F ht hT hP ne db dd hv hu;cbv at r0;cbv
     repeat (first|(simp only [l6];cbv)|simp only [l6]|(refine ⟨p0,p1,?_⟩;cbv)|(simp only [r0];cbv)|simp only [r0]|(simp only [dg];cbv)|simp only [dg]|(simp only [cv];cbv)|simp only [cv]|(simp only [d0];cbv)|simp only [d0]|(simp only [sh];cbv)|simp only [sh]|(simp only [bd];cbv)|simp only [bd]|(simp only [b1];cbv)|simp only [b1]|(simp only [ad];cbv)|simp only [ad]|(refine ⟨q0,q1,q2,?_⟩;cbv)|(simp only [ex];cbv)|simp only [ex]|(refine ⟨c3,?_⟩;cbv)|(simp only [e3];cbv)|simp only [e3]|(simp only [s1];cbv)|simp only [s1]|(simp only [s2];cbv)|simp only [s2]|(simp only [wa];cbv)|simp only [wa]|(simp only [wi];cbv)|simp only [wi])
     repeat (refine ⟨by assumption,?_⟩)
     exact .mk _ ⟨rfl,rfl,rfl,rfl,rfl⟩ hx hmu
    | true =>
     subst hi0;have d0:E.lti 0 0=false:=by rw [hE];rfl
     have s1:E.eq ⟨#[43]⟩ ⟨#[42]⟩=false:=by rw [hE];show decide ((⟨#[43]⟩:ByteArray)=⟨#[42]⟩)=false;decide
     have s2:E.eq ⟨#[43]⟩ ⟨#[45]⟩=false:=by rw [hE];show decide ((⟨#[43]⟩:ByteArray)=⟨#[45]⟩)=false;decide
     obtain ⟨t2,ht2⟩:∃ x,IntKind.i64.wrap (t + p)=x:=⟨_,rfl⟩
     have wa:E.wadd .i64 t p=t2:=by rw [hE];exact ht2
     obtain ⟨T2,c2,e2,l2,z2⟩:=zbn hE (a:=tx) (b:=⟨#[45]⟩) (by omega) (by show 1<=1000;decide)
     have z2':T2.size=tx.size + 1:=z2;obtain ⟨T3,c3,e3,l3,z3⟩:=zbn hE (a:=T2) (b:=dB) (by omega) (by omega)
     obtain ⟨nd,hnd⟩:∃ x:Int,-d=x:=⟨_,rfl⟩
     have w2:E.wsub .i64 0 d=nd:=by rw [hE,<- hnd];exact (zaf (by omega) (by omega)).trans (by omega)
     have hv:=zn6 ne dd;have hu:=unB1 ne;have hx:ArI (arU m fN) O (i2,T3,t2,nd):=⟨by omega,by omega,by
      show T3.data.toList=txA _ _ i2.toNat;rw [l3,l2,ht,db,<- hi2];show _=unB (arU m fN 0)++[];rw [List.append_nil];exact hu.symm,by
      show t2=IntKind.i64.wrap (tpA _ _ i2.toNat).1;rw [<-hi2,<- ht2,hT,hP,zna];rfl,by
      show nd=IntKind.i64.wrap (tpA _ _ i2.toNat).2;rw [<-hi2];show nd=IntKind.i64.wrap (unA (arU m fN 0)).val;have hv2:(unA (arU m fN 0)).val=-d:=hv;rw [hv2,zzs (by omega) (by omega),hnd]⟩
     clear hc hM hE hN hO F ht hT hP ne db dd hv hu;cbv at r0;cbv
     repeat (first|(simp only [l6];cbv)|simp only [l6]|(refine ⟨p0,p1,?_⟩;cbv)|(simp only [r0];cbv)|simp only [r0]|(simp only [dg];cbv)|simp only [dg]|(simp only [cv];cbv)|simp only [cv]|(simp only [d0];cbv)|simp only [d0]|(simp only [sh];cbv)|simp only [sh]|(simp only [bd];cbv)|simp only [bd]|(simp only [b1];cbv)|simp only [b1]|(refine ⟨c2,?_⟩;cbv)|(simp only [e2];cbv)|simp only [e2]|(simp only [w2];cbv)|simp only [w2]|(simp only [ad];cbv)|simp only [ad]|(refine ⟨q0,q1,q2,?_⟩;cbv)|(simp only [ex];cbv)|simp only [ex]|(refine ⟨c3,?_⟩;cbv)|(simp only [e3];cbv)|simp only [e3]|(simp only [s1];cbv)|simp only [s1]|(simp only [s2];cbv)|simp only [s2]|(simp only [wa];cbv)|simp only [wa]|(simp only [wi];cbv)|simp only [wi])
     repeat (refine ⟨by assumption,?_⟩)
     exact .mk _ ⟨rfl,rfl,rfl,rfl,rfl⟩ hx hmu
   ·have hj0:=hi0;obtain ⟨j,hj⟩:∃ j:Nat,i.toNat=j + 1:=⟨i.toNat - 1,by omega⟩
    obtain ⟨ov,hv1,hv2,hv3⟩:=hO j (by omega)
    obtain ⟨im,him⟩:∃ x,i - 1=x:=⟨_,rfl⟩
    have wm:E.wsub .i64 i 1=im:=by rw [hE,<- him];exact zaf (by omega) (by omega)
    have r5:[c8 o0,c8 o1,c8 o2,c8 o3,c8 o4][E.addN 0 (E.nat im)]?=some (c8 ov):=by
     rw [hE];show [c8 o0,c8 o1,c8 o2,c8 o3,c8 o4][0 + im.toNat]?=_;rw [Nat.zero_add,show im.toNat=j by omega,hv1]
    have p5:E.plt im (E.ofN 5):=by rw [hE];show im < 5;omega
    have p6:E.ple 0 im:=by rw [hE];show 0<=im;omega
    have d0:E.lti 0 i=true:=by rw [hE];exact dT hi0
    have hst:=zz7 (arU m fN) O (j:=j) (by omega)
    have hT':t=IntKind.i64.wrap (tpA (arU m fN) O (j + 1)).1:=by rw [hT,hj]
    have hP':p=IntKind.i64.wrap (tpA (arU m fN) O (j + 1)).2:=by rw [hP,hj]
    have hUj:arU m fN i.toNat=arU m fN (j + 1):=by rw [hj]
    rw [hUj] at dd d9 ne db;clear hT hP hj0
    rcases z68 hv3 with ho|ho|ho
    ·have hI1:=hI;have om:E.rem ov 3=0:=by rw [hE];show ov.tmod 3=0;rw [hv2,ho];rfl
     have p7:E.ple 0 0:=by rw [hE];show (0:Int)<=0;decide
     have p8:E.plt 0 (E.ofN 3):=by rw [hE];show (0:Int) < 3;decide
     have r6:([[.v (.string ⟨#[43]⟩)],[.v (.string ⟨#[45]⟩)],[.v (.string ⟨#[42]⟩)]]:List (List PV))[E.addN 0 (E.nat 0)]?=some [.v (.string ⟨#[43]⟩)]:=by rw [hE];rfl
     obtain ⟨A1,ca,ea,la,za⟩:=zbn hE (a:=⟨#[32]⟩) (b:=⟨#[43]⟩) (by decide) (by decide)
     have za':A1.size=2:=za;obtain ⟨A2,cb,eb,lb,zb⟩:=zbn hE (a:=A1) (b:=⟨#[32]⟩) (by omega) (by decide)
     have zb':A2.size=3:=by rw [zb,za'];rfl
     obtain ⟨T1,cc,ec,lc,zc⟩:=zbn hE (a:=tx) (b:=A2) (by omega) (by omega)
     have s1:E.eq ⟨#[43]⟩ ⟨#[42]⟩=false:=by rw [hE];show decide ((⟨#[43]⟩:ByteArray)=⟨#[42]⟩)=false;decide
     have s2:E.eq ⟨#[43]⟩ ⟨#[45]⟩=false:=by rw [hE];show decide ((⟨#[43]⟩:ByteArray)=⟨#[45]⟩)=false;decide
     have lt1:T1.data.toList=tx.data.toList++[32,opC (O j),32]:=by rw [lc,lb,la,ho];rfl
     rw [ho] at hst;obtain ⟨t2,ht2⟩:∃ x,IntKind.i64.wrap (t + p)=x:=⟨_,rfl⟩
     have wa:E.wadd .i64 t p=t2:=by rw [hE];exact ht2
     have hts2:t2=IntKind.i64.wrap (tpA (arU m fN) O (j + 2)).1:=by rw [hst,<- ht2,hT',hP',zna];rfl
     cases ng with
     | false =>
      obtain ⟨T3,c3,e3,l3,z3⟩:=zbn hE (a:=T1) (b:=dB) (by omega) (by omega)
      have hv:=zn7 ne dd;have hu:=unB0 ne;have lt3:T3.data.toList=tx.data.toList++(32 :: opC (O j) :: 32 :: unB (arU m fN (j + 1))):=by rw [l3,lt1,db,hu,List.append_assoc];rfl
      have hx:ArI (arU m fN) O (i2,T3,t2,d):=zkp hI (by omega) hj hi2 lt3 hts2 (by rw [hst];show d=IntKind.i64.wrap (unA (arU m fN (j + 1))).val;rw [hv,zzs (by omega) (by omega)])
      clear hc hM hE hN hO F ht hT' hP' hst ne db dd hv hu lt1 lt3 ho hv1 hv2 hv3 hj him la lb lc l3 hI hUj;cbv at r0;cbv at r5;cbv
      repeat (first|(simp only [l6];cbv)|simp only [l6]|(refine ⟨p0,p1,?_⟩;cbv)|(simp only [r0];cbv)|simp only [r0]|(simp only [dg];cbv)|simp only [dg]|(simp only [cv];cbv)|simp only [cv]|(simp only [d0];cbv)|simp only [d0]|(simp only [wm];cbv)|simp only [wm]|(refine ⟨p6,p5,?_⟩;cbv)|(simp only [r5];cbv)|simp only [r5]|(simp only [om];cbv)|simp only [om]|(refine ⟨p7,p8,?_⟩;cbv)|(refine ⟨rfl,p7,p8,?_⟩;cbv)|(refine ⟨_,r6,?_⟩;cbv)|(refine ⟨ca,?_⟩;cbv)|(simp only [ea];cbv)|simp only [ea]|(refine ⟨cb,?_⟩;cbv)|(simp only [eb];cbv)|simp only [eb]|(refine ⟨cc,?_⟩;cbv)|(simp only [ec];cbv)|simp only [ec]|(simp only [sh];cbv)|simp only [sh]|(simp only [bd];cbv)|simp only [bd]|(simp only [b1];cbv)|simp only [b1]|(simp only [ad];cbv)|simp only [ad]|(refine ⟨q0,q1,q2,?_⟩;cbv)|(simp only [ex];cbv)|simp only [ex]|(refine ⟨c3,?_⟩;cbv)|(simp only [e3];cbv)|simp only [e3]|(simp only [s1];cbv)|simp only [s1]|(simp only [s2];cbv)|simp only [s2]|(simp only [wa];cbv)|simp only [wa]|(simp only [w3];cbv)|simp only [w3]|(simp only [wp];cbv)|simp only [wp]|(simp only [wi];cbv)|simp only [wi])
      repeat (refine ⟨by assumption,?_⟩)
      exact .mk _ ⟨rfl,rfl,rfl,rfl,rfl⟩ hx hmu
     | true =>
      obtain ⟨T2,c2,e2,l2,z2⟩:=zbn hE (a:=T1) (b:=⟨#[45]⟩) (by omega) (by show 1<=1000;decide)
      have z2':T2.size=T1.size + 1:=z2;obtain ⟨T3,c3,e3,l3,z3⟩:=zbn hE (a:=T2) (b:=dB) (by omega) (by omega)
      obtain ⟨nd,hnd⟩:∃ x:Int,-d=x:=⟨_,rfl⟩
      have w2:E.wsub .i64 0 d=nd:=by rw [hE,<- hnd];exact (zaf (by omega) (by omega)).trans (by omega)
      have hv:=zn6 ne dd;have hu:=unB1 ne;have lt3:T3.data.toList=tx.data.toList++(32 :: opC (O j) :: 32 :: unB (arU m fN (j + 1))):=by rw [l3,l2,lt1,db,hu,List.append_assoc,List.append_assoc];rfl
      have hx:ArI (arU m fN) O (i2,T3,t2,nd):=zkp hI (by omega) hj hi2 lt3 hts2 (by rw [hst];show nd=IntKind.i64.wrap (unA (arU m fN (j + 1))).val;rw [hv,zzs (by omega) (by omega),hnd])
      clear hc hM hE hN hO F ht hT' hP' hst ne db dd hv hu lt1 lt3 ho hv1 hv2 hv3 hj him la lb lc l3 hI hUj;cbv at r0;cbv at r5;cbv
      repeat (first|(simp only [l6];cbv)|simp only [l6]|(refine ⟨p0,p1,?_⟩;cbv)|(simp only [r0];cbv)|simp only [r0]|(simp only [dg];cbv)|simp only [dg]|(simp only [cv];cbv)|simp only [cv]|(simp only [d0];cbv)|simp only [d0]|(simp only [wm];cbv)|simp only [wm]|(refine ⟨p6,p5,?_⟩;cbv)|(simp only [r5];cbv)|simp only [r5]|(simp only [om];cbv)|simp only [om]|(refine ⟨p7,p8,?_⟩;cbv)|(refine ⟨rfl,p7,p8,?_⟩;cbv)|(refine ⟨_,r6,?_⟩;cbv)|(refine ⟨ca,?_⟩;cbv)|(simp only [ea];cbv)|simp only [ea]|(refine ⟨cb,?_⟩;cbv)|(simp only [eb];cbv)|simp only [eb]|(refine ⟨cc,?_⟩;cbv)|(simp only [ec];cbv)|simp only [ec]|(simp only [sh];cbv)|simp only [sh]|(simp only [bd];cbv)|simp only [bd]|(simp only [b1];cbv)|simp only [b1]|(refine ⟨c2,?_⟩;cbv)|(simp only [e2];cbv)|simp only [e2]|(simp only [w2];cbv)|simp only [w2]|(simp only [ad];cbv)|simp only [ad]|(refine ⟨q0,q1,q2,?_⟩;cbv)|(simp only [ex];cbv)|simp only [ex]|(refine ⟨c3,?_⟩;cbv)|(simp only [e3];cbv)|simp only [e3]|(simp only [s1];cbv)|simp only [s1]|(simp only [s2];cbv)|simp only [s2]|(simp only [wa];cbv)|simp only [wa]|(simp only [w3];cbv)|simp only [w3]|(simp only [wp];cbv)|simp only [wp]|(simp only [wi];cbv)|simp only [wi])
      repeat (refine ⟨by assumption,?_⟩)
      exact .mk _ ⟨rfl,rfl,rfl,rfl,rfl⟩ hx hmu
    ·have hI1:=hI;have om:E.rem ov 3=1:=by rw [hE];show ov.tmod 3=1;rw [hv2,ho];rfl
     have p7:E.ple 0 1:=by rw [hE];show (0:Int)<=1;decide
     have p8:E.plt 1 (E.ofN 3):=by rw [hE];show (1:Int) < 3;decide
     have r6:([[.v (.string ⟨#[43]⟩)],[.v (.string ⟨#[45]⟩)],[.v (.string ⟨#[42]⟩)]]:List (List PV))[E.addN 0 (E.nat 1)]?=some [.v (.string ⟨#[45]⟩)]:=by rw [hE];rfl
     obtain ⟨A1,ca,ea,la,za⟩:=zbn hE (a:=⟨#[32]⟩) (b:=⟨#[45]⟩) (by decide) (by decide)
     have za':A1.size=2:=za;obtain ⟨A2,cb,eb,lb,zb⟩:=zbn hE (a:=A1) (b:=⟨#[32]⟩) (by omega) (by decide)
     have zb':A2.size=3:=by rw [zb,za'];rfl
     obtain ⟨T1,cc,ec,lc,zc⟩:=zbn hE (a:=tx) (b:=A2) (by omega) (by omega)
     have s1:E.eq ⟨#[45]⟩ ⟨#[42]⟩=false:=by rw [hE];show decide ((⟨#[45]⟩:ByteArray)=⟨#[42]⟩)=false;decide
     have s2:E.eq ⟨#[45]⟩ ⟨#[45]⟩=true:=by rw [hE];show decide ((⟨#[45]⟩:ByteArray)=⟨#[45]⟩)=true;decide
     have lt1:T1.data.toList=tx.data.toList++[32,opC (O j),32]:=by rw [lc,lb,la,ho];rfl
     rw [ho] at hst;obtain ⟨t2,ht2⟩:∃ x,IntKind.i64.wrap (t + p)=x:=⟨_,rfl⟩
     have wa:E.wadd .i64 t p=t2:=by rw [hE];exact ht2
     have hts2:t2=IntKind.i64.wrap (tpA (arU m fN) O (j + 2)).1:=by rw [hst,<- ht2,hT',hP',zna];rfl
     cases ng with
     | false =>
      obtain ⟨T3,c3,e3,l3,z3⟩:=zbn hE (a:=T1) (b:=dB) (by omega) (by omega)
      have hv:=zn7 ne dd;have hu:=unB0 ne;have lt3:T3.data.toList=tx.data.toList++(32 :: opC (O j) :: 32 :: unB (arU m fN (j + 1))):=by rw [l3,lt1,db,hu,List.append_assoc];rfl
      obtain ⟨mm,hmm⟩:∃ x:Int,-d=x:=⟨_,rfl⟩
      have w3:E.wsub .i64 0 d=mm:=by rw [hE,<- hmm];exact (zaf (by omega) (by omega)).trans (by omega)
      have hx:ArI (arU m fN) O (i2,T3,t2,mm):=zkp hI (by omega) hj hi2 lt3 hts2 (by rw [hst];show mm=IntKind.i64.wrap (-(unA (arU m fN (j + 1))).val);rw [hv,zzs (by omega) (by omega),hmm])
      clear hc hM hE hN hO F ht hT' hP' hst ne db dd hv hu lt1 lt3 ho hv1 hv2 hv3 hj him la lb lc l3 hI hUj;cbv at r0;cbv at r5;cbv
      repeat (first|(simp only [l6];cbv)|simp only [l6]|(refine ⟨p0,p1,?_⟩;cbv)|(simp only [r0];cbv)|simp only [r0]|(simp only [dg];cbv)|simp only [dg]|(simp only [cv];cbv)|simp only [cv]|(simp only [d0];cbv)|simp only [d0]|(simp only [wm];cbv)|simp only [wm]|(refine ⟨p6,p5,?_⟩;cbv)|(simp only [r5];cbv)|simp only [r5]|(simp only [om];cbv)|simp only [om]|(refine ⟨p7,p8,?_⟩;cbv)|(refine ⟨rfl,p7,p8,?_⟩;cbv)|(refine ⟨_,r6,?_⟩;cbv)|(refine ⟨ca,?_⟩;cbv)|(simp only [ea];cbv)|simp only [ea]|(refine ⟨cb,?_⟩;cbv)|(simp only [eb];cbv)|simp only [eb]|(refine ⟨cc,?_⟩;cbv)|(simp only [ec];cbv)|simp only [ec]|(simp only [sh];cbv)|simp only [sh]|(simp only [bd];cbv)|simp only [bd]|(simp only [b1];cbv)|simp only [b1]|(simp only [ad];cbv)|simp only [ad]|(refine ⟨q0,q1,q2,?_⟩;cbv)|(simp only [ex];cbv)|simp only [ex]|(refine ⟨c3,?_⟩;cbv)|(simp only [e3];cbv)|simp only [e3]|(simp only [s1];cbv)|simp only [s1]|(simp only [s2];cbv)|simp only [s2]|(simp only [wa];cbv)|simp only [wa]|(simp only [w3];cbv)|simp only [w3]|(simp only [wp];cbv)|simp only [wp]|(simp only [wi];cbv)|simp only [wi])
      repeat (refine ⟨by assumption,?_⟩)
      exact .mk _ ⟨rfl,rfl,rfl,rfl,rfl⟩ hx hmu
     | true =>
      obtain ⟨T2,c2,e2,l2,z2⟩:=zbn hE (a:=T1) (b:=⟨#[45]⟩) (by omega) (by show 1<=1000;decide)
      have z2':T2.size=T1.size + 1:=z2;obtain ⟨T3,c3,e3,l3,z3⟩:=zbn hE (a:=T2) (b:=dB) (by omega) (by omega)
      obtain ⟨nd,hnd⟩:∃ x:Int,-d=x:=⟨_,rfl⟩
      have w2:E.wsub .i64 0 d=nd:=by rw [hE,<- hnd];exact (zaf (by omega) (by omega)).trans (by omega)
      have hv:=zn6 ne dd;have hu:=unB1 ne;have lt3:T3.data.toList=tx.data.toList++(32 :: opC (O j) :: 32 :: unB (arU m fN (j + 1))):=by rw [l3,l2,lt1,db,hu,List.append_assoc,List.append_assoc];rfl
      have w3:E.wsub .i64 0 nd=d:=by rw [hE];exact (zaf (by omega) (by omega)).trans (by omega)
      have hx:ArI (arU m fN) O (i2,T3,t2,d):=zkp hI (by omega) hj hi2 lt3 hts2 (by rw [hst];show d=IntKind.i64.wrap (-(unA (arU m fN (j + 1))).val);rw [hv,zzs (by omega) (by omega)];omega)
      clear hc hM hE hN hO F ht hT' hP' hst ne db dd hv hu lt1 lt3 ho hv1 hv2 hv3 hj him la lb lc l3 hI hUj;cbv at r0;cbv at r5;cbv
      repeat (first|(simp only [l6];cbv)|simp only [l6]|(refine ⟨p0,p1,?_⟩;cbv)|(simp only [r0];cbv)|simp only [r0]|(simp only [dg];cbv)|simp only [dg]|(simp only [cv];cbv)|simp only [cv]|(simp only [d0];cbv)|simp only [d0]|(simp only [wm];cbv)|simp only [wm]|(refine ⟨p6,p5,?_⟩;cbv)|(simp only [r5];cbv)|simp only [r5]|(simp only [om];cbv)|simp only [om]|(refine ⟨p7,p8,?_⟩;cbv)|(refine ⟨rfl,p7,p8,?_⟩;cbv)|(refine ⟨_,r6,?_⟩;cbv)|(refine ⟨ca,?_⟩;cbv)|(simp only [ea];cbv)|simp only [ea]|(refine ⟨cb,?_⟩;cbv)|(simp only [eb];cbv)|simp only [eb]|(refine ⟨cc,?_⟩;cbv)|(simp only [ec];cbv)|simp only [ec]|(simp only [sh];cbv)|simp only [sh]|(simp only [bd];cbv)|simp only [bd]|(simp only [b1];cbv)|simp only [b1]|(refine ⟨c2,?_⟩;cbv)|(simp only [e2];cbv)|simp only [e2]|(simp only [w2];cbv)|simp only [w2]|(simp only [ad];cbv)|simp only [ad]|(refine ⟨q0,q1,q2,?_⟩;cbv)|(simp only [ex];cbv)|simp only [ex]|(refine ⟨c3,?_⟩;cbv)|(simp only [e3];cbv)|simp only [e3]|(simp only [s1];cbv)|simp only [s1]|(simp only [s2];cbv)|simp only [s2]|(simp only [wa];cbv)|simp only [wa]|(simp only [w3];cbv)|simp only [w3]|(simp only [wp];cbv)|simp only [wp]|(simp only [wi];cbv)|simp only [wi])
      repeat (refine ⟨by assumption,?_⟩)
      exact .mk _ ⟨rfl,rfl,rfl,rfl,rfl⟩ hx hmu
    ·have hI1:=hI;have om:E.rem ov 3=2:=by rw [hE];show ov.tmod 3=2;rw [hv2,ho];rfl
     have p7:E.ple 0 2:=by rw [hE];show (0:Int)<=2;decide
     have p8:E.plt 2 (E.ofN 3):=by rw [hE];show (2:Int) < 3;decide
     have r6:([[.v (.string ⟨#[43]⟩)],[.v (.string ⟨#[45]⟩)],[.v (.string ⟨#[42]⟩)]]:List (List PV))[E.addN 0 (E.nat 2)]?=some [.v (.string ⟨#[42]⟩)]:=by rw [hE];rfl
     obtain ⟨A1,ca,ea,la,za⟩:=zbn hE (a:=⟨#[32]⟩) (b:=⟨#[42]⟩) (by decide) (by decide)
     have za':A1.size=2:=za;obtain ⟨A2,cb,eb,lb,zb⟩:=zbn hE (a:=A1) (b:=⟨#[32]⟩) (by omega) (by decide)
     have zb':A2.size=3:=by rw [zb,za'];rfl
     obtain ⟨T1,cc,ec,lc,zc⟩:=zbn hE (a:=tx) (b:=A2) (by omega) (by omega)
     have s1:E.eq ⟨#[42]⟩ ⟨#[42]⟩=true:=by rw [hE];show decide ((⟨#[42]⟩:ByteArray)=⟨#[42]⟩)=true;decide
     have s2:E.eq ⟨#[42]⟩ ⟨#[45]⟩=false:=by rw [hE];show decide ((⟨#[42]⟩:ByteArray)=⟨#[45]⟩)=false;decide
     have lt1:T1.data.toList=tx.data.toList++[32,opC (O j),32]:=by rw [lc,lb,la,ho];rfl
     rw [ho] at hst
     cases ng with
     | false =>
      obtain ⟨T3,c3,e3,l3,z3⟩:=zbn hE (a:=T1) (b:=dB) (by omega) (by omega)
      have hv:=zn7 ne dd;have hu:=unB0 ne;have lt3:T3.data.toList=tx.data.toList++(32 :: opC (O j) :: 32 :: unB (arU m fN (j + 1))):=by rw [l3,lt1,db,hu,List.append_assoc];rfl
      obtain ⟨mm,hmm⟩:∃ x:Int,IntKind.i64.wrap (p * d)=x:=⟨_,rfl⟩
      have wp:E.wmul .i64 p d=mm:=by rw [hE];exact hmm
      have hx:ArI (arU m fN) O (i2,T3,t,mm):=zkp hI (by omega) hj hi2 lt3 (by rw [hst];exact hT') (by rw [hst];show mm=IntKind.i64.wrap ((tpA (arU m fN) O (j + 1)).2 * (unA (arU m fN (j + 1))).val);rw [<-zv8,hv,<- hP',zzs (x:=d) (by omega) (by omega),hmm])
      clear hc hM hE hN hO F ht hT' hP' hst ne db dd hv hu lt1 lt3 ho hv1 hv2 hv3 hj him la lb lc l3 hI hUj;cbv at r0;cbv at r5;cbv
      repeat (first|(simp only [l6];cbv)|simp only [l6]|(refine ⟨p0,p1,?_⟩;cbv)|(simp only [r0];cbv)|simp only [r0]|(simp only [dg];cbv)|simp only [dg]|(simp only [cv];cbv)|simp only [cv]|(simp only [d0];cbv)|simp only [d0]|(simp only [wm];cbv)|simp only [wm]|(refine ⟨p6,p5,?_⟩;cbv)|(simp only [r5];cbv)|simp only [r5]|(simp only [om];cbv)|simp only [om]|(refine ⟨p7,p8,?_⟩;cbv)|(refine ⟨rfl,p7,p8,?_⟩;cbv)|(refine ⟨_,r6,?_⟩;cbv)|(refine ⟨ca,?_⟩;cbv)|(simp only [ea];cbv)|simp only [ea]|(refine ⟨cb,?_⟩;cbv)|(simp only [eb];cbv)|simp only [eb]|(refine ⟨cc,?_⟩;cbv)|(simp only [ec];cbv)|simp only [ec]|(simp only [sh];cbv)|simp only [sh]|(simp only [bd];cbv)|simp only [bd]|(simp only [b1];cbv)|simp only [b1]|(simp only [ad];cbv)|simp only [ad]|(refine ⟨q0,q1,q2,?_⟩;cbv)|(simp only [ex];cbv)|simp only [ex]|(refine ⟨c3,?_⟩;cbv)|(simp only [e3];cbv)|simp only [e3]|(simp only [s1];cbv)|simp only [s1]|(simp only [s2];cbv)|simp only [s2]|(simp only [wa];cbv)|simp only [wa]|(simp only [w3];cbv)|simp only [w3]|(simp only [wp];cbv)|simp only [wp]|(simp only [wi];cbv)|simp only [wi])
      repeat (refine ⟨by assumption,?_⟩)
      exact .mk _ ⟨rfl,rfl,rfl,rfl,rfl⟩ hx hmu
     | true =>
      obtain ⟨T2,c2,e2,l2,z2⟩:=zbn hE (a:=T1) (b:=⟨#[45]⟩) (by omega) (by show 1<=1000;decide)
      have z2':T2.size=T1.size + 1:=z2;obtain ⟨T3,c3,e3,l3,z3⟩:=zbn hE (a:=T2) (b:=dB) (by omega) (by omega)
      obtain ⟨nd,hnd⟩:∃ x:Int,-d=x:=⟨_,rfl⟩
      have w2:E.wsub .i64 0 d=nd:=by rw [hE,<- hnd];exact (zaf (by omega) (by omega)).trans (by omega)
      have hv:=zn6 ne dd;have hu:=unB1 ne;have lt3:T3.data.toList=tx.data.toList++(32 :: opC (O j) :: 32 :: unB (arU m fN (j + 1))):=by rw [l3,l2,lt1,db,hu,List.append_assoc,List.append_assoc];rfl
      obtain ⟨mm,hmm⟩:∃ x:Int,IntKind.i64.wrap (p * nd)=x:=⟨_,rfl⟩
      have wp:E.wmul .i64 p nd=mm:=by rw [hE];exact hmm
      have hx:ArI (arU m fN) O (i2,T3,t,mm):=zkp hI (by omega) hj hi2 lt3 (by rw [hst];exact hT') (by rw [hst];show mm=IntKind.i64.wrap ((tpA (arU m fN) O (j + 1)).2 * (unA (arU m fN (j + 1))).val);rw [<-zv8,hv,<- hP',zzs (x:=-d) (by omega) (by omega),hnd,hmm])
      clear hc hM hE hN hO F ht hT' hP' hst ne db dd hv hu lt1 lt3 ho hv1 hv2 hv3 hj him la lb lc l3 hI hUj;cbv at r0;cbv at r5;cbv
      repeat (first|(simp only [l6];cbv)|simp only [l6]|(refine ⟨p0,p1,?_⟩;cbv)|(simp only [r0];cbv)|simp only [r0]|(simp only [dg];cbv)|simp only [dg]|(simp only [cv];cbv)|simp only [cv]|(simp only [d0];cbv)|simp only [d0]|(simp only [wm];cbv)|simp only [wm]|(refine ⟨p6,p5,?_⟩;cbv)|(simp only [r5];cbv)|simp only [r5]|(simp only [om];cbv)|simp only [om]|(refine ⟨p7,p8,?_⟩;cbv)|(refine ⟨rfl,p7,p8,?_⟩;cbv)|(refine ⟨_,r6,?_⟩;cbv)|(refine ⟨ca,?_⟩;cbv)|(simp only [ea];cbv)|simp only [ea]|(refine ⟨cb,?_⟩;cbv)|(simp only [eb];cbv)|simp only [eb]|(refine ⟨cc,?_⟩;cbv)|(simp only [ec];cbv)|simp only [ec]|(simp only [sh];cbv)|simp only [sh]|(simp only [bd];cbv)|simp only [bd]|(simp only [b1];cbv)|simp only [b1]|(refine ⟨c2,?_⟩;cbv)|(simp only [e2];cbv)|simp only [e2]|(simp only [w2];cbv)|simp only [w2]|(simp only [ad];cbv)|simp only [ad]|(refine ⟨q0,q1,q2,?_⟩;cbv)|(simp only [ex];cbv)|simp only [ex]|(refine ⟨c3,?_⟩;cbv)|(simp only [e3];cbv)|simp only [e3]|(simp only [s1];cbv)|simp only [s1]|(simp only [s2];cbv)|simp only [s2]|(simp only [wa];cbv)|simp only [wa]|(simp only [w3];cbv)|simp only [w3]|(simp only [wp];cbv)|simp only [wp]|(simp only [wi];cbv)|simp only [wi])
      repeat (refine ⟨by assumption,?_⟩)
      exact .mk _ ⟨rfl,rfl,rfl,rfl,rfl⟩ hx hmu
 ·rintro ⟨tx,t,p⟩ hI
  obtain ⟨_,_,htx,hT,hP⟩:=hI;have htx':tx.data.toList=unB (arU m fN 0)++itB (arL (arU m fN) O):=htx;have hd9:∀ i,i < 6->(arU m fN i).d<=9:=fun i hi=>by
   obtain ⟨nv,_,h2,h3⟩:=hN i hi;show ((fN i).tmod 10).toNat<=9
   have:=Int.tmod_nonneg 10 h3
   have:=Int.tmod_lt_of_pos nv (show (0:Int) < 10 by decide)
   rw [h2];omega
  have hok:Ok (arL (arU m fN) O):=fun x hx=>by
   simp only [arL,List.mem_cons,List.not_mem_nil,or_false] at hx
   rcases hx with rfl|rfl|rfl|rfl|rfl
   ·obtain ⟨_,_,_,h⟩:=hO 0 (by decide);exact ⟨h,hd9 1 (by decide)⟩
   ·obtain ⟨_,_,_,h⟩:=hO 1 (by decide);exact ⟨h,hd9 2 (by decide)⟩
   ·obtain ⟨_,_,_,h⟩:=hO 2 (by decide);exact ⟨h,hd9 3 (by decide)⟩
   ·obtain ⟨_,_,_,h⟩:=hO 3 (by decide);exact ⟨h,hd9 4 (by decide)⟩
   ·obtain ⟨_,_,_,h⟩:=hO 4 (by decide);exact ⟨h,hd9 5 (by decide)⟩
  have hts:tx.size<=60000:=by
   have:=zwn (arU m fN) O 6
   have e:tx.data.toList.length<=100:=by rw [htx];exact this
   show tx.data.toList.length<=60000;omega
  have hp:=z15 tx hts;rw [zzf htx' (hd9 0 (by decide)) hok (nR 5)] at hp
  have hvl:=upL (zwf _ (z32 (hd9 0 (by decide)) hok))
  obtain ⟨k,i,q,nm,K,hv⟩:=zih (zn8 (arU m fN 0) (arL (arU m fN) O)).pt;have ok:=hv.one;unfold zg6 at hp;rw [hv.row] at hp hvl;have hwr:IntKind.i64.wrap (t + p)=IntKind.i64.wrap (zn8 (arU m fN 0) (arL (arU m fN) O)).val:=by
   have h1:t=IntKind.i64.wrap (goP (0,(unA (arU m fN 0)).val) (arL (arU m fN) O)).1:=hT;have h2:p=IntKind.i64.wrap (goP (0,(unA (arU m fN 0)).val) (arL (arU m fN) O)).2:=hP;rw [h1,h2,zna,zz6 hok]
  rw [<-hwr] at hvl;obtain ⟨z,hz⟩:∃ x,IntKind.i64.wrap (t + p)=x:=⟨_,rfl⟩
  rw [hz] at hvl;refine Seg.of zaa mixed (fun _=>0) (by kernel_rfl) (fun E=>zfm E tyT Tryz.f4.results.toList (pB true)) fun P G E hc hM hE=>?_
  replace hp:=hc _ _ _ hp;replace hvl:=hc _ _ _ hvl;have wz:E.wadd .i64 t p=z:=by rw [hE];exact hz
  have dz:decide (z=z)=true:=dT rfl;clear hc hM hE hN hO htx htx' hd9 hok hT hP hwr hz hv hts;cbv at ok;cbv
  repeat (first|(refine ⟨_,hp,?_⟩;cbv)|(simp only [ok];cbv)|simp only [ok]|(refine ⟨_,hvl,?_⟩;cbv)|(simp only [wz];cbv)|simp only [wz]|(simp only [dz];cbv)|simp only [dz])
end
end Go.Proofs.YtcfecmeocimclaaGreatDoor
