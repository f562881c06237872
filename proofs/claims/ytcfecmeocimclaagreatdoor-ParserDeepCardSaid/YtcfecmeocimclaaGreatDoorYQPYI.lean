/- Own work: ParserDeep returns true. -/
import Derived.Test.YtcfecmeocimclaaGreatDoorYQA0
import Derived.Test.YtcfecmeocimclaaGreatDoorYQPYH
namespace Go.Proofs.YtcfecmeocimclaaGreatDoor
set_option linter.unusedSectionVars false
open Go.RowKit
set_option maxRecDepth 100000
set_option linter.unusedSimpArgs false
set_option linter.unusedVariables false
abbrev dpS (Z:ByteArray) (w:Int):Unit->List AV:=fun _=>[.p (pB false),.p (pS Z),.p (pI w)]
theorem zhv {Z:ByteArray} {w:Int} (h:(w=5/\zb2 scO Z=zgi ptZ 0 5)\/(w=0/\∃ x,zb2 scO Z=zgi x 0 0)) (hz:Z.size<=60000):Seg Tryz.prog GL 95 (zi9 6 (Tryz.f3.body.getD .skip)) (zcs zat tyT Tryz.f3.results.toList (pB true)) (zba [4,6,7] (dpS Z w ()) 95 0) []:=by
 have hp:=zr1 Z hz
 rcases h with ⟨rfl,h⟩|⟨rfl,x,h⟩
 ·rw [h] at hp;obtain ⟨k1,i1,o1,nm1,K1,ok1,ho1⟩:=zpa ptZ 0 5;rw [ho1] at hp;refine Seg.of zaa mixed (fun _=>0) (by kernel_rfl) (fun E=>zcs E tyT Tryz.f3.results.toList (pB true)) fun P G E hc hM hE=>?_
  replace hp:=hc _ _ _ hp;clear hc hM hE h ho1 hz;cbv at ok1;cbv
  repeat (first|(refine ⟨_,hp,?_⟩;cbv)|(simp only [ok1];cbv)|simp only [ok1])
 ·rw [h] at hp;obtain ⟨k1,i1,o1,nm1,K1,ok1,ho1⟩:=zpa x 0 0;rw [ho1] at hp;refine Seg.of zaa mixed (fun _=>0) (by kernel_rfl) (fun E=>zcs E tyT Tryz.f3.results.toList (pB true)) fun P G E hc hM hE=>?_
  replace hp:=hc _ _ _ hp;clear hc hM hE h ho1 hz;cbv at ok1;cbv
  repeat (first|(refine ⟨_,hp,?_⟩;cbv)|(simp only [ok1];cbv)|simp only [ok1])
structure DpI (k:Int) (b:ByteArray) (x:Int × ByteArray):Prop where
 i0:0<=x.1
 i1:x.1<=k
 e:x.2=zlg x.1.toNat b
structure DpJ (k:Int) (b c:ByteArray) (x:Int × ByteArray × ByteArray):Prop where
 i0:0<=x.1
 i1:x.1<=k
 e:x.2.1=zlg x.1.toNat b
 f:x.2.2=zlg x.1.toNat c
theorem zc2 {E:SO} (hE:E=zat) {k j:Int} {b y:ByteArray} (hb:b.size<=10) (hk:k<=700) (j0:0<=j) (j1:j < k) (e:y=zlg j.toNat b):E.cat y b/\E.add y b=zlg (j + 1).toNat b:=by
 subst hE e
 have:=zff b j.toNat
 have h2:j.toNat * b.size<=700 * 10:=Nat.mul_le_mul (by omega) hb
 refine ⟨?_,?_⟩
 ·show (((zlg j.toNat b).size:Nat):Int) + ((b.size:Nat):Int)<=9223372036854775807;omega
 ·rw [show (j + 1).toNat=j.toNat + 1 by omega]
  rfl
theorem zll {Z:ByteArray} {b:Bool} (h:zny Z b):(b=true->((5:Int)=5/\zb2 scO Z=zgi ptZ 0 5)\/((5:Int)=0/\∃ x,zb2 scO Z=zgi x 0 0))/\(b=false->((0:Int)=5/\zb2 scO Z=zgi ptZ 0 5)\/((0:Int)=0/\∃ x,zb2 scO Z=zgi x 0 0)):=by
 rcases h with ⟨rfl,h⟩|⟨rfl,h⟩
 ·exact ⟨fun _=>.inl ⟨rfl,h⟩,fun e=>(by cases e)⟩
 ·exact ⟨fun e=>(by cases e),fun _=>.inr ⟨rfl,h⟩⟩
section
variable {n how k:Int} (hn0:0<=n) (hn1:n<=65535) (hk:n.tmod 700=k) (hk0:0<=k) (hk1:k < 700)
include hn0 hn1 hk hk0 hk1
abbrev zu3 (n how:Int):Prop:=Seg Tryz.prog GL 95 (Tryz.f3.body.getD .skip) (zcs zat tyT Tryz.f3.results.toList (pB true)) (([.v (.int .u16 n),.v (.int .u8 how)]:List PV).map .p++List.replicate (95 - ([.v (.int .u16 n),.v (.int .u8 how)]:List PV).length) (.p (.v undef))) []
theorem dp_1 (hh:how.tmod 4=1):zu3 n how:=by
 obtain ⟨Y,hY⟩:∃ y,zlg k.toNat ⟨#[33]⟩=y:=⟨_,rfl⟩
 obtain ⟨Z,hZ⟩:∃ y,Y++⟨#[49,59]⟩=y:=⟨_,rfl⟩
 have hYs:Y.size=k.toNat * 1:=by rw [<-hY,zff];rfl
 have hz:Z.size<=60000:=by rw [<-hZ,ByteArray.size_append,hYs];show _ + 2<=_;omega
 have hdeep:zny Z (decide (512 < k.toNat + 3)):=z73 (by rw [<-hZ,<- hY,ByteArray.data_append,Array.toList_append,zhp])
 rcases (show 512 < k + 3\/¬ 512 < k + 3 by omega) with hd|hd
 ·have hdp:=(zll hdeep).1 (dT (by omega))
  refine Seg.cutK 6 95 [4,6,7] 0 (dpS Z 5) (fun _=>[]) (fun _=>True) zaa mixed (fun _=>0) (fun E=>zcs E tyT Tryz.f3.results.toList (pB true)) (by kernel_rfl) ?_ (fun _ _=>zhv hdp hz)
  intro P G E hc hM hE;have h1:=hc _ _ _ zcr;have m1:E.rem n 700=k:=by rw [hE];exact hk
  have m2:E.rem how 4=1:=by rw [hE];exact hh
  have cv:E.wrap .i64 n=n:=by rw [hE];exact zac (by omega) (by omega)
  obtain ⟨μ,hμ⟩:∃ μ:Int->Nat,∀ x,μ x=2000 - x.toNat:=⟨_,fun _=>rfl⟩
  obtain ⟨k3,hk3⟩:∃ x,k + 3=x:=⟨_,rfl⟩
  have w3:E.wadd .i64 k 3=k3:=by rw [hE,<- hk3];exact zac (by omega) (by omega)
  have d3:E.lti 512 k3=true:=by rw [hE];exact dT (by omega)
  have s0:DpI k ⟨#[33]⟩ (0,⟨#[]⟩):=⟨Int.le_refl 0,hk0,rfl⟩;have c2:E.cat Y ⟨#[49,59]⟩:=by rw [hE];show ((Y.size:Nat):Int) + 2<=_;omega
  have e2:E.add Y ⟨#[49,59]⟩=Z:=by rw [hE];exact hZ
  cbv
  repeat (first|(refine ⟨_,h1,?_⟩;cbv)|(simp only [cv];cbv)|simp only [cv]|(simp only [m1];cbv)|simp only [m1]|(simp only [m2];cbv)|simp only [m2])
  refine za7 95 [4,5,6,7,11] 0 (fun x:Int × ByteArray=>[.p (pB false),.p (pI k),.p (pS x.2),.p (pI 0),.p (pI x.1)]) (fun _=>[]) (DpI k ⟨#[33]⟩) (fun x=>μ x.1) (0,⟨#[]⟩) ⟨rfl,rfl,rfl,rfl,rfl⟩ s0 ?_
  rintro ⟨j,y⟩ ⟨j0,j1,je⟩
  simp only at j0 j1 je;replace hk1:k < 700:=hk1
  rcases (show j < k\/j=k by omega) with hj|hj
  ·have hE0:=hj;have d1:E.lti j k=true:=by rw [hE];exact dT hj
   obtain ⟨c1,e1⟩:=zc2 hE (b:=⟨#[33]⟩) (by decide) (by omega) j0 hj je
   obtain ⟨y2,hy2⟩:∃ y,zlg (j + 1).toNat ⟨#[33]⟩=y:=⟨_,rfl⟩
   rw [hy2] at e1;obtain ⟨j2,hj2⟩:∃ y,j + 1=y:=⟨_,rfl⟩
   have w1:E.wadd .i64 j 1=j2:=by rw [hE,<- hj2];exact zac (by omega) (by omega)
   have hmu:μ j2 < μ j:=by rw [hμ,hμ];omega
   have hx:DpI k ⟨#[33]⟩ (j2,y2):=⟨show 0<=j2 by omega,show j2<=k by omega,by rw [<-hy2,<- hj2]⟩
   clear hc hM hE;cbv
   repeat (first|(simp only [d1];cbv)|simp only [d1]|(refine ⟨c1,?_⟩;cbv)|(simp only [e1];cbv)|simp only [e1]|(simp only [w1];cbv)|simp only [w1])
   exact .mk (j2,y2) ⟨rfl,rfl,rfl,rfl,rfl⟩ hx hmu
  ·subst hj;have d1:E.lti j j=false:=by rw [hE];exact dF (by omega)
   have ey:y=Y:=by rw [je,hY]
   subst ey;clear hc hM hE;cbv
   repeat (first|(simp only [d1];cbv)|simp only [d1]|(refine ⟨c2,?_⟩;cbv)|(simp only [e2];cbv)|simp only [e2]|(simp only [w3];cbv)|simp only [w3]|(simp only [d3];cbv)|simp only [d3])
   exact .mk () ⟨rfl,rfl,rfl,rfl,rfl⟩ trivial
 ·have hdp:=(zll hdeep).2 (dF (by omega))
  refine Seg.cutK 6 95 [4,6,7] 0 (dpS Z 0) (fun _=>[]) (fun _=>True) zaa mixed (fun _=>0) (fun E=>zcs E tyT Tryz.f3.results.toList (pB true)) (by kernel_rfl) ?_ (fun _ _=>zhv hdp hz)
  intro P G E hc hM hE;have h1:=hc _ _ _ zcr;have m1:E.rem n 700=k:=by rw [hE];exact hk
  have m2:E.rem how 4=1:=by rw [hE];exact hh
  have cv:E.wrap .i64 n=n:=by rw [hE];exact zac (by omega) (by omega)
  obtain ⟨μ,hμ⟩:∃ μ:Int->Nat,∀ x,μ x=2000 - x.toNat:=⟨_,fun _=>rfl⟩
  obtain ⟨k3,hk3⟩:∃ x,k + 3=x:=⟨_,rfl⟩
  have w3:E.wadd .i64 k 3=k3:=by rw [hE,<- hk3];exact zac (by omega) (by omega)
  have d3:E.lti 512 k3=false:=by rw [hE];exact dF (by omega)
  have s0:DpI k ⟨#[33]⟩ (0,⟨#[]⟩):=⟨Int.le_refl 0,hk0,rfl⟩;have c2:E.cat Y ⟨#[49,59]⟩:=by rw [hE];show ((Y.size:Nat):Int) + 2<=_;omega
  have e2:E.add Y ⟨#[49,59]⟩=Z:=by rw [hE];exact hZ
  cbv
  repeat (first|(refine ⟨_,h1,?_⟩;cbv)|(simp only [cv];cbv)|simp only [cv]|(simp only [m1];cbv)|simp only [m1]|(simp only [m2];cbv)|simp only [m2])
  refine za7 95 [4,5,6,7,11] 0 (fun x:Int × ByteArray=>[.p (pB false),.p (pI k),.p (pS x.2),.p (pI 0),.p (pI x.1)]) (fun _=>[]) (DpI k ⟨#[33]⟩) (fun x=>μ x.1) (0,⟨#[]⟩) ⟨rfl,rfl,rfl,rfl,rfl⟩ s0 ?_
  rintro ⟨j,y⟩ ⟨j0,j1,je⟩
  simp only at j0 j1 je;replace hk1:k < 700:=hk1
  rcases (show j < k\/j=k by omega) with hj|hj
  ·have hE0:=hj;have d1:E.lti j k=true:=by rw [hE];exact dT hj
   obtain ⟨c1,e1⟩:=zc2 hE (b:=⟨#[33]⟩) (by decide) (by omega) j0 hj je
   obtain ⟨y2,hy2⟩:∃ y,zlg (j + 1).toNat ⟨#[33]⟩=y:=⟨_,rfl⟩
   rw [hy2] at e1;obtain ⟨j2,hj2⟩:∃ y,j + 1=y:=⟨_,rfl⟩
   have w1:E.wadd .i64 j 1=j2:=by rw [hE,<- hj2];exact zac (by omega) (by omega)
   have hmu:μ j2 < μ j:=by rw [hμ,hμ];omega
   have hx:DpI k ⟨#[33]⟩ (j2,y2):=⟨show 0<=j2 by omega,show j2<=k by omega,by rw [<-hy2,<- hj2]⟩
   clear hc hM hE;cbv
   repeat (first|(simp only [d1];cbv)|simp only [d1]|(refine ⟨c1,?_⟩;cbv)|(simp only [e1];cbv)|simp only [e1]|(simp only [w1];cbv)|simp only [w1])
   exact .mk (j2,y2) ⟨rfl,rfl,rfl,rfl,rfl⟩ hx hmu
  ·subst hj;have d1:E.lti j j=false:=by rw [hE];exact dF (by omega)
   have ey:y=Y:=by rw [je,hY]
   subst ey;clear hc hM hE;cbv
   repeat (first|(simp only [d1];cbv)|simp only [d1]|(refine ⟨c2,?_⟩;cbv)|(simp only [e2];cbv)|simp only [e2]|(simp only [w3];cbv)|simp only [w3]|(simp only [d3];cbv)|simp only [d3])
   exact .mk () ⟨rfl,rfl,rfl,rfl,rfl⟩ trivial
theorem dp_2 (hh:how.tmod 4=2):zu3 n how:=by
 obtain ⟨Y,hY⟩:∃ y,zlg k.toNat ⟨#[119,104,105,108,101,32,40,49,41,32]⟩=y:=⟨_,rfl⟩
 obtain ⟨Z,hZ⟩:∃ y,Y++⟨#[59]⟩=y:=⟨_,rfl⟩
 have hYs:Y.size=k.toNat * 10:=by rw [<-hY,zff];rfl
 have hz:Z.size<=60000:=by rw [<-hZ,ByteArray.size_append,hYs];show _ + 1<=_;omega
 have hdeep:zny Z (decide (512 < k.toNat + 2)):=z71 (by rw [<-hZ,<- hY,ByteArray.data_append,Array.toList_append,zhp])
 rcases (show 512 < k + 2\/¬ 512 < k + 2 by omega) with hd|hd
 ·have hdp:=(zll hdeep).1 (dT (by omega))
  refine Seg.cutK 6 95 [4,6,7] 0 (dpS Z 5) (fun _=>[]) (fun _=>True) zaa mixed (fun _=>0) (fun E=>zcs E tyT Tryz.f3.results.toList (pB true)) (by kernel_rfl) ?_ (fun _ _=>zhv hdp hz)
  intro P G E hc hM hE;have h1:=hc _ _ _ zcr;have m1:E.rem n 700=k:=by rw [hE];exact hk
  have m2:E.rem how 4=2:=by rw [hE];exact hh
  have cv:E.wrap .i64 n=n:=by rw [hE];exact zac (by omega) (by omega)
  obtain ⟨μ,hμ⟩:∃ μ:Int->Nat,∀ x,μ x=2000 - x.toNat:=⟨_,fun _=>rfl⟩
  obtain ⟨k3,hk3⟩:∃ x,k + 2=x:=⟨_,rfl⟩
  have w3:E.wadd .i64 k 2=k3:=by rw [hE,<- hk3];exact zac (by omega) (by omega)
  have d3:E.lti 512 k3=true:=by rw [hE];exact dT (by omega)
  have s0:DpI k ⟨#[119,104,105,108,101,32,40,49,41,32]⟩ (0,⟨#[]⟩):=⟨Int.le_refl 0,hk0,rfl⟩;have c2:E.cat Y ⟨#[59]⟩:=by rw [hE];show ((Y.size:Nat):Int) + 1<=_;omega
  have e2:E.add Y ⟨#[59]⟩=Z:=by rw [hE];exact hZ
  cbv
  repeat (first|(refine ⟨_,h1,?_⟩;cbv)|(simp only [cv];cbv)|simp only [cv]|(simp only [m1];cbv)|simp only [m1]|(simp only [m2];cbv)|simp only [m2])
  refine za7 95 [4,5,6,7,12] 0 (fun x:Int × ByteArray=>[.p (pB false),.p (pI k),.p (pS x.2),.p (pI 0),.p (pI x.1)]) (fun _=>[]) (DpI k ⟨#[119,104,105,108,101,32,40,49,41,32]⟩) (fun x=>μ x.1) (0,⟨#[]⟩) ⟨rfl,rfl,rfl,rfl,rfl⟩ s0 ?_
  rintro ⟨j,y⟩ ⟨j0,j1,je⟩
  simp only at j0 j1 je;replace hk1:k < 700:=hk1
  rcases (show j < k\/j=k by omega) with hj|hj
  ·have hE0:=hj;have d1:E.lti j k=true:=by rw [hE];exact dT hj
   obtain ⟨c1,e1⟩:=zc2 hE (b:=⟨#[119,104,105,108,101,32,40,49,41,32]⟩) (by decide) (by omega) j0 hj je
   obtain ⟨y2,hy2⟩:∃ y,zlg (j + 1).toNat ⟨#[119,104,105,108,101,32,40,49,41,32]⟩=y:=⟨_,rfl⟩
   rw [hy2] at e1;obtain ⟨j2,hj2⟩:∃ y,j + 1=y:=⟨_,rfl⟩
   have w1:E.wadd .i64 j 1=j2:=by rw [hE,<- hj2];exact zac (by omega) (by omega)
   have hmu:μ j2 < μ j:=by rw [hμ,hμ];omega
   have hx:DpI k ⟨#[119,104,105,108,101,32,40,49,41,32]⟩ (j2,y2):=⟨show 0<=j2 by omega,show j2<=k by omega,by rw [<-hy2,<- hj2]⟩
   clear hc hM hE;cbv
   repeat (first|(simp only [d1];cbv)|simp only [d1]|(refine ⟨c1,?_⟩;cbv)|(simp only [e1];cbv)|simp only [e1]|(simp only [w1];cbv)|simp only [w1])
   exact .mk (j2,y2) ⟨rfl,rfl,rfl,rfl,rfl⟩ hx hmu
  ·subst hj;have d1:E.lti j j=false:=by rw [hE];exact dF (by omega)
   have ey:y=Y:=by rw [je,hY]
   subst ey;clear hc hM hE;cbv
   repeat (first|(simp only [d1];cbv)|simp only [d1]|(refine ⟨c2,?_⟩;cbv)|(simp only [e2];cbv)|simp only [e2]|(simp only [w3];cbv)|simp only [w3]|(simp only [d3];cbv)|simp only [d3])
   exact .mk () ⟨rfl,rfl,rfl,rfl,rfl⟩ trivial
 ·have hdp:=(zll hdeep).2 (dF (by omega))
  refine Seg.cutK 6 95 [4,6,7] 0 (dpS Z 0) (fun _=>[]) (fun _=>True) zaa mixed (fun _=>0) (fun E=>zcs E tyT Tryz.f3.results.toList (pB true)) (by kernel_rfl) ?_ (fun _ _=>zhv hdp hz)
  intro P G E hc hM hE;have h1:=hc _ _ _ zcr;have m1:E.rem n 700=k:=by rw [hE];exact hk
  have m2:E.rem how 4=2:=by rw [hE];exact hh
  have cv:E.wrap .i64 n=n:=by rw [hE];exact zac (by omega) (by omega)
  obtain ⟨μ,hμ⟩:∃ μ:Int->Nat,∀ x,μ x=2000 - x.toNat:=⟨_,fun _=>rfl⟩
  obtain ⟨k3,hk3⟩:∃ x,k + 2=x:=⟨_,rfl⟩
  have w3:E.wadd .i64 k 2=k3:=by rw [hE,<- hk3];exact zac (by omega) (by omega)
  have d3:E.lti 512 k3=false:=by rw [hE];exact dF (by omega)
  have s0:DpI k ⟨#[119,104,105,108,101,32,40,49,41,32]⟩ (0,⟨#[]⟩):=⟨Int.le_refl 0,hk0,rfl⟩;have c2:E.cat Y ⟨#[59]⟩:=by rw [hE];show ((Y.size:Nat):Int) + 1<=_;omega
  have e2:E.add Y ⟨#[59]⟩=Z:=by rw [hE];exact hZ
  cbv
  repeat (first|(refine ⟨_,h1,?_⟩;cbv)|(simp only [cv];cbv)|simp only [cv]|(simp only [m1];cbv)|simp only [m1]|(simp only [m2];cbv)|simp only [m2])
  refine za7 95 [4,5,6,7,12] 0 (fun x:Int × ByteArray=>[.p (pB false),.p (pI k),.p (pS x.2),.p (pI 0),.p (pI x.1)]) (fun _=>[]) (DpI k ⟨#[119,104,105,108,101,32,40,49,41,32]⟩) (fun x=>μ x.1) (0,⟨#[]⟩) ⟨rfl,rfl,rfl,rfl,rfl⟩ s0 ?_
  rintro ⟨j,y⟩ ⟨j0,j1,je⟩
  simp only at j0 j1 je;replace hk1:k < 700:=hk1
  rcases (show j < k\/j=k by omega) with hj|hj
  ·have hE0:=hj;have d1:E.lti j k=true:=by rw [hE];exact dT hj
   obtain ⟨c1,e1⟩:=zc2 hE (b:=⟨#[119,104,105,108,101,32,40,49,41,32]⟩) (by decide) (by omega) j0 hj je
   obtain ⟨y2,hy2⟩:∃ y,zlg (j + 1).toNat ⟨#[119,104,105,108,101,32,40,49,41,32]⟩=y:=⟨_,rfl⟩
   rw [hy2] at e1;obtain ⟨j2,hj2⟩:∃ y,j + 1=y:=⟨_,rfl⟩
   have w1:E.wadd .i64 j 1=j2:=by rw [hE,<- hj2];exact zac (by omega) (by omega)
   have hmu:μ j2 < μ j:=by rw [hμ,hμ];omega
   have hx:DpI k ⟨#[119,104,105,108,101,32,40,49,41,32]⟩ (j2,y2):=⟨show 0<=j2 by omega,show j2<=k by omega,by rw [<-hy2,<- hj2]⟩
   clear hc hM hE;cbv
   repeat (first|(simp only [d1];cbv)|simp only [d1]|(refine ⟨c1,?_⟩;cbv)|(simp only [e1];cbv)|simp only [e1]|(simp only [w1];cbv)|simp only [w1])
   exact .mk (j2,y2) ⟨rfl,rfl,rfl,rfl,rfl⟩ hx hmu
  ·subst hj;have d1:E.lti j j=false:=by rw [hE];exact dF (by omega)
   have ey:y=Y:=by rw [je,hY]
   subst ey;clear hc hM hE;cbv
   repeat (first|(simp only [d1];cbv)|simp only [d1]|(refine ⟨c2,?_⟩;cbv)|(simp only [e2];cbv)|simp only [e2]|(simp only [w3];cbv)|simp only [w3]|(simp only [d3];cbv)|simp only [d3])
   exact .mk () ⟨rfl,rfl,rfl,rfl,rfl⟩ trivial
theorem dp_3 (hh:how.tmod 4=3):zu3 n how:=by
 obtain ⟨Y,hY⟩:∃ y,zlg k.toNat ⟨#[97,32,61,32]⟩=y:=⟨_,rfl⟩
 obtain ⟨Z,hZ⟩:∃ y,Y++⟨#[49,59]⟩=y:=⟨_,rfl⟩
 have hYs:Y.size=k.toNat * 4:=by rw [<-hY,zff];rfl
 have hz:Z.size<=60000:=by rw [<-hZ,ByteArray.size_append,hYs];show _ + 2<=_;omega
 have hdeep:zny Z (decide (512 < k.toNat + 3)):=z7z (by rw [<-hZ,<- hY,ByteArray.data_append,Array.toList_append,zhp])
 rcases (show 512 < k + 3\/¬ 512 < k + 3 by omega) with hd|hd
 ·have hdp:=(zll hdeep).1 (dT (by omega))
  refine Seg.cutK 6 95 [4,6,7] 0 (dpS Z 5) (fun _=>[]) (fun _=>True) zaa mixed (fun _=>0) (fun E=>zcs E tyT Tryz.f3.results.toList (pB true)) (by kernel_rfl) ?_ (fun _ _=>zhv hdp hz)
  intro P G E hc hM hE;have h1:=hc _ _ _ zcr;have m1:E.rem n 700=k:=by rw [hE];exact hk
  have m2:E.rem how 4=3:=by rw [hE];exact hh
  have cv:E.wrap .i64 n=n:=by rw [hE];exact zac (by omega) (by omega)
  obtain ⟨μ,hμ⟩:∃ μ:Int->Nat,∀ x,μ x=2000 - x.toNat:=⟨_,fun _=>rfl⟩
  obtain ⟨k3,hk3⟩:∃ x,k + 3=x:=⟨_,rfl⟩
  have w3:E.wadd .i64 k 3=k3:=by rw [hE,<- hk3];exact zac (by omega) (by omega)
  have d3:E.lti 512 k3=true:=by rw [hE];exact dT (by omega)
  have s0:DpI k ⟨#[97,32,61,32]⟩ (0,⟨#[]⟩):=⟨Int.le_refl 0,hk0,rfl⟩;have c2:E.cat Y ⟨#[49,59]⟩:=by rw [hE];show ((Y.size:Nat):Int) + 2<=_;omega
  have e2:E.add Y ⟨#[49,59]⟩=Z:=by rw [hE];exact hZ
  cbv
  repeat (first|(refine ⟨_,h1,?_⟩;cbv)|(simp only [cv];cbv)|simp only [cv]|(simp only [m1];cbv)|simp only [m1]|(simp only [m2];cbv)|simp only [m2])
  refine za7 95 [4,5,6,7,13] 0 (fun x:Int × ByteArray=>[.p (pB false),.p (pI k),.p (pS x.2),.p (pI 0),.p (pI x.1)]) (fun _=>[]) (DpI k ⟨#[97,32,61,32]⟩) (fun x=>μ x.1) (0,⟨#[]⟩) ⟨rfl,rfl,rfl,rfl,rfl⟩ s0 ?_
  rintro ⟨j,y⟩ ⟨j0,j1,je⟩
  simp only at j0 j1 je;replace hk1:k < 700:=hk1
  rcases (show j < k\/j=k by omega) with hj|hj
  ·have hE0:=hj;have d1:E.lti j k=true:=by rw [hE];exact dT hj
   obtain ⟨c1,e1⟩:=zc2 hE (b:=⟨#[97,32,61,32]⟩) (by decide) (by omega) j0 hj je
   obtain ⟨y2,hy2⟩:∃ y,zlg (j + 1).toNat ⟨#[97,32,61,32]⟩=y:=⟨_,rfl⟩
   rw [hy2] at e1;obtain ⟨j2,hj2⟩:∃ y,j + 1=y:=⟨_,rfl⟩
   have w1:E.wadd .i64 j 1=j2:=by rw [hE,<- hj2];exact zac (by omega) (by omega)
   have hmu:μ j2 < μ j:=by rw [hμ,hμ];omega
   have hx:DpI k ⟨#[97,32,61,32]⟩ (j2,y2):=⟨show 0<=j2 by omega,show j2<=k by omega,by rw [<-hy2,<- hj2]⟩
   clear hc hM hE;cbv
   repeat (first|(simp only [d1];cbv)|simp only [d1]|(refine ⟨c1,?_⟩;cbv)|(simp only [e1];cbv)|simp only [e1]|(simp only [w1];cbv)|simp only [w1])
   exact .mk (j2,y2) ⟨rfl,rfl,rfl,rfl,rfl⟩ hx hmu
  ·subst hj;have d1:E.lti j j=false:=by rw [hE];exact dF (by omega)
   have ey:y=Y:=by rw [je,hY]
   subst ey;clear hc hM hE;cbv
   repeat (first|(simp only [d1];cbv)|simp only [d1]|(refine ⟨c2,?_⟩;cbv)|(simp only [e2];cbv)|simp only [e2]|(simp only [w3];cbv)|simp only [w3]|(simp only [d3];cbv)|simp only [d3])
   exact .mk () ⟨rfl,rfl,rfl,rfl,rfl⟩ trivial
 ·have hdp:=(zll hdeep).2 (dF (by omega))
  refine Seg.cutK 6 95 [4,6,7] 0 (dpS Z 0) (fun _=>[]) (fun _=>True) zaa mixed (fun _=>0) (fun E=>zcs E tyT Tryz.f3.results.toList (pB true)) (by kernel_rfl) ?_ (fun _ _=>zhv hdp hz)
  intro P G E hc hM hE;have h1:=hc _ _ _ zcr;have m1:E.rem n 700=k:=by rw [hE];exact hk
  have m2:E.rem how 4=3:=by rw [hE];exact hh
  have cv:E.wrap .i64 n=n:=by rw [hE];exact zac (by omega) (by omega)
  obtain ⟨μ,hμ⟩:∃ μ:Int->Nat,∀ x,μ x=2000 - x.toNat:=⟨_,fun _=>rfl⟩
  obtain ⟨k3,hk3⟩:∃ x,k + 3=x:=⟨_,rfl⟩
  have w3:E.wadd .i64 k 3=k3:=by rw [hE,<- hk3];exact zac (by omega) (by omega)
  have d3:E.lti 512 k3=false:=by rw [hE];exact dF (by omega)
  have s0:DpI k ⟨#[97,32,61,32]⟩ (0,⟨#[]⟩):=⟨Int.le_refl 0,hk0,rfl⟩;have c2:E.cat Y ⟨#[49,59]⟩:=by rw [hE];show ((Y.size:Nat):Int) + 2<=_;omega
  have e2:E.add Y ⟨#[49,59]⟩=Z:=by rw [hE];exact hZ
  cbv
  repeat (first|(refine ⟨_,h1,?_⟩;cbv)|(simp only [cv];cbv)|simp only [cv]|(simp only [m1];cbv)|simp only [m1]|(simp only [m2];cbv)|simp only [m2])
  refine za7 95 [4,5,6,7,13] 0 (fun x:Int × ByteArray=>[.p (pB false),.p (pI k),.p (pS x.2),.p (pI 0),.p (pI x.1)]) (fun _=>[]) (DpI k ⟨#[97,32,61,32]⟩) (fun x=>μ x.1) (0,⟨#[]⟩) ⟨rfl,rfl,rfl,rfl,rfl⟩ s0 ?_
  rintro ⟨j,y⟩ ⟨j0,j1,je⟩
  simp only at j0 j1 je;replace hk1:k < 700:=hk1
  rcases (show j < k\/j=k by omega) with hj|hj
  ·have hE0:=hj;have d1:E.lti j k=true:=by rw [hE];exact dT hj
   obtain ⟨c1,e1⟩:=zc2 hE (b:=⟨#[97,32,61,32]⟩) (by decide) (by omega) j0 hj je
   obtain ⟨y2,hy2⟩:∃ y,zlg (j + 1).toNat ⟨#[97,32,61,32]⟩=y:=⟨_,rfl⟩
   rw [hy2] at e1;obtain ⟨j2,hj2⟩:∃ y,j + 1=y:=⟨_,rfl⟩
   have w1:E.wadd .i64 j 1=j2:=by rw [hE,<- hj2];exact zac (by omega) (by omega)
   have hmu:μ j2 < μ j:=by rw [hμ,hμ];omega
   have hx:DpI k ⟨#[97,32,61,32]⟩ (j2,y2):=⟨show 0<=j2 by omega,show j2<=k by omega,by rw [<-hy2,<- hj2]⟩
   clear hc hM hE;cbv
   repeat (first|(simp only [d1];cbv)|simp only [d1]|(refine ⟨c1,?_⟩;cbv)|(simp only [e1];cbv)|simp only [e1]|(simp only [w1];cbv)|simp only [w1])
   exact .mk (j2,y2) ⟨rfl,rfl,rfl,rfl,rfl⟩ hx hmu
  ·subst hj;have d1:E.lti j j=false:=by rw [hE];exact dF (by omega)
   have ey:y=Y:=by rw [je,hY]
   subst ey;clear hc hM hE;cbv
   repeat (first|(simp only [d1];cbv)|simp only [d1]|(refine ⟨c2,?_⟩;cbv)|(simp only [e2];cbv)|simp only [e2]|(simp only [w3];cbv)|simp only [w3]|(simp only [d3];cbv)|simp only [d3])
   exact .mk () ⟨rfl,rfl,rfl,rfl,rfl⟩ trivial
theorem dp_0 (hh:how.tmod 4=0):zu3 n how:=by
 obtain ⟨Y,hY⟩:∃ y,zlg k.toNat ⟨#[40]⟩=y:=⟨_,rfl⟩
 obtain ⟨V,hV⟩:∃ y,zlg k.toNat ⟨#[41]⟩=y:=⟨_,rfl⟩
 obtain ⟨X,hX⟩:∃ y,Y++⟨#[49]⟩=y:=⟨_,rfl⟩
 obtain ⟨U,hU⟩:∃ y,X++V=y:=⟨_,rfl⟩
 obtain ⟨Z,hZ⟩:∃ y,U++⟨#[59]⟩=y:=⟨_,rfl⟩
 have hYs:Y.size=k.toNat * 1:=by rw [<-hY,zff];rfl
 have hVs:V.size=k.toNat * 1:=by rw [<-hV,zff];rfl
 have hXs:X.size=Y.size + 1:=by rw [<-hX,ByteArray.size_append];rfl
 have hUs:U.size=X.size + V.size:=by rw [<-hU,ByteArray.size_append]
 have hz:Z.size<=60000:=by rw [<-hZ,ByteArray.size_append];show _ + 1<=_;omega
 have hdeep:zny Z (decide (128 < k.toNat)):=z74 (by
  rw [<-hZ,<- hU,<- hX,<- hY,<- hV];simp only [ByteArray.data_append,Array.toList_append,zhp,List.append_assoc];rfl)
 rcases (show 128 < k + 0\/¬ 128 < k + 0 by omega) with hd|hd
 ·have hdp:=(zll hdeep).1 (dT (by omega))
  refine Seg.cutK 6 95 [4,6,7] 0 (dpS Z 5) (fun _=>[]) (fun _=>True) zaa mixed (fun _=>0) (fun E=>zcs E tyT Tryz.f3.results.toList (pB true)) (by kernel_rfl) ?_ (fun _ _=>zhv hdp hz)
  intro P G E hc hM hE;have h1:=hc _ _ _ zcr;have m1:E.rem n 700=k:=by rw [hE];exact hk
  have m2:E.rem how 4=0:=by rw [hE];exact hh
  have cv:E.wrap .i64 n=n:=by rw [hE];exact zac (by omega) (by omega)
  obtain ⟨μ,hμ⟩:∃ μ:Int->Nat,∀ x,μ x=2000 - x.toNat:=⟨_,fun _=>rfl⟩
  have d3:E.lti 128 k=true:=by rw [hE];exact dT (by omega)
  have s0:DpJ k ⟨#[40]⟩ ⟨#[41]⟩ (0,⟨#[]⟩,⟨#[]⟩):=⟨Int.le_refl 0,hk0,rfl,rfl⟩;have c2:E.cat Y ⟨#[49]⟩:=by rw [hE];show ((Y.size:Nat):Int) + 1<=_;omega
  have e2:E.add Y ⟨#[49]⟩=X:=by rw [hE];exact hX
  have c3:E.cat X V:=by rw [hE];show ((X.size:Nat):Int) + ((V.size:Nat):Int)<=_;omega
  have e3:E.add X V=U:=by rw [hE];exact hU
  have c4:E.cat U ⟨#[59]⟩:=by rw [hE];show ((U.size:Nat):Int) + 1<=_;omega
  have e4:E.add U ⟨#[59]⟩=Z:=by rw [hE];exact hZ
  cbv
  repeat (first|(refine ⟨_,h1,?_⟩;cbv)|(simp only [cv];cbv)|simp only [cv]|(simp only [m1];cbv)|simp only [m1]|(simp only [m2];cbv)|simp only [m2])
  refine za7 95 [4,5,6,7,8,9,10] 0 (fun x:Int × ByteArray × ByteArray=>[.p (pB false),.p (pI k),.p (pS ⟨#[]⟩),.p (pI 0),.p (pS x.2.1),.p (pS x.2.2),.p (pI x.1)]) (fun _=>[]) (DpJ k ⟨#[40]⟩ ⟨#[41]⟩) (fun x=>μ x.1) (0,⟨#[]⟩,⟨#[]⟩) ⟨rfl,rfl,rfl,rfl,rfl⟩ s0 ?_
  rintro ⟨j,y,v⟩ ⟨j0,j1,je,jf⟩
  simp only at j0 j1 je jf;replace hk1:k < 700:=hk1
  rcases (show j < k\/j=k by omega) with hj|hj
  ·have hE0:=hj;have d1:E.lti j k=true:=by rw [hE];exact dT hj
   obtain ⟨c1,e1⟩:=zc2 hE (b:=⟨#[40]⟩) (by decide) (by omega) j0 hj je
   obtain ⟨y2,hy2⟩:∃ y,zlg (j + 1).toNat ⟨#[40]⟩=y:=⟨_,rfl⟩
   rw [hy2] at e1;obtain ⟨j2,hj2⟩:∃ y,j + 1=y:=⟨_,rfl⟩
   have w1:E.wadd .i64 j 1=j2:=by rw [hE,<- hj2];exact zac (by omega) (by omega)
   have hmu:μ j2 < μ j:=by rw [hμ,hμ];omega
   obtain ⟨c5,e5⟩:=zc2 hE (b:=⟨#[41]⟩) (by decide) (by omega) j0 hj jf
   obtain ⟨v2,hv2⟩:∃ y,zlg (j + 1).toNat ⟨#[41]⟩=y:=⟨_,rfl⟩
   rw [hv2] at e5;have hx:DpJ k ⟨#[40]⟩ ⟨#[41]⟩ (j2,y2,v2):=⟨show 0<=j2 by omega,show j2<=k by omega,by rw [<-hy2,<- hj2],by rw [<-hv2,<- hj2]⟩
   clear hc hM hE;cbv
   repeat (first|(simp only [d1];cbv)|simp only [d1]|(refine ⟨c1,?_⟩;cbv)|(simp only [e1];cbv)|simp only [e1]|(refine ⟨c5,?_⟩;cbv)|(simp only [e5];cbv)|simp only [e5]|(simp only [w1];cbv)|simp only [w1])
   exact .mk (j2,y2,v2) ⟨rfl,rfl,rfl,rfl,rfl⟩ hx hmu
  ·subst hj;have d1:E.lti j j=false:=by rw [hE];exact dF (by omega)
   have ey:y=Y:=by rw [je,hY]
   have ev':v=V:=by rw [jf,hV]
   subst ey ev';clear hc hM hE;cbv
   repeat (first|(simp only [d1];cbv)|simp only [d1]|(refine ⟨c2,?_⟩;cbv)|(simp only [e2];cbv)|simp only [e2]|(refine ⟨c3,?_⟩;cbv)|(simp only [e3];cbv)|simp only [e3]|(refine ⟨c4,?_⟩;cbv)|(simp only [e4];cbv)|simp only [e4]|(simp only [d3];cbv)|simp only [d3])
   exact .mk () ⟨rfl,rfl,rfl,rfl,rfl⟩ trivial
 ·have hdp:=(zll hdeep).2 (dF (by omega))
  refine Seg.cutK 6 95 [4,6,7] 0 (dpS Z 0) (fun _=>[]) (fun _=>True) zaa mixed (fun _=>0) (fun E=>zcs E tyT Tryz.f3.results.toList (pB true)) (by kernel_rfl) ?_ (fun _ _=>zhv hdp hz)
  intro P G E hc hM hE;have h1:=hc _ _ _ zcr;have m1:E.rem n 700=k:=by rw [hE];exact hk
  have m2:E.rem how 4=0:=by rw [hE];exact hh
  have cv:E.wrap .i64 n=n:=by rw [hE];exact zac (by omega) (by omega)
  obtain ⟨μ,hμ⟩:∃ μ:Int->Nat,∀ x,μ x=2000 - x.toNat:=⟨_,fun _=>rfl⟩
  have d3:E.lti 128 k=false:=by rw [hE];exact dF (by omega)
  have s0:DpJ k ⟨#[40]⟩ ⟨#[41]⟩ (0,⟨#[]⟩,⟨#[]⟩):=⟨Int.le_refl 0,hk0,rfl,rfl⟩;have c2:E.cat Y ⟨#[49]⟩:=by rw [hE];show ((Y.size:Nat):Int) + 1<=_;omega
  have e2:E.add Y ⟨#[49]⟩=X:=by rw [hE];exact hX
  have c3:E.cat X V:=by rw [hE];show ((X.size:Nat):Int) + ((V.size:Nat):Int)<=_;omega
  have e3:E.add X V=U:=by rw [hE];exact hU
  have c4:E.cat U ⟨#[59]⟩:=by rw [hE];show ((U.size:Nat):Int) + 1<=_;omega
  have e4:E.add U ⟨#[59]⟩=Z:=by rw [hE];exact hZ
  cbv
  repeat (first|(refine ⟨_,h1,?_⟩;cbv)|(simp only [cv];cbv)|simp only [cv]|(simp only [m1];cbv)|simp only [m1]|(simp only [m2];cbv)|simp only [m2])
  refine za7 95 [4,5,6,7,8,9,10] 0 (fun x:Int × ByteArray × ByteArray=>[.p (pB false),.p (pI k),.p (pS ⟨#[]⟩),.p (pI 0),.p (pS x.2.1),.p (pS x.2.2),.p (pI x.1)]) (fun _=>[]) (DpJ k ⟨#[40]⟩ ⟨#[41]⟩) (fun x=>μ x.1) (0,⟨#[]⟩,⟨#[]⟩) ⟨rfl,rfl,rfl,rfl,rfl⟩ s0 ?_
  rintro ⟨j,y,v⟩ ⟨j0,j1,je,jf⟩
  simp only at j0 j1 je jf;replace hk1:k < 700:=hk1
  rcases (show j < k\/j=k by omega) with hj|hj
  ·have hE0:=hj;have d1:E.lti j k=true:=by rw [hE];exact dT hj
   obtain ⟨c1,e1⟩:=zc2 hE (b:=⟨#[40]⟩) (by decide) (by omega) j0 hj je
   obtain ⟨y2,hy2⟩:∃ y,zlg (j + 1).toNat ⟨#[40]⟩=y:=⟨_,rfl⟩
   rw [hy2] at e1;obtain ⟨j2,hj2⟩:∃ y,j + 1=y:=⟨_,rfl⟩
   have w1:E.wadd .i64 j 1=j2:=by rw [hE,<- hj2];exact zac (by omega) (by omega)
   have hmu:μ j2 < μ j:=by rw [hμ,hμ];omega
   obtain ⟨c5,e5⟩:=zc2 hE (b:=⟨#[41]⟩) (by decide) (by omega) j0 hj jf
   obtain ⟨v2,hv2⟩:∃ y,zlg (j + 1).toNat ⟨#[41]⟩=y:=⟨_,rfl⟩
   rw [hv2] at e5;have hx:DpJ k ⟨#[40]⟩ ⟨#[41]⟩ (j2,y2,v2):=⟨show 0<=j2 by omega,show j2<=k by omega,by rw [<-hy2,<- hj2],by rw [<-hv2,<- hj2]⟩
   clear hc hM hE;cbv
   repeat (first|(simp only [d1];cbv)|simp only [d1]|(refine ⟨c1,?_⟩;cbv)|(simp only [e1];cbv)|simp only [e1]|(refine ⟨c5,?_⟩;cbv)|(simp only [e5];cbv)|simp only [e5]|(simp only [w1];cbv)|simp only [w1])
   exact .mk (j2,y2,v2) ⟨rfl,rfl,rfl,rfl,rfl⟩ hx hmu
  ·subst hj;have d1:E.lti j j=false:=by rw [hE];exact dF (by omega)
   have ey:y=Y:=by rw [je,hY]
   have ev':v=V:=by rw [jf,hV]
   subst ey ev';clear hc hM hE;cbv
   repeat (first|(simp only [d1];cbv)|simp only [d1]|(refine ⟨c2,?_⟩;cbv)|(simp only [e2];cbv)|simp only [e2]|(refine ⟨c3,?_⟩;cbv)|(simp only [e3];cbv)|simp only [e3]|(refine ⟨c4,?_⟩;cbv)|(simp only [e4];cbv)|simp only [e4]|(simp only [d3];cbv)|simp only [d3])
   exact .mk () ⟨rfl,rfl,rfl,rfl,rfl⟩ trivial
end
theorem znt {n how:Int} (hn:(Lit.int .u16 n).wf=true) (hh:(Lit.int .u8 how).wf=true):RL 3 [.v (.int .u16 n),.v (.int .u8 how)] (pB true):=by
 have hn2:0<=n/\n<=65535:=by
  have e1:IntKind.u16.min=0:=by decide
  have e2:IntKind.u16.max=65535:=by decide
  simpa only [Lit.wf,e1,e2,bAT,decide_eq_true_eq] using hn
 have hh2:0<=how:=by
  have e1:IntKind.u8.min=0:=by decide
  simp only [Lit.wf,e1,bAT,decide_eq_true_eq] at hh;exact hh.1
 obtain ⟨k,hk⟩:∃ k,n.tmod 700=k:=⟨_,rfl⟩
 have hk2:0<=k/\k < 700:=by
  rw [<-hk];exact ⟨Int.tmod_nonneg _ hn2.1,Int.tmod_lt_of_pos _ (by decide)⟩
 obtain ⟨m,hm⟩:∃ k,how.tmod 4=k:=⟨_,rfl⟩
 have hm2:0<=m/\m < 4:=by
  rw [<-hm];exact ⟨Int.tmod_nonneg _ hh2,Int.tmod_lt_of_pos _ (by decide)⟩
 refine zdc zaa zbq (f:=3) Tryz.func3 rfl (by kernel_rfl) (oT (by kernel_rfl)) ?_
 rcases (show m=0\/m=1\/m=2\/m=3 by omega) with rfl|rfl|rfl|rfl
 ·exact dp_0 hn2.1 hn2.2 hk hk2.1 hk2.2 hm
 ·exact dp_1 hn2.1 hn2.2 hk hk2.1 hk2.2 hm
 ·exact dp_2 hn2.1 hn2.2 hk hk2.1 hk2.2 hm
 ·exact dp_3 hn2.1 hn2.2 hk hk2.1 hk2.2 hm
end Go.Proofs.YtcfecmeocimclaaGreatDoor
