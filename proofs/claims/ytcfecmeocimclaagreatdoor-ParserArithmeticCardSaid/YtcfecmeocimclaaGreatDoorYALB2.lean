/- Own work: (*strings.Builder).WriteByte and WriteRune over a builder that the walk owns (printed by gen_lb2.py). -/
import Derived.Test.YtcfecmeocimclaaGreatDoorYAA0
import Derived.Test.YtcfecmeocimclaaGreatDoorYALB1
namespace Go.Proofs.YtcfecmeocimclaaGreatDoor
set_option linter.unusedSimpArgs false
set_option maxRecDepth 100000
open Go.RowKit
theorem zd5 {n:Int} (h0:0<=n) (h1:n < 4294967296):IntKind.u32.wrap n=n:=by
 have e1:((2:Int) ^ IntKind.u32.bits)=4294967296:=by decide
 have e3:IntKind.u32.signed=false:=rfl;simp only [IntKind.wrap,e1,e3,Bool.false_and,Bool.false_eq_true,if_false];omega
abbrev p8 (z:Int):List PV:=[.v (.int .u8 z)]
theorem z1r {r:Int} (h0:128<=r) (h1:r<=2047):lR (encL r)=[p8 (192 + r / 64),p8 (128 + r % 64)]:=by
 show lR (Utf8.encode r).data.toList=_;rw [zou,Lib.encodeRuneZ_two h0 h1];rfl
theorem zve {r:Int} (h:(2048<=r/\r < 55296)\/(57343 < r/\r<=65535)):lR (encL r)=[p8 (224 + r / 4096),p8 (128 + r / 64 % 64),p8 (128 + r % 64)]:=by
 show lR (Utf8.encode r).data.toList=_;rw [zou,Lib.encodeRuneZ_three h];rfl
theorem zyq {r:Int} (h0:65536<=r) (h1:r<=1114111):lR (encL r)=[p8 (240 + r / 262144),p8 (128 + r / 4096 % 64),p8 (128 + r / 64 % 64),p8 (128 + r % 64)]:=by
 show lR (Utf8.encode r).data.toList=_;rw [zou,Lib.encodeRuneZ_four h0 h1];rfl
theorem z1s {r:Int} (h0:0<=r) (h1:r<=127):lR (encL r)=[p8 r]:=by
 show lR (Utf8.encode r).data.toList=_;rw [zou,Lib.encodeRuneZ_one h0 h1];rfl
set_option maxHeartbeats 2000000 in
theorem zuw (n:Int) (h0:128<=n) (h1:n<=1114111) (hs:¬ (55296<=n/\n<=57343)) (l:List UInt8) (hb:l.length<=1000000000) :
  VM 150 [.osl 0 0 l.length,.p (.v (.int .i32 n))] [some (.rows 1 (lR l) 5)] (.osl 0 0 (l++encL n).length) [some (.rows 1 (lR (l++encL n)) 5)]:=by
 obtain ⟨rs,hrs⟩:∃ x,lR l=x:=⟨_,rfl⟩
 obtain ⟨m,hm⟩:∃ x,l.length=x:=⟨_,rfl⟩
 have hml:m=rs.length:=by rw [<-hm,<- hrs,zmh]
 rw [hrs,hm];rw [hm] at hb;have n64:n.fdiv (2 ^ (min (6:Int).toNat IntKind.i32.bits))=n / 64:=by rw [Int.fdiv_eq_ediv_of_nonneg _ (by decide)];rfl
 have n4096:n.fdiv (2 ^ (min (12:Int).toNat IntKind.i32.bits))=n / 4096:=by rw [Int.fdiv_eq_ediv_of_nonneg _ (by decide)];rfl
 have n262144:n.fdiv (2 ^ (min (18:Int).toNat IntKind.i32.bits))=n / 262144:=by rw [Int.fdiv_eq_ediv_of_nonneg _ (by decide)];rfl
 rcases cEm (n<=2047) with a1|a1
 ·skip
  obtain ⟨y1,hy1⟩:∃ x:Int,192 + n / 64=x:=⟨_,rfl⟩
  obtain ⟨y2,hy2⟩:∃ x:Int,128 + n % 64=x:=⟨_,rfl⟩
  have henc:=z1r h0 a1;rw [hy1,hy2] at henc;have hRS:rs++[p8 y1,p8 y2]=lR (l++encL n):=by rw [zqi,henc,hrs]
  have hM:m + 2=(l++encL n).length:=by
   have h5:=congrArg List.length henc;rw [zmh] at h5;rw [lLA,hm,h5];rfl
  obtain ⟨RS,hRS2⟩:∃ x,lR (l++encL n)=x:=⟨_,rfl⟩
  obtain ⟨M,hM2⟩:∃ x,(l++encL n).length=x:=⟨_,rfl⟩
  rw [hRS2] at hRS;rw [hM2] at hM;rw [hRS2,hM2];refine zhx zaa mixed (fun _=>0) Tryz.func150 rfl (by kernel_rfl) (by kernel_rfl) rfl fun P G E hc hM3 hE t0=>?_
  have elt:=zw5 hE;have ele:∀ a b,E.lei a b=decide (a<=b):=fun a b=>by rw [hE];rfl
  have epre:∀ (r:List (List PV)) k,k<=r.length->E.pre 0 k r:=fun r k h=>by rw [hE];show 0 + k<=r.length;omega
  have eroom:∀ k j,k<=2000000000->j<=4->E.room k j 1:=fun k j h h'=>by rw [hE];exact ⟨by unfold maxLen;omega,by omega⟩
  have eadd:∀ a b,E.addN a b=a + b:=fun a b=>by rw [hE];rfl
  have eapp:∀ (r:List (List PV)) k x,k=r.length->E.app r k x=r++x:=fun r k x h=>by rw [hE];show r.take k++x=_;rw [h,lTL]
  have esub:∀ (x:List (List PV)) k,k=x.length->E.sub x 0 k=x:=fun x k h=>by rw [hE];show (x.drop 0).take k=x;rw [h,lDZ,lTL]
  have ewr:∀ n:Int,E.wrap .u32 n=IntKind.u32.wrap n:=fun n=>by rw [hE];rfl
  have eshr:∀ (n b:Int) (k:Int),n.fdiv (2 ^ (min b.toNat IntKind.i32.bits))=k->E.shr .i32 n b=k:=fun n b k h=>by rw [hE];exact h
  have et:∀ x:Int,E.bor .u8 128 (E.band .u8 (E.wrap .u8 x) 63)=128 + x % 64:=fun x=>by rw [hE];exact zf4 x
  have q6:E.ple 0 6:=by rw [hE];show (0:Int)<=6;omega
  have q12:E.ple 0 12:=by rw [hE];show (0:Int)<=12;omega
  have q18:E.ple 0 18:=by rw [hE];show (0:Int)<=18;omega
  have cu:=ewr n;rw [zd5 (by omega) (by omega)] at cu
  have d1:E.lei n 2047=true:=by rw [ele];exact dT a1
  have s6:=eshr n 6 _ n64;have b1:E.bor .u8 192 (E.wrap .u8 (n / 64))=y1:=by rw [hE,<- hy1];exact head2 _ (by omega) (by omega)
  have b2:=et n;rw [hy2] at b2;obtain ⟨x6,hx6⟩:∃ x:Int,n / 64=x:=⟨_,rfl⟩
  rw [hx6] at s6 b1;clear hx6;have p5:=epre rs m (by omega)
  have p4:=eroom m 2 (by omega) (by omega)
  have a2:=eadd m 2;rw [hM] at a2;have r3:=eapp rs m [p8 y1,p8 y2] hml;rw [hRS] at r3;have r0:=esub [p8 y1,p8 y2] 2 rfl;have p0:=epre [p8 y1,p8 y2] 2 (nR _);clear elt ele epre eroom eadd eapp esub ewr eshr et hE hc hM3 henc hRS hM hRS2 hM2 hml hrs hm hb n64 n4096 n262144 h0 h1 hs hy1 hy2 a1;cbv
  repeat (first|(simp only [cu];cbv)|simp only [cu]|(simp only [d1];cbv)|simp only [d1]|(refine ⟨q6,?_⟩;cbv)|(simp only [s6];cbv)|simp only [s6]|(simp only [b1];cbv)|simp only [b1]|(simp only [b2];cbv)|simp only [b2]|(refine ⟨p0,p5,p4,?_⟩;cbv)|(simp only [r0,r3,a2];cbv)|simp only [r0,r3,a2])
  all_goals trivial
 ·rcases cEm (n<=65535) with a5|a5
  ·skip
   obtain ⟨y1,hy1⟩:∃ x:Int,224 + n / 4096=x:=⟨_,rfl⟩
   obtain ⟨y2,hy2⟩:∃ x:Int,128 + n / 64 % 64=x:=⟨_,rfl⟩
   obtain ⟨y3,hy3⟩:∃ x:Int,128 + n % 64=x:=⟨_,rfl⟩
   have henc:=zve (r:=n) (by omega)
   rw [hy1,hy2,hy3] at henc;have hRS:rs++[p8 y1,p8 y2,p8 y3]=lR (l++encL n):=by rw [zqi,henc,hrs]
   have hM:m + 3=(l++encL n).length:=by
    have h5:=congrArg List.length henc;rw [zmh] at h5;rw [lLA,hm,h5];rfl
   obtain ⟨RS,hRS2⟩:∃ x,lR (l++encL n)=x:=⟨_,rfl⟩
   obtain ⟨M,hM2⟩:∃ x,(l++encL n).length=x:=⟨_,rfl⟩
   rw [hRS2] at hRS;rw [hM2] at hM;rw [hRS2,hM2]
   rcases cEm (n < 55296) with a3|a3
   ·skip
    refine zhx zaa mixed (fun _=>0) Tryz.func150 rfl (by kernel_rfl) (by kernel_rfl) rfl fun P G E hc hM3 hE t0=>?_
    have elt:=zw5 hE;have ele:∀ a b,E.lei a b=decide (a<=b):=fun a b=>by rw [hE];rfl
    have epre:∀ (r:List (List PV)) k,k<=r.length->E.pre 0 k r:=fun r k h=>by rw [hE];show 0 + k<=r.length;omega
    have eroom:∀ k j,k<=2000000000->j<=4->E.room k j 1:=fun k j h h'=>by rw [hE];exact ⟨by unfold maxLen;omega,by omega⟩
    have eadd:∀ a b,E.addN a b=a + b:=fun a b=>by rw [hE];rfl
    have eapp:∀ (r:List (List PV)) k x,k=r.length->E.app r k x=r++x:=fun r k x h=>by rw [hE];show r.take k++x=_;rw [h,lTL]
    have esub:∀ (x:List (List PV)) k,k=x.length->E.sub x 0 k=x:=fun x k h=>by rw [hE];show (x.drop 0).take k=x;rw [h,lDZ,lTL]
    have ewr:∀ n:Int,E.wrap .u32 n=IntKind.u32.wrap n:=fun n=>by rw [hE];rfl
    have eshr:∀ (n b:Int) (k:Int),n.fdiv (2 ^ (min b.toNat IntKind.i32.bits))=k->E.shr .i32 n b=k:=fun n b k h=>by rw [hE];exact h
    have et:∀ x:Int,E.bor .u8 128 (E.band .u8 (E.wrap .u8 x) 63)=128 + x % 64:=fun x=>by rw [hE];exact zf4 x
    have q6:E.ple 0 6:=by rw [hE];show (0:Int)<=6;omega
    have q12:E.ple 0 12:=by rw [hE];show (0:Int)<=12;omega
    have q18:E.ple 0 18:=by rw [hE];show (0:Int)<=18;omega
    have cu:=ewr n;rw [zd5 (by omega) (by omega)] at cu
    have d1:E.lei n 2047=false:=by rw [ele];exact dF a1
    have s6:=eshr n 6 _ n64;have s12:=eshr n 12 _ n4096;have b1:E.bor .u8 224 (E.wrap .u8 (n / 4096))=y1:=by rw [hE,<- hy1];exact z8c _ (by omega) (by omega)
    have b2:=et (n / 64);rw [hy2] at b2;have b3:=et n;rw [hy3] at b3;have d2:E.lti n 55296=decide (n < 55296):=elt _ _;have d3:E.lti 57343 n=decide (57343 < n):=elt _ _;have d4:E.lei n 65535=true:=by rw [ele];exact dT a5
    obtain ⟨x6,hx6⟩:∃ x:Int,n / 64=x:=⟨_,rfl⟩
    rw [hx6] at s6 b2;obtain ⟨x12,hx12⟩:∃ x:Int,n / 4096=x:=⟨_,rfl⟩
    rw [hx12] at s12 b1;clear hx6 hx12;rw [dT a3] at d2;have p5:=epre rs m (by omega)
    have p4:=eroom m 3 (by omega) (by omega)
    have a2:=eadd m 3;rw [hM] at a2;have r3:=eapp rs m [p8 y1,p8 y2,p8 y3] hml;rw [hRS] at r3;have r0:=esub [p8 y1,p8 y2,p8 y3] 3 rfl;have p0:=epre [p8 y1,p8 y2,p8 y3] 3 (nR _);clear elt ele epre eroom eadd eapp esub ewr eshr et hE hc hM3 henc hRS hM hRS2 hM2 hml hrs hm hb n64 n4096 n262144 h0 h1 hs hy1 hy2 hy3 a1 a5 a3;cbv
    repeat (first|(simp only [cu];cbv)|simp only [cu]|(simp only [d1];cbv)|simp only [d1]|(simp only [d2];cbv)|simp only [d2]|(refine ⟨q12,q6,?_⟩;cbv)|(simp only [s12];cbv)|simp only [s12]|(simp only [b1];cbv)|simp only [b1]|(simp only [s6];cbv)|simp only [s6]|(simp only [b2];cbv)|simp only [b2]|(simp only [b3];cbv)|simp only [b3]|(refine ⟨p0,p5,p4,?_⟩;cbv)|(simp only [r0,r3,a2];cbv)|simp only [r0,r3,a2])
    all_goals trivial
   ·skip
    refine zhx zaa mixed (fun _=>0) Tryz.func150 rfl (by kernel_rfl) (by kernel_rfl) rfl fun P G E hc hM3 hE t0=>?_
    have elt:=zw5 hE;have ele:∀ a b,E.lei a b=decide (a<=b):=fun a b=>by rw [hE];rfl
    have epre:∀ (r:List (List PV)) k,k<=r.length->E.pre 0 k r:=fun r k h=>by rw [hE];show 0 + k<=r.length;omega
    have eroom:∀ k j,k<=2000000000->j<=4->E.room k j 1:=fun k j h h'=>by rw [hE];exact ⟨by unfold maxLen;omega,by omega⟩
    have eadd:∀ a b,E.addN a b=a + b:=fun a b=>by rw [hE];rfl
    have eapp:∀ (r:List (List PV)) k x,k=r.length->E.app r k x=r++x:=fun r k x h=>by rw [hE];show r.take k++x=_;rw [h,lTL]
    have esub:∀ (x:List (List PV)) k,k=x.length->E.sub x 0 k=x:=fun x k h=>by rw [hE];show (x.drop 0).take k=x;rw [h,lDZ,lTL]
    have ewr:∀ n:Int,E.wrap .u32 n=IntKind.u32.wrap n:=fun n=>by rw [hE];rfl
    have eshr:∀ (n b:Int) (k:Int),n.fdiv (2 ^ (min b.toNat IntKind.i32.bits))=k->E.shr .i32 n b=k:=fun n b k h=>by rw [hE];exact h
    have et:∀ x:Int,E.bor .u8 128 (E.band .u8 (E.wrap .u8 x) 63)=128 + x % 64:=fun x=>by rw [hE];exact zf4 x
    have q6:E.ple 0 6:=by rw [hE];show (0:Int)<=6;omega
    have q12:E.ple 0 12:=by rw [hE];show (0:Int)<=12;omega
    have q18:E.ple 0 18:=by rw [hE];show (0:Int)<=18;omega
    have cu:=ewr n;rw [zd5 (by omega) (by omega)] at cu
    have d1:E.lei n 2047=false:=by rw [ele];exact dF a1
    have s6:=eshr n 6 _ n64;have s12:=eshr n 12 _ n4096;have b1:E.bor .u8 224 (E.wrap .u8 (n / 4096))=y1:=by rw [hE,<- hy1];exact z8c _ (by omega) (by omega)
    have b2:=et (n / 64);rw [hy2] at b2;have b3:=et n;rw [hy3] at b3;have d2:E.lti n 55296=decide (n < 55296):=elt _ _;have d3:E.lti 57343 n=decide (57343 < n):=elt _ _;have d4:E.lei n 65535=true:=by rw [ele];exact dT a5
    obtain ⟨x6,hx6⟩:∃ x:Int,n / 64=x:=⟨_,rfl⟩
    rw [hx6] at s6 b2;obtain ⟨x12,hx12⟩:∃ x:Int,n / 4096=x:=⟨_,rfl⟩
    rw [hx12] at s12 b1;clear hx6 hx12;rw [dF a3] at d2;rw [dT (show 57343 < n by omega)] at d3
    have p5:=epre rs m (by omega)
    have p4:=eroom m 3 (by omega) (by omega)
    have a2:=eadd m 3;rw [hM] at a2;have r3:=eapp rs m [p8 y1,p8 y2,p8 y3] hml;rw [hRS] at r3;have r0:=esub [p8 y1,p8 y2,p8 y3] 3 rfl;have p0:=epre [p8 y1,p8 y2,p8 y3] 3 (nR _);clear elt ele epre eroom eadd eapp esub ewr eshr et hE hc hM3 henc hRS hM hRS2 hM2 hml hrs hm hb n64 n4096 n262144 h0 h1 hs hy1 hy2 hy3 a1 a5 a3;cbv
    repeat (first|(simp only [cu];cbv)|simp only [cu]|(simp only [d1];cbv)|simp only [d1]|(simp only [d2];cbv)|simp only [d2]|(simp only [d3];cbv)|simp only [d3]|(simp only [d4];cbv)|simp only [d4]|(refine ⟨q12,q6,?_⟩;cbv)|(simp only [s12];cbv)|simp only [s12]|(simp only [b1];cbv)|simp only [b1]|(simp only [s6];cbv)|simp only [s6]|(simp only [b2];cbv)|simp only [b2]|(simp only [b3];cbv)|simp only [b3]|(refine ⟨p0,p5,p4,?_⟩;cbv)|(simp only [r0,r3,a2];cbv)|simp only [r0,r3,a2])
    all_goals trivial
  ·skip
   obtain ⟨y1,hy1⟩:∃ x:Int,240 + n / 262144=x:=⟨_,rfl⟩
   obtain ⟨y2,hy2⟩:∃ x:Int,128 + n / 4096 % 64=x:=⟨_,rfl⟩
   obtain ⟨y3,hy3⟩:∃ x:Int,128 + n / 64 % 64=x:=⟨_,rfl⟩
   obtain ⟨y4,hy4⟩:∃ x:Int,128 + n % 64=x:=⟨_,rfl⟩
   have henc:=zyq (r:=n) (by omega) h1
   rw [hy1,hy2,hy3,hy4] at henc;have hRS:rs++[p8 y1,p8 y2,p8 y3,p8 y4]=lR (l++encL n):=by rw [zqi,henc,hrs]
   have hM:m + 4=(l++encL n).length:=by
    have h5:=congrArg List.length henc;rw [zmh] at h5;rw [lLA,hm,h5];rfl
   obtain ⟨RS,hRS2⟩:∃ x,lR (l++encL n)=x:=⟨_,rfl⟩
   obtain ⟨M,hM2⟩:∃ x,(l++encL n).length=x:=⟨_,rfl⟩
   rw [hRS2] at hRS;rw [hM2] at hM;rw [hRS2,hM2];refine zhx zaa mixed (fun _=>0) Tryz.func150 rfl (by kernel_rfl) (by kernel_rfl) rfl fun P G E hc hM3 hE t0=>?_
   have elt:=zw5 hE;have ele:∀ a b,E.lei a b=decide (a<=b):=fun a b=>by rw [hE];rfl
   have epre:∀ (r:List (List PV)) k,k<=r.length->E.pre 0 k r:=fun r k h=>by rw [hE];show 0 + k<=r.length;omega
   have eroom:∀ k j,k<=2000000000->j<=4->E.room k j 1:=fun k j h h'=>by rw [hE];exact ⟨by unfold maxLen;omega,by omega⟩
   have eadd:∀ a b,E.addN a b=a + b:=fun a b=>by rw [hE];rfl
   have eapp:∀ (r:List (List PV)) k x,k=r.length->E.app r k x=r++x:=fun r k x h=>by rw [hE];show r.take k++x=_;rw [h,lTL]
   have esub:∀ (x:List (List PV)) k,k=x.length->E.sub x 0 k=x:=fun x k h=>by rw [hE];show (x.drop 0).take k=x;rw [h,lDZ,lTL]
   have ewr:∀ n:Int,E.wrap .u32 n=IntKind.u32.wrap n:=fun n=>by rw [hE];rfl
   have eshr:∀ (n b:Int) (k:Int),n.fdiv (2 ^ (min b.toNat IntKind.i32.bits))=k->E.shr .i32 n b=k:=fun n b k h=>by rw [hE];exact h
   have et:∀ x:Int,E.bor .u8 128 (E.band .u8 (E.wrap .u8 x) 63)=128 + x % 64:=fun x=>by rw [hE];exact zf4 x
   have q6:E.ple 0 6:=by rw [hE];show (0:Int)<=6;omega
   have q12:E.ple 0 12:=by rw [hE];show (0:Int)<=12;omega
   have q18:E.ple 0 18:=by rw [hE];show (0:Int)<=18;omega
   have cu:=ewr n;rw [zd5 (by omega) (by omega)] at cu
   have d1:E.lei n 2047=false:=by rw [ele];exact dF a1
   have s6:=eshr n 6 _ n64;have s12:=eshr n 12 _ n4096;have s18:=eshr n 18 _ n262144;have b1:E.bor .u8 240 (E.wrap .u8 (n / 262144))=y1:=by rw [hE,<- hy1];exact head4 _ (by omega) (by omega)
   have b2:=et (n / 4096);rw [hy2] at b2;have b3:=et (n / 64);rw [hy3] at b3;have b4:=et n;rw [hy4] at b4;have d2:E.lti n 55296=false:=by rw [elt];exact dF (by omega)
   have d3:E.lti 57343 n=true:=by rw [elt];exact dT (by omega)
   have d4:E.lei n 65535=false:=by rw [ele];exact dF a5
   have d5:E.lti 65535 n=true:=by rw [elt];exact dT (by omega)
   have d6:E.lei n 1114111=true:=by rw [ele];exact dT h1
   obtain ⟨x6,hx6⟩:∃ x:Int,n / 64=x:=⟨_,rfl⟩
   rw [hx6] at s6 b3;obtain ⟨x12,hx12⟩:∃ x:Int,n / 4096=x:=⟨_,rfl⟩
   rw [hx12] at s12 b2;obtain ⟨x18,hx18⟩:∃ x:Int,n / 262144=x:=⟨_,rfl⟩
   rw [hx18] at s18 b1;clear hx6 hx12 hx18;have p5:=epre rs m (by omega)
   have p4:=eroom m 4 (by omega) (by omega)
   have a2:=eadd m 4;rw [hM] at a2;have r3:=eapp rs m [p8 y1,p8 y2,p8 y3,p8 y4] hml;rw [hRS] at r3;have r0:=esub [p8 y1,p8 y2,p8 y3,p8 y4] 4 rfl;have p0:=epre [p8 y1,p8 y2,p8 y3,p8 y4] 4 (nR _);clear elt ele epre eroom eadd eapp esub ewr eshr et hE hc hM3 henc hRS hM hRS2 hM2 hml hrs hm hb n64 n4096 n262144 h0 h1 hs hy1 hy2 hy3 hy4 a1 a5;cbv
   repeat (first|(simp only [cu];cbv)|simp only [cu]|(simp only [d1];cbv)|simp only [d1]|(simp only [d2];cbv)|simp only [d2]|(simp only [d3];cbv)|simp only [d3]|(simp only [d4];cbv)|simp only [d4]|(simp only [d5];cbv)|simp only [d5]|(simp only [d6];cbv)|simp only [d6]|(refine ⟨q18,q12,q6,?_⟩;cbv)|(simp only [s18];cbv)|simp only [s18]|(simp only [b1];cbv)|simp only [b1]|(simp only [s12];cbv)|simp only [s12]|(simp only [b2];cbv)|simp only [b2]|(simp only [s6];cbv)|simp only [s6]|(simp only [b3];cbv)|simp only [b3]|(simp only [b4];cbv)|simp only [b4]|(refine ⟨p0,p5,p4,?_⟩;cbv)|(simp only [r0,r3,a2];cbv)|simp only [r0,r3,a2])
   all_goals trivial
set_option maxHeartbeats 2000000 in
theorem zqy (n:Int) (h0:0<=n) (h1:n<=1114111) (hs:¬ (55296<=n/\n<=57343)) (l:List UInt8) (hb:l.length<=1000000000) :
  VM 139 [.osl 0 0 l.length,.p (.v (.int .i32 n))] [some (.rows 1 (lR l) 5)] (.osl 0 0 (l++encL n).length) [some (.rows 1 (lR (l++encL n)) 5)]:=by
 rcases cEm (n<=127) with a1|a1
 ·obtain ⟨rs,hrs⟩:∃ x,lR l=x:=⟨_,rfl⟩
  obtain ⟨m,hm⟩:∃ x,l.length=x:=⟨_,rfl⟩
  have hml:m=rs.length:=by rw [<-hm,<- hrs,zmh]
  rw [hrs,hm];rw [hm] at hb;have henc:=z1s h0 a1;have hRS:rs++[p8 n]=lR (l++encL n):=by rw [zqi,henc,hrs]
  have hM:m + 1=(l++encL n).length:=by
   have h5:=congrArg List.length henc;rw [zmh] at h5;rw [lLA,hm,h5];rfl
  obtain ⟨RS,hRS2⟩:∃ x,lR (l++encL n)=x:=⟨_,rfl⟩
  obtain ⟨M,hM2⟩:∃ x,(l++encL n).length=x:=⟨_,rfl⟩
  rw [hRS2] at hRS;rw [hM2] at hM;rw [hRS2,hM2];refine zhx zaa mixed (fun _=>0) Tryz.func139 rfl (by kernel_rfl) (by kernel_rfl) rfl fun P G E hc hM3 hE t0=>?_
  have elt:=zw5 hE;have ele:∀ a b,E.lei a b=decide (a<=b):=fun a b=>by rw [hE];rfl
  have epre:∀ (r:List (List PV)) k,k<=r.length->E.pre 0 k r:=fun r k h=>by rw [hE];show 0 + k<=r.length;omega
  have eroom:∀ k j,k<=2000000000->j<=4->E.room k j 1:=fun k j h h'=>by rw [hE];exact ⟨by unfold maxLen;omega,by omega⟩
  have eadd:∀ a b,E.addN a b=a + b:=fun a b=>by rw [hE];rfl
  have eapp:∀ (r:List (List PV)) k x,k=r.length->E.app r k x=r++x:=fun r k x h=>by rw [hE];show r.take k++x=_;rw [h,lTL]
  have esub:∀ (x:List (List PV)) k,k=x.length->E.sub x 0 k=x:=fun x k h=>by rw [hE];show (x.drop 0).take k=x;rw [h,lDZ,lTL]
  have ewr:∀ n:Int,E.wrap .u32 n=IntKind.u32.wrap n:=fun n=>by rw [hE];rfl
  have eshr:∀ (n b:Int) (k:Int),n.fdiv (2 ^ (min b.toNat IntKind.i32.bits))=k->E.shr .i32 n b=k:=fun n b k h=>by rw [hE];exact h
  have et:∀ x:Int,E.bor .u8 128 (E.band .u8 (E.wrap .u8 x) 63)=128 + x % 64:=fun x=>by rw [hE];exact zf4 x
  have q6:E.ple 0 6:=by rw [hE];show (0:Int)<=6;omega
  have q12:E.ple 0 12:=by rw [hE];show (0:Int)<=12;omega
  have q18:E.ple 0 18:=by rw [hE];show (0:Int)<=18;omega
  have cu:=ewr n;rw [zd5 (by omega) (by omega)] at cu
  have d1:E.lei n 127=true:=by rw [ele];exact dT a1
  have b1:E.wrap .u8 n=n:=by rw [hE];show IntKind.u8.wrap n=n;rw [zeg];omega
  have p5:=epre rs m (by omega)
  have p4:=eroom m 1 (by omega) (by omega)
  have a2:=eadd m 1;rw [hM] at a2;have r3:=eapp rs m [p8 n] hml;rw [hRS] at r3;have r0:=esub [p8 n] 1 rfl;have p0:=epre [p8 n] 1 (nR _);clear elt ele epre eroom eadd eapp esub ewr eshr et hE hc hM3 henc hRS hM hRS2 hM2 hml hrs hm hb h0 h1 hs a1;cbv
  repeat (first|(simp only [cu];cbv)|simp only [cu]|(simp only [d1];cbv)|simp only [d1]|(simp only [b1];cbv)|simp only [b1]|(refine ⟨p0,p5,p4,?_⟩;cbv)|(simp only [r0,r3,a2];cbv)|simp only [r0,r3,a2])
  all_goals trivial
 ·have hn:=zuw n (by omega) h1 hs l hb
  obtain ⟨rs,hrs⟩:∃ x,lR l=x:=⟨_,rfl⟩
  obtain ⟨m,hm⟩:∃ x,l.length=x:=⟨_,rfl⟩
  obtain ⟨RS,hRS2⟩:∃ x,lR (l++encL n)=x:=⟨_,rfl⟩
  obtain ⟨M,hM2⟩:∃ x,(l++encL n).length=x:=⟨_,rfl⟩
  rw [hrs,hm,hRS2,hM2] at hn;rw [hrs,hm,hRS2,hM2];refine zhx zaa mixed (fun _=>0) Tryz.func139 rfl (by kernel_rfl) (by kernel_rfl) rfl fun P G E hc hM3 hE t0=>?_
  have cu:E.wrap .u32 n=n:=by rw [hE];exact zd5 (by omega) (by omega)
  have d1:E.lei n 127=false:=by rw [hE];exact dF a1
  replace hn:=hM3 _ _ _ _ _ hn;clear hE hc hM3 hRS2 hM2 hrs hm hb h0 h1 hs a1;cbv
  repeat (first|(simp only [cu];cbv)|simp only [cu]|(simp only [d1];cbv)|simp only [d1])
  refine .inr (.mk _ _ (Wk.refl _ _) [0] _ _ _ _ hn rfl rfl rfl ?_);cbv;all_goals trivial
set_option maxHeartbeats 2000000 in
theorem zil (A:AV) (hA:zjz A) (l:List UInt8) (c:UInt8) (z:Int) (hz:((c.toNat:Nat):Int)=z) (hb:l.length<=1000000000) :
  VM 117 [.own 0 0,.p (.v (.int .u8 z))] (bH A l) (.p (.v .nilIface)) (bH (.own 0 0) (l++[c])):=by
 have hcc:=zmu A hA l;unfold bH at hcc ⊢;obtain ⟨rs,hrs⟩:∃ x,lR l=x:=⟨_,rfl⟩
 obtain ⟨m,hm⟩:∃ x,l.length=x:=⟨_,rfl⟩
 have hml:m=rs.length:=by rw [<-hm,<- hrs,zmh]
 rw [hrs,hm] at hcc;rw [hrs,hm];rw [hm] at hb;have hone:lR [c]=[p8 z]:=by unfold lR;rw [<-hz];rfl
 have hRS:rs++[p8 z]=lR (l++[c]):=by rw [zqi,hone,hrs]
 have hM:m + 1=(l++[c]).length:=by rw [lLA,hm];rfl
 obtain ⟨RS,hRS2⟩:∃ x,lR (l++[c])=x:=⟨_,rfl⟩
 obtain ⟨M,hM2⟩:∃ x,(l++[c]).length=x:=⟨_,rfl⟩
 rw [hRS2] at hRS;rw [hM2] at hM;rw [hRS2,hM2];clear hz
 rcases hA with rfl|rfl
 all_goals
  refine zad zaa (f:=117) Tryz.func117 rfl (by kernel_rfl) (oT (by kernel_rfl)) fun tags htl=>?_
  match tags,htl with
  | [t0,t1],_ =>
   refine Seg.of zaa mixed (fun _=>0) (by kernel_rfl) (fun E=>za0 E tyT Tryz.f117.results.toList [t0,t1] (.p (.v .nilIface)) [some (.box [.own 0 0,.osl 1 0 M] 60 none),some (.rows 1 RS 5)]) fun P G E hc hM3 hE=>?_
   have elt:=zw5 hE;have ele:∀ a b,E.lei a b=decide (a<=b):=fun a b=>by rw [hE];rfl
   have epre:∀ (r:List (List PV)) k,k<=r.length->E.pre 0 k r:=fun r k h=>by rw [hE];show 0 + k<=r.length;omega
   have eroom:∀ k j,k<=2000000000->j<=4->E.room k j 1:=fun k j h h'=>by rw [hE];exact ⟨by unfold maxLen;omega,by omega⟩
   have eadd:∀ a b,E.addN a b=a + b:=fun a b=>by rw [hE];rfl
   have eapp:∀ (r:List (List PV)) k x,k=r.length->E.app r k x=r++x:=fun r k x h=>by rw [hE];show r.take k++x=_;rw [h,lTL]
   have esub:∀ (x:List (List PV)) k,k=x.length->E.sub x 0 k=x:=fun x k h=>by rw [hE];show (x.drop 0).take k=x;rw [h,lDZ,lTL]
   have ewr:∀ n:Int,E.wrap .u32 n=IntKind.u32.wrap n:=fun n=>by rw [hE];rfl
   have eshr:∀ (n b:Int) (k:Int),n.fdiv (2 ^ (min b.toNat IntKind.i32.bits))=k->E.shr .i32 n b=k:=fun n b k h=>by rw [hE];exact h
   have et:∀ x:Int,E.bor .u8 128 (E.band .u8 (E.wrap .u8 x) 63)=128 + x % 64:=fun x=>by rw [hE];exact zf4 x
   have q6:E.ple 0 6:=by rw [hE];show (0:Int)<=6;omega
   have q12:E.ple 0 12:=by rw [hE];show (0:Int)<=12;omega
   have q18:E.ple 0 18:=by rw [hE];show (0:Int)<=18;omega
   replace hcc:=hM3 _ _ _ _ _ hcc;have p5:=epre rs m (by omega)
   have p4:=eroom m 1 (by omega) (by omega)
   have a2:=eadd m 1;rw [hM] at a2;have r3:=eapp rs m [p8 z] hml;rw [hRS] at r3;have r0:=esub [p8 z] 1 rfl;have p0:=epre [p8 z] 1 (nR _);clear elt ele epre eroom eadd eapp esub ewr eshr et hE hc hM3 hone hRS hM hRS2 hM2 hml hrs hm hb q6 q12 q18;cbv;refine .mk _ _ (Wk.refl _ _) [0,1] _ _ _ _ hcc rfl rfl rfl ?_;cbv
   repeat (first|(refine ⟨p0,p5,p4,?_⟩;cbv)|(simp only [r0,r3,a2];cbv)|simp only [r0,r3,a2])
   all_goals trivial
set_option maxHeartbeats 2000000 in
theorem zlt (A:AV) (hA:zjz A) (n:Int) (h0:0<=n) (h1:n<=1114111) (hs:¬ (55296<=n/\n<=57343)) (l:List UInt8) (hb:l.length<=1000000000) :
  VM 123 [.own 0 0,.p (.v (.int .i32 n))] (bH A l) (.p (.tup [pI ((encL n).length:Nat),.v .nilIface])) (bH (.own 0 0) (l++encL n)):=by
 have hcc:=zmu A hA l;have har:=zqy n h0 h1 hs l hb;have h4:=zff n;have hla:(l++encL n).length=l.length + (encL n).length:=lLA;unfold bH at hcc ⊢;obtain ⟨rs,hrs⟩:∃ x,lR l=x:=⟨_,rfl⟩
 obtain ⟨m,hm⟩:∃ x,l.length=x:=⟨_,rfl⟩
 obtain ⟨RS,hRS2⟩:∃ x,lR (l++encL n)=x:=⟨_,rfl⟩
 obtain ⟨M,hM2⟩:∃ x,(l++encL n).length=x:=⟨_,rfl⟩
 obtain ⟨k,hk0⟩:∃ x:Int,(((encL n).length:Nat):Int)=x:=⟨_,rfl⟩
 rw [hrs,hm] at hcc;rw [hrs,hm,hRS2,hM2] at har;rw [hrs,hm,hRS2,hM2,hk0];have hk:((M:Nat):Int) - ((m:Nat):Int)=k:=by omega
 have hMb:M<=1000000004:=by omega
 clear h4 hla hk0 h0 h1 hs
 rcases hA with rfl|rfl
 all_goals
  refine zad zaa (f:=123) Tryz.func123 rfl (by kernel_rfl) (oT (by kernel_rfl)) fun tags htl=>?_
  match tags,htl with
  | [t0,t1],_ =>
   refine Seg.of zaa mixed (fun _=>0) (by kernel_rfl) (fun E=>za0 E tyT Tryz.f123.results.toList [t0,t1] (.p (.tup [pI k,.v .nilIface])) [some (.box [.own 0 0,.osl 1 0 M] 60 none),some (.rows 1 RS 5)]) fun P G E hc hM3 hE=>?_
   replace hcc:=hM3 _ _ _ _ _ hcc;replace har:=hM3 _ _ _ _ _ har;have z1:E.wsub .i64 (E.ofN M) (E.ofN m)=k:=by
    rw [hE,<- hk];exact zaf (n:=((M:Nat):Int) - ((m:Nat):Int)) (by omega) (by omega)
   clear hE hc hM3 hRS2 hM2 hrs hm hb hk hMb;cbv;refine .mk _ _ (Wk.refl _ _) [0,1] _ _ _ _ hcc rfl rfl rfl ?_;cbv;refine .inr (.mk _ _ (Wk.refl _ _) [1] _ _ _ _ har rfl rfl rfl ?_);cbv
   repeat (first|(simp only [z1];cbv)|simp only [z1])
   all_goals trivial
end Go.Proofs.YtcfecmeocimclaaGreatDoor
