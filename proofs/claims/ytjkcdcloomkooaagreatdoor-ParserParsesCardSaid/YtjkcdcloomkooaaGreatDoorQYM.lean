/- Own work: walks and laws of the parser and its reference. -/
import Derived.Test.YtjkcdcloomkooaaGreatDoorQYL
import Derived.Shelf.Strings.BuilderRune
import Derived.Shelf.Strings.BuilderK
import Derived.WalkKit
import Derived.BigCall
import Derived.Lib.ParseIntBTie
import Derived.Lib.AtoiErrMem
set_option linter.unusedVariables false
set_option linter.unusedSimpArgs false
set_option linter.unusedSectionVars false
set_option maxHeartbeats 4000000
set_option maxRecDepth 100000
namespace Go.Proofs.YtjkcdcloomkooaaGreatDoor
end Go.Proofs.YtjkcdcloomkooaaGreatDoor
namespace Go.Proofs
open Go.Proofs.YtjkcdcloomkooaaGreatDoor
open Go.Shelf
def Tryz.laysWR_ren:Go.Shelf.Ren:=⟨fun|168=>146|240=>148|242=>161|276=>163|278=>172|n=>n,
 fun|0=>0|3=>3|4=>4|5=>5|9=>9|20=>20|21=>21|37=>115|46=>109|51=>129|70=>114|72=>117|75=>111|80=>77|164=>139|n=>n,fun|n=>n⟩
theorem Tryz.laysWR:Go.Proofs.Lays.n168 Tryz.prog Tryz.laysWR_ren:={
 mixed:=cM
 f168:=Tryz.func146.trans (aG some kR)
 f240:=Tryz.func148.trans (aG some kR)
 f242:=Tryz.func161.trans (aG some kR)
 f276:=Tryz.func163.trans (aG some kR)
 f278:=Tryz.func172.trans (aG some kR)
 t0:=Tryz.underlying0
 a0:=Tryz.isAgg0
 z0:=Tryz.sizeOf0
 v0:=Tryz.zeroValue0
 t3:=Tryz.underlying3
 a3:=Tryz.isAgg3
 z3:=Tryz.sizeOf3
 v3:=Tryz.zeroValue3
 t4:=Tryz.underlying4
 a4:=Tryz.isAgg4
 z4:=Tryz.sizeOf4
 v4:=Tryz.zeroValue4
 t5:=Tryz.underlying5
 a5:=Tryz.isAgg5
 z5:=Tryz.sizeOf5
 v5:=Tryz.zeroValue5
 t9:=Tryz.underlying9
 a9:=Tryz.isAgg9
 z9:=Tryz.sizeOf9
 v9:=Tryz.zeroValue9
 t20:=Tryz.underlying20
 a20:=Tryz.isAgg20
 z20:=Tryz.sizeOf20
 v20:=Tryz.zeroValue20
 t21:=Tryz.underlying21
 a21:=Tryz.isAgg21
 z21:=Tryz.sizeOf21
 v21:=Tryz.zeroValue21
 t37:=Tryz.underlying115
 a37:=Tryz.isAgg115
 z37:=Tryz.sizeOf115
 v37:=Tryz.zeroValue115
 t46:=Tryz.underlying109
 a46:=Tryz.isAgg109
 z46:=Tryz.sizeOf109
 v46:=Tryz.zeroValue109
 t51:=Tryz.underlying129
 a51:=Tryz.isAgg129
 z51:=Tryz.sizeOf129
 v51:=Tryz.zeroValue129
 t70:=Tryz.underlying114
 a70:=Tryz.isAgg114
 z70:=Tryz.sizeOf114
 v70:=Tryz.zeroValue114
 t72:=Tryz.underlying117
 a72:=Tryz.isAgg117
 z72:=Tryz.sizeOf117
 v72:=Tryz.zeroValue117
 t75:=Tryz.underlying111
 a75:=Tryz.isAgg111
 z75:=Tryz.sizeOf111
 v75:=Tryz.zeroValue111
 t164:=Tryz.underlying139
 a164:=Tryz.isAgg139
 z164:=Tryz.sizeOf139
 v164:=Tryz.zeroValue139 }
theorem Tryz.Builder_Extra_WR:Builder.Extra Tryz.prog Tryz.laysWR_ren:={
 sizeBuilder:=cM
 liesBuilder:=cM
 t5:=Tryz.underlying5
 a5:=Tryz.isAgg5
 z5:=Tryz.sizeOf5
 v5:=Tryz.zeroValue5
 infoByte:=cM
 cellsByte:=cM
 sizeByte:=cM
 neB5:=by decide }
end Go.Proofs
namespace Go.Proofs.YtjkcdcloomkooaaGreatDoor
open Go.Proofs.YtjkcdcloomkooaaGreatDoor
open Go.RowKit
set_option maxRecDepth 100000
set_option linter.unusedSimpArgs false
theorem xfo(b:Nat)(w:World)(h0:w.cell? ⟨b,0,none⟩=some (.pointer (some ⟨b,0,none⟩))):
  Calls Tryz.prog 148 #[.pointer (some ⟨b,0,none⟩)] w fun e w'=>e=.returned (.tuple #[])/\w'=w:=Any.Builder_copyCheck_used { Tryz.laysWR with } Tryz.Builder_Extra_WR.toX72 b w h0
theorem xai(b:Nat)(w:World)(h0:w.cell? ⟨b,0,none⟩=some (.pointer none))(rP:w.shape? b=some (117,2))(HO:w.frozen? ⟨b,0,none⟩=false):
  Calls Tryz.prog 148 #[.pointer (some ⟨b,0,none⟩)] w fun e w'=>e=.returned (.tuple #[])/\w'=w.setCell ⟨b,0,none⟩ (.pointer (some ⟨b,0,none⟩)):=Any.Builder_copyCheck_fresh { Tryz.laysWR with } Tryz.Builder_Extra_WR.toX72 b w h0 rP HO
def bH(A:AV)(l:List UInt8):AH:=[some (.box [A,.osl 1 0 l.length] 117 none),some (.rows 1 (lR l) 5)]
def j7(A:AV):Prop:=A=.p (.v (.pointer none))\/A=.own 0 0
theorem Pp(A:AV)(hA:j7 A)(l:List UInt8):VM 148 [.own 0 0] (bH A l) (.p (.tup [])) (bH (.own 0 0) l):=by
 refine⟨fun args w=>AN Tryz.func148 rfl kR args w,fun B w ι args tags cC hC hR hlen eG=>?_⟩
 match tags,cC with
 |[t0,t1],_=>
  match args,hlen with
  |[v],_=>
   have hv:=eG 0 _ _ rfl rfl
   cases hv with
   |own _ _ c s hi=>
    have hk:(dE [t0,t1] (bH A l))[0]?=some (some (.box [A,.osl 1 0 l.length] 117 (some t0))):=rfl;obtain⟨hg,c',arr,ec,hb,jA,dC⟩:=(hR.blk 0 _ _ s hk hi).2
    cases ec
    obtain⟨u,hu,gG,D0⟩:=dC 0 A rfl;obtain⟨u2,gM,WE,qt⟩:=dC 1 _ rfl;have gJ:w.cell? ⟨c,0,none⟩=some u:=by rw[ku hb];exact hu
    rcases hA with rfl|rfl
    ·have eu:u=.pointer none:=jW D0;subst eu;refine(xai c w gJ (by simp[World.shape?,hb,jA]) (by simp[World.frozen?,hb])).mono ?_
     rintro e w' ⟨rfl,rfl⟩
     have XO:(w.setCell ⟨c,0,none⟩ (.pointer (some ⟨c,0,none⟩))).heap[c]?=some (.cells (arr.setIfInBounds 0 (.pointer (some ⟨c,0,none⟩))) 117 (0,0)):=by
      simp[World.setCell,Array.getElem?_modify,hb]
     have:=hR.upd hk hi (b':=.box [.own 0 0,.osl 1 0 l.length] 117 (some t0)) (w':=w.setCell ⟨c,0,none⟩ (.pointer (some ⟨c,0,none⟩))) rfl rfl rfl (by simp[World.setCell])
      (fun d hd=>by simp[World.setCell,Array.getElem?_modify,iW hd])
      (fun R' iK=>⟨hg,c,_,rfl,XO,by simpa using jA,fun m a ha=>by
       rcases m with _|_|m
       ·simp at ha;subst ha;refine⟨.pointer (some ⟨c,0,none⟩),?_,rfl,.own 0 0 c s hi⟩
        grind
       ·simp at ha;subst ha;refine⟨u2,?_,WE,qt.keep0 iK⟩;simp[gM]
       ·simp at ha⟩)
     exact⟨ι,this.1,ak.ret (.p _ _ (.tup [] [] rfl fun j a v h=>by simp at h))⟩
    ·generalize HL:u=u' at D0
     cases D0 with
     |own _ _ c2 s2 nF=>
      rw[hi]at nF
      cases nF
      subst HL;refine(xfo c w gJ).mono ?_
      rintro e w' ⟨rfl,rfl⟩
      exact⟨ι,hR,ak.ret (.p _ _ (.tup [] [] rfl fun j a v h=>by simp at h))⟩
theorem Dw(w:World)(o:Option Nat):w.grownBy w.drew o:=⟨rfl,rfl,rfl,nR _,fun _ _ _=>rfl⟩
theorem z5f(w:World)(g n:Nat):w.grownBy (w.drew.freeze ⟨g,0,none⟩ n) (some g):=by
 unfold World.freeze
 split
 ·exact Dw w _
 ·refine⟨rfl,rfl,rfl,?_,fun k hk dN=>?_⟩
  ·simp_all
  ·have yk:g≠k:=fun e=>dN (by rw[e])
   show(w.heap.modify g _)[k]?=_
   grind
theorem xfa(w:World)(o:Obj)(r:Option Nat):w.grownBy (w.drew.alloc o) r:=⟨rfl,rfl,rfl,by
 simp_all,fun k hk _=>Lib.alloc_old w.drew o k hk⟩
set_option maxHeartbeats 2000000 in
theorem zyy(b g cap:Nat)(l:List UInt8)(p:Value)(w:World)(arr:Array Value)(ha:arr=#[p,.slice (some ⟨g,0,none⟩) l.length cap])(yC:w.heap[b]?=some (.cells arr 117 (0,0)))(h0:l≠[])(cur:Array Value)(hg:w.heap[g]?=some (.cells cur 5 (0,0)))
  (XC:l.length<=cur.size) (tR:l.length<=9223372036854775807) (pQ:cap≠0) (gJ:∀(j:Nat)(x:UInt8),l[j]?=some x->cur[j]?=some (.int .u8 (x.toNat:Nat))):
  Calls Tryz.prog 133 #[.pointer (some ⟨b,0,none⟩)] w fun e w'=>e=.returned (.string ⟨l.toArray⟩)/\w.grownBy w' (some g):=by
 subst ha;have c1:w.drew.cell? ⟨b,1,none⟩=some (.slice (some ⟨g,0,none⟩) l.length cap):=by
  have:w.drew.heap[b]?=some (.cells #[p,.slice (some ⟨g,0,none⟩) l.length cap] 117 (0,0)):=yC
  exact VF
 have Mp:(Builtin.unsafeSliceData_ #[115] 125 #[.slice (some ⟨g,0,none⟩) l.length cap]).run Tryz.prog w.drew=.ok (.pointer (some ⟨g,0,none⟩)) w.drew:=
  Lib.run_unsafeSliceData_row _ _ _ _ _ _ pQ
 have Ml:(Builtin.unsafeString_ #[125,3] 9 #[.pointer (some ⟨g,0,none⟩),.int .i64 l.length]).run Tryz.prog w.drew=.ok (.string ⟨l.toArray⟩) (w.drew.freeze ⟨g,0,none⟩ l.length):=by
  refine Lib.run_unsafeString_row w.drew 125 3 9 5 Tryz.underlying125 Tryz.Builder_Extra_169.cellsByte g cur.size Ur l h0 XC tR ?_
  intro j x hx;rw[Addr.add_lit];have yr:w.drew.heap[g]?=some (.cells cur 5 (0,0)):=hg;rw[Lib.cell_of_heap yr]
  grind
 have mixed:=mixed
 go_enter Tryz.func133,Tryz.ntmps133
 go_wp2
 go_region_o
 all_goals (go_wp2;go_ret;exact⟨rfl,z5f _ _ _⟩)
set_option maxHeartbeats 2000000 in
theorem zyz(b:Nat)(p:Value)(w:World)(arr:Array Value)(ha:arr=#[p,.slice none 0 0])(yC:w.heap[b]?=some (.cells arr 117 (0,0))):
  Calls Tryz.prog 133 #[.pointer (some ⟨b,0,none⟩)] w fun e w'=>e=.returned (.string ⟨#[]⟩)/\∀r,w.grownBy w' r:=by
 subst ha;have Ml:∀(W:World)(q:Option Addr),(Builtin.unsafeString_ #[125,3] 9 #[.pointer q,.int .i64 0]).run Tryz.prog W=.ok (.string .empty) W:=fun W q=>Lib.run_unsafeString_none W _ _ _ q
 have c1:w.drew.cell? ⟨b,1,none⟩=some (.slice none 0 0):=by
  have:w.drew.heap[b]?=some (.cells #[p,.slice none 0 0] 117 (0,0)):=yC
  exact VF
 have Mp:(Builtin.unsafeSliceData_ #[115] 125 #[.slice none 0 0]).run Tryz.prog w.drew=.ok (.pointer none) w.drew:=rfl;have mixed:=mixed
 go_wp2
 go_region_o
 all_goals (go_wp2;go_ret;exact⟨rfl,fun r=>Dw w r⟩)
set_option maxHeartbeats 2000000 in
theorem zva(b g cap:Nat)(p:Value)(w:World)(arr:Array Value)(ha:arr=#[p,.slice (some ⟨g,0,none⟩) 0 cap])(yC:w.heap[b]?=some (.cells arr 117 (0,0)))(pQ:cap≠0):
  Calls Tryz.prog 133 #[.pointer (some ⟨b,0,none⟩)] w fun e w'=>e=.returned (.string ⟨#[]⟩)/\∀r,w.grownBy w' r:=by
 subst ha;have Ml:∀(W:World)(q:Option Addr),(Builtin.unsafeString_ #[125,3] 9 #[.pointer q,.int .i64 0]).run Tryz.prog W=.ok (.string .empty) W:=fun W q=>Lib.run_unsafeString_none W _ _ _ q
 have c1:w.drew.cell? ⟨b,1,none⟩=some (.slice (some ⟨g,0,none⟩) 0 cap):=by
  have:w.drew.heap[b]?=some (.cells #[p,.slice (some ⟨g,0,none⟩) 0 cap] 117 (0,0)):=yC
  exact VF
 have Mp:(Builtin.unsafeSliceData_ #[115] 125 #[.slice (some ⟨g,0,none⟩) 0 cap]).run Tryz.prog w.drew=.ok (.pointer (some ⟨g,0,none⟩)) w.drew:=
  Lib.run_unsafeSliceData_row _ _ _ _ _ _ pQ
 have mixed:=mixed
 go_enter Tryz.func133,Tryz.ntmps133
 go_wp2
 go_region_o
 all_goals (go_wp2;go_ret;exact⟨rfl,fun r=>Dw w r⟩)
set_option maxHeartbeats 2000000 in
theorem zrh(b g:Nat)(p:Value)(w:World)(arr:Array Value)(ha:arr=#[p,.slice (some ⟨g,0,none⟩) 0 0])(yC:w.heap[b]?=some (.cells arr 117 (0,0)))(cur:Array Value)(hg:w.heap[g]?=some (.cells cur 5 (0,0))):
  Calls Tryz.prog 133 #[.pointer (some ⟨b,0,none⟩)] w fun e w'=>e=.returned (.string ⟨#[]⟩)/\∀r,w.grownBy w' r:=by
 subst ha;have Ml:∀(W:World)(q:Option Addr),(Builtin.unsafeString_ #[125,3] 9 #[.pointer q,.int .i64 0]).run Tryz.prog W=.ok (.string .empty) W:=fun W q=>Lib.run_unsafeString_none W _ _ _ q
 have cQ:b<w.heap.size:=n7 yC;have c1:w.drew.cell? ⟨b,1,none⟩=some (.slice (some ⟨g,0,none⟩) 0 0):=by
  have:w.drew.heap[b]?=some (.cells #[p,.slice (some ⟨g,0,none⟩) 0 0] 117 (0,0)):=yC
  exact VF
 have Mp:(Builtin.unsafeSliceData_ #[115] 125 #[.slice (some ⟨g,0,none⟩) 0 0]).run Tryz.prog w.drew=.ok (.pointer (some ⟨w.drew.heap.size,0,none⟩)) (w.drew.alloc (.view ⟨g,0,none⟩ 5)):=
  Lib.run_unsafeSliceData_zero w.drew _ _ 5 Tryz.underlying125 ⟨g,0,none⟩ 0 (5,cur.size) Ur
 have c2:(w.drew.alloc (.view ⟨g,0,none⟩ 5)).cell? ⟨b,1,none⟩=some (.slice (some ⟨g,0,none⟩) 0 0):=by
  have:(w.drew.alloc (.view ⟨g,0,none⟩ 5)).heap[b]?=_:=(Lib.alloc_old w.drew _ b cQ).trans yC
  exact VF
 have c0:w.cell? ⟨b,1,none⟩=some (.slice (some ⟨g,0,none⟩) 0 0):=c1;have mixed:=mixed
 go_enter Tryz.func133,Tryz.ntmps133
 go_wp2
 go_region_o
 all_goals (go_wp2;go_ret;exact⟨rfl,fun r=>xfa w _ r⟩)
def lS(l:List UInt8):ByteArray:=⟨l.toArray⟩
theorem xjr{l:List UInt8}{i:Nat}{x:UInt8}(h:l[i]?=some x):(lR l)[i]?=some [.v (.int .u8 (x.toNat:Nat))]:=by
 unfold lR
 grind
theorem Nn(A:AV)(l:List UInt8)(tR:l.length<=9223372036854775807):VM 133 [.own 0 0] (bH A l) (.p (pS (lS l))) [none,none]:=by
 refine⟨fun args w=>AN Tryz.func133 rfl kR args w,fun B w ι args tags cC hC hR hlen eG=>?_⟩
 match tags,cC with
 |[t0,t1],_=>
  match args,hlen with
  |[v],_=>
   have hv:=eG 0 _ _ rfl rfl
   cases hv with
   |own _ _ c s hi=>
    have hk:(dE [t0,t1] (bH A l))[0]?=some (some (.box [A,.osl 1 0 l.length] 117 (some t0))):=rfl;have zQ:(dE [t0,t1] (bH A l))[1]?=some (some (.rows 1 (lR l) 5)):=rfl;obtain⟨hg,c',arr,ec,hb,jA,dC⟩:=(hR.blk 0 _ _ s hk hi).2
    cases ec
    obtain⟨u,hu,gG,D0⟩:=dC 0 A rfl;obtain⟨u2,gM,WE,qt⟩:=dC 1 _ rfl;have cZ:∀(w':World)(g:Option Nat),(∀d,g=some d->jB ι (dE [t0,t1] (bH A l)) d)->w.grownBy w' g->eX ⟨w,jB ι (dE [t0,t1] (bH A l)),[],fun _=>none⟩ B w' ι (dE [t0,t1] [none,none]):=fun w' g MT rS=>by
     have mS:∀(k:Nat)(b:cE),¬(dE [t0,t1] [none,none])[k]?=some (some b):=fun k b h=>by
      match k,h with
      |0,h=>cases h
      |1,h=>cases h
      |k+2,h=>simp[dE,AQ]at h
     exact⟨⟨rS.os,rS.tape,rS.output,rS.size,fun k lI hx=>rS.block k lI fun e=>hx (MT k e.symm)⟩,fun b hb=>hR.fut b (aR rS.size hb),hR.len,fun k b c s h1 _=>absurd h1 (mS k b),fun k l b b' c s s' h1 _ _ _=>absurd h1 (mS k b)⟩
    have nT:∀(w':World),dG w' ι (Rd B ι (dE [t0,t1] [none,none])) (.p (pS (lS l))) (.string (lS l)):=fun w'=>.p _ _ (.v _)
    have iu:∀v2,u2=v2->arr=#[u,v2]:=fun v2 e=>by
     grind
    generalize hn:l.length=n at qt;generalize HL:u2=v2 at qt
    cases qt with
    |osl0=>
     have mX:l=[]:=aQ hn;subst mX;refine(zyz c u w arr (iu _ HL) hb).mono ?_
     rintro e w' ⟨rfl,rS⟩
     exact⟨ι,cZ w' none (fun d e=>by cases e) (rS none),ak.ret (nT w')⟩
    |osl _ _ _ c2 cap s2 nF D5 kS zF=>
     rw[Nat.zero_mul]at HL;obtain⟨es,fE,hh⟩:=(hR.blk 1 _ _ s2 zQ nF).2
     rcases hh with⟨ec,_⟩|⟨c',arr2,ec,gE,yc,Md⟩
     ·cases ec
     cases ec
     have iV:∀d,some c2=some d->jB ι (dE [t0,t1] (bH A l)) d:=fun d e=>by cases e;exact⟨1,_,s2,zQ,nF⟩
     have dR:arr2.size=cap:=aX
     rcases rH n with h0|h0
     ·subst h0;have mX:l=[]:=aQ hn;subst mX
      rcases rH cap with h1|h1
      ·subst h1;refine(zrh c c2 u w arr (iu _ HL) hb arr2 gE).mono ?_
       rintro e w' ⟨rfl,rS⟩
       exact⟨ι,cZ w' none (fun d e=>by cases e) (rS none),ak.ret (nT w')⟩
      ·refine(zva c c2 cap u w arr (iu _ HL) hb oM).mono ?_
       rintro e w' ⟨rfl,rS⟩
       exact⟨ι,cZ w' none (fun d e=>by cases e) (rS none),ak.ret (nT w')⟩
     ·subst hn;have dN:l≠[]:=fun e=>by grind
      refine(zyy c c2 cap l u w arr (iu _ HL) hb dN arr2 gE oM tR oM fun j x hx=>?_).mono ?_
      ·obtain⟨v,hv,_,hvr⟩:=Md j 0 _ _ (xjr hx) rfl
       cases hvr
       grind
      ·rintro e w' ⟨rfl,rS⟩
       exact⟨ι,cZ w' (some c2) iV rS,ak.ret (nT w')⟩
end Go.Proofs.YtjkcdcloomkooaaGreatDoor
namespace Go.Proofs.YtjkcdcloomkooaaGreatDoor
open Go.RowKit
theorem KG{n:Int}(h0:0<=n)(h1:n<4294967296):IntKind.u32.wrap n=n:=by
 have e1:((2:Int) ^ IntKind.u32.bits)=4294967296:=aN
 have e3:IntKind.u32.signed=false:=rfl;simp only[IntKind.wrap,e1,e3,cH,aK,bN];omega
abbrev p8(z:Int):List PV:=[.v (.int .u8 z)]
theorem xaa{r:Int}(h0:128<=r)(h1:r<=2047):lR (encL r)=[p8 (192+r/64),p8 (128+r%64)]:=by
 show lR (Utf8.encode r).data.toList=_;rw[ZN,Lib.encodeRuneZ_two h0 h1];rfl
theorem z0j{r:Int}(h:(2048<=r/\r<55296)\/(57343<r/\r<=65535)):lR (encL r)=[p8 (224+r/4096),p8 (128+r/64%64),p8 (128+r%64)]:=by
 show lR (Utf8.encode r).data.toList=_;rw[ZN,Lib.encodeRuneZ_three h];rfl
theorem z5u{r:Int}(h0:65536<=r)(h1:r<=1114111):lR (encL r)=[p8 (240+r/262144),p8 (128+r/4096%64),p8 (128+r/64%64),p8 (128+r%64)]:=by
 show lR (Utf8.encode r).data.toList=_;rw[ZN,Lib.encodeRuneZ_four h0 h1];rfl
theorem xab{r:Int}(h0:0<=r)(h1:r<=127):lR (encL r)=[p8 r]:=by
 show lR (Utf8.encode r).data.toList=_;rw[ZN,Lib.encodeRuneZ_one h0 h1];rfl
theorem Zv(n:Int)(h0:128<=n)(h1:n<=1114111)(hs:¬(55296<=n/\n<=57343))(l:List UInt8)(hb:l.length<=1000000000):
  VM 172 [.osl 0 0 l.length,.p (.v (.int .i32 n))] [some (.rows 1 (lR l) 5)] (.osl 0 0 (l++encL n).length) [some (.rows 1 (lR (l++encL n)) 5)]:=by
 obtain⟨rs,dY⟩:∃x,lR l=x:=⟨_,rfl⟩
 obtain⟨m,hm⟩:∃x,l.length=x:=⟨_,rfl⟩
 have qJ:m=rs.length:=by rw[<-hm,<- dY,NW]
 rw[dY,hm];rw[hm]at hb;have n64:n.fdiv (2 ^ (min (6:Int).toNat IntKind.i32.bits))=n/64:=Ji
 have n4096:n.fdiv (2 ^ (min (12:Int).toNat IntKind.i32.bits))=n/4096:=Ji
 have n262144:n.fdiv (2 ^ (min (18:Int).toNat IntKind.i32.bits))=n/262144:=Ji
 rcases dV (n<=2047)with a1|a1
 ·skip
  obtain⟨y1,sF⟩:∃x:Int,192+n/64=x:=⟨_,rfl⟩
  obtain⟨y2,rO⟩:∃x:Int,128+n%64=x:=⟨_,rfl⟩
  have sT:=xaa h0 a1;rw[sF,rO]at sT;have kV:rs++[p8 y1,p8 y2]=lR (l++encL n):=Bp
  have hM:m+2=(l++encL n).length:=by
   exact Ke
  obtain⟨RS,eA⟩:∃x,lR (l++encL n)=x:=⟨_,rfl⟩
  obtain⟨M,gA⟩:∃x,(l++encL n).length=x:=⟨_,rfl⟩
  rw[eA]at kV;rw[gA]at hM;rw[eA,gA];refine JP aU mixed (fun _=>0) Tryz.func172 rfl kR kR rfl fun P G E hc eY hE t0=>?_
  have elt:=yF hE;have ele:∀a b,E.lei a b=decide (a<=b):=fun a b=>by rw[hE];rfl
  have epre:∀(r:List (List PV)) k,k<=r.length->E.pre 0 k r:=fun r k h=>by rw[hE];show 0+k<=r.length;omega
  have eroom:∀k j,k<=2000000000->j<=4->E.room k j 1:=fun k j h h'=>by rw[hE];exact⟨by unfold maxLen;omega,by omega⟩
  have eadd:∀a b,E.addN a b=a+b:=fun a b=>by rw[hE];rfl
  have eapp:∀(r:List (List PV)) k x,k=r.length->E.app r k x=r++x:=fun r k x h=>by rw[hE];show r.take k++x=_;rw[h,lz]
  have esub:∀(x:List (List PV)) k,k=x.length->E.sub x 0 k=x:=fun x k h=>by rw[hE];show(x.drop 0).take k=x;rw[h,BD,lz]
  have ewr:∀n:Int,E.wrap .u32 n=IntKind.u32.wrap n:=fun n=>by rw[hE];rfl
  have eshr:∀(n b:Int)(k:Int),n.fdiv (2 ^ (min b.toNat IntKind.i32.bits))=k->E.shr .i32 n b=k:=fun n b k h=>by rw[hE];exact h
  have et:∀x:Int,E.bor .u8 128 (E.band .u8 (E.wrap .u8 x) 63)=128+x%64:=fun x=>by rw[hE];exact KA x
  have q6:E.ple 0 6:=LV
  have q12:E.ple 0 12:=LW
  have q18:E.ple 0 18:=LX
  have cu:=ewr n;rw[KG oM oM]at cu
  have d1:E.lei n 2047=true:=by rw[ele];exact aA a1
  have s6:=eshr n 6 _ n64;have b1:E.bor .u8 192 (E.wrap .u8 (n/64))=y1:=by rw[hE,<- sF];exact TF _ oM oM
  have b2:=et n;rw[rO]at b2;obtain⟨x6,qp⟩:∃x:Int,n/64=x:=⟨_,rfl⟩
  rw[qp]at s6 b1;clear qp;have p5:=epre rs m oM
  have p4:=eroom m 2 oM oM
  have a2:=eadd m 2;rw[hM]at a2;have r3:=eapp rs m [p8 y1,p8 y2] qJ;rw[kV]at r3;have r0:=esub [p8 y1,p8 y2] 2 rfl;have p0:=epre [p8 y1,p8 y2] 2 (nR _);clear elt ele epre eroom eadd eapp esub ewr eshr et hE hc eY sT kV hM eA gA qJ dY hm hb n64 n4096 n262144 h0 h1 hs sF rO a1;cbv
  repeat (first|(simp only[cu];try cbv)|(simp only[d1];try cbv)|(refine⟨q6,?_⟩;cbv)|(simp only[s6];try cbv)|(simp only[b1];try cbv)|(simp only[b2];try cbv)|(refine⟨p0,p5,p4,?_⟩;cbv)|(simp only[r0,r3,a2];try cbv))
  all_goals trivial
 ·rcases dV (n<=65535)with a5|a5
  ·skip
   obtain⟨y1,sF⟩:∃x:Int,224+n/4096=x:=⟨_,rfl⟩
   obtain⟨y2,rO⟩:∃x:Int,128+n/64%64=x:=⟨_,rfl⟩
   obtain⟨y3,jn⟩:∃x:Int,128+n%64=x:=⟨_,rfl⟩
   have sT:=z0j (r:=n) oM
   rw[sF,rO,jn]at sT;have kV:rs++[p8 y1,p8 y2,p8 y3]=lR (l++encL n):=Bp
   have hM:m+3=(l++encL n).length:=by
    exact Ke
   obtain⟨RS,eA⟩:∃x,lR (l++encL n)=x:=⟨_,rfl⟩
   obtain⟨M,gA⟩:∃x,(l++encL n).length=x:=⟨_,rfl⟩
   rw[eA]at kV;rw[gA]at hM;rw[eA,gA]
   rcases dV (n<55296)with a3|a3
   ·skip
    refine JP aU mixed (fun _=>0) Tryz.func172 rfl kR kR rfl fun P G E hc eY hE t0=>?_
    have elt:=yF hE;have ele:∀a b,E.lei a b=decide (a<=b):=fun a b=>by rw[hE];rfl
    have epre:∀(r:List (List PV)) k,k<=r.length->E.pre 0 k r:=fun r k h=>by rw[hE];show 0+k<=r.length;omega
    have eroom:∀k j,k<=2000000000->j<=4->E.room k j 1:=fun k j h h'=>by rw[hE];exact⟨by unfold maxLen;omega,by omega⟩
    have eadd:∀a b,E.addN a b=a+b:=fun a b=>by rw[hE];rfl
    have eapp:∀(r:List (List PV)) k x,k=r.length->E.app r k x=r++x:=fun r k x h=>by rw[hE];show r.take k++x=_;rw[h,lz]
    have esub:∀(x:List (List PV)) k,k=x.length->E.sub x 0 k=x:=fun x k h=>by rw[hE];show(x.drop 0).take k=x;rw[h,BD,lz]
    have ewr:∀n:Int,E.wrap .u32 n=IntKind.u32.wrap n:=fun n=>by rw[hE];rfl
    have eshr:∀(n b:Int)(k:Int),n.fdiv (2 ^ (min b.toNat IntKind.i32.bits))=k->E.shr .i32 n b=k:=fun n b k h=>by rw[hE];exact h
    have et:∀x:Int,E.bor .u8 128 (E.band .u8 (E.wrap .u8 x) 63)=128+x%64:=fun x=>by rw[hE];exact KA x
    have q6:E.ple 0 6:=LV
    have q12:E.ple 0 12:=LW
    have q18:E.ple 0 18:=LX
    have cu:=ewr n;rw[KG oM oM]at cu
    have d1:E.lei n 2047=false:=by rw[ele];exact dF a1
    have s6:=eshr n 6 _ n64;have s12:=eshr n 12 _ n4096;have b1:E.bor .u8 224 (E.wrap .u8 (n/4096))=y1:=by rw[hE,<- sF];exact Si _ oM oM
    have b2:=et (n/64);rw[rO]at b2;have b3:=et n;rw[jn]at b3;have d2:E.lti n 55296=decide (n<55296):=elt _ _;have d3:E.lti 57343 n=decide (57343<n):=elt _ _;have d4:E.lei n 65535=true:=by rw[ele];exact aA a5
    obtain⟨x6,qp⟩:∃x:Int,n/64=x:=⟨_,rfl⟩
    rw[qp]at s6 b2;obtain⟨x12,cp⟩:∃x:Int,n/4096=x:=⟨_,rfl⟩
    rw[cp]at s12 b1;clear qp cp;rw[aA a3]at d2;have p5:=epre rs m oM
    have p4:=eroom m 3 oM oM
    have a2:=eadd m 3;rw[hM]at a2;have r3:=eapp rs m [p8 y1,p8 y2,p8 y3] qJ;rw[kV]at r3;have r0:=esub [p8 y1,p8 y2,p8 y3] 3 rfl;have p0:=epre [p8 y1,p8 y2,p8 y3] 3 (nR _);clear elt ele epre eroom eadd eapp esub ewr eshr et hE hc eY sT kV hM eA gA qJ dY hm hb n64 n4096 n262144 h0 h1 hs sF rO jn a1 a5 a3;cbv
    repeat (first|(simp only[cu];try cbv)|(simp only[d1];try cbv)|(simp only[d2];try cbv)|(refine⟨q12,q6,?_⟩;cbv)|(simp only[s12];try cbv)|(simp only[b1];try cbv)|(simp only[s6];try cbv)|(simp only[b2];try cbv)|(simp only[b3];try cbv)|(refine⟨p0,p5,p4,?_⟩;cbv)|(simp only[r0,r3,a2];try cbv))
    all_goals trivial
   ·skip
    refine JP aU mixed (fun _=>0) Tryz.func172 rfl kR kR rfl fun P G E hc eY hE t0=>?_
    have elt:=yF hE;have ele:∀a b,E.lei a b=decide (a<=b):=fun a b=>by rw[hE];rfl
    have epre:∀(r:List (List PV)) k,k<=r.length->E.pre 0 k r:=fun r k h=>by rw[hE];show 0+k<=r.length;omega
    have eroom:∀k j,k<=2000000000->j<=4->E.room k j 1:=fun k j h h'=>by rw[hE];exact⟨by unfold maxLen;omega,by omega⟩
    have eadd:∀a b,E.addN a b=a+b:=fun a b=>by rw[hE];rfl
    have eapp:∀(r:List (List PV)) k x,k=r.length->E.app r k x=r++x:=fun r k x h=>by rw[hE];show r.take k++x=_;rw[h,lz]
    have esub:∀(x:List (List PV)) k,k=x.length->E.sub x 0 k=x:=fun x k h=>by rw[hE];show(x.drop 0).take k=x;rw[h,BD,lz]
    have ewr:∀n:Int,E.wrap .u32 n=IntKind.u32.wrap n:=fun n=>by rw[hE];rfl
    have eshr:∀(n b:Int)(k:Int),n.fdiv (2 ^ (min b.toNat IntKind.i32.bits))=k->E.shr .i32 n b=k:=fun n b k h=>by rw[hE];exact h
    have et:∀x:Int,E.bor .u8 128 (E.band .u8 (E.wrap .u8 x) 63)=128+x%64:=fun x=>by rw[hE];exact KA x
    have q6:E.ple 0 6:=LV
    have q12:E.ple 0 12:=LW
    have q18:E.ple 0 18:=LX
    have cu:=ewr n;rw[KG oM oM]at cu
    have d1:E.lei n 2047=false:=by rw[ele];exact dF a1
    have s6:=eshr n 6 _ n64;have s12:=eshr n 12 _ n4096;have b1:E.bor .u8 224 (E.wrap .u8 (n/4096))=y1:=by rw[hE,<- sF];exact Si _ oM oM
    have b2:=et (n/64);rw[rO]at b2;have b3:=et n;rw[jn]at b3;have d2:E.lti n 55296=decide (n<55296):=elt _ _;have d3:E.lti 57343 n=decide (57343<n):=elt _ _;have d4:E.lei n 65535=true:=by rw[ele];exact aA a5
    obtain⟨x6,qp⟩:∃x:Int,n/64=x:=⟨_,rfl⟩
    rw[qp]at s6 b2;obtain⟨x12,cp⟩:∃x:Int,n/4096=x:=⟨_,rfl⟩
    rw[cp]at s12 b1;clear qp cp;rw[dF a3]at d2;rw[aA (show 57343<n by omega)]at d3
    have p5:=epre rs m oM
    have p4:=eroom m 3 oM oM
    have a2:=eadd m 3;rw[hM]at a2;have r3:=eapp rs m [p8 y1,p8 y2,p8 y3] qJ;rw[kV]at r3;have r0:=esub [p8 y1,p8 y2,p8 y3] 3 rfl;have p0:=epre [p8 y1,p8 y2,p8 y3] 3 (nR _);clear elt ele epre eroom eadd eapp esub ewr eshr et hE hc eY sT kV hM eA gA qJ dY hm hb n64 n4096 n262144 h0 h1 hs sF rO jn a1 a5 a3;cbv
    repeat (first|(simp only[cu];try cbv)|(simp only[d1];try cbv)|(simp only[d2];try cbv)|(simp only[d3];try cbv)|(simp only[d4];try cbv)|(refine⟨q12,q6,?_⟩;cbv)|(simp only[s12];try cbv)|(simp only[b1];try cbv)|(simp only[s6];try cbv)|(simp only[b2];try cbv)|(simp only[b3];try cbv)|(refine⟨p0,p5,p4,?_⟩;cbv)|(simp only[r0,r3,a2];try cbv))
    all_goals trivial
  ·skip
   obtain⟨y1,sF⟩:∃x:Int,240+n/262144=x:=⟨_,rfl⟩
   obtain⟨y2,rO⟩:∃x:Int,128+n/4096%64=x:=⟨_,rfl⟩
   obtain⟨y3,jn⟩:∃x:Int,128+n/64%64=x:=⟨_,rfl⟩
   obtain⟨y4,La⟩:∃x:Int,128+n%64=x:=⟨_,rfl⟩
   have sT:=z5u (r:=n) oM h1
   rw[sF,rO,jn,La]at sT;have kV:rs++[p8 y1,p8 y2,p8 y3,p8 y4]=lR (l++encL n):=Bp
   have hM:m+4=(l++encL n).length:=by
    exact Ke
   obtain⟨RS,eA⟩:∃x,lR (l++encL n)=x:=⟨_,rfl⟩
   obtain⟨M,gA⟩:∃x,(l++encL n).length=x:=⟨_,rfl⟩
   rw[eA]at kV;rw[gA]at hM;rw[eA,gA];refine JP aU mixed (fun _=>0) Tryz.func172 rfl kR kR rfl fun P G E hc eY hE t0=>?_
   have elt:=yF hE;have ele:∀a b,E.lei a b=decide (a<=b):=fun a b=>by rw[hE];rfl
   have epre:∀(r:List (List PV)) k,k<=r.length->E.pre 0 k r:=fun r k h=>by rw[hE];show 0+k<=r.length;omega
   have eroom:∀k j,k<=2000000000->j<=4->E.room k j 1:=fun k j h h'=>by rw[hE];exact⟨by unfold maxLen;omega,by omega⟩
   have eadd:∀a b,E.addN a b=a+b:=fun a b=>by rw[hE];rfl
   have eapp:∀(r:List (List PV)) k x,k=r.length->E.app r k x=r++x:=fun r k x h=>by rw[hE];show r.take k++x=_;rw[h,lz]
   have esub:∀(x:List (List PV)) k,k=x.length->E.sub x 0 k=x:=fun x k h=>by rw[hE];show(x.drop 0).take k=x;rw[h,BD,lz]
   have ewr:∀n:Int,E.wrap .u32 n=IntKind.u32.wrap n:=fun n=>by rw[hE];rfl
   have eshr:∀(n b:Int)(k:Int),n.fdiv (2 ^ (min b.toNat IntKind.i32.bits))=k->E.shr .i32 n b=k:=fun n b k h=>by rw[hE];exact h
   have et:∀x:Int,E.bor .u8 128 (E.band .u8 (E.wrap .u8 x) 63)=128+x%64:=fun x=>by rw[hE];exact KA x
   have q6:E.ple 0 6:=LV
   have q12:E.ple 0 12:=LW
   have q18:E.ple 0 18:=LX
   have cu:=ewr n;rw[KG oM oM]at cu
   have d1:E.lei n 2047=false:=by rw[ele];exact dF a1
   have s6:=eshr n 6 _ n64;have s12:=eshr n 12 _ n4096;have s18:=eshr n 18 _ n262144;have b1:E.bor .u8 240 (E.wrap .u8 (n/262144))=y1:=by rw[hE,<- sF];exact TE _ oM oM
   have b2:=et (n/4096);rw[rO]at b2;have b3:=et (n/64);rw[jn]at b3;have b4:=et n;rw[La]at b4;have d2:E.lti n 55296=false:=by rw[elt];exact dF oM
   have d3:E.lti 57343 n=true:=by rw[elt];exact aA oM
   have d4:E.lei n 65535=false:=by rw[ele];exact dF a5
   have d5:E.lti 65535 n=true:=by rw[elt];exact aA oM
   have d6:E.lei n 1114111=true:=by rw[ele];exact aA h1
   obtain⟨x6,qp⟩:∃x:Int,n/64=x:=⟨_,rfl⟩
   rw[qp]at s6 b3;obtain⟨x12,cp⟩:∃x:Int,n/4096=x:=⟨_,rfl⟩
   rw[cp]at s12 b2;obtain⟨x18,VX⟩:∃x:Int,n/262144=x:=⟨_,rfl⟩
   rw[VX]at s18 b1;clear qp cp VX;have p5:=epre rs m oM
   have p4:=eroom m 4 oM oM
   have a2:=eadd m 4;rw[hM]at a2;have r3:=eapp rs m [p8 y1,p8 y2,p8 y3,p8 y4] qJ;rw[kV]at r3;have r0:=esub [p8 y1,p8 y2,p8 y3,p8 y4] 4 rfl;have p0:=epre [p8 y1,p8 y2,p8 y3,p8 y4] 4 (nR _);clear elt ele epre eroom eadd eapp esub ewr eshr et hE hc eY sT kV hM eA gA qJ dY hm hb n64 n4096 n262144 h0 h1 hs sF rO jn La a1 a5;cbv
   repeat (first|(simp only[cu];try cbv)|(simp only[d1];try cbv)|(simp only[d2];try cbv)|(simp only[d3];try cbv)|(simp only[d4];try cbv)|(simp only[d5];try cbv)|(simp only[d6];try cbv)|(refine⟨q18,q12,q6,?_⟩;cbv)|(simp only[s18];try cbv)|(simp only[b1];try cbv)|(simp only[s12];try cbv)|(simp only[b2];try cbv)|(simp only[s6];try cbv)|(simp only[b3];try cbv)|(simp only[b4];try cbv)|(refine⟨p0,p5,p4,?_⟩;cbv)|(simp only[r0,r3,a2];try cbv))
   all_goals trivial
theorem zum(n:Int)(h0:0<=n)(h1:n<=1114111)(hs:¬(55296<=n/\n<=57343))(l:List UInt8)(hb:l.length<=1000000000):
  VM 161 [.osl 0 0 l.length,.p (.v (.int .i32 n))] [some (.rows 1 (lR l) 5)] (.osl 0 0 (l++encL n).length) [some (.rows 1 (lR (l++encL n)) 5)]:=by
 rcases dV (n<=127)with a1|a1
 ·obtain⟨rs,dY⟩:∃x,lR l=x:=⟨_,rfl⟩
  obtain⟨m,hm⟩:∃x,l.length=x:=⟨_,rfl⟩
  have qJ:m=rs.length:=by rw[<-hm,<- dY,NW]
  rw[dY,hm];have sT:=xab h0 a1;have kV:rs++[p8 n]=lR (l++encL n):=Bp
  have hM:m+1=(l++encL n).length:=by
   have h5:=aG List.length sT;rw[NW]at h5
   grind
  obtain⟨RS,eA⟩:∃x,lR (l++encL n)=x:=⟨_,rfl⟩
  obtain⟨M,gA⟩:∃x,(l++encL n).length=x:=⟨_,rfl⟩
  rw[eA]at kV;rw[gA]at hM;rw[eA,gA];refine JP aU mixed (fun _=>0) Tryz.func161 rfl kR kR rfl fun P G E hc eY hE t0=>?_
  have elt:=yF hE;have ele:∀a b,E.lei a b=decide (a<=b):=fun a b=>by rw[hE];rfl
  have epre:∀(r:List (List PV)) k,k<=r.length->E.pre 0 k r:=fun r k h=>by rw[hE];show 0+k<=r.length;omega
  have eroom:∀k j,k<=2000000000->j<=4->E.room k j 1:=fun k j h h'=>by rw[hE];exact⟨by unfold maxLen;omega,by omega⟩
  have eadd:∀a b,E.addN a b=a+b:=fun a b=>by rw[hE];rfl
  have eapp:∀(r:List (List PV)) k x,k=r.length->E.app r k x=r++x:=fun r k x h=>by rw[hE];show r.take k++x=_;grind
  have esub:∀(x:List (List PV)) k,k=x.length->E.sub x 0 k=x:=fun x k h=>by rw[hE];show(x.drop 0).take k=x;grind
  have ewr:∀n:Int,E.wrap .u32 n=IntKind.u32.wrap n:=fun n=>by rw[hE];rfl
  have eshr:∀(n b:Int)(k:Int),n.fdiv (2 ^ (min b.toNat IntKind.i32.bits))=k->E.shr .i32 n b=k:=fun n b k h=>by rw[hE];exact h
  have et:∀x:Int,E.bor .u8 128 (E.band .u8 (E.wrap .u8 x) 63)=128+x%64:=fun x=>by rw[hE];exact KA x
  have q6:E.ple 0 6:=LV
  have q12:E.ple 0 12:=LW
  have q18:E.ple 0 18:=LX
  have cu:=ewr n;rw[KG oM oM]at cu
  have d1:E.lei n 127=true:=aX
  have b1:E.wrap .u8 n=n:=by rw[hE];show IntKind.u8.wrap n=n;rw[u4];omega
  have p5:=epre rs m oM
  have p4:=eroom m 1 oM oM
  have a2:=eadd m 1;rw[hM]at a2;have r3:=eapp rs m [p8 n] qJ;rw[kV]at r3;have r0:=esub [p8 n] 1 rfl;have p0:=epre [p8 n] 1 (nR _);clear elt ele epre eroom eadd eapp esub ewr eshr et hE hc eY sT kV hM eA gA qJ dY hm hb h0 h1 hs a1;cbv
  repeat (first|(simp only[cu];try cbv)|(simp only[d1];try cbv)|(simp only[b1];try cbv)|(refine⟨p0,p5,p4,?_⟩;cbv)|(simp only[r0,r3,a2];try cbv))
  all_goals trivial
 ·have hn:=Zv n oM h1 hs l hb
  obtain⟨rs,dY⟩:∃x,lR l=x:=⟨_,rfl⟩
  obtain⟨m,hm⟩:∃x,l.length=x:=⟨_,rfl⟩
  obtain⟨RS,eA⟩:∃x,lR (l++encL n)=x:=⟨_,rfl⟩
  obtain⟨M,gA⟩:∃x,(l++encL n).length=x:=⟨_,rfl⟩
  rw[dY,hm,eA,gA]at hn;rw[dY,hm,eA,gA];refine JP aU mixed (fun _=>0) Tryz.func161 rfl kR kR rfl fun P G E hc eY hE t0=>?_
  have cu:E.wrap .u32 n=n:=by rw[hE];exact KG oM oM
  have d1:E.lei n 127=false:=by rw[hE];exact dF a1
  replace hn:=eY _ _ _ _ _ hn;clear hE hc eY eA gA dY hm hb h0 h1 hs a1;cbv;refine mW ?_;refine .inr (.x hn ?_);cbv;all_goals trivial
theorem Fw(A:AV)(hA:j7 A)(l:List UInt8)(c:UInt8)(z:Int)(hz:((c.toNat:Nat):Int)=z)(hb:l.length<=1000000000):
  VM 135 [.own 0 0,.p (.v (.int .u8 z))] (bH A l) (.p (.v .nilIface)) (bH (.own 0 0) (l++[c])):=by
 have oZ:=Pp A hA l;unfold bH at oZ ⊢;obtain⟨rs,dY⟩:∃x,lR l=x:=⟨_,rfl⟩
 obtain⟨m,hm⟩:∃x,l.length=x:=⟨_,rfl⟩
 have qJ:m=rs.length:=by rw[<-hm,<- dY,NW]
 rw[dY,hm]at oZ;rw[dY,hm];have pK:lR [c]=[p8 z]:=by rw[<-hz];rfl
 have kV:rs++[p8 z]=lR (l++[c]):=by rw[Od,pK,dY]
 have hM:m+1=(l++[c]).length:=aX
 obtain⟨RS,eA⟩:∃x,lR (l++[c])=x:=⟨_,rfl⟩
 obtain⟨M,gA⟩:∃x,(l++[c]).length=x:=⟨_,rfl⟩
 rw[eA]at kV;rw[gA]at hM;rw[eA,gA];clear hz
 rcases hA with rfl|rfl
 all_goals
  refine iD aU (f:=135) Tryz.func135 rfl kR (oT kR) fun tags cC=>?_
  match tags,cC with
  |[t0,t1],_=>
   refine aY.of aU mixed (fun _=>0) kR (fun E=>fI E cO Tryz.f135.results.toList [t0,t1] (.p (.v .nilIface)) [some (.box [.own 0 0,.osl 1 0 M] 117 none),some (.rows 1 RS 5)]) fun P G E hc eY hE=>?_
   have elt:=yF hE;have ele:∀a b,E.lei a b=decide (a<=b):=fun a b=>by rw[hE];rfl
   have epre:∀(r:List (List PV)) k,k<=r.length->E.pre 0 k r:=fun r k h=>by rw[hE];show 0+k<=r.length;omega
   have eroom:∀k j,k<=2000000000->j<=4->E.room k j 1:=fun k j h h'=>by rw[hE];exact⟨by unfold maxLen;omega,by omega⟩
   have eadd:∀a b,E.addN a b=a+b:=fun a b=>by rw[hE];rfl
   have eapp:∀(r:List (List PV)) k x,k=r.length->E.app r k x=r++x:=fun r k x h=>by rw[hE];show r.take k++x=_;grind
   have esub:∀(x:List (List PV)) k,k=x.length->E.sub x 0 k=x:=fun x k h=>by rw[hE];show(x.drop 0).take k=x;grind
   have ewr:∀n:Int,E.wrap .u32 n=IntKind.u32.wrap n:=fun n=>by rw[hE];rfl
   have eshr:∀(n b:Int)(k:Int),n.fdiv (2 ^ (min b.toNat IntKind.i32.bits))=k->E.shr .i32 n b=k:=fun n b k h=>by rw[hE];exact h
   have et:∀x:Int,E.bor .u8 128 (E.band .u8 (E.wrap .u8 x) 63)=128+x%64:=fun x=>by rw[hE];exact KA x
   have q6:E.ple 0 6:=LV
   have q12:E.ple 0 12:=LW
   have q18:E.ple 0 18:=LX
   replace oZ:=eY _ _ _ _ _ oZ;have p5:=epre rs m oM
   have p4:=eroom m 1 oM oM
   have a2:=eadd m 1;rw[hM]at a2;have r3:=eapp rs m [p8 z] qJ;rw[kV]at r3;have r0:=esub [p8 z] 1 rfl;have p0:=epre [p8 z] 1 (nR _);clear elt ele epre eroom eadd eapp esub ewr eshr et hE hc eY pK kV hM eA gA qJ dY hm hb q6 q12 q18;cbv;refine .mk _ _ (Wk.refl _ _) [0,1] _ _ _ _ oZ rfl rfl rfl ?_;cbv
   grind
theorem Q1(A:AV)(hA:j7 A)(n:Int)(h0:0<=n)(h1:n<=1114111)(hs:¬(55296<=n/\n<=57343))(l:List UInt8)(hb:l.length<=1000000000):
  VM 146 [.own 0 0,.p (.v (.int .i32 n))] (bH A l) (.p (.tup [pI ((encL n).length:Nat),.v .nilIface])) (bH (.own 0 0) (l++encL n)):=by
 have oZ:=Pp A hA l;have uy:=zum n h0 h1 hs l hb;have h4:=OU n;have D7:(l++encL n).length=l.length+(encL n).length:=sD;unfold bH at oZ ⊢;obtain⟨rs,dY⟩:∃x,lR l=x:=⟨_,rfl⟩
 obtain⟨m,hm⟩:∃x,l.length=x:=⟨_,rfl⟩
 obtain⟨RS,eA⟩:∃x,lR (l++encL n)=x:=⟨_,rfl⟩
 obtain⟨M,gA⟩:∃x,(l++encL n).length=x:=⟨_,rfl⟩
 obtain⟨k,ri⟩:∃x:Int,(((encL n).length:Nat):Int)=x:=⟨_,rfl⟩
 rw[dY,hm]at oZ;rw[dY,hm,eA,gA]at uy;rw[dY,hm,eA,gA,ri];have hk:((M:Nat):Int)-((m:Nat):Int)=k:=eC
 have hMb:M<=1000000004:=eC
 rcases hA with rfl|rfl
 all_goals
  refine iD aU (f:=146) Tryz.func146 rfl kR (oT kR) fun tags cC=>?_
  match tags,cC with
  |[t0,t1],_=>
   refine aY.of aU mixed (fun _=>0) kR (fun E=>fI E cO Tryz.f146.results.toList [t0,t1] (.p (.tup [pI k,.v .nilIface])) [some (.box [.own 0 0,.osl 1 0 M] 117 none),some (.rows 1 RS 5)]) fun P G E hc eY hE=>?_
   replace oZ:=eY _ _ _ _ _ oZ;replace uy:=eY _ _ _ _ _ uy;have z1:E.wsub .i64 (E.ofN M) (E.ofN m)=k:=by
    rw[hE,<- hk];exact jX (n:=((M:Nat):Int)-((m:Nat):Int)) oM oM
   clear hE hc eY eA gA dY hm hb hk hMb;cbv;refine .mk _ _ (Wk.refl _ _) [0,1] _ _ _ _ oZ rfl rfl rfl ?_;cbv;refine .inr (.mk _ _ (Wk.refl _ _) [1] _ _ _ _ uy rfl rfl rfl ?_);cbv
   grind
theorem z4b(c:UInt8)(z L:Int)(hz:((c.toNat:Nat):Int)=z)(hL:((c.toNat |||32:Nat):Int)=L):V0 167 [.v (.int .u8 z)] (.v (.int .u8 L)):=by
 have hc:=c.toNat_lt;refine eZ Tryz.func167 fun P G E hc hE=>?_
 have b1:E.bor .u8 z 32=L:=by
  rw[hE,PX z 32 oM oM oM oM,<- hL,<- hz]
  rfl
 clear hE hc hL hz;cbv
 grind
theorem xe7(c:UInt8):((48<=c.toNat/\c.toNat<=57)->sL c=some (c.toNat-48))/\(¬(48<=c.toNat/\c.toNat<=57)->(97<=(c.toNat |||32)/\(c.toNat |||32)<=122)->sL c=if(c.toNat |||32)<=102 then some ((c.toNat |||32)-87)else none) ∧
  (¬(48<=c.toNat/\c.toNat<=57)->¬(97<=(c.toNat |||32)/\(c.toNat |||32)<=122)->sL c=none):=by
 have key:=aO.1 (show((List.range 256).all fun n=>decide (((48<=n/\n<=57)->sL (UInt8.ofNat n)=some (n-48))/\(¬(48<=n/\n<=57)->(97<=(n |||32)/\(n |||32)<=122)->sL (UInt8.ofNat n)=if(n |||32)<=102 then some ((n |||32)-87)else none) ∧
  (¬(48<=n/\n<=57)->¬(97<=(n |||32)/\(n |||32)<=122)->sL (UInt8.ofNat n)=none)))=true by decide +kernel) c.toNat (bV.2 c.toNat_lt)
 have k2:=oT key;simp_all
abbrev pW(n:Int):PV:=.v (.int .u64 n)
abbrev FE:PV:=.v (.iface 132 (.int .i64 2))
def RZ(l:Bs):PV:=if l.all iR then .tup [pW (pV l:Nat),.v .nilIface]else .tup [pW 0,FE]
structure Co(s:ByteArray)(n:Int)(x:Int×Int):Prop where
 i0:0<=x.1
 i1:x.1<=n
 u:∃u:Bs,s.data.toList=u++bB s x.1/\(u.length:Int)=x.1/\(∀c∈u,iR c=true)/\x.2=(pV u:Nat)
theorem Fv{n:Int}(h0:0<=n)(h1:n<18446744073709551616):IntKind.u64.wrap n=n:=by rw[zu4];omega
theorem z0a(s:ByteArray)(h0:s.size≠0)(h6:s.size<=6):V0 156 [pS s,pI 16,pI 32] (RZ s.data.toList):=by
 obtain⟨n,hn⟩:∃n:Int,((s.size:Nat):Int)=n:=⟨_,rfl⟩
 have aT:∀i:Int,0<=i->i<n->∃c,s.data.toList[i.toNat]?=some c:=fun i iH iL=>⟨_,aB cj⟩
 obtain⟨RV,eI⟩:∃x,RZ s.data.toList=x:=⟨_,rfl⟩
 rw[eI];obtain⟨μ,hμ⟩:∃μ:Int×Int->Nat,∀x,μ x=20-x.1.toNat:=⟨_,fun _=>rfl⟩
 obtain⟨rows,rD⟩:∃x,nJ s=x:=⟨_,rfl⟩
 have jR:Co s n (0,0):=⟨bT _,by omega,[],by rfl,rfl,fun c hc=>(by cases hc),rfl⟩
 have kG:=fun(c:UInt8)(z L:Int)(hz:((c.toNat:Nat):Int)=z)(hL:((c.toNat |||32:Nat):Int)=L)=>z4b c z L hz hL
 have fE:rows.length=s.size:=by rw[<-rD];unfold nJ;simp_all
 have gp:∀(i:Int)(c:UInt8)(z:Int),s.data.toList[i.toNat]?=some c->((c.toNat:Nat):Int)=z->rows[i.toNat]?=some [.v (.int .u8 z)]:=fun i c z h hz=>by
  rw[<-rD];unfold nJ
  grind
 refine eZ Tryz.func156 fun P G E hc hE=>?_
 replace kG:=fun(c:UInt8)(z L:Int)(hz:((c.toNat:Nat):Int)=z)(hL:((c.toNat |||32:Nat):Int)=L)=>hc _ _ _ (kG c z L hz hL)
 have z1:E.brows s=rows:=by rw[hE];exact rD
 have z2:E.ofN rows.length=n:=by rw[hE,<- hn,<- fE];rfl
 have z3:E.eq s ⟨#[]⟩=false:=by
  rw[hE];refine dF fun e=>h0 ?_
  rw[e];rfl
 have elt:=yF hE;have ege:∀a b,E.lei a b=decide (a<=b):=fun a b=>by rw[hE];rfl
 have eple:=uL hE;have erow:∀(i:Int)(c:UInt8)(z:Int),s.data.toList[i.toNat]?=some c->((c.toNat:Nat):Int)=z->rows[E.nat i]?=some [.v (.int .u8 z)]:=fun i c z h hz=>by
  rw[hE];exact gp i c z h hz
 have eadd:=ub hE;have eadd64:∀a b:Int,0<=a->a<=1000000000->0<=b->b<=1000000000->E.wadd .u64 a b=a+b:=fun a b h0 h1 h2 h3=>by rw[hE];exact Fv oM oM
 have emul:∀a:Int,0<=a->a<=1000000000->E.wmul .u64 a 16=a*16:=fun a h0 h1=>by rw[hE];exact Fv oM oM
 have ew8:∀a:Int,0<=a->a<=255->E.wrap .u64 a=a:=fun a h0 h1=>by rw[hE];exact Fv oM oM
 have c1:E.wrap .u8 16=16:=by rw[hE];exact u4 16
 have c2:E.wrap .u64 16=16:=ew8 16 oM oM
 have c2':E.wrap .u64 32=32:=ew8 32 oM oM
 have c3:E.lei 2 16=true:=by rw[ege];rfl
 have c4:E.lei 16 36=true:=by rw[ege];rfl
 have c5:E.lti 32 0=false:=by rw[elt];rfl
 have c6:E.lti 64 32=false:=by rw[elt];rfl
 have c7:E.wsub .u64 (E.shl .u64 1 32) 1=4294967295:=fH
 have c8:E.ple 0 32:=eple _ _ oM
 have es8:∀a b:Int,0<=b->b<=a->a<=255->E.wsub .u8 a b=a-b:=fun a b h0 h1 h2=>by rw[hE];show IntKind.u8.wrap (a-b)=_;rw[u4];omega
 have ea8:∀a b:Int,0<=a->0<=b->a+b<=255->E.wadd .u8 a b=a+b:=fun a b h0 h1 h2=>by rw[hE];show IntKind.u8.wrap (a+b)=_;rw[u4];omega
 clear hE hc;cbv at z2;cbv;refine mW ?_;refine gV 172 [0,1,8,9,10,11,12,13,99,100,101] 0 (fun x:Int×Int=>[.p (pS s),.p (pI 16),.p (pB false),.p (pS s),.p (pW 1152921504606846976),.p (pW 4294967295),.p (pB false),.p (pW x.2),.p (.ro 1 rows),.p (pI n),.p (pI x.1)]) (fun _=>[]) (Co s n) μ (0,0) r5 jR ?_
 clear jR c3 c4 c5 c6 c7 c8 c2' z1 z3
 rintro⟨j,acc⟩ ⟨j0,j1,u,gG,gM,lB,cq⟩
 simp only at j0 j1 gG gM cq;replace hn:((s.size:Nat):Int)=n:=hn;replace gM:((u.length:Nat):Int)=j:=gM;replace cq:acc=((pV u:Nat):Int):=cq;have vD:u.length<=6:=eC
 have oO:pV u<16777216:=Dx 6 u vD;have dA:∀c r,bB s j=c::r->sL c=none->RV=.tup [pW 0,FE]:=fun c r h hc=>by
  rw[<-eI];unfold RZ;rw[aD];rw[qe];intro eH
  have:=eH c (by rw[gG,h];simp)
  unfold iR at this
  grind
 rcases dV (j<n)with cQ|cQ
 ·have d1:E.lti j n=true:=aX
  obtain⟨c,eP⟩:=aT j j0 cQ;obtain⟨z,hz⟩:∃z:Int,((c.toNat:Nat):Int)=z:=⟨_,rfl⟩
  have g1:=erow j c z eP hz;have p1:=eple 0 j j0;have dZ:=uW j0 eP;obtain⟨j2,oL⟩:∃x:Int,j+1=x:=⟨_,rfl⟩
  have ej:=eadd j 1 oM oM oM oM
  rw[oL]at ej;have dO:=c.toNat_lt;obtain⟨t1,t2,t3⟩:=xe7 c;obtain⟨L,hL⟩:∃x:Int,((c.toNat |||32:Nat):Int)=x:=⟨_,rfl⟩
  have hl:=kG c z L hz hL;have e1:E.lei 48 z=decide (48<=z):=ege _ _;have e2:E.lei z 57=decide (z<=57):=ege _ _;have e3:E.lei 97 L=decide (97<=L):=ege _ _;have e4:E.lei L 122=decide (L<=122):=ege _ _;obtain⟨b95,h95⟩:∃b,decide (z=95)=b:=⟨_,rfl⟩
  rcases dV (48<=z/\z<=57)with hd|hd
  ·
   rw[aA hd.1]at e1;rw[aA hd.2]at e2;have hv:=t1 oM
   obtain⟨dn,vH⟩:∃x:Nat,c.toNat-48=x:=⟨_,rfl⟩
   rw[vH]at hv;have es:=es8 z 48 oM oM oM
   obtain⟨d,uJ⟩:∃x:Int,z-48=x:=⟨_,rfl⟩
   rw[uJ]at es;obtain⟨n1,qI⟩:∃x:Int,acc*16+d=x:=⟨_,rfl⟩
   have em:=emul acc oM oM
   obtain⟨m,hm⟩:∃x:Int,acc*16=x:=⟨_,rfl⟩
   rw[hm]at em qI;have ea:=eadd64 m d oM oM oM oM
   rw[qI]at ea;have wd:=ew8 d oM oM
   have d5:E.lei 16 d=false:=aX
   have d6:E.lei 1152921504606846976 acc=false:=aX
   have d7:E.lti n1 m=false:=aX
   have d8:E.lti 4294967295 n1=false:=aX
   have lV:Co s n (j2,n1):=by
    refine⟨by omega,by omega,u++[c],?_,?_,?_,?_⟩
    ·grind
    ·grind
    ·intro x hx
     rcases kX.1 hx with hx|hx
     ·exact lB x hx
     ·rw[eV.1 hx];unfold iR;rw[hv];rfl
    ·rw[A8,hv]
     grind
   have gA:μ (j2,n1)<μ (j,acc):=by
    rw[hμ,hμ];omega
   cases b95
   all_goals
    clear elt ege eple erow eadd eadd64 emul ew8 es8 ea8 kG aT dA gp fE rD eI gG gM lB cq vD oO eP hz dZ oL dO t1 t2 t3 hL hd hv vH uJ qI hm hn h0 h6 hl e3 e4;cbv;refine mW ?_;refine .mk (j2,n1) r5 ?_ ?_
    ·exact lV
    ·exact gA
  ·have rp:¬(48<=c.toNat/\c.toNat<=57):=eC
   have zY:(E.lei 48 z=false)\/(E.lei 48 z=true/\E.lei z 57=false):=by
    grind
   rcases dV (97<=L/\L<=122)with ha|ha
   ·rw[aA ha.1]at e3;rw[aA ha.2]at e4;have hv:=t2 rp oM
    have es:=es8 L 97 oM oM oM
    obtain⟨d0,kc⟩:∃x:Int,L-97=x:=⟨_,rfl⟩
    rw[kc]at es;have ea:=ea8 d0 10 oM oM oM
    obtain⟨d,uJ⟩:∃x:Int,d0+10=x:=⟨_,rfl⟩
    rw[uJ]at ea
    rcases dV (L<=102)with hh|hh
    ·rw[aF oM]at hv
     obtain⟨dn,vH⟩:∃x:Nat,(c.toNat |||32)-87=x:=⟨_,rfl⟩
     rw[vH]at hv;have eaq:=ea;obtain⟨n1,qI⟩:∃x:Int,acc*16+d=x:=⟨_,rfl⟩
     have em:=emul acc oM oM
     obtain⟨m,hm⟩:∃x:Int,acc*16=x:=⟨_,rfl⟩
     rw[hm]at em qI;have ea:=eadd64 m d oM oM oM oM
     rw[qI]at ea;have wd:=ew8 d oM oM
     have d5:E.lei 16 d=false:=aX
     have d6:E.lei 1152921504606846976 acc=false:=aX
     have d7:E.lti n1 m=false:=aX
     have d8:E.lti 4294967295 n1=false:=aX
     have lV:Co s n (j2,n1):=by
      refine⟨by omega,by omega,u++[c],?_,?_,?_,?_⟩
      ·grind
      ·grind
      ·intro x hx
       rcases kX.1 hx with hx|hx
       ·exact lB x hx
       ·rw[eV.1 hx];unfold iR
        grind
      ·rw[A8,hv]
       grind
     have gA:μ (j2,n1)<μ (j,acc):=by
      rw[hμ,hμ];omega
     rcases zY with e1'|⟨e1',e2'⟩
     all_goals
      cases b95
      all_goals
       clear elt ege eple erow eadd eadd64 emul ew8 es8 ea8 kG aT dA gp fE rD eI gG gM lB cq vD oO eP hz dZ oL dO t1 t2 t3 hL hd hv vH uJ qI hm hn h0 h6 e1 e2 rp ha kc hh;cbv;refine mW ?_;refine .mk (j2,n1) r5 ?_ ?_
       ·exact lV
       ·exact gA
    ·rw[aD oM]at hv
     have bc:=dA c _ dZ hv;subst bc;have d5:E.lei 16 d=true:=aX
     rcases zY with e1'|⟨e1',e2'⟩
     all_goals
      cases b95
      all_goals
       clear elt ege eple erow eadd eadd64 emul ew8 es8 ea8 kG aT dA gp fE rD eI gG gM lB cq vD oO eP hz dZ oL dO t1 t2 t3 hL hd hv uJ hn h0 h6 e1 e2 rp ha kc hh;exact rM
   ·have hv:=t3 rp oM
    have bc:=dA c _ dZ hv;subst bc;have rU:(E.lei 97 L=false)\/(E.lei 97 L=true/\E.lei L 122=false):=by
     grind
    rcases zY with e1'|⟨e1',e2'⟩
    all_goals
     rcases rU with e3'|⟨e3',e4'⟩
     all_goals
      cases b95
      all_goals
       clear elt ege eple erow eadd eadd64 emul ew8 es8 ea8 kG aT dA gp fE rD eI gG gM lB cq vD oO eP hz dZ oL dO t1 t2 t3 hL hd hv hn h0 h6 e1 e2 e3 e4 rp ha;exact rM
 ·have d1:E.lti j n=false:=aX
  have hv:RV=.tup [pW acc,.v .nilIface]:=by
   rw[<-eI];unfold RZ;rw[ja oM,cB]at gG
   grind
  subst hv;clear elt ege eple erow eadd eadd64 emul ew8 es8 ea8 kG aT dA gp fE rD eI gG gM lB cq vD oO hn h0 h6;exact rM
def xr(w:World):Prop:=Lib.Utf8Tabs (Tryz.laysValid_ren.g 3) (Tryz.laysValid_ren.g 4) w
theorem ZJ{w w':World}(h:Gr w w'){a:Addr}{v:Value}(hc:w.cell? a=some v):w'.cell? a=some v:=by
 rw[Below.cell h (block_lt_of_cell hc)];exact hc
theorem xr.gr{w w':World}(h:xr w)(hg:Gr w w'):xr w':=
 ⟨fun c hc=>ZJ hg (h.1 c hc),fun i hi=>⟨ZJ hg (h.2 i hi).1,ZJ hg (h.2 i hi).2⟩⟩
theorem Tu{P:Program}{w w':World}{name:String}{cs:Array Value}(h:w.var? P name=some cs)(hb:Gr w w'):w'.var? P name=some cs:=by
 unfold World.var? at *
 cases hg:P.globalNamed name with
 |none=>simp[hg]at h
 |some g=>
  simp only[hg,Option.bind_some]at h ⊢;have cQ:g<w.heap.size:=by
   grind
  rw[hb.block g cQ];exact h
def Gp(w:World)(name:String):Prop:=∃(tp:TypeId)(p:Value),w.var? Tryz.prog name=some #[.iface tp p]
structure GL(w:World):Prop where
 utf8:xr w
 syn : Gp w "strconv.ErrSyntax"
 rng : Gp w "strconv.ErrRange"
 ml:∃m:Int,w.cell? ⟨Tryz.lays143_ren.g 1,0,none⟩=some (.int .i64 m)
theorem mA:∀w w',Gr w w'->GL w->GL w':=fun _ _ hg h=>⟨h.utf8.gr hg,h.syn.imp fun _ h=>h.imp fun _ h=>Tu h hg,h.rng.imp fun _ h=>h.imp fun _ h=>Tu h hg,h.ml.imp fun _ h=>ZJ hg h⟩
theorem vM{f:FuncId}{fn:Func}{c:Code}(hf:Tryz.prog.funcs[f]?=some fn){l:List PV}{r:PV}
  (h:∀(P':Program)(G':World->Prop)(E:SO),(∀f l r,fS Tryz.prog GL f l r->fS P' G' f l r)->E=bG->tC P' G' E cO (fun _=>0) c (jG E cO fn.results.toList r) (l.map .p++List.replicate (fn.ntmps-l.length) (.p (.v undef))) [])
  (hb : fn.body = some c := by exact rfl) (hn : (fn.name == "runtime.NumGoroutine") = false := by kernel_rfl) (cV : vZ fn.ntmps (fun _ => 0) c = true := by kernel_rfl) (hl : decide (l.length ≤ fn.ntmps) = true := by exact rfl) : fS Tryz.prog GL f l r := xA aU mA mixed (fun _ => 0) hf hb hn cV hl h
abbrev RL(f:FuncId)(l:List PV)(r:PV):Prop:=fS Tryz.prog GL f l r
abbrev ML(f:FuncId)(l:List AV)(H:AH)(r:AV)(K:AH):Prop:=jL Tryz.prog GL f l H r K
theorem nK{f:FuncId}{l:List PV}{r:PV}(h:V0 f l r):RL f l r:=⟨h.1,fun w B args _=>h.2 w B args trivial⟩
theorem wB{f:FuncId}{l:List AV}{H:AH}{r:AV}{K:AH}(h:VM f l H r K):ML f l H r K:=
 ⟨h.1,fun B w ι args tags cC hC=>h.2 B w ι args tags cC ⟨fun _ _=>trivial,hC.own⟩⟩
theorem KF(s:ByteArray)(c:UInt8)(z:Int)(hz:((c.toNat:Nat):Int)=z):V0 114 [pS s,.v (.int .u8 z)] (pI (Lib.indexByte s.data.toList c)):=
 CS Tryz.func114 kR kR [.string s,.int .u8 z] _ fun w _=>(Tryz.strings_IndexByte s z w).mono fun e w' ⟨h1,h2⟩=>⟨_,h1,by subst h2;exact Gr.refl _,fun _=>by
  have:z.toNat.toUInt8=c:=by
   rw[<-hz,Int.toNat_natCast,Nat.toUInt8_eq,mF]
  rw[this];exact .v _⟩
theorem F7(s p:ByteArray):V0 113 [pS s,pS p] (pB (Lib.hasPrefix s.data.toList p.data.toList)):=
 CS Tryz.func113 kR kR [.string s,.string p] _ fun w _=>(Tryz.strings_HasPrefix s p w).mono fun e w' ⟨h1,h2⟩=>⟨_,h1,by subst h2;exact Gr.refl _,fun _=>.v _⟩
theorem z5c(s t:ByteArray)(hs:s.size<4294967281):RL 115 [pS s,pS t] (pI (Lib.index s.data.toList t.data.toList)):=
 CS Tryz.func115 kR kR [.string s,.string t] _ fun w hG=>by
  obtain⟨m,hm⟩:=hG.ml;exact(Tryz.strings_Index s t m w hs hm).mono fun e w' ⟨h1,h2⟩=>⟨_,h1,by subst h2;exact Gr.refl _,fun _=>.v _⟩
theorem z13(fn s:ByteArray)(base bits:Int)(hs:s.size<=1000000):RL 145 [pS fn,pS s,pI base,pI bits,FE] .err:=
 CS Tryz.func145 kR kR [.string fn,.string s,.int .i64 base,.int .i64 bits,.iface 132 (.int .i64 2)] _ fun w hG=>by
  obtain⟨tp,p,hv⟩:=hG.syn;have hc:w.cell? ⟨3,0,none⟩=some (.iface tp p):=by simpa using World.var?_cell (P:=Tryz.prog) (g:=3) kR hv 0
  exact(Tryz.strconv_toError_syntax fn s base bits (.iface tp p) w oM hc (.inr ⟨tp,p,rfl⟩)).mono fun e w' ⟨N,h1,_,_,h2⟩=>⟨_,h1,h2,fun _=>.err _ _⟩
def H6(s:ByteArray):Bool:=Lib.validD s.data.toList
theorem Oo(s:ByteArray)(hs:s.size<=9223372036854775807):RL 107 [pS s] (pB (H6 s)):=
 CS Tryz.func107 kR kR [.string s] _ fun w hG=>(Any.utf8_ValidString Tryz.laysValid s w hs hG.utf8).mono fun e w' ⟨h1,h2⟩=>⟨_,h1,h2,fun _=>.v _⟩
def x9(l:Bs):PV:=if l.all iR then .tup [pW (pV l:Nat),.v .nilIface]else .tup [pW 0,.err]
theorem Qa(s:ByteArray)(h0:s.size≠0)(h6:s.size<=6):RL 162 [pS s,pI 16,pI 32] (x9 s.data.toList):=by
 have hp:=nK (z0a s h0 h6);have he:=z13 ⟨#[80,97,114,115,101,85,105,110,116]⟩ s 16 32 oM
 unfold RZ at hp;unfold x9
 cases eH:s.data.toList.all iR with
 |true=>
  rw[eH,aF rfl]at hp;rw[aF rfl];generalize ((pV s.data.toList:Nat):Int)=z at *;refine vM Tryz.func162 fun P G E hc hE=>?_
  replace hp:=hc _ _ _ hp;clear he hE hc;exact rM
 |false=>
  rw[eH,aD aN]at hp
  rw[aD aN]
  refine vM Tryz.func162 fun P G E hc hE=>?_
  replace hp:=hc _ _ _ hp;replace he:=hc _ _ _ he;clear hE hc;exact rM
def li(l:Bs)(most:Int):Bool:=decide (1<=l.length)&&(decide ((l.length:Int)<=most)&&(l.all iR&&oh (pV l)))
theorem Ng(A:AV)(hA:j7 A)(s:ByteArray)(most:Int)(h6:most<=6)(l:List UInt8)(hb:l.length<=900000000)(cV:li s.data.toList most=true):
  ML 147 [.own 0 0,.p (pS s),.p (pI most)] (bH A l) (.p (pB true)) (bH (.own 0 0) (l++uB (pV s.data.toList))):=by
 have dR:s.data.toList.length=s.size:=rfl;unfold li at cV;simp only[gK,bD]at cV;obtain⟨h1,h2,eH,rE⟩:=cV;rw[dR]at h1 h2;unfold oh at rE;simp only[gK,bD,eM,xM,gX]at rE;have hp:=Qa s oM oM
 unfold x9 at hp;rw[eH,aF rfl]at hp;obtain⟨v,hv⟩:∃x:Int,((pV s.data.toList:Nat):Int)=x:=⟨_,rfl⟩
 have wI:v<=1114111:=eC
 have sG:0<=v:=eC
 have Lk:v<55296\/57343<v:=eC
 have hu:uB (pV s.data.toList)=encL v:=by rw[<-hv];rfl
 have hw:=wB (Q1 A hA v sG wI oM l oM)
 rw[hv]at hp;rw[hu];generalize ((encL v).length:Int)=k at hw;obtain⟨n,hn⟩:∃n:Int,((s.size:Nat):Int)=n:=⟨_,rfl⟩
 unfold bH at hw ⊢;obtain⟨rs,dY⟩:∃x,lR l=x:=⟨_,rfl⟩
 obtain⟨m,hm⟩:∃x,l.length=x:=⟨_,rfl⟩
 obtain⟨RS,eA⟩:∃x,lR (l++encL v)=x:=⟨_,rfl⟩
 obtain⟨M,gA⟩:∃x,(l++encL v).length=x:=⟨_,rfl⟩
 rw[dY,hm,eA,gA]at hw;rw[dY,hm,eA,gA];clear hu hv rE eH dR
 rcases hA with rfl|rfl
 all_goals
  refine iD aU (f:=147) Tryz.func147 rfl kR (oT kR) fun tags cC=>?_
  match tags,cC with
  |[t0,t1],_=>
   refine aY.of aU mixed (fun _=>0) kR (fun E=>fI E cO Tryz.f147.results.toList [t0,t1] (.p (pB true)) [some (.box [.own 0 0,.osl 1 0 M] 117 none),some (.rows 1 RS 5)]) fun P G E hc eY hE=>?_
   replace hw:=eY _ _ _ _ _ hw;replace hp:=hc _ _ _ hp;have z1:E.size s=n:=iY
   have d1:E.lti n 1=false:=sE
   have d2:E.lti most n=false:=sE
   have d3:E.lti 1114111 v=false:=sE
   have d4:E.lei 55296 v=decide (55296<=v):=fH
   have d5:E.lei v 57343=decide (v<=57343):=fH
   have w1:E.wrap .i32 v=v:=by rw[hE];exact Fu oM oM
   clear hE hc eY eA gA dY hm hb hn h1 h2 wI
   rcases Lk with h|h
   ·rw[dF oM]at d4
    clear d5 h sG;cbv;refine mW ?_;refine .mk _ _ (Wk.refl _ _) [0,1] _ _ _ _ hw rfl rfl rfl ?_;cbv;all_goals trivial
   ·rw[aA oM]at d4
    rw[dF oM]at d5
    clear h sG;cbv;refine mW ?_;refine .mk _ _ (Wk.refl _ _) [0,1] _ _ _ _ hw rfl rfl rfl ?_;cbv;all_goals trivial
theorem Nf(A:AV)(hA:j7 A)(s:ByteArray)(most:Int)(h6:most<=6)(l:List UInt8)(cV:li s.data.toList most=false):
  ML 147 [.own 0 0,.p (pS s),.p (pI most)] (bH A l) (.p (pB false)) (bH A l):=by
 have dR:s.data.toList.length=s.size:=rfl;have jA:A.low 2=true:=by rcases hA with rfl|rfl<;>rfl
 cbv at jA;clear hA;obtain⟨n,hn⟩:∃n:Int,((s.size:Nat):Int)=n:=⟨_,rfl⟩
 unfold bH;obtain⟨rs,dY⟩:∃x,lR l=x:=⟨_,rfl⟩
 obtain⟨m,hm⟩:∃x,l.length=x:=⟨_,rfl⟩
 rw[dY,hm];clear dY hm;unfold li at cV;rw[dR]at cV
 rcases dV (n<1)with h1|h1
 ·skip
  refine iD aU (f:=147) Tryz.func147 rfl kR (oT kR) fun tags cC=>?_
  match tags,cC with
  |[t0,t1],_=>
   refine aY.of aU mixed (fun _=>0) kR (fun E=>fI E cO Tryz.f147.results.toList [t0,t1] (.p (pB false)) [some (.box [A,.osl 1 0 m] 117 none),some (.rows 1 rs 5)]) fun P G E hc eY hE=>?_
   have z1:E.size s=n:=iY
   have d1:E.lti n 1=decide (n<1):=fH
   have d2:E.lti most n=decide (most<n):=fH
   rw[aA h1]at d1;clear hE hc eY hn h1 cV dR;cbv;exact mW trivial
 rw[aA (show 1<=s.size by omega),bO]at cV
 rcases dV (most<n)with h2|h2
 ·skip
  refine iD aU (f:=147) Tryz.func147 rfl kR (oT kR) fun tags cC=>?_
  match tags,cC with
  |[t0,t1],_=>
   refine aY.of aU mixed (fun _=>0) kR (fun E=>fI E cO Tryz.f147.results.toList [t0,t1] (.p (pB false)) [some (.box [A,.osl 1 0 m] 117 none),some (.rows 1 rs 5)]) fun P G E hc eY hE=>?_
   have z1:E.size s=n:=iY
   have d1:E.lti n 1=decide (n<1):=fH
   have d2:E.lti most n=decide (most<n):=fH
   rw[dF h1]at d1;rw[aA h2]at d2;clear hE hc eY hn h1 cV dR h2;cbv;exact mW trivial
 rw[aA (show((s.size:Nat):Int)<=most by omega),bO]at cV
 have hp:=Qa s oM oM
 unfold x9 at hp
 cases eH:s.data.toList.all iR with
 |false=>
  rw[eH,aD aN]at hp
  refine iD aU (f:=147) Tryz.func147 rfl kR (oT kR) fun tags cC=>?_
  match tags,cC with
  |[t0,t1],_=>
   refine aY.of aU mixed (fun _=>0) kR (fun E=>fI E cO Tryz.f147.results.toList [t0,t1] (.p (pB false)) [some (.box [A,.osl 1 0 m] 117 none),some (.rows 1 rs 5)]) fun P G E hc eY hE=>?_
   have z1:E.size s=n:=iY
   have d1:E.lti n 1=decide (n<1):=fH
   have d2:E.lti most n=decide (most<n):=fH
   replace hp:=hc _ _ _ hp;rw[dF h1]at d1;rw[dF h2]at d2;clear hE hc eY hn h1 cV dR h2 eH;cbv;exact mW trivial
 |true=>
  rw[eH,aF rfl]at hp;rw[eH,bO]at cV;unfold oh at cV;obtain⟨v,hv⟩:∃x:Int,((pV s.data.toList:Nat):Int)=x:=⟨_,rfl⟩
  rw[hv]at hp
  rcases dV (v<=1114111)with h3|h3
  ·rw[aA (show pV s.data.toList<=1114111 by omega),bO]at cV
   simp only[fl,gK,bD]at cV;have h4:55296<=v:=eC
   have h5:v<=57343:=eC
   refine iD aU (f:=147) Tryz.func147 rfl kR (oT kR) fun tags cC=>?_
   match tags,cC with
   |[t0,t1],_=>
    refine aY.of aU mixed (fun _=>0) kR (fun E=>fI E cO Tryz.f147.results.toList [t0,t1] (.p (pB false)) [some (.box [A,.osl 1 0 m] 117 none),some (.rows 1 rs 5)]) fun P G E hc eY hE=>?_
    have z1:E.size s=n:=iY
    have d1:E.lti n 1=decide (n<1):=fH
    have d2:E.lti most n=decide (most<n):=fH
    replace hp:=hc _ _ _ hp;have d3:E.lti 1114111 v=false:=sE
    have d4:E.lei 55296 v=true:=by rw[hE];exact aA h4
    have d5:E.lei v 57343=true:=by rw[hE];exact aA h5
    rw[dF h1]at d1;rw[dF h2]at d2;clear hE hc eY hn h1 cV dR h2 eH hv h3 h4 h5;cbv;exact mW trivial
  ·skip
   refine iD aU (f:=147) Tryz.func147 rfl kR (oT kR) fun tags cC=>?_
   match tags,cC with
   |[t0,t1],_=>
    refine aY.of aU mixed (fun _=>0) kR (fun E=>fI E cO Tryz.f147.results.toList [t0,t1] (.p (pB false)) [some (.box [A,.osl 1 0 m] 117 none),some (.rows 1 rs 5)]) fun P G E hc eY hE=>?_
    have z1:E.size s=n:=iY
    have d1:E.lti n 1=decide (n<1):=fH
    have d2:E.lti most n=decide (most<n):=fH
    replace hp:=hc _ _ _ hp;have d3:E.lti 1114111 v=true:=sN
    rw[dF h1]at d1;rw[dF h2]at d2;clear hE hc eY hn h1 cV dR h2 eH hv h3;cbv;exact mW trivial
theorem A1(c:UInt8):∀l:Bs,(Lib.indexByte l c=-1/\c ∉ l)\/∃u r,l=u++c::r/\c ∉ u/\Lib.indexByte l c=(u.length:Nat)
 |[]=>.inl ⟨rfl,by simp⟩
 |b::l=>by
  unfold Lib.indexByte
  by_cases h:b=c
  ·subst h;exact .inr ⟨[],l,rfl,by simp,by simp⟩
  ·have hb:(b==c)=false:=jk
   rw[hb]
   rcases A1 c l with⟨h1,h2⟩|⟨u,r,h1,h2,h3⟩
   ·grind
   grind
theorem Qw(c:UInt8):(∃d,AR c=some d/\0<=Lib.indexByte [110,116,114,98,92,34,39] c/\([10,9,13,8,92,34,39]:Bs)[(Lib.indexByte [110,116,114,98,92,34,39] c).toNat]?=some d)\/(AR c=none/\Lib.indexByte [110,116,114,98,92,34,39] c=-1):=by
 have key:=aO.1 (show((List.range 256).all fun n=>(match AR (UInt8.ofNat n)with
  |some d=>decide (0<=Lib.indexByte [110,116,114,98,92,34,39] (UInt8.ofNat n))&&decide (([10,9,13,8,92,34,39]:Bs)[(Lib.indexByte [110,116,114,98,92,34,39] (UInt8.ofNat n)).toNat]?=some d)
  |none=>decide (Lib.indexByte [110,116,114,98,92,34,39] (UInt8.ofNat n)=-1)))=true by decide +kernel) c.toNat (bV.2 c.toNat_lt)
 rw[mF]at key
 grind
theorem Tw{u r:Bs}(h:(125:UInt8) ∉ u):xD uB (123::(u++125::r))=if li u 6=true then some (uB (pV u),r)else none:=by
 rw[xD,aF rfl]
 cases eH:u.all iR with
 |true=>
  have h4:=ld (p:=iR) u (125::r) (aO.1 eH) (fun x hx=>by cases hx;decide)
  rw[h4.1,h4.2];unfold li
  grind
 |false=>
  have hd:li u 6=false:=by unfold li;rw[eH];simp
  rw[hd,aD aN]
  have hu:=n6 (p:=iR) u;have dN:u.dropWhile iR≠[]:=fun e=>by
   grind
  obtain⟨x,y,gh⟩:∃x y,u.dropWhile iR=x::y:=by
   cases hd:u.dropWhile iR with
   |nil=>exact absurd hd dN
   |cons x y=>exact⟨x,y,rfl⟩
  have hx:x∈u:=by
   grind
  have ny:(u++125::r).dropWhile iR=x::(y++125::r):=by
   have h5:=ld (p:=iR) (u.takeWhile iR) (x::(y++125::r)) hu.1 (fun z hz=>by grind)
   grind
  grind
theorem xil{l:Bs}(h:(125:UInt8) ∉ l):xD uB (123::l)=none:=by
 rw[xD,aF rfl];have hu:=n6 (p:=iR) l
 grind
theorem SB{c:UInt8}(l:Bs)(h:c≠123):xD uB (c::l)=none:=by rw[xD,aD h]
theorem T4(a b:UInt8)(r:Bs):m5 uB (a::b::r)=if li [a,b] 2=true then some (uB (pV [a,b]),r)else none:=by
 rw[m5];unfold li;have Zo:=JD a;have Zn:=JD b
 cases ha:sL a with
 |none=>
  have:iR a=false:=by unfold iR;rw[ha];rfl
  grind
 |some x=>
  cases hb:sL b with
  |none=>
   have:iR b=false:=by unfold iR;rw[hb];rfl
   grind
  |some y=>
   rw[ha]at Zo;rw[hb]at Zn;simp only[jK]at Zo Zn;have h1:iR a=true:=by unfold iR;rw[ha];rfl
   have h2:iR b=true:=by unfold iR;rw[hb];rfl
   have h3:pV [a,b]=16*x+y:=by
    unfold pV
    grind
   have h4:oh (pV [a,b])=true:=by
    unfold oh;simp only[gK,bD,eM,xM,gX];omega
   grind
theorem AL(s:ByteArray)(i j:Int):(s.extract i.toNat j.toNat).data.toList=(bB s i).take (j.toNat-i.toNat):=my s _ _
theorem z5o(A:AV)(hA:j7 A)(s:ByteArray)(hs:s.size<=1000000)(l:List UInt8)(hb:l.length<=900000000)(t r:Bs)(h:jV uB s.data.toList=some (t,r)):
  ML 134 [.own 0 0,.p (pS s)] (bH A l) (.p (pI ((s.size:Nat)-(r.length:Nat)))) (bH (.own 0 0) (l++t)):=by
 obtain⟨n,hn⟩:∃n:Int,((s.size:Nat):Int)=n:=⟨_,rfl⟩
 obtain⟨c,r0,dC⟩:∃c r0,s.data.toList=c::r0:=by
  cases hl:s.data.toList with
  |nil=>rw[hl]at h;cases h
  |cons c r0=>exact⟨c,r0,rfl⟩
 have dR:s.size=r0.length+1:=by
  have e:s.data.toList.length=s.size:=rfl
  grind
 obtain⟨z,hz⟩:∃z:Int,((c.toNat:Nat):Int)=z:=⟨_,rfl⟩
 have hi:=nK (KF ⟨#[110,116,114,98,92,34,39]⟩ c z hz);have tI:(⟨#[110,116,114,98,92,34,39]⟩:ByteArray).data.toList=[110,116,114,98,92,34,39]:=rfl;rw[tI]at hi;have kL:=Qw c;obtain⟨i1,iL⟩:∃i:Int,Lib.indexByte [110,116,114,98,92,34,39] c=i:=⟨_,rfl⟩
 rw[iL]at hi kL;rw[dC,jV]at h;rw[hn]
 rcases kL with⟨d,hd,iH,uJ⟩|⟨hd,iH⟩
 ·
  rw[hd]at h;obtain⟨rfl,rfl⟩:=t8 (bA h);obtain⟨y,hy⟩:∃y:Int,((d.toNat:Nat):Int)=y:=⟨_,rfl⟩
  have hw:=wB (Fw A hA l d y hy oM)
  rw[show n-(r0.length:Nat)=1 by omega]
  unfold bH at hw ⊢;obtain⟨rs,dY⟩:∃x,lR l=x:=⟨_,rfl⟩
  obtain⟨m,hm⟩:∃x,l.length=x:=⟨_,rfl⟩
  obtain⟨RS,eA⟩:∃x,lR (l++[d])=x:=⟨_,rfl⟩
  obtain⟨M,gA⟩:∃x,(l++[d]).length=x:=⟨_,rfl⟩
  rw[dY,hm,eA,gA]at hw;rw[dY,hm,eA,gA]
  rcases hA with rfl|rfl
  all_goals
   refine iD aU (f:=134) Tryz.func134 rfl kR (oT kR) fun tags cC=>?_
   match tags,cC with
   |[t0,t1],_=>
    refine aY.of aU mixed (fun _=>0) kR (fun E=>fI E cO Tryz.f134.results.toList [t0,t1] (.p (pI 1)) [some (.box [(.own 0 0),.osl 1 0 M] 117 none),some (.rows 1 RS 5)]) fun P G E hc eY hE=>?_
    have z1:E.size s=n:=iY
    have z0:E.eq s ⟨#[]⟩=false:=by
     exact VG
    have eple:=uL hE;have p0:=eple 0 0 oM
    have g0:E.get s (E.nat 0)=some z:=by
     exact VJ
    replace hi:=hc _ _ _ hi;have d0:E.lei 0 i1=decide (0<=i1):=fH
    replace hw:=eY _ _ _ _ _ hw;rw[aA iH]at d0;have p1:=eple 0 i1 iH;have g1:E.get ⟨#[10,9,13,8,92,34,39]⟩ (E.nat i1)=some y:=by
     rw[hE];show((([10,9,13,8,92,34,39]:Bs))[i1.toNat]?).map _=some y
     grind
    clear hE hc eY eA gA dY hm hb hn dC dR hz hd uJ hy eple tI iL iH h hs;cbv;refine mW ?_;refine .mk _ _ (Wk.refl _ _) [0,1] _ _ _ _ hw rfl rfl rfl ?_;cbv;all_goals trivial
 ·rw[hd]at h;simp only at h;have d0f:decide (0<=i1)=false:=by rw[iH];rfl
  split at h
  ·rename_i e48
   split at h
   ·cases h
   rename_i fa;obtain⟨rfl,rfl⟩:=t8 (bA h);have hw:=wB (Fw A hA l 0 0 rfl oM)
   rw[show n-(r0.length:Nat)=1 by omega]
   have f48:decide (z=48)=true:=aA (by rw[<-hz,e48];rfl)
   unfold bH at hw ⊢;obtain⟨rs,dY⟩:∃x,lR l=x:=⟨_,rfl⟩
   obtain⟨m,hm⟩:∃x,l.length=x:=⟨_,rfl⟩
   obtain⟨RS,eA⟩:∃x,lR (l++[0])=x:=⟨_,rfl⟩
   obtain⟨M,gA⟩:∃x,(l++[0]).length=x:=⟨_,rfl⟩
   rw[dY,hm,eA,gA]at hw;rw[dY,hm,eA,gA]
   cases pG:r0 with
   |nil=>
    rw[pG]at dR;have qI:n=1:=by rw[<-hn,dR];rfl
    rcases hA with rfl|rfl
    all_goals
     refine iD aU (f:=134) Tryz.func134 rfl kR (oT kR) fun tags cC=>?_
     match tags,cC with
     |[t0,t1],_=>
      refine aY.of aU mixed (fun _=>0) kR (fun E=>fI E cO Tryz.f134.results.toList [t0,t1] (.p (pI 1)) [some (.box [(.own 0 0),.osl 1 0 M] 117 none),some (.rows 1 RS 5)]) fun P G E hc eY hE=>?_
      have z1:E.size s=n:=iY
      have z0:E.eq s ⟨#[]⟩=false:=by
       exact VG
      have eple:=uL hE;have p0:=eple 0 0 oM
      have g0:E.get s (E.nat 0)=some z:=by
       exact VJ
      replace hi:=hc _ _ _ hi;have d0:E.lei 0 i1=decide (0<=i1):=fH
      replace hw:=eY _ _ _ _ _ hw;rw[d0f]at d0;have d1:E.lti 1 n=false:=sE
      clear hE hc eY eA gA dY hm hb hn dC dR hz hd eple tI iL iH h hs d0f e48 fa pG qI;cbv;refine mW ?_;refine .mk _ _ (Wk.refl _ _) [0,1] _ _ _ _ hw rfl rfl rfl ?_;cbv;all_goals trivial
   |cons q r1=>
    rw[pG]at dR fa;have xZ:eO q=false:=by simpa using fa
    have oY:=nK (Es q);rw[xZ]at oY;obtain⟨y,hy⟩:∃y:Int,((q.toNat:Nat):Int)=y:=⟨_,rfl⟩
    change RL _ [.v (.int .u8 ((q.toNat:Nat):Int))] _ at oY;rw[hy]at oY
    rcases hA with rfl|rfl
    all_goals
     refine iD aU (f:=134) Tryz.func134 rfl kR (oT kR) fun tags cC=>?_
     match tags,cC with
     |[t0,t1],_=>
      refine aY.of aU mixed (fun _=>0) kR (fun E=>fI E cO Tryz.f134.results.toList [t0,t1] (.p (pI 1)) [some (.box [(.own 0 0),.osl 1 0 M] 117 none),some (.rows 1 RS 5)]) fun P G E hc eY hE=>?_
      have z1:E.size s=n:=iY
      have z0:E.eq s ⟨#[]⟩=false:=by
       exact VG
      have eple:=uL hE;have p0:=eple 0 0 oM
      have g0:E.get s (E.nat 0)=some z:=by
       exact VJ
      replace hi:=hc _ _ _ hi;have d0:E.lei 0 i1=decide (0<=i1):=fH
      replace hw:=eY _ _ _ _ _ hw;replace oY:=hc _ _ _ oY;rw[d0f]at d0;have d1:E.lti 1 n=true:=LL
      have p1:=eple 0 1 oM
      have g1:E.get s (E.nat 1)=some y:=by
       rw[hE];show(s.data.toList[1]?).map _=some y
       grind
      clear hE hc eY eA gA dY hm hb hn dC dR hz hd eple tI iL iH h hs d0f e48 fa pG xZ hy;cbv;refine mW ?_;refine .mk _ _ (Wk.refl _ _) [0,1] _ _ _ _ hw rfl rfl rfl ?_;cbv;all_goals trivial
  ·rename_i e48;have f48:decide (z=48)=false:=gY hz 48 e48
   split at h
   ·rename_i e120;have f120:decide (z=120)=true:=aA (by rw[<-hz,e120];rfl)
    match r0,dC,dR,h with
    |[],dC,dR,h=>cases h
    |[_],dC,dR,h=>cases h
    |a::b::r1,dC,dR,h=>
     rw[T4]at h
     split at h
     ·rename_i oY;obtain⟨rfl,rfl⟩:=t8 (bA h);rw[show n-(r1.length:Nat)=3 by grind]
      obtain⟨T,hT⟩:∃x,s.extract 1 3=x:=⟨_,rfl⟩
      have jZ:T.data.toList=[a,b]:=by
       rw[<-hT,my,dC];rfl
      rw[<-jZ]at oY ⊢;have hw:=Ng A hA T 2 oM l hb oY
      unfold bH at hw ⊢;obtain⟨X,hX⟩:∃x,uB (pV T.data.toList)=x:=⟨_,rfl⟩
      rw[hX]at hw ⊢;obtain⟨rs,dY⟩:∃x,lR l=x:=⟨_,rfl⟩
      obtain⟨m,hm⟩:∃x,l.length=x:=⟨_,rfl⟩
      obtain⟨RS,eA⟩:∃x,lR (l++X)=x:=⟨_,rfl⟩
      obtain⟨M,gA⟩:∃x,(l++X).length=x:=⟨_,rfl⟩
      rw[dY,hm,eA,gA]at hw;rw[dY,hm,eA,gA]
      rcases hA with rfl|rfl
      all_goals
       refine iD aU (f:=134) Tryz.func134 rfl kR (oT kR) fun tags cC=>?_
       match tags,cC with
       |[t0,t1],_=>
        refine aY.of aU mixed (fun _=>0) kR (fun E=>fI E cO Tryz.f134.results.toList [t0,t1] (.p (pI 3)) [some (.box [(.own 0 0),.osl 1 0 M] 117 none),some (.rows 1 RS 5)]) fun P G E hc eY hE=>?_
        have z1:E.size s=n:=iY
        have z0:E.eq s ⟨#[]⟩=false:=by
         exact VG
        have eple:=uL hE;have p0:=eple 0 0 oM
        have g0:E.get s (E.nat 0)=some z:=by
         exact VJ
        replace hi:=hc _ _ _ hi;have d0:E.lei 0 i1=decide (0<=i1):=fH
        replace hw:=eY _ _ _ _ _ hw;rw[d0f]at d0;have d3:E.lei 3 n=true:=LL
        have p1:=eple 0 1 oM
        have p2:=eple 1 3 oM
        have p3:=eple 3 n aX
        have x1:E.ext s (E.nat 1) (E.nat 3)=T:=by rw[hE];exact hT
        clear hE hc eY eA gA dY hm hb hn dC dR hz hd eple tI iL iH h hs d0f e48 e120 hX hT jZ oY;cbv;refine mW ?_;refine .mk _ _ (Wk.refl _ _) [0,1] _ _ _ _ hw rfl rfl rfl ?_;cbv;all_goals trivial
     ·cases h
   ·rename_i e120;have f120:decide (z=120)=false:=gY hz 120 e120
    split at h
    ·rename_i e117;have f117:decide (z=117)=true:=aA (by rw[<-hz,e117];rfl)
     cases r0 with
     |nil=>cases h
     |cons q r1=>
      by_cases hq:q=123
      ·subst hq;have hj:=nK (KF s 125 125 rfl);rw[dC]at hj
       rcases A1 125 r1 with⟨_,mS⟩|⟨u,r2,gG,gM,lB⟩
       ·rw[xil mS]at h
        cases h
       ·rw[gG,Tw gM]at h
        split at h
        ·rename_i oY;obtain⟨rfl,rfl⟩:=t8 (bA h);have oL:Lib.indexByte (c::123::r1) 125=(u.length:Nat)+2:=by
          rw[e117,Lib.indexByte,Lib.indexByte,lB]
          grind
         rw[oL]at hj;obtain⟨e1,rG⟩:∃x:Int,((u.length:Nat):Int)+2=x:=⟨_,rfl⟩
         rw[rG]at hj;have vD:1<=u.length:=by
          unfold li at oY
          grind
         have sH:n=e1+1+(r2.length:Nat):=by
          grind
         obtain⟨e2,tJ⟩:∃x:Int,e1+1=x:=⟨_,rfl⟩
         rw[show n-(r2.length:Nat)=e2 by omega]
         obtain⟨T,hT⟩:∃x,s.extract 2 e1.toNat=x:=⟨_,rfl⟩
         have jZ:T.data.toList=u:=by
          rw[<-hT,my,dC,gG]
          grind
         rw[<-jZ]at oY ⊢;have hw:=Ng A hA T 6 oM l hb oY
         unfold bH at hw ⊢;obtain⟨X,hX⟩:∃x,uB (pV T.data.toList)=x:=⟨_,rfl⟩
         rw[hX]at hw ⊢;obtain⟨rs,dY⟩:∃x,lR l=x:=⟨_,rfl⟩
         obtain⟨m,hm⟩:∃x,l.length=x:=⟨_,rfl⟩
         obtain⟨RS,eA⟩:∃x,lR (l++X)=x:=⟨_,rfl⟩
         obtain⟨M,gA⟩:∃x,(l++X).length=x:=⟨_,rfl⟩
         rw[dY,hm,eA,gA]at hw;rw[dY,hm,eA,gA]
         rcases hA with rfl|rfl
         all_goals
          refine iD aU (f:=134) Tryz.func134 rfl kR (oT kR) fun tags cC=>?_
          match tags,cC with
          |[t0,t1],_=>
           refine aY.of aU mixed (fun _=>0) kR (fun E=>fI E cO Tryz.f134.results.toList [t0,t1] (.p (pI e2)) [some (.box [(.own 0 0),.osl 1 0 M] 117 none),some (.rows 1 RS 5)]) fun P G E hc eY hE=>?_
           have z1:E.size s=n:=iY
           have z0:E.eq s ⟨#[]⟩=false:=by
            exact VG
           have eple:=uL hE;have p0:=eple 0 0 oM
           have g0:E.get s (E.nat 0)=some z:=by
            exact VJ
           replace hi:=hc _ _ _ hi;have d0:E.lei 0 i1=decide (0<=i1):=fH
           replace hw:=eY _ _ _ _ _ hw;replace hj:=hc _ _ _ hj;rw[d0f]at d0;have d3:E.lti 2 e1=true:=sN
           have p1:=eple 0 1 oM
           have p2:=eple 0 2 oM
           have p3:=eple 2 e1 oM
           have p4:=eple e1 n oM
           have g1:E.get s (E.nat 1)=some 123:=by
            rw[hE];show(s.data.toList[1]?).map _=some 123
            grind
           have x1:E.ext s (E.nat 2) (E.nat e1)=T:=by rw[hE];exact hT
           have a1:E.wadd .i64 e1 1=e2:=by rw[hE,<- tJ];exact jX oM oM
           clear hE hc eY eA gA dY hm hb hn dC dR hz hd eple tI iL iH h hs d0f e48 e120 hX hT jZ oY e117 gG gM lB oL rG vD sH tJ;cbv;refine mW ?_;refine .mk _ _ (Wk.refl _ _) [0,1] _ _ _ _ hw rfl rfl rfl ?_;cbv
           grind
        ·cases h
      ·rw[SB _ hq]at h
       cases h
    ·cases h
theorem z5p(A:AV)(hA:j7 A)(s:ByteArray)(hs:s.size<=1000000)(l:List UInt8)(h:jV uB s.data.toList=none):
  ML 134 [.own 0 0,.p (pS s)] (bH A l) (.p (pI 0)) (bH A l):=by
 obtain⟨n,hn⟩:∃n:Int,((s.size:Nat):Int)=n:=⟨_,rfl⟩
 cases dC:s.data.toList with
 |nil=>
  have Ye:s=⟨#[]⟩:=yZ dC;unfold bH;obtain⟨rs,dY⟩:∃x,lR l=x:=⟨_,rfl⟩
  obtain⟨m,hm⟩:∃x,l.length=x:=⟨_,rfl⟩
  rw[dY,hm]
  rcases hA with hA|hA
  all_goals
   refine iD aU (f:=134) Tryz.func134 rfl kR (oT kR) fun tags cC=>?_
   match tags,cC with
   |[t0,t1],_=>
    refine aY.of aU mixed (fun _=>0) kR (fun E=>fI E cO Tryz.f134.results.toList [t0,t1] (.p (pI 0)) [some (.box [A,.osl 1 0 m] 117 none),some (.rows 1 rs 5)]) fun P G E hc eY hE=>?_
    subst hA;have z0:E.eq s ⟨#[]⟩=true:=by rw[hE];exact aA Ye
    clear hE hc eY dY hm hn dC h hs Ye;cbv
    repeat (first|(simp only[z0];try cbv))
    all_goals trivial
 |cons c r0=>
 have dR:s.size=r0.length+1:=by
  have e:s.data.toList.length=s.size:=rfl;rw[dC]at e;exact e.symm
 obtain⟨z,hz⟩:∃z:Int,((c.toNat:Nat):Int)=z:=⟨_,rfl⟩
 have hi:=nK (KF ⟨#[110,116,114,98,92,34,39]⟩ c z hz);have tI:(⟨#[110,116,114,98,92,34,39]⟩:ByteArray).data.toList=[110,116,114,98,92,34,39]:=rfl;rw[tI]at hi;have kL:=Qw c;obtain⟨i1,iL⟩:∃i:Int,Lib.indexByte [110,116,114,98,92,34,39] c=i:=⟨_,rfl⟩
 rw[iL]at hi kL;rw[dC,jV]at h;unfold bH;obtain⟨rs,dY⟩:∃x,lR l=x:=⟨_,rfl⟩
 obtain⟨m,hm⟩:∃x,l.length=x:=⟨_,rfl⟩
 rcases kL with⟨d,hd,iH,uJ⟩|⟨hd,iH⟩
 ·rw[hd]at h
  cases h
 ·rw[hd]at h;simp only at h;have d0f:decide (0<=i1)=false:=by rw[iH];rfl
  split at h
  ·rename_i e48
   split at h
   ·rename_i fa;have f48:decide (z=48)=true:=aA (by rw[<-hz,e48];rfl)
    cases pG:r0 with
    |nil=>rw[pG]at fa;cases fa
    |cons q r1=>
     rw[pG]at dR fa;have xZ:eO q=true:=by simpa using fa
     have oY:=nK (Es q);rw[xZ]at oY;obtain⟨y,hy⟩:∃y:Int,((q.toNat:Nat):Int)=y:=⟨_,rfl⟩
     change RL _ [.v (.int .u8 ((q.toNat:Nat):Int))] _ at oY;rw[hy]at oY;rw[dY,hm]
     rcases hA with hA|hA
     all_goals
      refine iD aU (f:=134) Tryz.func134 rfl kR (oT kR) fun tags cC=>?_
      match tags,cC with
      |[t0,t1],_=>
       refine aY.of aU mixed (fun _=>0) kR (fun E=>fI E cO Tryz.f134.results.toList [t0,t1] (.p (pI 0)) [some (.box [A,.osl 1 0 m] 117 none),some (.rows 1 rs 5)]) fun P G E hc eY hE=>?_
       subst hA;have z1:E.size s=n:=iY
       have z0:E.eq s ⟨#[]⟩=false:=by
        exact FY
       have eple:=uL hE;have p0:=eple 0 0 oM
       have g0:E.get s (E.nat 0)=some z:=by
        exact FZ
       replace hi:=hc _ _ _ hi;have d0:E.lei 0 i1=decide (0<=i1):=fH
       replace oY:=hc _ _ _ oY;rw[d0f]at d0;have d1:E.lti 1 n=true:=by rw[hE];exact aA (by rw[qQ]at dR;omega)
       have p1:=eple 0 1 oM
       have g1:E.get s (E.nat 1)=some y:=by
        exact Kd
       clear hE hc eY dY hm hn dC dR hz hd eple tI iL iH h hs d0f e48 fa pG xZ hy;cbv
       repeat (first|(simp only[z0];try cbv)|(refine⟨p0,_,g0,?_⟩;cbv)|(refine⟨_,hi,?_⟩;cbv)|(simp only[d0];try cbv)|(simp only[f48];try cbv)|(simp only[z1];try cbv)|(simp only[d1];try cbv)|(refine⟨p1,_,g1,?_⟩;cbv)|(refine⟨_,oY,?_⟩;cbv))
       all_goals trivial
   ·cases h
  ·rename_i e48;have f48:decide (z=48)=false:=gY hz 48 e48
   split at h
   ·rename_i e120;have f120:decide (z=120)=true:=aA (by rw[<-hz,e120];rfl)
    rcases dV (3<=n)with h3|h3
    ·match r0,dC,dR,h with
     |[],dC,dR,h=>simp only[bZ]at dR;omega
     |[_],dC,dR,h=>simp only[qQ,bZ]at dR;omega
     |a::b::r1,dC,dR,h=>
      rw[T4]at h
      split at h
      ·cases h
      ·rename_i oY;obtain⟨T,hT⟩:∃x,s.extract 1 3=x:=⟨_,rfl⟩
       have jZ:T.data.toList=[a,b]:=by
        rw[<-hT,my,dC];rfl
       have rq:li T.data.toList 2=false:=by rw[jZ];simpa using oY
       have hw:=Nf A hA T 2 oM l rq
       unfold bH at hw;rw[dY,hm]at hw;rw[dY,hm]
       rcases hA with hA|hA
       all_goals
        refine iD aU (f:=134) Tryz.func134 rfl kR (oT kR) fun tags cC=>?_
        match tags,cC with
        |[t0,t1],_=>
         refine aY.of aU mixed (fun _=>0) kR (fun E=>fI E cO Tryz.f134.results.toList [t0,t1] (.p (pI 0)) [some (.box [A,.osl 1 0 m] 117 none),some (.rows 1 rs 5)]) fun P G E hc eY hE=>?_
         subst hA;have z1:E.size s=n:=iY
         have z0:E.eq s ⟨#[]⟩=false:=by
          exact FY
         have eple:=uL hE;have p0:=eple 0 0 oM
         have g0:E.get s (E.nat 0)=some z:=by
          exact FZ
         replace hi:=hc _ _ _ hi;have d0:E.lei 0 i1=decide (0<=i1):=fH
         replace hw:=eY _ _ _ _ _ hw;rw[d0f]at d0;have d3:E.lei 3 n=true:=by rw[hE];exact aA h3
         have p1:=eple 0 1 oM
         have p2:=eple 1 3 oM
         have p3:=eple 3 n h3;have x1:E.ext s (E.nat 1) (E.nat 3)=T:=by rw[hE];exact hT
         clear hE hc eY dY hm hn dC dR hz hd eple tI iL iH h hs d0f e48 e120 hT jZ oY rq h3;cbv
         repeat (first|(simp only[z0];try cbv)|(refine⟨p0,_,g0,?_⟩;cbv)|(refine⟨_,hi,?_⟩;cbv)|(simp only[d0];try cbv)|(simp only[f48];try cbv)|(simp only[f120];try cbv)|(simp only[z1];try cbv)|(simp only[d3];try cbv)|(refine⟨p1,p2,p3,?_⟩;cbv)|(simp only[x1];try cbv))
         refine .mk _ _ (Wk.refl _ _) [0,1] _ _ _ _ hw rfl rfl rfl ?_;cbv;all_goals trivial
    ·rw[dY,hm]
     rcases hA with hA|hA
     all_goals
      refine iD aU (f:=134) Tryz.func134 rfl kR (oT kR) fun tags cC=>?_
      match tags,cC with
      |[t0,t1],_=>
       refine aY.of aU mixed (fun _=>0) kR (fun E=>fI E cO Tryz.f134.results.toList [t0,t1] (.p (pI 0)) [some (.box [A,.osl 1 0 m] 117 none),some (.rows 1 rs 5)]) fun P G E hc eY hE=>?_
       subst hA;have z1:E.size s=n:=iY
       have z0:E.eq s ⟨#[]⟩=false:=by
        exact FY
       have eple:=uL hE;have p0:=eple 0 0 oM
       have g0:E.get s (E.nat 0)=some z:=by
        exact FZ
       replace hi:=hc _ _ _ hi;have d0:E.lei 0 i1=decide (0<=i1):=fH
       rw[d0f]at d0;have d3:E.lei 3 n=false:=by rw[hE];exact dF h3
       clear hE hc eY dY hm hn dC dR hz hd eple tI iL iH h hs d0f e48 e120 h3;cbv
       repeat (first|(simp only[z0];try cbv)|(refine⟨p0,_,g0,?_⟩;cbv)|(refine⟨_,hi,?_⟩;cbv)|(simp only[d0];try cbv)|(simp only[f48];try cbv)|(simp only[f120];try cbv)|(simp only[z1];try cbv)|(simp only[d3];try cbv))
       all_goals trivial
   ·rename_i e120;have f120:decide (z=120)=false:=gY hz 120 e120
    split at h
    ·rename_i e117;have f117:decide (z=117)=true:=aA (by rw[<-hz,e117];rfl)
     have hj:=nK (KF s 125 125 rfl);obtain⟨e1,rG⟩:∃x:Int,Lib.indexByte s.data.toList 125=x:=⟨_,rfl⟩
     rw[rG]at hj
     rcases dV (2<e1)with h2|h2
     ·obtain⟨q,u,r2,pG,gM,jz⟩:∃q u r2,r0=q::(u++125::r2)/\(125:UInt8) ∉ u/\e1=(u.length:Nat)+2:=by
       rcases A1 125 s.data.toList with⟨h5,_⟩|⟨v,r2,h5,h6,h7⟩
       ·omega
       ·rw[dC]at h5
        match v,h5,h6,h7 with
        |[],h5,h6,h7=>simp only[bZ]at h7;omega
        |[_],h5,h6,h7=>simp only[qQ,bZ]at h7;omega
        |x::y::v,h5,h6,h7=>
         have h8:r0=(y::v)++125::r2:=(tS h5).2;exact⟨y,v,r2,h8,fun h9=>h6 (aV _ (aV _ h9)),by simp only[qQ]at h7;omega⟩
      obtain⟨y,hy⟩:∃y:Int,((q.toNat:Nat):Int)=y:=⟨_,rfl⟩
      by_cases hq:q=123
      ·have f123:decide (y=123)=true:=aA (by rw[<-hy,hq];rfl)
       rw[pG,hq,Tw gM]at h
       split at h
       ·cases h
       ·rename_i oY;have sH:n=e1+1+(r2.length:Nat):=by
         rw[<-hn,dR,pG];simp only[qQ,sD];omega
        obtain⟨T,hT⟩:∃x,s.extract 2 e1.toNat=x:=⟨_,rfl⟩
        have jZ:T.data.toList=u:=by
         rw[<-hT,my,dC,pG];show(u++125::r2).take (e1.toNat-2)=u;rw[show e1.toNat-2=u.length by omega,rI]
        have rq:li T.data.toList 6=false:=by rw[jZ];simpa using oY
        have hw:=Nf A hA T 6 oM l rq
        unfold bH at hw;rw[dY,hm]at hw;rw[dY,hm]
        rcases hA with hA|hA
        all_goals
         refine iD aU (f:=134) Tryz.func134 rfl kR (oT kR) fun tags cC=>?_
         match tags,cC with
         |[t0,t1],_=>
          refine aY.of aU mixed (fun _=>0) kR (fun E=>fI E cO Tryz.f134.results.toList [t0,t1] (.p (pI 0)) [some (.box [A,.osl 1 0 m] 117 none),some (.rows 1 rs 5)]) fun P G E hc eY hE=>?_
          subst hA;have z1:E.size s=n:=iY
          have z0:E.eq s ⟨#[]⟩=false:=by
           exact FY
          have eple:=uL hE;have p0:=eple 0 0 oM
          have g0:E.get s (E.nat 0)=some z:=by
           exact FZ
          replace hi:=hc _ _ _ hi;have d0:E.lei 0 i1=decide (0<=i1):=fH
          replace hw:=eY _ _ _ _ _ hw;replace hj:=hc _ _ _ hj;rw[d0f]at d0;have d3:E.lti 2 e1=true:=by rw[hE];exact aA h2
          have p1:=eple 0 1 oM
          have p2:=eple 0 2 oM
          have p3:=eple 2 e1 oM
          have p4:=eple e1 n oM
          have g1:E.get s (E.nat 1)=some y:=by
           exact Kd
          have x1:E.ext s (E.nat 2) (E.nat e1)=T:=by rw[hE];exact hT
          clear hE hc eY dY hm hn dC dR hz hd eple tI iL iH h hs d0f e48 e120 hT jZ oY rq e117 pG gM jz rG sH hy hq h2;cbv
          repeat (first|(simp only[z0];try cbv)|(refine⟨p0,_,g0,?_⟩;cbv)|(refine⟨_,hi,?_⟩;cbv)|(simp only[d0];try cbv)|(simp only[f48];try cbv)|(simp only[f120];try cbv)|(simp only[f117];try cbv)|(refine⟨_,hj,?_⟩;cbv)|(simp only[d3];try cbv)|(refine⟨p1,_,g1,?_⟩;cbv)|(simp only[f123];try cbv)|(simp only[z1];try cbv)|(refine⟨p2,p3,p4,?_⟩;cbv)|(simp only[x1];try cbv))
          refine .mk _ _ (Wk.refl _ _) [0,1] _ _ _ _ hw rfl rfl rfl ?_;cbv;all_goals trivial
      ·have f123:decide (y=123)=false:=gY hy 123 hq;rw[dY,hm]
       rcases hA with hA|hA
       all_goals
        refine iD aU (f:=134) Tryz.func134 rfl kR (oT kR) fun tags cC=>?_
        match tags,cC with
        |[t0,t1],_=>
         refine aY.of aU mixed (fun _=>0) kR (fun E=>fI E cO Tryz.f134.results.toList [t0,t1] (.p (pI 0)) [some (.box [A,.osl 1 0 m] 117 none),some (.rows 1 rs 5)]) fun P G E hc eY hE=>?_
         subst hA;have z1:E.size s=n:=iY
         have z0:E.eq s ⟨#[]⟩=false:=by
          exact FY
         have eple:=uL hE;have p0:=eple 0 0 oM
         have g0:E.get s (E.nat 0)=some z:=by
          exact FZ
         replace hi:=hc _ _ _ hi;have d0:E.lei 0 i1=decide (0<=i1):=fH
         replace hj:=hc _ _ _ hj;rw[d0f]at d0;have d3:E.lti 2 e1=true:=by rw[hE];exact aA h2
         have p1:=eple 0 1 oM
         have g1:E.get s (E.nat 1)=some y:=by
          exact Kd
         clear hE hc eY dY hm hn dC dR hz hd eple tI iL iH h hs d0f e48 e120 e117 pG gM jz rG hy hq h2;cbv
         repeat (first|(simp only[z0];try cbv)|(refine⟨p0,_,g0,?_⟩;cbv)|(refine⟨_,hi,?_⟩;cbv)|(simp only[d0];try cbv)|(simp only[f48];try cbv)|(simp only[f120];try cbv)|(simp only[f117];try cbv)|(refine⟨_,hj,?_⟩;cbv)|(simp only[d3];try cbv)|(refine⟨p1,_,g1,?_⟩;cbv)|(simp only[f123];try cbv))
         all_goals trivial
     ·rw[dY,hm]
      rcases hA with hA|hA
      all_goals
       refine iD aU (f:=134) Tryz.func134 rfl kR (oT kR) fun tags cC=>?_
       match tags,cC with
       |[t0,t1],_=>
        refine aY.of aU mixed (fun _=>0) kR (fun E=>fI E cO Tryz.f134.results.toList [t0,t1] (.p (pI 0)) [some (.box [A,.osl 1 0 m] 117 none),some (.rows 1 rs 5)]) fun P G E hc eY hE=>?_
        subst hA;have z1:E.size s=n:=iY
        have z0:E.eq s ⟨#[]⟩=false:=by
         exact FY
        have eple:=uL hE;have p0:=eple 0 0 oM
        have g0:E.get s (E.nat 0)=some z:=by
         exact FZ
        replace hi:=hc _ _ _ hi;have d0:E.lei 0 i1=decide (0<=i1):=fH
        replace hj:=hc _ _ _ hj;rw[d0f]at d0;have d3:E.lti 2 e1=false:=by rw[hE];exact dF h2
        clear hE hc eY dY hm hn dC dR hz hd eple tI iL iH h hs d0f e48 e120 e117 rG h2;cbv
        repeat (first|(simp only[z0];try cbv)|(refine⟨p0,_,g0,?_⟩;cbv)|(refine⟨_,hi,?_⟩;cbv)|(simp only[d0];try cbv)|(simp only[f48];try cbv)|(simp only[f120];try cbv)|(simp only[f117];try cbv)|(refine⟨_,hj,?_⟩;cbv)|(simp only[d3];try cbv))
        all_goals trivial
    ·rename_i e117;have f117:decide (z=117)=false:=gY hz 117 e117;rw[dY,hm]
     rcases hA with hA|hA
     all_goals
      refine iD aU (f:=134) Tryz.func134 rfl kR (oT kR) fun tags cC=>?_
      match tags,cC with
      |[t0,t1],_=>
       refine aY.of aU mixed (fun _=>0) kR (fun E=>fI E cO Tryz.f134.results.toList [t0,t1] (.p (pI 0)) [some (.box [A,.osl 1 0 m] 117 none),some (.rows 1 rs 5)]) fun P G E hc eY hE=>?_
       subst hA;have z1:E.size s=n:=iY
       have z0:E.eq s ⟨#[]⟩=false:=by
        exact FY
       have eple:=uL hE;have p0:=eple 0 0 oM
       have g0:E.get s (E.nat 0)=some z:=by
        exact FZ
       replace hi:=hc _ _ _ hi;have d0:E.lei 0 i1=decide (0<=i1):=fH
       rw[d0f]at d0;clear hE hc eY dY hm hn dC dR hz hd eple tI iL iH h hs d0f e48 e120 e117;cbv
       repeat (first|(simp only[z0];try cbv)|(refine⟨p0,_,g0,?_⟩;cbv)|(refine⟨_,hi,?_⟩;cbv)|(simp only[d0];try cbv)|(simp only[f48];try cbv)|(simp only[f120];try cbv)|(simp only[f117];try cbv))
       all_goals trivial
theorem z0m(l:List UInt8)(dN:l≠[]):zt (Go.Lib.decodeL l).1:=by
 by_cases hc:(Go.Lib.decodeL l).1=65533/\(Go.Lib.decodeL l).2=1
 ·unfold zt;omega
 ·have he:=Go.Lib.encode_decode l dN hc;rw[<-zw]at he;obtain⟨q,hq,hqe⟩:=Pk ((Go.Lib.decodeL l).1:Int);have hd:=Qz q hq (l.drop (Go.Lib.decodeL l).2);rw[<-hqe,he,List.take_append_drop]at hd;rw[hd];exact hq
theorem zu3(A:AV)(hA:j7 A)(n:Int)(h0:0<=n)(h1:n<=1114111)(hs:¬(55296<=n/\n<=57343))(l:List UInt8)(hb:l.length<=1000000000)(k:Int)(hk:(((encL n).length:Nat):Int)=k):
  VM 146 [.own 0 0,.p (.v (.int .i32 n))] (bH A l) (.p (.tup [pI k,.v .nilIface])) (bH (.own 0 0) (l++encL n)):=by
 rw[<-hk];exact Q1 A hA n h0 h1 hs l hb
theorem Sb(l:Bs):lS l=bL l:=rfl
structure Ko(s:ByteArray)(x:AV×Nat×List (List PV)×Nat):Prop where
 a:j7 x.1
 st:∃acc:Bs,x.2.2.1=lR acc/\acc.length=x.2.1/\acc++fR (s.data.toList.drop x.2.2.2)=fR s.data.toList/\acc.length<=4*x.2.2.2
theorem z7v(s:ByteArray)(hs:s.size<=8000000):RL 132 [pS s] (pS (cb s)):=by
 have hv:=Oo s oM
 cases WA:H6 s with
 |true=>
  rw[WA]at hv;have e:cb s=s:=by
   unfold cb;rw[zli WA]
  rw[e];refine vM Tryz.func132 fun P G E hc hE=>?_
  replace hv:=hc _ _ _ hv;clear hE hc;exact rM
 |false=>
  rw[WA]at hv;obtain⟨R,hR⟩:∃x,cb s=x:=⟨_,rfl⟩
  rw[hR];obtain⟨n,hn⟩:∃n:Int,((s.size:Nat):Int)=n:=⟨_,rfl⟩
  obtain⟨μ,hμ⟩:∃μ:Nat->Nat,∀x,μ x=s.size-x:=⟨_,fun _=>rfl⟩
  have jR:Ko s (.p (.v (.pointer none)),0,[],0):=⟨.inl rfl,[],rfl,rfl,rfl,nR _⟩;have Cv:=fun(A:AV)(hA:j7 A)(r:Int)(h0:0<=r)(h1:r<=1114111)(hs:¬(55296<=r/\r<=57343))(acc:Bs)(hb:acc.length<=1000000000)(k:Int)(hk:(((encL r).length:Nat):Int)=k)=>wB (zu3 A hA r h0 h1 hs acc hb k hk)
  have mR:=fun(A:AV)(acc:Bs)(hb:acc.length<=9223372036854775807)=>wB (Nn A acc hb)
  unfold bH at Cv mR;refine xR aU mA mixed (fun _=>0) Tryz.func132 rfl kR kR rfl fun P G E hc eY hE=>?_
  replace hv:=hc _ _ _ hv;have z1:E.size s=n:=iY
  have elt:∀p:Nat,E.lti (E.ofN p) n=decide (p<s.size):=fun p=>by
   rw[hE,<- hn];show decide (((p:Nat):Int)<((s.size:Nat):Int))=_
   grind
  have eadd:∀p,E.addN p (E.decW s p)=p+(Utf8.decode s p).2:=fun p=>by rw[hE];rfl
  have edec:∀p:Nat,E.decR s p=(((Utf8.decode s p).1:Nat):Int):=fun p=>by rw[hE];rfl
  clear hE hc;cbv;refine mW ?_;refine iU.wk (DC (k:=0) (j:=1) 1 5 rfl rfl) ?_;refine gV 17 [0,3,10] 3 (fun _:AV×Nat×List (List PV)×Nat=>[.p (pS s),.own 0 0,.own 1 0]) (fun x=>[some (.box [x.1,.osl 2 0 x.2.1] 117 none),some (.iter s x.2.2.2),some (.rows 1 x.2.2.1 5)]) (Ko s) (fun x=>μ x.2.2.2) (.p (.v (.pointer none)),0,[],0) r5 jR ?_
  clear jR
  rintro⟨A,m,rs,pos⟩ ⟨hA,acc,dY,hm,oO,h4⟩
  simp only at hA dY hm oO h4;replace hm:acc.length=m:=hm;replace h4:acc.length<=4*pos:=h4;have d1:=elt pos
  rcases dV (pos<s.size)with hp|hp
  ·rw[aA hp]at d1;obtain⟨r,wd,hd⟩:∃r wd,Utf8.decode s pos=(r,wd):=⟨_,_,rfl⟩
   have hw:1<=wd:=by
    exact Wl
   have dN:s.data.toList.drop pos≠[]:=by
    simp_all
   have jJ:=(Go.Lib.decodeL_drop s pos).trans hd;have vC:=z0m _ dN;rw[jJ]at vC;simp only at vC;unfold zt at vC;have GN:=Qb _ r wd dN jJ;rw[zD]at GN;have Dg:=OU (r:Int);obtain⟨rz,nr⟩:∃x:Int,((r:Nat):Int)=x:=⟨_,rfl⟩
   have hx:E.addN pos (E.decW s pos)=pos+wd:=by rw[eadd,hd]
   have hy:E.decR s pos=rz:=cj
   rw[nr]at GN Dg;obtain⟨kk,fb⟩:∃x:Int,(((encL rz).length:Nat):Int)=x:=⟨_,rfl⟩
   have xz:=Cv A hA rz oM oM oM acc oM kk fb
   obtain⟨RS,kV⟩:∃x,lR (acc++encL rz)=x:=⟨_,rfl⟩
   obtain⟨M,hM⟩:∃x,(acc++encL rz).length=x:=⟨_,rfl⟩
   rw[<-dY,hm,kV,hM]at xz;have YL:M=acc.length+(encL rz).length:=aX
   have lV:Ko s (.own 0 0,M,RS,E.addN pos (E.decW s pos)):=by
    rw[hx];refine⟨.inr rfl,acc++encL rz,kV.symm,hM,?_,?_⟩
    ·grind
    grind
   have gA:μ (E.addN pos (E.decW s pos))<μ pos:=by
    grind
   replace xz:=eY _ _ _ _ _ xz
   rcases hA with rfl|rfl
   all_goals
    clear elt eadd edec Cv mR eY dY hm oO h4 hd jJ vC GN Dg nr hx kV hM YL dN hw hp hR hn hs WA hv fb;cbv;refine mW ?_;refine .mk _ _ (Wk.refl _ _) [0,2] _ _ _ _ xz rfl rfl rfl ?_;cbv;refine .mk (.own 0 0,M,RS,E.addN pos (E.decW s pos)) r5 ?_ ?_
    ·exact lV
    ·exact gA
  ·rw[dF hp]at d1;have cZ:=Qc s (bL acc) pos hp oO;rw[hR]at cZ;have jA:acc.length<=4*s.size:=by
    have h6:=Qm s.data.toList;have h7:=aG List.length oO;rw[sD]at h7;have e:s.data.toList.length=s.size:=rfl;omega
   have xW:=mR A acc oM
   rw[Sb,cZ,<- dY,hm]at xW;replace xW:=eY _ _ _ _ _ xW
   rcases hA with rfl|rfl
   all_goals
    clear elt eadd edec Cv mR eY dY hm oO h4 hp hR hn hs WA hv cZ jA;cbv;refine mW ?_;refine .mk _ _ (Wk.refl _ _) [0,2] _ _ _ _ xW rfl rfl rfl ?_;exact jm
def PL(s:ByteArray)(a:Int)(q:UInt8):PV:=match lit uB q (bB s (a+1))with
 |none=>.tup [pS ⟨#[]⟩,pI 0]
 |some p=>.tup [pS (cb (bL p.1)),pI ((s.size:Nat)-(p.2.length:Nat))]
structure Cq(s:ByteArray)(n a:Int)(q:UInt8)(R:Option (Bs×Bs))(x:Int×AV×Nat×List (List PV)):Prop where
 j0:a+1<=x.1
 j1:x.1<=n
 sa:j7 x.2.1
 st:∃acc:Bs,x.2.2.2=lR acc/\acc.length=x.2.2.1/\(acc.length:Int)<=4*(x.1-a)/\R=(lit uB q (bB s x.1)).map fun z=>(acc++z.1,z.2)
theorem zv2(s:ByteArray)(a:Int)(q:UInt8)(h0:0<=a)(hq:s.data.toList[a.toNat]?=some q)(hs:s.size<=900000):RL 120 [pS s,pI a] (PL s a q):=by
 obtain⟨n,hn⟩:∃n:Int,((s.size:Nat):Int)=n:=⟨_,rfl⟩
 have h1:a<n:=by
  exact LZ
 have aT:∀i:Int,0<=i->i<n->∃c,s.data.toList[i.toNat]?=some c:=fun i iH iL=>⟨_,aB cj⟩
 obtain⟨a1,kU⟩:∃x:Int,a+1=x:=⟨_,rfl⟩
 obtain⟨RV,eI⟩:∃x,PL s a q=x:=⟨_,rfl⟩
 rw[eI];obtain⟨RL_,aa⟩:∃x,lit uB q (bB s (a+1))=x:=⟨_,rfl⟩
 have dA:RL_=none->RV=.tup [pS ⟨#[]⟩,pI 0]:=fun h=>by
  rw[<-eI];unfold PL;rw[aa,h]
 have gH:∀t r',RL_=some (t,r')->RV=.tup [pS (cb (bL t)),pI (n-(r'.length:Nat))]:=fun t r' h=>by
  rw[<-eI];unfold PL;rw[aa,h,<- hn]
 obtain⟨μ,hμ⟩:∃μ:Int->Nat,∀x,μ x=2000000000-x.toNat:=⟨_,fun _=>rfl⟩
 have jR:Cq s n a q RL_ (a1,.p (.v (.pointer none)),0,[]):=⟨by omega,by omega,.inl rfl,[],rfl,rfl,by grind,by
  simp_all⟩
 obtain⟨zq,eJ⟩:∃z:Int,((q.toNat:Nat):Int)=z:=⟨_,rfl⟩
 have y5:=fun(A:AV)(hA:j7 A)(acc:Bs)(c:UInt8)(z:Int)(hz:((c.toNat:Nat):Int)=z)(hb:acc.length<=1000000000)=>wB (Fw A hA acc c z hz hb)
 have mR:=fun(A:AV)(acc:Bs)(hb:acc.length<=9223372036854775807)=>wB (Nn A acc hb)
 have yu:=fun(A:AV)(hA:j7 A)(T:ByteArray)(hs:T.size<=1000000)(acc:Bs)(hb:acc.length<=900000000)(t r:Bs)(h:jV uB T.data.toList=some (t,r))=>z5o A hA T hs acc hb t r h
 have wN:=fun(A:AV)(hA:j7 A)(T:ByteArray)(hs:T.size<=1000000)(acc:Bs)(h:jV uB T.data.toList=none)=>z5p A hA T hs acc h
 unfold bH at y5 mR yu wN;have gR:=fun(t:ByteArray)(h:t.size<=8000000)=>z7v t h
 refine xR aU mA mixed (fun _=>0) Tryz.func120 rfl kR kR rfl fun P G E hc eY hE=>?_
 replace gR:=fun(t:ByteArray)(h:t.size<=8000000)=>hc _ _ _ (gR t h)
 have z1:E.size s=n:=iY
 have elt:=yF hE;have eple:=uL hE;have eget:∀(i:Int)(c:UInt8)(z:Int),s.data.toList[i.toNat]?=some c->((c.toNat:Nat):Int)=z->E.get s (E.nat i)=some z:=fun i c z h hz=>by
  exact MA
 have eadd:=ub hE;have eext:∀i j:Int,E.ext s (E.nat i) (E.nat j)=s.extract i.toNat j.toNat:=fun i j=>by rw[hE];rfl
 have ei:=eadd a 1 oM oM oM oM
 rw[kU]at ei;have g0:=eget a q zq hq eJ;have p0:=eple 0 a h0;clear hE hc;cbv;refine mW ?_;refine iU.wk (DC (k:=0) (j:=1) 1 5 rfl rfl) ?_;refine gV 49 [0,1,6,7] 2 (fun x:Int×AV×Nat×List (List PV)=>[.p (pS s),.p (pI a),.own 0 0,.p (pI x.1)]) (fun x=>[some (.box [x.2.1,.osl 1 0 x.2.2.1] 117 none),some (.rows 1 x.2.2.2 5)]) (Cq s n a q RL_) (fun x=>μ x.1) (a1,.p (.v (.pointer none)),0,[]) r5 jR ?_
 clear jR
 rintro⟨j,A,m,rs⟩ ⟨j0,j1,hA,acc,dY,hm,dR,iZ⟩
 simp only at j0 j1 hA dY hm dR iZ;replace hn:((s.size:Nat):Int)=n:=hn;replace hm:acc.length=m:=hm;replace dR:((acc.length:Nat):Int)<=4*(j-a):=dR;replace eJ:((q.toNat:Nat):Int)=zq:=eJ;have Yd:n<=900000:=eC
 rcases dV (j<n)with cQ|cQ
 ·have d1:E.lti j n=true:=aX
  obtain⟨c,eP⟩:=aT j oM cQ
  obtain⟨z,hz⟩:∃z:Int,((c.toNat:Nat):Int)=z:=⟨_,rfl⟩
  have g1:=eget j c z eP hz;have p1:=eple 0 j oM
  have dZ:=uW oM eP
  obtain⟨j2,oL⟩:∃x:Int,j+1=x:=⟨_,rfl⟩
  have ej:=eadd j 1 oM oM oM oM
  rw[oL]at ej;rw[dZ,oL]at iZ;have fE:=rL s j2
  rcases dV (c=q)with pP|pP
  ·
   rw[pP,Ai]at iZ;have hv:=gH _ _ iZ;rw[cB]at hv;have pO:n-((bB s j2).length:Nat)=j2:=eC
   rw[pO]at hv;have xW:=mR A acc oM
   rw[Sb,<- dY,hm]at xW;have YD:(bL acc).size=acc.length:=rfl;have hr:=gR (bL acc) oM
   obtain⟨B,hB⟩:∃x,bL acc=x:=⟨_,rfl⟩
   rw[hB]at hr hv xW;obtain⟨O,hO⟩:∃x,cb B=x:=⟨_,rfl⟩
   rw[hO]at hr hv;have w1:decide (z=zq)=true:=aA aX
   replace xW:=eY _ _ _ _ _ xW;subst hv
   rcases hA with rfl|rfl
   all_goals
    clear dA gH aT gR elt eple eget eadd eext iZ fE dZ eP hz pP hO pO eI aa eJ hq hn dR eY y5 mR yu wN dY hm hB YD;cbv;refine mW ?_;refine .mk _ _ (Wk.refl _ _) [0,1] _ _ _ _ xW rfl rfl rfl ?_;exact rM
  ·have w1:decide (z=zq)=false:=dF (by
    intro h;exact pP (cY.1 oM))
   have sH:∀k:UInt8,c≠k->decide (z=((k.toNat:Nat):Int))=false:=fun k h=>gY hz k h
   rcases dV (c=10\/c=13)with hb|hb
   ·rw[F9 _ _ pP hb]at iZ;have hv:=dA iZ;subst hv
    rcases dV (c=10)with fh|fh
    ·have w2:decide (z=10)=true:=aA (by rw[<-hz,fh];rfl)
     clear dA gH aT gR elt eple eget eadd eext iZ fE dZ eP hz pP eI aa eJ hq hn dR sH hb fh eY y5 mR yu wN dY hm;exact rM
    ·have YR:c=13:=hb.resolve_left fh;have w2:decide (z=10)=false:=sH 10 fh;have w3:decide (z=13)=true:=aA (by rw[<-hz,YR];rfl)
     clear dA gH aT gR elt eple eget eadd eext iZ fE dZ eP hz pP eI aa eJ hq hn dR sH hb fh YR eY y5 mR yu wN dY hm;exact rM
   ·have w2:decide (z=10)=false:=sH 10 (fun e=>hb (.inl e))
    have w3:decide (z=13)=false:=sH 13 (fun e=>hb (.inr e))
    rcases dV (c=92)with ab|ab
    ·have w4:decide (z=92)=true:=aA (by rw[<-hz,ab];rfl)
     obtain⟨T,hT⟩:∃x,s.extract j2.toNat n.toNat=x:=⟨_,rfl⟩
     have jZ:T.data.toList=bB s j2:=by
      rw[<-hT,AL];exact Cb
     have bo:T.size=(bB s j2).length:=by rw[<-jZ];rfl
     have x1:=eext j2 n;rw[hT]at x1;have p3:=eple 0 j2 oM
     have p4:=eple j2 n oM
     have p5:=eple n n oM
     cases zU:jV uB (bB s j2)with
     |none=>
      rw[Fk _ pP hb ab zU]at iZ;have hv:=dA iZ;subst hv;have he:=wN A hA T oM acc (by rw[jZ];exact zU)
      rw[<-dY,hm]at he;replace he:=eY _ _ _ _ _ he
      rcases hA with rfl|rfl
      all_goals
       clear dA gH aT gR elt eple eget eadd eext iZ fE dZ eP hz pP eI aa eJ hq hn dR sH hb ab zU eY y5 mR yu wN dY hm hT jZ bo;cbv;refine mW ?_;refine .mk _ _ (Wk.refl _ _) [0,1] _ _ _ _ he rfl rfl rfl ?_;exact jm
     |some p=>
      obtain⟨t,r⟩:=p;have he:=yu A hA T oM acc oM t r (by rw[jZ];exact zU)
      have ib:=JI uB zU;simp only at ib;obtain⟨u,gG,gM,lB⟩:=ZW uB zU;have h4:=Gw zU;rw[Aj _ pP hb ab zU]at iZ;simp only at iZ;obtain⟨mm,md⟩:∃x:Int,((T.size:Nat):Int)-(r.length:Nat)=x:=⟨_,rfl⟩
      rw[md]at he;have yl:0<mm:=eC
      have w5:decide (mm=0)=false:=dF oM
      have dH:r=bB s (j+(mm+1)):=by
       have e1:bB s j2=s.data.toList.drop j2.toNat:=rfl;have e2:s.data.toList.drop (j+(mm+1)).toNat=(s.data.toList.drop j2.toNat).drop mm.toNat:=by
        rw[zD]
        congr 1
        omega
       show r=s.data.toList.drop (j+(mm+1)).toNat;rw[e2,<- e1,gM];have e3:u.length=mm.toNat:=by
        grind
       grind
      rw[dH]at iZ;have em:=eadd mm 1 oM oM oM oM
      obtain⟨m2,kS⟩:∃x:Int,mm+1=x:=⟨_,rfl⟩
      rw[kS]at em iZ dH;have ejm:=eadd j m2 oM oM oM oM
      obtain⟨j3,XM⟩:∃x:Int,j+m2=x:=⟨_,rfl⟩
      rw[XM]at ejm iZ dH;obtain⟨RS,kV⟩:∃x,lR (acc++t)=x:=⟨_,rfl⟩
      obtain⟨M,hM⟩:∃x,(acc++t).length=x:=⟨_,rfl⟩
      rw[<-dY,hm,kV,hM]at he;have YL:M=acc.length+t.length:=aX
      have qw:r.length<=s.size:=eC
      have lV:Cq s n a q RL_ (j3,.own 0 0,M,RS):=by
       refine⟨by omega,by omega,.inr rfl,acc++t,kV.symm,hM,by omega,?_⟩
       rw[iZ,yT]
       congr 1
       funext z
       simp
      have gA:μ j3<μ j:=by
       rw[hμ,hμ];omega
      replace he:=eY _ _ _ _ _ he
      rcases hA with rfl|rfl
      all_goals
       clear dA gH aT gR elt eple eget eadd eext iZ fE dZ eP hz pP eI aa eJ hq hn dR sH hb ab zU eY y5 mR yu wN dY hm hT jZ bo ib gG gM lB h4 md yl dH kS XM kV hM YL qw;cbv;refine mW ?_;refine .mk _ _ (Wk.refl _ _) [0,1] _ _ _ _ he rfl rfl rfl ?_;cbv;refine mW ?_;refine .mk (j3,.own 0 0,M,RS) r5 ?_ ?_
       ·exact lV
       ·exact gA
    ·have w4:decide (z=92)=false:=sH 92 ab;rw[Ah _ _ pP hb ab]at iZ;have he:=y5 A hA acc c z hz oM
     obtain⟨RS,kV⟩:∃x,lR (acc++[c])=x:=⟨_,rfl⟩
     obtain⟨M,hM⟩:∃x,(acc++[c]).length=x:=⟨_,rfl⟩
     rw[<-dY,hm,kV,hM]at he;have YL:M=acc.length+1:=aX
     have lV:Cq s n a q RL_ (j2,.own 0 0,M,RS):=by
      refine⟨by omega,by omega,.inr rfl,acc++[c],kV.symm,hM,by omega,?_⟩
      rw[iZ,yT]
      congr 1
      funext z
      simp
     have gA:μ j2<μ j:=by
      grind
     replace he:=eY _ _ _ _ _ he
     rcases hA with rfl|rfl
     all_goals
      clear dA gH aT gR elt eple eget eadd eext iZ fE dZ eP hz pP eI aa eJ hq hn dR sH hb ab eY y5 mR yu wN dY hm kV hM YL;cbv;refine mW ?_;refine .mk _ _ (Wk.refl _ _) [0,1] _ _ _ _ he rfl rfl rfl ?_;cbv;refine mW ?_;refine .mk (j2,.own 0 0,M,RS) r5 ?_ ?_
      ·exact lV
      ·exact gA
 ·have d1:E.lti j n=false:=aX
  rw[ja oM,O2]at iZ
  have hv:=dA iZ;subst hv;clear dA gH aT gR elt eple eget eadd eext iZ eI aa eJ hq hn dR eY y5 mR yu wN dY hm;exact rM
theorem pre2(a b:UInt8)(l:Bs):Lib.hasPrefix l [a,b]=decide (l.take 2=[a,b]):=by
 unfold Lib.hasPrefix
 match l with
 |[]=>rfl
 |[x]=>
  grind
 |x::y::l=>
  grind
theorem xfm(l:Bs):(pF l=0/\Lib.hasPrefix l [47,47]=false/\Lib.hasPrefix l [47,42]=false)\/(pF l=1/\Lib.hasPrefix l [47,47]=true)\/(pF l=2/\Lib.hasPrefix l [47,47]=false/\Lib.hasPrefix l [47,42]=true):=by
 rw[pre2,pre2];unfold pF
 grind
theorem Ol:∀{l:Bs},(10:UInt8) ∉ l->oS l=[]
 |[],_=>rfl
 |c::r,h=>by
  rw[oS,aD fun e=>h aX]
  exact Ol fun h'=>h (aV _ h')
theorem Om:∀{u:Bs}(v:Bs),(10:UInt8) ∉ u->oS (u++10::v)=10::v
 |[],v,_=>by
  show oS (10::v)=_;rw[oS,aF rfl]
 |c::u,v,h=>by
  show oS (c::(u++10::v))=_;rw[oS,aD fun e=>h aX]
  exact Om v fun h'=>h (aV _ h')
theorem Q6:∀l:Bs,(Lib.index l [42,47]=-1/\xP l=none)\/∃k:Nat,Lib.index l [42,47]=(k:Nat)/\k+2<=l.length/\xP l=some (l.drop (k+2))
 |[]=>.inl ⟨rfl,rfl⟩
 |c::r=>by
  rw[Lib.index,xP];have hp:([42,47]:Bs).isPrefixOf (c::r)=decide (c=42/\r.head?=some 47):=by
   cases r with
   |nil=>
    grind
   |cons d r=>
    grind
  rw[hp]
  by_cases hc:c=42/\r.head?=some 47
  ·rw[aA hc,aF rfl,aF hc];refine .inr ⟨0,rfl,?_,?_⟩
   ·grind
   simp_all
  ·rw[dF hc,aD aN,aD hc]
   rcases Q6 r with⟨h1,h2⟩|⟨k,h1,h2,h3⟩
   ·grind
   grind
theorem A6(s:ByteArray)(i:Int)(k:Nat)(h:0<=i):(bB s i).drop k=bB s (i+(k:Nat)):=by
 unfold bB;rw[zD]
 congr 1
 omega
theorem z7a(s:ByteArray)(at0:Int)(r:Bs)(b:Bool)(h0:0<=at0)(h1:at0<=(s.size:Nat))(hs:s.size<=1000000)(hR:lA (bB s at0)=(r,b)):RL 93 [pS s,pI at0] (.tup [pI ((s.size:Nat)-(r.length:Nat)),pB b]):=by
 obtain⟨n,hn⟩:∃n:Int,((s.size:Nat):Int)=n:=⟨_,rfl⟩
 obtain⟨e,he⟩:∃e:Int,n-(r.length:Nat)=e:=⟨_,rfl⟩
 rw[hn]at h1;rw[hn,he];obtain⟨μ,hμ⟩:∃μ:Int->Nat,∀i,μ i=2000000000-i.toNat:=⟨_,fun _=>rfl⟩
 have qT:=fun(t p:ByteArray)=>nK (F7 t p)
 have sS:=fun(t:ByteArray)(c:UInt8)(z k:Int)(hz:((c.toNat:Nat):Int)=z)(hk:Lib.indexByte t.data.toList c=k)=>show RL _ _ (pI k)from hk ▸ nK (KF t c z hz)
 have sR:=fun(t p:ByteArray)(k:Int)(ht:t.size<=1000000)(hk:Lib.index t.data.toList p.data.toList=k)=>show RL _ _ (pI k)from hk ▸ z5c t p oM
 have aT:∀i:Int,0<=i->i<n->∃c,s.data.toList[i.toNat]?=some c:=fun i iH iL=>⟨_,aB cj⟩
 have jR:Sk s n (r,b) at0:=⟨h0,h1,hR⟩;have cZ:∀i,Sk s n (r,b) i->lA (bB s i)=(bB s i,true)->e=i/\b=true:=fun i hi h=>by
  exact V9
 refine vM Tryz.func93 fun P G E hc hE=>?_
 replace qT:=fun(t p:ByteArray)=>hc _ _ _ (qT t p)
 replace sS:=fun(t:ByteArray)(c:UInt8)(z k:Int)(hz:((c.toNat:Nat):Int)=z)(hk:Lib.indexByte t.data.toList c=k)=>hc _ _ _ (sS t c z k hz hk)
 replace sR:=fun(t p:ByteArray)(k:Int)(ht:t.size<=1000000)(hk:Lib.index t.data.toList p.data.toList=k)=>hc _ _ _ (sR t p k ht hk)
 have z1:E.size s=n:=iY
 have elt:=yF hE;have eple:=uL hE;have eget:∀(i:Int)(c:UInt8)(z:Int),s.data.toList[i.toNat]?=some c->((c.toNat:Nat):Int)=z->E.get s (E.nat i)=some z:=fun i c z h hz=>by
  exact MA
 have eadd:=ub hE;have eext:∀i j:Int,E.ext s (E.nat i) (E.nat j)=s.extract i.toNat j.toNat:=fun i j=>by rw[hE];rfl
 clear hE hc hR h0 h1;cbv;refine gV 72 [0,1] 0 (fun i:Int=>[.p (pS s),.p (pI i)]) (fun _=>[]) (Sk s n (r,b)) μ at0 r5 jR ?_
 clear jR;intro i hI;replace hn:((s.size:Nat):Int)=n:=hn;have iH:=hI.i0;have iL:=hI.i1
 rcases dV (i<n)with cQ|cQ
 ·have d1:E.lti i n=true:=aX
  obtain⟨c,eP⟩:=aT i iH cQ;obtain⟨z,hz⟩:∃z:Int,((c.toNat:Nat):Int)=z:=⟨_,rfl⟩
  have g1:=eget i c z eP hz;have p1:=eple 0 i iH;have ei:=eadd i 1 oM oM oM oM
  have dZ:=uW iH eP;have hM:μ (E.wadd .i64 i 1)<μ i:=aX
  have ck:∀k:UInt8,c=k->decide (z=((k.toNat:Nat):Int))=true:=fun k h=>aA (by rw[<-hz,h])
  have zE:∀k:UInt8,c≠k->decide (z=((k.toNat:Nat):Int))=false:=fun k h=>gY hz k h
  cases hw:wA c with
  |true=>
   have lV:Sk s n (r,b) (E.wadd .i64 i 1):=by
    exact Vx
   have Lr:c=32\/c≠32/\(c=9\/c≠9/\(c=10\/c≠10/\c=13)):=by
    unfold wA at hw
    grind
   rcases Lr with e32|⟨e32,e9|⟨e9,e10|⟨e10,e13⟩⟩⟩
   ·have w32:decide (z=32)=true:=ck 32 e32;clear qT sS sR aT cZ elt eple eget eadd eext ck zE hn he dZ eP hz ei hw e32;cbv;refine mW ?_;exact VK
   ·have w32:decide (z=32)=false:=zE 32 e32;have w9:decide (z=9)=true:=ck 9 e9;clear qT sS sR aT cZ elt eple eget eadd eext ck zE hn he dZ eP hz ei hw e32 e9;cbv;refine mW ?_;exact VK
   ·have w32:decide (z=32)=false:=zE 32 e32;have w9:decide (z=9)=false:=zE 9 e9;have w10:decide (z=10)=true:=ck 10 e10;clear qT sS sR aT cZ elt eple eget eadd eext ck zE hn he dZ eP hz ei hw e32 e9 e10;cbv;refine mW ?_;exact VK
   ·have w32:decide (z=32)=false:=zE 32 e32;have w9:decide (z=9)=false:=zE 9 e9;have w10:decide (z=10)=false:=zE 10 e10;have w13:decide (z=13)=true:=ck 13 e13;clear qT sS sR aT cZ elt eple eget eadd eext ck zE hn he dZ eP hz ei hw e32 e9 e10 e13;cbv;refine mW ?_;exact VK
  |false=>
   have dN:c≠9/\c≠10/\c≠13/\c≠32:=by
    unfold wA at hw
    grind
   have w9:decide (z=9)=false:=zE 9 dN.1;have w10:decide (z=10)=false:=zE 10 dN.2.1;have w13:decide (z=13)=false:=zE 13 dN.2.2.1;have w32:decide (z=32)=false:=zE 32 dN.2.2.2;obtain⟨T,hT⟩:∃x,s.extract i.toNat n.toNat=x:=⟨_,rfl⟩
   have jZ:T.data.toList=bB s i:=by
    rw[<-hT,AL]
    have:=rL s i
    exact Cb
   have x1:=eext i n;rw[hT]at x1;have p4:=eple i n iL;have p5:=eple n n oM
   have dI:=qT T ⟨#[47,47]⟩;have gE:=qT T ⟨#[47,42]⟩;have e1:(⟨#[47,47]⟩:ByteArray).data.toList=[47,47]:=rfl;have e2:(⟨#[47,42]⟩:ByteArray).data.toList=[47,42]:=rfl;change fS P G _ _ (pB (Lib.hasPrefix T.data.toList [47,47]))at dI;change fS P G _ _ (pB (Lib.hasPrefix T.data.toList [47,42]))at gE;rw[jZ]at dI gE;have hlen:=rL s i
   rcases xfm (bB s i)with⟨hk,f1,f2⟩|⟨hk,f1⟩|⟨hk,f1,f2⟩
   ·rw[f1]at dI;rw[f2]at gE;obtain⟨rfl,rfl⟩:=cZ i hI (by rw[dZ]at hk ⊢;exact DS hw hk)
    clear qT sS sR aT cZ elt eple eget eadd eext ck zE hn he dZ eP hz ei hw dN f1 f2 hk e1 e2 jZ hT hlen;exact rM
   ·rw[f1]at dI;obtain⟨r2,oI⟩:=S4 hk;have lQ:=hI.sk;rw[oI,OG aN rfl]at lQ
    rcases A1 10 (bB s i)with⟨hj,mS⟩|⟨u,v,gG,gM,hj⟩
    ·have Da:=sS T 10 10 (-1) rfl (by rw[jZ];exact hj)
     have d2:E.lti (-1) 0=true:=by rw[elt];rfl
     have hd:oS (([47,47]++r2:Bs).drop 2)=[]:=Ol fun h=>mS aX
     have wO:oS r2=[]:=hd;change lA (oS r2)=_ at lQ;rw[wO,G7]at lQ;have ye:r=[]:=(aG Prod.fst lQ).symm;have ke:b=true:=(aG Prod.snd lQ).symm;have wN:e=n:=aX
     subst ke wN;clear qT sS sR aT cZ elt eple eget eadd eext ck zE hn he dZ eP hz ei hw dN f1 hk e1 e2 jZ hT hlen oI lQ hj mS hd wO ye;exact rM
    ·obtain⟨k,zQ⟩:∃x:Int,((u.length:Nat):Int)=x:=⟨_,rfl⟩
     have Da:=sS T 10 10 k rfl (by rw[jZ,hj];exact zQ)
     have d2:E.lti k 0=false:=aX
     have vD:(bB s i).length=u.length+(v.length+1):=aX
     have WN:bB s (i+k)=10::v:=by
      have h5:=A6 s i u.length iH
      grind
     have ek:=eadd i k oM oM oM oM
     have hd:oS r2=10::v:=by
      match u,gG,gM with
      |[],gG,gM=>grind
      |[x],gG,gM=>grind
      |x::y::u,gG,gM=>
       rw[oI]at gG;have h6:r2=u++10::v:=(tS (tS gG).2).2;rw[h6];exact Om v fun h=>gM (aV _ (aV _ h))
     have hu0:1<=u.length:=by
      grind
     change lA (oS r2)=_ at lQ;rw[hd,<- WN]at lQ;have lV:Sk s n (r,b) (E.wadd .i64 i k):=by rw[ek];exact⟨by omega,by omega,lQ⟩
     have gA:μ (E.wadd .i64 i k)<μ i:=aX
     clear qT sS sR aT cZ elt eple eget eadd eext ck zE hn he dZ eP hz ei hw dN f1 hk e1 e2 jZ hT hlen oI lQ hj hd hu0 vD WN gG gM zQ ek hM;cbv;refine mW ?_;refine .mk (E.wadd .i64 i k) r5 ?_ ?_
     ·exact lV
     ·exact gA
   ·rw[f1]at dI;rw[f2]at gE;obtain⟨r2,oI⟩:=S5 hk;have gu:bB s (i+2)=r2:=by
     have h5:=A6 s i 2 iH
     grind
    obtain⟨i2,nF⟩:∃x:Int,i+2=x:=⟨_,rfl⟩
    have XK:(bB s i).length=r2.length+2:=by rw[oI];rfl
    have ei2:=eadd i 2 oM oM oM oM
    rw[nF]at ei2 gu;obtain⟨T2,a8⟩:∃x,s.extract i2.toNat n.toNat=x:=⟨_,rfl⟩
    have HX:T2.data.toList=r2:=by
     rw[<-a8,AL,gu];exact Cb
    have zb:T2.size<=1000000:=by
     have e5:T2.data.toList.length=T2.size:=rfl
     grind
    have x2:=eext i2 n;rw[a8]at x2;have p6:=eple 0 i2 oM
    have p7:=eple i2 n oM
    have lQ:=hI.sk;have e3:(⟨#[42,47]⟩:ByteArray).data.toList=[42,47]:=rfl
    rcases Q6 r2 with⟨hj,mS⟩|⟨k0,hj,lI,hd⟩
    ·have Da:=sR T2 ⟨#[42,47]⟩ (-1) zb (by rw[HX];exact hj)
     have d2:E.lti (-1) 0=true:=by rw[elt];rfl
     rw[oI,ON (c:=47) (r:=42::r2) aN rfl mS]at lQ
     have h9:(47::42::r2:Bs).length=r.length:=aG (fun p:Bs×Bool=>p.1.length) lQ
     have fh:false=b:=aG Prod.snd lQ;simp only[qQ]at h9;replace he:n-((r.length:Nat):Int)=e:=he;have XY:e=i:=eC
     subst fh XY;clear qT sS sR aT cZ elt eple eget eadd eext ck zE hn he dZ eP hz ei hw dN f1 f2 hk e1 e2 jZ hT hlen oI lQ hj mS gu nF XK a8 HX zb e3 h9 hM;exact rM
    ·obtain⟨k,zQ⟩:∃x:Int,((k0:Nat):Int)=x:=⟨_,rfl⟩
     have Da:=sR T2 ⟨#[42,47]⟩ k zb aX
     have d2:E.lti k 0=false:=aX
     have ek:=eadd k 4 oM oM oM oM
     obtain⟨k4,D9⟩:∃x:Int,k+4=x:=⟨_,rfl⟩
     rw[D9]at ek;have ek2:=eadd i k4 oM oM oM oM
     have WN:r2.drop (k0+2)=bB s (i+k4):=by
      have h5:=A6 s i2 (k0+2) oM
      grind
     rw[oI,OE (c:=47) (r:=42::r2) aN rfl (r':=bB s (i+k4)) (by rw[<-WN];exact hd)]at lQ
     have lV:Sk s n (r,b) (E.wadd .i64 i k4):=by rw[ek2];exact⟨by omega,by omega,lQ⟩
     have gA:μ (E.wadd .i64 i k4)<μ i:=aX
     clear qT sS sR aT cZ elt eple eget eadd eext ck zE hn he dZ eP hz ei hw dN f1 f2 hk e1 e2 jZ hT hlen oI lQ hj gu nF XK a8 HX zb e3 lI hd zQ D9 ek2 WN hM;cbv;refine mW ?_;refine .mk (E.wadd .i64 i k4) r5 ?_ ?_
     ·exact lV
     ·exact gA
 ·have d1:E.lti i n=false:=aX
  obtain⟨rfl,rfl⟩:=cZ i hI (by rw[ja oM];rfl)
  clear qT sS sR aT cZ elt eple eget eadd eext hn he;exact rM
def KQ(n:Nat)(l:Bs):Nat:=l.foldl (fun n c=>10*n+(c.toNat-48)) n
theorem Qy:∀(l:Bs)(n:Nat),n<=KQ n l
 |[],n=>nR _
 |c::l,n=>by
  have:=Qy l (10*n+(c.toNat-48))
  show n<=KQ (10*n+(c.toNat-48)) l;omega
theorem Qt{c:UInt8}(h:eO c=true):48<=c.toNat/\c.toNat<=57:=by
 exact Wj
theorem Tx:∀(l:Bs)(n:Nat),(∀c∈l,eO c=true)->n<18446744073709551616->Lib.parseUint10 n l=if KQ n l<18446744073709551616 then .ok (KQ n l)else .range
 |[],n,_,h=>by
  show Lib.parseUint10 n []=if n<18446744073709551616 then .ok n else .range
  rw[aF h];rfl
 |c::l,n,hd,h=>by
  have hc:=Qt (hd c (cK ..));have qV:=Qy l (10*n+(c.toNat-48));show Lib.parseUint10 n (c::l)=if KQ (10*n+(c.toNat-48)) l<18446744073709551616 then .ok (KQ (10*n+(c.toNat-48)) l)else .range
  rw[Lib.parseUint10,aF hc]
  by_cases h1:1844674407370955162<=n
  ·grind
  ·rw[aD h1]
   by_cases h2:18446744073709551616<=n*10+(c.toNat-48)
   ·grind
   ·rw[aD h2,show n*10+(c.toNat-48)=10*n+(c.toNat-48) by omega]
    exact Tx l _ (fun x hx=>hd x (aV _ hx)) oM
theorem Th(l:Bs)(hd:∀c∈l,eO c=true)(hn:l≠[]):Lib.parseIntB 64 l=if lE l<9223372036854775808 then .ok ((lE l:Nat):Int)else .range:=by
 rw[Lib.parseIntB_64]
 cases l with
 |nil=>exact absurd rfl hn
 |cons c r=>
  have hc:=Qt (hd c (cK ..));have hp:Lib.parseMag (c::r)=if lE (c::r)<18446744073709551616 then .ok (lE (c::r))else .range:=by
   unfold Lib.parseMag;exact Tx (c::r) 0 hd oM
  unfold Lib.atoiAll
  grind
theorem Oj{w:World}{R:Nat->Prop}{p q:PV}{u v:Value}(h1:cI w R p u)(h2:cI w R q v):cI w R (.tup [p,q]) (.tuple #[u,v]):=by
 refine cI.tup [p,q] [u,v] rfl fun j x y hx hy=>?_
 grind
theorem Nd(s:ByteArray)(hs:s.size<=2000000)(hd:∀c∈s.data.toList,eO c=true)(hn:s.data.toList≠[])(h:lE s.data.toList<9223372036854775808):RL 131 [pS s,pI 10,pI 64] (.tup [pI (lE s.data.toList:Nat),.v .nilIface]):=by
 have hp:=Th s.data.toList hd hn;rw[aF h]at hp;exact CS Tryz.func131 kR kR [.string s,.int .i64 10,.int .i64 64] _ fun w hG=>(Tryz.strconv_ParseInt_10_at64_ok s oM _ hp w).mono fun e w' ⟨h1,h2⟩=>⟨_,h1,by
   rcases h2 with rfl|⟨t,rfl⟩
   ·exact Gr.refl _
   ·exact Lib.bytesWorld_below _ _ _,fun _=>Oj (.v _) (.v _)⟩
theorem z3i(s:ByteArray)(hs:s.size<=2000000)(hd:∀c∈s.data.toList,eO c=true)(hn:s.data.toList≠[])(h:¬lE s.data.toList<9223372036854775808):RL 131 [pS s,pI 10,pI 64] (.tup [pI (Lib.intSat 64 s.data.toList),.err]):=by
 have hp:=Th s.data.toList hd hn;rw[aD h]at hp;exact CS Tryz.func131 kR kR [.string s,.int .i64 10,.int .i64 64] _ fun w hG=>by
  obtain⟨tp,p,hv⟩:=hG.rng;exact(Tryz.strconv_ParseInt_10_at64_range_var s oM hp tp p w hv).mono fun e w' ⟨N,h1,_,_,h2⟩=>⟨_,h1,h2,fun _=>Oj (.v _) (.err _ _)⟩
theorem PH(c:UInt8)(z:Int)(b:Bool)(hz:((c.toNat:Nat):Int)=z)(hb:eO c=b):RL 117 [.v (.int .u8 z)] (pB b):=by
 subst hz hb;exact nK (Es c)
theorem IJ(c:UInt8)(z:Int)(b:Bool)(hz:((c.toNat:Nat):Int)=z)(hb:oA c=b):RL 116 [.v (.int .u8 z)] (pB b):=by
 subst hz hb;exact nK (zz5 c)
def QE(s:ByteArray)(a:Int):PV:=match qZ (bB s a)with
 | .bad e=>.tup [pI a,pI e]
 | .ok _ _ r=>.tup [pI ((s.size:Nat)-(r.length:Nat)),pI 0]
structure L3(s:ByteArray)(n a:Int)(j:Int):Prop where
 j0:a<=j
 j1:j<=n
 u:∃u:Bs,bB s a=u++bB s j/\(u.length:Int)=j-a/\∀c∈u,eO c=true
theorem Zw(s:ByteArray)(a:Int)(q:UInt8)(h0:0<=a)(hq:s.data.toList[a.toNat]?=some q)(pP:eO q=true)(hs:s.size<=1000000):RL 119 [pS s,pI a] (QE s a):=by
 obtain⟨n,hn⟩:∃n:Int,((s.size:Nat):Int)=n:=⟨_,rfl⟩
 have h1:a<n:=by
  exact VL
 have aT:∀i:Int,0<=i->i<n->∃c,s.data.toList[i.toNat]?=some c:=fun i iH iL=>⟨_,aB (by show i.toNat<s.size;omega)⟩
 obtain⟨a1,kU⟩:∃x:Int,a+1=x:=⟨_,rfl⟩
 obtain⟨RV,eI⟩:∃x,QE s a=x:=⟨_,rfl⟩
 rw[eI];have qW:∀e,qZ (bB s a)=.bad e->RV=.tup [pI a,pI e]:=fun e h=>by rw[<-eI];unfold QE;rw[h]
 have uR:∀k t r,qZ (bB s a)=.ok k t r->RV=.tup [pI (n-(r.length:Nat)),pI 0]:=fun k t r h=>by rw[<-eI];unfold QE;rw[h,<- hn]
 obtain⟨μ,hμ⟩:∃μ:Int->Nat,∀x,μ x=2000000000-x.toNat:=⟨_,fun _=>rfl⟩
 have jR:L3 s n a a:=⟨bT _,by omega,[],rfl,by show(0:Int)=a-a;omega,fun c hc=>(by cases hc)⟩
 obtain⟨zq,eJ⟩:∃z:Int,((q.toNat:Nat):Int)=z:=⟨_,rfl⟩
 have fQ:=fun(c:UInt8)(z:Int)(b:Bool)(hz:((c.toNat:Nat):Int)=z)(hb:eO c=b)=>PH c z b hz hb
 have iC:=fun(c:UInt8)(z:Int)(b:Bool)(hz:((c.toNat:Nat):Int)=z)(hb:oA c=b)=>IJ c z b hz hb
 have js:=fun(t:ByteArray)(v:Int)(ht:t.size<=2000000)(hd:∀c∈t.data.toList,eO c=true)(hn:t.data.toList≠[])(h:lE t.data.toList<9223372036854775808)(hv:((lE t.data.toList:Nat):Int)=v)=>show RL _ _ (.tup [pI v,.v .nilIface])from hv ▸ Nd t ht hd hn h
 have um:=fun(t:ByteArray)(v:Int)(ht:t.size<=2000000)(hd:∀c∈t.data.toList,eO c=true)(hn:t.data.toList≠[])(h:¬lE t.data.toList<9223372036854775808)(hv:Lib.intSat 64 t.data.toList=v)=>show RL _ _ (.tup [pI v,.err])from hv ▸ z3i t ht hd hn h
 refine vM Tryz.func119 fun P G E hc hE=>?_
 replace fQ:=fun(c:UInt8)(z:Int)(b:Bool)(hz:((c.toNat:Nat):Int)=z)(hb:eO c=b)=>hc _ _ _ (fQ c z b hz hb)
 replace iC:=fun(c:UInt8)(z:Int)(b:Bool)(hz:((c.toNat:Nat):Int)=z)(hb:oA c=b)=>hc _ _ _ (iC c z b hz hb)
 replace js:=fun(t:ByteArray)(v:Int)(ht:t.size<=2000000)(hd:∀c∈t.data.toList,eO c=true)(hn:t.data.toList≠[])(h:lE t.data.toList<9223372036854775808)(hv:((lE t.data.toList:Nat):Int)=v)=>hc _ _ _ (js t v ht hd hn h hv)
 replace um:=fun(t:ByteArray)(v:Int)(ht:t.size<=2000000)(hd:∀c∈t.data.toList,eO c=true)(hn:t.data.toList≠[])(h:¬lE t.data.toList<9223372036854775808)(hv:Lib.intSat 64 t.data.toList=v)=>hc _ _ _ (um t v ht hd hn h hv)
 have z1:E.size s=n:=iY
 have elt:=yF hE;have eple:=uL hE;have eget:∀(i:Int)(c:UInt8)(z:Int),s.data.toList[i.toNat]?=some c->((c.toNat:Nat):Int)=z->E.get s (E.nat i)=some z:=fun i c z h hz=>by
  exact MA
 have eadd:=ub hE;have eext:∀i j:Int,E.ext s (E.nat i) (E.nat j)=s.extract i.toNat j.toNat:=fun i j=>by rw[hE];rfl
 have ei:=eadd a 1 oM oM oM oM
 rw[kU]at ei;have g0:=eget a q zq hq eJ;have p0:=eple 0 a h0;clear hE hc;cbv;refine gV 57 [0,1,6] 0 (fun x:Int=>[.p (pS s),.p (pI a),.p (pI x)]) (fun _=>[]) (L3 s n a) μ a r5 jR ?_
 clear jR
 rintro j ⟨j0,j1,u,gG,gM,lB⟩
 replace hn:((s.size:Nat):Int)=n:=hn;replace gM:((u.length:Nat):Int)=j-a:=gM;replace eJ:((q.toNat:Nat):Int)=zq:=eJ;have nW:bB s a=q::bB s (a+1):=uW h0 hq;have lZ:(∀c,(bB s j).head?=some c->eO c=false)->(bB s a).takeWhile eO=u/\(bB s a).dropWhile eO=bB s j:=fun h=>by
  have:=ld (p:=eO) u (bB s j) lB h
  rw[gG];exact this
 rcases dV (j<n)with cQ|cQ
 ·have d1:E.lti j n=true:=C1
  obtain⟨c,eP⟩:=aT j oM cQ
  obtain⟨z,hz⟩:∃z:Int,((c.toNat:Nat):Int)=z:=⟨_,rfl⟩
  have g1:=eget j c z eP hz;have p1:=eple 0 j oM
  have dZ:=uW oM eP
  cases tK:eO c with
  |true=>
   have nL:=fQ c z true hz tK;obtain⟨j2,oL⟩:∃x:Int,j+1=x:=⟨_,rfl⟩
   have ej:=eadd j 1 oM oM oM oM
   rw[oL]at ej;have lV:L3 s n a j2:=by
    refine⟨by omega,by omega,u++[c],?_,?_,?_⟩
    ·rw[gG,dZ,<- oL];simp
    ·show(((u++[c]).length:Nat):Int)=j2-a;rw[sD,J6];omega
    ·intro x hx
     rcases kX.1 hx with hx|hx
     ·exact lB x hx
     ·rw[eV.1 hx];exact tK
   have gA:μ j2<μ j:=qg
   clear aT fQ iC elt eple eget eadd eext hn hq eJ eI qW uR gG gM lB js um hs nW pP lZ eP hz dZ tK oL;cbv
   repeat (first|(simp only[z1];try cbv)|(simp only[d1];try cbv)|(refine⟨p1,_,g1,?_⟩;cbv)|(refine⟨_,nL,?_⟩;cbv)|(simp only[ej];try cbv))
   exact Jz
  |false=>
   have nL:=fQ c z false hz tK;obtain⟨ht,ny⟩:=lZ (fun x hx=>by rw[dZ]at hx;cases hx;exact tK)
   have oG:u≠[]:=fun e=>by
    rw[e,tB]at gG;have h5:q=c:=by
     rw[nW,dZ]at gG;exact(tS gG).1
    rw[<-h5,pP]at tK
    cases tK
   have jQ:u.head?=some q:=by
    exact Wi
   have vD:1<=u.length:=aS.2 oG;have nU:n-((bB s j).length:Nat)=j:=by have:=rL s j;omega
   rcases dV (q=48/\a1<j)with qS|qS
   ·have hv:=qW 4 Uq
    subst hv;have f48:decide (zq=48)=true:=aA (by rw[<-eJ,qS.1];rfl)
    have d2:E.lti a1 j=true:=by rw[elt];exact aA qS.2
    clear aT fQ iC elt eple eget eadd eext hn hq eJ eI qW uR gG gM lB js um hs nW pP lZ kU ht ny oG jQ vD nU eP hz dZ tK qS;cbv
    repeat (first|(simp only[z1];try cbv)|(simp only[d1];try cbv)|(refine⟨p1,_,g1,?_⟩;cbv)|(refine⟨_,nL,?_⟩;cbv)|(refine⟨p0,_,g0,?_⟩;cbv)|(simp only[f48];try cbv)|(simp only[ei];try cbv)|(simp only[d2];try cbv))
   have vA:¬(u.head?=some 48/\1<u.length):=fun h=>qS ⟨by have:=h.1;rw[jQ]at this;exact bA this,by omega⟩
   have f48:(decide (zq=48)=false)\/(decide (zq=48)=true/\E.lti a1 j=false):=by
    exact W7
   cases bh:oA c with
   |true=>
    have kH:=iC c z true hz bh;have hv:=qW 4 (by unfold qZ;rw[ht,ny,aD vA,aF (by rw[dZ];exact bh)])
    subst hv
    rcases f48 with f48|⟨f48,d2⟩
    all_goals
     clear aT fQ iC elt eple eget eadd eext hn hq eJ eI qW uR gG gM lB js um hs nW pP lZ kU ht ny oG jQ vD nU eP hz dZ tK qS vA bh;cbv
     repeat (first|(simp only[z1];try cbv)|(simp only[d1];try cbv)|(refine⟨p1,_,g1,?_⟩;cbv)|(refine⟨_,nL,?_⟩;cbv)|(refine⟨p0,_,g0,?_⟩;cbv)|(simp only[f48];try cbv)|(simp only[ei];try cbv)|(simp only[d2];try cbv)|(refine⟨p1,_,g1,?_⟩;cbv)|(refine⟨_,kH,?_⟩;cbv))
   |false=>
    have kH:=iC c z false hz bh;obtain⟨T,hT⟩:∃x,s.extract a.toNat j.toNat=x:=⟨_,rfl⟩
    have jZ:T.data.toList=u:=by
     exact Ux
    have bo:T.size<=2000000:=by
     have e5:T.data.toList.length=T.size:=rfl;rw[jZ]at e5;omega
    have x1:=eext a j;rw[hT]at x1;have p3:=eple a j j0;have p4:=eple j n j1
    rcases dV (lE u<9223372036854775808)with dg|dg
    ·obtain⟨v,bc⟩:∃x:Int,((lE T.data.toList:Nat):Int)=x:=⟨_,rfl⟩
     have hp:=js T v bo Bt Bu Br bc
     have hv:=uR 3 u (bB s j) (by unfold qZ;rw[ht,ny,aD vA,aD (by rw[dZ];show ¬oA c=true;rw[bh];decide),aD oM])
     rw[nU]at hv;exact Xk
    ·obtain⟨v,bc⟩:∃x:Int,Lib.intSat 64 T.data.toList=x:=⟨_,rfl⟩
     have hp:=um T v bo Bt Bu Br bc
     have hv:=qW 5 (by unfold qZ;rw[ht,ny,aD vA,aD (by rw[dZ];show ¬oA c=true;rw[bh];decide),aF oM])
     exact Xk
 ·have d1:E.lti j n=false:=by rw[elt];exact dF cQ
  have mT:bB s j=[]:=ja oM
  obtain⟨ht,ny⟩:=lZ (fun x hx=>by rw[mT]at hx;cases hx)
  have oG:u≠[]:=fun e=>by
   rw[e,tB,mT,nW]at gG
   cases gG
  have jQ:u.head?=some q:=by
   exact Wi
  have vD:1<=u.length:=aS.2 oG;have nU:n-((bB s j).length:Nat)=j:=by have:=rL s j;omega
  rcases dV (q=48/\a1<j)with qS|qS
  ·have hv:=qW 4 Uq
   subst hv;have f48:decide (zq=48)=true:=aA (by rw[<-eJ,qS.1];rfl)
   have d2:E.lti a1 j=true:=by rw[elt];exact aA qS.2
   clear aT fQ iC elt eple eget eadd eext hn hq eJ eI qW uR gG gM lB js um hs nW pP lZ kU ht ny oG jQ vD nU mT qS;cbv
   repeat (first|(simp only[z1];try cbv)|(simp only[d1];try cbv)|(refine⟨p0,_,g0,?_⟩;cbv)|(simp only[f48];try cbv)|(simp only[ei];try cbv)|(simp only[d2];try cbv))
  have vA:¬(u.head?=some 48/\1<u.length):=fun h=>qS ⟨by have:=h.1;rw[jQ]at this;exact bA this,by omega⟩
  have f48:(decide (zq=48)=false)\/(decide (zq=48)=true/\E.lti a1 j=false):=by
   exact W7
  obtain⟨T,hT⟩:∃x,s.extract a.toNat j.toNat=x:=⟨_,rfl⟩
  have jZ:T.data.toList=u:=by
   exact Ux
  have bo:T.size<=2000000:=by
   have e5:T.data.toList.length=T.size:=rfl;rw[jZ]at e5;omega
  have x1:=eext a j;rw[hT]at x1;have p3:=eple a j j0;have p4:=eple j n j1
  rcases dV (lE u<9223372036854775808)with dg|dg
  ·obtain⟨v,bc⟩:∃x:Int,((lE T.data.toList:Nat):Int)=x:=⟨_,rfl⟩
   have hp:=js T v bo Bt Bu Br bc
   have hv:=uR 3 u (bB s j) (by unfold qZ;rw[ht,ny,aD vA,aD (by rw[mT];simp),aD oM])
   rw[nU]at hv;exact Xh
  ·obtain⟨v,bc⟩:∃x:Int,Lib.intSat 64 T.data.toList=x:=⟨_,rfl⟩
   have hp:=um T v bo Bt Bu Br bc
   have hv:=qW 5 (by unfold qZ;rw[ht,ny,aD vA,aD (by rw[mT];simp),aF oM])
   exact Xh
theorem Ik(a b d:UInt8)(l:Bs):Lib.hasPrefix l [a,b,d]=decide (l.take 3=[a,b,d]):=by
 unfold Lib.hasPrefix
 match l with
 |[]=>rfl
 |[x]=>
  grind
 |[x,y]=>
  grind
 |x::y::v::l=>
  grind
theorem xdz(c:UInt8):(0<=Lib.indexByte [123,125,40,41,91,93,59,44,46,63,58,61,43,45,42,47,37,33,60,62] c/\pw.any (· == [c])=true)\/(¬0<=Lib.indexByte [123,125,40,41,91,93,59,44,46,63,58,61,43,45,42,47,37,33,60,62] c/\pw.any (· == [c])=false):=by
 have key:=aO.1 (show((List.range 256).all fun n=>decide (0<=Lib.indexByte [123,125,40,41,91,93,59,44,46,63,58,61,43,45,42,47,37,33,60,62] (UInt8.ofNat n))==pw.any (· == [UInt8.ofNat n]))=true by decide +kernel) c.toNat (bV.2 c.toNat_lt)
 rw[mF]at key
 grind
theorem z8i{E:SO}(hE:E=bG){s X1 X2 X3:ByteArray}{n z:Int}{c:UInt8}(hn:((s.size:Nat):Int)=n)(qI:1<=n)(yE:s.extract 0 1=X1)(sq:s.extract 0 2=X2)(yD:s.extract 0 3=X3)(lK:X2.data.toList=s.data.toList.take 2)(hc:s.data.toList[0]?=some c)(hz:((c.toNat:Nat):Int)=z):
  E.size s=n/\(∀a b,a<=b->E.ple a b)/\(E.ple 0 0/\E.ple 0 1/\E.ple 0 2/\E.ple 0 3/\E.ple 1 n)/\E.ext s (E.nat 0) (E.nat 1)=X1/\E.ext s (E.nat 0) (E.nat 2)=X2/\E.ext s (E.nat 0) (E.nat 3)=X3/\E.get s (E.nat 0)=some z/\(∀t:ByteArray,s.data.toList.take 2=t.data.toList->E.eq X2 t=true)/\(∀t:ByteArray,¬s.data.toList.take 2=t.data.toList->E.eq X2 t=false):=by
 subst hE;have hp:∀a b,a<=b->bG.ple a b:=fun a b h=>h
 refine⟨hn,hp,⟨hp _ _ oM,hp _ _ oM,hp _ _ oM,hp _ _ oM,hp _ _ qI⟩,yE,sq,yD,?_,fun t h=>aA (yZ (by rw[lK,h])),fun t h=>dF fun e=>h (by rw[<-e,lK])⟩
 show(s.data.toList[0]?).map _=some z;rw[hc,<- hz];rfl
def qd(l:Bs):ByteArray:=bL ((qC l).getD [])
theorem ztm(s:ByteArray)(c:UInt8)(r:Bs)(dC:s.data.toList=c::r)(hs:s.size<=1000000):RL 121 [pS s] (pS (qd s.data.toList)):=by
 obtain⟨n,hn⟩:∃n:Int,((s.size:Nat):Int)=n:=⟨_,rfl⟩
 have dR:s.size=r.length+1:=by
  have e:s.data.toList.length=s.size:=rfl
  grind
 obtain⟨z,hz⟩:∃z:Int,((c.toNat:Nat):Int)=z:=⟨_,rfl⟩
 have dI:=nK (F7 s ⟨#[61,61,61]⟩);have gE:=nK (F7 s ⟨#[33,61,61]⟩);change RL _ _ (pB (Lib.hasPrefix s.data.toList [61,61,61]))at dI;change RL _ _ (pB (Lib.hasPrefix s.data.toList [33,61,61]))at gE;rw[Ik]at dI gE;have hi:=nK (KF ⟨#[123,125,40,41,91,93,59,44,46,63,58,61,43,45,42,47,37,33,60,62]⟩ c z hz);change RL _ _ (pI (Lib.indexByte [123,125,40,41,91,93,59,44,46,63,58,61,43,45,42,47,37,33,60,62] c))at hi;have kL:=xdz c;obtain⟨i1,iL⟩:∃i:Int,Lib.indexByte [123,125,40,41,91,93,59,44,46,63,58,61,43,45,42,47,37,33,60,62] c=i:=⟨_,rfl⟩
 rw[iL]at hi kL;have lJ:∀k:Nat,(s.extract 0 k).data.toList=s.data.toList.take k:=fun k=>by rw[my];rfl
 have qX:yV.any (· == s.data.toList.take 3)=true->qd s.data.toList=s.extract 0 3:=fun h=>by
  refine yZ ?_;unfold qd qC;rw[aF h,lJ];unfold bL;simp
 have cW:yV.any (· == s.data.toList.take 3)=false->dm.any (· == s.data.toList.take 2)=true->qd s.data.toList=s.extract 0 2:=fun h3 h=>by
  refine yZ ?_;unfold qd qC;rw[aD (by rw[h3];decide),aF h,lJ]
  unfold bL;simp
 have pA:yV.any (· == s.data.toList.take 3)=false->dm.any (· == s.data.toList.take 2)=false->pw.any (· == s.data.toList.take 1)=true->qd s.data.toList=s.extract 0 1:=fun h3 h2 h=>by
  refine yZ ?_;unfold qd qC;rw[aD (by rw[h3];decide),aD (by rw[h2];decide),aF h,lJ]
  unfold bL;simp
 have gU:yV.any (· == s.data.toList.take 3)=false->dm.any (· == s.data.toList.take 2)=false->pw.any (· == s.data.toList.take 1)=false->qd s.data.toList=⟨#[]⟩:=fun h3 h2 h=>by
  unfold qd qC;rw[aD (by rw[h3];decide),aD (by rw[h2];decide),aD LQ]
  rfl
 have yS:s.data.toList.take 1=[c]:=by rw[dC];rfl
 obtain⟨RV,eI⟩:∃x,qd s.data.toList=x:=⟨_,rfl⟩
 rw[eI]at gU pA cW qX ⊢;rw[yS]at gU pA;obtain⟨X1,yE⟩:∃x,s.extract 0 1=x:=⟨_,rfl⟩
 obtain⟨X2,sq⟩:∃x,s.extract 0 2=x:=⟨_,rfl⟩
 obtain⟨X3,yD⟩:∃x,s.extract 0 3=x:=⟨_,rfl⟩
 rw[yE]at pA;rw[sq]at cW;rw[yD]at qX;have lK:X2.data.toList=s.data.toList.take 2:=by rw[<-sq,lJ]
 have qI:1<=n:=eC
 have opf:=fun{E:SO}(hE:E=bG)=>z8i hE hn qI yE sq yD lK (show s.data.toList[0]?=some c by rw[dC];rfl) hz
 have hlen:∀(k:Nat)(l:Bs),s.data.toList.take k=l->l.length<=s.size:=fun k l h=>by
  grind
 rcases dV (s.data.toList.take 3=[61,61,61])with ha|ha
 ·have hv:=qX (by rw[ha];decide)
  rw[aA ha]at dI;have sQ:3<=s.size:=hlen 3 _ ha;refine vM Tryz.func121 fun P G E hc hE=>?_
  replace dI:=hc _ _ _ dI;obtain⟨z1,eple,⟨p00,p01,p02,p03,p1n⟩,x1,x2,x3,g0,eT,eF⟩:=opf hE;have p3n:E.ple 3 n:=eple _ _ oM
  subst hv;clear hE hc gE hi kL iL lJ gU pA cW qX yS eI yE sq lK eple eT eF qI opf hlen dC hz hn dR hs ha sQ;exact rM
 rw[dF ha]at dI
 rcases dV (s.data.toList.take 3=[33,61,61])with hb|hb
 ·have hv:=qX (by rw[hb];decide)
  rw[aA hb]at gE;have sQ:3<=s.size:=hlen 3 _ hb;refine vM Tryz.func121 fun P G E hc hE=>?_
  replace dI:=hc _ _ _ dI;replace gE:=hc _ _ _ gE;obtain⟨z1,eple,⟨p00,p01,p02,p03,p1n⟩,x1,x2,x3,g0,eT,eF⟩:=opf hE;have p3n:E.ple 3 n:=eple _ _ oM
  subst hv;clear hE hc hi kL iL lJ gU pA cW qX yS eI yE sq lK eple eT eF qI opf hlen dC hz hn dR hs ha hb sQ;exact rM
 rw[dF hb]at gE;have Dk:yV.any (· == s.data.toList.take 3)=false:=by
  unfold yV
  grind
 replace gU:=gU Dk;replace pA:=pA Dk;replace cW:=cW Dk;clear qX Dk
 rcases dV (s.data.toList.take 2=[43,61])with e0|e0
 ·have hv:=cW (by rw[e0];decide)
  have sQ:2<=s.size:=hlen 2 _ e0;refine vM Tryz.func121 fun P G E hc hE=>?_
  replace dI:=hc _ _ _ dI;replace gE:=hc _ _ _ gE;obtain⟨z1,eple,⟨p00,p01,p02,p03,p1n⟩,x1,x2,x3,g0,eT,eF⟩:=opf hE;have d3:E.lti 1 n=true:=sN
  have p2n:E.ple 2 n:=eple _ _ oM
  have q:=eT ⟨#[43,61]⟩ e0;subst hv;clear hE hc hi kL iL lJ gU pA cW yS eI yE yD lK eple eT eF qI opf hlen dC hz hn dR hs ha hb sQ e0;exact rM
 rcases dV (s.data.toList.take 2=[45,61])with e1|e1
 ·have hv:=cW (by rw[e1];decide)
  have sQ:2<=s.size:=hlen 2 _ e1;refine vM Tryz.func121 fun P G E hc hE=>?_
  replace dI:=hc _ _ _ dI;replace gE:=hc _ _ _ gE;obtain⟨z1,eple,⟨p00,p01,p02,p03,p1n⟩,x1,x2,x3,g0,eT,eF⟩:=opf hE;have d3:E.lti 1 n=true:=sN
  have p2n:E.ple 2 n:=eple _ _ oM
  have q:=eT ⟨#[45,61]⟩ e1;replace e0:=eF ⟨#[43,61]⟩ e0;subst hv;clear hE hc hi kL iL lJ gU pA cW yS eI yE yD lK eple eT eF qI opf hlen dC hz hn dR hs ha hb sQ e1;exact rM
 rcases dV (s.data.toList.take 2=[42,61])with e2|e2
 ·have hv:=cW (by rw[e2];decide)
  have sQ:2<=s.size:=hlen 2 _ e2;refine vM Tryz.func121 fun P G E hc hE=>?_
  replace dI:=hc _ _ _ dI;replace gE:=hc _ _ _ gE;obtain⟨z1,eple,⟨p00,p01,p02,p03,p1n⟩,x1,x2,x3,g0,eT,eF⟩:=opf hE;have d3:E.lti 1 n=true:=sN
  have p2n:E.ple 2 n:=eple _ _ oM
  have q:=eT ⟨#[42,61]⟩ e2;replace e0:=eF ⟨#[43,61]⟩ e0;replace e1:=eF ⟨#[45,61]⟩ e1;subst hv;clear hE hc hi kL iL lJ gU pA cW yS eI yE yD lK eple eT eF qI opf hlen dC hz hn dR hs ha hb sQ e2;exact rM
 rcases dV (s.data.toList.take 2=[61,61])with e3|e3
 ·have hv:=cW (by rw[e3];decide)
  have sQ:2<=s.size:=hlen 2 _ e3;refine vM Tryz.func121 fun P G E hc hE=>?_
  replace dI:=hc _ _ _ dI;replace gE:=hc _ _ _ gE;obtain⟨z1,eple,⟨p00,p01,p02,p03,p1n⟩,x1,x2,x3,g0,eT,eF⟩:=opf hE;have d3:E.lti 1 n=true:=sN
  have p2n:E.ple 2 n:=eple _ _ oM
  have q:=eT ⟨#[61,61]⟩ e3;replace e0:=eF ⟨#[43,61]⟩ e0;replace e1:=eF ⟨#[45,61]⟩ e1;replace e2:=eF ⟨#[42,61]⟩ e2;subst hv;clear hE hc hi kL iL lJ gU pA cW yS eI yE yD lK eple eT eF qI opf hlen dC hz hn dR hs ha hb sQ e3;exact rM
 rcases dV (s.data.toList.take 2=[33,61])with e4|e4
 ·have hv:=cW (by rw[e4];decide)
  have sQ:2<=s.size:=hlen 2 _ e4;refine vM Tryz.func121 fun P G E hc hE=>?_
  replace dI:=hc _ _ _ dI;replace gE:=hc _ _ _ gE;obtain⟨z1,eple,⟨p00,p01,p02,p03,p1n⟩,x1,x2,x3,g0,eT,eF⟩:=opf hE;have d3:E.lti 1 n=true:=sN
  have p2n:E.ple 2 n:=eple _ _ oM
  have q:=eT ⟨#[33,61]⟩ e4;replace e0:=eF ⟨#[43,61]⟩ e0;replace e1:=eF ⟨#[45,61]⟩ e1;replace e2:=eF ⟨#[42,61]⟩ e2;replace e3:=eF ⟨#[61,61]⟩ e3;subst hv;clear hE hc hi kL iL lJ gU pA cW yS eI yE yD lK eple eT eF qI opf hlen dC hz hn dR hs ha hb sQ e4;exact rM
 rcases dV (s.data.toList.take 2=[60,61])with e5|e5
 ·have hv:=cW (by rw[e5];decide)
  have sQ:2<=s.size:=hlen 2 _ e5;refine vM Tryz.func121 fun P G E hc hE=>?_
  replace dI:=hc _ _ _ dI;replace gE:=hc _ _ _ gE;obtain⟨z1,eple,⟨p00,p01,p02,p03,p1n⟩,x1,x2,x3,g0,eT,eF⟩:=opf hE;have d3:E.lti 1 n=true:=sN
  have p2n:E.ple 2 n:=eple _ _ oM
  have q:=eT ⟨#[60,61]⟩ e5;replace e0:=eF ⟨#[43,61]⟩ e0;replace e1:=eF ⟨#[45,61]⟩ e1;replace e2:=eF ⟨#[42,61]⟩ e2;replace e3:=eF ⟨#[61,61]⟩ e3;replace e4:=eF ⟨#[33,61]⟩ e4;subst hv;clear hE hc hi kL iL lJ gU pA cW yS eI yE yD lK eple eT eF qI opf hlen dC hz hn dR hs ha hb sQ e5;exact rM
 rcases dV (s.data.toList.take 2=[62,61])with e6|e6
 ·have hv:=cW (by rw[e6];decide)
  have sQ:2<=s.size:=hlen 2 _ e6;refine vM Tryz.func121 fun P G E hc hE=>?_
  replace dI:=hc _ _ _ dI;replace gE:=hc _ _ _ gE;obtain⟨z1,eple,⟨p00,p01,p02,p03,p1n⟩,x1,x2,x3,g0,eT,eF⟩:=opf hE;have d3:E.lti 1 n=true:=sN
  have p2n:E.ple 2 n:=eple _ _ oM
  have q:=eT ⟨#[62,61]⟩ e6;replace e0:=eF ⟨#[43,61]⟩ e0;replace e1:=eF ⟨#[45,61]⟩ e1;replace e2:=eF ⟨#[42,61]⟩ e2;replace e3:=eF ⟨#[61,61]⟩ e3;replace e4:=eF ⟨#[33,61]⟩ e4;replace e5:=eF ⟨#[60,61]⟩ e5;subst hv;clear hE hc hi kL iL lJ gU pA cW yS eI yE yD lK eple eT eF qI opf hlen dC hz hn dR hs ha hb sQ e6;exact rM
 rcases dV (s.data.toList.take 2=[38,38])with e7|e7
 ·have hv:=cW (by rw[e7];decide)
  have sQ:2<=s.size:=hlen 2 _ e7;refine vM Tryz.func121 fun P G E hc hE=>?_
  replace dI:=hc _ _ _ dI;replace gE:=hc _ _ _ gE;obtain⟨z1,eple,⟨p00,p01,p02,p03,p1n⟩,x1,x2,x3,g0,eT,eF⟩:=opf hE;have d3:E.lti 1 n=true:=sN
  have p2n:E.ple 2 n:=eple _ _ oM
  have q:=eT ⟨#[38,38]⟩ e7;replace e0:=eF ⟨#[43,61]⟩ e0;replace e1:=eF ⟨#[45,61]⟩ e1;replace e2:=eF ⟨#[42,61]⟩ e2;replace e3:=eF ⟨#[61,61]⟩ e3;replace e4:=eF ⟨#[33,61]⟩ e4;replace e5:=eF ⟨#[60,61]⟩ e5;replace e6:=eF ⟨#[62,61]⟩ e6;subst hv;clear hE hc hi kL iL lJ gU pA cW yS eI yE yD lK eple eT eF qI opf hlen dC hz hn dR hs ha hb sQ e7;exact rM
 rcases dV (s.data.toList.take 2=[124,124])with e8|e8
 ·have hv:=cW (by rw[e8];decide)
  have sQ:2<=s.size:=hlen 2 _ e8;refine vM Tryz.func121 fun P G E hc hE=>?_
  replace dI:=hc _ _ _ dI;replace gE:=hc _ _ _ gE;obtain⟨z1,eple,⟨p00,p01,p02,p03,p1n⟩,x1,x2,x3,g0,eT,eF⟩:=opf hE;have d3:E.lti 1 n=true:=sN
  have p2n:E.ple 2 n:=eple _ _ oM
  have q:=eT ⟨#[124,124]⟩ e8;replace e0:=eF ⟨#[43,61]⟩ e0;replace e1:=eF ⟨#[45,61]⟩ e1;replace e2:=eF ⟨#[42,61]⟩ e2;replace e3:=eF ⟨#[61,61]⟩ e3;replace e4:=eF ⟨#[33,61]⟩ e4;replace e5:=eF ⟨#[60,61]⟩ e5;replace e6:=eF ⟨#[62,61]⟩ e6;replace e7:=eF ⟨#[38,38]⟩ e7;subst hv;clear hE hc hi kL iL lJ gU pA cW yS eI yE yD lK eple eT eF qI opf hlen dC hz hn dR hs ha hb sQ e8;exact rM
 rcases dV (s.data.toList.take 2=[63,63])with e9|e9
 ·have hv:=cW (by rw[e9];decide)
  have sQ:2<=s.size:=hlen 2 _ e9;refine vM Tryz.func121 fun P G E hc hE=>?_
  replace dI:=hc _ _ _ dI;replace gE:=hc _ _ _ gE;obtain⟨z1,eple,⟨p00,p01,p02,p03,p1n⟩,x1,x2,x3,g0,eT,eF⟩:=opf hE;have d3:E.lti 1 n=true:=sN
  have p2n:E.ple 2 n:=eple _ _ oM
  have q:=eT ⟨#[63,63]⟩ e9;replace e0:=eF ⟨#[43,61]⟩ e0;replace e1:=eF ⟨#[45,61]⟩ e1;replace e2:=eF ⟨#[42,61]⟩ e2;replace e3:=eF ⟨#[61,61]⟩ e3;replace e4:=eF ⟨#[33,61]⟩ e4;replace e5:=eF ⟨#[60,61]⟩ e5;replace e6:=eF ⟨#[62,61]⟩ e6;replace e7:=eF ⟨#[38,38]⟩ e7;replace e8:=eF ⟨#[124,124]⟩ e8;subst hv;clear hE hc hi kL iL lJ gU pA cW yS eI yE yD lK eple eT eF qI opf hlen dC hz hn dR hs ha hb sQ e9;exact rM
 rcases dV (s.data.toList.take 2=[61,62])with e10|e10
 ·have hv:=cW (by rw[e10];decide)
  have sQ:2<=s.size:=hlen 2 _ e10;refine vM Tryz.func121 fun P G E hc hE=>?_
  replace dI:=hc _ _ _ dI;replace gE:=hc _ _ _ gE;obtain⟨z1,eple,⟨p00,p01,p02,p03,p1n⟩,x1,x2,x3,g0,eT,eF⟩:=opf hE;have d3:E.lti 1 n=true:=sN
  have p2n:E.ple 2 n:=eple _ _ oM
  have q:=eT ⟨#[61,62]⟩ e10;replace e0:=eF ⟨#[43,61]⟩ e0;replace e1:=eF ⟨#[45,61]⟩ e1;replace e2:=eF ⟨#[42,61]⟩ e2;replace e3:=eF ⟨#[61,61]⟩ e3;replace e4:=eF ⟨#[33,61]⟩ e4;replace e5:=eF ⟨#[60,61]⟩ e5;replace e6:=eF ⟨#[62,61]⟩ e6;replace e7:=eF ⟨#[38,38]⟩ e7;replace e8:=eF ⟨#[124,124]⟩ e8;replace e9:=eF ⟨#[63,63]⟩ e9;subst hv;clear hE hc hi kL iL lJ gU pA cW yS eI yE yD lK eple eT eF qI opf hlen dC hz hn dR hs ha hb sQ e10;exact rM
 rcases dV (s.data.toList.take 2=[43,43])with e11|e11
 ·have hv:=cW (by rw[e11];decide)
  have sQ:2<=s.size:=hlen 2 _ e11;refine vM Tryz.func121 fun P G E hc hE=>?_
  replace dI:=hc _ _ _ dI;replace gE:=hc _ _ _ gE;obtain⟨z1,eple,⟨p00,p01,p02,p03,p1n⟩,x1,x2,x3,g0,eT,eF⟩:=opf hE;have d3:E.lti 1 n=true:=sN
  have p2n:E.ple 2 n:=eple _ _ oM
  have q:=eT ⟨#[43,43]⟩ e11;replace e0:=eF ⟨#[43,61]⟩ e0;replace e1:=eF ⟨#[45,61]⟩ e1;replace e2:=eF ⟨#[42,61]⟩ e2;replace e3:=eF ⟨#[61,61]⟩ e3;replace e4:=eF ⟨#[33,61]⟩ e4;replace e5:=eF ⟨#[60,61]⟩ e5;replace e6:=eF ⟨#[62,61]⟩ e6;replace e7:=eF ⟨#[38,38]⟩ e7;replace e8:=eF ⟨#[124,124]⟩ e8;replace e9:=eF ⟨#[63,63]⟩ e9;replace e10:=eF ⟨#[61,62]⟩ e10;subst hv;clear hE hc hi kL iL lJ gU pA cW yS eI yE yD lK eple eT eF qI opf hlen dC hz hn dR hs ha hb sQ e11;cbv
  repeat (first|(simp only[z1];try cbv)|(refine⟨_,dI,?_⟩;cbv)|(refine⟨_,gE,?_⟩;cbv)|(simp only[d3];try cbv)|(refine⟨p00,p02,p2n,?_⟩;cbv)|(refine⟨p02,p2n,?_⟩;cbv)|(simp only[x2];try cbv)|(simp only[e0,e1,e2,e3,e4,e5,e6,e7,e8,e9,e10,q];try cbv))
 rcases dV (s.data.toList.take 2=[45,45])with e12|e12
 ·have hv:=cW (by rw[e12];decide)
  have sQ:2<=s.size:=hlen 2 _ e12;refine vM Tryz.func121 fun P G E hc hE=>?_
  replace dI:=hc _ _ _ dI;replace gE:=hc _ _ _ gE;obtain⟨z1,eple,⟨p00,p01,p02,p03,p1n⟩,x1,x2,x3,g0,eT,eF⟩:=opf hE;have d3:E.lti 1 n=true:=sN
  have p2n:E.ple 2 n:=eple _ _ oM
  have q:=eT ⟨#[45,45]⟩ e12;replace e0:=eF ⟨#[43,61]⟩ e0;replace e1:=eF ⟨#[45,61]⟩ e1;replace e2:=eF ⟨#[42,61]⟩ e2;replace e3:=eF ⟨#[61,61]⟩ e3;replace e4:=eF ⟨#[33,61]⟩ e4;replace e5:=eF ⟨#[60,61]⟩ e5;replace e6:=eF ⟨#[62,61]⟩ e6;replace e7:=eF ⟨#[38,38]⟩ e7;replace e8:=eF ⟨#[124,124]⟩ e8;replace e9:=eF ⟨#[63,63]⟩ e9;replace e10:=eF ⟨#[61,62]⟩ e10;replace e11:=eF ⟨#[43,43]⟩ e11;subst hv;clear hE hc hi kL iL lJ gU pA cW yS eI yE yD lK eple eT eF qI opf hlen dC hz hn dR hs ha hb sQ e12;cbv
  repeat (first|(simp only[z1];try cbv)|(refine⟨_,dI,?_⟩;cbv)|(refine⟨_,gE,?_⟩;cbv)|(simp only[d3];try cbv)|(refine⟨p00,p02,p2n,?_⟩;cbv)|(refine⟨p02,p2n,?_⟩;cbv)|(simp only[x2];try cbv)|(simp only[e0,e1,e2,e3,e4,e5,e6,e7,e8,e9,e10,e11,q];try cbv))
 have Mz:dm.any (· == s.data.toList.take 2)=false:=by
  unfold dm;simp only[NC,List.any_nil,kK,cG,pT]
  grind
 replace gU:=gU Mz;replace pA:=pA Mz;clear cW Mz
 rcases dV (1<n)with ze|ze
 ·skip
  rcases kL with⟨ma,f7⟩|⟨ma,f7⟩
  ·have hv:=pA f7;refine vM Tryz.func121 fun P G E hc hE=>?_
   replace dI:=hc _ _ _ dI;replace gE:=hc _ _ _ gE;replace hi:=hc _ _ _ hi;obtain⟨z1,eple,⟨p00,p01,p02,p03,p1n⟩,x1,x2,x3,g0,eT,eF⟩:=opf hE;have d4:E.lei 0 i1=decide (0<=i1):=fH
   rw[aA ma]at d4;have d3:E.lti 1 n=true:=by rw[hE];exact aA ze
   have p2n:E.ple 2 n:=eple _ _ oM
   replace e0:=eF ⟨#[43,61]⟩ e0;replace e1:=eF ⟨#[45,61]⟩ e1;replace e2:=eF ⟨#[42,61]⟩ e2;replace e3:=eF ⟨#[61,61]⟩ e3;replace e4:=eF ⟨#[33,61]⟩ e4;replace e5:=eF ⟨#[60,61]⟩ e5;replace e6:=eF ⟨#[62,61]⟩ e6;replace e7:=eF ⟨#[38,38]⟩ e7;replace e8:=eF ⟨#[124,124]⟩ e8;replace e9:=eF ⟨#[63,63]⟩ e9;replace e10:=eF ⟨#[61,62]⟩ e10;replace e11:=eF ⟨#[43,43]⟩ e11;replace e12:=eF ⟨#[45,45]⟩ e12;subst hv;clear hE hc iL lJ gU pA yS eI sq yD lK eple eT eF qI opf hlen dC hz hn dR hs ha hb ze ma f7;cbv
   repeat (first|(simp only[z1];try cbv)|(refine⟨_,dI,?_⟩;cbv)|(refine⟨_,gE,?_⟩;cbv)|(simp only[d3];try cbv)|(refine⟨p00,p02,p2n,?_⟩;cbv)|(refine⟨p02,p2n,?_⟩;cbv)|(simp only[x2];try cbv)|(simp only[e0,e1,e2,e3,e4,e5,e6,e7,e8,e9,e10,e11,e12];try cbv)|(refine⟨p00,_,g0,?_⟩;cbv)|(refine⟨_,hi,?_⟩;cbv)|(simp only[d4];try cbv)|grind|grind|(simp only[x1];try cbv))
  ·have hv:=gU f7;refine vM Tryz.func121 fun P G E hc hE=>?_
   replace dI:=hc _ _ _ dI;replace gE:=hc _ _ _ gE;replace hi:=hc _ _ _ hi;obtain⟨z1,eple,⟨p00,p01,p02,p03,p1n⟩,x1,x2,x3,g0,eT,eF⟩:=opf hE;have d4:E.lei 0 i1=decide (0<=i1):=fH
   rw[dF ma]at d4;have d3:E.lti 1 n=true:=by rw[hE];exact aA ze
   have p2n:E.ple 2 n:=eple _ _ oM
   replace e0:=eF ⟨#[43,61]⟩ e0;replace e1:=eF ⟨#[45,61]⟩ e1;replace e2:=eF ⟨#[42,61]⟩ e2;replace e3:=eF ⟨#[61,61]⟩ e3;replace e4:=eF ⟨#[33,61]⟩ e4;replace e5:=eF ⟨#[60,61]⟩ e5;replace e6:=eF ⟨#[62,61]⟩ e6;replace e7:=eF ⟨#[38,38]⟩ e7;replace e8:=eF ⟨#[124,124]⟩ e8;replace e9:=eF ⟨#[63,63]⟩ e9;replace e10:=eF ⟨#[61,62]⟩ e10;replace e11:=eF ⟨#[43,43]⟩ e11;replace e12:=eF ⟨#[45,45]⟩ e12;subst hv;clear hE hc iL lJ gU pA yS eI yE sq yD lK eple eT eF qI opf hlen dC hz hn dR hs ha hb ze ma f7;cbv
   repeat (first|(simp only[z1];try cbv)|(refine⟨_,dI,?_⟩;cbv)|(refine⟨_,gE,?_⟩;cbv)|(simp only[d3];try cbv)|(refine⟨p00,p02,p2n,?_⟩;cbv)|(refine⟨p02,p2n,?_⟩;cbv)|(simp only[x2];try cbv)|(simp only[e0,e1,e2,e3,e4,e5,e6,e7,e8,e9,e10,e11,e12];try cbv)|(refine⟨p00,_,g0,?_⟩;cbv)|(refine⟨_,hi,?_⟩;cbv)|(simp only[d4];try cbv))
 ·skip
  rcases kL with⟨ma,f7⟩|⟨ma,f7⟩
  ·have hv:=pA f7;refine vM Tryz.func121 fun P G E hc hE=>?_
   replace dI:=hc _ _ _ dI;replace gE:=hc _ _ _ gE;replace hi:=hc _ _ _ hi;obtain⟨z1,eple,⟨p00,p01,p02,p03,p1n⟩,x1,x2,x3,g0,eT,eF⟩:=opf hE;have d4:E.lei 0 i1=decide (0<=i1):=fH
   rw[aA ma]at d4;have d3:E.lti 1 n=false:=by rw[hE];exact dF ze
   subst hv;clear hE hc iL lJ gU pA yS eI sq yD lK eple eT eF qI opf hlen dC hz hn dR hs ha hb ze ma f7 e0 e1 e2 e3 e4 e5 e6 e7 e8 e9 e10 e11 e12;exact rM
  ·have hv:=gU f7;refine vM Tryz.func121 fun P G E hc hE=>?_
   replace dI:=hc _ _ _ dI;replace gE:=hc _ _ _ gE;replace hi:=hc _ _ _ hi;obtain⟨z1,eple,⟨p00,p01,p02,p03,p1n⟩,x1,x2,x3,g0,eT,eF⟩:=opf hE;have d4:E.lei 0 i1=decide (0<=i1):=fH
   rw[dF ma]at d4;have d3:E.lti 1 n=false:=by rw[hE];exact dF ze
   subst hv;clear hE hc iL lJ gU pA yS eI yE sq yD lK eple eT eF qI opf hlen dC hz hn dR hs ha hb ze ma f7 e0 e1 e2 e3 e4 e5 e6 e7 e8 e9 e10 e11 e12;exact rM
def lr(k:Int)(t:Bs)(a:Int):PV:=.agg [pI k,pS (bL t),pI a]
def tg(s:ByteArray)(a:Int):PV:=match jH uB fR (bB s a)with
 | .bad e=>.tup [.agg [pI 0,pS ⟨#[]⟩,pI 0],pI a,pI e]
 | .ok k t r=>.tup [lr k t a,pI ((s.size:Nat)-(r.length:Nat)),pI 0]
theorem Ab{s:ByteArray}{a e:Int}(h:jH uB fR (bB s a)=.bad e):tg s a=.tup [.agg [pI 0,pS ⟨#[]⟩,pI 0],pI a,pI e]:=by unfold tg;rw[h]
theorem OC{s:ByteArray}{a k:Int}{t r:Bs}(h:jH uB fR (bB s a)=.ok k t r):tg s a=.tup [lr k t a,pI ((s.size:Nat)-(r.length:Nat)),pI 0]:=by unfold tg;rw[h]
abbrev mB:cE:=.box [.p (pI 0),.p (pS ⟨#[]⟩),.p (pI 0)] 59 none
abbrev qG(k:Int)(t:ByteArray)(a:Int):cE:=.box [.p (pI k),.p (pS t),.p (pI a)] 59 none
structure BM(s:ByteArray)(n a:Int)(j:Int):Prop where
 j0:a<=j
 j1:j<=n
 u:∃u:Bs,bB s a=u++bB s j/\(u.length:Int)=j-a/\∀c∈u,mP c=true
theorem z3t(s:ByteArray)(a:Int)(q:UInt8)(h0:0<=a)(hq:s.data.toList[a.toNat]?=some q)(hl:oA q=true)(hs:s.size<=900000):RL 94 [pS s,pI a] (tg s a):=by
 obtain⟨n,hn⟩:∃n:Int,((s.size:Nat):Int)=n:=⟨_,rfl⟩
 have h1:a<n:=by
  exact LZ
 obtain⟨zq,eJ⟩:∃z:Int,((q.toNat:Nat):Int)=z:=⟨_,rfl⟩
 have nW:bB s a=q::bB s (a+1):=uW h0 hq;have kH:=IJ q zq true eJ hl;have fE:=rL s a;obtain⟨W,hW⟩:∃x,(bB s a).takeWhile mP=x:=⟨_,rfl⟩
 obtain⟨D,hD⟩:∃x,(bB s a).dropWhile mP=x:=⟨_,rfl⟩
 have CE:bB s a=W++D:=Uo
 have hlen:(bB s a).length=W.length+D.length:=aX
 obtain⟨e1,rG⟩:∃x:Int,n-(D.length:Nat)=x:=⟨_,rfl⟩
 have sP:tg s a=.tup [lr (if mq W then 2 else 1) W a,pI e1,pI 0]:=by
  rw[<-rG,<- hn];refine OC ?_;rw[nW]at hW hD ⊢;rw[jH,aF hl,hW,hD]
 rw[sP];unfold lr;have vO:=nK (z9o (bL W));have MW:(bL W).data.toList=W:=LO
 rw[MW]at vO;have iv:s.extract a.toNat e1.toNat=bL W:=by
  refine yZ ?_;rw[MW,AL,CE,show e1.toNat-a.toNat=W.length by omega,rI]
 obtain⟨T,hT⟩:∃x,bL W=x:=⟨_,rfl⟩
 rw[hT]at iv vO;rw[hT];obtain⟨kb,HD⟩:∃x,mq W=x:=⟨_,rfl⟩
 rw[HD]at vO ⊢;have fQ:=fun(c:UInt8)(z:Int)(b:Bool)(hz:((c.toNat:Nat):Int)=z)(hb:eO c=b)=>PH c z b hz hb
 have iC:=fun(c:UInt8)(z:Int)(b:Bool)(hz:((c.toNat:Nat):Int)=z)(hb:oA c=b)=>IJ c z b hz hb
 have YF:a<=e1:=eC
 have wN:e1<=n:=eC
 have cZ:∀j,BM s n a j->(∀c,(bB s j).head?=some c->mP c=false)->j=e1:=fun j hj h=>by
  obtain⟨j0,j1,u,gG,gM,lB⟩:=hj;have h5:=ld (p:=mP) u (bB s j) lB h
  grind
 have aT:∀i:Int,0<=i->i<n->∃c,s.data.toList[i.toNat]?=some c:=fun i iH iL=>⟨_,aB cj⟩
 obtain⟨μ,hμ⟩:∃μ:Int->Nat,∀x,μ x=2000000000-x.toNat:=⟨_,fun _=>rfl⟩
 have jR:BM s n a a:=⟨bT _,by omega,[],rfl,by grind,fun c hc=>(by cases hc)⟩
 clear sP HD MW hW hD hT CE hlen nW hl;refine ap aU mA (f:=94) Tryz.func94 rfl kR (oT kR) ?_
 refine aY.cutK 3 114 [0,1,4,7,8] 2 (fun _:Unit=>[.p (pS s),.p (pI a),.own 0 0,.own 1 0,.p (.v (.int .u8 zq))]) (fun _=>[some mB,some (qG 0 ⟨#[]⟩ a)]) (fun _=>True) aU mixed (fun _=>0) (fun E=>jG E cO Tryz.f94.results.toList (.tup [.agg [pI (if kb=true then 2 else 1),pS T,pI a],pI e1,pI 0])) kR ?_ ?_
 ·intro P G E hc hM hE;have g0:E.get s (E.nat a)=some zq:=by
   rw[hE];show(s.data.toList[a.toNat]?).map _=some zq
   grind
  have p0:E.ple 0 a:=xF
  clear hE hc hM jR;exact uh
 intro _ _;refine aY.never ?_;refine aY.block ?_;refine aY.cut 114 [0,1,4,7,8,19] 2 (fun _:Unit=>[.p (pS s),.p (pI a),.own 0 0,.own 1 0,.p (.v (.int .u8 zq)),.p (pB true)]) (fun _=>[some mB,some (qG 0 ⟨#[]⟩ a)]) (fun _=>True) ?_ ?_
 ·refine aY.of0 aU mixed (fun _=>0) kR fun P G E hc hM hE=>?_
  replace kH:=hc _ _ _ kH;clear hE hc hM jR;exact uh
 intro _ _;refine aY.condT rfl ?_;refine aY.cutK 2 114 [0,1,4,7,9] 2 (fun _:Unit=>[.p (pS s),.p (pI a),.own 0 0,.own 1 0,.p (pI e1)]) (fun _=>[some mB,some (qG 0 ⟨#[]⟩ a)]) (fun _=>True) aU mixed (fun _=>0) (fun E=>lf 0 (nI (fun _ _=>False) (jG E cO Tryz.f94.results.toList (.tup [.agg [pI (if kb=true then 2 else 1),pS T,pI a],pI e1,pI 0])))) kR ?_ ?_
 ·intro P G E hc hM hE;replace fQ:=fun(c:UInt8)(z:Int)(b:Bool)(hz:((c.toNat:Nat):Int)=z)(hb:eO c=b)=>hc _ _ _ (fQ c z b hz hb)
  replace iC:=fun(c:UInt8)(z:Int)(b:Bool)(hz:((c.toNat:Nat):Int)=z)(hb:oA c=b)=>hc _ _ _ (iC c z b hz hb)
  have z1:E.size s=n:=iY
  have elt:=yF hE;have eple:=uL hE;have eget:∀(i:Int)(c:UInt8)(z:Int),s.data.toList[i.toNat]?=some c->((c.toNat:Nat):Int)=z->E.get s (E.nat i)=some z:=fun i c z h hz=>by
   exact Cd
  have eadd:=ub hE;clear hE hc hM vO kH iv;cbv;refine gV 114 [0,1,4,7,9] 2 (fun x:Int=>[.p (pS s),.p (pI a),.own 0 0,.own 1 0,.p (pI x)]) (fun _=>[some mB,some (qG 0 ⟨#[]⟩ a)]) (BM s n a) μ a r5 jR ?_
  clear jR;intro j hj;replace hn:((s.size:Nat):Int)=n:=hn;have mh:=cZ j hj;obtain⟨j0,j1,u,gG,gM,lB⟩:=hj;replace gM:((u.length:Nat):Int)=j-a:=gM
  rcases dV (j<n)with cQ|cQ
  ·have d1:E.lti j n=true:=aX
   obtain⟨c,eP⟩:=aT j oM cQ
   obtain⟨z,hz⟩:∃z:Int,((c.toNat:Nat):Int)=z:=⟨_,rfl⟩
   have g1:=eget j c z eP hz;have p1:=eple 0 j oM
   have dZ:=uW oM eP
   cases gj:mP c with
   |true=>
    obtain⟨j2,oL⟩:∃x:Int,j+1=x:=⟨_,rfl⟩
    have ej:=eadd j 1 oM oM oM oM
    rw[oL]at ej;have lV:BM s n a j2:=by
     refine⟨by omega,by omega,u++[c],?_,?_,?_⟩
     ·grind
     ·grind
     grind
    have gA:μ j2<μ j:=qg
    cases bh:oA c with
    |true=>
     have hk:=iC c z true hz bh;clear aT fQ iC elt eple eget eadd hn hq eJ gG gM lB hs eP hz dZ oL cZ mh gj bh hμ rG fE;cbv;refine mW ?_;exact Jz
    |false=>
     have hk:=iC c z false hz bh;have tK:eO c=true:=by unfold mP at gj;grind
     have yR:=fQ c z true hz tK;clear aT fQ iC elt eple eget eadd hn hq eJ gG gM lB hs eP hz dZ oL cZ mh gj bh hμ rG fE tK;cbv;refine mW ?_;exact Jz
   |false=>
    have HE:=mh (fun x hx=>by grind)
    have wF:=gj;unfold mP at wF;simp only[cG]at wF;have hk:=iC c z false hz wF.1;have yR:=fQ c z false hz wF.2;subst HE;clear aT fQ iC elt eple eget eadd hn hq eJ gG gM lB hs eP hz dZ cZ mh gj wF hμ rG fE;exact uh
  ·have d1:E.lti j n=false:=aX
   have mT:bB s j=[]:=ja oM
   have HE:=mh (fun x hx=>by grind)
   subst HE;clear aT fQ iC elt eple eget eadd hn hq eJ gG gM lB hs cZ mh hμ rG fE mT;exact uh
 intro _ _;refine aY.cut 114 [0,1,4,7,9] 2 (fun _:Unit=>[.p (pS s),.p (pI a),.own 0 0,.own 1 0,.p (pI e1)]) (fun _=>[some mB,some (qG 1 T a)]) (fun _=>True) ?_ ?_
 ·refine aY.regM aU mixed 8 [5,7] (fun i=>match i with|5=>1|7=>2|_=>0) kR (fun _=>nI (mC 114 [0,1,4,7,9] 2 (fun _:Unit=>[.p (pS s),.p (pI a),.own 0 0,.own 1 0,.p (pI e1)]) (fun _=>[some mB,some (qG 1 T a)]) (fun _=>True)) (lf 0 (nI (fun _ _=>False) (jG bG cO Tryz.f94.results.toList (.tup [.agg [pI (if kb=true then 2 else 1),pS T,pI a],pI e1,pI 0]))))) fun P G E hc hM hE=>?_
  have z1:E.size s=n:=iY
  have p1:E.ple 0 a:=xF
  have p2:E.ple a e1:=by rw[hE];exact YF
  have p3:E.ple e1 n:=by rw[hE];exact wN
  have x1:E.ext s (E.nat a) (E.nat e1)=T:=by rw[hE];exact iv
  clear hE hc hM vO kH iv fQ iC cZ aT jR hn hq eJ;exact Wy
 intro _ _;refine aY.of aU mixed (fun _=>0) kR (fun E=>lf 0 (nI (fun _ _=>False) (jG E cO Tryz.f94.results.toList (.tup [.agg [pI (if kb=true then 2 else 1),pS T,pI a],pI e1,pI 0])))) fun P G E hc hM hE=>?_
 replace vO:=hc _ _ _ vO;clear hE hc hM kH iv fQ iC cZ aT jR hn hq eJ
 cases kb
 all_goals
  exact rM
theorem xd0{l t r:Bs}{k:Int}(h:qZ l=.ok k t r):k=3/\l=t++r:=by
 exact Vn
theorem Nz{l:Bs}{e:Int}(h:qZ l=.bad e):e≠0:=by
 unfold qZ at h
 grind
theorem z8r(s:ByteArray)(a:Int)(q:UInt8)(h0:0<=a)(hq:s.data.toList[a.toNat]?=some q)(hl:oA q=false)(hd:eO q=true)(hs:s.size<=900000):RL 94 [pS s,pI a] (tg s a):=by
 obtain⟨n,hn⟩:∃n:Int,((s.size:Nat):Int)=n:=⟨_,rfl⟩
 have h1:a<n:=by
  exact LZ
 obtain⟨zq,eJ⟩:∃z:Int,((q.toNat:Nat):Int)=z:=⟨_,rfl⟩
 have nW:bB s a=q::bB s (a+1):=uW h0 hq;have kH:=IJ q zq false eJ hl;have nL:=PH q zq true eJ hd;have i8:=Zw s a q h0 hq hd oM
 have fE:=rL s a;have dQ:jH uB fR (bB s a)=qZ (bB s a):=by
  rw[nW,jH,aD LS,aF hd]
 unfold QE at i8
 cases mc:qZ (bB s a)with
 |bad e=>
  rw[mc]at dQ i8;simp only at i8;rw[Ab dQ];have he:=Nz mc;have f1:decide (e=0)=false:=dF he;clear dQ mc nW;refine ap aU mA (f:=94) Tryz.func94 rfl kR (oT kR) ?_
  refine aY.cutK 3 114 [0,1,4,7,8] 2 (fun _:Unit=>[.p (pS s),.p (pI a),.own 0 0,.own 1 0,.p (.v (.int .u8 zq))]) (fun _=>[some mB,some (qG 0 ⟨#[]⟩ a)]) (fun _=>True) aU mixed (fun _=>0) (fun E=>jG E cO Tryz.f94.results.toList (.tup [.agg [pI 0,pS ⟨#[]⟩,pI 0],pI a,pI e])) kR ?_ ?_
  ·exact LY
  intro _ _;refine aY.never ?_;refine aY.block ?_;refine aY.cut 114 [0,1,4,7,8,19] 2 (fun _:Unit=>[.p (pS s),.p (pI a),.own 0 0,.own 1 0,.p (.v (.int .u8 zq)),.p (pB false)]) (fun _=>[some mB,some (qG 0 ⟨#[]⟩ a)]) (fun _=>True) ?_ ?_
  ·exact VA
  intro _ _;refine aY.condF rfl ?_;refine aY.cut 114 [0,1,4,7,8,53] 2 (fun _:Unit=>[.p (pS s),.p (pI a),.own 0 0,.own 1 0,.p (.v (.int .u8 zq)),.p (pB true)]) (fun _=>[some mB,some (qG 0 ⟨#[]⟩ a)]) (fun _=>True) ?_ ?_
  ·exact VB
  intro _ _;refine aY.condT rfl ?_;refine aY.cutK 2 114 [] 0 (fun _:Unit=>[]) (fun _=>[]) (fun _=>False) aU mixed (fun _=>0) (fun E=>lf 0 (nI (fun _ _=>False) (jG E cO Tryz.f94.results.toList (.tup [.agg [pI 0,pS ⟨#[]⟩,pI 0],pI a,pI e])))) kR ?_ (fun _ h=>h.elim)
  intro P G E hc hM hE;replace i8:=hc _ _ _ i8;clear hE hc hM;cbv;exact mW trivial
 |ok k t r=>
  rw[mc]at dQ i8;simp only at i8;obtain⟨rfl,Yc⟩:=xd0 mc;have hlen:(bB s a).length=t.length+r.length:=aX
  obtain⟨e1,rG⟩:∃x:Int,n-(r.length:Nat)=x:=⟨_,rfl⟩
  rw[OC dQ];unfold lr;rw[hn,rG]at i8 ⊢;have MW:(bL t).data.toList=t:=LO
  have iv:s.extract a.toNat e1.toNat=bL t:=by
   refine yZ ?_;rw[MW,AL,Yc,show e1.toNat-a.toNat=t.length by omega,rI]
  obtain⟨T,hT⟩:∃x,bL t=x:=⟨_,rfl⟩
  rw[hT]at iv;rw[hT];have YF:a<=e1:=eC
  have wN:e1<=n:=eC
  clear dQ mc nW MW Yc hT hlen rG;refine ap aU mA (f:=94) Tryz.func94 rfl kR (oT kR) ?_
  refine aY.cutK 3 114 [0,1,4,7,8] 2 (fun _:Unit=>[.p (pS s),.p (pI a),.own 0 0,.own 1 0,.p (.v (.int .u8 zq))]) (fun _=>[some mB,some (qG 0 ⟨#[]⟩ a)]) (fun _=>True) aU mixed (fun _=>0) (fun E=>jG E cO Tryz.f94.results.toList (.tup [.agg [pI 3,pS T,pI a],pI e1,pI 0])) kR ?_ ?_
  ·exact LY
  intro _ _;refine aY.never ?_;refine aY.block ?_;refine aY.cut 114 [0,1,4,7,8,19] 2 (fun _:Unit=>[.p (pS s),.p (pI a),.own 0 0,.own 1 0,.p (.v (.int .u8 zq)),.p (pB false)]) (fun _=>[some mB,some (qG 0 ⟨#[]⟩ a)]) (fun _=>True) ?_ ?_
  ·exact VA
  intro _ _;refine aY.condF rfl ?_;refine aY.cut 114 [0,1,4,7,8,53] 2 (fun _:Unit=>[.p (pS s),.p (pI a),.own 0 0,.own 1 0,.p (.v (.int .u8 zq)),.p (pB true)]) (fun _=>[some mB,some (qG 0 ⟨#[]⟩ a)]) (fun _=>True) ?_ ?_
  ·exact VB
  intro _ _;refine aY.condT rfl ?_;refine aY.cutK 2 114 [0,1,4,7,10] 2 (fun _:Unit=>[.p (pS s),.p (pI a),.own 0 0,.own 1 0,.p (pI e1)]) (fun _=>[some mB,some (qG 0 ⟨#[]⟩ a)]) (fun _=>True) aU mixed (fun _=>0) (fun E=>lf 0 (nI (fun _ _=>False) (jG E cO Tryz.f94.results.toList (.tup [.agg [pI 3,pS T,pI a],pI e1,pI 0])))) kR ?_ ?_
  ·intro P G E hc hM hE;replace i8:=hc _ _ _ i8;clear hE hc hM;exact uh
  intro _ _;refine aY.cut 114 [0,1,4,7,10] 2 (fun _:Unit=>[.p (pS s),.p (pI a),.own 0 0,.own 1 0,.p (pI e1)]) (fun _=>[some mB,some (qG 3 T a)]) (fun _=>True) ?_ ?_
  ·refine aY.regM aU mixed 8 [5,7] (fun i=>match i with|5=>1|7=>2|_=>0) kR (fun _=>nI (mC 114 [0,1,4,7,10] 2 (fun _:Unit=>[.p (pS s),.p (pI a),.own 0 0,.own 1 0,.p (pI e1)]) (fun _=>[some mB,some (qG 3 T a)]) (fun _=>True)) (lf 0 (nI (fun _ _=>False) (jG bG cO Tryz.f94.results.toList (.tup [.agg [pI 3,pS T,pI a],pI e1,pI 0]))))) fun P G E hc hM hE=>?_
   have z1:E.size s=n:=iY
   have p1:E.ple 0 a:=xF
   have p2:E.ple a e1:=by rw[hE];exact YF
   have p3:E.ple e1 n:=by rw[hE];exact wN
   have x1:E.ext s (E.nat a) (E.nat e1)=T:=by rw[hE];exact iv
   clear hE hc hM kH iv nL i8 hn hq eJ;exact Wy
  intro _ _;refine aY.of aU mixed (fun _=>0) kR (fun E=>lf 0 (nI (fun _ _=>False) (jG E cO Tryz.f94.results.toList (.tup [.agg [pI 3,pS T,pI a],pI e1,pI 0])))) fun P G E hc hM hE=>?_
  clear hE hc hM kH iv nL i8 hn hq eJ;cbv;all_goals trivial
theorem Sj{q:UInt8}(h:q=34\/q=39):oA q=false/\eO q=false:=by
 rcases h with rfl|rfl<;>decide
theorem z8p(s:ByteArray)(a:Int)(q:UInt8)(h0:0<=a)(hq:s.data.toList[a.toNat]?=some q)(tF:q=34\/q=39)(hs:s.size<=900000):RL 94 [pS s,pI a] (tg s a):=by
 obtain⟨n,hn⟩:∃n:Int,((s.size:Nat):Int)=n:=⟨_,rfl⟩
 have h1:a<n:=by
  exact LZ
 obtain⟨zq,eJ⟩:∃z:Int,((q.toNat:Nat):Int)=z:=⟨_,rfl⟩
 have nW:bB s a=q::bB s (a+1):=uW h0 hq;obtain⟨hl,hd⟩:=Sj tF;have kH:=IJ q zq false eJ hl;have nL:=PH q zq false eJ hd;have uP:=zv2 s a q h0 hq hs;have fE:=rL s (a+1);have dQ:jH uB fR (bB s a)=match lit uB q (bB s (a+1))with
  |none=>.bad 4
  |some z=>.ok 4 (fR z.1) z.2:=by
  rw[nW,jH,aD LS,aD UO,aF tF]
  grind
 unfold PL at uP;have hf:(decide (zq=34)=true/\True)\/(decide (zq=34)=false/\decide (zq=39)=true):=by
  rcases tF with rfl|rfl
  ·grind
  grind
 cases wJ:lit uB q (bB s (a+1))with
 |none=>
  rw[wJ]at dQ uP;simp only at uP dQ;rw[Ab dQ];have f3:decide ((0:Int)=0)=true:=rfl;clear dQ wJ nW tF hl hd
  rcases hf with⟨f1,f2⟩|⟨f1,f2⟩
  ·skip
   exact Xu
  ·skip
   exact Xu
 |some p=>
  obtain⟨t,r⟩:=p;rw[wJ]at dQ uP;simp only at uP dQ;rw[OC dQ];unfold lr;obtain⟨u,gG,gM,_⟩:=E6 uB q _ _ _ wJ;have hlen:(bB s (a+1)).length=u.length+r.length:=aX
  obtain⟨e1,rG⟩:∃x:Int,n-(r.length:Nat)=x:=⟨_,rfl⟩
  rw[hn,rG]at uP ⊢;have f3:decide (e1=0)=false:=dF oM
  have ke:(bL t).data.toList=t:=LO
  have tD:cb (bL t)=bL (fR t):=by
   unfold cb;rfl
  rw[tD]at uP;obtain⟨T,hT⟩:∃x,bL (fR t)=x:=⟨_,rfl⟩
  rw[hT]at uP;rw[hT];clear dQ wJ nW tF hl hd gG gM hlen rG ke tD hT
  rcases hf with⟨f1,f2⟩|⟨f1,f2⟩
  ·skip
   exact Xt
  ·skip
   exact Xt
theorem xd5(s:ByteArray)(a:Int)(q:UInt8)(h0:0<=a)(hq:s.data.toList[a.toNat]?=some q)(hl:oA q=false)(hd:eO q=false)(tF:¬(q=34\/q=39))(hs:s.size<=900000):RL 94 [pS s,pI a] (tg s a):=by
 obtain⟨n,hn⟩:∃n:Int,((s.size:Nat):Int)=n:=⟨_,rfl⟩
 have h1:a<n:=by
  exact LZ
 obtain⟨zq,eJ⟩:∃z:Int,((q.toNat:Nat):Int)=z:=⟨_,rfl⟩
 have nW:bB s a=q::bB s (a+1):=uW h0 hq;have kH:=IJ q zq false eJ hl;have nL:=PH q zq false eJ hd;have fE:=rL s a;have f1:decide (zq=34)=false:=gY eJ 34 fun e=>tF (.inl e)
 have f2:decide (zq=39)=false:=gY eJ 39 fun e=>tF (.inr e)
 have dQ:jH uB fR (bB s a)=match qC (bB s a)with
  |none=>.bad 4
  |some w=>.ok 5 w ((bB s a).drop w.length):=by
  rw[nW,jH,aD LS,aD UO,aD tF]
  grind
 obtain⟨X,hX⟩:∃x,s.extract a.toNat n.toNat=x:=⟨_,rfl⟩
 have Di:X.data.toList=bB s a:=by
  rw[<-hX,AL];exact Cb
 have Mk:X.size<=1000000:=by
  have e5:X.data.toList.length=X.size:=rfl
  grind
 have nD:=ztm X q (bB s (a+1)) (by rw[Di,nW]) Mk
 unfold qd at nD;rw[Di]at nD
 cases ho:qC (bB s a)with
 |none=>
  rw[ho]at dQ nD;simp only at dQ;rw[Ab dQ];change RL _ _ (pS ⟨#[]⟩)at nD;clear dQ ho nW tF hl hd Di Mk;refine ap aU mA (f:=94) Tryz.func94 rfl kR (oT kR) ?_
  refine aY.cutK 3 114 [0,1,4,7,8] 2 (fun _:Unit=>[.p (pS s),.p (pI a),.own 0 0,.own 1 0,.p (.v (.int .u8 zq))]) (fun _=>[some mB,some (qG 0 ⟨#[]⟩ a)]) (fun _=>True) aU mixed (fun _=>0) (fun E=>jG E cO Tryz.f94.results.toList (.tup [.agg [pI 0,pS ⟨#[]⟩,pI 0],pI a,pI 4])) kR ?_ ?_
  ·exact LY
  intro _ _;refine aY.cut 114 [0,1,4,7] 2 (fun _:Unit=>[.p (pS s),.p (pI a),.own 0 0,.own 1 0]) (fun _=>[some mB,some (qG 0 ⟨#[]⟩ a)]) (fun _=>True) ?_ ?_
  ·exact Xr
  intro _ _;refine aY.cutK 2 114 [] 0 (fun _:Unit=>[]) (fun _=>[]) (fun _=>False) aU mixed (fun _=>0) (fun E=>jG E cO Tryz.f94.results.toList (.tup [.agg [pI 0,pS ⟨#[]⟩,pI 0],pI a,pI 4])) kR ?_ (fun _ h=>h.elim)
  intro P G E hc hM hE;replace nD:=hc _ _ _ nD;have z1:E.size s=n:=iY
  have p1:E.ple 0 a:=xF
  have p2:E.ple a n:=by rw[hE];show a<=n;omega
  have p3:E.ple n n:=by rw[hE];exact bT _
  have x1:E.ext s (E.nat a) (E.nat n)=X:=by rw[hE];exact hX
  have f3:E.eq ⟨#[]⟩ ⟨#[]⟩=true:=by rw[hE];exact aA (show(⟨#[]⟩:ByteArray)=⟨#[]⟩from rfl)
  clear hE hc hM kH nL hn hq eJ hX;cbv;exact mW trivial
 |some w=>
  rw[ho]at dQ nD;simp only at dQ;rw[OC dQ];unfold lr;change RL _ _ (pS (bL w))at nD;obtain⟨nn,m9,Lg⟩:=Ac ho;have hlen:((bB s a).drop w.length).length=(bB s a).length-w.length:=zC;have VY:(bL w).size=w.length:=rfl;have np:0<w.length:=aS.2 nn;obtain⟨T,hT⟩:∃x,bL w=x:=⟨_,rfl⟩
  rw[hT]at nD VY;rw[hT];obtain⟨m,hm⟩:∃x:Int,((T.size:Nat):Int)=x:=⟨_,rfl⟩
  obtain⟨e1,rG⟩:∃x:Int,a+m=x:=⟨_,rfl⟩
  rw[hn,show n-(((bB s a).drop w.length).length:Nat)=e1 by omega]
  have Dj:T≠⟨#[]⟩:=fun e=>by
   rw[e]at VY
   have:(⟨#[]⟩:ByteArray).size=0:=rfl
   omega
  have yl:0<=m:=eC
  have oK:m<=900000:=eC
  clear dQ ho nW tF hl hd Di Mk nn m9 Lg hlen hT VY np;refine ap aU mA (f:=94) Tryz.func94 rfl kR (oT kR) ?_
  refine aY.cutK 3 114 [0,1,4,7,8] 2 (fun _:Unit=>[.p (pS s),.p (pI a),.own 0 0,.own 1 0,.p (.v (.int .u8 zq))]) (fun _=>[some mB,some (qG 0 ⟨#[]⟩ a)]) (fun _=>True) aU mixed (fun _=>0) (fun E=>jG E cO Tryz.f94.results.toList (.tup [.agg [pI 5,pS T,pI a],pI e1,pI 0])) kR ?_ ?_
  ·exact LY
  intro _ _;refine aY.cut 114 [0,1,4,7] 2 (fun _:Unit=>[.p (pS s),.p (pI a),.own 0 0,.own 1 0]) (fun _=>[some mB,some (qG 0 ⟨#[]⟩ a)]) (fun _=>True) ?_ ?_
  ·exact Xr
  intro _ _;refine aY.cutK 2 114 [1,4,7] 2 (fun _:Unit=>[.p (pI a),.own 0 0,.own 1 0]) (fun _=>[some mB,some (qG 5 T a)]) (fun _=>True) aU mixed (fun _=>0) (fun E=>jG E cO Tryz.f94.results.toList (.tup [.agg [pI 5,pS T,pI a],pI e1,pI 0])) kR ?_ ?_
  ·intro P G E hc hM hE;replace nD:=hc _ _ _ nD;have z1:E.size s=n:=iY
   have p1:E.ple 0 a:=xF
   have p2:E.ple a n:=by rw[hE];show a<=n;omega
   have p3:E.ple n n:=by rw[hE];exact bT _
   have x1:E.ext s (E.nat a) (E.nat n)=X:=by rw[hE];exact hX
   have f3:E.eq T ⟨#[]⟩=false:=by rw[hE];exact dF Dj
   clear hE hc hM kH nL hn hq eJ hX Dj hm;exact uh
  intro _ _;refine aY.cut 114 [4,5,6] 1 (fun _:Unit=>[.own 0 0,.p (pI e1),.p (pI 0)]) (fun _=>[some (qG 5 T a)]) (fun _=>True) ?_ ?_
  ·refine aY.regM aU mixed 7 [6] (fun i=>match i with|6=>1|_=>0) kR (fun _=>nI (mC 114 [4,5,6] 1 (fun _:Unit=>[.own 0 0,.p (pI e1),.p (pI 0)]) (fun _=>[some (qG 5 T a)]) (fun _=>True)) (jG bG cO Tryz.f94.results.toList (.tup [.agg [pI 5,pS T,pI a],pI e1,pI 0]))) fun P G E hc hM hE=>?_
   have z2:E.size T=m:=by rw[hE];exact hm
   have w1:E.wadd .i64 a m=e1:=by rw[hE,<- rG];exact jX oM oM
   clear hE hc hM kH nL nD hn hq eJ hX Dj hm;cbv;refine mW ?_;refine⟨(.mk wC),(.mk wC),?_⟩
   exact .mk () r5 trivial
  intro _ _;refine aY.of aU mixed (fun _=>0) kR (fun E=>jG E cO Tryz.f94.results.toList (.tup [.agg [pI 5,pS T,pI a],pI e1,pI 0])) fun P G E hc hM hE=>?_
  clear hE hc hM kH nL nD hn hq eJ hX Dj hm;cbv;all_goals trivial
theorem z8q(s:ByteArray)(a:Int)(h0:0<=a)(h1:a<(s.size:Nat))(hs:s.size<=900000):RL 94 [pS s,pI a] (tg s a):=by
 obtain⟨q,hq⟩:∃c,s.data.toList[a.toNat]?=some c:=⟨_,aB cj⟩
 cases hl:oA q with
 |true=>exact z3t s a q h0 hq hl hs
 |false=>
  cases hd:eO q with
  |true=>exact z8r s a q h0 hq hl hd hs
  |false=>
   by_cases tF:q=34\/q=39
   ·exact z8p s a q h0 hq tF hs
   ·exact xd5 s a q h0 hq hl hd tF hs
def QU(n:Int)(x:Tk):List PV:=[pI x.k,pS (bL x.t),pI (n-(x.rem:Nat))]
def kY(n:Int)(ts:List Tk):List (List PV):=ts.map (QU n)
theorem zqb(n:Int)(a b:List Tk):kY n (a++b)=kY n a++kY n b:=List.map_append
theorem wu(n:Int)(a:List Tk):(kY n a).length=a.length:=nk ..
def lF(l:Bs):List Tk×Option (Nat×Int):=lex uB fR l
abbrev oH(m:Nat)(rs:List (List PV)):AH:=[some (.box [.osl 1 0 m] 35 none),some (.rows 3 rs 59)]
theorem UD(k:Int)(t:ByteArray)(a:Int)(m M:Nat)(rs RS:List (List PV))(hm:m=rs.length)(hb:m<=2000000)(hM:m+1=M)(hR:rs++[[pI k,pS t,pI a]]=RS):
  ML 56 [.agg [.p (pI k),.p (pS t),.p (pI a)],.own 0 0] (oH m rs) (.p (pB true)) (oH M RS):=by
 refine iD aU (f:=56) Tryz.func56 rfl kR (oT kR) fun tags cC=>?_
 match tags,cC with
 |[t0,t1],_=>
  refine aY.of aU mixed (fun _=>0) kR (fun E=>fI E cO Tryz.f56.results.toList [t0,t1] (.p (pB true)) (oH M RS)) fun P G E hc eY hE=>?_
  have p5:E.pre 0 m rs:=by rw[hE];show 0+m<=rs.length;omega
  have p4:E.room m 1 32:=by rw[hE];exact⟨by unfold maxLen;omega,by omega⟩
  have a2:E.addN m 1=M:=eh
  have r3:E.app rs m [[pI k,pS t,pI a]]=RS:=by rw[hE];show rs.take m++_=_;grind
  have r0:E.sub [[pI k,pS t,pI a]] 0 1=[[pI k,pS t,pI a]]:=fH
  have p0:E.pre 0 1 [[pI k,pS t,pI a]]:=by rw[hE];show 0+1<=1;omega
  clear hE hc eY hR hM hm hb;cbv
  grind
def Sv(n:Int):Option (Nat×Int)->PV
 |none=>.tup [pI 0,pI 0]
 |some p=>.tup [pI (n-(p.1:Nat)),pI p.2]
structure MD(s:ByteArray)(n:Int)(TS:List Tk)(ER:Option (Nat×Int))(x:Int×Nat×List (List PV)):Prop where
 i0:0<=x.1
 i1:x.1<=n
 st:∃done:List Tk,x.2.2=kY n done/\done.length=x.2.1/\(done.length:Int)<=x.1/\TS=done++(lF (bB s x.1)).1/\ER=(lF (bB s x.1)).2
theorem P4{s:ByteArray}{i:Int}{u r:Bs}(h0:0<=i)(h:bB s i=u++r):r=bB s (i+(u.length:Nat)):=by
 rw[<-A6 s i u.length h0,h,List.drop_left]
theorem Fe{l:Bs}{e:Int}(h:jH uB fR l=.bad e):e≠0:=by
 cases l with
 |nil=>cases h;decide
 |cons c r=>
  rw[jH]at h
  split at h
  ·cases h
  ·split at h
   ·exact Nz h
   grind
theorem xg8(s:ByteArray)(hs:s.size<=900000)(TS:List Tk)(ER:Option (Nat×Int))(hL:lF s.data.toList=(TS,ER)):
  ML 55 [.p (pS s),.clo 56 [] [.own 0 0]] (oH 0 []) (.p (Sv (s.size:Nat) ER)) (oH TS.length (kY (s.size:Nat) TS)):=by
 obtain⟨n,hn⟩:∃n:Int,((s.size:Nat):Int)=n:=⟨_,rfl⟩
 rw[hn];have jR:MD s n TS ER (0,0,[]):=⟨bT _,by show 0<=n;omega,[],rfl,rfl,by show(0:Int)<=0;omega,by show TS=[]++(lF s.data.toList).1;rw[hL];rfl,by show ER=(lF s.data.toList).2;rw[hL]⟩
 obtain⟨RV,eI⟩:∃x,Sv n ER=x:=⟨_,rfl⟩
 obtain⟨M,hM⟩:∃x,TS.length=x:=⟨_,rfl⟩
 obtain⟨RS,kV⟩:∃x,kY n TS=x:=⟨_,rfl⟩
 rw[eI,hM,kV];obtain⟨μ,hμ⟩:∃μ:Int->Nat,∀x,μ x=2000000000-x.toNat:=⟨_,fun _=>rfl⟩
 have lQ:=fun(i:Int)(r:Bs)(b:Bool)(e:Int)(h0:0<=i)(h1:i<=n)(hR:lA (bB s i)=(r,b))(he:n-(r.length:Nat)=e)=>show RL 93 [pS s,pI i] (.tup [pI e,pB b])from he ▸ hn ▸ z7a s i r b h0 oM oM hR
 have rQ:=fun(i:Int)(h0:0<=i)(h1:i<n)=>z8q s i h0 oM hs
 have ij:=fun(k:Int)(t:ByteArray)(a:Int)(m M:Nat)(rs RS:List (List PV))(hm:m=rs.length)(hb:m<=2000000)(hM:m+1=M)(hR:rs++[[pI k,pS t,pI a]]=RS)=>UD k t a m M rs RS hm hb hM hR
 refine iD aU (f:=55) Tryz.func55 rfl kR (oT kR) fun tags cC=>?_
 match tags,cC with
 |[t0,t1],_=>
  refine aY.of aU mixed (fun _=>0) kR (fun E=>fI E cO Tryz.f55.results.toList [t0,t1] (.p RV) (oH M RS)) fun P G E hc eY hE=>?_
  replace lQ:=fun(i:Int)(r:Bs)(b:Bool)(e:Int)(h0:0<=i)(h1:i<=n)(hR:lA (bB s i)=(r,b))(he:n-(r.length:Nat)=e)=>hc _ _ _ (lQ i r b e h0 h1 hR he)
  replace rQ:=fun(i:Int)(h0:0<=i)(h1:i<n)=>hc _ _ _ (rQ i h0 h1)
  replace ij:=fun(k:Int)(t:ByteArray)(a:Int)(m M:Nat)(rs RS:List (List PV))(hm:m=rs.length)(hb:m<=2000000)(hM:m+1=M)(hR:rs++[[pI k,pS t,pI a]]=RS)=>eY _ _ _ _ _ (ij k t a m M rs RS hm hb hM hR)
  have z1:E.size s=n:=iY
  have d0:E.lti 1048576 n=false:=sE
  clear hE hc eY;cbv
  repeat (first|(simp only[z1];try cbv)|(simp only[d0];try cbv))
  refine gV 44 [0,1,6] 2 (fun x:Int×Nat×List (List PV)=>[.p (pS s),.clo 56 [] [.own 0 0],.p (pI x.1)]) (fun x=>[some (.box [.osl 1 0 x.2.1] 35 (some t0)),some (.rows 3 x.2.2 59)]) (MD s n TS ER) (fun x=>μ x.1) (0,0,[]) r5 jR ?_
  clear jR d0
  rintro⟨i,m,rs⟩ ⟨i0,i1,done,dY,hm,jJ,oP,qL⟩
  simp only at i0 i1 dY hm jJ oP qL;replace hn:((s.size:Nat):Int)=n:=hn;replace hM:TS.length=M:=hM;replace hm:done.length=m:=hm;replace jJ:((done.length:Nat):Int)<=i:=jJ;have fE:=rL s i;obtain⟨r,b,tE⟩:∃r b,lA (bB s i)=(r,b):=⟨_,_,rfl⟩
  have hle:=DG (bB s i);rw[tE]at hle;simp only at hle;obtain⟨v,hv⟩:=P2 (bB s i);rw[tE]at hv;simp only at hv;obtain⟨f,hf⟩:∃x:Int,n-(r.length:Nat)=x:=⟨_,rfl⟩
  have xI:=lQ i r b f i0 i1 tE hf;have yn:(bB s i).length=v.length+r.length:=by rw[hv,sD]
  have nu:r=bB s f:=by
   exact V2
  have mY:=Ez _ r b tE
  cases b with
  |false=>
   have hx:=Qh uB fR tE;change lF (bB s i)=_ at hx;rw[hx]at oP qL;simp only[cB]at oP qL;have jY:RV=.tup [pI f,pI 4]:=by
    rw[<-eI,qL];show PV.tup [pI (n-(r.length:Nat)),pI 4]=_;rw[hf]
   have md:M=m:=by rw[<-hM,oP,hm]
   have dH:RS=rs:=by rw[<-kV,oP,dY]
   subst jY md dH;clear eI hM kV rQ ij lQ dY hm jJ oP qL fE tE hle hv hf yn nu mY hx hμ hn hs hL;cbv
   repeat (first|(refine⟨_,xI,?_⟩;cbv))
   all_goals trivial
  |true=>
   rcases mY.2 rfl with ye|⟨c,r',yg,hw,hk⟩
   ·have hx:=Gb uB fR (l:=bB s i) (by rw[tE,ye])
    change lF (bB s i)=_ at hx;rw[hx]at oP qL;simp only[cB]at oP qL;have jY:RV=.tup [pI 0,pI 0]:=by rw[<-eI,qL];rfl
    have md:M=m:=by rw[<-hM,oP,hm]
    have dH:RS=rs:=by rw[<-kV,oP,dY]
    have uu:f=n:=by rw[<-hf,ye];show n-0=n;omega
    have d1:decide (n=n)=true:=aA rfl;subst jY md dH uu;clear eI hM kV rQ ij lQ dY hm jJ oP qL fE tE hle hv hf yn nu mY hx hμ hn hs hL ye;cbv
    repeat (first|(refine⟨_,xI,?_⟩;cbv)|(simp only[z1];try cbv)|(simp only[d1];try cbv))
    all_goals trivial
   ·have pG:0<r.length:=by rw[yg];simp
    have d1:decide (f=n)=false:=dF oM
    have oJ:=rQ f oM oM
    cases dQ:jH uB fR r with
    |bad e=>
     have hx:=Qq uB fR tE (by rw[yg];exact bK _ _) dQ
     change lF (bB s i)=_ at hx;rw[hx]at oP qL;simp only[cB]at oP qL;rw[Ab Bw]at oJ
     have XZ:decide (e=0)=false:=dF (Fe dQ);have jY:RV=.tup [pI f,pI e]:=by
      rw[<-eI,qL];show PV.tup [pI (n-(r.length:Nat)),pI e]=_;rw[hf]
     have md:M=m:=by rw[<-hM,oP,hm]
     have dH:RS=rs:=by rw[<-kV,oP,dY]
     subst jY md dH;clear eI hM kV rQ ij lQ dY hm jJ oP qL fE tE hle hv hf yn nu mY hx hμ hn hs hL yg hw hk pG dQ;cbv
     repeat (first|(refine⟨_,xI,?_⟩;cbv)|(simp only[z1];try cbv)|(simp only[d1];try cbv)|(refine⟨_,oJ,?_⟩;cbv)|(simp only[XZ];try cbv))
     all_goals trivial
    |ok k t r2=>
     have hx:=PF uB fR tE dQ;change lF (bB s i)=(_::(lF r2).1,(lF r2).2)at hx;rw[hx]at oP qL;simp only at oP qL;rw[OC Bw,hn]at oJ
     unfold lr at oJ;have cQ:=DF uB fR dQ;obtain⟨w,nn,m9,_⟩:=OO uB fR dQ;obtain⟨e1,rG⟩:∃x:Int,n-(r2.length:Nat)=x:=⟨_,rfl⟩
     rw[rG]at oJ;have yf:bB s f=w++r2:=by rw[<-nu,m9]
     have gm:=aG List.length m9;rw[sD]at gm;have oI:r2=bB s e1:=by
      exact Vs
     obtain⟨T,hT⟩:∃x,bL t=x:=⟨_,rfl⟩
     rw[hT]at oJ;have qJ:m=rs.length:=by rw[dY,wu,hm]
     obtain⟨RS2,eA⟩:∃x,rs++[[pI k,pS T,pI f]]=x:=⟨_,rfl⟩
     have dO:=ij k T f m (m+1) rs RS2 qJ oM rfl eA
     obtain⟨m1,oK⟩:∃x,m+1=x:=⟨_,rfl⟩
     rw[oK]at dO;have lV:MD s n TS ER (e1,m1,RS2):=by
      exact Xf
     have gA:μ e1<μ i:=qg
     clear eI hM kV rQ ij lQ dY hm jJ oP qL fE tE hle hv hf yn nu mY hx hμ hn hs hL yg hw hk pG dQ cQ nn m9 rG yf gm oI hT qJ eA oK;cbv
     repeat (first|(refine⟨_,xI,?_⟩;cbv)|(simp only[z1];try cbv)|(simp only[d1];try cbv)|(refine⟨_,oJ,?_⟩;cbv))
     refine .mk _ _ (Wk.refl _ _) [0,1] _ _ _ _ dO rfl rfl rfl ?_;cbv;refine .mk (e1,m1,RS2) r5 ?_ ?_
     ·exact lV
     ·exact gA
def KS(s:ByteArray):PV:=match lF s.data.toList with
 |(ts,none)=>.tup [.ro 3 (kY (s.size:Nat) ts),pI 0,pI 0]
 |(_,some p)=>.tup [.v (.slice none 0 0),pI ((s.size:Nat)-(p.1:Nat)),pI p.2]
theorem DI{s:ByteArray}{ts:List Tk}(h:lF s.data.toList=(ts,none)):KS s=.tup [.ro 3 (kY (s.size:Nat) ts),pI 0,pI 0]:=by unfold KS;rw[h]
theorem A3{s:ByteArray}{ts:List Tk}{m:Nat}{e:Int}(h:lF s.data.toList=(ts,some (m,e))):KS s=.tup [.v (.slice none 0 0),pI ((s.size:Nat)-(m:Nat)),pI e]:=by unfold KS;rw[h]
theorem NX:∀(n:Nat)(l:Bs)(m:Nat)(e:Int),(oQ uB fR n l).2=some (m,e)->e≠0
 |0,_,_,_,h=>by cases h
 |n+1,l,m,e,h=>by
  rw[oQ]at h
  split at h
  ·cases h;decide
  ·split at h
   ·cases h
   ·split at h
    ·rename_i e' ht
     cases h
     exact Fe ht
    ·exact NX n _ m e h
theorem NY(s:ByteArray)(hs:s.size<=900000):RL 26 [pS s] (KS s):=by
 obtain⟨TS,ER,hL⟩:∃a b,lF s.data.toList=(a,b):=⟨_,_,rfl⟩
 have vN:=xg8 s hs TS ER hL;obtain⟨n,hn⟩:∃n:Int,((s.size:Nat):Int)=n:=⟨_,rfl⟩
 rw[hn]at vN;have fE:(kY n TS).length=TS.length:=wu n TS
 cases ER with
 |none=>
  rw[DI hL,hn];change ML _ _ _ (.p (.tup [pI 0,pI 0])) _ at vN;obtain⟨M,hM⟩:∃x,TS.length=x:=⟨_,rfl⟩
  obtain⟨RS,kV⟩:∃x,kY n TS=x:=⟨_,rfl⟩
  rw[hM,kV]at vN fE;rw[kV];refine xR aU mA mixed (fun _=>0) Tryz.func26 rfl kR kR rfl fun P G E hc eY hE=>?_
  replace vN:=eY _ _ _ _ _ vN;have p1:E.pre 0 M RS:=by rw[hE];show 0+M<=RS.length;omega
  have r1:E.sub RS 0 M=RS:=by rw[hE];show(RS.drop 0).take M=RS;grind
  clear hE hc eY hL hM kV fE;cbv;refine .mk _ _ (DC (k:=0) (j:=0) 3 59 rfl rfl) [0,1] _ _ _ _ vN rfl rfl rfl ?_;cbv
  grind
 |some p=>
  obtain⟨m,e⟩:=p;rw[A3 hL,hn];have he:e≠0:=NX _ _ m e (aG Prod.snd hL);change ML _ _ _ (.p (.tup [pI (n-(m:Nat)),pI e])) _ at vN;obtain⟨f,hf⟩:∃x:Int,n-(m:Nat)=x:=⟨_,rfl⟩
  obtain⟨M,hM⟩:∃x,TS.length=x:=⟨_,rfl⟩
  obtain⟨RS,kV⟩:∃x,kY n TS=x:=⟨_,rfl⟩
  rw[hM,kV,hf]at vN;rw[hf];have d1:decide (e=0)=false:=dF he;refine xR aU mA mixed (fun _=>0) Tryz.func26 rfl kR kR rfl fun P G E hc eY hE=>?_
  replace vN:=eY _ _ _ _ _ vN;clear hE hc eY hL hM kV fE he hf;cbv;refine .mk _ _ (DC (k:=0) (j:=0) 3 59 rfl rfl) [0,1] _ _ _ _ vN rfl rfl rfl ?_;exact rM
end Go.Proofs.YtjkcdcloomkooaaGreatDoor
