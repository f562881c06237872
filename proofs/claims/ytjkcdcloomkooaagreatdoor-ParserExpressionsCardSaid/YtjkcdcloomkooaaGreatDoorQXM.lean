/- Own work: walks and laws of the parser and its reference. -/
import Derived.Test.YtjkcdcloomkooaaGreatDoorQXL
import Derived.Shelf.Strings.BuilderRune
import Derived.Shelf.Strings.BuilderK
import Derived.WalkKit
import Derived.BigCall
import Derived.Lib.ParseIntBTie
import Derived.Lib.AtoiErrMem
set_option linter.unusedVariables false
set_option linter.unusedSimpArgs false
set_option linter.unusedSectionVars false
set_option maxHeartbeats 4000000
set_option maxRecDepth 100000
namespace Go.Proofs.YtjkcdcloomkooaaGreatDoor
end Go.Proofs.YtjkcdcloomkooaaGreatDoor
namespace Go.Proofs
open Go.Proofs.YtjkcdcloomkooaaGreatDoor
open Go.Shelf
def Tryz.laysWR_ren:Go.Shelf.Ren:=⟨fun|168=>146|240=>148|242=>161|276=>163|278=>172|n=>n,
 fun|0=>0|3=>3|4=>4|5=>5|9=>9|20=>20|21=>21|37=>115|46=>109|51=>129|70=>114|72=>117|75=>111|80=>77|164=>139|n=>n,fun|n=>n⟩
theorem Tryz.laysWR:Go.Proofs.Lays.n168 Tryz.prog Tryz.laysWR_ren:={
 mixed:=cI
 f168:=Tryz.func146.trans (aG some kR)
 f240:=Tryz.func148.trans (aG some kR)
 f242:=Tryz.func161.trans (aG some kR)
 f276:=Tryz.func163.trans (aG some kR)
 f278:=Tryz.func172.trans (aG some kR)
 t0:=Tryz.underlying0
 a0:=Tryz.isAgg0
 z0:=Tryz.sizeOf0
 v0:=Tryz.zeroValue0
 t3:=Tryz.underlying3
 a3:=Tryz.isAgg3
 z3:=Tryz.sizeOf3
 v3:=Tryz.zeroValue3
 t4:=Tryz.underlying4
 a4:=Tryz.isAgg4
 z4:=Tryz.sizeOf4
 v4:=Tryz.zeroValue4
 t5:=Tryz.underlying5
 a5:=Tryz.isAgg5
 z5:=Tryz.sizeOf5
 v5:=Tryz.zeroValue5
 t9:=Tryz.underlying9
 a9:=Tryz.isAgg9
 z9:=Tryz.sizeOf9
 v9:=Tryz.zeroValue9
 t20:=Tryz.underlying20
 a20:=Tryz.isAgg20
 z20:=Tryz.sizeOf20
 v20:=Tryz.zeroValue20
 t21:=Tryz.underlying21
 a21:=Tryz.isAgg21
 z21:=Tryz.sizeOf21
 v21:=Tryz.zeroValue21
 t37:=Tryz.underlying115
 a37:=Tryz.isAgg115
 z37:=Tryz.sizeOf115
 v37:=Tryz.zeroValue115
 t46:=Tryz.underlying109
 a46:=Tryz.isAgg109
 z46:=Tryz.sizeOf109
 v46:=Tryz.zeroValue109
 t51:=Tryz.underlying129
 a51:=Tryz.isAgg129
 z51:=Tryz.sizeOf129
 v51:=Tryz.zeroValue129
 t70:=Tryz.underlying114
 a70:=Tryz.isAgg114
 z70:=Tryz.sizeOf114
 v70:=Tryz.zeroValue114
 t72:=Tryz.underlying117
 a72:=Tryz.isAgg117
 z72:=Tryz.sizeOf117
 v72:=Tryz.zeroValue117
 t75:=Tryz.underlying111
 a75:=Tryz.isAgg111
 z75:=Tryz.sizeOf111
 v75:=Tryz.zeroValue111
 t164:=Tryz.underlying139
 a164:=Tryz.isAgg139
 z164:=Tryz.sizeOf139
 v164:=Tryz.zeroValue139 }
theorem Tryz.Builder_Extra_WR:Builder.Extra Tryz.prog Tryz.laysWR_ren:={
 sizeBuilder:=cI
 liesBuilder:=cI
 t5:=Tryz.underlying5
 a5:=Tryz.isAgg5
 z5:=Tryz.sizeOf5
 v5:=Tryz.zeroValue5
 infoByte:=cI
 cellsByte:=cI
 sizeByte:=cI
 neB5:=by decide }
end Go.Proofs
namespace Go.Proofs.YtjkcdcloomkooaaGreatDoor
open Go.Proofs.YtjkcdcloomkooaaGreatDoor
open Go.RowKit
set_option maxRecDepth 100000
set_option linter.unusedSimpArgs false
theorem xdb(b:Nat)(w:World)(h0:w.cell? ⟨b,0,none⟩=some (.pointer (some ⟨b,0,none⟩))):
  Calls Tryz.prog 148 #[.pointer (some ⟨b,0,none⟩)] w fun e w'=>e=.returned (.tuple #[])/\w'=w:=Any.Builder_copyCheck_used { Tryz.laysWR with } Tryz.Builder_Extra_WR.toX72 b w h0
theorem z8p(b:Nat)(w:World)(h0:w.cell? ⟨b,0,none⟩=some (.pointer none))(pH:w.shape? b=some (117,2))(hfz:w.frozen? ⟨b,0,none⟩=false):
  Calls Tryz.prog 148 #[.pointer (some ⟨b,0,none⟩)] w fun e w'=>e=.returned (.tuple #[])/\w'=w.setCell ⟨b,0,none⟩ (.pointer (some ⟨b,0,none⟩)):=Any.Builder_copyCheck_fresh { Tryz.laysWR with } Tryz.Builder_Extra_WR.toX72 b w h0 pH hfz
def bH(A:AV)(l:List UInt8):AH:=[some (.box [A,.osl 1 0 l.length] 117 none),some (.rows 1 (lR l) 5)]
def ik(A:AV):Prop:=A=.p (.v (.pointer none))\/A=.own 0 0
theorem Ml(A:AV)(hA:ik A)(l:List UInt8):VM 148 [.own 0 0] (bH A l) (.p (.tup [])) (bH (.own 0 0) l):=by
 refine⟨fun args w=>za Tryz.func148 rfl kR args w,fun B w ι args tags bS hC hR hlen dW=>?_⟩
 match tags,bS with
 |[t0,t1],_=>
  match args,hlen with
  |[v],_=>
   have hv:=dW 0 _ _ rfl rfl
   cases hv with
   |own _ _ c s hi=>
    have hk:(dC [t0,t1] (bH A l))[0]?=some (some (.box [A,.osl 1 0 l.length] 117 (some t0))):=rfl;obtain⟨hg,c',arr,ec,hb,iU,dB⟩:=(hR.blk 0 _ _ s hk hi).2
    cases ec
    obtain⟨u,hu,fZ,Al⟩:=dB 0 A rfl;obtain⟨u2,gG,SN,pp⟩:=dB 1 _ rfl;have gC:w.cell? ⟨c,0,none⟩=some u:=by rw[ka hb];exact hu
    rcases hA with rfl|rfl
    ·have eu:u=.pointer none:=jS Al;subst eu;refine(z8p c w gC (by simp[World.shape?,hb,iU]) (by simp[World.frozen?,hb])).mono ?_
     rintro e w' ⟨rfl,rfl⟩
     have UA:(w.setCell ⟨c,0,none⟩ (.pointer (some ⟨c,0,none⟩))).heap[c]?=some (.cells (arr.setIfInBounds 0 (.pointer (some ⟨c,0,none⟩))) 117 (0,0)):=by
      simp[World.setCell,Array.getElem?_modify,hb]
     have:=hR.upd hk hi (b':=.box [.own 0 0,.osl 1 0 l.length] 117 (some t0)) (w':=w.setCell ⟨c,0,none⟩ (.pointer (some ⟨c,0,none⟩))) rfl rfl rfl (by simp[World.setCell])
      (fun d hd=>by simp[World.setCell,Array.getElem?_modify,iQ hd])
      (fun R' iH=>⟨hg,c,_,rfl,UA,by simpa using iU,fun m a ha=>by
       rcases m with _|_|m
       ·simp at ha;subst ha;refine⟨.pointer (some ⟨c,0,none⟩),?_,rfl,.own 0 0 c s hi⟩
        grind
       ·simp at ha;subst ha;refine⟨u2,?_,SN,pp.keep0 iH⟩;simp[gG]
       ·simp at ha⟩)
     exact⟨ι,this.1,zY.ret (.p _ _ (.tup [] [] rfl fun j a v h=>by simp at h))⟩
    ·generalize FT:u=u' at Al
     cases Al with
     |own _ _ c2 s2 mX=>
      rw[hi]at mX
      cases mX
      subst FT;refine(xdb c w gC).mono ?_
      rintro e w' ⟨rfl,rfl⟩
      exact⟨ι,hR,zY.ret (.p _ _ (.tup [] [] rfl fun j a v h=>by simp at h))⟩
theorem Bh(w:World)(o:Option Nat):w.grownBy w.drew o:=⟨rfl,rfl,rfl,nR _,fun _ _ _=>rfl⟩
theorem z3x(w:World)(g n:Nat):w.grownBy (w.drew.freeze ⟨g,0,none⟩ n) (some g):=by
 unfold World.freeze
 split
 ·exact Bh w _
 ·refine⟨rfl,rfl,rfl,?_,fun k hk eA=>?_⟩
  ·simp_all
  ·have xg:g≠k:=fun e=>eA (by rw[e])
   show(w.heap.modify g _)[k]?=_
   grind
theorem xc3(w:World)(o:Obj)(r:Option Nat):w.grownBy (w.drew.alloc o) r:=⟨rfl,rfl,rfl,by
 simp_all,fun k hk _=>Lib.alloc_old w.drew o k hk⟩
set_option maxHeartbeats 2000000 in
theorem Ya(b g cap:Nat)(l:List UInt8)(p:Value)(w:World)(arr:Array Value)(ha:arr=#[p,.slice (some ⟨g,0,none⟩) l.length cap])(xR:w.heap[b]?=some (.cells arr 117 (0,0)))(h0:l≠[])(cur:Array Value)(hg:w.heap[g]?=some (.cells cur 5 (0,0)))
  (TK:l.length<=cur.size) (tC:l.length<=9223372036854775807) (oX:cap≠0) (gC:∀(j:Nat)(x:UInt8),l[j]?=some x->cur[j]?=some (.int .u8 (x.toNat:Nat))):
  Calls Tryz.prog 133 #[.pointer (some ⟨b,0,none⟩)] w fun e w'=>e=.returned (.string ⟨l.toArray⟩)/\w.grownBy w' (some g):=by
 subst ha;have c1:w.drew.cell? ⟨b,1,none⟩=some (.slice (some ⟨g,0,none⟩) l.length cap):=by
  have:w.drew.heap[b]?=some (.cells #[p,.slice (some ⟨g,0,none⟩) l.length cap] 117 (0,0)):=xR
  exact RM
 have Jo:(Builtin.unsafeSliceData_ #[115] 125 #[.slice (some ⟨g,0,none⟩) l.length cap]).run Tryz.prog w.drew=.ok (.pointer (some ⟨g,0,none⟩)) w.drew:=
  Lib.run_unsafeSliceData_row _ _ _ _ _ _ oX
 have Jk:(Builtin.unsafeString_ #[125,3] 9 #[.pointer (some ⟨g,0,none⟩),.int .i64 l.length]).run Tryz.prog w.drew=.ok (.string ⟨l.toArray⟩) (w.drew.freeze ⟨g,0,none⟩ l.length):=by
  refine Lib.run_unsafeString_row w.drew 125 3 9 5 Tryz.underlying125 Tryz.Builder_Extra_169.cellsByte g cur.size Rb l h0 TK tC ?_
  intro j x hx;rw[Addr.add_lit];have xp:w.drew.heap[g]?=some (.cells cur 5 (0,0)):=hg;rw[Lib.cell_of_heap xp]
  grind
 have mixed:=mixed
 go_enter Tryz.func133,Tryz.ntmps133
 go_wp2
 go_region_o
 all_goals (go_wp2;go_ret;exact⟨rfl,z3x _ _ _⟩)
set_option maxHeartbeats 2000000 in
theorem Y9(b:Nat)(p:Value)(w:World)(arr:Array Value)(ha:arr=#[p,.slice none 0 0])(xR:w.heap[b]?=some (.cells arr 117 (0,0))):
  Calls Tryz.prog 133 #[.pointer (some ⟨b,0,none⟩)] w fun e w'=>e=.returned (.string ⟨#[]⟩)/\∀r,w.grownBy w' r:=by
 subst ha;have Jk:∀(W:World)(q:Option Addr),(Builtin.unsafeString_ #[125,3] 9 #[.pointer q,.int .i64 0]).run Tryz.prog W=.ok (.string .empty) W:=fun W q=>Lib.run_unsafeString_none W _ _ _ q
 have c1:w.drew.cell? ⟨b,1,none⟩=some (.slice none 0 0):=by
  have:w.drew.heap[b]?=some (.cells #[p,.slice none 0 0] 117 (0,0)):=xR
  exact RM
 have Jo:(Builtin.unsafeSliceData_ #[115] 125 #[.slice none 0 0]).run Tryz.prog w.drew=.ok (.pointer none) w.drew:=rfl;have mixed:=mixed
 go_wp2
 go_region_o
 all_goals (go_wp2;go_ret;exact⟨rfl,fun r=>Bh w r⟩)
set_option maxHeartbeats 2000000 in
theorem Z5(b g cap:Nat)(p:Value)(w:World)(arr:Array Value)(ha:arr=#[p,.slice (some ⟨g,0,none⟩) 0 cap])(xR:w.heap[b]?=some (.cells arr 117 (0,0)))(oX:cap≠0):
  Calls Tryz.prog 133 #[.pointer (some ⟨b,0,none⟩)] w fun e w'=>e=.returned (.string ⟨#[]⟩)/\∀r,w.grownBy w' r:=by
 subst ha;have Jk:∀(W:World)(q:Option Addr),(Builtin.unsafeString_ #[125,3] 9 #[.pointer q,.int .i64 0]).run Tryz.prog W=.ok (.string .empty) W:=fun W q=>Lib.run_unsafeString_none W _ _ _ q
 have c1:w.drew.cell? ⟨b,1,none⟩=some (.slice (some ⟨g,0,none⟩) 0 cap):=by
  have:w.drew.heap[b]?=some (.cells #[p,.slice (some ⟨g,0,none⟩) 0 cap] 117 (0,0)):=xR
  exact RM
 have Jo:(Builtin.unsafeSliceData_ #[115] 125 #[.slice (some ⟨g,0,none⟩) 0 cap]).run Tryz.prog w.drew=.ok (.pointer (some ⟨g,0,none⟩)) w.drew:=
  Lib.run_unsafeSliceData_row _ _ _ _ _ _ oX
 have mixed:=mixed
 go_enter Tryz.func133,Tryz.ntmps133
 go_wp2
 go_region_o
 all_goals (go_wp2;go_ret;exact⟨rfl,fun r=>Bh w r⟩)
set_option maxHeartbeats 2000000 in
theorem zqr(b g:Nat)(p:Value)(w:World)(arr:Array Value)(ha:arr=#[p,.slice (some ⟨g,0,none⟩) 0 0])(xR:w.heap[b]?=some (.cells arr 117 (0,0)))(cur:Array Value)(hg:w.heap[g]?=some (.cells cur 5 (0,0))):
  Calls Tryz.prog 133 #[.pointer (some ⟨b,0,none⟩)] w fun e w'=>e=.returned (.string ⟨#[]⟩)/\∀r,w.grownBy w' r:=by
 subst ha;have Jk:∀(W:World)(q:Option Addr),(Builtin.unsafeString_ #[125,3] 9 #[.pointer q,.int .i64 0]).run Tryz.prog W=.ok (.string .empty) W:=fun W q=>Lib.run_unsafeString_none W _ _ _ q
 have cJ:b<w.heap.size:=md xR;have c1:w.drew.cell? ⟨b,1,none⟩=some (.slice (some ⟨g,0,none⟩) 0 0):=by
  have:w.drew.heap[b]?=some (.cells #[p,.slice (some ⟨g,0,none⟩) 0 0] 117 (0,0)):=xR
  exact RM
 have Jo:(Builtin.unsafeSliceData_ #[115] 125 #[.slice (some ⟨g,0,none⟩) 0 0]).run Tryz.prog w.drew=.ok (.pointer (some ⟨w.drew.heap.size,0,none⟩)) (w.drew.alloc (.view ⟨g,0,none⟩ 5)):=
  Lib.run_unsafeSliceData_zero w.drew _ _ 5 Tryz.underlying125 ⟨g,0,none⟩ 0 (5,cur.size) Rb
 have c2:(w.drew.alloc (.view ⟨g,0,none⟩ 5)).cell? ⟨b,1,none⟩=some (.slice (some ⟨g,0,none⟩) 0 0):=by
  have:(w.drew.alloc (.view ⟨g,0,none⟩ 5)).heap[b]?=_:=(Lib.alloc_old w.drew _ b cJ).trans xR
  exact RM
 have c0:w.cell? ⟨b,1,none⟩=some (.slice (some ⟨g,0,none⟩) 0 0):=c1;have mixed:=mixed
 go_enter Tryz.func133,Tryz.ntmps133
 go_wp2
 go_region_o
 all_goals (go_wp2;go_ret;exact⟨rfl,fun r=>xc3 w _ r⟩)
def lS(l:List UInt8):ByteArray:=⟨l.toArray⟩
theorem xgw{l:List UInt8}{i:Nat}{x:UInt8}(h:l[i]?=some x):(lR l)[i]?=some [.v (.int .u8 (x.toNat:Nat))]:=by
 unfold lR
 grind
theorem Kk(A:AV)(l:List UInt8)(tC:l.length<=9223372036854775807):VM 133 [.own 0 0] (bH A l) (.p (pS (lS l))) [none,none]:=by
 refine⟨fun args w=>za Tryz.func133 rfl kR args w,fun B w ι args tags bS hC hR hlen dW=>?_⟩
 match tags,bS with
 |[t0,t1],_=>
  match args,hlen with
  |[v],_=>
   have hv:=dW 0 _ _ rfl rfl
   cases hv with
   |own _ _ c s hi=>
    have hk:(dC [t0,t1] (bH A l))[0]?=some (some (.box [A,.osl 1 0 l.length] 117 (some t0))):=rfl;have yZ:(dC [t0,t1] (bH A l))[1]?=some (some (.rows 1 (lR l) 5)):=rfl;obtain⟨hg,c',arr,ec,hb,iU,dB⟩:=(hR.blk 0 _ _ s hk hi).2
    cases ec
    obtain⟨u,hu,fZ,Al⟩:=dB 0 A rfl;obtain⟨u2,gG,SN,pp⟩:=dB 1 _ rfl;have cV:∀(w':World)(g:Option Nat),(∀d,g=some d->iV ι (dC [t0,t1] (bH A l)) d)->w.grownBy w' g->eQ ⟨w,iV ι (dC [t0,t1] (bH A l)),[],fun _=>none⟩ B w' ι (dC [t0,t1] [none,none]):=fun w' g KJ rF=>by
     have mM:∀(k:Nat)(b:cH),¬(dC [t0,t1] [none,none])[k]?=some (some b):=fun k b h=>by
      match k,h with
      |0,h=>cases h
      |1,h=>cases h
      |k+2,h=>simp[dC,zk]at h
     exact⟨⟨rF.os,rF.tape,rF.output,rF.size,fun k lI hx=>rF.block k lI fun e=>hx (KJ k e.symm)⟩,fun b hb=>hR.fut b (aS rF.size hb),hR.len,fun k b c s h1 _=>absurd h1 (mM k b),fun k l b b' c s s' h1 _ _ _=>absurd h1 (mM k b)⟩
    have nL:∀(w':World),dD w' ι (Rd B ι (dC [t0,t1] [none,none])) (.p (pS (lS l))) (.string (lS l)):=fun w'=>.p _ _ (.v _)
    have ia:∀v2,u2=v2->arr=#[u,v2]:=fun v2 e=>by
     grind
    generalize hn:l.length=n at pp;generalize FT:u2=v2 at pp
    cases pp with
    |osl0=>
     have mW:l=[]:=aQ hn;subst mW;refine(Y9 c u w arr (ia _ FT) hb).mono ?_
     rintro e w' ⟨rfl,rF⟩
     exact⟨ι,cV w' none (fun d e=>by cases e) (rF none),zY.ret (nL w')⟩
    |osl _ _ _ c2 cap s2 mX Aq kM dr=>
     rw[Nat.zero_mul]at FT;obtain⟨es,eS,hh⟩:=(hR.blk 1 _ _ s2 yZ mX).2
     rcases hh with⟨ec,_⟩|⟨c',arr2,ec,gE,x4,Jd⟩
     ·cases ec
     cases ec
     have iP:∀d,some c2=some d->iV ι (dC [t0,t1] (bH A l)) d:=fun d e=>by cases e;exact⟨1,_,s2,yZ,mX⟩
     have dM:arr2.size=cap:=aZ
     rcases qU n with h0|h0
     ·subst h0;have mW:l=[]:=aQ hn;subst mW
      rcases qU cap with h1|h1
      ·subst h1;refine(zqr c c2 u w arr (ia _ FT) hb arr2 gE).mono ?_
       rintro e w' ⟨rfl,rF⟩
       exact⟨ι,cV w' none (fun d e=>by cases e) (rF none),zY.ret (nL w')⟩
      ·refine(Z5 c c2 cap u w arr (ia _ FT) hb oM).mono ?_
       rintro e w' ⟨rfl,rF⟩
       exact⟨ι,cV w' none (fun d e=>by cases e) (rF none),zY.ret (nL w')⟩
     ·subst hn;have eA:l≠[]:=fun e=>by grind
      refine(Ya c c2 cap l u w arr (ia _ FT) hb eA arr2 gE oM tC oM fun j x hx=>?_).mono ?_
      ·obtain⟨v,hv,_,hvr⟩:=Jd j 0 _ _ (xgw hx) rfl
       cases hvr
       grind
      ·rintro e w' ⟨rfl,rF⟩
       exact⟨ι,cV w' (some c2) iP rF,zY.ret (nL w')⟩
end Go.Proofs.YtjkcdcloomkooaaGreatDoor
namespace Go.Proofs.YtjkcdcloomkooaaGreatDoor
open Go.RowKit
theorem IG{n:Int}(h0:0<=n)(h1:n<4294967296):IntKind.u32.wrap n=n:=by
 have e1:((2:Int) ^ IntKind.u32.bits)=4294967296:=aT
 have e3:IntKind.u32.signed=false:=rfl;simp only[IntKind.wrap,e1,e3,cD,aM,bT];omega
abbrev p8(z:Int):List PV:=[.v (.int .u8 z)]
theorem z8i{r:Int}(h0:128<=r)(h1:r<=2047):lR (encL r)=[p8 (192+r/64),p8 (128+r%64)]:=by
 show lR (Utf8.encode r).data.toList=_;rw[VW,Lib.encodeRuneZ_two h0 h1];rfl
theorem Wx{r:Int}(h:(2048<=r/\r<55296)\/(57343<r/\r<=65535)):lR (encL r)=[p8 (224+r/4096),p8 (128+r/64%64),p8 (128+r%64)]:=by
 show lR (Utf8.encode r).data.toList=_;rw[VW,Lib.encodeRuneZ_three h];rfl
theorem z4a{r:Int}(h0:65536<=r)(h1:r<=1114111):lR (encL r)=[p8 (240+r/262144),p8 (128+r/4096%64),p8 (128+r/64%64),p8 (128+r%64)]:=by
 show lR (Utf8.encode r).data.toList=_;rw[VW,Lib.encodeRuneZ_four h0 h1];rfl
theorem z8j{r:Int}(h0:0<=r)(h1:r<=127):lR (encL r)=[p8 r]:=by
 show lR (Utf8.encode r).data.toList=_;rw[VW,Lib.encodeRuneZ_one h0 h1];rfl
theorem Xh(n:Int)(h0:128<=n)(h1:n<=1114111)(hs:¬(55296<=n/\n<=57343))(l:List UInt8)(hb:l.length<=1000000000):
  VM 172 [.osl 0 0 l.length,.p (.v (.int .i32 n))] [some (.rows 1 (lR l) 5)] (.osl 0 0 (l++encL n).length) [some (.rows 1 (lR (l++encL n)) 5)]:=by
 obtain⟨rs,dQ⟩:∃x,lR l=x:=⟨_,rfl⟩
 obtain⟨m,hm⟩:∃x,l.length=x:=⟨_,rfl⟩
 have pO:m=rs.length:=by rw[<-hm,<- dQ,LH]
 rw[dQ,hm];rw[hm]at hb;have n64:n.fdiv (2 ^ (min (6:Int).toNat IntKind.i32.bits))=n/64:=Gi
 have n4096:n.fdiv (2 ^ (min (12:Int).toNat IntKind.i32.bits))=n/4096:=Gi
 have n262144:n.fdiv (2 ^ (min (18:Int).toNat IntKind.i32.bits))=n/262144:=Gi
 rcases dP (n<=2047)with a1|a1
 ·skip
  obtain⟨y1,vC⟩:∃x:Int,192+n/64=x:=⟨_,rfl⟩
  obtain⟨y2,uH⟩:∃x:Int,128+n%64=x:=⟨_,rfl⟩
  have sL:=z8i h0 a1;rw[vC,uH]at sL;have kU:rs++[p8 y1,p8 y2]=lR (l++encL n):=ZF
  have hM:m+2=(l++encL n).length:=by
   exact H8
  obtain⟨RS,dS⟩:∃x,lR (l++encL n)=x:=⟨_,rfl⟩
  obtain⟨M,fU⟩:∃x,(l++encL n).length=x:=⟨_,rfl⟩
  rw[dS]at kU;rw[fU]at hM;rw[dS,fU];refine HT aN mixed (fun _=>0) Tryz.func172 rfl kR kR rfl fun P G E hc eR hE t0=>?_
  have elt:=xV hE;have ele:∀a b,E.lei a b=decide (a<=b):=fun a b=>by rw[hE];rfl
  have epre:∀(r:List (List PV)) k,k<=r.length->E.pre 0 k r:=fun r k h=>by rw[hE];show 0+k<=r.length;omega
  have eroom:∀k j,k<=2000000000->j<=4->E.room k j 1:=fun k j h h'=>by rw[hE];exact⟨by unfold maxLen;omega,by omega⟩
  have eadd:∀a b,E.addN a b=a+b:=fun a b=>by rw[hE];rfl
  have eapp:∀(r:List (List PV)) k x,k=r.length->E.app r k x=r++x:=fun r k x h=>by rw[hE];show r.take k++x=_;rw[h,l7]
  have esub:∀(x:List (List PV)) k,k=x.length->E.sub x 0 k=x:=fun x k h=>by rw[hE];show(x.drop 0).take k=x;rw[h,DM,l7]
  have ewr:∀n:Int,E.wrap .u32 n=IntKind.u32.wrap n:=fun n=>by rw[hE];rfl
  have eshr:∀(n b:Int)(k:Int),n.fdiv (2 ^ (min b.toNat IntKind.i32.bits))=k->E.shr .i32 n b=k:=fun n b k h=>by rw[hE];exact h
  have et:∀x:Int,E.bor .u8 128 (E.band .u8 (E.wrap .u8 x) 63)=128+x%64:=fun x=>by rw[hE];exact HW x
  have q6:E.ple 0 6:=JR
  have q12:E.ple 0 12:=JL
  have q18:E.ple 0 18:=JN
  have cu:=ewr n;rw[IG oM oM]at cu
  have d1:E.lei n 2047=true:=by rw[ele];exact aA a1
  have s6:=eshr n 6 _ n64;have b1:E.bor .u8 192 (E.wrap .u8 (n/64))=y1:=by rw[hE,<- vC];exact PW _ oM oM
  have b2:=et n;rw[uH]at b2;obtain⟨x6,pk⟩:∃x:Int,n/64=x:=⟨_,rfl⟩
  rw[pk]at s6 b1;clear pk;have p5:=epre rs m oM
  have p4:=eroom m 2 oM oM
  have a2:=eadd m 2;rw[hM]at a2;have r3:=eapp rs m [p8 y1,p8 y2] pO;rw[kU]at r3;have r0:=esub [p8 y1,p8 y2] 2 rfl;have p0:=epre [p8 y1,p8 y2] 2 (nR _);clear elt ele epre eroom eadd eapp esub ewr eshr et hE hc eR sL kU hM dS fU pO dQ hm hb n64 n4096 n262144 h0 h1 hs vC uH a1;cbv
  repeat (first|(simp only[cu];try cbv)|(simp only[d1];try cbv)|(refine⟨q6,?_⟩;cbv)|(simp only[s6];try cbv)|(simp only[b1];try cbv)|(simp only[b2];try cbv)|(refine⟨p0,p5,p4,?_⟩;cbv)|(simp only[r0,r3,a2];try cbv))
  all_goals trivial
 ·rcases dP (n<=65535)with a5|a5
  ·skip
   obtain⟨y1,vC⟩:∃x:Int,224+n/4096=x:=⟨_,rfl⟩
   obtain⟨y2,uH⟩:∃x:Int,128+n/64%64=x:=⟨_,rfl⟩
   obtain⟨y3,wo⟩:∃x:Int,128+n%64=x:=⟨_,rfl⟩
   have sL:=Wx (r:=n) oM
   rw[vC,uH,wo]at sL;have kU:rs++[p8 y1,p8 y2,p8 y3]=lR (l++encL n):=ZF
   have hM:m+3=(l++encL n).length:=by
    exact H8
   obtain⟨RS,dS⟩:∃x,lR (l++encL n)=x:=⟨_,rfl⟩
   obtain⟨M,fU⟩:∃x,(l++encL n).length=x:=⟨_,rfl⟩
   rw[dS]at kU;rw[fU]at hM;rw[dS,fU]
   rcases dP (n<55296)with a3|a3
   ·skip
    refine HT aN mixed (fun _=>0) Tryz.func172 rfl kR kR rfl fun P G E hc eR hE t0=>?_
    have elt:=xV hE;have ele:∀a b,E.lei a b=decide (a<=b):=fun a b=>by rw[hE];rfl
    have epre:∀(r:List (List PV)) k,k<=r.length->E.pre 0 k r:=fun r k h=>by rw[hE];show 0+k<=r.length;omega
    have eroom:∀k j,k<=2000000000->j<=4->E.room k j 1:=fun k j h h'=>by rw[hE];exact⟨by unfold maxLen;omega,by omega⟩
    have eadd:∀a b,E.addN a b=a+b:=fun a b=>by rw[hE];rfl
    have eapp:∀(r:List (List PV)) k x,k=r.length->E.app r k x=r++x:=fun r k x h=>by rw[hE];show r.take k++x=_;rw[h,l7]
    have esub:∀(x:List (List PV)) k,k=x.length->E.sub x 0 k=x:=fun x k h=>by rw[hE];show(x.drop 0).take k=x;rw[h,DM,l7]
    have ewr:∀n:Int,E.wrap .u32 n=IntKind.u32.wrap n:=fun n=>by rw[hE];rfl
    have eshr:∀(n b:Int)(k:Int),n.fdiv (2 ^ (min b.toNat IntKind.i32.bits))=k->E.shr .i32 n b=k:=fun n b k h=>by rw[hE];exact h
    have et:∀x:Int,E.bor .u8 128 (E.band .u8 (E.wrap .u8 x) 63)=128+x%64:=fun x=>by rw[hE];exact HW x
    have q6:E.ple 0 6:=JR
    have q12:E.ple 0 12:=JL
    have q18:E.ple 0 18:=JN
    have cu:=ewr n;rw[IG oM oM]at cu
    have d1:E.lei n 2047=false:=by rw[ele];exact dF a1
    have s6:=eshr n 6 _ n64;have s12:=eshr n 12 _ n4096;have b1:E.bor .u8 224 (E.wrap .u8 (n/4096))=y1:=by rw[hE,<- vC];exact Q8 _ oM oM
    have b2:=et (n/64);rw[uH]at b2;have b3:=et n;rw[wo]at b3;have d2:E.lti n 55296=decide (n<55296):=elt _ _;have d3:E.lti 57343 n=decide (57343<n):=elt _ _;have d4:E.lei n 65535=true:=by rw[ele];exact aA a5
    obtain⟨x6,pk⟩:∃x:Int,n/64=x:=⟨_,rfl⟩
    rw[pk]at s6 b2;obtain⟨x12,cb⟩:∃x:Int,n/4096=x:=⟨_,rfl⟩
    rw[cb]at s12 b1;clear pk cb;rw[aA a3]at d2;have p5:=epre rs m oM
    have p4:=eroom m 3 oM oM
    have a2:=eadd m 3;rw[hM]at a2;have r3:=eapp rs m [p8 y1,p8 y2,p8 y3] pO;rw[kU]at r3;have r0:=esub [p8 y1,p8 y2,p8 y3] 3 rfl;have p0:=epre [p8 y1,p8 y2,p8 y3] 3 (nR _);clear elt ele epre eroom eadd eapp esub ewr eshr et hE hc eR sL kU hM dS fU pO dQ hm hb n64 n4096 n262144 h0 h1 hs vC uH wo a1 a5 a3;cbv
    repeat (first|(simp only[cu];try cbv)|(simp only[d1];try cbv)|(simp only[d2];try cbv)|(refine⟨q12,q6,?_⟩;cbv)|(simp only[s12];try cbv)|(simp only[b1];try cbv)|(simp only[s6];try cbv)|(simp only[b2];try cbv)|(simp only[b3];try cbv)|(refine⟨p0,p5,p4,?_⟩;cbv)|(simp only[r0,r3,a2];try cbv))
    all_goals trivial
   ·skip
    refine HT aN mixed (fun _=>0) Tryz.func172 rfl kR kR rfl fun P G E hc eR hE t0=>?_
    have elt:=xV hE;have ele:∀a b,E.lei a b=decide (a<=b):=fun a b=>by rw[hE];rfl
    have epre:∀(r:List (List PV)) k,k<=r.length->E.pre 0 k r:=fun r k h=>by rw[hE];show 0+k<=r.length;omega
    have eroom:∀k j,k<=2000000000->j<=4->E.room k j 1:=fun k j h h'=>by rw[hE];exact⟨by unfold maxLen;omega,by omega⟩
    have eadd:∀a b,E.addN a b=a+b:=fun a b=>by rw[hE];rfl
    have eapp:∀(r:List (List PV)) k x,k=r.length->E.app r k x=r++x:=fun r k x h=>by rw[hE];show r.take k++x=_;rw[h,l7]
    have esub:∀(x:List (List PV)) k,k=x.length->E.sub x 0 k=x:=fun x k h=>by rw[hE];show(x.drop 0).take k=x;rw[h,DM,l7]
    have ewr:∀n:Int,E.wrap .u32 n=IntKind.u32.wrap n:=fun n=>by rw[hE];rfl
    have eshr:∀(n b:Int)(k:Int),n.fdiv (2 ^ (min b.toNat IntKind.i32.bits))=k->E.shr .i32 n b=k:=fun n b k h=>by rw[hE];exact h
    have et:∀x:Int,E.bor .u8 128 (E.band .u8 (E.wrap .u8 x) 63)=128+x%64:=fun x=>by rw[hE];exact HW x
    have q6:E.ple 0 6:=JR
    have q12:E.ple 0 12:=JL
    have q18:E.ple 0 18:=JN
    have cu:=ewr n;rw[IG oM oM]at cu
    have d1:E.lei n 2047=false:=by rw[ele];exact dF a1
    have s6:=eshr n 6 _ n64;have s12:=eshr n 12 _ n4096;have b1:E.bor .u8 224 (E.wrap .u8 (n/4096))=y1:=by rw[hE,<- vC];exact Q8 _ oM oM
    have b2:=et (n/64);rw[uH]at b2;have b3:=et n;rw[wo]at b3;have d2:E.lti n 55296=decide (n<55296):=elt _ _;have d3:E.lti 57343 n=decide (57343<n):=elt _ _;have d4:E.lei n 65535=true:=by rw[ele];exact aA a5
    obtain⟨x6,pk⟩:∃x:Int,n/64=x:=⟨_,rfl⟩
    rw[pk]at s6 b2;obtain⟨x12,cb⟩:∃x:Int,n/4096=x:=⟨_,rfl⟩
    rw[cb]at s12 b1;clear pk cb;rw[dF a3]at d2;rw[aA (show 57343<n by omega)]at d3
    have p5:=epre rs m oM
    have p4:=eroom m 3 oM oM
    have a2:=eadd m 3;rw[hM]at a2;have r3:=eapp rs m [p8 y1,p8 y2,p8 y3] pO;rw[kU]at r3;have r0:=esub [p8 y1,p8 y2,p8 y3] 3 rfl;have p0:=epre [p8 y1,p8 y2,p8 y3] 3 (nR _);clear elt ele epre eroom eadd eapp esub ewr eshr et hE hc eR sL kU hM dS fU pO dQ hm hb n64 n4096 n262144 h0 h1 hs vC uH wo a1 a5 a3;cbv
    repeat (first|(simp only[cu];try cbv)|(simp only[d1];try cbv)|(simp only[d2];try cbv)|(simp only[d3];try cbv)|(simp only[d4];try cbv)|(refine⟨q12,q6,?_⟩;cbv)|(simp only[s12];try cbv)|(simp only[b1];try cbv)|(simp only[s6];try cbv)|(simp only[b2];try cbv)|(simp only[b3];try cbv)|(refine⟨p0,p5,p4,?_⟩;cbv)|(simp only[r0,r3,a2];try cbv))
    all_goals trivial
  ·skip
   obtain⟨y1,vC⟩:∃x:Int,240+n/262144=x:=⟨_,rfl⟩
   obtain⟨y2,uH⟩:∃x:Int,128+n/4096%64=x:=⟨_,rfl⟩
   obtain⟨y3,wo⟩:∃x:Int,128+n/64%64=x:=⟨_,rfl⟩
   obtain⟨y4,Ia⟩:∃x:Int,128+n%64=x:=⟨_,rfl⟩
   have sL:=z4a (r:=n) oM h1
   rw[vC,uH,wo,Ia]at sL;have kU:rs++[p8 y1,p8 y2,p8 y3,p8 y4]=lR (l++encL n):=ZF
   have hM:m+4=(l++encL n).length:=by
    exact H8
   obtain⟨RS,dS⟩:∃x,lR (l++encL n)=x:=⟨_,rfl⟩
   obtain⟨M,fU⟩:∃x,(l++encL n).length=x:=⟨_,rfl⟩
   rw[dS]at kU;rw[fU]at hM;rw[dS,fU];refine HT aN mixed (fun _=>0) Tryz.func172 rfl kR kR rfl fun P G E hc eR hE t0=>?_
   have elt:=xV hE;have ele:∀a b,E.lei a b=decide (a<=b):=fun a b=>by rw[hE];rfl
   have epre:∀(r:List (List PV)) k,k<=r.length->E.pre 0 k r:=fun r k h=>by rw[hE];show 0+k<=r.length;omega
   have eroom:∀k j,k<=2000000000->j<=4->E.room k j 1:=fun k j h h'=>by rw[hE];exact⟨by unfold maxLen;omega,by omega⟩
   have eadd:∀a b,E.addN a b=a+b:=fun a b=>by rw[hE];rfl
   have eapp:∀(r:List (List PV)) k x,k=r.length->E.app r k x=r++x:=fun r k x h=>by rw[hE];show r.take k++x=_;rw[h,l7]
   have esub:∀(x:List (List PV)) k,k=x.length->E.sub x 0 k=x:=fun x k h=>by rw[hE];show(x.drop 0).take k=x;rw[h,DM,l7]
   have ewr:∀n:Int,E.wrap .u32 n=IntKind.u32.wrap n:=fun n=>by rw[hE];rfl
   have eshr:∀(n b:Int)(k:Int),n.fdiv (2 ^ (min b.toNat IntKind.i32.bits))=k->E.shr .i32 n b=k:=fun n b k h=>by rw[hE];exact h
   have et:∀x:Int,E.bor .u8 128 (E.band .u8 (E.wrap .u8 x) 63)=128+x%64:=fun x=>by rw[hE];exact HW x
   have q6:E.ple 0 6:=JR
   have q12:E.ple 0 12:=JL
   have q18:E.ple 0 18:=JN
   have cu:=ewr n;rw[IG oM oM]at cu
   have d1:E.lei n 2047=false:=by rw[ele];exact dF a1
   have s6:=eshr n 6 _ n64;have s12:=eshr n 12 _ n4096;have s18:=eshr n 18 _ n262144;have b1:E.bor .u8 240 (E.wrap .u8 (n/262144))=y1:=by rw[hE,<- vC];exact PU _ oM oM
   have b2:=et (n/4096);rw[uH]at b2;have b3:=et (n/64);rw[wo]at b3;have b4:=et n;rw[Ia]at b4;have d2:E.lti n 55296=false:=by rw[elt];exact dF oM
   have d3:E.lti 57343 n=true:=by rw[elt];exact aA oM
   have d4:E.lei n 65535=false:=by rw[ele];exact dF a5
   have d5:E.lti 65535 n=true:=by rw[elt];exact aA oM
   have d6:E.lei n 1114111=true:=by rw[ele];exact aA h1
   obtain⟨x6,pk⟩:∃x:Int,n/64=x:=⟨_,rfl⟩
   rw[pk]at s6 b3;obtain⟨x12,cb⟩:∃x:Int,n/4096=x:=⟨_,rfl⟩
   rw[cb]at s12 b2;obtain⟨x18,SG⟩:∃x:Int,n/262144=x:=⟨_,rfl⟩
   rw[SG]at s18 b1;clear pk cb SG;have p5:=epre rs m oM
   have p4:=eroom m 4 oM oM
   have a2:=eadd m 4;rw[hM]at a2;have r3:=eapp rs m [p8 y1,p8 y2,p8 y3,p8 y4] pO;rw[kU]at r3;have r0:=esub [p8 y1,p8 y2,p8 y3,p8 y4] 4 rfl;have p0:=epre [p8 y1,p8 y2,p8 y3,p8 y4] 4 (nR _);clear elt ele epre eroom eadd eapp esub ewr eshr et hE hc eR sL kU hM dS fU pO dQ hm hb n64 n4096 n262144 h0 h1 hs vC uH wo Ia a1 a5;cbv
   repeat (first|(simp only[cu];try cbv)|(simp only[d1];try cbv)|(simp only[d2];try cbv)|(simp only[d3];try cbv)|(simp only[d4];try cbv)|(simp only[d5];try cbv)|(simp only[d6];try cbv)|(refine⟨q18,q12,q6,?_⟩;cbv)|(simp only[s18];try cbv)|(simp only[b1];try cbv)|(simp only[s12];try cbv)|(simp only[b2];try cbv)|(simp only[s6];try cbv)|(simp only[b3];try cbv)|(simp only[b4];try cbv)|(refine⟨p0,p5,p4,?_⟩;cbv)|(simp only[r0,r3,a2];try cbv))
   all_goals trivial
theorem Zf(n:Int)(h0:0<=n)(h1:n<=1114111)(hs:¬(55296<=n/\n<=57343))(l:List UInt8)(hb:l.length<=1000000000):
  VM 161 [.osl 0 0 l.length,.p (.v (.int .i32 n))] [some (.rows 1 (lR l) 5)] (.osl 0 0 (l++encL n).length) [some (.rows 1 (lR (l++encL n)) 5)]:=by
 rcases dP (n<=127)with a1|a1
 ·obtain⟨rs,dQ⟩:∃x,lR l=x:=⟨_,rfl⟩
  obtain⟨m,hm⟩:∃x,l.length=x:=⟨_,rfl⟩
  have pO:m=rs.length:=by rw[<-hm,<- dQ,LH]
  rw[dQ,hm];have sL:=z8j h0 a1;have kU:rs++[p8 n]=lR (l++encL n):=ZF
  have hM:m+1=(l++encL n).length:=by
   have h5:=aG List.length sL;rw[LH]at h5
   grind
  obtain⟨RS,dS⟩:∃x,lR (l++encL n)=x:=⟨_,rfl⟩
  obtain⟨M,fU⟩:∃x,(l++encL n).length=x:=⟨_,rfl⟩
  rw[dS]at kU;rw[fU]at hM;rw[dS,fU];refine HT aN mixed (fun _=>0) Tryz.func161 rfl kR kR rfl fun P G E hc eR hE t0=>?_
  have elt:=xV hE;have ele:∀a b,E.lei a b=decide (a<=b):=fun a b=>by rw[hE];rfl
  have epre:∀(r:List (List PV)) k,k<=r.length->E.pre 0 k r:=fun r k h=>by rw[hE];show 0+k<=r.length;omega
  have eroom:∀k j,k<=2000000000->j<=4->E.room k j 1:=fun k j h h'=>by rw[hE];exact⟨by unfold maxLen;omega,by omega⟩
  have eadd:∀a b,E.addN a b=a+b:=fun a b=>by rw[hE];rfl
  have eapp:∀(r:List (List PV)) k x,k=r.length->E.app r k x=r++x:=fun r k x h=>by rw[hE];show r.take k++x=_;grind
  have esub:∀(x:List (List PV)) k,k=x.length->E.sub x 0 k=x:=fun x k h=>by rw[hE];show(x.drop 0).take k=x;grind
  have ewr:∀n:Int,E.wrap .u32 n=IntKind.u32.wrap n:=fun n=>by rw[hE];rfl
  have eshr:∀(n b:Int)(k:Int),n.fdiv (2 ^ (min b.toNat IntKind.i32.bits))=k->E.shr .i32 n b=k:=fun n b k h=>by rw[hE];exact h
  have et:∀x:Int,E.bor .u8 128 (E.band .u8 (E.wrap .u8 x) 63)=128+x%64:=fun x=>by rw[hE];exact HW x
  have q6:E.ple 0 6:=JR
  have q12:E.ple 0 12:=JL
  have q18:E.ple 0 18:=JN
  have cu:=ewr n;rw[IG oM oM]at cu
  have d1:E.lei n 127=true:=aZ
  have b1:E.wrap .u8 n=n:=by rw[hE];show IntKind.u8.wrap n=n;rw[sg];omega
  have p5:=epre rs m oM
  have p4:=eroom m 1 oM oM
  have a2:=eadd m 1;rw[hM]at a2;have r3:=eapp rs m [p8 n] pO;rw[kU]at r3;have r0:=esub [p8 n] 1 rfl;have p0:=epre [p8 n] 1 (nR _);clear elt ele epre eroom eadd eapp esub ewr eshr et hE hc eR sL kU hM dS fU pO dQ hm hb h0 h1 hs a1;cbv
  repeat (first|(simp only[cu];try cbv)|(simp only[d1];try cbv)|(simp only[b1];try cbv)|(refine⟨p0,p5,p4,?_⟩;cbv)|(simp only[r0,r3,a2];try cbv))
  all_goals trivial
 ·have hn:=Xh n oM h1 hs l hb
  obtain⟨rs,dQ⟩:∃x,lR l=x:=⟨_,rfl⟩
  obtain⟨m,hm⟩:∃x,l.length=x:=⟨_,rfl⟩
  obtain⟨RS,dS⟩:∃x,lR (l++encL n)=x:=⟨_,rfl⟩
  obtain⟨M,fU⟩:∃x,(l++encL n).length=x:=⟨_,rfl⟩
  rw[dQ,hm,dS,fU]at hn;rw[dQ,hm,dS,fU];refine HT aN mixed (fun _=>0) Tryz.func161 rfl kR kR rfl fun P G E hc eR hE t0=>?_
  have cu:E.wrap .u32 n=n:=by rw[hE];exact IG oM oM
  have d1:E.lei n 127=false:=by rw[hE];exact dF a1
  replace hn:=eR _ _ _ _ _ hn;clear hE hc eR dS fU dQ hm hb h0 h1 hs a1;cbv;refine mP ?_;refine .inr (.mk _ _ (Wk.refl _ _) [0] _ _ _ _ hn rfl rfl rfl ?_);cbv;all_goals trivial
theorem Df(A:AV)(hA:ik A)(l:List UInt8)(c:UInt8)(z:Int)(hz:((c.toNat:Nat):Int)=z)(hb:l.length<=1000000000):
  VM 135 [.own 0 0,.p (.v (.int .u8 z))] (bH A l) (.p (.v .nilIface)) (bH (.own 0 0) (l++[c])):=by
 have oJ:=Ml A hA l;unfold bH at oJ ⊢;obtain⟨rs,dQ⟩:∃x,lR l=x:=⟨_,rfl⟩
 obtain⟨m,hm⟩:∃x,l.length=x:=⟨_,rfl⟩
 have pO:m=rs.length:=by rw[<-hm,<- dQ,LH]
 rw[dQ,hm]at oJ;rw[dQ,hm];have oS:lR [c]=[p8 z]:=by rw[<-hz];rfl
 have kU:rs++[p8 z]=lR (l++[c]):=by rw[Ls,oS,dQ]
 have hM:m+1=(l++[c]).length:=aZ
 obtain⟨RS,dS⟩:∃x,lR (l++[c])=x:=⟨_,rfl⟩
 obtain⟨M,fU⟩:∃x,(l++[c]).length=x:=⟨_,rfl⟩
 rw[dS]at kU;rw[fU]at hM;rw[dS,fU];clear hz
 rcases hA with rfl|rfl
 all_goals
  refine gS aN (f:=135) Tryz.func135 rfl kR (oT kR) fun tags bS=>?_
  match tags,bS with
  |[t0,t1],_=>
   refine aY.of aN mixed (fun _=>0) kR (fun E=>eU E cK Tryz.f135.results.toList [t0,t1] (.p (.v .nilIface)) [some (.box [.own 0 0,.osl 1 0 M] 117 none),some (.rows 1 RS 5)]) fun P G E hc eR hE=>?_
   have elt:=xV hE;have ele:∀a b,E.lei a b=decide (a<=b):=fun a b=>by rw[hE];rfl
   have epre:∀(r:List (List PV)) k,k<=r.length->E.pre 0 k r:=fun r k h=>by rw[hE];show 0+k<=r.length;omega
   have eroom:∀k j,k<=2000000000->j<=4->E.room k j 1:=fun k j h h'=>by rw[hE];exact⟨by unfold maxLen;omega,by omega⟩
   have eadd:∀a b,E.addN a b=a+b:=fun a b=>by rw[hE];rfl
   have eapp:∀(r:List (List PV)) k x,k=r.length->E.app r k x=r++x:=fun r k x h=>by rw[hE];show r.take k++x=_;grind
   have esub:∀(x:List (List PV)) k,k=x.length->E.sub x 0 k=x:=fun x k h=>by rw[hE];show(x.drop 0).take k=x;grind
   have ewr:∀n:Int,E.wrap .u32 n=IntKind.u32.wrap n:=fun n=>by rw[hE];rfl
   have eshr:∀(n b:Int)(k:Int),n.fdiv (2 ^ (min b.toNat IntKind.i32.bits))=k->E.shr .i32 n b=k:=fun n b k h=>by rw[hE];exact h
   have et:∀x:Int,E.bor .u8 128 (E.band .u8 (E.wrap .u8 x) 63)=128+x%64:=fun x=>by rw[hE];exact HW x
   have q6:E.ple 0 6:=JR
   have q12:E.ple 0 12:=JL
   have q18:E.ple 0 18:=JN
   replace oJ:=eR _ _ _ _ _ oJ;have p5:=epre rs m oM
   have p4:=eroom m 1 oM oM
   have a2:=eadd m 1;rw[hM]at a2;have r3:=eapp rs m [p8 z] pO;rw[kU]at r3;have r0:=esub [p8 z] 1 rfl;have p0:=epre [p8 z] 1 (nR _);clear elt ele epre eroom eadd eapp esub ewr eshr et hE hc eR oS kU hM dS fU pO dQ hm hb q6 q12 q18;cbv;refine .mk _ _ (Wk.refl _ _) [0,1] _ _ _ _ oJ rfl rfl rfl ?_;cbv
   grind
theorem Mx(A:AV)(hA:ik A)(n:Int)(h0:0<=n)(h1:n<=1114111)(hs:¬(55296<=n/\n<=57343))(l:List UInt8)(hb:l.length<=1000000000):
  VM 146 [.own 0 0,.p (.v (.int .i32 n))] (bH A l) (.p (.tup [pI ((encL n).length:Nat),.v .nilIface])) (bH (.own 0 0) (l++encL n)):=by
 have oJ:=Ml A hA l;have u6:=Zf n h0 h1 hs l hb;have h4:=MI n;have As:(l++encL n).length=l.length+(encL n).length:=sE;unfold bH at oJ ⊢;obtain⟨rs,dQ⟩:∃x,lR l=x:=⟨_,rfl⟩
 obtain⟨m,hm⟩:∃x,l.length=x:=⟨_,rfl⟩
 obtain⟨RS,dS⟩:∃x,lR (l++encL n)=x:=⟨_,rfl⟩
 obtain⟨M,fU⟩:∃x,(l++encL n).length=x:=⟨_,rfl⟩
 obtain⟨k,tu⟩:∃x:Int,(((encL n).length:Nat):Int)=x:=⟨_,rfl⟩
 rw[dQ,hm]at oJ;rw[dQ,hm,dS,fU]at u6;rw[dQ,hm,dS,fU,tu];have hk:((M:Nat):Int)-((m:Nat):Int)=k:=dU
 have hMb:M<=1000000004:=dU
 rcases hA with rfl|rfl
 all_goals
  refine gS aN (f:=146) Tryz.func146 rfl kR (oT kR) fun tags bS=>?_
  match tags,bS with
  |[t0,t1],_=>
   refine aY.of aN mixed (fun _=>0) kR (fun E=>eU E cK Tryz.f146.results.toList [t0,t1] (.p (.tup [pI k,.v .nilIface])) [some (.box [.own 0 0,.osl 1 0 M] 117 none),some (.rows 1 RS 5)]) fun P G E hc eR hE=>?_
   replace oJ:=eR _ _ _ _ _ oJ;replace u6:=eR _ _ _ _ _ u6;have z1:E.wsub .i64 (E.ofN M) (E.ofN m)=k:=by
    rw[hE,<- hk];exact jX (n:=((M:Nat):Int)-((m:Nat):Int)) oM oM
   clear hE hc eR dS fU dQ hm hb hk hMb;cbv;refine .mk _ _ (Wk.refl _ _) [0,1] _ _ _ _ oJ rfl rfl rfl ?_;cbv;refine .inr (.mk _ _ (Wk.refl _ _) [1] _ _ _ _ u6 rfl rfl rfl ?_);cbv
   grind
theorem z2y(c:UInt8)(z L:Int)(hz:((c.toNat:Nat):Int)=z)(hL:((c.toNat |||32:Nat):Int)=L):V0 167 [.v (.int .u8 z)] (.v (.int .u8 L)):=by
 have hc:=c.toNat_lt;refine dE aN dO mixed (fun _=>0) Tryz.func167 rfl kR kR rfl fun P G E hc hE=>?_
 have b1:E.bor .u8 z 32=L:=by
  rw[hE,NM z 32 oM oM oM oM,<- hL,<- hz]
  rfl
 clear hE hc hL hz;cbv
 grind
theorem xc0(c:UInt8):((48<=c.toNat/\c.toNat<=57)->rU c=some (c.toNat-48))/\(¬(48<=c.toNat/\c.toNat<=57)->(97<=(c.toNat |||32)/\(c.toNat |||32)<=122)->rU c=if(c.toNat |||32)<=102 then some ((c.toNat |||32)-87)else none) ∧
  (¬(48<=c.toNat/\c.toNat<=57)->¬(97<=(c.toNat |||32)/\(c.toNat |||32)<=122)->rU c=none):=by
 have key:=aR.1 (show((List.range 256).all fun n=>decide (((48<=n/\n<=57)->rU (UInt8.ofNat n)=some (n-48))/\(¬(48<=n/\n<=57)->(97<=(n |||32)/\(n |||32)<=122)->rU (UInt8.ofNat n)=if(n |||32)<=102 then some ((n |||32)-87)else none) ∧
  (¬(48<=n/\n<=57)->¬(97<=(n |||32)/\(n |||32)<=122)->rU (UInt8.ofNat n)=none)))=true by decide +kernel) c.toNat (cC.2 c.toNat_lt)
 have k2:=oT key;simp_all
abbrev pW(n:Int):PV:=.v (.int .u64 n)
abbrev DT:PV:=.v (.iface 132 (.int .i64 2))
def OV(l:Bs):PV:=if l.all iN then .tup [pW (oZ l:Nat),.v .nilIface]else .tup [pW 0,DT]
structure Aa(s:ByteArray)(n:Int)(x:Int×Int):Prop where
 i0:0<=x.1
 i1:x.1<=n
 u:∃u:Bs,s.data.toList=u++bD s x.1/\(u.length:Int)=x.1/\(∀c∈u,iN c=true)/\x.2=(oZ u:Nat)
theorem De{n:Int}(h0:0<=n)(h1:n<18446744073709551616):IntKind.u64.wrap n=n:=by rw[Zm];omega
theorem Xx(s:ByteArray)(h0:s.size≠0)(h6:s.size<=6):V0 156 [pS s,pI 16,pI 32] (OV s.data.toList):=by
 obtain⟨n,hn⟩:∃n:Int,((s.size:Nat):Int)=n:=⟨_,rfl⟩
 have aU:∀i:Int,0<=i->i<n->∃c,s.data.toList[i.toNat]?=some c:=fun i iF iI=>⟨_,aB bw⟩
 obtain⟨RV,dY⟩:∃x,OV s.data.toList=x:=⟨_,rfl⟩
 rw[dY];obtain⟨μ,hμ⟩:∃μ:Int×Int->Nat,∀x,μ x=20-x.1.toNat:=⟨_,fun _=>rfl⟩
 obtain⟨rows,qQ⟩:∃x,nD s=x:=⟨_,rfl⟩
 have jK:Aa s n (0,0):=⟨bU _,by omega,[],by rfl,rfl,fun c hc=>(by cases hc),rfl⟩
 have jW:=fun(c:UInt8)(z L:Int)(hz:((c.toNat:Nat):Int)=z)(hL:((c.toNat |||32:Nat):Int)=L)=>z2y c z L hz hL
 have eS:rows.length=s.size:=by rw[<-qQ];unfold nD;simp_all
 have fy:∀(i:Int)(c:UInt8)(z:Int),s.data.toList[i.toNat]?=some c->((c.toNat:Nat):Int)=z->rows[i.toNat]?=some [.v (.int .u8 z)]:=fun i c z h hz=>by
  rw[<-qQ];unfold nD
  grind
 refine dE aN dO mixed (fun _=>0) Tryz.func156 rfl kR kR rfl fun P G E hc hE=>?_
 replace jW:=fun(c:UInt8)(z L:Int)(hz:((c.toNat:Nat):Int)=z)(hL:((c.toNat |||32:Nat):Int)=L)=>hc _ _ _ (jW c z L hz hL)
 have z1:E.brows s=rows:=by rw[hE];exact qQ
 have z2:E.ofN rows.length=n:=by rw[hE,<- hn,<- eS];rfl
 have z3:E.eq s ⟨#[]⟩=false:=by
  rw[hE];refine dF fun e=>h0 ?_
  rw[e];rfl
 have elt:=xV hE;have ege:∀a b,E.lei a b=decide (a<=b):=fun a b=>by rw[hE];rfl
 have eple:=uA hE;have erow:∀(i:Int)(c:UInt8)(z:Int),s.data.toList[i.toNat]?=some c->((c.toNat:Nat):Int)=z->rows[E.nat i]?=some [.v (.int .u8 z)]:=fun i c z h hz=>by
  rw[hE];exact fy i c z h hz
 have eadd:=su hE;have eadd64:∀a b:Int,0<=a->a<=1000000000->0<=b->b<=1000000000->E.wadd .u64 a b=a+b:=fun a b h0 h1 h2 h3=>by rw[hE];exact De oM oM
 have emul:∀a:Int,0<=a->a<=1000000000->E.wmul .u64 a 16=a*16:=fun a h0 h1=>by rw[hE];exact De oM oM
 have ew8:∀a:Int,0<=a->a<=255->E.wrap .u64 a=a:=fun a h0 h1=>by rw[hE];exact De oM oM
 have c1:E.wrap .u8 16=16:=by rw[hE];exact sg 16
 have c2:E.wrap .u64 16=16:=ew8 16 oM oM
 have c2':E.wrap .u64 32=32:=ew8 32 oM oM
 have c3:E.lei 2 16=true:=by rw[ege];rfl
 have c4:E.lei 16 36=true:=by rw[ege];rfl
 have c5:E.lti 32 0=false:=by rw[elt];rfl
 have c6:E.lti 64 32=false:=by rw[elt];rfl
 have c7:E.wsub .u64 (E.shl .u64 1 32) 1=4294967295:=fS
 have c8:E.ple 0 32:=eple _ _ oM
 have es8:∀a b:Int,0<=b->b<=a->a<=255->E.wsub .u8 a b=a-b:=fun a b h0 h1 h2=>by rw[hE];show IntKind.u8.wrap (a-b)=_;rw[sg];omega
 have ea8:∀a b:Int,0<=a->0<=b->a+b<=255->E.wadd .u8 a b=a+b:=fun a b h0 h1 h2=>by rw[hE];show IntKind.u8.wrap (a+b)=_;rw[sg];omega
 clear hE hc;cbv at z2;cbv;refine mP ?_;refine gU 172 [0,1,8,9,10,11,12,13,99,100,101] 0 (fun x:Int×Int=>[.p (pS s),.p (pI 16),.p (pB false),.p (pS s),.p (pW 1152921504606846976),.p (pW 4294967295),.p (pB false),.p (pW x.2),.p (.ro 1 rows),.p (pI n),.p (pI x.1)]) (fun _=>[]) (Aa s n) μ (0,0) r5 jK ?_
 clear jK c3 c4 c5 c6 c7 c8 c2' z1 z3
 rintro⟨j,acc⟩ ⟨j0,j1,u,fZ,gG,lA,cd⟩
 simp only at j0 j1 fZ gG cd;replace hn:((s.size:Nat):Int)=n:=hn;replace gG:((u.length:Nat):Int)=j:=gG;replace cd:acc=((oZ u:Nat):Int):=cd;have uV:u.length<=6:=dU
 have oB:oZ u<16777216:=Bi 6 u uV;have cY:∀c r,bD s j=c::r->rU c=none->RV=.tup [pW 0,DT]:=fun c r h hc=>by
  rw[<-dY];unfold OV;rw[aE];rw[p9];intro dX
  have:=dX c (by rw[fZ,h];simp)
  unfold iN at this
  grind
 rcases dP (j<n)with cJ|cJ
 ·have d1:E.lti j n=true:=aZ
  obtain⟨c,eE⟩:=aU j j0 cJ;obtain⟨z,hz⟩:∃z:Int,((c.toNat:Nat):Int)=z:=⟨_,rfl⟩
  have g1:=erow j c z eE hz;have p1:=eple 0 j j0;have dR:=uP j0 eE;obtain⟨j2,oA⟩:∃x:Int,j+1=x:=⟨_,rfl⟩
  have ej:=eadd j 1 oM oM oM oM
  rw[oA]at ej;have eD:=c.toNat_lt;obtain⟨t1,t2,t3⟩:=xc0 c;obtain⟨L,hL⟩:∃x:Int,((c.toNat |||32:Nat):Int)=x:=⟨_,rfl⟩
  have hl:=jW c z L hz hL;have e1:E.lei 48 z=decide (48<=z):=ege _ _;have e2:E.lei z 57=decide (z<=57):=ege _ _;have e3:E.lei 97 L=decide (97<=L):=ege _ _;have e4:E.lei L 122=decide (L<=122):=ege _ _;obtain⟨b95,h95⟩:∃b,decide (z=95)=b:=⟨_,rfl⟩
  rcases dP (48<=z/\z<=57)with hd|hd
  ·
   rw[aA hd.1]at e1;rw[aA hd.2]at e2;have hv:=t1 oM
   obtain⟨dn,uY⟩:∃x:Nat,c.toNat-48=x:=⟨_,rfl⟩
   rw[uY]at hv;have es:=es8 z 48 oM oM oM
   obtain⟨d,tX⟩:∃x:Int,z-48=x:=⟨_,rfl⟩
   rw[tX]at es;obtain⟨n1,pM⟩:∃x:Int,acc*16+d=x:=⟨_,rfl⟩
   have em:=emul acc oM oM
   obtain⟨m,hm⟩:∃x:Int,acc*16=x:=⟨_,rfl⟩
   rw[hm]at em pM;have ea:=eadd64 m d oM oM oM oM
   rw[pM]at ea;have wd:=ew8 d oM oM
   have d5:E.lei 16 d=false:=aZ
   have d6:E.lei 1152921504606846976 acc=false:=aZ
   have d7:E.lti n1 m=false:=aZ
   have d8:E.lti 4294967295 n1=false:=aZ
   have lU:Aa s n (j2,n1):=by
    refine⟨by omega,by omega,u++[c],?_,?_,?_,?_⟩
    ·grind
    ·grind
    ·intro x hx
     rcases kV.1 hx with hx|hx
     ·exact lA x hx
     ·rw[hY.1 hx];unfold iN;rw[hv];rfl
    ·rw[WY,hv]
     grind
   have fU:μ (j2,n1)<μ (j,acc):=by
    rw[hμ,hμ];omega
   cases b95
   all_goals
    clear elt ege eple erow eadd eadd64 emul ew8 es8 ea8 jW aU cY fy eS qQ dY fZ gG lA cd uV oB eE hz dR oA eD t1 t2 t3 hL hd hv uY tX pM hm hn h0 h6 hl e3 e4;cbv;refine mP ?_;refine .mk (j2,n1) r5 ?_ ?_
    ·exact lU
    ·exact fU
  ·have qk:¬(48<=c.toNat/\c.toNat<=57):=dU
   have zE:(E.lei 48 z=false)\/(E.lei 48 z=true/\E.lei z 57=false):=by
    grind
   rcases dP (97<=L/\L<=122)with ha|ha
   ·rw[aA ha.1]at e3;rw[aA ha.2]at e4;have hv:=t2 qk oM
    have es:=es8 L 97 oM oM oM
    obtain⟨d0,jm⟩:∃x:Int,L-97=x:=⟨_,rfl⟩
    rw[jm]at es;have ea:=ea8 d0 10 oM oM oM
    obtain⟨d,tX⟩:∃x:Int,d0+10=x:=⟨_,rfl⟩
    rw[tX]at ea
    rcases dP (L<=102)with hh|hh
    ·rw[aF oM]at hv
     obtain⟨dn,uY⟩:∃x:Nat,(c.toNat |||32)-87=x:=⟨_,rfl⟩
     rw[uY]at hv;have eaq:=ea;obtain⟨n1,pM⟩:∃x:Int,acc*16+d=x:=⟨_,rfl⟩
     have em:=emul acc oM oM
     obtain⟨m,hm⟩:∃x:Int,acc*16=x:=⟨_,rfl⟩
     rw[hm]at em pM;have ea:=eadd64 m d oM oM oM oM
     rw[pM]at ea;have wd:=ew8 d oM oM
     have d5:E.lei 16 d=false:=aZ
     have d6:E.lei 1152921504606846976 acc=false:=aZ
     have d7:E.lti n1 m=false:=aZ
     have d8:E.lti 4294967295 n1=false:=aZ
     have lU:Aa s n (j2,n1):=by
      refine⟨by omega,by omega,u++[c],?_,?_,?_,?_⟩
      ·grind
      ·grind
      ·intro x hx
       rcases kV.1 hx with hx|hx
       ·exact lA x hx
       ·rw[hY.1 hx];unfold iN
        grind
      ·rw[WY,hv]
       grind
     have fU:μ (j2,n1)<μ (j,acc):=by
      rw[hμ,hμ];omega
     rcases zE with e1'|⟨e1',e2'⟩
     all_goals
      cases b95
      all_goals
       clear elt ege eple erow eadd eadd64 emul ew8 es8 ea8 jW aU cY fy eS qQ dY fZ gG lA cd uV oB eE hz dR oA eD t1 t2 t3 hL hd hv uY tX pM hm hn h0 h6 e1 e2 qk ha jm hh;cbv;refine mP ?_;refine .mk (j2,n1) r5 ?_ ?_
       ·exact lU
       ·exact fU
    ·rw[aE oM]at hv
     have ah:=cY c _ dR hv;subst ah;have d5:E.lei 16 d=true:=aZ
     rcases zE with e1'|⟨e1',e2'⟩
     all_goals
      cases b95
      all_goals
       clear elt ege eple erow eadd eadd64 emul ew8 es8 ea8 jW aU cY fy eS qQ dY fZ gG lA cd uV oB eE hz dR oA eD t1 t2 t3 hL hd hv tX hn h0 h6 e1 e2 qk ha jm hh;exact rB
   ·have hv:=t3 qk oM
    have ah:=cY c _ dR hv;subst ah;have rG:(E.lei 97 L=false)\/(E.lei 97 L=true/\E.lei L 122=false):=by
     grind
    rcases zE with e1'|⟨e1',e2'⟩
    all_goals
     rcases rG with e3'|⟨e3',e4'⟩
     all_goals
      cases b95
      all_goals
       clear elt ege eple erow eadd eadd64 emul ew8 es8 ea8 jW aU cY fy eS qQ dY fZ gG lA cd uV oB eE hz dR oA eD t1 t2 t3 hL hd hv hn h0 h6 e1 e2 e3 e4 qk ha;exact rB
 ·have d1:E.lti j n=false:=aZ
  have hv:RV=.tup [pW acc,.v .nilIface]:=by
   rw[<-dY];unfold OV;rw[iu oM,cA]at fZ
   grind
  subst hv;clear elt ege eple erow eadd eadd64 emul ew8 es8 ea8 jW aU cY fy eS qQ dY fZ gG lA cd uV oB hn h0 h6;exact rB
def wg(w:World):Prop:=Lib.Utf8Tabs (Tryz.laysValid_ren.g 3) (Tryz.laysValid_ren.g 4) w
theorem VV{w w':World}(h:Gr w w'){a:Addr}{v:Value}(hc:w.cell? a=some v):w'.cell? a=some v:=by
 rw[Below.cell h (block_lt_of_cell hc)];exact hc
theorem wg.gr{w w':World}(h:wg w)(hg:Gr w w'):wg w':=
 ⟨fun c hc=>VV hg (h.1 c hc),fun i hi=>⟨VV hg (h.2 i hi).1,VV hg (h.2 i hi).2⟩⟩
theorem Ol{P:Program}{w w':World}{name:String}{cs:Array Value}(h:w.var? P name=some cs)(hb:Gr w w'):w'.var? P name=some cs:=by
 unfold World.var? at *
 cases hg:P.globalNamed name with
 |none=>simp[hg]at h
 |some g=>
  simp only[hg,Option.bind_some]at h ⊢;have cJ:g<w.heap.size:=by
   grind
  rw[hb.block g cJ];exact h
def E6(w:World)(name:String):Prop:=∃(tp:TypeId)(p:Value),w.var? Tryz.prog name=some #[.iface tp p]
structure GL(w:World):Prop where
 utf8:wg w
 syn : E6 w "strconv.ErrSyntax"
 rng : E6 w "strconv.ErrRange"
 ml:∃m:Int,w.cell? ⟨Tryz.lays143_ren.g 1,0,none⟩=some (.int .i64 m)
theorem kH:∀w w',Gr w w'->GL w->GL w':=fun _ _ hg h=>⟨h.utf8.gr hg,h.syn.imp fun _ h=>h.imp fun _ h=>Ol h hg,h.rng.imp fun _ h=>h.imp fun _ h=>Ol h hg,h.ml.imp fun _ h=>VV hg h⟩
abbrev RL(f:FuncId)(l:List PV)(r:PV):Prop:=fX Tryz.prog GL f l r
abbrev ML(f:FuncId)(l:List AV)(H:AH)(r:AV)(K:AH):Prop:=jP Tryz.prog GL f l H r K
theorem sD{f:FuncId}{l:List PV}{r:PV}(h:V0 f l r):RL f l r:=⟨h.1,fun w B args _=>h.2 w B args trivial⟩
theorem vQ{f:FuncId}{l:List AV}{H:AH}{r:AV}{K:AH}(h:VM f l H r K):ML f l H r K:=
 ⟨h.1,fun B w ι args tags bS hC=>h.2 B w ι args tags bS ⟨fun _ _=>trivial,hC.own⟩⟩
theorem IF(s:ByteArray)(c:UInt8)(z:Int)(hz:((c.toNat:Nat):Int)=z):V0 114 [pS s,.v (.int .u8 z)] (pI (Lib.indexByte s.data.toList c)):=
 BG Tryz.func114 kR kR [.string s,.int .u8 z] _ fun w _=>(Tryz.strings_IndexByte s z w).mono fun e w' ⟨h1,h2⟩=>⟨_,h1,by subst h2;exact Gr.refl _,fun _=>by
  have:z.toNat.toUInt8=c:=by
   rw[<-hz,Int.toNat_natCast,Nat.toUInt8_eq,sP]
  rw[this];exact .v _⟩
theorem D0(s p:ByteArray):V0 113 [pS s,pS p] (pB (Lib.hasPrefix s.data.toList p.data.toList)):=
 BG Tryz.func113 kR kR [.string s,.string p] _ fun w _=>(Tryz.strings_HasPrefix s p w).mono fun e w' ⟨h1,h2⟩=>⟨_,h1,by subst h2;exact Gr.refl _,fun _=>.v _⟩
theorem z3u(s t:ByteArray)(hs:s.size<4294967281):RL 115 [pS s,pS t] (pI (Lib.index s.data.toList t.data.toList)):=
 BG Tryz.func115 kR kR [.string s,.string t] _ fun w hG=>by
  obtain⟨m,hm⟩:=hG.ml;exact(Tryz.strings_Index s t m w hs hm).mono fun e w' ⟨h1,h2⟩=>⟨_,h1,by subst h2;exact Gr.refl _,fun _=>.v _⟩
theorem z0v(fn s:ByteArray)(base bits:Int)(hs:s.size<=1000000):RL 145 [pS fn,pS s,pI base,pI bits,DT] .err:=
 BG Tryz.func145 kR kR [.string fn,.string s,.int .i64 base,.int .i64 bits,.iface 132 (.int .i64 2)] _ fun w hG=>by
  obtain⟨tp,p,hv⟩:=hG.syn;have hc:w.cell? ⟨3,0,none⟩=some (.iface tp p):=by simpa using World.var?_cell (P:=Tryz.prog) (g:=3) kR hv 0
  exact(Tryz.strconv_toError_syntax fn s base bits (.iface tp p) w oM hc (.inr ⟨tp,p,rfl⟩)).mono fun e w' ⟨N,h1,_,_,h2⟩=>⟨_,h1,h2,fun _=>.err _ _⟩
def Oj(s:ByteArray):Bool:=Lib.validD s.data.toList
theorem z0o(s:ByteArray)(hs:s.size<=9223372036854775807):RL 107 [pS s] (pB (Oj s)):=
 BG Tryz.func107 kR kR [.string s] _ fun w hG=>(Any.utf8_ValidString Tryz.laysValid s w hs hG.utf8).mono fun e w' ⟨h1,h2⟩=>⟨_,h1,h2,fun _=>.v _⟩
def vt(l:Bs):PV:=if l.all iN then .tup [pW (oZ l:Nat),.v .nilIface]else .tup [pW 0,.err]
theorem Nc(s:ByteArray)(h0:s.size≠0)(h6:s.size<=6):RL 162 [pS s,pI 16,pI 32] (vt s.data.toList):=by
 have hp:=sD (Xx s h0 h6);have he:=z0v ⟨#[80,97,114,115,101,85,105,110,116]⟩ s 16 32 oM
 unfold OV at hp;unfold vt
 cases dX:s.data.toList.all iN with
 |true=>
  rw[dX,aF rfl]at hp;rw[aF rfl];generalize ((oZ s.data.toList:Nat):Int)=z at *;refine dE aN kH mixed (fun _=>0) Tryz.func162 rfl kR kR rfl fun P G E hc hE=>?_
  replace hp:=hc _ _ _ hp;clear he hE hc;exact rB
 |false=>
  rw[dX,aE aT]at hp
  rw[aE aT]
  refine dE aN kH mixed (fun _=>0) Tryz.func162 rfl kR kR rfl fun P G E hc hE=>?_
  replace hp:=hc _ _ _ hp;replace he:=hc _ _ _ he;clear hE hc;exact rB
def jy(l:Bs)(most:Int):Bool:=decide (1<=l.length)&&(decide ((l.length:Int)<=most)&&(l.all iN&&ni (oZ l)))
theorem Kd(A:AV)(hA:ik A)(s:ByteArray)(most:Int)(h6:most<=6)(l:List UInt8)(hb:l.length<=900000000)(cU:jy s.data.toList most=true):
  ML 147 [.own 0 0,.p (pS s),.p (pI most)] (bH A l) (.p (pB true)) (bH (.own 0 0) (l++uB (oZ s.data.toList))):=by
 have dM:s.data.toList.length=s.size:=rfl;unfold jy at cU;simp only[gH,bF]at cU;obtain⟨h1,h2,dX,qR⟩:=cU;rw[dM]at h1 h2;unfold ni at qR;simp only[gH,bF,eW,wZ,lL]at qR;have hp:=Nc s oM oM
 unfold vt at hp;rw[dX,aF rfl]at hp;obtain⟨v,hv⟩:∃x:Int,((oZ s.data.toList:Nat):Int)=x:=⟨_,rfl⟩
 have ao:v<=1114111:=dU
 have rQ:0<=v:=dU
 have Ik:v<55296\/57343<v:=dU
 have hu:uB (oZ s.data.toList)=encL v:=by rw[<-hv];rfl
 have hw:=vQ (Mx A hA v rQ ao oM l oM)
 rw[hv]at hp;rw[hu];generalize ((encL v).length:Int)=k at hw;obtain⟨n,hn⟩:∃n:Int,((s.size:Nat):Int)=n:=⟨_,rfl⟩
 unfold bH at hw ⊢;obtain⟨rs,dQ⟩:∃x,lR l=x:=⟨_,rfl⟩
 obtain⟨m,hm⟩:∃x,l.length=x:=⟨_,rfl⟩
 obtain⟨RS,dS⟩:∃x,lR (l++encL v)=x:=⟨_,rfl⟩
 obtain⟨M,fU⟩:∃x,(l++encL v).length=x:=⟨_,rfl⟩
 rw[dQ,hm,dS,fU]at hw;rw[dQ,hm,dS,fU];clear hu hv qR dX dM
 rcases hA with rfl|rfl
 all_goals
  refine gS aN (f:=147) Tryz.func147 rfl kR (oT kR) fun tags bS=>?_
  match tags,bS with
  |[t0,t1],_=>
   refine aY.of aN mixed (fun _=>0) kR (fun E=>eU E cK Tryz.f147.results.toList [t0,t1] (.p (pB true)) [some (.box [.own 0 0,.osl 1 0 M] 117 none),some (.rows 1 RS 5)]) fun P G E hc eR hE=>?_
   replace hw:=eR _ _ _ _ _ hw;replace hp:=hc _ _ _ hp;have z1:E.size s=n:=iS
   have d1:E.lti n 1=false:=sS
   have d2:E.lti most n=false:=sS
   have d3:E.lti 1114111 v=false:=sS
   have d4:E.lei 55296 v=decide (55296<=v):=fS
   have d5:E.lei v 57343=decide (v<=57343):=fS
   have w1:E.wrap .i32 v=v:=by rw[hE];exact Dd oM oM
   clear hE hc eR dS fU dQ hm hb hn h1 h2 ao
   rcases Ik with h|h
   ·rw[dF oM]at d4
    clear d5 h rQ;cbv;refine mP ?_;refine .mk _ _ (Wk.refl _ _) [0,1] _ _ _ _ hw rfl rfl rfl ?_;cbv;all_goals trivial
   ·rw[aA oM]at d4
    rw[dF oM]at d5
    clear h rQ;cbv;refine mP ?_;refine .mk _ _ (Wk.refl _ _) [0,1] _ _ _ _ hw rfl rfl rfl ?_;cbv;all_goals trivial
theorem Kc(A:AV)(hA:ik A)(s:ByteArray)(most:Int)(h6:most<=6)(l:List UInt8)(cU:jy s.data.toList most=false):
  ML 147 [.own 0 0,.p (pS s),.p (pI most)] (bH A l) (.p (pB false)) (bH A l):=by
 have dM:s.data.toList.length=s.size:=rfl;have iU:A.low 2=true:=by rcases hA with rfl|rfl<;>rfl
 cbv at iU;clear hA;obtain⟨n,hn⟩:∃n:Int,((s.size:Nat):Int)=n:=⟨_,rfl⟩
 unfold bH;obtain⟨rs,dQ⟩:∃x,lR l=x:=⟨_,rfl⟩
 obtain⟨m,hm⟩:∃x,l.length=x:=⟨_,rfl⟩
 rw[dQ,hm];clear dQ hm;unfold jy at cU;rw[dM]at cU
 rcases dP (n<1)with h1|h1
 ·skip
  refine gS aN (f:=147) Tryz.func147 rfl kR (oT kR) fun tags bS=>?_
  match tags,bS with
  |[t0,t1],_=>
   refine aY.of aN mixed (fun _=>0) kR (fun E=>eU E cK Tryz.f147.results.toList [t0,t1] (.p (pB false)) [some (.box [A,.osl 1 0 m] 117 none),some (.rows 1 rs 5)]) fun P G E hc eR hE=>?_
   have z1:E.size s=n:=iS
   have d1:E.lti n 1=decide (n<1):=fS
   have d2:E.lti most n=decide (most<n):=fS
   rw[aA h1]at d1;clear hE hc eR hn h1 cU dM;cbv;exact mP trivial
 rw[aA (show 1<=s.size by omega),bP]at cU
 rcases dP (most<n)with h2|h2
 ·skip
  refine gS aN (f:=147) Tryz.func147 rfl kR (oT kR) fun tags bS=>?_
  match tags,bS with
  |[t0,t1],_=>
   refine aY.of aN mixed (fun _=>0) kR (fun E=>eU E cK Tryz.f147.results.toList [t0,t1] (.p (pB false)) [some (.box [A,.osl 1 0 m] 117 none),some (.rows 1 rs 5)]) fun P G E hc eR hE=>?_
   have z1:E.size s=n:=iS
   have d1:E.lti n 1=decide (n<1):=fS
   have d2:E.lti most n=decide (most<n):=fS
   rw[dF h1]at d1;rw[aA h2]at d2;clear hE hc eR hn h1 cU dM h2;cbv;exact mP trivial
 rw[aA (show((s.size:Nat):Int)<=most by omega),bP]at cU
 have hp:=Nc s oM oM
 unfold vt at hp
 cases dX:s.data.toList.all iN with
 |false=>
  rw[dX,aE aT]at hp
  refine gS aN (f:=147) Tryz.func147 rfl kR (oT kR) fun tags bS=>?_
  match tags,bS with
  |[t0,t1],_=>
   refine aY.of aN mixed (fun _=>0) kR (fun E=>eU E cK Tryz.f147.results.toList [t0,t1] (.p (pB false)) [some (.box [A,.osl 1 0 m] 117 none),some (.rows 1 rs 5)]) fun P G E hc eR hE=>?_
   have z1:E.size s=n:=iS
   have d1:E.lti n 1=decide (n<1):=fS
   have d2:E.lti most n=decide (most<n):=fS
   replace hp:=hc _ _ _ hp;rw[dF h1]at d1;rw[dF h2]at d2;clear hE hc eR hn h1 cU dM h2 dX;cbv;exact mP trivial
 |true=>
  rw[dX,aF rfl]at hp;rw[dX,bP]at cU;unfold ni at cU;obtain⟨v,hv⟩:∃x:Int,((oZ s.data.toList:Nat):Int)=x:=⟨_,rfl⟩
  rw[hv]at hp
  rcases dP (v<=1114111)with h3|h3
  ·rw[aA (show oZ s.data.toList<=1114111 by omega),bP]at cU
   simp only[fa,gH,bF]at cU;have h4:55296<=v:=dU
   have h5:v<=57343:=dU
   refine gS aN (f:=147) Tryz.func147 rfl kR (oT kR) fun tags bS=>?_
   match tags,bS with
   |[t0,t1],_=>
    refine aY.of aN mixed (fun _=>0) kR (fun E=>eU E cK Tryz.f147.results.toList [t0,t1] (.p (pB false)) [some (.box [A,.osl 1 0 m] 117 none),some (.rows 1 rs 5)]) fun P G E hc eR hE=>?_
    have z1:E.size s=n:=iS
    have d1:E.lti n 1=decide (n<1):=fS
    have d2:E.lti most n=decide (most<n):=fS
    replace hp:=hc _ _ _ hp;have d3:E.lti 1114111 v=false:=sS
    have d4:E.lei 55296 v=true:=by rw[hE];exact aA h4
    have d5:E.lei v 57343=true:=by rw[hE];exact aA h5
    rw[dF h1]at d1;rw[dF h2]at d2;clear hE hc eR hn h1 cU dM h2 dX hv h3 h4 h5;cbv;exact mP trivial
  ·skip
   refine gS aN (f:=147) Tryz.func147 rfl kR (oT kR) fun tags bS=>?_
   match tags,bS with
   |[t0,t1],_=>
    refine aY.of aN mixed (fun _=>0) kR (fun E=>eU E cK Tryz.f147.results.toList [t0,t1] (.p (pB false)) [some (.box [A,.osl 1 0 m] 117 none),some (.rows 1 rs 5)]) fun P G E hc eR hE=>?_
    have z1:E.size s=n:=iS
    have d1:E.lti n 1=decide (n<1):=fS
    have d2:E.lti most n=decide (most<n):=fS
    replace hp:=hc _ _ _ hp;have d3:E.lti 1114111 v=true:=sF
    rw[dF h1]at d1;rw[dF h2]at d2;clear hE hc eR hn h1 cU dM h2 dX hv h3;cbv;exact mP trivial
theorem WN(c:UInt8):∀l:Bs,(Lib.indexByte l c=-1/\c ∉ l)\/∃u r,l=u++c::r/\c ∉ u/\Lib.indexByte l c=(u.length:Nat)
 |[]=>.inl ⟨rfl,by simp⟩
 |b::l=>by
  unfold Lib.indexByte
  by_cases h:b=c
  ·subst h;exact .inr ⟨[],l,rfl,by simp,by simp⟩
  ·have hb:(b==c)=false:=j6
   rw[hb]
   rcases WN c l with⟨h1,h2⟩|⟨u,r,h1,h2,h3⟩
   ·grind
   grind
theorem P0(c:UInt8):(∃d,zj c=some d/\0<=Lib.indexByte [110,116,114,98,92,34,39] c/\([10,9,13,8,92,34,39]:Bs)[(Lib.indexByte [110,116,114,98,92,34,39] c).toNat]?=some d)\/(zj c=none/\Lib.indexByte [110,116,114,98,92,34,39] c=-1):=by
 have key:=aR.1 (show((List.range 256).all fun n=>(match zj (UInt8.ofNat n)with
  |some d=>decide (0<=Lib.indexByte [110,116,114,98,92,34,39] (UInt8.ofNat n))&&decide (([10,9,13,8,92,34,39]:Bs)[(Lib.indexByte [110,116,114,98,92,34,39] (UInt8.ofNat n)).toNat]?=some d)
  |none=>decide (Lib.indexByte [110,116,114,98,92,34,39] (UInt8.ofNat n)=-1)))=true by decide +kernel) c.toNat (cC.2 c.toNat_lt)
 rw[sP]at key
 grind
theorem O5{u r:Bs}(h:(125:UInt8) ∉ u):wS uB (123::(u++125::r))=if jy u 6=true then some (uB (oZ u),r)else none:=by
 rw[wS,aF rfl]
 cases dX:u.all iN with
 |true=>
  have h4:=kn (p:=iN) u (125::r) (aR.1 dX) (fun x hx=>by cases hx;decide)
  rw[h4.1,h4.2];unfold jy
  grind
 |false=>
  have hd:jy u 6=false:=by unfold jy;rw[dX];simp
  rw[hd,aE aT]
  have hu:=mc (p:=iN) u;have eA:u.dropWhile iN≠[]:=fun e=>by
   grind
  obtain⟨x,y,fq⟩:∃x y,u.dropWhile iN=x::y:=by
   cases hd:u.dropWhile iN with
   |nil=>exact absurd hd eA
   |cons x y=>exact⟨x,y,rfl⟩
  have hx:x∈u:=by
   grind
  have n7:(u++125::r).dropWhile iN=x::(y++125::r):=by
   have h5:=kn (p:=iN) (u.takeWhile iN) (x::(y++125::r)) hu.1 (fun z hz=>by grind)
   grind
  grind
theorem xfs{l:Bs}(h:(125:UInt8) ∉ l):wS uB (123::l)=none:=by
 rw[wS,aF rfl];have hu:=mc (p:=iN) l
 grind
theorem OX{c:UInt8}(l:Bs)(h:c≠123):wS uB (c::l)=none:=by rw[wS,aE h]
theorem Ns(a b:UInt8)(r:Bs):l8 uB (a::b::r)=if jy [a,b] 2=true then some (uB (oZ [a,b]),r)else none:=by
 rw[l8];unfold jy;have Wa:=HL a;have W9:=HL b
 cases ha:rU a with
 |none=>
  have:iN a=false:=by unfold iN;rw[ha];rfl
  grind
 |some x=>
  cases hb:rU b with
  |none=>
   have:iN b=false:=by unfold iN;rw[hb];rfl
   grind
  |some y=>
   rw[ha]at Wa;rw[hb]at W9;simp only[jE]at Wa W9;have h1:iN a=true:=by unfold iN;rw[ha];rfl
   have h2:iN b=true:=by unfold iN;rw[hb];rfl
   have h3:oZ [a,b]=16*x+y:=by
    unfold oZ
    grind
   have h4:ni (oZ [a,b])=true:=by
    unfold ni;simp only[gH,bF,eW,wZ,lL];omega
   grind
theorem yw(s:ByteArray)(i j:Int):(s.extract i.toNat j.toNat).data.toList=(bD s i).take (j.toNat-i.toNat):=m9 s _ _
theorem z33(A:AV)(hA:ik A)(s:ByteArray)(hs:s.size<=1000000)(l:List UInt8)(hb:l.length<=900000000)(t r:Bs)(h:jR uB s.data.toList=some (t,r)):
  ML 134 [.own 0 0,.p (pS s)] (bH A l) (.p (pI ((s.size:Nat)-(r.length:Nat)))) (bH (.own 0 0) (l++t)):=by
 obtain⟨n,hn⟩:∃n:Int,((s.size:Nat):Int)=n:=⟨_,rfl⟩
 obtain⟨c,r0,dB⟩:∃c r0,s.data.toList=c::r0:=by
  cases hl:s.data.toList with
  |nil=>rw[hl]at h;cases h
  |cons c r0=>exact⟨c,r0,rfl⟩
 have dM:s.size=r0.length+1:=by
  have e:s.data.toList.length=s.size:=rfl
  grind
 obtain⟨z,hz⟩:∃z:Int,((c.toNat:Nat):Int)=z:=⟨_,rfl⟩
 have hi:=sD (IF ⟨#[110,116,114,98,92,34,39]⟩ c z hz);have sX:(⟨#[110,116,114,98,92,34,39]⟩:ByteArray).data.toList=[110,116,114,98,92,34,39]:=rfl;rw[sX]at hi;have kL:=P0 c;obtain⟨i1,iI⟩:∃i:Int,Lib.indexByte [110,116,114,98,92,34,39] c=i:=⟨_,rfl⟩
 rw[iI]at hi kL;rw[dB,jR]at h;rw[hn]
 rcases kL with⟨d,hd,iF,tX⟩|⟨hd,iF⟩
 ·
  rw[hd]at h;obtain⟨rfl,rfl⟩:=ri (bA h);obtain⟨y,hy⟩:∃y:Int,((d.toNat:Nat):Int)=y:=⟨_,rfl⟩
  have hw:=vQ (Df A hA l d y hy oM)
  rw[show n-(r0.length:Nat)=1 by omega]
  unfold bH at hw ⊢;obtain⟨rs,dQ⟩:∃x,lR l=x:=⟨_,rfl⟩
  obtain⟨m,hm⟩:∃x,l.length=x:=⟨_,rfl⟩
  obtain⟨RS,dS⟩:∃x,lR (l++[d])=x:=⟨_,rfl⟩
  obtain⟨M,fU⟩:∃x,(l++[d]).length=x:=⟨_,rfl⟩
  rw[dQ,hm,dS,fU]at hw;rw[dQ,hm,dS,fU]
  rcases hA with rfl|rfl
  all_goals
   refine gS aN (f:=134) Tryz.func134 rfl kR (oT kR) fun tags bS=>?_
   match tags,bS with
   |[t0,t1],_=>
    refine aY.of aN mixed (fun _=>0) kR (fun E=>eU E cK Tryz.f134.results.toList [t0,t1] (.p (pI 1)) [some (.box [(.own 0 0),.osl 1 0 M] 117 none),some (.rows 1 RS 5)]) fun P G E hc eR hE=>?_
    have z1:E.size s=n:=iS
    have z0:E.eq s ⟨#[]⟩=false:=by
     exact RN
    have eple:=uA hE;have p0:=eple 0 0 oM
    have g0:E.get s (E.nat 0)=some z:=by
     exact RT
    replace hi:=hc _ _ _ hi;have d0:E.lei 0 i1=decide (0<=i1):=fS
    replace hw:=eR _ _ _ _ _ hw;rw[aA iF]at d0;have p1:=eple 0 i1 iF;have g1:E.get ⟨#[10,9,13,8,92,34,39]⟩ (E.nat i1)=some y:=by
     rw[hE];show((([10,9,13,8,92,34,39]:Bs))[i1.toNat]?).map _=some y
     grind
    clear hE hc eR dS fU dQ hm hb hn dB dM hz hd tX hy eple sX iI iF h hs;cbv;refine mP ?_;refine .mk _ _ (Wk.refl _ _) [0,1] _ _ _ _ hw rfl rfl rfl ?_;cbv;all_goals trivial
 ·rw[hd]at h;simp only at h;have d0f:decide (0<=i1)=false:=by rw[iF];rfl
  split at h
  ·rename_i e48
   split at h
   ·cases h
   rename_i dv;obtain⟨rfl,rfl⟩:=ri (bA h);have hw:=vQ (Df A hA l 0 0 rfl oM)
   rw[show n-(r0.length:Nat)=1 by omega]
   have f48:decide (z=48)=true:=aA (by rw[<-hz,e48];rfl)
   unfold bH at hw ⊢;obtain⟨rs,dQ⟩:∃x,lR l=x:=⟨_,rfl⟩
   obtain⟨m,hm⟩:∃x,l.length=x:=⟨_,rfl⟩
   obtain⟨RS,dS⟩:∃x,lR (l++[0])=x:=⟨_,rfl⟩
   obtain⟨M,fU⟩:∃x,(l++[0]).length=x:=⟨_,rfl⟩
   rw[dQ,hm,dS,fU]at hw;rw[dQ,hm,dS,fU]
   cases pK:r0 with
   |nil=>
    rw[pK]at dM;have pM:n=1:=by rw[<-hn,dM];rfl
    rcases hA with rfl|rfl
    all_goals
     refine gS aN (f:=134) Tryz.func134 rfl kR (oT kR) fun tags bS=>?_
     match tags,bS with
     |[t0,t1],_=>
      refine aY.of aN mixed (fun _=>0) kR (fun E=>eU E cK Tryz.f134.results.toList [t0,t1] (.p (pI 1)) [some (.box [(.own 0 0),.osl 1 0 M] 117 none),some (.rows 1 RS 5)]) fun P G E hc eR hE=>?_
      have z1:E.size s=n:=iS
      have z0:E.eq s ⟨#[]⟩=false:=by
       exact RN
      have eple:=uA hE;have p0:=eple 0 0 oM
      have g0:E.get s (E.nat 0)=some z:=by
       exact RT
      replace hi:=hc _ _ _ hi;have d0:E.lei 0 i1=decide (0<=i1):=fS
      replace hw:=eR _ _ _ _ _ hw;rw[d0f]at d0;have d1:E.lti 1 n=false:=sS
      clear hE hc eR dS fU dQ hm hb hn dB dM hz hd eple sX iI iF h hs d0f e48 dv pK pM;cbv;refine mP ?_;refine .mk _ _ (Wk.refl _ _) [0,1] _ _ _ _ hw rfl rfl rfl ?_;cbv;all_goals trivial
   |cons q r1=>
    rw[pK]at dM dv;have xO:eH q=false:=by simpa using dv
    have oI:=sD (Cg q);rw[xO]at oI;obtain⟨y,hy⟩:∃y:Int,((q.toNat:Nat):Int)=y:=⟨_,rfl⟩
    change RL _ [.v (.int .u8 ((q.toNat:Nat):Int))] _ at oI;rw[hy]at oI
    rcases hA with rfl|rfl
    all_goals
     refine gS aN (f:=134) Tryz.func134 rfl kR (oT kR) fun tags bS=>?_
     match tags,bS with
     |[t0,t1],_=>
      refine aY.of aN mixed (fun _=>0) kR (fun E=>eU E cK Tryz.f134.results.toList [t0,t1] (.p (pI 1)) [some (.box [(.own 0 0),.osl 1 0 M] 117 none),some (.rows 1 RS 5)]) fun P G E hc eR hE=>?_
      have z1:E.size s=n:=iS
      have z0:E.eq s ⟨#[]⟩=false:=by
       exact RN
      have eple:=uA hE;have p0:=eple 0 0 oM
      have g0:E.get s (E.nat 0)=some z:=by
       exact RT
      replace hi:=hc _ _ _ hi;have d0:E.lei 0 i1=decide (0<=i1):=fS
      replace hw:=eR _ _ _ _ _ hw;replace oI:=hc _ _ _ oI;rw[d0f]at d0;have d1:E.lti 1 n=true:=JG
      have p1:=eple 0 1 oM
      have g1:E.get s (E.nat 1)=some y:=by
       rw[hE];show(s.data.toList[1]?).map _=some y
       grind
      clear hE hc eR dS fU dQ hm hb hn dB dM hz hd eple sX iI iF h hs d0f e48 dv pK xO hy;cbv;refine mP ?_;refine .mk _ _ (Wk.refl _ _) [0,1] _ _ _ _ hw rfl rfl rfl ?_;cbv;all_goals trivial
  ·rename_i e48;have f48:decide (z=48)=false:=gP hz 48 e48
   split at h
   ·rename_i e120;have f120:decide (z=120)=true:=aA (by rw[<-hz,e120];rfl)
    match r0,dB,dM,h with
    |[],dB,dM,h=>cases h
    |[_],dB,dM,h=>cases h
    |a::b::r1,dB,dM,h=>
     rw[Ns]at h
     split at h
     ·rename_i oI;obtain⟨rfl,rfl⟩:=ri (bA h);rw[show n-(r1.length:Nat)=3 by grind]
      obtain⟨T,hT⟩:∃x,s.extract 1 3=x:=⟨_,rfl⟩
      have jV:T.data.toList=[a,b]:=by
       rw[<-hT,m9,dB];rfl
      rw[<-jV]at oI ⊢;have hw:=Kd A hA T 2 oM l hb oI
      unfold bH at hw ⊢;obtain⟨X,hX⟩:∃x,uB (oZ T.data.toList)=x:=⟨_,rfl⟩
      rw[hX]at hw ⊢;obtain⟨rs,dQ⟩:∃x,lR l=x:=⟨_,rfl⟩
      obtain⟨m,hm⟩:∃x,l.length=x:=⟨_,rfl⟩
      obtain⟨RS,dS⟩:∃x,lR (l++X)=x:=⟨_,rfl⟩
      obtain⟨M,fU⟩:∃x,(l++X).length=x:=⟨_,rfl⟩
      rw[dQ,hm,dS,fU]at hw;rw[dQ,hm,dS,fU]
      rcases hA with rfl|rfl
      all_goals
       refine gS aN (f:=134) Tryz.func134 rfl kR (oT kR) fun tags bS=>?_
       match tags,bS with
       |[t0,t1],_=>
        refine aY.of aN mixed (fun _=>0) kR (fun E=>eU E cK Tryz.f134.results.toList [t0,t1] (.p (pI 3)) [some (.box [(.own 0 0),.osl 1 0 M] 117 none),some (.rows 1 RS 5)]) fun P G E hc eR hE=>?_
        have z1:E.size s=n:=iS
        have z0:E.eq s ⟨#[]⟩=false:=by
         exact RN
        have eple:=uA hE;have p0:=eple 0 0 oM
        have g0:E.get s (E.nat 0)=some z:=by
         exact RT
        replace hi:=hc _ _ _ hi;have d0:E.lei 0 i1=decide (0<=i1):=fS
        replace hw:=eR _ _ _ _ _ hw;rw[d0f]at d0;have d3:E.lei 3 n=true:=JG
        have p1:=eple 0 1 oM
        have p2:=eple 1 3 oM
        have p3:=eple 3 n aZ
        have x1:E.ext s (E.nat 1) (E.nat 3)=T:=by rw[hE];exact hT
        clear hE hc eR dS fU dQ hm hb hn dB dM hz hd eple sX iI iF h hs d0f e48 e120 hX hT jV oI;cbv;refine mP ?_;refine .mk _ _ (Wk.refl _ _) [0,1] _ _ _ _ hw rfl rfl rfl ?_;cbv;all_goals trivial
     ·cases h
   ·rename_i e120;have f120:decide (z=120)=false:=gP hz 120 e120
    split at h
    ·rename_i e117;have f117:decide (z=117)=true:=aA (by rw[<-hz,e117];rfl)
     cases r0 with
     |nil=>cases h
     |cons q r1=>
      by_cases hq:q=123
      ·subst hq;have hj:=sD (IF s 125 125 rfl);rw[dB]at hj
       rcases WN 125 r1 with⟨_,mM⟩|⟨u,r2,fZ,gG,lA⟩
       ·rw[xfs mM]at h
        cases h
       ·rw[fZ,O5 gG]at h
        split at h
        ·rename_i oI;obtain⟨rfl,rfl⟩:=ri (bA h);have oA:Lib.indexByte (c::123::r1) 125=(u.length:Nat)+2:=by
          rw[e117,Lib.indexByte,Lib.indexByte,lA]
          grind
         rw[oA]at hj;obtain⟨e1,qT⟩:∃x:Int,((u.length:Nat):Int)+2=x:=⟨_,rfl⟩
         rw[qT]at hj;have uV:1<=u.length:=by
          unfold jy at oI
          grind
         have rR:n=e1+1+(r2.length:Nat):=by
          grind
         obtain⟨e2,sY⟩:∃x:Int,e1+1=x:=⟨_,rfl⟩
         rw[show n-(r2.length:Nat)=e2 by omega]
         obtain⟨T,hT⟩:∃x,s.extract 2 e1.toNat=x:=⟨_,rfl⟩
         have jV:T.data.toList=u:=by
          rw[<-hT,m9,dB,fZ]
          grind
         rw[<-jV]at oI ⊢;have hw:=Kd A hA T 6 oM l hb oI
         unfold bH at hw ⊢;obtain⟨X,hX⟩:∃x,uB (oZ T.data.toList)=x:=⟨_,rfl⟩
         rw[hX]at hw ⊢;obtain⟨rs,dQ⟩:∃x,lR l=x:=⟨_,rfl⟩
         obtain⟨m,hm⟩:∃x,l.length=x:=⟨_,rfl⟩
         obtain⟨RS,dS⟩:∃x,lR (l++X)=x:=⟨_,rfl⟩
         obtain⟨M,fU⟩:∃x,(l++X).length=x:=⟨_,rfl⟩
         rw[dQ,hm,dS,fU]at hw;rw[dQ,hm,dS,fU]
         rcases hA with rfl|rfl
         all_goals
          refine gS aN (f:=134) Tryz.func134 rfl kR (oT kR) fun tags bS=>?_
          match tags,bS with
          |[t0,t1],_=>
           refine aY.of aN mixed (fun _=>0) kR (fun E=>eU E cK Tryz.f134.results.toList [t0,t1] (.p (pI e2)) [some (.box [(.own 0 0),.osl 1 0 M] 117 none),some (.rows 1 RS 5)]) fun P G E hc eR hE=>?_
           have z1:E.size s=n:=iS
           have z0:E.eq s ⟨#[]⟩=false:=by
            exact RN
           have eple:=uA hE;have p0:=eple 0 0 oM
           have g0:E.get s (E.nat 0)=some z:=by
            exact RT
           replace hi:=hc _ _ _ hi;have d0:E.lei 0 i1=decide (0<=i1):=fS
           replace hw:=eR _ _ _ _ _ hw;replace hj:=hc _ _ _ hj;rw[d0f]at d0;have d3:E.lti 2 e1=true:=sF
           have p1:=eple 0 1 oM
           have p2:=eple 0 2 oM
           have p3:=eple 2 e1 oM
           have p4:=eple e1 n oM
           have g1:E.get s (E.nat 1)=some 123:=by
            rw[hE];show(s.data.toList[1]?).map _=some 123
            grind
           have x1:E.ext s (E.nat 2) (E.nat e1)=T:=by rw[hE];exact hT
           have a1:E.wadd .i64 e1 1=e2:=by rw[hE,<- sY];exact jX oM oM
           clear hE hc eR dS fU dQ hm hb hn dB dM hz hd eple sX iI iF h hs d0f e48 e120 hX hT jV oI e117 fZ gG lA oA qT uV rR sY;cbv;refine mP ?_;refine .mk _ _ (Wk.refl _ _) [0,1] _ _ _ _ hw rfl rfl rfl ?_;cbv
           grind
        ·cases h
      ·rw[OX _ hq]at h
       cases h
    ·cases h
theorem z34(A:AV)(hA:ik A)(s:ByteArray)(hs:s.size<=1000000)(l:List UInt8)(h:jR uB s.data.toList=none):
  ML 134 [.own 0 0,.p (pS s)] (bH A l) (.p (pI 0)) (bH A l):=by
 obtain⟨n,hn⟩:∃n:Int,((s.size:Nat):Int)=n:=⟨_,rfl⟩
 cases dB:s.data.toList with
 |nil=>
  have V3:s=⟨#[]⟩:=yN dB;unfold bH;obtain⟨rs,dQ⟩:∃x,lR l=x:=⟨_,rfl⟩
  obtain⟨m,hm⟩:∃x,l.length=x:=⟨_,rfl⟩
  rw[dQ,hm]
  rcases hA with hA|hA
  all_goals
   refine gS aN (f:=134) Tryz.func134 rfl kR (oT kR) fun tags bS=>?_
   match tags,bS with
   |[t0,t1],_=>
    refine aY.of aN mixed (fun _=>0) kR (fun E=>eU E cK Tryz.f134.results.toList [t0,t1] (.p (pI 0)) [some (.box [A,.osl 1 0 m] 117 none),some (.rows 1 rs 5)]) fun P G E hc eR hE=>?_
    subst hA;have z0:E.eq s ⟨#[]⟩=true:=by rw[hE];exact aA V3
    clear hE hc eR dQ hm hn dB h hs V3;cbv
    repeat (first|(simp only[z0];try cbv))
    all_goals trivial
 |cons c r0=>
 have dM:s.size=r0.length+1:=by
  have e:s.data.toList.length=s.size:=rfl;rw[dB]at e;exact e.symm
 obtain⟨z,hz⟩:∃z:Int,((c.toNat:Nat):Int)=z:=⟨_,rfl⟩
 have hi:=sD (IF ⟨#[110,116,114,98,92,34,39]⟩ c z hz);have sX:(⟨#[110,116,114,98,92,34,39]⟩:ByteArray).data.toList=[110,116,114,98,92,34,39]:=rfl;rw[sX]at hi;have kL:=P0 c;obtain⟨i1,iI⟩:∃i:Int,Lib.indexByte [110,116,114,98,92,34,39] c=i:=⟨_,rfl⟩
 rw[iI]at hi kL;rw[dB,jR]at h;unfold bH;obtain⟨rs,dQ⟩:∃x,lR l=x:=⟨_,rfl⟩
 obtain⟨m,hm⟩:∃x,l.length=x:=⟨_,rfl⟩
 rcases kL with⟨d,hd,iF,tX⟩|⟨hd,iF⟩
 ·rw[hd]at h
  cases h
 ·rw[hd]at h;simp only at h;have d0f:decide (0<=i1)=false:=by rw[iF];rfl
  split at h
  ·rename_i e48
   split at h
   ·rename_i dv;have f48:decide (z=48)=true:=aA (by rw[<-hz,e48];rfl)
    cases pK:r0 with
    |nil=>rw[pK]at dv;cases dv
    |cons q r1=>
     rw[pK]at dM dv;have xO:eH q=true:=by simpa using dv
     have oI:=sD (Cg q);rw[xO]at oI;obtain⟨y,hy⟩:∃y:Int,((q.toNat:Nat):Int)=y:=⟨_,rfl⟩
     change RL _ [.v (.int .u8 ((q.toNat:Nat):Int))] _ at oI;rw[hy]at oI;rw[dQ,hm]
     rcases hA with hA|hA
     all_goals
      refine gS aN (f:=134) Tryz.func134 rfl kR (oT kR) fun tags bS=>?_
      match tags,bS with
      |[t0,t1],_=>
       refine aY.of aN mixed (fun _=>0) kR (fun E=>eU E cK Tryz.f134.results.toList [t0,t1] (.p (pI 0)) [some (.box [A,.osl 1 0 m] 117 none),some (.rows 1 rs 5)]) fun P G E hc eR hE=>?_
       subst hA;have z1:E.size s=n:=iS
       have z0:E.eq s ⟨#[]⟩=false:=by
        exact EL
       have eple:=uA hE;have p0:=eple 0 0 oM
       have g0:E.get s (E.nat 0)=some z:=by
        exact EM
       replace hi:=hc _ _ _ hi;have d0:E.lei 0 i1=decide (0<=i1):=fS
       replace oI:=hc _ _ _ oI;rw[d0f]at d0;have d1:E.lti 1 n=true:=by rw[hE];exact aA (by rw[qD]at dM;omega)
       have p1:=eple 0 1 oM
       have g1:E.get s (E.nat 1)=some y:=by
        exact H7
       clear hE hc eR dQ hm hn dB dM hz hd eple sX iI iF h hs d0f e48 dv pK xO hy;cbv
       repeat (first|(simp only[z0];try cbv)|(refine⟨p0,_,g0,?_⟩;cbv)|(refine⟨_,hi,?_⟩;cbv)|(simp only[d0];try cbv)|(simp only[f48];try cbv)|(simp only[z1];try cbv)|(simp only[d1];try cbv)|(refine⟨p1,_,g1,?_⟩;cbv)|(refine⟨_,oI,?_⟩;cbv))
       all_goals trivial
   ·cases h
  ·rename_i e48;have f48:decide (z=48)=false:=gP hz 48 e48
   split at h
   ·rename_i e120;have f120:decide (z=120)=true:=aA (by rw[<-hz,e120];rfl)
    rcases dP (3<=n)with h3|h3
    ·match r0,dB,dM,h with
     |[],dB,dM,h=>simp only[bW]at dM;omega
     |[_],dB,dM,h=>simp only[qD,bW]at dM;omega
     |a::b::r1,dB,dM,h=>
      rw[Ns]at h
      split at h
      ·cases h
      ·rename_i oI;obtain⟨T,hT⟩:∃x,s.extract 1 3=x:=⟨_,rfl⟩
       have jV:T.data.toList=[a,b]:=by
        rw[<-hT,m9,dB];rfl
       have ql:jy T.data.toList 2=false:=by rw[jV];simpa using oI
       have hw:=Kc A hA T 2 oM l ql
       unfold bH at hw;rw[dQ,hm]at hw;rw[dQ,hm]
       rcases hA with hA|hA
       all_goals
        refine gS aN (f:=134) Tryz.func134 rfl kR (oT kR) fun tags bS=>?_
        match tags,bS with
        |[t0,t1],_=>
         refine aY.of aN mixed (fun _=>0) kR (fun E=>eU E cK Tryz.f134.results.toList [t0,t1] (.p (pI 0)) [some (.box [A,.osl 1 0 m] 117 none),some (.rows 1 rs 5)]) fun P G E hc eR hE=>?_
         subst hA;have z1:E.size s=n:=iS
         have z0:E.eq s ⟨#[]⟩=false:=by
          exact EL
         have eple:=uA hE;have p0:=eple 0 0 oM
         have g0:E.get s (E.nat 0)=some z:=by
          exact EM
         replace hi:=hc _ _ _ hi;have d0:E.lei 0 i1=decide (0<=i1):=fS
         replace hw:=eR _ _ _ _ _ hw;rw[d0f]at d0;have d3:E.lei 3 n=true:=by rw[hE];exact aA h3
         have p1:=eple 0 1 oM
         have p2:=eple 1 3 oM
         have p3:=eple 3 n h3;have x1:E.ext s (E.nat 1) (E.nat 3)=T:=by rw[hE];exact hT
         clear hE hc eR dQ hm hn dB dM hz hd eple sX iI iF h hs d0f e48 e120 hT jV oI ql h3;cbv
         repeat (first|(simp only[z0];try cbv)|(refine⟨p0,_,g0,?_⟩;cbv)|(refine⟨_,hi,?_⟩;cbv)|(simp only[d0];try cbv)|(simp only[f48];try cbv)|(simp only[f120];try cbv)|(simp only[z1];try cbv)|(simp only[d3];try cbv)|(refine⟨p1,p2,p3,?_⟩;cbv)|(simp only[x1];try cbv))
         refine .mk _ _ (Wk.refl _ _) [0,1] _ _ _ _ hw rfl rfl rfl ?_;cbv;all_goals trivial
    ·rw[dQ,hm]
     rcases hA with hA|hA
     all_goals
      refine gS aN (f:=134) Tryz.func134 rfl kR (oT kR) fun tags bS=>?_
      match tags,bS with
      |[t0,t1],_=>
       refine aY.of aN mixed (fun _=>0) kR (fun E=>eU E cK Tryz.f134.results.toList [t0,t1] (.p (pI 0)) [some (.box [A,.osl 1 0 m] 117 none),some (.rows 1 rs 5)]) fun P G E hc eR hE=>?_
       subst hA;have z1:E.size s=n:=iS
       have z0:E.eq s ⟨#[]⟩=false:=by
        exact EL
       have eple:=uA hE;have p0:=eple 0 0 oM
       have g0:E.get s (E.nat 0)=some z:=by
        exact EM
       replace hi:=hc _ _ _ hi;have d0:E.lei 0 i1=decide (0<=i1):=fS
       rw[d0f]at d0;have d3:E.lei 3 n=false:=by rw[hE];exact dF h3
       clear hE hc eR dQ hm hn dB dM hz hd eple sX iI iF h hs d0f e48 e120 h3;cbv
       repeat (first|(simp only[z0];try cbv)|(refine⟨p0,_,g0,?_⟩;cbv)|(refine⟨_,hi,?_⟩;cbv)|(simp only[d0];try cbv)|(simp only[f48];try cbv)|(simp only[f120];try cbv)|(simp only[z1];try cbv)|(simp only[d3];try cbv))
       all_goals trivial
   ·rename_i e120;have f120:decide (z=120)=false:=gP hz 120 e120
    split at h
    ·rename_i e117;have f117:decide (z=117)=true:=aA (by rw[<-hz,e117];rfl)
     have hj:=sD (IF s 125 125 rfl);obtain⟨e1,qT⟩:∃x:Int,Lib.indexByte s.data.toList 125=x:=⟨_,rfl⟩
     rw[qT]at hj
     rcases dP (2<e1)with h2|h2
     ·obtain⟨q,u,r2,pK,gG,jk⟩:∃q u r2,r0=q::(u++125::r2)/\(125:UInt8) ∉ u/\e1=(u.length:Nat)+2:=by
       rcases WN 125 s.data.toList with⟨h5,_⟩|⟨v,r2,h5,h6,h7⟩
       ·omega
       ·rw[dB]at h5
        match v,h5,h6,h7 with
        |[],h5,h6,h7=>simp only[bW]at h7;omega
        |[_],h5,h6,h7=>simp only[qD,bW]at h7;omega
        |x::y::v,h5,h6,h7=>
         have h8:r0=(y::v)++125::r2:=(tD h5).2;exact⟨y,v,r2,h8,fun h9=>h6 (bC _ (bC _ h9)),by simp only[qD]at h7;omega⟩
      obtain⟨y,hy⟩:∃y:Int,((q.toNat:Nat):Int)=y:=⟨_,rfl⟩
      by_cases hq:q=123
      ·have f123:decide (y=123)=true:=aA (by rw[<-hy,hq];rfl)
       rw[pK,hq,O5 gG]at h
       split at h
       ·cases h
       ·rename_i oI;have rR:n=e1+1+(r2.length:Nat):=by
         rw[<-hn,dM,pK];simp only[qD,sE];omega
        obtain⟨T,hT⟩:∃x,s.extract 2 e1.toNat=x:=⟨_,rfl⟩
        have jV:T.data.toList=u:=by
         rw[<-hT,m9,dB,pK];show(u++125::r2).take (e1.toNat-2)=u;rw[show e1.toNat-2=u.length by omega,qV]
        have ql:jy T.data.toList 6=false:=by rw[jV];simpa using oI
        have hw:=Kc A hA T 6 oM l ql
        unfold bH at hw;rw[dQ,hm]at hw;rw[dQ,hm]
        rcases hA with hA|hA
        all_goals
         refine gS aN (f:=134) Tryz.func134 rfl kR (oT kR) fun tags bS=>?_
         match tags,bS with
         |[t0,t1],_=>
          refine aY.of aN mixed (fun _=>0) kR (fun E=>eU E cK Tryz.f134.results.toList [t0,t1] (.p (pI 0)) [some (.box [A,.osl 1 0 m] 117 none),some (.rows 1 rs 5)]) fun P G E hc eR hE=>?_
          subst hA;have z1:E.size s=n:=iS
          have z0:E.eq s ⟨#[]⟩=false:=by
           exact EL
          have eple:=uA hE;have p0:=eple 0 0 oM
          have g0:E.get s (E.nat 0)=some z:=by
           exact EM
          replace hi:=hc _ _ _ hi;have d0:E.lei 0 i1=decide (0<=i1):=fS
          replace hw:=eR _ _ _ _ _ hw;replace hj:=hc _ _ _ hj;rw[d0f]at d0;have d3:E.lti 2 e1=true:=by rw[hE];exact aA h2
          have p1:=eple 0 1 oM
          have p2:=eple 0 2 oM
          have p3:=eple 2 e1 oM
          have p4:=eple e1 n oM
          have g1:E.get s (E.nat 1)=some y:=by
           exact H7
          have x1:E.ext s (E.nat 2) (E.nat e1)=T:=by rw[hE];exact hT
          clear hE hc eR dQ hm hn dB dM hz hd eple sX iI iF h hs d0f e48 e120 hT jV oI ql e117 pK gG jk qT rR hy hq h2;cbv
          repeat (first|(simp only[z0];try cbv)|(refine⟨p0,_,g0,?_⟩;cbv)|(refine⟨_,hi,?_⟩;cbv)|(simp only[d0];try cbv)|(simp only[f48];try cbv)|(simp only[f120];try cbv)|(simp only[f117];try cbv)|(refine⟨_,hj,?_⟩;cbv)|(simp only[d3];try cbv)|(refine⟨p1,_,g1,?_⟩;cbv)|(simp only[f123];try cbv)|(simp only[z1];try cbv)|(refine⟨p2,p3,p4,?_⟩;cbv)|(simp only[x1];try cbv))
          refine .mk _ _ (Wk.refl _ _) [0,1] _ _ _ _ hw rfl rfl rfl ?_;cbv;all_goals trivial
      ·have f123:decide (y=123)=false:=gP hy 123 hq;rw[dQ,hm]
       rcases hA with hA|hA
       all_goals
        refine gS aN (f:=134) Tryz.func134 rfl kR (oT kR) fun tags bS=>?_
        match tags,bS with
        |[t0,t1],_=>
         refine aY.of aN mixed (fun _=>0) kR (fun E=>eU E cK Tryz.f134.results.toList [t0,t1] (.p (pI 0)) [some (.box [A,.osl 1 0 m] 117 none),some (.rows 1 rs 5)]) fun P G E hc eR hE=>?_
         subst hA;have z1:E.size s=n:=iS
         have z0:E.eq s ⟨#[]⟩=false:=by
          exact EL
         have eple:=uA hE;have p0:=eple 0 0 oM
         have g0:E.get s (E.nat 0)=some z:=by
          exact EM
         replace hi:=hc _ _ _ hi;have d0:E.lei 0 i1=decide (0<=i1):=fS
         replace hj:=hc _ _ _ hj;rw[d0f]at d0;have d3:E.lti 2 e1=true:=by rw[hE];exact aA h2
         have p1:=eple 0 1 oM
         have g1:E.get s (E.nat 1)=some y:=by
          exact H7
         clear hE hc eR dQ hm hn dB dM hz hd eple sX iI iF h hs d0f e48 e120 e117 pK gG jk qT hy hq h2;cbv
         repeat (first|(simp only[z0];try cbv)|(refine⟨p0,_,g0,?_⟩;cbv)|(refine⟨_,hi,?_⟩;cbv)|(simp only[d0];try cbv)|(simp only[f48];try cbv)|(simp only[f120];try cbv)|(simp only[f117];try cbv)|(refine⟨_,hj,?_⟩;cbv)|(simp only[d3];try cbv)|(refine⟨p1,_,g1,?_⟩;cbv)|(simp only[f123];try cbv))
         all_goals trivial
     ·rw[dQ,hm]
      rcases hA with hA|hA
      all_goals
       refine gS aN (f:=134) Tryz.func134 rfl kR (oT kR) fun tags bS=>?_
       match tags,bS with
       |[t0,t1],_=>
        refine aY.of aN mixed (fun _=>0) kR (fun E=>eU E cK Tryz.f134.results.toList [t0,t1] (.p (pI 0)) [some (.box [A,.osl 1 0 m] 117 none),some (.rows 1 rs 5)]) fun P G E hc eR hE=>?_
        subst hA;have z1:E.size s=n:=iS
        have z0:E.eq s ⟨#[]⟩=false:=by
         exact EL
        have eple:=uA hE;have p0:=eple 0 0 oM
        have g0:E.get s (E.nat 0)=some z:=by
         exact EM
        replace hi:=hc _ _ _ hi;have d0:E.lei 0 i1=decide (0<=i1):=fS
        replace hj:=hc _ _ _ hj;rw[d0f]at d0;have d3:E.lti 2 e1=false:=by rw[hE];exact dF h2
        clear hE hc eR dQ hm hn dB dM hz hd eple sX iI iF h hs d0f e48 e120 e117 qT h2;cbv
        repeat (first|(simp only[z0];try cbv)|(refine⟨p0,_,g0,?_⟩;cbv)|(refine⟨_,hi,?_⟩;cbv)|(simp only[d0];try cbv)|(simp only[f48];try cbv)|(simp only[f120];try cbv)|(simp only[f117];try cbv)|(refine⟨_,hj,?_⟩;cbv)|(simp only[d3];try cbv))
        all_goals trivial
    ·rename_i e117;have f117:decide (z=117)=false:=gP hz 117 e117;rw[dQ,hm]
     rcases hA with hA|hA
     all_goals
      refine gS aN (f:=134) Tryz.func134 rfl kR (oT kR) fun tags bS=>?_
      match tags,bS with
      |[t0,t1],_=>
       refine aY.of aN mixed (fun _=>0) kR (fun E=>eU E cK Tryz.f134.results.toList [t0,t1] (.p (pI 0)) [some (.box [A,.osl 1 0 m] 117 none),some (.rows 1 rs 5)]) fun P G E hc eR hE=>?_
       subst hA;have z1:E.size s=n:=iS
       have z0:E.eq s ⟨#[]⟩=false:=by
        exact EL
       have eple:=uA hE;have p0:=eple 0 0 oM
       have g0:E.get s (E.nat 0)=some z:=by
        exact EM
       replace hi:=hc _ _ _ hi;have d0:E.lei 0 i1=decide (0<=i1):=fS
       rw[d0f]at d0;clear hE hc eR dQ hm hn dB dM hz hd eple sX iI iF h hs d0f e48 e120 e117;cbv
       repeat (first|(simp only[z0];try cbv)|(refine⟨p0,_,g0,?_⟩;cbv)|(refine⟨_,hi,?_⟩;cbv)|(simp only[d0];try cbv)|(simp only[f48];try cbv)|(simp only[f120];try cbv)|(simp only[f117];try cbv))
       all_goals trivial
theorem Wv(l:List UInt8)(eA:l≠[]):yi (Go.Lib.decodeL l).1:=by
 by_cases hc:(Go.Lib.decodeL l).1=65533/\(Go.Lib.decodeL l).2=1
 ·unfold yi;omega
 ·have he:=Go.Lib.encode_decode l eA hc;rw[<-CA]at he;obtain⟨q,hq,hqe⟩:=zqc ((Go.Lib.decodeL l).1:Int);have hd:=z4g q hq (l.drop (Go.Lib.decodeL l).2);rw[<-hqe,he,List.take_append_drop]at hd;rw[hd];exact hq
theorem Zn(A:AV)(hA:ik A)(n:Int)(h0:0<=n)(h1:n<=1114111)(hs:¬(55296<=n/\n<=57343))(l:List UInt8)(hb:l.length<=1000000000)(k:Int)(hk:(((encL n).length:Nat):Int)=k):
  VM 146 [.own 0 0,.p (.v (.int .i32 n))] (bH A l) (.p (.tup [pI k,.v .nilIface])) (bH (.own 0 0) (l++encL n)):=by
 rw[<-hk];exact Mx A hA n h0 h1 hs l hb
theorem Q0(l:Bs):lS l=bL l:=rfl
structure Hq(s:ByteArray)(x:AV×Nat×List (List PV)×Nat):Prop where
 a:ik x.1
 st:∃acc:Bs,x.2.2.1=lR acc/\acc.length=x.2.1/\acc++gD (s.data.toList.drop x.2.2.2)=gD s.data.toList/\acc.length<=4*x.2.2.2
theorem z6d(s:ByteArray)(hs:s.size<=8000000):RL 132 [pS s] (pS (bq s)):=by
 have hv:=z0o s oM
 cases SJ:Oj s with
 |true=>
  rw[SJ]at hv;have e:bq s=s:=by
   unfold bq;rw[zk0 SJ]
  rw[e];refine dE aN kH mixed (fun _=>0) Tryz.func132 rfl kR kR rfl fun P G E hc hE=>?_
  replace hv:=hc _ _ _ hv;clear hE hc;exact rB
 |false=>
  rw[SJ]at hv;obtain⟨R,hR⟩:∃x,bq s=x:=⟨_,rfl⟩
  rw[hR];obtain⟨n,hn⟩:∃n:Int,((s.size:Nat):Int)=n:=⟨_,rfl⟩
  obtain⟨μ,hμ⟩:∃μ:Nat->Nat,∀x,μ x=s.size-x:=⟨_,fun _=>rfl⟩
  have jK:Hq s (.p (.v (.pointer none)),0,[],0):=⟨.inl rfl,[],rfl,rfl,rfl,nR _⟩;have Ah:=fun(A:AV)(hA:ik A)(r:Int)(h0:0<=r)(h1:r<=1114111)(hs:¬(55296<=r/\r<=57343))(acc:Bs)(hb:acc.length<=1000000000)(k:Int)(hk:(((encL r).length:Nat):Int)=k)=>vQ (Zn A hA r h0 h1 hs acc hb k hk)
  have mK:=fun(A:AV)(acc:Bs)(hb:acc.length<=9223372036854775807)=>vQ (Kk A acc hb)
  unfold bH at Ah mK;refine ir aN kH mixed (fun _=>0) Tryz.func132 rfl kR kR rfl fun P G E hc eR hE=>?_
  replace hv:=hc _ _ _ hv;have z1:E.size s=n:=iS
  have elt:∀p:Nat,E.lti (E.ofN p) n=decide (p<s.size):=fun p=>by
   rw[hE,<- hn];show decide (((p:Nat):Int)<((s.size:Nat):Int))=_
   grind
  have eadd:∀p,E.addN p (E.decW s p)=p+(Utf8.decode s p).2:=fun p=>by rw[hE];rfl
  have edec:∀p:Nat,E.decR s p=(((Utf8.decode s p).1:Nat):Int):=fun p=>by rw[hE];rfl
  clear hE hc;cbv;refine mP ?_;refine iO.wk (BS (k:=0) (j:=1) 1 5 rfl rfl) ?_;refine gU 17 [0,3,10] 3 (fun _:AV×Nat×List (List PV)×Nat=>[.p (pS s),.own 0 0,.own 1 0]) (fun x=>[some (.box [x.1,.osl 2 0 x.2.1] 117 none),some (.iter s x.2.2.2),some (.rows 1 x.2.2.1 5)]) (Hq s) (fun x=>μ x.2.2.2) (.p (.v (.pointer none)),0,[],0) r5 jK ?_
  clear jK
  rintro⟨A,m,rs,pos⟩ ⟨hA,acc,dQ,hm,oB,h4⟩
  simp only at hA dQ hm oB h4;replace hm:acc.length=m:=hm;replace h4:acc.length<=4*pos:=h4;have d1:=elt pos
  rcases dP (pos<s.size)with hp|hp
  ·rw[aA hp]at d1;obtain⟨r,wd,hd⟩:∃r wd,Utf8.decode s pos=(r,wd):=⟨_,_,rfl⟩
   have hw:1<=wd:=by
    exact Td
   have eA:s.data.toList.drop pos≠[]:=by
    simp_all
   have jJ:=(Go.Lib.decodeL_drop s pos).trans hd;have uU:=Wv _ eA;rw[jJ]at uU;simp only at uU;unfold yi at uU;have EX:=Nd _ r wd eA jJ;rw[yS]at EX;have B1:=MI (r:Int);obtain⟨rz,my⟩:∃x:Int,((r:Nat):Int)=x:=⟨_,rfl⟩
   have hx:E.addN pos (E.decW s pos)=pos+wd:=by rw[eadd,hd]
   have hy:E.decR s pos=rz:=bw
   rw[my]at EX B1;obtain⟨kk,ll⟩:∃x:Int,(((encL rz).length:Nat):Int)=x:=⟨_,rfl⟩
   have wq:=Ah A hA rz oM oM oM acc oM kk ll
   obtain⟨RS,kU⟩:∃x,lR (acc++encL rz)=x:=⟨_,rfl⟩
   obtain⟨M,hM⟩:∃x,(acc++encL rz).length=x:=⟨_,rfl⟩
   rw[<-dQ,hm,kU,hM]at wq;have UX:M=acc.length+(encL rz).length:=aZ
   have lU:Hq s (.own 0 0,M,RS,E.addN pos (E.decW s pos)):=by
    rw[hx];refine⟨.inr rfl,acc++encL rz,kU.symm,hM,?_,?_⟩
    ·grind
    grind
   have fU:μ (E.addN pos (E.decW s pos))<μ pos:=by
    grind
   replace wq:=eR _ _ _ _ _ wq
   rcases hA with rfl|rfl
   all_goals
    clear elt eadd edec Ah mK eR dQ hm oB h4 hd jJ uU EX B1 my hx kU hM UX eA hw hp hR hn hs SJ hv ll;cbv;refine mP ?_;refine .mk _ _ (Wk.refl _ _) [0,2] _ _ _ _ wq rfl rfl rfl ?_;cbv;refine .mk (.own 0 0,M,RS,E.addN pos (E.decW s pos)) r5 ?_ ?_
    ·exact lU
    ·exact fU
  ·rw[dF hp]at d1;have cV:=N8 s (bL acc) pos hp oB;rw[hR]at cV;have iU:acc.length<=4*s.size:=by
    have h6:=Nl s.data.toList;have h7:=aG List.length oB;rw[sE]at h7;have e:s.data.toList.length=s.size:=rfl;omega
   have xL:=mK A acc oM
   rw[Q0,cV,<- dQ,hm]at xL;replace xL:=eR _ _ _ _ _ xL
   rcases hA with rfl|rfl
   all_goals
    clear elt eadd edec Ah mK eR dQ hm oB h4 hp hR hn hs SJ hv cV iU;cbv;refine mP ?_;refine .mk _ _ (Wk.refl _ _) [0,2] _ _ _ _ xL rfl rfl rfl ?_;exact j7
def MZ(s:ByteArray)(a:Int)(q:UInt8):PV:=match lit uB q (bD s (a+1))with
 |none=>.tup [pS ⟨#[]⟩,pI 0]
 |some p=>.tup [pS (bq (bL p.1)),pI ((s.size:Nat)-(p.2.length:Nat))]
structure Ac(s:ByteArray)(n a:Int)(q:UInt8)(R:Option (Bs×Bs))(x:Int×AV×Nat×List (List PV)):Prop where
 j0:a+1<=x.1
 j1:x.1<=n
 sa:ik x.2.1
 st:∃acc:Bs,x.2.2.2=lR acc/\acc.length=x.2.2.1/\(acc.length:Int)<=4*(x.1-a)/\R=(lit uB q (bD s x.1)).map fun z=>(acc++z.1,z.2)
theorem Z9(s:ByteArray)(a:Int)(q:UInt8)(h0:0<=a)(hq:s.data.toList[a.toNat]?=some q)(hs:s.size<=900000):RL 120 [pS s,pI a] (MZ s a q):=by
 obtain⟨n,hn⟩:∃n:Int,((s.size:Nat):Int)=n:=⟨_,rfl⟩
 have h1:a<n:=by
  exact JU
 have aU:∀i:Int,0<=i->i<n->∃c,s.data.toList[i.toNat]?=some c:=fun i iF iI=>⟨_,aB bw⟩
 obtain⟨a1,kS⟩:∃x:Int,a+1=x:=⟨_,rfl⟩
 obtain⟨RV,dY⟩:∃x,MZ s a q=x:=⟨_,rfl⟩
 rw[dY];obtain⟨RL_,zL⟩:∃x,lit uB q (bD s (a+1))=x:=⟨_,rfl⟩
 have cY:RL_=none->RV=.tup [pS ⟨#[]⟩,pI 0]:=fun h=>by
  rw[<-dY];unfold MZ;rw[zL,h]
 have gA:∀t r',RL_=some (t,r')->RV=.tup [pS (bq (bL t)),pI (n-(r'.length:Nat))]:=fun t r' h=>by
  rw[<-dY];unfold MZ;rw[zL,h,<- hn]
 obtain⟨μ,hμ⟩:∃μ:Int->Nat,∀x,μ x=2000000000-x.toNat:=⟨_,fun _=>rfl⟩
 have jK:Ac s n a q RL_ (a1,.p (.v (.pointer none)),0,[]):=⟨by omega,by omega,.inl rfl,[],rfl,rfl,by grind,by
  simp_all⟩
 obtain⟨zq,eC⟩:∃z:Int,((q.toNat:Nat):Int)=z:=⟨_,rfl⟩
 have wt:=fun(A:AV)(hA:ik A)(acc:Bs)(c:UInt8)(z:Int)(hz:((c.toNat:Nat):Int)=z)(hb:acc.length<=1000000000)=>vQ (Df A hA acc c z hz hb)
 have mK:=fun(A:AV)(acc:Bs)(hb:acc.length<=9223372036854775807)=>vQ (Kk A acc hb)
 have xq:=fun(A:AV)(hA:ik A)(T:ByteArray)(hs:T.size<=1000000)(acc:Bs)(hb:acc.length<=900000000)(t r:Bs)(h:jR uB T.data.toList=some (t,r))=>z33 A hA T hs acc hb t r h
 have wF:=fun(A:AV)(hA:ik A)(T:ByteArray)(hs:T.size<=1000000)(acc:Bs)(h:jR uB T.data.toList=none)=>z34 A hA T hs acc h
 unfold bH at wt mK xq wF;have gI:=fun(t:ByteArray)(h:t.size<=8000000)=>z6d t h
 refine ir aN kH mixed (fun _=>0) Tryz.func120 rfl kR kR rfl fun P G E hc eR hE=>?_
 replace gI:=fun(t:ByteArray)(h:t.size<=8000000)=>hc _ _ _ (gI t h)
 have z1:E.size s=n:=iS
 have elt:=xV hE;have eple:=uA hE;have eget:∀(i:Int)(c:UInt8)(z:Int),s.data.toList[i.toNat]?=some c->((c.toNat:Nat):Int)=z->E.get s (E.nat i)=some z:=fun i c z h hz=>by
  exact JV
 have eadd:=su hE;have eext:∀i j:Int,E.ext s (E.nat i) (E.nat j)=s.extract i.toNat j.toNat:=fun i j=>by rw[hE];rfl
 have ei:=eadd a 1 oM oM oM oM
 rw[kS]at ei;have g0:=eget a q zq hq eC;have p0:=eple 0 a h0;clear hE hc;cbv;refine mP ?_;refine iO.wk (BS (k:=0) (j:=1) 1 5 rfl rfl) ?_;refine gU 49 [0,1,6,7] 2 (fun x:Int×AV×Nat×List (List PV)=>[.p (pS s),.p (pI a),.own 0 0,.p (pI x.1)]) (fun x=>[some (.box [x.2.1,.osl 1 0 x.2.2.1] 117 none),some (.rows 1 x.2.2.2 5)]) (Ac s n a q RL_) (fun x=>μ x.1) (a1,.p (.v (.pointer none)),0,[]) r5 jK ?_
 clear jK
 rintro⟨j,A,m,rs⟩ ⟨j0,j1,hA,acc,dQ,hm,dM,iT⟩
 simp only at j0 j1 hA dQ hm dM iT;replace hn:((s.size:Nat):Int)=n:=hn;replace hm:acc.length=m:=hm;replace dM:((acc.length:Nat):Int)<=4*(j-a):=dM;replace eC:((q.toNat:Nat):Int)=zq:=eC;have V2:n<=900000:=dU
 rcases dP (j<n)with cJ|cJ
 ·have d1:E.lti j n=true:=aZ
  obtain⟨c,eE⟩:=aU j oM cJ
  obtain⟨z,hz⟩:∃z:Int,((c.toNat:Nat):Int)=z:=⟨_,rfl⟩
  have g1:=eget j c z eE hz;have p1:=eple 0 j oM
  have dR:=uP oM eE
  obtain⟨j2,oA⟩:∃x:Int,j+1=x:=⟨_,rfl⟩
  have ej:=eadd j 1 oM oM oM oM
  rw[oA]at ej;rw[dR,oA]at iT;have eS:=qZ s j2
  rcases dP (c=q)with oW|oW
  ·
   rw[oW,XH]at iT;have hv:=gA _ _ iT;rw[cA]at hv;have oV:n-((bD s j2).length:Nat)=j2:=dU
   rw[oV]at hv;have xL:=mK A acc oM
   rw[Q0,<- dQ,hm]at xL;have UO:(bL acc).size=acc.length:=rfl;have hr:=gI (bL acc) oM
   obtain⟨B,hB⟩:∃x,bL acc=x:=⟨_,rfl⟩
   rw[hB]at hr hv xL;obtain⟨O,hO⟩:∃x,bq B=x:=⟨_,rfl⟩
   rw[hO]at hr hv;have w1:decide (z=zq)=true:=aA aZ
   replace xL:=eR _ _ _ _ _ xL;subst hv
   rcases hA with rfl|rfl
   all_goals
    clear cY gA aU gI elt eple eget eadd eext iT eS dR eE hz oW hO oV dY zL eC hq hn dM eR wt mK xq wF dQ hm hB UO;cbv;refine mP ?_;refine .mk _ _ (Wk.refl _ _) [0,1] _ _ _ _ xL rfl rfl rfl ?_;exact rB
  ·have w1:decide (z=zq)=false:=dF (by
    intro h;exact oW (cT.1 oM))
   have rR:∀k:UInt8,c≠k->decide (z=((k.toNat:Nat):Int))=false:=fun k h=>gP hz k h
   rcases dP (c=10\/c=13)with hb|hb
   ·rw[D1 _ _ oW hb]at iT;have hv:=cY iT;subst hv
    rcases dP (c=10)with f7|f7
    ·have w2:decide (z=10)=true:=aA (by rw[<-hz,f7];rfl)
     clear cY gA aU gI elt eple eget eadd eext iT eS dR eE hz oW dY zL eC hq hn dM rR hb f7 eR wt mK xq wF dQ hm;exact rB
    ·have VD:c=13:=hb.resolve_left f7;have w2:decide (z=10)=false:=rR 10 f7;have w3:decide (z=13)=true:=aA (by rw[<-hz,VD];rfl)
     clear cY gA aU gI elt eple eget eadd eext iT eS dR eE hz oW dY zL eC hq hn dM rR hb f7 VD eR wt mK xq wF dQ hm;exact rB
   ·have w2:decide (z=10)=false:=rR 10 (fun e=>hb (.inl e))
    have w3:decide (z=13)=false:=rR 13 (fun e=>hb (.inr e))
    rcases dP (c=92)with zM|zM
    ·have w4:decide (z=92)=true:=aA (by rw[<-hz,zM];rfl)
     obtain⟨T,hT⟩:∃x,s.extract j2.toNat n.toNat=x:=⟨_,rfl⟩
     have jV:T.data.toList=bD s j2:=by
      rw[<-hT,yw];exact ZY
     have b7:T.size=(bD s j2).length:=by rw[<-jV];rfl
     have x1:=eext j2 n;rw[hT]at x1;have p3:=eple 0 j2 oM
     have p4:=eple j2 n oM
     have p5:=eple n n oM
     cases zC:jR uB (bD s j2)with
     |none=>
      rw[D4 _ oW hb zM zC]at iT;have hv:=cY iT;subst hv;have he:=wF A hA T oM acc (by rw[jV];exact zC)
      rw[<-dQ,hm]at he;replace he:=eR _ _ _ _ _ he
      rcases hA with rfl|rfl
      all_goals
       clear cY gA aU gI elt eple eget eadd eext iT eS dR eE hz oW dY zL eC hq hn dM rR hb zM zC eR wt mK xq wF dQ hm hT jV b7;cbv;refine mP ?_;refine .mk _ _ (Wk.refl _ _) [0,1] _ _ _ _ he rfl rfl rfl ?_;exact j7
     |some p=>
      obtain⟨t,r⟩:=p;have he:=xq A hA T oM acc oM t r (by rw[jV];exact zC)
      have gm:=HK uB zC;simp only at gm;obtain⟨u,fZ,gG,lA⟩:=WL uB zC;have h4:=Eb zC;rw[XQ _ oW hb zM zC]at iT;simp only at iT;obtain⟨mm,jf⟩:∃x:Int,((T.size:Nat):Int)-(r.length:Nat)=x:=⟨_,rfl⟩
      rw[jf]at he;have xh:0<mm:=dU
      have w5:decide (mm=0)=false:=dF oM
      have dZ:r=bD s (j+(mm+1)):=by
       have e1:bD s j2=s.data.toList.drop j2.toNat:=rfl;have e2:s.data.toList.drop (j+(mm+1)).toNat=(s.data.toList.drop j2.toNat).drop mm.toNat:=by
        rw[yS]
        congr 1
        omega
       show r=s.data.toList.drop (j+(mm+1)).toNat;rw[e2,<- e1,gG];have e3:u.length=mm.toNat:=by
        grind
       grind
      rw[dZ]at iT;have em:=eadd mm 1 oM oM oM oM
      obtain⟨m2,kM⟩:∃x:Int,mm+1=x:=⟨_,rfl⟩
      rw[kM]at em iT dZ;have ejm:=eadd j m2 oM oM oM oM
      obtain⟨j3,TY⟩:∃x:Int,j+m2=x:=⟨_,rfl⟩
      rw[TY]at ejm iT dZ;obtain⟨RS,kU⟩:∃x,lR (acc++t)=x:=⟨_,rfl⟩
      obtain⟨M,hM⟩:∃x,(acc++t).length=x:=⟨_,rfl⟩
      rw[<-dQ,hm,kU,hM]at he;have UX:M=acc.length+t.length:=aZ
      have pu:r.length<=s.size:=dU
      have lU:Ac s n a q RL_ (j3,.own 0 0,M,RS):=by
       refine⟨by omega,by omega,.inr rfl,acc++t,kU.symm,hM,by omega,?_⟩
       rw[iT,yI]
       congr 1
       funext z
       simp
      have fU:μ j3<μ j:=by
       rw[hμ,hμ];omega
      replace he:=eR _ _ _ _ _ he
      rcases hA with rfl|rfl
      all_goals
       clear cY gA aU gI elt eple eget eadd eext iT eS dR eE hz oW dY zL eC hq hn dM rR hb zM zC eR wt mK xq wF dQ hm hT jV b7 gm fZ gG lA h4 jf xh dZ kM TY kU hM UX pu;cbv;refine mP ?_;refine .mk _ _ (Wk.refl _ _) [0,1] _ _ _ _ he rfl rfl rfl ?_;cbv;refine mP ?_;refine .mk (j3,.own 0 0,M,RS) r5 ?_ ?_
       ·exact lU
       ·exact fU
    ·have w4:decide (z=92)=false:=rR 92 zM;rw[XG _ _ oW hb zM]at iT;have he:=wt A hA acc c z hz oM
     obtain⟨RS,kU⟩:∃x,lR (acc++[c])=x:=⟨_,rfl⟩
     obtain⟨M,hM⟩:∃x,(acc++[c]).length=x:=⟨_,rfl⟩
     rw[<-dQ,hm,kU,hM]at he;have UX:M=acc.length+1:=aZ
     have lU:Ac s n a q RL_ (j2,.own 0 0,M,RS):=by
      refine⟨by omega,by omega,.inr rfl,acc++[c],kU.symm,hM,by omega,?_⟩
      rw[iT,yI]
      congr 1
      funext z
      simp
     have fU:μ j2<μ j:=by
      grind
     replace he:=eR _ _ _ _ _ he
     rcases hA with rfl|rfl
     all_goals
      clear cY gA aU gI elt eple eget eadd eext iT eS dR eE hz oW dY zL eC hq hn dM rR hb zM eR wt mK xq wF dQ hm kU hM UX;cbv;refine mP ?_;refine .mk _ _ (Wk.refl _ _) [0,1] _ _ _ _ he rfl rfl rfl ?_;cbv;refine mP ?_;refine .mk (j2,.own 0 0,M,RS) r5 ?_ ?_
      ·exact lU
      ·exact fU
 ·have d1:E.lti j n=false:=aZ
  rw[iu oM,L2]at iT
  have hv:=cY iT;subst hv;clear cY gA aU gI elt eple eget eadd eext iT dY zL eC hq hn dM eR wt mK xq wF dQ hm;exact rB
theorem pre2(a b:UInt8)(l:Bs):Lib.hasPrefix l [a,b]=decide (l.take 2=[a,b]):=by
 unfold Lib.hasPrefix
 match l with
 |[]=>rfl
 |[x]=>
  grind
 |x::y::l=>
  grind
theorem xda(l:Bs):(qE l=0/\Lib.hasPrefix l [47,47]=false/\Lib.hasPrefix l [47,42]=false)\/(qE l=1/\Lib.hasPrefix l [47,47]=true)\/(qE l=2/\Lib.hasPrefix l [47,47]=false/\Lib.hasPrefix l [47,42]=true):=by
 rw[pre2,pre2];unfold qE
 grind
theorem Ld:∀{l:Bs},(10:UInt8) ∉ l->oD l=[]
 |[],_=>rfl
 |c::r,h=>by
  rw[oD,aE fun e=>h aZ]
  exact Ld fun h'=>h (bC _ h')
theorem Le:∀{u:Bs}(v:Bs),(10:UInt8) ∉ u->oD (u++10::v)=10::v
 |[],v,_=>by
  show oD (10::v)=_;rw[oD,aF rfl]
 |c::u,v,h=>by
  show oD (c::(u++10::v))=_;rw[oD,aE fun e=>h aZ]
  exact Le v fun h'=>h (bC _ h')
theorem Mz:∀l:Bs,(Lib.index l [42,47]=-1/\xD l=none)\/∃k:Nat,Lib.index l [42,47]=(k:Nat)/\k+2<=l.length/\xD l=some (l.drop (k+2))
 |[]=>.inl ⟨rfl,rfl⟩
 |c::r=>by
  rw[Lib.index,xD];have hp:([42,47]:Bs).isPrefixOf (c::r)=decide (c=42/\r.head?=some 47):=by
   cases r with
   |nil=>
    grind
   |cons d r=>
    grind
  rw[hp]
  by_cases hc:c=42/\r.head?=some 47
  ·rw[aA hc,aF rfl,aF hc];refine .inr ⟨0,rfl,?_,?_⟩
   ·grind
   simp_all
  ·rw[dF hc,aE aT,aE hc]
   rcases Mz r with⟨h1,h2⟩|⟨k,h1,h2,h3⟩
   ·grind
   grind
theorem WV(s:ByteArray)(i:Int)(k:Nat)(h:0<=i):(bD s i).drop k=bD s (i+(k:Nat)):=by
 unfold bD;rw[yS]
 congr 1
 omega
theorem z5q(s:ByteArray)(at0:Int)(r:Bs)(b:Bool)(h0:0<=at0)(h1:at0<=(s.size:Nat))(hs:s.size<=1000000)(hR:kY (bD s at0)=(r,b)):RL 93 [pS s,pI at0] (.tup [pI ((s.size:Nat)-(r.length:Nat)),pB b]):=by
 obtain⟨n,hn⟩:∃n:Int,((s.size:Nat):Int)=n:=⟨_,rfl⟩
 obtain⟨e,he⟩:∃e:Int,n-(r.length:Nat)=e:=⟨_,rfl⟩
 rw[hn]at h1;rw[hn,he];obtain⟨μ,hμ⟩:∃μ:Int->Nat,∀i,μ i=2000000000-i.toNat:=⟨_,fun _=>rfl⟩
 have qH:=fun(t p:ByteArray)=>sD (D0 t p)
 have sK:=fun(t:ByteArray)(c:UInt8)(z k:Int)(hz:((c.toNat:Nat):Int)=z)(hk:Lib.indexByte t.data.toList c=k)=>show RL _ _ (pI k)from hk ▸ sD (IF t c z hz)
 have sJ:=fun(t p:ByteArray)(k:Int)(ht:t.size<=1000000)(hk:Lib.index t.data.toList p.data.toList=k)=>show RL _ _ (pI k)from hk ▸ z3u t p oM
 have aU:∀i:Int,0<=i->i<n->∃c,s.data.toList[i.toNat]?=some c:=fun i iF iI=>⟨_,aB bw⟩
 have jK:Sk s n (r,b) at0:=⟨h0,h1,hR⟩;have cV:∀i,Sk s n (r,b) i->kY (bD s i)=(bD s i,true)->e=i/\b=true:=fun i hi h=>by
  exact Ry
 refine dE aN kH mixed (fun _=>0) Tryz.func93 rfl kR kR rfl fun P G E hc hE=>?_
 replace qH:=fun(t p:ByteArray)=>hc _ _ _ (qH t p)
 replace sK:=fun(t:ByteArray)(c:UInt8)(z k:Int)(hz:((c.toNat:Nat):Int)=z)(hk:Lib.indexByte t.data.toList c=k)=>hc _ _ _ (sK t c z k hz hk)
 replace sJ:=fun(t p:ByteArray)(k:Int)(ht:t.size<=1000000)(hk:Lib.index t.data.toList p.data.toList=k)=>hc _ _ _ (sJ t p k ht hk)
 have z1:E.size s=n:=iS
 have elt:=xV hE;have eple:=uA hE;have eget:∀(i:Int)(c:UInt8)(z:Int),s.data.toList[i.toNat]?=some c->((c.toNat:Nat):Int)=z->E.get s (E.nat i)=some z:=fun i c z h hz=>by
  exact JV
 have eadd:=su hE;have eext:∀i j:Int,E.ext s (E.nat i) (E.nat j)=s.extract i.toNat j.toNat:=fun i j=>by rw[hE];rfl
 clear hE hc hR h0 h1;cbv;refine gU 72 [0,1] 0 (fun i:Int=>[.p (pS s),.p (pI i)]) (fun _=>[]) (Sk s n (r,b)) μ at0 r5 jK ?_
 clear jK;intro i hI;replace hn:((s.size:Nat):Int)=n:=hn;have iF:=hI.i0;have iI:=hI.i1
 rcases dP (i<n)with cJ|cJ
 ·have d1:E.lti i n=true:=aZ
  obtain⟨c,eE⟩:=aU i iF cJ;obtain⟨z,hz⟩:∃z:Int,((c.toNat:Nat):Int)=z:=⟨_,rfl⟩
  have g1:=eget i c z eE hz;have p1:=eple 0 i iF;have ei:=eadd i 1 oM oM oM oM
  have dR:=uP iF eE;have hM:μ (E.wadd .i64 i 1)<μ i:=aZ
  have bx:∀k:UInt8,c=k->decide (z=((k.toNat:Nat):Int))=true:=fun k h=>aA (by rw[<-hz,h])
  have yT:∀k:UInt8,c≠k->decide (z=((k.toNat:Nat):Int))=false:=fun k h=>gP hz k h
  cases hw:xI c with
  |true=>
   have lU:Sk s n (r,b) (E.wadd .i64 i 1):=by
    exact Rx
   have Is:c=32\/c≠32/\(c=9\/c≠9/\(c=10\/c≠10/\c=13)):=by
    unfold xI at hw
    grind
   rcases Is with e32|⟨e32,e9|⟨e9,e10|⟨e10,e13⟩⟩⟩
   ·have w32:decide (z=32)=true:=bx 32 e32;clear qH sK sJ aU cV elt eple eget eadd eext bx yT hn he dR eE hz ei hw e32;cbv;refine mP ?_;exact RU
   ·have w32:decide (z=32)=false:=yT 32 e32;have w9:decide (z=9)=true:=bx 9 e9;clear qH sK sJ aU cV elt eple eget eadd eext bx yT hn he dR eE hz ei hw e32 e9;cbv;refine mP ?_;exact RU
   ·have w32:decide (z=32)=false:=yT 32 e32;have w9:decide (z=9)=false:=yT 9 e9;have w10:decide (z=10)=true:=bx 10 e10;clear qH sK sJ aU cV elt eple eget eadd eext bx yT hn he dR eE hz ei hw e32 e9 e10;cbv;refine mP ?_;exact RU
   ·have w32:decide (z=32)=false:=yT 32 e32;have w9:decide (z=9)=false:=yT 9 e9;have w10:decide (z=10)=false:=yT 10 e10;have w13:decide (z=13)=true:=bx 13 e13;clear qH sK sJ aU cV elt eple eget eadd eext bx yT hn he dR eE hz ei hw e32 e9 e10 e13;cbv;refine mP ?_;exact RU
  |false=>
   have eA:c≠9/\c≠10/\c≠13/\c≠32:=by
    unfold xI at hw
    grind
   have w9:decide (z=9)=false:=yT 9 eA.1;have w10:decide (z=10)=false:=yT 10 eA.2.1;have w13:decide (z=13)=false:=yT 13 eA.2.2.1;have w32:decide (z=32)=false:=yT 32 eA.2.2.2;obtain⟨T,hT⟩:∃x,s.extract i.toNat n.toNat=x:=⟨_,rfl⟩
   have jV:T.data.toList=bD s i:=by
    rw[<-hT,yw]
    have:=qZ s i
    exact ZY
   have x1:=eext i n;rw[hT]at x1;have p4:=eple i n iI;have p5:=eple n n oM
   have dG:=qH T ⟨#[47,47]⟩;have gE:=qH T ⟨#[47,42]⟩;have e1:(⟨#[47,47]⟩:ByteArray).data.toList=[47,47]:=rfl;have e2:(⟨#[47,42]⟩:ByteArray).data.toList=[47,42]:=rfl;change fX P G _ _ (pB (Lib.hasPrefix T.data.toList [47,47]))at dG;change fX P G _ _ (pB (Lib.hasPrefix T.data.toList [47,42]))at gE;rw[jV]at dG gE;have hlen:=qZ s i
   rcases xda (bD s i)with⟨hk,f1,f2⟩|⟨hk,f1⟩|⟨hk,f1,f2⟩
   ·rw[f1]at dG;rw[f2]at gE;obtain⟨rfl,rfl⟩:=cV i hI (by rw[dR]at hk ⊢;exact IE hw hk)
    clear qH sK sJ aU cV elt eple eget eadd eext bx yT hn he dR eE hz ei hw eA f1 f2 hk e1 e2 jV hT hlen;exact rB
   ·rw[f1]at dG;obtain⟨r2,mV⟩:=Pw hk;have lQ:=hI.sk;rw[mV,LV aT rfl]at lQ
    rcases WN 10 (bD s i)with⟨hj,mM⟩|⟨u,v,fZ,gG,hj⟩
    ·have Aw:=sK T 10 10 (-1) rfl (by rw[jV];exact hj)
     have d2:E.lti (-1) 0=true:=by rw[elt];rfl
     have hd:oD (([47,47]++r2:Bs).drop 2)=[]:=Ld fun h=>mM aZ
     have wH:oD r2=[]:=hd;change kY (oD r2)=_ at lQ;rw[wH,Dp]at lQ;have x7:r=[]:=(aG Prod.fst lQ).symm;have jn:b=true:=(aG Prod.snd lQ).symm;have wF:e=n:=aZ
     subst jn wF;clear qH sK sJ aU cV elt eple eget eadd eext bx yT hn he dR eE hz ei hw eA f1 hk e1 e2 jV hT hlen mV lQ hj mM hd wH x7;exact rB
    ·obtain⟨k,yZ⟩:∃x:Int,((u.length:Nat):Int)=x:=⟨_,rfl⟩
     have Aw:=sK T 10 10 k rfl (by rw[jV,hj];exact yZ)
     have d2:E.lti k 0=false:=aZ
     have uV:(bD s i).length=u.length+(v.length+1):=aZ
     have SW:bD s (i+k)=10::v:=by
      have h5:=WV s i u.length iF
      grind
     have ek:=eadd i k oM oM oM oM
     have hd:oD r2=10::v:=by
      match u,fZ,gG with
      |[],fZ,gG=>grind
      |[x],fZ,gG=>grind
      |x::y::u,fZ,gG=>
       rw[mV]at fZ;have h6:r2=u++10::v:=(tD (tD fZ).2).2;rw[h6];exact Le v fun h=>gG (bC _ (bC _ h))
     have hu0:1<=u.length:=by
      grind
     change kY (oD r2)=_ at lQ;rw[hd,<- SW]at lQ;have lU:Sk s n (r,b) (E.wadd .i64 i k):=by rw[ek];exact⟨by omega,by omega,lQ⟩
     have fU:μ (E.wadd .i64 i k)<μ i:=aZ
     clear qH sK sJ aU cV elt eple eget eadd eext bx yT hn he dR eE hz ei hw eA f1 hk e1 e2 jV hT hlen mV lQ hj hd hu0 uV SW fZ gG yZ ek hM;cbv;refine mP ?_;refine .mk (E.wadd .i64 i k) r5 ?_ ?_
     ·exact lU
     ·exact fU
   ·rw[f1]at dG;rw[f2]at gE;obtain⟨r2,mV⟩:=Px hk;have gd:bD s (i+2)=r2:=by
     have h5:=WV s i 2 iF
     grind
    obtain⟨i2,mX⟩:∃x:Int,i+2=x:=⟨_,rfl⟩
    have TV:(bD s i).length=r2.length+2:=by rw[mV];rfl
    have ei2:=eadd i 2 oM oM oM oM
    rw[mX]at ei2 gd;obtain⟨T2,zJ⟩:∃x,s.extract i2.toNat n.toNat=x:=⟨_,rfl⟩
    have GF:T2.data.toList=r2:=by
     rw[<-zJ,yw,gd];exact ZY
    have y5:T2.size<=1000000:=by
     have e5:T2.data.toList.length=T2.size:=rfl
     grind
    have x2:=eext i2 n;rw[zJ]at x2;have p6:=eple 0 i2 oM
    have p7:=eple i2 n oM
    have lQ:=hI.sk;have e3:(⟨#[42,47]⟩:ByteArray).data.toList=[42,47]:=rfl
    rcases Mz r2 with⟨hj,mM⟩|⟨k0,hj,lI,hd⟩
    ·have Aw:=sJ T2 ⟨#[42,47]⟩ (-1) y5 (by rw[GF];exact hj)
     have d2:E.lti (-1) 0=true:=by rw[elt];rfl
     rw[mV,LY (c:=47) (r:=42::r2) aT rfl mM]at lQ
     have h9:(47::42::r2:Bs).length=r.length:=aG (fun p:Bs×Bool=>p.1.length) lQ
     have f7:false=b:=aG Prod.snd lQ;simp only[qD]at h9;replace he:n-((r.length:Nat):Int)=e:=he;have UJ:e=i:=dU
     subst f7 UJ;clear qH sK sJ aU cV elt eple eget eadd eext bx yT hn he dR eE hz ei hw eA f1 f2 hk e1 e2 jV hT hlen mV lQ hj mM gd mX TV zJ GF y5 e3 h9 hM;exact rB
    ·obtain⟨k,yZ⟩:∃x:Int,((k0:Nat):Int)=x:=⟨_,rfl⟩
     have Aw:=sJ T2 ⟨#[42,47]⟩ k y5 aZ
     have d2:E.lti k 0=false:=aZ
     have ek:=eadd k 4 oM oM oM oM
     obtain⟨k4,Av⟩:∃x:Int,k+4=x:=⟨_,rfl⟩
     rw[Av]at ek;have ek2:=eadd i k4 oM oM oM oM
     have SW:r2.drop (k0+2)=bD s (i+k4):=by
      have h5:=WV s i2 (k0+2) oM
      grind
     rw[mV,LU (c:=47) (r:=42::r2) aT rfl (r':=bD s (i+k4)) (by rw[<-SW];exact hd)]at lQ
     have lU:Sk s n (r,b) (E.wadd .i64 i k4):=by rw[ek2];exact⟨by omega,by omega,lQ⟩
     have fU:μ (E.wadd .i64 i k4)<μ i:=aZ
     clear qH sK sJ aU cV elt eple eget eadd eext bx yT hn he dR eE hz ei hw eA f1 f2 hk e1 e2 jV hT hlen mV lQ hj gd mX TV zJ GF y5 e3 lI hd yZ Av ek2 SW hM;cbv;refine mP ?_;refine .mk (E.wadd .i64 i k4) r5 ?_ ?_
     ·exact lU
     ·exact fU
 ·have d1:E.lti i n=false:=aZ
  obtain⟨rfl,rfl⟩:=cV i hI (by rw[iu oM];rfl)
  clear qH sK sJ aU cV elt eple eget eadd eext hn he;exact rB
def IP(n:Nat)(l:Bs):Nat:=l.foldl (fun n c=>10*n+(c.toNat-48)) n
theorem Ou:∀(l:Bs)(n:Nat),n<=IP n l
 |[],n=>nR _
 |c::l,n=>by
  have:=Ou l (10*n+(c.toNat-48))
  show n<=IP (10*n+(c.toNat-48)) l;omega
theorem Ov{c:UInt8}(h:eH c=true):48<=c.toNat/\c.toNat<=57:=by
 exact Tc
theorem O6:∀(l:Bs)(n:Nat),(∀c∈l,eH c=true)->n<18446744073709551616->Lib.parseUint10 n l=if IP n l<18446744073709551616 then .ok (IP n l)else .range
 |[],n,_,h=>by
  show Lib.parseUint10 n []=if n<18446744073709551616 then .ok n else .range
  rw[aF h];rfl
 |c::l,n,hd,h=>by
  have hc:=Ov (hd c (cR ..));have qJ:=Ou l (10*n+(c.toNat-48));show Lib.parseUint10 n (c::l)=if IP (10*n+(c.toNat-48)) l<18446744073709551616 then .ok (IP (10*n+(c.toNat-48)) l)else .range
  rw[Lib.parseUint10,aF hc]
  by_cases h1:1844674407370955162<=n
  ·grind
  ·rw[aE h1]
   by_cases h2:18446744073709551616<=n*10+(c.toNat-48)
   ·grind
   ·rw[aE h2,show n*10+(c.toNat-48)=10*n+(c.toNat-48) by omega]
    exact O6 l _ (fun x hx=>hd x (bC _ hx)) oM
theorem O4(l:Bs)(hd:∀c∈l,eH c=true)(hn:l≠[]):Lib.parseIntB 64 l=if lC l<9223372036854775808 then .ok ((lC l:Nat):Int)else .range:=by
 rw[Lib.parseIntB_64]
 cases l with
 |nil=>exact absurd rfl hn
 |cons c r=>
  have hc:=Ov (hd c (cR ..));have hp:Lib.parseMag (c::r)=if lC (c::r)<18446744073709551616 then .ok (lC (c::r))else .range:=by
   unfold Lib.parseMag;exact O6 (c::r) 0 hd oM
  unfold Lib.atoiAll
  grind
theorem Lj{w:World}{R:Nat->Prop}{p q:PV}{u v:Value}(h1:cE w R p u)(h2:cE w R q v):cE w R (.tup [p,q]) (.tuple #[u,v]):=by
 refine cE.tup [p,q] [u,v] rfl fun j x y hx hy=>?_
 grind
theorem Kx(s:ByteArray)(hs:s.size<=2000000)(hd:∀c∈s.data.toList,eH c=true)(hn:s.data.toList≠[])(h:lC s.data.toList<9223372036854775808):RL 131 [pS s,pI 10,pI 64] (.tup [pI (lC s.data.toList:Nat),.v .nilIface]):=by
 have hp:=O4 s.data.toList hd hn;rw[aF h]at hp;exact BG Tryz.func131 kR kR [.string s,.int .i64 10,.int .i64 64] _ fun w hG=>(Tryz.strconv_ParseInt_10_at64_ok s oM _ hp w).mono fun e w' ⟨h1,h2⟩=>⟨_,h1,by
   rcases h2 with rfl|⟨t,rfl⟩
   ·exact Gr.refl _
   ·exact Lib.bytesWorld_below _ _ _,fun _=>Lj (.v _) (.v _)⟩
theorem z18(s:ByteArray)(hs:s.size<=2000000)(hd:∀c∈s.data.toList,eH c=true)(hn:s.data.toList≠[])(h:¬lC s.data.toList<9223372036854775808):RL 131 [pS s,pI 10,pI 64] (.tup [pI (Lib.intSat 64 s.data.toList),.err]):=by
 have hp:=O4 s.data.toList hd hn;rw[aE h]at hp;exact BG Tryz.func131 kR kR [.string s,.int .i64 10,.int .i64 64] _ fun w hG=>by
  obtain⟨tp,p,hv⟩:=hG.rng;exact(Tryz.strconv_ParseInt_10_at64_range_var s oM hp tp p w hv).mono fun e w' ⟨N,h1,_,_,h2⟩=>⟨_,h1,h2,fun _=>Lj (.v _) (.err _ _)⟩
theorem MV(c:UInt8)(z:Int)(b:Bool)(hz:((c.toNat:Nat):Int)=z)(hb:eH c=b):RL 117 [.v (.int .u8 z)] (pB b):=by
 subst hz hb;exact sD (Cg c)
theorem GR(c:UInt8)(z:Int)(b:Bool)(hz:((c.toNat:Nat):Int)=z)(hb:oP c=b):RL 116 [.v (.int .u8 z)] (pB b):=by
 subst hz hb;exact sD (Xz c)
def NU(s:ByteArray)(a:Int):PV:=match rJ (bD s a)with
 | .bad e=>.tup [pI a,pI e]
 | .ok _ _ r=>.tup [pI ((s.size:Nat)-(r.length:Nat)),pI 0]
structure I3(s:ByteArray)(n a:Int)(j:Int):Prop where
 j0:a<=j
 j1:j<=n
 u:∃u:Bs,bD s a=u++bD s j/\(u.length:Int)=j-a/\∀c∈u,eH c=true
theorem Xi(s:ByteArray)(a:Int)(q:UInt8)(h0:0<=a)(hq:s.data.toList[a.toNat]?=some q)(oW:eH q=true)(hs:s.size<=1000000):RL 119 [pS s,pI a] (NU s a):=by
 obtain⟨n,hn⟩:∃n:Int,((s.size:Nat):Int)=n:=⟨_,rfl⟩
 have h1:a<n:=by
  exact RW
 have aU:∀i:Int,0<=i->i<n->∃c,s.data.toList[i.toNat]?=some c:=fun i iF iI=>⟨_,aB (by show i.toNat<s.size;omega)⟩
 obtain⟨a1,kS⟩:∃x:Int,a+1=x:=⟨_,rfl⟩
 obtain⟨RV,dY⟩:∃x,NU s a=x:=⟨_,rfl⟩
 rw[dY];have qK:∀e,rJ (bD s a)=.bad e->RV=.tup [pI a,pI e]:=fun e h=>by rw[<-dY];unfold NU;rw[h]
 have uK:∀k t r,rJ (bD s a)=.ok k t r->RV=.tup [pI (n-(r.length:Nat)),pI 0]:=fun k t r h=>by rw[<-dY];unfold NU;rw[h,<- hn]
 obtain⟨μ,hμ⟩:∃μ:Int->Nat,∀x,μ x=2000000000-x.toNat:=⟨_,fun _=>rfl⟩
 have jK:I3 s n a a:=⟨bU _,by omega,[],rfl,by show(0:Int)=a-a;omega,fun c hc=>(by cases hc)⟩
 obtain⟨zq,eC⟩:∃z:Int,((q.toNat:Nat):Int)=z:=⟨_,rfl⟩
 have eY:=fun(c:UInt8)(z:Int)(b:Bool)(hz:((c.toNat:Nat):Int)=z)(hb:eH c=b)=>MV c z b hz hb
 have gW:=fun(c:UInt8)(z:Int)(b:Bool)(hz:((c.toNat:Nat):Int)=z)(hb:oP c=b)=>GR c z b hz hb
 have jb:=fun(t:ByteArray)(v:Int)(ht:t.size<=2000000)(hd:∀c∈t.data.toList,eH c=true)(hn:t.data.toList≠[])(h:lC t.data.toList<9223372036854775808)(hv:((lC t.data.toList:Nat):Int)=v)=>show RL _ _ (.tup [pI v,.v .nilIface])from hv ▸ Kx t ht hd hn h
 have tq:=fun(t:ByteArray)(v:Int)(ht:t.size<=2000000)(hd:∀c∈t.data.toList,eH c=true)(hn:t.data.toList≠[])(h:¬lC t.data.toList<9223372036854775808)(hv:Lib.intSat 64 t.data.toList=v)=>show RL _ _ (.tup [pI v,.err])from hv ▸ z18 t ht hd hn h
 refine dE aN kH mixed (fun _=>0) Tryz.func119 rfl kR kR rfl fun P G E hc hE=>?_
 replace eY:=fun(c:UInt8)(z:Int)(b:Bool)(hz:((c.toNat:Nat):Int)=z)(hb:eH c=b)=>hc _ _ _ (eY c z b hz hb)
 replace gW:=fun(c:UInt8)(z:Int)(b:Bool)(hz:((c.toNat:Nat):Int)=z)(hb:oP c=b)=>hc _ _ _ (gW c z b hz hb)
 replace jb:=fun(t:ByteArray)(v:Int)(ht:t.size<=2000000)(hd:∀c∈t.data.toList,eH c=true)(hn:t.data.toList≠[])(h:lC t.data.toList<9223372036854775808)(hv:((lC t.data.toList:Nat):Int)=v)=>hc _ _ _ (jb t v ht hd hn h hv)
 replace tq:=fun(t:ByteArray)(v:Int)(ht:t.size<=2000000)(hd:∀c∈t.data.toList,eH c=true)(hn:t.data.toList≠[])(h:¬lC t.data.toList<9223372036854775808)(hv:Lib.intSat 64 t.data.toList=v)=>hc _ _ _ (tq t v ht hd hn h hv)
 have z1:E.size s=n:=iS
 have elt:=xV hE;have eple:=uA hE;have eget:∀(i:Int)(c:UInt8)(z:Int),s.data.toList[i.toNat]?=some c->((c.toNat:Nat):Int)=z->E.get s (E.nat i)=some z:=fun i c z h hz=>by
  exact JV
 have eadd:=su hE;have eext:∀i j:Int,E.ext s (E.nat i) (E.nat j)=s.extract i.toNat j.toNat:=fun i j=>by rw[hE];rfl
 have ei:=eadd a 1 oM oM oM oM
 rw[kS]at ei;have g0:=eget a q zq hq eC;have p0:=eple 0 a h0;clear hE hc;cbv;refine gU 57 [0,1,6] 0 (fun x:Int=>[.p (pS s),.p (pI a),.p (pI x)]) (fun _=>[]) (I3 s n a) μ a r5 jK ?_
 clear jK
 rintro j ⟨j0,j1,u,fZ,gG,lA⟩
 replace hn:((s.size:Nat):Int)=n:=hn;replace gG:((u.length:Nat):Int)=j-a:=gG;replace eC:((q.toNat:Nat):Int)=zq:=eC;have nP:bD s a=q::bD s (a+1):=uP h0 hq;have lW:(∀c,(bD s j).head?=some c->eH c=false)->(bD s a).takeWhile eH=u/\(bD s a).dropWhile eH=bD s j:=fun h=>by
  have:=kn (p:=eH) u (bD s j) lA h
  rw[fZ];exact this
 rcases dP (j<n)with cJ|cJ
 ·have d1:E.lti j n=true:=ZP
  obtain⟨c,eE⟩:=aU j oM cJ
  obtain⟨z,hz⟩:∃z:Int,((c.toNat:Nat):Int)=z:=⟨_,rfl⟩
  have g1:=eget j c z eE hz;have p1:=eple 0 j oM
  have dR:=uP oM eE
  cases sZ:eH c with
  |true=>
   have nF:=eY c z true hz sZ;obtain⟨j2,oA⟩:∃x:Int,j+1=x:=⟨_,rfl⟩
   have ej:=eadd j 1 oM oM oM oM
   rw[oA]at ej;have lU:I3 s n a j2:=by
    refine⟨by omega,by omega,u++[c],?_,?_,?_⟩
    ·rw[fZ,dR,<- oA];simp
    ·show(((u++[c]).length:Nat):Int)=j2-a;rw[sE,G7];omega
    ·intro x hx
     rcases kV.1 hx with hx|hx
     ·exact lA x hx
     ·rw[hY.1 hx];exact sZ
   have fU:μ j2<μ j:=pb
   clear aU eY gW elt eple eget eadd eext hn hq eC dY qK uK fZ gG lA jb tq hs nP oW lW eE hz dR sZ oA;cbv
   repeat (first|(simp only[z1];try cbv)|(simp only[d1];try cbv)|(refine⟨p1,_,g1,?_⟩;cbv)|(refine⟨_,nF,?_⟩;cbv)|(simp only[ej];try cbv))
   exact H4
  |false=>
   have nF:=eY c z false hz sZ;obtain⟨ht,n7⟩:=lW (fun x hx=>by rw[dR]at hx;cases hx;exact sZ)
   have nX:u≠[]:=fun e=>by
    rw[e,sR]at fZ;have h5:q=c:=by
     rw[nP,dR]at fZ;exact(tD fZ).1
    rw[<-h5,oW]at sZ
    cases sZ
   have jI:u.head?=some q:=by
    exact Ta
   have uV:1<=u.length:=aV.2 nX;have nN:n-((bD s j).length:Nat)=j:=by have:=qZ s j;omega
   rcases dP (q=48/\a1<j)with qG|qG
   ·have hv:=qK 4 Rc
    subst hv;have f48:decide (zq=48)=true:=aA (by rw[<-eC,qG.1];rfl)
    have d2:E.lti a1 j=true:=by rw[elt];exact aA qG.2
    clear aU eY gW elt eple eget eadd eext hn hq eC dY qK uK fZ gG lA jb tq hs nP oW lW kS ht n7 nX jI uV nN eE hz dR sZ qG;cbv
    repeat (first|(simp only[z1];try cbv)|(simp only[d1];try cbv)|(refine⟨p1,_,g1,?_⟩;cbv)|(refine⟨_,nF,?_⟩;cbv)|(refine⟨p0,_,g0,?_⟩;cbv)|(simp only[f48];try cbv)|(simp only[ei];try cbv)|(simp only[d2];try cbv))
   have uS:¬(u.head?=some 48/\1<u.length):=fun h=>qG ⟨by have:=h.1;rw[jI]at this;exact bA this,by omega⟩
   have f48:(decide (zq=48)=false)\/(decide (zq=48)=true/\E.lti a1 j=false):=by
    exact Su
   cases ar:oP c with
   |true=>
    have jY:=gW c z true hz ar;have hv:=qK 4 (by unfold rJ;rw[ht,n7,aE uS,aF (by rw[dR];exact ar)])
    subst hv
    rcases f48 with f48|⟨f48,d2⟩
    all_goals
     clear aU eY gW elt eple eget eadd eext hn hq eC dY qK uK fZ gG lA jb tq hs nP oW lW kS ht n7 nX jI uV nN eE hz dR sZ qG uS ar;cbv
     repeat (first|(simp only[z1];try cbv)|(simp only[d1];try cbv)|(refine⟨p1,_,g1,?_⟩;cbv)|(refine⟨_,nF,?_⟩;cbv)|(refine⟨p0,_,g0,?_⟩;cbv)|(simp only[f48];try cbv)|(simp only[ei];try cbv)|(simp only[d2];try cbv)|(refine⟨p1,_,g1,?_⟩;cbv)|(refine⟨_,jY,?_⟩;cbv))
   |false=>
    have jY:=gW c z false hz ar;obtain⟨T,hT⟩:∃x,s.extract a.toNat j.toNat=x:=⟨_,rfl⟩
    have jV:T.data.toList=u:=by
     exact Rm
    have b7:T.size<=2000000:=by
     have e5:T.data.toList.length=T.size:=rfl;rw[jV]at e5;omega
    have x1:=eext a j;rw[hT]at x1;have p3:=eple a j j0;have p4:=eple j n j1
    rcases dP (lC u<9223372036854775808)with cq|cq
    ·obtain⟨v,ah⟩:∃x:Int,((lC T.data.toList:Nat):Int)=x:=⟨_,rfl⟩
     have hp:=jb T v b7 ZI ZJ ZH ah
     have hv:=uK 3 u (bD s j) (by unfold rJ;rw[ht,n7,aE uS,aE (by rw[dR];show ¬oP c=true;rw[ar];decide),aE oM])
     rw[nN]at hv;exact Uc
    ·obtain⟨v,ah⟩:∃x:Int,Lib.intSat 64 T.data.toList=x:=⟨_,rfl⟩
     have hp:=tq T v b7 ZI ZJ ZH ah
     have hv:=qK 5 (by unfold rJ;rw[ht,n7,aE uS,aE (by rw[dR];show ¬oP c=true;rw[ar];decide),aF oM])
     exact Uc
 ·have d1:E.lti j n=false:=by rw[elt];exact dF cJ
  have mN:bD s j=[]:=iu oM
  obtain⟨ht,n7⟩:=lW (fun x hx=>by rw[mN]at hx;cases hx)
  have nX:u≠[]:=fun e=>by
   rw[e,sR,mN,nP]at fZ
   cases fZ
  have jI:u.head?=some q:=by
   exact Ta
  have uV:1<=u.length:=aV.2 nX;have nN:n-((bD s j).length:Nat)=j:=by have:=qZ s j;omega
  rcases dP (q=48/\a1<j)with qG|qG
  ·have hv:=qK 4 Rc
   subst hv;have f48:decide (zq=48)=true:=aA (by rw[<-eC,qG.1];rfl)
   have d2:E.lti a1 j=true:=by rw[elt];exact aA qG.2
   clear aU eY gW elt eple eget eadd eext hn hq eC dY qK uK fZ gG lA jb tq hs nP oW lW kS ht n7 nX jI uV nN mN qG;cbv
   repeat (first|(simp only[z1];try cbv)|(simp only[d1];try cbv)|(refine⟨p0,_,g0,?_⟩;cbv)|(simp only[f48];try cbv)|(simp only[ei];try cbv)|(simp only[d2];try cbv))
  have uS:¬(u.head?=some 48/\1<u.length):=fun h=>qG ⟨by have:=h.1;rw[jI]at this;exact bA this,by omega⟩
  have f48:(decide (zq=48)=false)\/(decide (zq=48)=true/\E.lti a1 j=false):=by
   exact Su
  obtain⟨T,hT⟩:∃x,s.extract a.toNat j.toNat=x:=⟨_,rfl⟩
  have jV:T.data.toList=u:=by
   exact Rm
  have b7:T.size<=2000000:=by
   have e5:T.data.toList.length=T.size:=rfl;rw[jV]at e5;omega
  have x1:=eext a j;rw[hT]at x1;have p3:=eple a j j0;have p4:=eple j n j1
  rcases dP (lC u<9223372036854775808)with cq|cq
  ·obtain⟨v,ah⟩:∃x:Int,((lC T.data.toList:Nat):Int)=x:=⟨_,rfl⟩
   have hp:=jb T v b7 ZI ZJ ZH ah
   have hv:=uK 3 u (bD s j) (by unfold rJ;rw[ht,n7,aE uS,aE (by rw[mN];simp),aE oM])
   rw[nN]at hv;exact U9
  ·obtain⟨v,ah⟩:∃x:Int,Lib.intSat 64 T.data.toList=x:=⟨_,rfl⟩
   have hp:=tq T v b7 ZI ZJ ZH ah
   have hv:=qK 5 (by unfold rJ;rw[ht,n7,aE uS,aE (by rw[mN];simp),aF oM])
   exact U9
theorem Fo(a b d:UInt8)(l:Bs):Lib.hasPrefix l [a,b,d]=decide (l.take 3=[a,b,d]):=by
 unfold Lib.hasPrefix
 match l with
 |[]=>rfl
 |[x]=>
  grind
 |[x,y]=>
  grind
 |x::y::v::l=>
  grind
theorem xb1(c:UInt8):(0<=Lib.indexByte [123,125,40,41,91,93,59,44,46,63,58,61,43,45,42,47,37,33,60,62] c/\sr.any (· == [c])=true)\/(¬0<=Lib.indexByte [123,125,40,41,91,93,59,44,46,63,58,61,43,45,42,47,37,33,60,62] c/\sr.any (· == [c])=false):=by
 have key:=aR.1 (show((List.range 256).all fun n=>decide (0<=Lib.indexByte [123,125,40,41,91,93,59,44,46,63,58,61,43,45,42,47,37,33,60,62] (UInt8.ofNat n))==sr.any (· == [UInt8.ofNat n]))=true by decide +kernel) c.toNat (cC.2 c.toNat_lt)
 rw[sP]at key
 grind
theorem z6z{E:SO}(hE:E=bK){s X1 X2 X3:ByteArray}{n z:Int}{c:UInt8}(hn:((s.size:Nat):Int)=n)(pM:1<=n)(xT:s.extract 0 1=X1)(r7:s.extract 0 2=X2)(xS:s.extract 0 3=X3)(lK:X2.data.toList=s.data.toList.take 2)(hc:s.data.toList[0]?=some c)(hz:((c.toNat:Nat):Int)=z):
  E.size s=n/\(∀a b,a<=b->E.ple a b)/\(E.ple 0 0/\E.ple 0 1/\E.ple 0 2/\E.ple 0 3/\E.ple 1 n)/\E.ext s (E.nat 0) (E.nat 1)=X1/\E.ext s (E.nat 0) (E.nat 2)=X2/\E.ext s (E.nat 0) (E.nat 3)=X3/\E.get s (E.nat 0)=some z/\(∀t:ByteArray,s.data.toList.take 2=t.data.toList->E.eq X2 t=true)/\(∀t:ByteArray,¬s.data.toList.take 2=t.data.toList->E.eq X2 t=false):=by
 subst hE;have hp:∀a b,a<=b->bK.ple a b:=fun a b h=>h
 refine⟨hn,hp,⟨hp _ _ oM,hp _ _ oM,hp _ _ oM,hp _ _ oM,hp _ _ pM⟩,xT,r7,xS,?_,fun t h=>aA (yN (by rw[lK,h])),fun t h=>dF fun e=>h (by rw[<-e,lK])⟩
 show(s.data.toList[0]?).map _=some z;rw[hc,<- hz];rfl
def ow(l:Bs):ByteArray:=bL ((rA l).getD [])
theorem Zw(s:ByteArray)(c:UInt8)(r:Bs)(dB:s.data.toList=c::r)(hs:s.size<=1000000):RL 121 [pS s] (pS (ow s.data.toList)):=by
 obtain⟨n,hn⟩:∃n:Int,((s.size:Nat):Int)=n:=⟨_,rfl⟩
 have dM:s.size=r.length+1:=by
  have e:s.data.toList.length=s.size:=rfl
  grind
 obtain⟨z,hz⟩:∃z:Int,((c.toNat:Nat):Int)=z:=⟨_,rfl⟩
 have dG:=sD (D0 s ⟨#[61,61,61]⟩);have gE:=sD (D0 s ⟨#[33,61,61]⟩);change RL _ _ (pB (Lib.hasPrefix s.data.toList [61,61,61]))at dG;change RL _ _ (pB (Lib.hasPrefix s.data.toList [33,61,61]))at gE;rw[Fo]at dG gE;have hi:=sD (IF ⟨#[123,125,40,41,91,93,59,44,46,63,58,61,43,45,42,47,37,33,60,62]⟩ c z hz);change RL _ _ (pI (Lib.indexByte [123,125,40,41,91,93,59,44,46,63,58,61,43,45,42,47,37,33,60,62] c))at hi;have kL:=xb1 c;obtain⟨i1,iI⟩:∃i:Int,Lib.indexByte [123,125,40,41,91,93,59,44,46,63,58,61,43,45,42,47,37,33,60,62] c=i:=⟨_,rfl⟩
 rw[iI]at hi kL;have lJ:∀k:Nat,(s.extract 0 k).data.toList=s.data.toList.take k:=fun k=>by rw[m9];rfl
 have qL:zO.any (· == s.data.toList.take 3)=true->ow s.data.toList=s.extract 0 3:=fun h=>by
  refine yN ?_;unfold ow rA;rw[aF h,lJ];unfold bL;simp
 have cS:zO.any (· == s.data.toList.take 3)=false->ff.any (· == s.data.toList.take 2)=true->ow s.data.toList=s.extract 0 2:=fun h3 h=>by
  refine yN ?_;unfold ow rA;rw[aE (by rw[h3];decide),aF h,lJ]
  unfold bL;simp
 have oK:zO.any (· == s.data.toList.take 3)=false->ff.any (· == s.data.toList.take 2)=false->sr.any (· == s.data.toList.take 1)=true->ow s.data.toList=s.extract 0 1:=fun h3 h2 h=>by
  refine yN ?_;unfold ow rA;rw[aE (by rw[h3];decide),aE (by rw[h2];decide),aF h,lJ]
  unfold bL;simp
 have gZ:zO.any (· == s.data.toList.take 3)=false->ff.any (· == s.data.toList.take 2)=false->sr.any (· == s.data.toList.take 1)=false->ow s.data.toList=⟨#[]⟩:=fun h3 h2 h=>by
  unfold ow rA;rw[aE (by rw[h3];decide),aE (by rw[h2];decide),aE JH]
  rfl
 have yH:s.data.toList.take 1=[c]:=by rw[dB];rfl
 obtain⟨RV,dY⟩:∃x,ow s.data.toList=x:=⟨_,rfl⟩
 rw[dY]at gZ oK cS qL ⊢;rw[yH]at gZ oK;obtain⟨X1,xT⟩:∃x,s.extract 0 1=x:=⟨_,rfl⟩
 obtain⟨X2,r7⟩:∃x,s.extract 0 2=x:=⟨_,rfl⟩
 obtain⟨X3,xS⟩:∃x,s.extract 0 3=x:=⟨_,rfl⟩
 rw[xT]at oK;rw[r7]at cS;rw[xS]at qL;have lK:X2.data.toList=s.data.toList.take 2:=by rw[<-r7,lJ]
 have pM:1<=n:=dU
 have opf:=fun{E:SO}(hE:E=bK)=>z6z hE hn pM xT r7 xS lK (show s.data.toList[0]?=some c by rw[dB];rfl) hz
 have hlen:∀(k:Nat)(l:Bs),s.data.toList.take k=l->l.length<=s.size:=fun k l h=>by
  grind
 rcases dP (s.data.toList.take 3=[61,61,61])with ha|ha
 ·have hv:=qL (by rw[ha];decide)
  rw[aA ha]at dG;have sI:3<=s.size:=hlen 3 _ ha;refine dE aN kH mixed (fun _=>0) Tryz.func121 rfl kR kR rfl fun P G E hc hE=>?_
  replace dG:=hc _ _ _ dG;obtain⟨z1,eple,⟨p00,p01,p02,p03,p1n⟩,x1,x2,x3,g0,eT,eF⟩:=opf hE;have p3n:E.ple 3 n:=eple _ _ oM
  subst hv;clear hE hc gE hi kL iI lJ gZ oK cS qL yH dY xT r7 lK eple eT eF pM opf hlen dB hz hn dM hs ha sI;exact rB
 rw[dF ha]at dG
 rcases dP (s.data.toList.take 3=[33,61,61])with hb|hb
 ·have hv:=qL (by rw[hb];decide)
  rw[aA hb]at gE;have sI:3<=s.size:=hlen 3 _ hb;refine dE aN kH mixed (fun _=>0) Tryz.func121 rfl kR kR rfl fun P G E hc hE=>?_
  replace dG:=hc _ _ _ dG;replace gE:=hc _ _ _ gE;obtain⟨z1,eple,⟨p00,p01,p02,p03,p1n⟩,x1,x2,x3,g0,eT,eF⟩:=opf hE;have p3n:E.ple 3 n:=eple _ _ oM
  subst hv;clear hE hc hi kL iI lJ gZ oK cS qL yH dY xT r7 lK eple eT eF pM opf hlen dB hz hn dM hs ha hb sI;exact rB
 rw[dF hb]at gE;have B6:zO.any (· == s.data.toList.take 3)=false:=by
  unfold zO
  grind
 replace gZ:=gZ B6;replace oK:=oK B6;replace cS:=cS B6;clear qL B6
 rcases dP (s.data.toList.take 2=[43,61])with e0|e0
 ·have hv:=cS (by rw[e0];decide)
  have sI:2<=s.size:=hlen 2 _ e0;refine dE aN kH mixed (fun _=>0) Tryz.func121 rfl kR kR rfl fun P G E hc hE=>?_
  replace dG:=hc _ _ _ dG;replace gE:=hc _ _ _ gE;obtain⟨z1,eple,⟨p00,p01,p02,p03,p1n⟩,x1,x2,x3,g0,eT,eF⟩:=opf hE;have d3:E.lti 1 n=true:=sF
  have p2n:E.ple 2 n:=eple _ _ oM
  have q:=eT ⟨#[43,61]⟩ e0;subst hv;clear hE hc hi kL iI lJ gZ oK cS yH dY xT xS lK eple eT eF pM opf hlen dB hz hn dM hs ha hb sI e0;exact rB
 rcases dP (s.data.toList.take 2=[45,61])with e1|e1
 ·have hv:=cS (by rw[e1];decide)
  have sI:2<=s.size:=hlen 2 _ e1;refine dE aN kH mixed (fun _=>0) Tryz.func121 rfl kR kR rfl fun P G E hc hE=>?_
  replace dG:=hc _ _ _ dG;replace gE:=hc _ _ _ gE;obtain⟨z1,eple,⟨p00,p01,p02,p03,p1n⟩,x1,x2,x3,g0,eT,eF⟩:=opf hE;have d3:E.lti 1 n=true:=sF
  have p2n:E.ple 2 n:=eple _ _ oM
  have q:=eT ⟨#[45,61]⟩ e1;replace e0:=eF ⟨#[43,61]⟩ e0;subst hv;clear hE hc hi kL iI lJ gZ oK cS yH dY xT xS lK eple eT eF pM opf hlen dB hz hn dM hs ha hb sI e1;exact rB
 rcases dP (s.data.toList.take 2=[42,61])with e2|e2
 ·have hv:=cS (by rw[e2];decide)
  have sI:2<=s.size:=hlen 2 _ e2;refine dE aN kH mixed (fun _=>0) Tryz.func121 rfl kR kR rfl fun P G E hc hE=>?_
  replace dG:=hc _ _ _ dG;replace gE:=hc _ _ _ gE;obtain⟨z1,eple,⟨p00,p01,p02,p03,p1n⟩,x1,x2,x3,g0,eT,eF⟩:=opf hE;have d3:E.lti 1 n=true:=sF
  have p2n:E.ple 2 n:=eple _ _ oM
  have q:=eT ⟨#[42,61]⟩ e2;replace e0:=eF ⟨#[43,61]⟩ e0;replace e1:=eF ⟨#[45,61]⟩ e1;subst hv;clear hE hc hi kL iI lJ gZ oK cS yH dY xT xS lK eple eT eF pM opf hlen dB hz hn dM hs ha hb sI e2;exact rB
 rcases dP (s.data.toList.take 2=[61,61])with e3|e3
 ·have hv:=cS (by rw[e3];decide)
  have sI:2<=s.size:=hlen 2 _ e3;refine dE aN kH mixed (fun _=>0) Tryz.func121 rfl kR kR rfl fun P G E hc hE=>?_
  replace dG:=hc _ _ _ dG;replace gE:=hc _ _ _ gE;obtain⟨z1,eple,⟨p00,p01,p02,p03,p1n⟩,x1,x2,x3,g0,eT,eF⟩:=opf hE;have d3:E.lti 1 n=true:=sF
  have p2n:E.ple 2 n:=eple _ _ oM
  have q:=eT ⟨#[61,61]⟩ e3;replace e0:=eF ⟨#[43,61]⟩ e0;replace e1:=eF ⟨#[45,61]⟩ e1;replace e2:=eF ⟨#[42,61]⟩ e2;subst hv;clear hE hc hi kL iI lJ gZ oK cS yH dY xT xS lK eple eT eF pM opf hlen dB hz hn dM hs ha hb sI e3;exact rB
 rcases dP (s.data.toList.take 2=[33,61])with e4|e4
 ·have hv:=cS (by rw[e4];decide)
  have sI:2<=s.size:=hlen 2 _ e4;refine dE aN kH mixed (fun _=>0) Tryz.func121 rfl kR kR rfl fun P G E hc hE=>?_
  replace dG:=hc _ _ _ dG;replace gE:=hc _ _ _ gE;obtain⟨z1,eple,⟨p00,p01,p02,p03,p1n⟩,x1,x2,x3,g0,eT,eF⟩:=opf hE;have d3:E.lti 1 n=true:=sF
  have p2n:E.ple 2 n:=eple _ _ oM
  have q:=eT ⟨#[33,61]⟩ e4;replace e0:=eF ⟨#[43,61]⟩ e0;replace e1:=eF ⟨#[45,61]⟩ e1;replace e2:=eF ⟨#[42,61]⟩ e2;replace e3:=eF ⟨#[61,61]⟩ e3;subst hv;clear hE hc hi kL iI lJ gZ oK cS yH dY xT xS lK eple eT eF pM opf hlen dB hz hn dM hs ha hb sI e4;exact rB
 rcases dP (s.data.toList.take 2=[60,61])with e5|e5
 ·have hv:=cS (by rw[e5];decide)
  have sI:2<=s.size:=hlen 2 _ e5;refine dE aN kH mixed (fun _=>0) Tryz.func121 rfl kR kR rfl fun P G E hc hE=>?_
  replace dG:=hc _ _ _ dG;replace gE:=hc _ _ _ gE;obtain⟨z1,eple,⟨p00,p01,p02,p03,p1n⟩,x1,x2,x3,g0,eT,eF⟩:=opf hE;have d3:E.lti 1 n=true:=sF
  have p2n:E.ple 2 n:=eple _ _ oM
  have q:=eT ⟨#[60,61]⟩ e5;replace e0:=eF ⟨#[43,61]⟩ e0;replace e1:=eF ⟨#[45,61]⟩ e1;replace e2:=eF ⟨#[42,61]⟩ e2;replace e3:=eF ⟨#[61,61]⟩ e3;replace e4:=eF ⟨#[33,61]⟩ e4;subst hv;clear hE hc hi kL iI lJ gZ oK cS yH dY xT xS lK eple eT eF pM opf hlen dB hz hn dM hs ha hb sI e5;exact rB
 rcases dP (s.data.toList.take 2=[62,61])with e6|e6
 ·have hv:=cS (by rw[e6];decide)
  have sI:2<=s.size:=hlen 2 _ e6;refine dE aN kH mixed (fun _=>0) Tryz.func121 rfl kR kR rfl fun P G E hc hE=>?_
  replace dG:=hc _ _ _ dG;replace gE:=hc _ _ _ gE;obtain⟨z1,eple,⟨p00,p01,p02,p03,p1n⟩,x1,x2,x3,g0,eT,eF⟩:=opf hE;have d3:E.lti 1 n=true:=sF
  have p2n:E.ple 2 n:=eple _ _ oM
  have q:=eT ⟨#[62,61]⟩ e6;replace e0:=eF ⟨#[43,61]⟩ e0;replace e1:=eF ⟨#[45,61]⟩ e1;replace e2:=eF ⟨#[42,61]⟩ e2;replace e3:=eF ⟨#[61,61]⟩ e3;replace e4:=eF ⟨#[33,61]⟩ e4;replace e5:=eF ⟨#[60,61]⟩ e5;subst hv;clear hE hc hi kL iI lJ gZ oK cS yH dY xT xS lK eple eT eF pM opf hlen dB hz hn dM hs ha hb sI e6;exact rB
 rcases dP (s.data.toList.take 2=[38,38])with e7|e7
 ·have hv:=cS (by rw[e7];decide)
  have sI:2<=s.size:=hlen 2 _ e7;refine dE aN kH mixed (fun _=>0) Tryz.func121 rfl kR kR rfl fun P G E hc hE=>?_
  replace dG:=hc _ _ _ dG;replace gE:=hc _ _ _ gE;obtain⟨z1,eple,⟨p00,p01,p02,p03,p1n⟩,x1,x2,x3,g0,eT,eF⟩:=opf hE;have d3:E.lti 1 n=true:=sF
  have p2n:E.ple 2 n:=eple _ _ oM
  have q:=eT ⟨#[38,38]⟩ e7;replace e0:=eF ⟨#[43,61]⟩ e0;replace e1:=eF ⟨#[45,61]⟩ e1;replace e2:=eF ⟨#[42,61]⟩ e2;replace e3:=eF ⟨#[61,61]⟩ e3;replace e4:=eF ⟨#[33,61]⟩ e4;replace e5:=eF ⟨#[60,61]⟩ e5;replace e6:=eF ⟨#[62,61]⟩ e6;subst hv;clear hE hc hi kL iI lJ gZ oK cS yH dY xT xS lK eple eT eF pM opf hlen dB hz hn dM hs ha hb sI e7;exact rB
 rcases dP (s.data.toList.take 2=[124,124])with e8|e8
 ·have hv:=cS (by rw[e8];decide)
  have sI:2<=s.size:=hlen 2 _ e8;refine dE aN kH mixed (fun _=>0) Tryz.func121 rfl kR kR rfl fun P G E hc hE=>?_
  replace dG:=hc _ _ _ dG;replace gE:=hc _ _ _ gE;obtain⟨z1,eple,⟨p00,p01,p02,p03,p1n⟩,x1,x2,x3,g0,eT,eF⟩:=opf hE;have d3:E.lti 1 n=true:=sF
  have p2n:E.ple 2 n:=eple _ _ oM
  have q:=eT ⟨#[124,124]⟩ e8;replace e0:=eF ⟨#[43,61]⟩ e0;replace e1:=eF ⟨#[45,61]⟩ e1;replace e2:=eF ⟨#[42,61]⟩ e2;replace e3:=eF ⟨#[61,61]⟩ e3;replace e4:=eF ⟨#[33,61]⟩ e4;replace e5:=eF ⟨#[60,61]⟩ e5;replace e6:=eF ⟨#[62,61]⟩ e6;replace e7:=eF ⟨#[38,38]⟩ e7;subst hv;clear hE hc hi kL iI lJ gZ oK cS yH dY xT xS lK eple eT eF pM opf hlen dB hz hn dM hs ha hb sI e8;exact rB
 rcases dP (s.data.toList.take 2=[63,63])with e9|e9
 ·have hv:=cS (by rw[e9];decide)
  have sI:2<=s.size:=hlen 2 _ e9;refine dE aN kH mixed (fun _=>0) Tryz.func121 rfl kR kR rfl fun P G E hc hE=>?_
  replace dG:=hc _ _ _ dG;replace gE:=hc _ _ _ gE;obtain⟨z1,eple,⟨p00,p01,p02,p03,p1n⟩,x1,x2,x3,g0,eT,eF⟩:=opf hE;have d3:E.lti 1 n=true:=sF
  have p2n:E.ple 2 n:=eple _ _ oM
  have q:=eT ⟨#[63,63]⟩ e9;replace e0:=eF ⟨#[43,61]⟩ e0;replace e1:=eF ⟨#[45,61]⟩ e1;replace e2:=eF ⟨#[42,61]⟩ e2;replace e3:=eF ⟨#[61,61]⟩ e3;replace e4:=eF ⟨#[33,61]⟩ e4;replace e5:=eF ⟨#[60,61]⟩ e5;replace e6:=eF ⟨#[62,61]⟩ e6;replace e7:=eF ⟨#[38,38]⟩ e7;replace e8:=eF ⟨#[124,124]⟩ e8;subst hv;clear hE hc hi kL iI lJ gZ oK cS yH dY xT xS lK eple eT eF pM opf hlen dB hz hn dM hs ha hb sI e9;exact rB
 rcases dP (s.data.toList.take 2=[61,62])with e10|e10
 ·have hv:=cS (by rw[e10];decide)
  have sI:2<=s.size:=hlen 2 _ e10;refine dE aN kH mixed (fun _=>0) Tryz.func121 rfl kR kR rfl fun P G E hc hE=>?_
  replace dG:=hc _ _ _ dG;replace gE:=hc _ _ _ gE;obtain⟨z1,eple,⟨p00,p01,p02,p03,p1n⟩,x1,x2,x3,g0,eT,eF⟩:=opf hE;have d3:E.lti 1 n=true:=sF
  have p2n:E.ple 2 n:=eple _ _ oM
  have q:=eT ⟨#[61,62]⟩ e10;replace e0:=eF ⟨#[43,61]⟩ e0;replace e1:=eF ⟨#[45,61]⟩ e1;replace e2:=eF ⟨#[42,61]⟩ e2;replace e3:=eF ⟨#[61,61]⟩ e3;replace e4:=eF ⟨#[33,61]⟩ e4;replace e5:=eF ⟨#[60,61]⟩ e5;replace e6:=eF ⟨#[62,61]⟩ e6;replace e7:=eF ⟨#[38,38]⟩ e7;replace e8:=eF ⟨#[124,124]⟩ e8;replace e9:=eF ⟨#[63,63]⟩ e9;subst hv;clear hE hc hi kL iI lJ gZ oK cS yH dY xT xS lK eple eT eF pM opf hlen dB hz hn dM hs ha hb sI e10;exact rB
 rcases dP (s.data.toList.take 2=[43,43])with e11|e11
 ·have hv:=cS (by rw[e11];decide)
  have sI:2<=s.size:=hlen 2 _ e11;refine dE aN kH mixed (fun _=>0) Tryz.func121 rfl kR kR rfl fun P G E hc hE=>?_
  replace dG:=hc _ _ _ dG;replace gE:=hc _ _ _ gE;obtain⟨z1,eple,⟨p00,p01,p02,p03,p1n⟩,x1,x2,x3,g0,eT,eF⟩:=opf hE;have d3:E.lti 1 n=true:=sF
  have p2n:E.ple 2 n:=eple _ _ oM
  have q:=eT ⟨#[43,43]⟩ e11;replace e0:=eF ⟨#[43,61]⟩ e0;replace e1:=eF ⟨#[45,61]⟩ e1;replace e2:=eF ⟨#[42,61]⟩ e2;replace e3:=eF ⟨#[61,61]⟩ e3;replace e4:=eF ⟨#[33,61]⟩ e4;replace e5:=eF ⟨#[60,61]⟩ e5;replace e6:=eF ⟨#[62,61]⟩ e6;replace e7:=eF ⟨#[38,38]⟩ e7;replace e8:=eF ⟨#[124,124]⟩ e8;replace e9:=eF ⟨#[63,63]⟩ e9;replace e10:=eF ⟨#[61,62]⟩ e10;subst hv;clear hE hc hi kL iI lJ gZ oK cS yH dY xT xS lK eple eT eF pM opf hlen dB hz hn dM hs ha hb sI e11;cbv
  repeat (first|(simp only[z1];try cbv)|(refine⟨_,dG,?_⟩;cbv)|(refine⟨_,gE,?_⟩;cbv)|(simp only[d3];try cbv)|(refine⟨p00,p02,p2n,?_⟩;cbv)|(refine⟨p02,p2n,?_⟩;cbv)|(simp only[x2];try cbv)|(simp only[e0,e1,e2,e3,e4,e5,e6,e7,e8,e9,e10,q];try cbv))
 rcases dP (s.data.toList.take 2=[45,45])with e12|e12
 ·have hv:=cS (by rw[e12];decide)
  have sI:2<=s.size:=hlen 2 _ e12;refine dE aN kH mixed (fun _=>0) Tryz.func121 rfl kR kR rfl fun P G E hc hE=>?_
  replace dG:=hc _ _ _ dG;replace gE:=hc _ _ _ gE;obtain⟨z1,eple,⟨p00,p01,p02,p03,p1n⟩,x1,x2,x3,g0,eT,eF⟩:=opf hE;have d3:E.lti 1 n=true:=sF
  have p2n:E.ple 2 n:=eple _ _ oM
  have q:=eT ⟨#[45,45]⟩ e12;replace e0:=eF ⟨#[43,61]⟩ e0;replace e1:=eF ⟨#[45,61]⟩ e1;replace e2:=eF ⟨#[42,61]⟩ e2;replace e3:=eF ⟨#[61,61]⟩ e3;replace e4:=eF ⟨#[33,61]⟩ e4;replace e5:=eF ⟨#[60,61]⟩ e5;replace e6:=eF ⟨#[62,61]⟩ e6;replace e7:=eF ⟨#[38,38]⟩ e7;replace e8:=eF ⟨#[124,124]⟩ e8;replace e9:=eF ⟨#[63,63]⟩ e9;replace e10:=eF ⟨#[61,62]⟩ e10;replace e11:=eF ⟨#[43,43]⟩ e11;subst hv;clear hE hc hi kL iI lJ gZ oK cS yH dY xT xS lK eple eT eF pM opf hlen dB hz hn dM hs ha hb sI e12;cbv
  repeat (first|(simp only[z1];try cbv)|(refine⟨_,dG,?_⟩;cbv)|(refine⟨_,gE,?_⟩;cbv)|(simp only[d3];try cbv)|(refine⟨p00,p02,p2n,?_⟩;cbv)|(refine⟨p02,p2n,?_⟩;cbv)|(simp only[x2];try cbv)|(simp only[e0,e1,e2,e3,e4,e5,e6,e7,e8,e9,e10,e11,q];try cbv))
 have Jw:ff.any (· == s.data.toList.take 2)=false:=by
  unfold ff;simp only[KS,List.any_nil,kG,dJ,oY]
  grind
 replace gZ:=gZ Jw;replace oK:=oK Jw;clear cS Jw
 rcases dP (1<n)with y8|y8
 ·skip
  rcases kL with⟨lg,dt⟩|⟨lg,dt⟩
  ·have hv:=oK dt;refine dE aN kH mixed (fun _=>0) Tryz.func121 rfl kR kR rfl fun P G E hc hE=>?_
   replace dG:=hc _ _ _ dG;replace gE:=hc _ _ _ gE;replace hi:=hc _ _ _ hi;obtain⟨z1,eple,⟨p00,p01,p02,p03,p1n⟩,x1,x2,x3,g0,eT,eF⟩:=opf hE;have d4:E.lei 0 i1=decide (0<=i1):=fS
   rw[aA lg]at d4;have d3:E.lti 1 n=true:=by rw[hE];exact aA y8
   have p2n:E.ple 2 n:=eple _ _ oM
   replace e0:=eF ⟨#[43,61]⟩ e0;replace e1:=eF ⟨#[45,61]⟩ e1;replace e2:=eF ⟨#[42,61]⟩ e2;replace e3:=eF ⟨#[61,61]⟩ e3;replace e4:=eF ⟨#[33,61]⟩ e4;replace e5:=eF ⟨#[60,61]⟩ e5;replace e6:=eF ⟨#[62,61]⟩ e6;replace e7:=eF ⟨#[38,38]⟩ e7;replace e8:=eF ⟨#[124,124]⟩ e8;replace e9:=eF ⟨#[63,63]⟩ e9;replace e10:=eF ⟨#[61,62]⟩ e10;replace e11:=eF ⟨#[43,43]⟩ e11;replace e12:=eF ⟨#[45,45]⟩ e12;subst hv;clear hE hc iI lJ gZ oK yH dY r7 xS lK eple eT eF pM opf hlen dB hz hn dM hs ha hb y8 lg dt;cbv
   repeat (first|(simp only[z1];try cbv)|(refine⟨_,dG,?_⟩;cbv)|(refine⟨_,gE,?_⟩;cbv)|(simp only[d3];try cbv)|(refine⟨p00,p02,p2n,?_⟩;cbv)|(refine⟨p02,p2n,?_⟩;cbv)|(simp only[x2];try cbv)|(simp only[e0,e1,e2,e3,e4,e5,e6,e7,e8,e9,e10,e11,e12];try cbv)|(refine⟨p00,_,g0,?_⟩;cbv)|(refine⟨_,hi,?_⟩;cbv)|(simp only[d4];try cbv)|grind|grind|(simp only[x1];try cbv))
  ·have hv:=gZ dt;refine dE aN kH mixed (fun _=>0) Tryz.func121 rfl kR kR rfl fun P G E hc hE=>?_
   replace dG:=hc _ _ _ dG;replace gE:=hc _ _ _ gE;replace hi:=hc _ _ _ hi;obtain⟨z1,eple,⟨p00,p01,p02,p03,p1n⟩,x1,x2,x3,g0,eT,eF⟩:=opf hE;have d4:E.lei 0 i1=decide (0<=i1):=fS
   rw[dF lg]at d4;have d3:E.lti 1 n=true:=by rw[hE];exact aA y8
   have p2n:E.ple 2 n:=eple _ _ oM
   replace e0:=eF ⟨#[43,61]⟩ e0;replace e1:=eF ⟨#[45,61]⟩ e1;replace e2:=eF ⟨#[42,61]⟩ e2;replace e3:=eF ⟨#[61,61]⟩ e3;replace e4:=eF ⟨#[33,61]⟩ e4;replace e5:=eF ⟨#[60,61]⟩ e5;replace e6:=eF ⟨#[62,61]⟩ e6;replace e7:=eF ⟨#[38,38]⟩ e7;replace e8:=eF ⟨#[124,124]⟩ e8;replace e9:=eF ⟨#[63,63]⟩ e9;replace e10:=eF ⟨#[61,62]⟩ e10;replace e11:=eF ⟨#[43,43]⟩ e11;replace e12:=eF ⟨#[45,45]⟩ e12;subst hv;clear hE hc iI lJ gZ oK yH dY xT r7 xS lK eple eT eF pM opf hlen dB hz hn dM hs ha hb y8 lg dt;cbv
   repeat (first|(simp only[z1];try cbv)|(refine⟨_,dG,?_⟩;cbv)|(refine⟨_,gE,?_⟩;cbv)|(simp only[d3];try cbv)|(refine⟨p00,p02,p2n,?_⟩;cbv)|(refine⟨p02,p2n,?_⟩;cbv)|(simp only[x2];try cbv)|(simp only[e0,e1,e2,e3,e4,e5,e6,e7,e8,e9,e10,e11,e12];try cbv)|(refine⟨p00,_,g0,?_⟩;cbv)|(refine⟨_,hi,?_⟩;cbv)|(simp only[d4];try cbv))
 ·skip
  rcases kL with⟨lg,dt⟩|⟨lg,dt⟩
  ·have hv:=oK dt;refine dE aN kH mixed (fun _=>0) Tryz.func121 rfl kR kR rfl fun P G E hc hE=>?_
   replace dG:=hc _ _ _ dG;replace gE:=hc _ _ _ gE;replace hi:=hc _ _ _ hi;obtain⟨z1,eple,⟨p00,p01,p02,p03,p1n⟩,x1,x2,x3,g0,eT,eF⟩:=opf hE;have d4:E.lei 0 i1=decide (0<=i1):=fS
   rw[aA lg]at d4;have d3:E.lti 1 n=false:=by rw[hE];exact dF y8
   subst hv;clear hE hc iI lJ gZ oK yH dY r7 xS lK eple eT eF pM opf hlen dB hz hn dM hs ha hb y8 lg dt e0 e1 e2 e3 e4 e5 e6 e7 e8 e9 e10 e11 e12;exact rB
  ·have hv:=gZ dt;refine dE aN kH mixed (fun _=>0) Tryz.func121 rfl kR kR rfl fun P G E hc hE=>?_
   replace dG:=hc _ _ _ dG;replace gE:=hc _ _ _ gE;replace hi:=hc _ _ _ hi;obtain⟨z1,eple,⟨p00,p01,p02,p03,p1n⟩,x1,x2,x3,g0,eT,eF⟩:=opf hE;have d4:E.lei 0 i1=decide (0<=i1):=fS
   rw[dF lg]at d4;have d3:E.lti 1 n=false:=by rw[hE];exact dF y8
   subst hv;clear hE hc iI lJ gZ oK yH dY xT r7 xS lK eple eT eF pM opf hlen dB hz hn dM hs ha hb y8 lg dt e0 e1 e2 e3 e4 e5 e6 e7 e8 e9 e10 e11 e12;exact rB
def kt(k:Int)(t:Bs)(a:Int):PV:=.agg [pI k,pS (bL t),pI a]
def rj(s:ByteArray)(a:Int):PV:=match jQ uB gD (bD s a)with
 | .bad e=>.tup [.agg [pI 0,pS ⟨#[]⟩,pI 0],pI a,pI e]
 | .ok k t r=>.tup [kt k t a,pI ((s.size:Nat)-(r.length:Nat)),pI 0]
theorem XB{s:ByteArray}{a e:Int}(h:jQ uB gD (bD s a)=.bad e):rj s a=.tup [.agg [pI 0,pS ⟨#[]⟩,pI 0],pI a,pI e]:=by unfold rj;rw[h]
theorem LQ{s:ByteArray}{a k:Int}{t r:Bs}(h:jQ uB gD (bD s a)=.ok k t r):rj s a=.tup [kt k t a,pI ((s.size:Nat)-(r.length:Nat)),pI 0]:=by unfold rj;rw[h]
abbrev lY:cH:=.box [.p (pI 0),.p (pS ⟨#[]⟩),.p (pI 0)] 59 none
abbrev pG(k:Int)(t:ByteArray)(a:Int):cH:=.box [.p (pI k),.p (pS t),.p (pI a)] 59 none
structure zx(s:ByteArray)(n a:Int)(j:Int):Prop where
 j0:a<=j
 j1:j<=n
 u:∃u:Bs,bD s a=u++bD s j/\(u.length:Int)=j-a/\∀c∈u,nE c=true
theorem z2i(s:ByteArray)(a:Int)(q:UInt8)(h0:0<=a)(hq:s.data.toList[a.toNat]?=some q)(hl:oP q=true)(hs:s.size<=900000):RL 94 [pS s,pI a] (rj s a):=by
 obtain⟨n,hn⟩:∃n:Int,((s.size:Nat):Int)=n:=⟨_,rfl⟩
 have h1:a<n:=by
  exact JU
 obtain⟨zq,eC⟩:∃z:Int,((q.toNat:Nat):Int)=z:=⟨_,rfl⟩
 have nP:bD s a=q::bD s (a+1):=uP h0 hq;have jY:=GR q zq true eC hl;have eS:=qZ s a;obtain⟨W,hW⟩:∃x,(bD s a).takeWhile nE=x:=⟨_,rfl⟩
 obtain⟨D,hD⟩:∃x,(bD s a).dropWhile nE=x:=⟨_,rfl⟩
 have AQ:bD s a=W++D:=R8
 have hlen:(bD s a).length=W.length+D.length:=aZ
 obtain⟨e1,qT⟩:∃x:Int,n-(D.length:Nat)=x:=⟨_,rfl⟩
 have sH:rj s a=.tup [kt (if mh W then 2 else 1) W a,pI e1,pI 0]:=by
  rw[<-qT,<- hn];refine LQ ?_;rw[nP]at hW hD ⊢;rw[jQ,aF hl,hW,hD]
 rw[sH];unfold kt;have vE:=sD (z7u (bL W));have KN:(bL W).data.toList=W:=JK
 rw[KN]at vE;have ib:s.extract a.toNat e1.toNat=bL W:=by
  refine yN ?_;rw[KN,yw,AQ,show e1.toNat-a.toNat=W.length by omega,qV]
 obtain⟨T,hT⟩:∃x,bL W=x:=⟨_,rfl⟩
 rw[hT]at ib vE;rw[hT];obtain⟨kb,FM⟩:∃x,mh W=x:=⟨_,rfl⟩
 rw[FM]at vE ⊢;have eY:=fun(c:UInt8)(z:Int)(b:Bool)(hz:((c.toNat:Nat):Int)=z)(hb:eH c=b)=>MV c z b hz hb
 have gW:=fun(c:UInt8)(z:Int)(b:Bool)(hz:((c.toNat:Nat):Int)=z)(hb:oP c=b)=>GR c z b hz hb
 have UQ:a<=e1:=dU
 have wF:e1<=n:=dU
 have cV:∀j,zx s n a j->(∀c,(bD s j).head?=some c->nE c=false)->j=e1:=fun j hj h=>by
  obtain⟨j0,j1,u,fZ,gG,lA⟩:=hj;have h5:=kn (p:=nE) u (bD s j) lA h
  grind
 have aU:∀i:Int,0<=i->i<n->∃c,s.data.toList[i.toNat]?=some c:=fun i iF iI=>⟨_,aB bw⟩
 obtain⟨μ,hμ⟩:∃μ:Int->Nat,∀x,μ x=2000000000-x.toNat:=⟨_,fun _=>rfl⟩
 have jK:zx s n a a:=⟨bU _,by omega,[],rfl,by grind,fun c hc=>(by cases hc)⟩
 clear sH FM KN hW hD hT AQ hlen nP hl;refine zZ aN kH (f:=94) Tryz.func94 rfl kR (oT kR) ?_
 refine aY.cutK 3 114 [0,1,4,7,8] 2 (fun _:Unit=>[.p (pS s),.p (pI a),.own 0 0,.own 1 0,.p (.v (.int .u8 zq))]) (fun _=>[some lY,some (pG 0 ⟨#[]⟩ a)]) (fun _=>True) aN mixed (fun _=>0) (fun E=>jF E cK Tryz.f94.results.toList (.tup [.agg [pI (if kb=true then 2 else 1),pS T,pI a],pI e1,pI 0])) kR ?_ ?_
 ·intro P G E hc hM hE;have g0:E.get s (E.nat a)=some zq:=by
   rw[hE];show(s.data.toList[a.toNat]?).map _=some zq
   grind
  have p0:E.ple 0 a:=wT
  clear hE hc hM jK;exact td
 intro _ _;refine aY.never ?_;refine aY.block ?_;refine aY.cut 114 [0,1,4,7,8,19] 2 (fun _:Unit=>[.p (pS s),.p (pI a),.own 0 0,.own 1 0,.p (.v (.int .u8 zq)),.p (pB true)]) (fun _=>[some lY,some (pG 0 ⟨#[]⟩ a)]) (fun _=>True) ?_ ?_
 ·refine aY.of0 aN mixed (fun _=>0) kR fun P G E hc hM hE=>?_
  replace jY:=hc _ _ _ jY;clear hE hc hM jK;exact td
 intro _ _;refine aY.condT rfl ?_;refine aY.cutK 2 114 [0,1,4,7,9] 2 (fun _:Unit=>[.p (pS s),.p (pI a),.own 0 0,.own 1 0,.p (pI e1)]) (fun _=>[some lY,some (pG 0 ⟨#[]⟩ a)]) (fun _=>True) aN mixed (fun _=>0) (fun E=>km 0 (nB (fun _ _=>False) (jF E cK Tryz.f94.results.toList (.tup [.agg [pI (if kb=true then 2 else 1),pS T,pI a],pI e1,pI 0])))) kR ?_ ?_
 ·intro P G E hc hM hE;replace eY:=fun(c:UInt8)(z:Int)(b:Bool)(hz:((c.toNat:Nat):Int)=z)(hb:eH c=b)=>hc _ _ _ (eY c z b hz hb)
  replace gW:=fun(c:UInt8)(z:Int)(b:Bool)(hz:((c.toNat:Nat):Int)=z)(hb:oP c=b)=>hc _ _ _ (gW c z b hz hb)
  have z1:E.size s=n:=iS
  have elt:=xV hE;have eple:=uA hE;have eget:∀(i:Int)(c:UInt8)(z:Int),s.data.toList[i.toNat]?=some c->((c.toNat:Nat):Int)=z->E.get s (E.nat i)=some z:=fun i c z h hz=>by
   exact A1
  have eadd:=su hE;clear hE hc hM vE jY ib;cbv;refine gU 114 [0,1,4,7,9] 2 (fun x:Int=>[.p (pS s),.p (pI a),.own 0 0,.own 1 0,.p (pI x)]) (fun _=>[some lY,some (pG 0 ⟨#[]⟩ a)]) (zx s n a) μ a r5 jK ?_
  clear jK;intro j hj;replace hn:((s.size:Nat):Int)=n:=hn;have lu:=cV j hj;obtain⟨j0,j1,u,fZ,gG,lA⟩:=hj;replace gG:((u.length:Nat):Int)=j-a:=gG
  rcases dP (j<n)with cJ|cJ
  ·have d1:E.lti j n=true:=aZ
   obtain⟨c,eE⟩:=aU j oM cJ
   obtain⟨z,hz⟩:∃z:Int,((c.toNat:Nat):Int)=z:=⟨_,rfl⟩
   have g1:=eget j c z eE hz;have p1:=eple 0 j oM
   have dR:=uP oM eE
   cases fu:nE c with
   |true=>
    obtain⟨j2,oA⟩:∃x:Int,j+1=x:=⟨_,rfl⟩
    have ej:=eadd j 1 oM oM oM oM
    rw[oA]at ej;have lU:zx s n a j2:=by
     refine⟨by omega,by omega,u++[c],?_,?_,?_⟩
     ·grind
     ·grind
     grind
    have fU:μ j2<μ j:=pb
    cases ar:oP c with
    |true=>
     have hk:=gW c z true hz ar;clear aU eY gW elt eple eget eadd hn hq eC fZ gG lA hs eE hz dR oA cV lu fu ar hμ qT eS;cbv;refine mP ?_;exact H4
    |false=>
     have hk:=gW c z false hz ar;have sZ:eH c=true:=by unfold nE at fu;grind
     have yG:=eY c z true hz sZ;clear aU eY gW elt eple eget eadd hn hq eC fZ gG lA hs eE hz dR oA cV lu fu ar hμ qT eS sZ;cbv;refine mP ?_;exact H4
   |false=>
    have FN:=lu (fun x hx=>by grind)
    have vV:=fu;unfold nE at vV;simp only[dJ]at vV;have hk:=gW c z false hz vV.1;have yG:=eY c z false hz vV.2;subst FN;clear aU eY gW elt eple eget eadd hn hq eC fZ gG lA hs eE hz dR cV lu fu vV hμ qT eS;exact td
  ·have d1:E.lti j n=false:=aZ
   have mN:bD s j=[]:=iu oM
   have FN:=lu (fun x hx=>by grind)
   subst FN;clear aU eY gW elt eple eget eadd hn hq eC fZ gG lA hs cV lu hμ qT eS mN;exact td
 intro _ _;refine aY.cut 114 [0,1,4,7,9] 2 (fun _:Unit=>[.p (pS s),.p (pI a),.own 0 0,.own 1 0,.p (pI e1)]) (fun _=>[some lY,some (pG 1 T a)]) (fun _=>True) ?_ ?_
 ·refine aY.regM aN mixed 8 [5,7] (fun i=>match i with|5=>1|7=>2|_=>0) kR (fun _=>nB (lZ 114 [0,1,4,7,9] 2 (fun _:Unit=>[.p (pS s),.p (pI a),.own 0 0,.own 1 0,.p (pI e1)]) (fun _=>[some lY,some (pG 1 T a)]) (fun _=>True)) (km 0 (nB (fun _ _=>False) (jF bK cK Tryz.f94.results.toList (.tup [.agg [pI (if kb=true then 2 else 1),pS T,pI a],pI e1,pI 0]))))) fun P G E hc hM hE=>?_
  have z1:E.size s=n:=iS
  have p1:E.ple 0 a:=wT
  have p2:E.ple a e1:=by rw[hE];exact UQ
  have p3:E.ple e1 n:=by rw[hE];exact wF
  have x1:E.ext s (E.nat a) (E.nat e1)=T:=by rw[hE];exact ib
  clear hE hc hM vE jY ib eY gW cV aU jK hn hq eC;exact Tu
 intro _ _;refine aY.of aN mixed (fun _=>0) kR (fun E=>km 0 (nB (fun _ _=>False) (jF E cK Tryz.f94.results.toList (.tup [.agg [pI (if kb=true then 2 else 1),pS T,pI a],pI e1,pI 0])))) fun P G E hc hM hE=>?_
 replace vE:=hc _ _ _ vE;clear hE hc hM jY ib eY gW cV aU jK hn hq eC
 cases kb
 all_goals
  exact rB
theorem xb2{l t r:Bs}{k:Int}(h:rJ l=.ok k t r):k=3/\l=t++r:=by
 exact Sb
theorem Ku{l:Bs}{e:Int}(h:rJ l=.bad e):e≠0:=by
 unfold rJ at h
 grind
theorem z68(s:ByteArray)(a:Int)(q:UInt8)(h0:0<=a)(hq:s.data.toList[a.toNat]?=some q)(hl:oP q=false)(hd:eH q=true)(hs:s.size<=900000):RL 94 [pS s,pI a] (rj s a):=by
 obtain⟨n,hn⟩:∃n:Int,((s.size:Nat):Int)=n:=⟨_,rfl⟩
 have h1:a<n:=by
  exact JU
 obtain⟨zq,eC⟩:∃z:Int,((q.toNat:Nat):Int)=z:=⟨_,rfl⟩
 have nP:bD s a=q::bD s (a+1):=uP h0 hq;have jY:=GR q zq false eC hl;have nF:=MV q zq true eC hd;have gk:=Xi s a q h0 hq hd oM
 have eS:=qZ s a;have dL:jQ uB gD (bD s a)=rJ (bD s a):=by
  rw[nP,jQ,aE JI,aF hd]
 unfold NU at gk
 cases li:rJ (bD s a)with
 |bad e=>
  rw[li]at dL gk;simp only at gk;rw[XB dL];have he:=Ku li;have f1:decide (e=0)=false:=dF he;clear dL li nP;refine zZ aN kH (f:=94) Tryz.func94 rfl kR (oT kR) ?_
  refine aY.cutK 3 114 [0,1,4,7,8] 2 (fun _:Unit=>[.p (pS s),.p (pI a),.own 0 0,.own 1 0,.p (.v (.int .u8 zq))]) (fun _=>[some lY,some (pG 0 ⟨#[]⟩ a)]) (fun _=>True) aN mixed (fun _=>0) (fun E=>jF E cK Tryz.f94.results.toList (.tup [.agg [pI 0,pS ⟨#[]⟩,pI 0],pI a,pI e])) kR ?_ ?_
  ·exact JT
  intro _ _;refine aY.never ?_;refine aY.block ?_;refine aY.cut 114 [0,1,4,7,8,19] 2 (fun _:Unit=>[.p (pS s),.p (pI a),.own 0 0,.own 1 0,.p (.v (.int .u8 zq)),.p (pB false)]) (fun _=>[some lY,some (pG 0 ⟨#[]⟩ a)]) (fun _=>True) ?_ ?_
  ·exact RH
  intro _ _;refine aY.condF rfl ?_;refine aY.cut 114 [0,1,4,7,8,53] 2 (fun _:Unit=>[.p (pS s),.p (pI a),.own 0 0,.own 1 0,.p (.v (.int .u8 zq)),.p (pB true)]) (fun _=>[some lY,some (pG 0 ⟨#[]⟩ a)]) (fun _=>True) ?_ ?_
  ·exact RI
  intro _ _;refine aY.condT rfl ?_;refine aY.cutK 2 114 [] 0 (fun _:Unit=>[]) (fun _=>[]) (fun _=>False) aN mixed (fun _=>0) (fun E=>km 0 (nB (fun _ _=>False) (jF E cK Tryz.f94.results.toList (.tup [.agg [pI 0,pS ⟨#[]⟩,pI 0],pI a,pI e])))) kR ?_ (fun _ h=>h.elim)
  intro P G E hc hM hE;replace gk:=hc _ _ _ gk;clear hE hc hM;cbv;exact mP trivial
 |ok k t r=>
  rw[li]at dL gk;simp only at gk;obtain⟨rfl,V1⟩:=xb2 li;have hlen:(bD s a).length=t.length+r.length:=aZ
  obtain⟨e1,qT⟩:∃x:Int,n-(r.length:Nat)=x:=⟨_,rfl⟩
  rw[LQ dL];unfold kt;rw[hn,qT]at gk ⊢;have KN:(bL t).data.toList=t:=JK
  have ib:s.extract a.toNat e1.toNat=bL t:=by
   refine yN ?_;rw[KN,yw,V1,show e1.toNat-a.toNat=t.length by omega,qV]
  obtain⟨T,hT⟩:∃x,bL t=x:=⟨_,rfl⟩
  rw[hT]at ib;rw[hT];have UQ:a<=e1:=dU
  have wF:e1<=n:=dU
  clear dL li nP KN V1 hT hlen qT;refine zZ aN kH (f:=94) Tryz.func94 rfl kR (oT kR) ?_
  refine aY.cutK 3 114 [0,1,4,7,8] 2 (fun _:Unit=>[.p (pS s),.p (pI a),.own 0 0,.own 1 0,.p (.v (.int .u8 zq))]) (fun _=>[some lY,some (pG 0 ⟨#[]⟩ a)]) (fun _=>True) aN mixed (fun _=>0) (fun E=>jF E cK Tryz.f94.results.toList (.tup [.agg [pI 3,pS T,pI a],pI e1,pI 0])) kR ?_ ?_
  ·exact JT
  intro _ _;refine aY.never ?_;refine aY.block ?_;refine aY.cut 114 [0,1,4,7,8,19] 2 (fun _:Unit=>[.p (pS s),.p (pI a),.own 0 0,.own 1 0,.p (.v (.int .u8 zq)),.p (pB false)]) (fun _=>[some lY,some (pG 0 ⟨#[]⟩ a)]) (fun _=>True) ?_ ?_
  ·exact RH
  intro _ _;refine aY.condF rfl ?_;refine aY.cut 114 [0,1,4,7,8,53] 2 (fun _:Unit=>[.p (pS s),.p (pI a),.own 0 0,.own 1 0,.p (.v (.int .u8 zq)),.p (pB true)]) (fun _=>[some lY,some (pG 0 ⟨#[]⟩ a)]) (fun _=>True) ?_ ?_
  ·exact RI
  intro _ _;refine aY.condT rfl ?_;refine aY.cutK 2 114 [0,1,4,7,10] 2 (fun _:Unit=>[.p (pS s),.p (pI a),.own 0 0,.own 1 0,.p (pI e1)]) (fun _=>[some lY,some (pG 0 ⟨#[]⟩ a)]) (fun _=>True) aN mixed (fun _=>0) (fun E=>km 0 (nB (fun _ _=>False) (jF E cK Tryz.f94.results.toList (.tup [.agg [pI 3,pS T,pI a],pI e1,pI 0])))) kR ?_ ?_
  ·intro P G E hc hM hE;replace gk:=hc _ _ _ gk;clear hE hc hM;exact td
  intro _ _;refine aY.cut 114 [0,1,4,7,10] 2 (fun _:Unit=>[.p (pS s),.p (pI a),.own 0 0,.own 1 0,.p (pI e1)]) (fun _=>[some lY,some (pG 3 T a)]) (fun _=>True) ?_ ?_
  ·refine aY.regM aN mixed 8 [5,7] (fun i=>match i with|5=>1|7=>2|_=>0) kR (fun _=>nB (lZ 114 [0,1,4,7,10] 2 (fun _:Unit=>[.p (pS s),.p (pI a),.own 0 0,.own 1 0,.p (pI e1)]) (fun _=>[some lY,some (pG 3 T a)]) (fun _=>True)) (km 0 (nB (fun _ _=>False) (jF bK cK Tryz.f94.results.toList (.tup [.agg [pI 3,pS T,pI a],pI e1,pI 0]))))) fun P G E hc hM hE=>?_
   have z1:E.size s=n:=iS
   have p1:E.ple 0 a:=wT
   have p2:E.ple a e1:=by rw[hE];exact UQ
   have p3:E.ple e1 n:=by rw[hE];exact wF
   have x1:E.ext s (E.nat a) (E.nat e1)=T:=by rw[hE];exact ib
   clear hE hc hM jY ib nF gk hn hq eC;exact Tu
  intro _ _;refine aY.of aN mixed (fun _=>0) kR (fun E=>km 0 (nB (fun _ _=>False) (jF E cK Tryz.f94.results.toList (.tup [.agg [pI 3,pS T,pI a],pI e1,pI 0])))) fun P G E hc hM hE=>?_
  clear hE hc hM jY ib nF gk hn hq eC;cbv;all_goals trivial
theorem Q9{q:UInt8}(h:q=34\/q=39):oP q=false/\eH q=false:=by
 rcases h with rfl|rfl<;>decide
theorem z66(s:ByteArray)(a:Int)(q:UInt8)(h0:0<=a)(hq:s.data.toList[a.toNat]?=some q)(sV:q=34\/q=39)(hs:s.size<=900000):RL 94 [pS s,pI a] (rj s a):=by
 obtain⟨n,hn⟩:∃n:Int,((s.size:Nat):Int)=n:=⟨_,rfl⟩
 have h1:a<n:=by
  exact JU
 obtain⟨zq,eC⟩:∃z:Int,((q.toNat:Nat):Int)=z:=⟨_,rfl⟩
 have nP:bD s a=q::bD s (a+1):=uP h0 hq;obtain⟨hl,hd⟩:=Q9 sV;have jY:=GR q zq false eC hl;have nF:=MV q zq false eC hd;have uI:=Z9 s a q h0 hq hs;have eS:=qZ s (a+1);have dL:jQ uB gD (bD s a)=match lit uB q (bD s (a+1))with
  |none=>.bad 4
  |some z=>.ok 4 (gD z.1) z.2:=by
  rw[nP,jQ,aE JI,aE QZ,aF sV]
  grind
 unfold MZ at uI;have hf:(decide (zq=34)=true/\True)\/(decide (zq=34)=false/\decide (zq=39)=true):=by
  rcases sV with rfl|rfl
  ·grind
  grind
 cases wA:lit uB q (bD s (a+1))with
 |none=>
  rw[wA]at dL uI;simp only at uI dL;rw[XB dL];have f3:decide ((0:Int)=0)=true:=rfl;clear dL wA nP sV hl hd
  rcases hf with⟨f1,f2⟩|⟨f1,f2⟩
  ·skip
   exact Uk
  ·skip
   exact Uk
 |some p=>
  obtain⟨t,r⟩:=p;rw[wA]at dL uI;simp only at uI dL;rw[LQ dL];unfold kt;obtain⟨u,fZ,gG,_⟩:=Bu uB q _ _ _ wA;have hlen:(bD s (a+1)).length=u.length+r.length:=aZ
  obtain⟨e1,qT⟩:∃x:Int,n-(r.length:Nat)=x:=⟨_,rfl⟩
  rw[hn,qT]at uI ⊢;have f3:decide (e1=0)=false:=dF oM
  have jn:(bL t).data.toList=t:=JK
  have sT:bq (bL t)=bL (gD t):=by
   unfold bq;rfl
  rw[sT]at uI;obtain⟨T,hT⟩:∃x,bL (gD t)=x:=⟨_,rfl⟩
  rw[hT]at uI;rw[hT];clear dL wA nP sV hl hd fZ gG hlen qT jn sT hT
  rcases hf with⟨f1,f2⟩|⟨f1,f2⟩
  ·skip
   exact Uj
  ·skip
   exact Uj
theorem xb7(s:ByteArray)(a:Int)(q:UInt8)(h0:0<=a)(hq:s.data.toList[a.toNat]?=some q)(hl:oP q=false)(hd:eH q=false)(sV:¬(q=34\/q=39))(hs:s.size<=900000):RL 94 [pS s,pI a] (rj s a):=by
 obtain⟨n,hn⟩:∃n:Int,((s.size:Nat):Int)=n:=⟨_,rfl⟩
 have h1:a<n:=by
  exact JU
 obtain⟨zq,eC⟩:∃z:Int,((q.toNat:Nat):Int)=z:=⟨_,rfl⟩
 have nP:bD s a=q::bD s (a+1):=uP h0 hq;have jY:=GR q zq false eC hl;have nF:=MV q zq false eC hd;have eS:=qZ s a;have f1:decide (zq=34)=false:=gP eC 34 fun e=>sV (.inl e)
 have f2:decide (zq=39)=false:=gP eC 39 fun e=>sV (.inr e)
 have dL:jQ uB gD (bD s a)=match rA (bD s a)with
  |none=>.bad 4
  |some w=>.ok 5 w ((bD s a).drop w.length):=by
  rw[nP,jQ,aE JI,aE QZ,aE sV]
  grind
 obtain⟨X,hX⟩:∃x,s.extract a.toNat n.toNat=x:=⟨_,rfl⟩
 have B3:X.data.toList=bD s a:=by
  rw[<-hX,yw];exact ZY
 have Jj:X.size<=1000000:=by
  have e5:X.data.toList.length=X.size:=rfl
  grind
 have nT:=Zw X q (bD s (a+1)) (by rw[B3,nP]) Jj
 unfold ow at nT;rw[B3]at nT
 cases ho:rA (bD s a)with
 |none=>
  rw[ho]at dL nT;simp only at dL;rw[XB dL];change RL _ _ (pS ⟨#[]⟩)at nT;clear dL ho nP sV hl hd B3 Jj;refine zZ aN kH (f:=94) Tryz.func94 rfl kR (oT kR) ?_
  refine aY.cutK 3 114 [0,1,4,7,8] 2 (fun _:Unit=>[.p (pS s),.p (pI a),.own 0 0,.own 1 0,.p (.v (.int .u8 zq))]) (fun _=>[some lY,some (pG 0 ⟨#[]⟩ a)]) (fun _=>True) aN mixed (fun _=>0) (fun E=>jF E cK Tryz.f94.results.toList (.tup [.agg [pI 0,pS ⟨#[]⟩,pI 0],pI a,pI 4])) kR ?_ ?_
  ·exact JT
  intro _ _;refine aY.cut 114 [0,1,4,7] 2 (fun _:Unit=>[.p (pS s),.p (pI a),.own 0 0,.own 1 0]) (fun _=>[some lY,some (pG 0 ⟨#[]⟩ a)]) (fun _=>True) ?_ ?_
  ·exact Uh
  intro _ _;refine aY.cutK 2 114 [] 0 (fun _:Unit=>[]) (fun _=>[]) (fun _=>False) aN mixed (fun _=>0) (fun E=>jF E cK Tryz.f94.results.toList (.tup [.agg [pI 0,pS ⟨#[]⟩,pI 0],pI a,pI 4])) kR ?_ (fun _ h=>h.elim)
  intro P G E hc hM hE;replace nT:=hc _ _ _ nT;have z1:E.size s=n:=iS
  have p1:E.ple 0 a:=wT
  have p2:E.ple a n:=by rw[hE];show a<=n;omega
  have p3:E.ple n n:=by rw[hE];exact bU _
  have x1:E.ext s (E.nat a) (E.nat n)=X:=by rw[hE];exact hX
  have f3:E.eq ⟨#[]⟩ ⟨#[]⟩=true:=by rw[hE];exact aA (show(⟨#[]⟩:ByteArray)=⟨#[]⟩from rfl)
  clear hE hc hM jY nF hn hq eC hX;cbv;exact mP trivial
 |some w=>
  rw[ho]at dL nT;simp only at dL;rw[LQ dL];unfold kt;change RL _ _ (pS (bL w))at nT;obtain⟨mu,lf,Ig⟩:=XC ho;have hlen:((bD s a).drop w.length).length=(bD s a).length-w.length:=yR;have SH:(bL w).size=w.length:=rfl;have mw:0<w.length:=aV.2 mu;obtain⟨T,hT⟩:∃x,bL w=x:=⟨_,rfl⟩
  rw[hT]at nT SH;rw[hT];obtain⟨m,hm⟩:∃x:Int,((T.size:Nat):Int)=x:=⟨_,rfl⟩
  obtain⟨e1,qT⟩:∃x:Int,a+m=x:=⟨_,rfl⟩
  rw[hn,show n-(((bD s a).drop w.length).length:Nat)=e1 by omega]
  have B4:T≠⟨#[]⟩:=fun e=>by
   rw[e]at SH
   have:(⟨#[]⟩:ByteArray).size=0:=rfl
   omega
  have xh:0<=m:=dU
  have nZ:m<=900000:=dU
  clear dL ho nP sV hl hd B3 Jj mu lf Ig hlen hT SH mw;refine zZ aN kH (f:=94) Tryz.func94 rfl kR (oT kR) ?_
  refine aY.cutK 3 114 [0,1,4,7,8] 2 (fun _:Unit=>[.p (pS s),.p (pI a),.own 0 0,.own 1 0,.p (.v (.int .u8 zq))]) (fun _=>[some lY,some (pG 0 ⟨#[]⟩ a)]) (fun _=>True) aN mixed (fun _=>0) (fun E=>jF E cK Tryz.f94.results.toList (.tup [.agg [pI 5,pS T,pI a],pI e1,pI 0])) kR ?_ ?_
  ·exact JT
  intro _ _;refine aY.cut 114 [0,1,4,7] 2 (fun _:Unit=>[.p (pS s),.p (pI a),.own 0 0,.own 1 0]) (fun _=>[some lY,some (pG 0 ⟨#[]⟩ a)]) (fun _=>True) ?_ ?_
  ·exact Uh
  intro _ _;refine aY.cutK 2 114 [1,4,7] 2 (fun _:Unit=>[.p (pI a),.own 0 0,.own 1 0]) (fun _=>[some lY,some (pG 5 T a)]) (fun _=>True) aN mixed (fun _=>0) (fun E=>jF E cK Tryz.f94.results.toList (.tup [.agg [pI 5,pS T,pI a],pI e1,pI 0])) kR ?_ ?_
  ·intro P G E hc hM hE;replace nT:=hc _ _ _ nT;have z1:E.size s=n:=iS
   have p1:E.ple 0 a:=wT
   have p2:E.ple a n:=by rw[hE];show a<=n;omega
   have p3:E.ple n n:=by rw[hE];exact bU _
   have x1:E.ext s (E.nat a) (E.nat n)=X:=by rw[hE];exact hX
   have f3:E.eq T ⟨#[]⟩=false:=by rw[hE];exact dF B4
   clear hE hc hM jY nF hn hq eC hX B4 hm;exact td
  intro _ _;refine aY.cut 114 [4,5,6] 1 (fun _:Unit=>[.own 0 0,.p (pI e1),.p (pI 0)]) (fun _=>[some (pG 5 T a)]) (fun _=>True) ?_ ?_
  ·refine aY.regM aN mixed 7 [6] (fun i=>match i with|6=>1|_=>0) kR (fun _=>nB (lZ 114 [4,5,6] 1 (fun _:Unit=>[.own 0 0,.p (pI e1),.p (pI 0)]) (fun _=>[some (pG 5 T a)]) (fun _=>True)) (jF bK cK Tryz.f94.results.toList (.tup [.agg [pI 5,pS T,pI a],pI e1,pI 0]))) fun P G E hc hM hE=>?_
   have z2:E.size T=m:=by rw[hE];exact hm
   have w1:E.wadd .i64 a m=e1:=by rw[hE,<- qT];exact jX oM oM
   clear hE hc hM jY nF nT hn hq eC hX B4 hm;cbv;refine mP ?_;refine⟨(.mk vR),(.mk vR),?_⟩
   exact .mk () r5 trivial
  intro _ _;refine aY.of aN mixed (fun _=>0) kR (fun E=>jF E cK Tryz.f94.results.toList (.tup [.agg [pI 5,pS T,pI a],pI e1,pI 0])) fun P G E hc hM hE=>?_
  clear hE hc hM jY nF nT hn hq eC hX B4 hm;cbv;all_goals trivial
theorem z67(s:ByteArray)(a:Int)(h0:0<=a)(h1:a<(s.size:Nat))(hs:s.size<=900000):RL 94 [pS s,pI a] (rj s a):=by
 obtain⟨q,hq⟩:∃c,s.data.toList[a.toNat]?=some c:=⟨_,aB bw⟩
 cases hl:oP q with
 |true=>exact z2i s a q h0 hq hl hs
 |false=>
  cases hd:eH q with
  |true=>exact z68 s a q h0 hq hl hd hs
  |false=>
   by_cases sV:q=34\/q=39
   ·exact z66 s a q h0 hq sV hs
   ·exact xb7 s a q h0 hq hl hd sV hs
def NX(n:Int)(x:Tk):List PV:=[pI x.k,pS (bL x.t),pI (n-(x.rem:Nat))]
def lF(n:Int)(ts:List Tk):List (List PV):=ts.map (NX n)
theorem zpo(n:Int)(a b:List Tk):lF n (a++b)=lF n a++lF n b:=List.map_append
theorem vh(n:Int)(a:List Tk):(lF n a).length=a.length:=tc ..
def mO(l:Bs):List Tk×Option (Nat×Int):=lex uB gD l
abbrev oH(m:Nat)(rs:List (List PV)):AH:=[some (.box [.osl 1 0 m] 35 none),some (.rows 3 rs 59)]
theorem QL(k:Int)(t:ByteArray)(a:Int)(m M:Nat)(rs RS:List (List PV))(hm:m=rs.length)(hb:m<=2000000)(hM:m+1=M)(hR:rs++[[pI k,pS t,pI a]]=RS):
  ML 56 [.agg [.p (pI k),.p (pS t),.p (pI a)],.own 0 0] (oH m rs) (.p (pB true)) (oH M RS):=by
 refine gS aN (f:=56) Tryz.func56 rfl kR (oT kR) fun tags bS=>?_
 match tags,bS with
 |[t0,t1],_=>
  refine aY.of aN mixed (fun _=>0) kR (fun E=>eU E cK Tryz.f56.results.toList [t0,t1] (.p (pB true)) (oH M RS)) fun P G E hc eR hE=>?_
  have p5:E.pre 0 m rs:=by rw[hE];show 0+m<=rs.length;omega
  have p4:E.room m 1 32:=by rw[hE];exact⟨by unfold maxLen;omega,by omega⟩
  have a2:E.addN m 1=M:=mr
  have r3:E.app rs m [[pI k,pS t,pI a]]=RS:=by rw[hE];show rs.take m++_=_;grind
  have r0:E.sub [[pI k,pS t,pI a]] 0 1=[[pI k,pS t,pI a]]:=fS
  have p0:E.pre 0 1 [[pI k,pS t,pI a]]:=by rw[hE];show 0+1<=1;omega
  clear hE hc eR hR hM hm hb;cbv
  grind
def Qe(n:Int):Option (Nat×Int)->PV
 |none=>.tup [pI 0,pI 0]
 |some p=>.tup [pI (n-(p.1:Nat)),pI p.2]
structure JY(s:ByteArray)(n:Int)(TS:List Tk)(ER:Option (Nat×Int))(x:Int×Nat×List (List PV)):Prop where
 i0:0<=x.1
 i1:x.1<=n
 st:∃done:List Tk,x.2.2=lF n done/\done.length=x.2.1/\(done.length:Int)<=x.1/\TS=done++(mO (bD s x.1)).1/\ER=(mO (bD s x.1)).2
theorem M0{s:ByteArray}{i:Int}{u r:Bs}(h0:0<=i)(h:bD s i=u++r):r=bD s (i+(u.length:Nat)):=by
 rw[<-WV s i u.length h0,h,List.drop_left]
theorem D8{l:Bs}{e:Int}(h:jQ uB gD l=.bad e):e≠0:=by
 cases l with
 |nil=>cases h;decide
 |cons c r=>
  rw[jQ]at h
  split at h
  ·cases h
  ·split at h
   ·exact Ku h
   grind
theorem xei(s:ByteArray)(hs:s.size<=900000)(TS:List Tk)(ER:Option (Nat×Int))(hL:mO s.data.toList=(TS,ER)):
  ML 55 [.p (pS s),.clo 56 [] [.own 0 0]] (oH 0 []) (.p (Qe (s.size:Nat) ER)) (oH TS.length (lF (s.size:Nat) TS)):=by
 obtain⟨n,hn⟩:∃n:Int,((s.size:Nat):Int)=n:=⟨_,rfl⟩
 rw[hn];have jK:JY s n TS ER (0,0,[]):=⟨bU _,by show 0<=n;omega,[],rfl,rfl,by show(0:Int)<=0;omega,by show TS=[]++(mO s.data.toList).1;rw[hL];rfl,by show ER=(mO s.data.toList).2;rw[hL]⟩
 obtain⟨RV,dY⟩:∃x,Qe n ER=x:=⟨_,rfl⟩
 obtain⟨M,hM⟩:∃x,TS.length=x:=⟨_,rfl⟩
 obtain⟨RS,kU⟩:∃x,lF n TS=x:=⟨_,rfl⟩
 rw[dY,hM,kU];obtain⟨μ,hμ⟩:∃μ:Int->Nat,∀x,μ x=2000000000-x.toNat:=⟨_,fun _=>rfl⟩
 have lQ:=fun(i:Int)(r:Bs)(b:Bool)(e:Int)(h0:0<=i)(h1:i<=n)(hR:kY (bD s i)=(r,b))(he:n-(r.length:Nat)=e)=>show RL 93 [pS s,pI i] (.tup [pI e,pB b])from he ▸ hn ▸ z5q s i r b h0 oM oM hR
 have rD:=fun(i:Int)(h0:0<=i)(h1:i<n)=>z67 s i h0 oM hs
 have gu:=fun(k:Int)(t:ByteArray)(a:Int)(m M:Nat)(rs RS:List (List PV))(hm:m=rs.length)(hb:m<=2000000)(hM:m+1=M)(hR:rs++[[pI k,pS t,pI a]]=RS)=>QL k t a m M rs RS hm hb hM hR
 refine gS aN (f:=55) Tryz.func55 rfl kR (oT kR) fun tags bS=>?_
 match tags,bS with
 |[t0,t1],_=>
  refine aY.of aN mixed (fun _=>0) kR (fun E=>eU E cK Tryz.f55.results.toList [t0,t1] (.p RV) (oH M RS)) fun P G E hc eR hE=>?_
  replace lQ:=fun(i:Int)(r:Bs)(b:Bool)(e:Int)(h0:0<=i)(h1:i<=n)(hR:kY (bD s i)=(r,b))(he:n-(r.length:Nat)=e)=>hc _ _ _ (lQ i r b e h0 h1 hR he)
  replace rD:=fun(i:Int)(h0:0<=i)(h1:i<n)=>hc _ _ _ (rD i h0 h1)
  replace gu:=fun(k:Int)(t:ByteArray)(a:Int)(m M:Nat)(rs RS:List (List PV))(hm:m=rs.length)(hb:m<=2000000)(hM:m+1=M)(hR:rs++[[pI k,pS t,pI a]]=RS)=>eR _ _ _ _ _ (gu k t a m M rs RS hm hb hM hR)
  have z1:E.size s=n:=iS
  have d0:E.lti 1048576 n=false:=sS
  clear hE hc eR;cbv
  repeat (first|(simp only[z1];try cbv)|(simp only[d0];try cbv))
  refine gU 44 [0,1,6] 2 (fun x:Int×Nat×List (List PV)=>[.p (pS s),.clo 56 [] [.own 0 0],.p (pI x.1)]) (fun x=>[some (.box [.osl 1 0 x.2.1] 35 (some t0)),some (.rows 3 x.2.2 59)]) (JY s n TS ER) (fun x=>μ x.1) (0,0,[]) r5 jK ?_
  clear jK d0
  rintro⟨i,m,rs⟩ ⟨i0,i1,done,dQ,hm,jJ,oC,pP⟩
  simp only at i0 i1 dQ hm jJ oC pP;replace hn:((s.size:Nat):Int)=n:=hn;replace hM:TS.length=M:=hM;replace hm:done.length=m:=hm;replace jJ:((done.length:Nat):Int)<=i:=jJ;have eS:=qZ s i;obtain⟨r,b,sU⟩:∃r b,kY (bD s i)=(r,b):=⟨_,_,rfl⟩
  have hle:=HG (bD s i);rw[sU]at hle;simp only at hle;obtain⟨v,hv⟩:=Lz (bD s i);rw[sU]at hv;simp only at hv;obtain⟨f,hf⟩:∃x:Int,n-(r.length:Nat)=x:=⟨_,rfl⟩
  have wV:=lQ i r b f i0 i1 sU hf;have xj:(bD s i).length=v.length+r.length:=by rw[hv,sE]
  have mz:r=bD s f:=by
   exact Rr
  have mQ:=Ct _ r b sU
  cases b with
  |false=>
   have hx:=Nj uB gD sU;change mO (bD s i)=_ at hx;rw[hx]at oC pP;simp only[cA]at oC pP;have nK:RV=.tup [pI f,pI 4]:=by
    rw[<-dY,pP];show PV.tup [pI (n-(r.length:Nat)),pI 4]=_;rw[hf]
   have jf:M=m:=by rw[<-hM,oC,hm]
   have dZ:RS=rs:=by rw[<-kU,oC,dQ]
   subst nK jf dZ;clear dY hM kU rD gu lQ dQ hm jJ oC pP eS sU hle hv hf xj mz mQ hx hμ hn hs hL;cbv
   repeat (first|(refine⟨_,wV,?_⟩;cbv))
   all_goals trivial
  |true=>
   rcases mQ.2 rfl with x7|⟨c,r',x9,hw,hk⟩
   ·have hx:=Dx uB gD (l:=bD s i) (by rw[sU,x7])
    change mO (bD s i)=_ at hx;rw[hx]at oC pP;simp only[cA]at oC pP;have nK:RV=.tup [pI 0,pI 0]:=by rw[<-dY,pP];rfl
    have jf:M=m:=by rw[<-hM,oC,hm]
    have dZ:RS=rs:=by rw[<-kU,oC,dQ]
    have u0:f=n:=by rw[<-hf,x7];show n-0=n;omega
    have d1:decide (n=n)=true:=aA rfl;subst nK jf dZ u0;clear dY hM kU rD gu lQ dQ hm jJ oC pP eS sU hle hv hf xj mz mQ hx hμ hn hs hL x7;cbv
    repeat (first|(refine⟨_,wV,?_⟩;cbv)|(simp only[z1];try cbv)|(simp only[d1];try cbv))
    all_goals trivial
   ·have pK:0<r.length:=by rw[x9];simp
    have d1:decide (f=n)=false:=dF oM
    have nY:=rD f oM oM
    cases dL:jQ uB gD r with
    |bad e=>
     have hx:=Nb uB gD sU (by rw[x9];exact bZ _ _) dL
     change mO (bD s i)=_ at hx;rw[hx]at oC pP;simp only[cA]at oC pP;rw[XB ZR]at nY
     have UK:decide (e=0)=false:=dF (D8 dL);have nK:RV=.tup [pI f,pI e]:=by
      rw[<-dY,pP];show PV.tup [pI (n-(r.length:Nat)),pI e]=_;rw[hf]
     have jf:M=m:=by rw[<-hM,oC,hm]
     have dZ:RS=rs:=by rw[<-kU,oC,dQ]
     subst nK jf dZ;clear dY hM kU rD gu lQ dQ hm jJ oC pP eS sU hle hv hf xj mz mQ hx hμ hn hs hL x9 hw hk pK dL;cbv
     repeat (first|(refine⟨_,wV,?_⟩;cbv)|(simp only[z1];try cbv)|(simp only[d1];try cbv)|(refine⟨_,nY,?_⟩;cbv)|(simp only[UK];try cbv))
     all_goals trivial
    |ok k t r2=>
     have hx:=YC uB gD sU dL;change mO (bD s i)=(_::(mO r2).1,(mO r2).2)at hx;rw[hx]at oC pP;simp only at oC pP;rw[LQ ZR,hn]at nY
     unfold kt at nY;have cJ:=HF uB gD dL;obtain⟨w,mu,lf,_⟩:=XV uB gD dL;obtain⟨e1,qT⟩:∃x:Int,n-(r2.length:Nat)=x:=⟨_,rfl⟩
     rw[qT]at nY;have x8:bD s f=w++r2:=by rw[<-mz,lf]
     have fx:=aG List.length lf;rw[sE]at fx;have mV:r2=bD s e1:=by
      exact Sf
     obtain⟨T,hT⟩:∃x,bL t=x:=⟨_,rfl⟩
     rw[hT]at nY;have pO:m=rs.length:=by rw[dQ,vh,hm]
     obtain⟨RS2,dS⟩:∃x,rs++[[pI k,pS T,pI f]]=x:=⟨_,rfl⟩
     have eD:=gu k T f m (m+1) rs RS2 pO oM rfl dS
     obtain⟨m1,nZ⟩:∃x,m+1=x:=⟨_,rfl⟩
     rw[nZ]at eD;have lU:JY s n TS ER (e1,m1,RS2):=by
      exact U7
     have fU:μ e1<μ i:=pb
     clear dY hM kU rD gu lQ dQ hm jJ oC pP eS sU hle hv hf xj mz mQ hx hμ hn hs hL x9 hw hk pK dL cJ mu lf qT x8 fx mV hT pO dS nZ;cbv
     repeat (first|(refine⟨_,wV,?_⟩;cbv)|(simp only[z1];try cbv)|(simp only[d1];try cbv)|(refine⟨_,nY,?_⟩;cbv))
     refine .mk _ _ (Wk.refl _ _) [0,1] _ _ _ _ eD rfl rfl rfl ?_;cbv;refine .mk (e1,m1,RS2) r5 ?_ ?_
     ·exact lU
     ·exact fU
def IQ(s:ByteArray):PV:=match mO s.data.toList with
 |(ts,none)=>.tup [.ro 3 (lF (s.size:Nat) ts),pI 0,pI 0]
 |(_,some p)=>.tup [.v (.slice none 0 0),pI ((s.size:Nat)-(p.1:Nat)),pI p.2]
theorem HM{s:ByteArray}{ts:List Tk}(h:mO s.data.toList=(ts,none)):IQ s=.tup [.ro 3 (lF (s.size:Nat) ts),pI 0,pI 0]:=by unfold IQ;rw[h]
theorem WQ{s:ByteArray}{ts:List Tk}{m:Nat}{e:Int}(h:mO s.data.toList=(ts,some (m,e))):IQ s=.tup [.v (.slice none 0 0),pI ((s.size:Nat)-(m:Nat)),pI e]:=by unfold IQ;rw[h]
theorem LI:∀(n:Nat)(l:Bs)(m:Nat)(e:Int),(qW uB gD n l).2=some (m,e)->e≠0
 |0,_,_,_,h=>by cases h
 |n+1,l,m,e,h=>by
  rw[qW]at h
  split at h
  ·cases h;decide
  ·split at h
   ·cases h
   ·split at h
    ·rename_i e' ht
     cases h
     exact D8 ht
    ·exact LI n _ m e h
theorem VX(s:ByteArray)(hs:s.size<=900000):RL 26 [pS s] (IQ s):=by
 obtain⟨TS,ER,hL⟩:∃a b,mO s.data.toList=(a,b):=⟨_,_,rfl⟩
 have al:=xei s hs TS ER hL;obtain⟨n,hn⟩:∃n:Int,((s.size:Nat):Int)=n:=⟨_,rfl⟩
 rw[hn]at al;have eS:(lF n TS).length=TS.length:=vh n TS
 cases ER with
 |none=>
  rw[HM hL,hn];change ML _ _ _ (.p (.tup [pI 0,pI 0])) _ at al;obtain⟨M,hM⟩:∃x,TS.length=x:=⟨_,rfl⟩
  obtain⟨RS,kU⟩:∃x,lF n TS=x:=⟨_,rfl⟩
  rw[hM,kU]at al eS;rw[kU];refine ir aN kH mixed (fun _=>0) Tryz.func26 rfl kR kR rfl fun P G E hc eR hE=>?_
  replace al:=eR _ _ _ _ _ al;have p1:E.pre 0 M RS:=by rw[hE];show 0+M<=RS.length;omega
  have r1:E.sub RS 0 M=RS:=by rw[hE];show(RS.drop 0).take M=RS;grind
  clear hE hc eR hL hM kU eS;cbv;refine .mk _ _ (BS (k:=0) (j:=0) 3 59 rfl rfl) [0,1] _ _ _ _ al rfl rfl rfl ?_;cbv
  grind
 |some p=>
  obtain⟨m,e⟩:=p;rw[WQ hL,hn];have he:e≠0:=LI _ _ m e (aG Prod.snd hL);change ML _ _ _ (.p (.tup [pI (n-(m:Nat)),pI e])) _ at al;obtain⟨f,hf⟩:∃x:Int,n-(m:Nat)=x:=⟨_,rfl⟩
  obtain⟨M,hM⟩:∃x,TS.length=x:=⟨_,rfl⟩
  obtain⟨RS,kU⟩:∃x,lF n TS=x:=⟨_,rfl⟩
  rw[hM,kU,hf]at al;rw[hf];have d1:decide (e=0)=false:=dF he;refine ir aN kH mixed (fun _=>0) Tryz.func26 rfl kR kR rfl fun P G E hc eR hE=>?_
  replace al:=eR _ _ _ _ _ al;clear hE hc eR hL hM kU eS he hf;cbv;refine .mk _ _ (BS (k:=0) (j:=0) 3 59 rfl rfl) [0,1] _ _ _ _ al rfl rfl rfl ?_;exact rB
end Go.Proofs.YtjkcdcloomkooaaGreatDoor
