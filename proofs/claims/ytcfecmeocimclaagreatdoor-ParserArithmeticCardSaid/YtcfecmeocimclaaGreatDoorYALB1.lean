/- Own work: (*strings.Builder).copyCheck and String,of a builder that the walk owns. -/
import Derived.Test.YtcfecmeocimclaaGreatDoorYAA0
import Derived.Test.YtcfecmeocimclaaGreatDoorYAGQ
import Derived.Test.YtcfecmeocimclaaGreatDoorYAGV
import Derived.Test.YtcfecmeocimclaaGreatDoorYAGT
import Derived.Shelf.Strings.BuilderRune
import Derived.Shelf.Strings.BuilderK
import Derived.WalkKit
import Derived.BigCall
namespace Go.Proofs
open Go.Shelf
def Tryz.laysWR_ren:Go.Shelf.Ren:=⟨fun|168=>123|240=>75|242=>139|276=>96|278=>150|n=>n,
 fun|0=>0|3=>3|4=>4|5=>5|9=>9|20=>20|21=>21|37=>58|46=>122|51=>146|70=>57|72=>60|75=>89|80=>65|164=>113|n=>n,fun|n=>n⟩
theorem Tryz.laysWR:Go.Proofs.Lays.n168 Tryz.prog Tryz.laysWR_ren:={
 mixed:=by kernel_rfl
 f168:=Tryz.func123.trans (congrArg some (by kernel_rfl))
 f240:=Tryz.func75.trans (congrArg some (by kernel_rfl))
 f242:=Tryz.func139.trans (congrArg some (by kernel_rfl))
 f276:=Tryz.func96.trans (congrArg some (by kernel_rfl))
 f278:=Tryz.func150.trans (congrArg some (by kernel_rfl))
 t0:=Tryz.underlying0
 a0:=Tryz.isAgg0
 z0:=Tryz.sizeOf0
 v0:=Tryz.zeroValue0
 t3:=Tryz.underlying3
 a3:=Tryz.isAgg3
 z3:=Tryz.sizeOf3
 v3:=Tryz.zeroValue3
 t4:=Tryz.underlying4
 a4:=Tryz.isAgg4
 z4:=Tryz.sizeOf4
 v4:=Tryz.zeroValue4
 t5:=Tryz.underlying5
 a5:=Tryz.isAgg5
 z5:=Tryz.sizeOf5
 v5:=Tryz.zeroValue5
 t9:=Tryz.underlying9
 a9:=Tryz.isAgg9
 z9:=Tryz.sizeOf9
 v9:=Tryz.zeroValue9
 t20:=Tryz.underlying20
 a20:=Tryz.isAgg20
 z20:=Tryz.sizeOf20
 v20:=Tryz.zeroValue20
 t21:=Tryz.underlying21
 a21:=Tryz.isAgg21
 z21:=Tryz.sizeOf21
 v21:=Tryz.zeroValue21
 t37:=Tryz.underlying58
 a37:=Tryz.isAgg58
 z37:=Tryz.sizeOf58
 v37:=Tryz.zeroValue58
 t46:=Tryz.underlying122
 a46:=Tryz.isAgg122
 z46:=Tryz.sizeOf122
 v46:=Tryz.zeroValue122
 t51:=Tryz.underlying146
 a51:=Tryz.isAgg146
 z51:=Tryz.sizeOf146
 v51:=Tryz.zeroValue146
 t70:=Tryz.underlying57
 a70:=Tryz.isAgg57
 z70:=Tryz.sizeOf57
 v70:=Tryz.zeroValue57
 t72:=Tryz.underlying60
 a72:=Tryz.isAgg60
 z72:=Tryz.sizeOf60
 v72:=Tryz.zeroValue60
 t75:=Tryz.underlying89
 a75:=Tryz.isAgg89
 z75:=Tryz.sizeOf89
 v75:=Tryz.zeroValue89
 t164:=Tryz.underlying113
 a164:=Tryz.isAgg113
 z164:=Tryz.sizeOf113
 v164:=Tryz.zeroValue113 }
theorem Tryz.Builder_Extra_WR:Builder.Extra Tryz.prog Tryz.laysWR_ren:={
 sizeBuilder:=by kernel_rfl
 liesBuilder:=by kernel_rfl
 t5:=Tryz.underlying5
 a5:=Tryz.isAgg5
 z5:=Tryz.sizeOf5
 v5:=Tryz.zeroValue5
 infoByte:=by kernel_rfl
 cellsByte:=by kernel_rfl
 sizeByte:=by kernel_rfl
 neB5:=by decide }
end Go.Proofs
namespace Go.Proofs.YtcfecmeocimclaaGreatDoor
set_option linter.unusedSimpArgs false
set_option maxRecDepth 100000
open Go.RowKit
theorem z5o (b:Nat) (w:World) (h0:w.cell? ⟨b,0,none⟩=some (.pointer (some ⟨b,0,none⟩))) :
  Calls Tryz.prog 75 #[.pointer (some ⟨b,0,none⟩)] w fun e w'=>e=.returned (.tuple #[])/\w'=w:=Any.Builder_copyCheck_used { Tryz.laysWR with } Tryz.Builder_Extra_WR.toX72 b w h0
theorem z10 (b:Nat) (w:World) (h0:w.cell? ⟨b,0,none⟩=some (.pointer none)) (hsh:w.shape? b=some (60,2)) (hfz:w.frozen? ⟨b,0,none⟩=false) :
  Calls Tryz.prog 75 #[.pointer (some ⟨b,0,none⟩)] w fun e w'=>e=.returned (.tuple #[])/\w'=w.setCell ⟨b,0,none⟩ (.pointer (some ⟨b,0,none⟩)):=Any.Builder_copyCheck_fresh { Tryz.laysWR with } Tryz.Builder_Extra_WR.toX72 b w h0 hsh hfz
def bH (A:AV) (l:List UInt8):AH:=[some (.box [A,.osl 1 0 l.length] 60 none),some (.rows 1 (lR l) 5)]
def zjz (A:AV):Prop:=A=.p (.v (.pointer none))\/A=.own 0 0
theorem zmu (A:AV) (hA:zjz A) (l:List UInt8):VM 75 [.own 0 0] (bH A l) (.p (.tup [])) (bH (.own 0 0) l):=by
 refine ⟨fun args w=>zdv Tryz.func75 rfl (by kernel_rfl) args w,fun B w ι args tags htl hC hR hlen hargs=>?_⟩
 match tags,htl with
 | [t0,t1],_ =>
  match args,hlen with
  | [v],_ =>
   have hv:=hargs 0 _ _ rfl rfl
   cases hv with
   | own _ _ c s hi =>
    have hk:(za2 [t0,t1] (bH A l))[0]?=some (some (.box [A,.osl 1 0 l.length] 60 (some t0))):=rfl;obtain ⟨hg,c',arr,ec,hb,hal,hcs⟩:=(hR.blk 0 _ _ s hk hi).2
    cases ec
    obtain ⟨u,hu,hu1,hur⟩:=hcs 0 A rfl;obtain ⟨u2,hu2,hu21,hu2r⟩:=hcs 1 _ rfl;have hcell:w.cell? ⟨c,0,none⟩=some u:=by rw [zsp hb];exact hu
    rcases hA with rfl|rfl
    ·have eu:u=.pointer none:=zbk hur;subst eu;refine (z10 c w hcell (by simp [World.shape?,hb,hal]) (by simp [World.frozen?,hb])).mono ?_
     rintro e w' ⟨rfl,rfl⟩
     have hheap:(w.setCell ⟨c,0,none⟩ (.pointer (some ⟨c,0,none⟩))).heap[c]?=some (.cells (arr.setIfInBounds 0 (.pointer (some ⟨c,0,none⟩))) 60 (0,0)):=by
      simp [World.setCell,Array.getElem?_modify,hb]
     have:=hR.upd hk hi (b':=.box [.own 0 0,.osl 1 0 l.length] 60 (some t0)) (w':=w.setCell ⟨c,0,none⟩ (.pointer (some ⟨c,0,none⟩))) rfl rfl rfl (by simp [World.setCell])
      (fun d hd=>by simp [World.setCell,Array.getElem?_modify,Ne.symm hd])
      (fun R' hkp=>⟨hg,c,_,rfl,hheap,by simpa using hal,fun m a ha=>by
       rcases m with _|_|m
       ·simp at ha;subst ha;refine ⟨.pointer (some ⟨c,0,none⟩),?_,rfl,.own 0 0 c s hi⟩
        have:0 < arr.size:=by rw [hal];exact Nat.zero_lt_succ _
        simp [this]
       ·simp at ha;subst ha;refine ⟨u2,?_,hu21,hu2r.keep0 hkp⟩;simp [hu2]
       ·simp at ha⟩)
     exact ⟨ι,this.1,zgx.ret (.p _ _ (.tup [] [] rfl fun j a v h=>by simp at h))⟩
    ·generalize hgu:u=u' at hur
     cases hur with
     | own _ _ c2 s2 hi2 =>
      rw [hi] at hi2
      cases hi2
      subst hgu;refine (z5o c w hcell).mono ?_
      rintro e w' ⟨rfl,rfl⟩
      exact ⟨ι,hR,zgx.ret (.p _ _ (.tup [] [] rfl fun j a v h=>by simp at h))⟩
theorem zsc (w:World) (o:Option Nat):w.grownBy w.drew o:=⟨rfl,rfl,rfl,nR _,fun _ _ _=>rfl⟩
theorem zyh (w:World) (g n:Nat):w.grownBy (w.drew.freeze ⟨g,0,none⟩ n) (some g):=by
 unfold World.freeze
 split
 ·exact zsc w _
 ·refine ⟨rfl,rfl,rfl,?_,fun k hk hne=>?_⟩
  ·show w.heap.size<=(w.heap.modify g _).size;rw [Array.size_modify];exact nR _
  ·have hne':g ≠ k:=fun e=>hne (by rw [e])
   show (w.heap.modify g _)[k]?=_;rw [Array.getElem?_modify,if_neg hne']
theorem z5h (w:World) (o:Obj) (r:Option Nat):w.grownBy (w.drew.alloc o) r:=⟨rfl,rfl,rfl,by
 show w.heap.size<=(w.heap.push o).size;rw [Array.size_push];exact Nat.le_succ _,fun k hk _=>Lib.alloc_old w.drew o k hk⟩
set_option maxHeartbeats 2000000 in
theorem zuk (b g cap:Nat) (l:List UInt8) (p:Value) (w:World) (arr:Array Value) (ha:arr=#[p,.slice (some ⟨g,0,none⟩) l.length cap]) (hbk:w.heap[b]?=some (.cells arr 60 (0,0))) (h0:l ≠ []) (cur:Array Value) (hg:w.heap[g]?=some (.cells cur 5 (0,0)))
  (hnc:l.length<=cur.size) (h63:l.length<=9223372036854775807) (hcap:cap ≠ 0) (hcell:∀ (j:Nat) (x:UInt8),l[j]?=some x->cur[j]?=some (.int .u8 (x.toNat:Nat))) :
  Calls Tryz.prog 29 #[.pointer (some ⟨b,0,none⟩)] w fun e w'=>e=.returned (.string ⟨l.toArray⟩)/\w.grownBy w' (some g):=by
 subst ha;have c1:w.drew.cell? ⟨b,1,none⟩=some (.slice (some ⟨g,0,none⟩) l.length cap):=by
  have:w.drew.heap[b]?=some (.cells #[p,.slice (some ⟨g,0,none⟩) l.length cap] 60 (0,0)):=hbk
  rw [Lib.cell_of_heap this];rfl
 have hSD:(Builtin.unsafeSliceData_ #[58] 92 #[.slice (some ⟨g,0,none⟩) l.length cap]).run Tryz.prog w.drew=.ok (.pointer (some ⟨g,0,none⟩)) w.drew :=
  Lib.run_unsafeSliceData_row _ _ _ _ _ _ hcap
 have hUS:(Builtin.unsafeString_ #[92,3] 9 #[.pointer (some ⟨g,0,none⟩),.int .i64 l.length]).run Tryz.prog w.drew=.ok (.string ⟨l.toArray⟩) (w.drew.freeze ⟨g,0,none⟩ l.length):=by
  refine Lib.run_unsafeString_row w.drew 92 3 9 5 Tryz.underlying92 Tryz.Builder_Extra_169.cellsByte g cur.size (by have hg':w.drew.heap[g]?=some (.cells cur 5 (0,0)):=hg;simp [World.shape?,hg']) l h0 hnc h63 ?_
  intro j x hx;rw [Addr.add_lit];have hg':w.drew.heap[g]?=some (.cells cur 5 (0,0)):=hg;rw [Lib.cell_of_heap hg'];simp only [Nat.zero_add];exact hcell j x hx
 clear hcap hcell h0 hnc h63;have mixed:=mixed
 go_enter Tryz.func29,Tryz.ntmps29
 go_wp2
 go_region_o
 all_goals (go_wp2;go_ret;exact ⟨rfl,zyh _ _ _⟩)
set_option maxHeartbeats 2000000 in
theorem zul (b:Nat) (p:Value) (w:World) (arr:Array Value) (ha:arr=#[p,.slice none 0 0]) (hbk:w.heap[b]?=some (.cells arr 60 (0,0))) :
  Calls Tryz.prog 29 #[.pointer (some ⟨b,0,none⟩)] w fun e w'=>e=.returned (.string ⟨#[]⟩)/\∀ r,w.grownBy w' r:=by
 subst ha;have hUS:∀ (W:World) (q:Option Addr),(Builtin.unsafeString_ #[92,3] 9 #[.pointer q,.int .i64 0]).run Tryz.prog W=.ok (.string .empty) W:=fun W q=>Lib.run_unsafeString_none W _ _ _ q
 have c1:w.drew.cell? ⟨b,1,none⟩=some (.slice none 0 0):=by
  have:w.drew.heap[b]?=some (.cells #[p,.slice none 0 0] 60 (0,0)):=hbk
  rw [Lib.cell_of_heap this];rfl
 have hSD:(Builtin.unsafeSliceData_ #[58] 92 #[.slice none 0 0]).run Tryz.prog w.drew=.ok (.pointer none) w.drew:=rfl;have mixed:=mixed
 go_enter Tryz.func29,Tryz.ntmps29
 go_wp2
 go_region_o
 all_goals (go_wp2;go_ret;exact ⟨rfl,fun r=>zsc w r⟩)
set_option maxHeartbeats 2000000 in
theorem zrh (b g cap:Nat) (p:Value) (w:World) (arr:Array Value) (ha:arr=#[p,.slice (some ⟨g,0,none⟩) 0 cap]) (hbk:w.heap[b]?=some (.cells arr 60 (0,0))) (hcap:cap ≠ 0) :
  Calls Tryz.prog 29 #[.pointer (some ⟨b,0,none⟩)] w fun e w'=>e=.returned (.string ⟨#[]⟩)/\∀ r,w.grownBy w' r:=by
 subst ha;have hUS:∀ (W:World) (q:Option Addr),(Builtin.unsafeString_ #[92,3] 9 #[.pointer q,.int .i64 0]).run Tryz.prog W=.ok (.string .empty) W:=fun W q=>Lib.run_unsafeString_none W _ _ _ q
 have c1:w.drew.cell? ⟨b,1,none⟩=some (.slice (some ⟨g,0,none⟩) 0 cap):=by
  have:w.drew.heap[b]?=some (.cells #[p,.slice (some ⟨g,0,none⟩) 0 cap] 60 (0,0)):=hbk
  rw [Lib.cell_of_heap this];rfl
 have hSD:(Builtin.unsafeSliceData_ #[58] 92 #[.slice (some ⟨g,0,none⟩) 0 cap]).run Tryz.prog w.drew=.ok (.pointer (some ⟨g,0,none⟩)) w.drew :=
  Lib.run_unsafeSliceData_row _ _ _ _ _ _ hcap
 clear hcap;have mixed:=mixed
 go_enter Tryz.func29,Tryz.ntmps29
 go_wp2
 go_region_o
 all_goals (go_wp2;go_ret;exact ⟨rfl,fun r=>zsc w r⟩)
set_option maxHeartbeats 2000000 in
theorem zob (b g:Nat) (p:Value) (w:World) (arr:Array Value) (ha:arr=#[p,.slice (some ⟨g,0,none⟩) 0 0]) (hbk:w.heap[b]?=some (.cells arr 60 (0,0))) (cur:Array Value) (hg:w.heap[g]?=some (.cells cur 5 (0,0))) :
  Calls Tryz.prog 29 #[.pointer (some ⟨b,0,none⟩)] w fun e w'=>e=.returned (.string ⟨#[]⟩)/\∀ r,w.grownBy w' r:=by
 subst ha;have hUS:∀ (W:World) (q:Option Addr),(Builtin.unsafeString_ #[92,3] 9 #[.pointer q,.int .i64 0]).run Tryz.prog W=.ok (.string .empty) W:=fun W q=>Lib.run_unsafeString_none W _ _ _ q
 have hlt:b < w.heap.size:=zbx hbk;have c1:w.drew.cell? ⟨b,1,none⟩=some (.slice (some ⟨g,0,none⟩) 0 0):=by
  have:w.drew.heap[b]?=some (.cells #[p,.slice (some ⟨g,0,none⟩) 0 0] 60 (0,0)):=hbk
  rw [Lib.cell_of_heap this];rfl
 have hSD:(Builtin.unsafeSliceData_ #[58] 92 #[.slice (some ⟨g,0,none⟩) 0 0]).run Tryz.prog w.drew=.ok (.pointer (some ⟨w.drew.heap.size,0,none⟩)) (w.drew.alloc (.view ⟨g,0,none⟩ 5)) :=
  Lib.run_unsafeSliceData_zero w.drew _ _ 5 Tryz.underlying92 ⟨g,0,none⟩ 0 (5,cur.size) (by have hg':w.drew.heap[g]?=some (.cells cur 5 (0,0)):=hg;simp [World.shape?,hg'])
 have c2:(w.drew.alloc (.view ⟨g,0,none⟩ 5)).cell? ⟨b,1,none⟩=some (.slice (some ⟨g,0,none⟩) 0 0):=by
  have:(w.drew.alloc (.view ⟨g,0,none⟩ 5)).heap[b]?=_:=(Lib.alloc_old w.drew _ b hlt).trans hbk
  rw [Lib.cell_of_heap this];rfl
 have c3:(w.alloc (.view ⟨g,0,none⟩ 5)).drew.cell? ⟨b,1,none⟩=some (.slice (some ⟨g,0,none⟩) 0 0):=c2;have c0:w.cell? ⟨b,1,none⟩=some (.slice (some ⟨g,0,none⟩) 0 0):=c1;have mixed:=mixed
 go_enter Tryz.func29,Tryz.ntmps29
 go_wp2
 go_region_o
 all_goals (go_wp2;go_ret;exact ⟨rfl,fun r=>z5h w _ r⟩)
def lS (l:List UInt8):ByteArray:=⟨l.toArray⟩
theorem z73 {l:List UInt8} {i:Nat} {x:UInt8} (h:l[i]?=some x):(lR l)[i]?=some [.v (.int .u8 (x.toNat:Nat))]:=by
 unfold lR;rw [List.getElem?_map,h];rfl
theorem zs4 (A:AV) (l:List UInt8) (h63:l.length<=9223372036854775807):VM 29 [.own 0 0] (bH A l) (.p (pS (lS l))) [none,none]:=by
 refine ⟨fun args w=>zdv Tryz.func29 rfl (by kernel_rfl) args w,fun B w ι args tags htl hC hR hlen hargs=>?_⟩
 match tags,htl with
 | [t0,t1],_ =>
  match args,hlen with
  | [v],_ =>
   have hv:=hargs 0 _ _ rfl rfl
   cases hv with
   | own _ _ c s hi =>
    have hk:(za2 [t0,t1] (bH A l))[0]?=some (some (.box [A,.osl 1 0 l.length] 60 (some t0))):=rfl;have hk1:(za2 [t0,t1] (bH A l))[1]?=some (some (.rows 1 (lR l) 5)):=rfl;obtain ⟨hg,c',arr,ec,hb,hal,hcs⟩:=(hR.blk 0 _ _ s hk hi).2
    cases ec
    obtain ⟨u,hu,hu1,hur⟩:=hcs 0 A rfl;obtain ⟨u2,hu2,hu21,hu2r⟩:=hcs 1 _ rfl;have hfin:∀ (w':World) (g:Option Nat),(∀ d,g=some d->zbg ι (za2 [t0,t1] (bH A l)) d)->w.grownBy w' g->Rel ⟨w,zbg ι (za2 [t0,t1] (bH A l)),[],fun _=>none⟩ B w' ι (za2 [t0,t1] [none,none]):=fun w' g hgo hgb=>by
     have hno:∀ (k:Nat) (b:ABlk),¬ (za2 [t0,t1] [none,none])[k]?=some (some b):=fun k b h=>by
      match k,h with
      | 0,h=>cases h
      | 1,h=>cases h
      | k + 2,h=>simp [za2,zzt] at h
     exact ⟨⟨hgb.os,hgb.tape,hgb.output,hgb.size,fun k hkl hx=>hgb.block k hkl fun e=>hx (hgo k e.symm)⟩,fun b hb=>hR.fut b (Nat.le_trans hgb.size hb),hR.len,fun k b c s h1 _=>absurd h1 (hno k b),fun k l b b' c s s' h1 _ _ _=>absurd h1 (hno k b)⟩
    have hout:∀ (w':World),Rep w' ι (Rd B ι (za2 [t0,t1] [none,none])) (.p (pS (lS l))) (.string (lS l)):=fun w'=>.p _ _ (.v _)
    have harr:∀ v2,u2=v2->arr=#[u,v2]:=fun v2 e=>by
     subst e;apply Array.ext';refine List.ext_getElem? fun i=>?_
     match i with
     | 0=>simpa using hu
     | 1=>simpa using hu2
     | i + 2 =>
      have e3:arr.toList.length=2:=hal;rw [List.getElem?_eq_none (by omega)]
      rfl
    generalize hn:l.length=n at hu2r;generalize hgu:u2=v2 at hu2r
    cases hu2r with
    | osl0 =>
     have hl0:l=[]:=List.eq_nil_of_length_eq_zero hn;subst hl0;refine (zul c u w arr (harr _ hgu) hb).mono ?_
     rintro e w' ⟨rfl,hgb⟩
     exact ⟨ι,hfin w' none (fun d e=>by cases e) (hgb none),zgx.ret (hout w')⟩
    | osl _ _ _ c2 cap s2 hi2 hn2 hm2 hz2 =>
     rw [Nat.zero_mul] at hgu;obtain ⟨es,hrl,hh⟩:=(hR.blk 1 _ _ s2 hk1 hi2).2
     rcases hh with ⟨ec,_⟩|⟨c',arr2,ec,hb2,hsz2,hcs2⟩
     ·cases ec
     cases ec
     have hown:∀ d,some c2=some d->zbg ι (za2 [t0,t1] (bH A l)) d:=fun d e=>by cases e;exact ⟨1,_,s2,hk1,hi2⟩
     have hsz:arr2.size=cap:=by rw [hsz2,hz2,<- es];omega
     rcases Nat.eq_zero_or_pos n with h0|h0
     ·subst h0;have hl0:l=[]:=List.eq_nil_of_length_eq_zero hn;subst hl0
      rcases Nat.eq_zero_or_pos cap with h1|h1
      ·subst h1;refine (zob c c2 u w arr (harr _ hgu) hb arr2 hb2).mono ?_
       rintro e w' ⟨rfl,hgb⟩
       exact ⟨ι,hfin w' none (fun d e=>by cases e) (hgb none),zgx.ret (hout w')⟩
      ·refine (zrh c c2 cap u w arr (harr _ hgu) hb (by omega)).mono ?_
       rintro e w' ⟨rfl,hgb⟩
       exact ⟨ι,hfin w' none (fun d e=>by cases e) (hgb none),zgx.ret (hout w')⟩
     ·subst hn;have hne:l ≠ []:=fun e=>by subst e;exact Nat.lt_irrefl _ h0
      refine (zuk c c2 cap l u w arr (harr _ hgu) hb hne arr2 hb2 (by omega) h63 (by omega) fun j x hx=>?_).mono ?_
      ·obtain ⟨v,hv,_,hvr⟩:=hcs2 j 0 _ _ (z73 hx) rfl
       cases hvr
       rw [<-es] at hv;simpa using hv
      ·rintro e w' ⟨rfl,hgb⟩
       exact ⟨ι,hfin w' (some c2) hown hgb,zgx.ret (hout w')⟩
end Go.Proofs.YtcfecmeocimclaaGreatDoor
