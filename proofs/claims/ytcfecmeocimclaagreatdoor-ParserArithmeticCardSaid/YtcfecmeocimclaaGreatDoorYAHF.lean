/- Own work: the walks of condition,cond,body. -/
import Derived.Test.YtcfecmeocimclaaGreatDoorYAA0
import Derived.Test.YtcfecmeocimclaaGreatDoorYAHA
namespace Go.Proofs.YtcfecmeocimclaaGreatDoor
set_option linter.unusedSimpArgs false
set_option linter.unusedSectionVars false
set_option maxRecDepth 100000
open Go.RowKit
section
variable {n:Int} {toks:List Tk} {LR:List (List PV)} {l:Ts}
set_option maxHeartbeats 4000000 in
theorem zvi {c:Cx} (ih:∀ s':Sy,s'.meas < (Sy.condn c l).meas->zd0 n toks LR s'):zd0 n toks LR (.condn c l):=by
 intro f hf a h o ho
 cases hf
 rw [zac] at ho;change zfa ev c l=some o at ho;unfold zfa at ho;change AtP n toks LR a l at h;show MP _ (.own 0 0 :: []) [rdr LR a c] (rOf o) (hOf toks LR c o);refine zad zaa (f:=65) Tryz.func65 rfl (by kernel_rfl) (oT (by kernel_rfl)) fun tags htl=>?_
 match tags,htl with
 | [t0],_ =>
  refine Seg.ofM zaa mixed (fun _=>0) (fun _=>[]) (fun _ _=>0) (by kernel_rfl) (fun E=>za0 E tyT Tryz.f65.results.toList [t0] (rOf o) (hOf toks LR c o)) fun P G E hc hM hE=>?_
  cbv;refine oE (zc1 h zbm c ho) (fun k1=>xE k1 fun bk1 k1=>?_) (fun k1=>?_)
  case' refine_2 =>
   refine .z [0] (hM _ _ _ _ _ (k1.2)) rfl rfl rfl ?_;cbv;have e0:=k1.1;subst e0;cbv;all_goals trivial
  refine .z [0] (hM _ _ _ _ _ (k1.2.2.2.2)) rfl rfl rfl ?_;cbv;refine oE (ndS (L:=(l.drop 1)) (c:=c) (ih (.assign c (l.drop 1)) (by simp only [Sy.meas,Sy.l,Sy.rank];omega)) rfl rfl rfl rfl rfl rfl k1.1 k1.2.1) (fun k2=>xE k2 fun xk2 k2=>xE k2 fun lk2 k2=>xE k2 fun bk2 k2=>xE k2 fun q1k2 k2=>xE k2 fun q2k2 k2=>xE k2 fun q3k2 k2=>xE k2 fun q4k2 k2=>xE k2 fun q5k2 k2=>?_) (fun k2=>?_)
  case' refine_2 =>
   refine .z [0] (hM _ _ _ _ _ (k2.2)) rfl rfl rfl ?_;cbv;have e0:=k2.1;subst e0;cbv;all_goals trivial
  refine .z [0] (hM _ _ _ _ _ (k2.2.2.2.2)) rfl rfl rfl ?_;cbv;have ok2:=k2.2.2.2.1.one;cbv at ok2;cbv;simp only [ok2];cbv;refine oE (zc1 k2.1 zan c k2.2.1) (fun k3=>xE k3 fun bk3 k3=>?_) (fun k3=>?_)
  case' refine_2 =>
   refine .z [0] (hM _ _ _ _ _ (k3.2)) rfl rfl rfl ?_;cbv;have e0:=k3.1;subst e0;cbv;all_goals trivial
  refine .z [0] (hM _ _ _ _ _ (k3.2.2.2.2)) rfl rfl rfl ?_;cbv;simp only [ok2];cbv;have e0:=okE (k3.2.1);subst e0;simp only [k3.1.place,nd,ndN,ndO,za8,zao,zae,lCA,lNA,k2.2.2.2.1.row];cbv;all_goals trivial
set_option maxHeartbeats 4000000 in
theorem zy1 {c:Cx} (ih:∀ s':Sy,s'.meas < (Sy.cond c l).meas->zd0 n toks LR s'):zd0 n toks LR (.cond c l):=by
 intro f hf a h o ho
 cases hf
 rw [zac] at ho;change zhe ev c l=some o at ho;unfold zhe at ho;change AtP n toks LR a l at h;show MP _ (.own 0 0 :: []) [rdr LR a c] (rOf o) (hOf toks LR c o);refine zad zaa (f:=47) Tryz.func47 rfl (by kernel_rfl) (oT (by kernel_rfl)) fun tags htl=>?_
 match tags,htl with
 | [t0],_ =>
  refine Seg.ofM zaa mixed (fun n=>match n with|6=>4|_=>0) (fun n=>match n with|6=>[3]|_=>[]) (fun n i=>match n,i with|6,3=>1|_,_=>0) (by kernel_rfl) (fun E=>za0 E tyT Tryz.f47.results.toList [t0] (rOf o) (hOf toks LR c o)) fun P G E hc hM hE=>?_
  have fO:=zje hE;have sb1:=fO.s1;have sb2:=fO.s2;have sb3:=fO.s3;have ap2:=fO.a2;have ap3:=fO.a3;have an2:=fO.n2;have an3:=fO.n3;have rm:=fun k m b h1 h2=>fO.room k m b h1 h2
  have pr:=fun k rs h=>fO.pre k rs h
  cbv;refine oE (ndS (L:=l) (c:=c) (ih (.opnd 0 c l) (by simp [Sy.meas,Sy.l,Sy.rank];done)) rfl rfl rfl rfl rfl rfl h ho) (fun k1=>xE k1 fun xk1 k1=>xE k1 fun lk1 k1=>xE k1 fun bk1 k1=>xE k1 fun q1k1 k1=>xE k1 fun q2k1 k1=>xE k1 fun q3k1 k1=>xE k1 fun q4k1 k1=>xE k1 fun q5k1 k1=>?_) (fun k1=>?_)
  case' refine_2 =>
   refine .z [0] (hM _ _ _ _ _ (k1.2)) rfl rfl rfl ?_;cbv;have e0:=k1.1;subst e0;cbv;all_goals trivial
  refine .z [0] (hM _ _ _ _ _ (k1.2.2.2.2)) rfl rfl rfl ?_;cbv;have ok1:=k1.2.2.2.1.one;cbv at ok1;cbv;simp only [ok1];cbv;refine oE (zcm k1.1 zpw c k1.2.1) (fun k2=>xE k2 fun bk2 k2=>?_) (fun k2=>?_)
  case' refine_1 =>
   refine .z [0] (hM _ _ _ _ _ (k2.2.2.2.2)) rfl rfl rfl ?_;cbv;refine oE (ndS (L:=(lk1.drop 1)) (c:=c) (ih (.assign c (lk1.drop 1)) (by simp only [Sy.meas,Sy.l,Sy.rank];omega)) rfl rfl rfl rfl rfl rfl k2.1 k2.2.1) (fun k3=>xE k3 fun xk3 k3=>xE k3 fun lk3 k3=>xE k3 fun bk3 k3=>xE k3 fun q1k3 k3=>xE k3 fun q2k3 k3=>xE k3 fun q3k3 k3=>xE k3 fun q4k3 k3=>xE k3 fun q5k3 k3=>?_) (fun k3=>?_)
   case' refine_2 =>
    refine .z [0] (hM _ _ _ _ _ (k3.2)) rfl rfl rfl ?_;cbv;have e0:=k3.1;subst e0;cbv;all_goals trivial
   refine .z [0] (hM _ _ _ _ _ (k3.2.2.2.2)) rfl rfl rfl ?_;cbv;have ok3:=k3.2.2.2.1.one;cbv at ok3;cbv
   repeat (first|(simp only [ok1];cbv)|(simp only [ok3];cbv))
   refine oE (zc1 k3.1 zid c k3.2.1) (fun k4=>xE k4 fun bk4 k4=>?_) (fun k4=>?_)
   case' refine_2 =>
    refine .z [0] (hM _ _ _ _ _ (k4.2)) rfl rfl rfl ?_;cbv;have e0:=k4.1;subst e0;cbv;all_goals trivial
   refine .z [0] (hM _ _ _ _ _ (k4.2.2.2.2)) rfl rfl rfl ?_;cbv;refine oE (ndS (L:=(lk3.drop 1)) (c:=c) (ih (.assign c (lk3.drop 1)) (by simp only [Sy.meas,Sy.l,Sy.rank];omega)) rfl rfl rfl rfl rfl rfl k4.1 k4.2.1) (fun k5=>xE k5 fun xk5 k5=>xE k5 fun lk5 k5=>xE k5 fun bk5 k5=>xE k5 fun q1k5 k5=>xE k5 fun q2k5 k5=>xE k5 fun q3k5 k5=>xE k5 fun q4k5 k5=>xE k5 fun q5k5 k5=>?_) (fun k5=>?_)
   case' refine_2 =>
    refine Or.inr ?_;refine .mk [0] _ _ _ _ (hM _ _ _ _ _ (k5.2)) rfl rfl rfl _ rfl ?_;cbv;have e0:=k5.1;subst e0;cbv;all_goals trivial
   refine Or.inl ?_;refine ⟨.mk trivial,?_⟩;refine .mk [0] _ _ _ _ (hM _ _ _ _ _ (k5.2.2.2.2)) rfl rfl rfl rfl ?_;cbv;have ok5:=k5.2.2.2.1.one;cbv at ok5;cbv
   repeat (first|(simp only [ok1];cbv)|(simp only [ok3];cbv)|(simp only [ok5];cbv))
   refine ⟨.mk (by repeat' (first|exact trivial|refine ⟨rfl,?_⟩)),?_⟩
   cbv;have e0:=okE (k5.2.1);subst e0;simp only [k5.1.place,nd,ndN,ndO,za8,zao,zae,lCA,lNA,k1.2.2.2.1.row,k3.2.2.2.1.row,k5.2.2.2.1.row];cbv
   repeat (first|(refine ⟨(pr _ _ rfl),?_⟩;cbv)|(simp only [sb1,sb2,sb3];cbv))
   all_goals trivial
  refine .z [0] (hM _ _ _ _ _ (k2.2.2)) rfl rfl rfl ?_;cbv;simp only [ok1];cbv;have e0:=okE (k2.1);subst e0;simp only [k1.1.place,nd,ndN,ndO,za8,zao,zae,lCA,lNA,k1.2.2.2.1.row];cbv;all_goals trivial
end
/- Own work: the parser's tables and tests: Operator,find,target,within,zbj. -/
def oSs (l:List ByteArray):List (List PV):=l.map fun s=>[pS s]
def opB:List ByteArray:=zrv.map bL
theorem zm7:V0 50 [] (.ro 1 (oSs opB)):=by
 refine zaq zaa zby mixed (fun _=>0) Tryz.func50 rfl (by kernel_rfl) (by kernel_rfl) rfl fun P G E hc hE=>?_
 have p1:E.pre 0 30 (oSs opB):=by rw [hE];exact nR 30
 have t3:E.sub (oSs opB) 0 30=oSs opB:=by rw [hE];rfl
 clear hE hc;cbv;refine ⟨p1,?_⟩;exact congrArg (PV.ro 1) t3
theorem ze2 (k:Nat) (h1:1<=k) (h2:k<=29) {w:Bs} (hw:zrv[k]?=some w):V0 23 [pI (k:Nat)] (pS (bL w)):=by
 have ho:=zm7;obtain ⟨z,hz⟩:∃ z:Int,((k:Nat):Int)=z:=⟨_,rfl⟩
 rw [hz];obtain ⟨T,hT⟩:∃ T,bL w=T:=⟨_,rfl⟩
 rw [hT];obtain ⟨R,hR⟩:∃ R,oSs opB=R:=⟨_,rfl⟩
 rw [hR] at ho;refine zaq zaa zby mixed (fun _=>0) Tryz.func23 rfl (by kernel_rfl) (by kernel_rfl) rfl fun P G E hc hE=>?_
 replace ho:=hc _ _ _ ho;have d1:E.lti z 1=false:=by rw [hE];exact dF (by omega)
 have d2:E.lti 29 z=false:=by rw [hE];exact dF (by omega)
 have p0:E.ple 0 z:=by rw [hE];show 0<=z;omega
 have g1:R[E.nat z]?=some [pS T]:=by
  rw [hE,<- hR,<- hT];show (oSs opB)[z.toNat]?=_;rw [show z.toNat=k by omega]
  unfold oSs opB;rw [List.map_map,List.getElem?_map,hw];rfl
 clear hE hc hz hT hR hw h1 h2;cbv
 repeat (first|(simp only [d1];cbv)|(simp only [d2];cbv)|(refine ⟨_,ho,?_⟩;cbv)|(refine ⟨p0,_,g1,?_⟩;cbv))
 all_goals trivial
theorem zu9 {s:Bs} {fr cnt m:Nat} (hm:m < cnt) (he:zrv[fr + m]?=some s) (hn:∀ j,j < m->zrv[fr + j]? ≠ some s):zbz s fr cnt=((fr + m:Nat):Int):=by
 unfold zbz
 have:(List.range cnt).find? (fun j=>decide (zrv[fr + j]?=some s))=some m:=by
  rw [List.find?_range_eq_some];exact ⟨dT he,List.mem_range.2 hm,fun j hj=>by rw [dF (hn j hj)];rfl⟩
 rw [this]
theorem zvb {s:Bs} {fr cnt:Nat} (hn:∀ j,j < cnt->zrv[fr + j]? ≠ some s):zbz s fr cnt=0:=by
 unfold zbz
 have:(List.range cnt).find? (fun j=>decide (zrv[fr + j]?=some s))=none:=by
  rw [List.find?_eq_none];intro j hj;rw [dF (hn j (List.mem_range.1 hj))];exact Bool.false_ne_true
 rw [this]
theorem zub {a b:Bs} (h:bL a=bL b):a=b:=by have:=congrArg (fun x=>x.data.toList) h;simpa [bL] using this
theorem z1n (s:Bs) (fr cnt:Nat):0<=zbz s fr cnt/\zbz s fr cnt<=((fr + cnt:Nat):Int):=by
 unfold zbz
 split
 ·rename_i j hj
  have:=List.mem_range.1 (List.mem_of_find?_eq_some hj)
  omega
 ·omega
theorem z1m (s:Bs) (fr cnt:Nat) (h1:1<=fr) (h2:fr + cnt<=30) (z1 z2:Int) (e1:((fr:Nat):Int)=z1) (e2:z1 + ((cnt:Nat):Int)=z2 + 1):V0 48 [pS (bL s),pI z1,pI z2] (pI (zbz s fr cnt)):=by
 have hop:=fun (k:Nat) (h1:1<=k) (h2:k<=29) (w:Bs) (hw:zrv[k]?=some w)=>ze2 k h1 h2 hw
 obtain ⟨v,hv⟩:∃ v,zbz s fr cnt=v:=⟨_,rfl⟩
 rw [hv];obtain ⟨T,hT⟩:∃ T,bL s=T:=⟨_,rfl⟩
 rw [hT];obtain ⟨μ,hμ⟩:∃ μ:Int->Nat,∀ x,μ x=(z2 + 1 - x).toNat:=⟨_,fun _=>rfl⟩
 refine zaq zaa zby mixed (fun _=>0) Tryz.func48 rfl (by kernel_rfl) (by kernel_rfl) rfl fun P G E hc hE=>?_
 have hcc:=hc;clear hc;cbv;refine zbs 19 [0,1,2,7] 0 (fun i:Int=>[.p (pS T),.p (pI z1),.p (pI z2),.p (pI i)]) (fun _=>[]) (fun i=>∃ m:Nat,z1 + ((m:Nat):Int)=i/\m<=cnt/\∀ j,j < m->zrv[fr + j]? ≠ some s) μ z1 ⟨rfl,rfl,rfl,rfl,rfl⟩ ⟨0,by omega,Nat.zero_le _,fun j hj=>by omega⟩ ?_
 rintro i ⟨m,hm,hmc,hn⟩
 replace hm:z1 + ((m:Nat):Int)=i:=hm;replace hmc:m<=cnt:=hmc;replace e1:((fr:Nat):Int)=z1:=e1;replace e2:z1 + ((cnt:Nat):Int)=z2 + 1:=e2;have t1:((fr:Nat):Int) + ((m:Nat):Int)=i:=by rw [e1];exact hm
 have t2:i + ((cnt:Nat):Int)=z2 + 1 + ((m:Nat):Int):=by rw [<-hm,<- e2];exact Int.add_right_comm _ _ _
 clear e1 e2
 rcases Nat.lt_or_ge m cnt with hlt|hge
 ·have d1:E.lei i z2=true:=by rw [hE];exact dT (by omega)
  have hlen:zrv.length=30:=rfl;obtain ⟨w,hw⟩:∃ w,zrv[fr + m]?=some w:=⟨_,List.getElem?_eq_getElem (by rw [hlen];omega)⟩
  have ho:V0 23 [pI ((fr + m:Nat):Int)] (pS (bL w)):=hop (fr + m) (by omega) (by omega) w hw
  rw [show ((fr + m:Nat):Int)=i by omega] at ho
  obtain ⟨TW,hTW⟩:∃ x,bL w=x:=⟨_,rfl⟩
  rw [hTW] at ho;replace ho:=hcc _ _ _ ho;obtain ⟨i2,hi2⟩:∃ x:Int,i + 1=x:=⟨_,rfl⟩
  have ea:E.wadd .i64 i 1=i2:=by rw [hE,<- hi2];exact zaf (by omega) (by omega)
  rcases cEm (w=s) with he|he
  ·have q1:E.eq TW T=true:=by rw [hE,<- hTW,<- hT,he];exact dT rfl
   have hv0:=zu9 hlt (by rw [hw,he]) hn
   rw [hv,show ((fr + m:Nat):Int)=i by omega] at hv0
   subst hv0;clear hE hop hcc;cbv
   repeat (first|(simp only [d1];cbv)|(refine ⟨_,ho,?_⟩;cbv)|(simp only [q1];cbv))
   all_goals trivial
  ·have q1:E.eq TW T=false:=by rw [hE,<- hTW,<- hT];exact dF fun e=>he (zub e)
   have hI:∃ m:Nat,z1 + ((m:Nat):Int)=i2/\m<=cnt/\∀ j,j < m->zrv[fr + j]? ≠ some s:=⟨m + 1,by omega,hlt,fun j hj=>by
    rcases Nat.lt_or_ge j m with h|h
    ·exact hn j h
    ·rw [show j=m by omega,hw]
     exact fun e=>he (Option.some.inj e)⟩
   have hmu:μ i2 < μ i:=by rw [hμ,hμ];omega
   clear hE hop hcc hμ hn hw hlen;cbv
   repeat (first|(simp only [d1];cbv)|(refine ⟨_,ho,?_⟩;cbv)|(simp only [q1];cbv)|(simp only [ea];cbv))
   exact .mk i2 ⟨rfl,rfl,rfl,rfl,rfl⟩ hI hmu
 ·have d1:E.lei i z2=false:=by rw [hE];exact dF (by omega)
  have hv0:=zvb (s:=s) (fr:=fr) (cnt:=cnt) fun j hj=>hn j (by omega)
  rw [hv] at hv0;subst hv0;clear hE hop;cbv;simp only [d1];cbv;all_goals trivial
set_option maxHeartbeats 4000000 in
theorem zdd (x:PT) {k i q:Int} {nm:ByteArray} {KK:PV} (h:NodeV x k i q nm KK):V0 49 [.agg [pI k,pS nm,pI i,pI q,KK]] (pB (zlv x)):=by
 unfold zlv;rw [h.kind];have o1:=h.one;obtain ⟨v,hv⟩:∃ v,(decide (k=7) || (decide (k=18) || decide (k=19)))=v:=⟨_,rfl⟩
 rw [hv];refine zaq zaa zby mixed (fun _=>0) Tryz.func49 rfl (by kernel_rfl) (by kernel_rfl) rfl fun P G E hc hE=>?_
 clear hc hE h;cbv at o1
 rcases cEm (k=7) with h1|h1
 ·have d1:decide (k=7)=true:=dT h1;rw [d1,Bool.true_or] at hv;subst hv;cbv
  repeat (first|(simp only [o1];cbv)|(simp only [d1];cbv))
  all_goals trivial
 ·have d1:decide (k=7)=false:=dF h1;rw [d1,Bool.false_or] at hv
  rcases cEm (k=18) with h2|h2
  ·have d2:decide (k=18)=true:=dT h2;rw [d2,Bool.true_or] at hv;subst hv;cbv
   repeat (first|(simp only [o1];cbv)|(simp only [d1];cbv)|(simp only [d2];cbv))
   all_goals trivial
  ·have d2:decide (k=18)=false:=dF h2;rw [d2,Bool.false_or] at hv;subst hv;obtain ⟨d3,h3⟩:∃ d3,decide (k=19)=d3:=⟨_,rfl⟩
   cbv
   repeat (first|(simp only [o1];cbv)|(simp only [d1];cbv)|(simp only [d2];cbv))
   all_goals trivial
theorem znb (o:Int):V0 64 [pI o] (.agg [pB (zaj o).fn,pB (zaj o).lp,pB (zaj o).gn,pB (zaj o).as_]):=by
 unfold zaj;obtain ⟨v,hv⟩:∃ v,(decide (o=4) || decide (o=5))=v:=⟨_,rfl⟩
 rw [hv];refine zaq zaa zby mixed (fun _=>0) Tryz.func64 rfl (by kernel_rfl) (by kernel_rfl) rfl fun P G E hc hE=>?_
 clear hc hE
 rcases cEm (o=4) with h2|h2
 ·have d2:decide (o=4)=true:=dT h2;rw [d2,Bool.true_or] at hv;subst hv;obtain ⟨d3,h3⟩:∃ d3,decide (o=3)=d3:=⟨_,rfl⟩
  cbv;simp only [d2];cbv;all_goals trivial
 ·have d2:decide (o=4)=false:=dF h2;rw [d2,Bool.false_or] at hv;obtain ⟨d3,h3⟩:∃ d3,decide (o=3)=d3:=⟨_,rfl⟩
  subst hv;obtain ⟨d5,h5⟩:∃ d5,decide (o=5)=d5:=⟨_,rfl⟩
  cbv;simp only [d2];cbv;all_goals trivial
section
variable {n:Int} {toks:List Tk} {LR:List (List PV)} {a:Int} {l:Ts}
set_option maxHeartbeats 4000000 in
theorem zvg (h:AtP n toks LR a l) (c:Cx):MP 40 [.own 0 0] [rdr LR a c] (.p (pB (zbj l))) [rdr LR a c]:=by
 obtain ⟨q,hq⟩:∃ q,zbj l=q:=⟨_,rfl⟩
 rw [hq];unfold zbj at hq;refine zad zaa (f:=40) Tryz.func40 rfl (by kernel_rfl) (oT (by kernel_rfl)) fun tags htl=>?_
 match tags,htl with
 | [t0],_ =>
  refine Seg.of zaa mixed (fun _=>0) (by kernel_rfl) (fun E=>za0 E tyT Tryz.f40.results.toList [t0] (.p (pB q)) [rdr LR a c]) fun P G E hc hM hE=>?_
  clear hc hE;cbv;refine oE (zx9 h 0 (Nat.zero_le _) zfh c) (fun k1=>?_) (fun k1=>?_)
  case' refine_1 =>
   refine .z [0] (hM _ _ _ _ _ k1.2) rfl rfl rfl ?_;rw [k1.1,Bool.true_or] at hq;subst hq;cbv;all_goals trivial
  refine .z [0] (hM _ _ _ _ _ k1.2) rfl rfl rfl ?_;rw [k1.1,Bool.false_or] at hq;cbv;refine oE (zx9 h 0 (Nat.zero_le _) zax c) (fun k1=>?_) (fun k1=>?_)
  case' refine_1 =>
   refine .z [0] (hM _ _ _ _ _ k1.2) rfl rfl rfl ?_;rw [k1.1,Bool.true_or] at hq;subst hq;cbv;all_goals trivial
  refine .z [0] (hM _ _ _ _ _ k1.2) rfl rfl rfl ?_;rw [k1.1,Bool.false_or] at hq;cbv;refine oE (zx9 h 0 (Nat.zero_le _) za5 c) (fun k1=>?_) (fun k1=>?_)
  case' refine_1 =>
   refine .z [0] (hM _ _ _ _ _ k1.2) rfl rfl rfl ?_;rw [k1.1,Bool.true_or] at hq;subst hq;cbv;all_goals trivial
  refine .z [0] (hM _ _ _ _ _ k1.2) rfl rfl rfl ?_;rw [k1.1,Bool.false_or] at hq;cbv;refine oE (zx9 h 0 (Nat.zero_le _) zat c) (fun k1=>?_) (fun k1=>?_)
  case' refine_2 =>
   refine .z [0] (hM _ _ _ _ _ k1.2) rfl rfl rfl ?_;rw [k1.1,Bool.false_and] at hq;subst hq;cbv;all_goals trivial
  refine .z [0] (hM _ _ _ _ _ k1.2) rfl rfl rfl ?_;rw [k1.1,Bool.true_and] at hq;cbv;refine oE (zx9 h 1 (by decide) za5 c) (fun k1=>?_) (fun k1=>?_)
  case' refine_1 =>
   refine .z [0] (hM _ _ _ _ _ k1.2) rfl rfl rfl ?_;rw [k1.1] at hq;subst hq;cbv;all_goals trivial
  refine .z [0] (hM _ _ _ _ _ k1.2) rfl rfl rfl ?_;rw [k1.1] at hq;subst hq;cbv;all_goals trivial
theorem ziq (h:AtP n toks LR a l) (k:Nat) (hk:k<=1000000) (c:Cx):∃ K T z,kd l k=K/\bL (tx l k)=T/\MP 36 [.own 0 0,.p (pI (k:Nat))] [rdr LR a c] (.p (.agg [pI K,pS T,pI z])) [rdr LR a c]:=by
 obtain ⟨z,hz⟩:=zte h k hk c;exact ⟨_,_,z,rfl,rfl,upM hz⟩
theorem zqm (s:Bs) {T:ByteArray} (hT:bL s=T) (fr cnt:Nat) (h1:1<=fr) (h2:fr + cnt<=30) (z1 z2:Int) (e1:((fr:Nat):Int)=z1) (e2:z1 + ((cnt:Nat):Int)=z2 + 1):∃ F,zbz s fr cnt=F/\RL 48 [pS T,pI z1,pI z2] (pI F) :=
 ⟨_,rfl,hT ▸ upL (z1m s fr cnt h1 h2 z1 z2 e1 e2)⟩
theorem or2S {β:Type} {o:Option (β × Ts)} {p q:Prop} [Decidable p] [Decidable q] {X Y:Re β} (ho:(if decide p || decide q then X else Y)=some o):(X=some o/\p)\/(X=some o/\¬ p/\q)\/(Y=some o/\¬ p/\¬ q):=by
 by_cases h:p
 ·rw [dT h] at ho;exact .inl ⟨ho,h⟩
 ·by_cases h2:q
  ·rw [dF h,dT h2] at ho;exact .inr (.inl ⟨ho,h,h2⟩)
  ·rw [dF h,dF h2] at ho;exact .inr (.inr ⟨ho,h,h2⟩)
theorem or2P {β:Type} {o:Option (β × Ts)} {p q:Prop} [Decidable p] [Decidable q] {X Y:Re β} (ho:(if p\/q then X else Y)=some o):(X=some o/\p)\/(X=some o/\¬ p/\q)\/(Y=some o/\¬ p/\¬ q):=by
 by_cases h:p
 ·rw [if_pos (Or.inl h)] at ho;exact .inl ⟨ho,h⟩
 ·by_cases h2:q
  ·rw [if_pos (Or.inr h2)] at ho;exact .inr (.inl ⟨ho,h,h2⟩)
  ·rw [if_neg fun e=>e.elim h h2] at ho;exact .inr (.inr ⟨ho,h,h2⟩)
theorem zx5 {l:Ts} {n:Nat} (h:¬ kd l n=0):n < l.length:=by
 unfold kd at h
 cases hl:l[n]? with
 | none=>rw [hl] at h;exact absurd rfl h
 | some t=>exact (List.getElem?_eq_some_iff.1 hl).1
theorem z84 {β:Type} {o:Option (β × Ts)} {p q r:Prop} [Decidable p] [Decidable q] [Decidable r] {X Y:Re β} (ho:(if p/\¬ q/\¬ r then X else Y)=some o):(Y=some o/\¬ p)\/(Y=some o/\p/\q)\/(Y=some o/\p/\¬ q/\r)\/(X=some o/\p/\¬ q/\¬ r):=by
 by_cases h:p
 ·by_cases h2:q
  ·rw [if_neg fun h=>h.2.1 h2] at ho;exact .inr (.inl ⟨ho,h,h2⟩)
  ·by_cases h3:r
   ·rw [if_neg fun h=>h.2.2 h3] at ho;exact .inr (.inr (.inl ⟨ho,h,h2,h3⟩))
   ·rw [if_pos ⟨h,h2,h3⟩] at ho;exact .inr (.inr (.inr ⟨ho,h,h2,h3⟩))
 ·rw [if_neg fun h4=>h h4.1] at ho;exact .inl ⟨ho,h⟩
theorem zzw (h:AtP n toks LR a l) (k:Nat) (hk:k<=1000000) (w:Bs) (c:Cx) (hs:isT l k w=true):MP 37 [.own 0 0,.p (pI (k:Nat)),.p (pS (bL w))] [rdr LR a c] (.p (pB true)) [rdr LR a c]:=by
 rcases zx9 h k hk w c with ⟨_,h2⟩|⟨h1,_⟩
 ·exact h2
 ·rw [hs] at h1;cases h1
theorem z1g (h:AtP n toks LR a l) (k:Nat) (hk:k<=1000000) (w:Bs) (c:Cx) (hs:isT l k w=false):MP 37 [.own 0 0,.p (pI (k:Nat)),.p (pS (bL w))] [rdr LR a c] (.p (pB false)) [rdr LR a c]:=by
 rcases zx9 h k hk w c with ⟨h1,_⟩|⟨_,h2⟩
 ·rw [hs] at h1;cases h1
 ·exact h2
theorem zyb {l:Ts} {k:Nat} {w v:Bs} (h:isT l k w=true) (hv:w ≠ v):isT l k v=false:=by
 unfold isT at h ⊢;simp only [bAT,decide_eq_true_eq] at h;rw [h.1,dF hv,Bool.false_and]
theorem z8r {β:Type} {o:Option (β × Ts)} (h:AtP n toks LR a l) (c:Cx) {X Y:Re β} (ho:(if zbj l then X else Y)=some o) :
  (X=some o/\zbj l=true/\MP 40 [.own 0 0] [rdr LR a c] (.p (pB true)) [rdr LR a c])\/(Y=some o/\zbj l=false/\MP 40 [.own 0 0] [rdr LR a c] (.p (pB false)) [rdr LR a c]):=by
 have hd:=zvg h c
 cases hb:zbj l with
 | true=>rw [hb] at hd ho;exact .inl ⟨ho,rfl,hd⟩
 | false=>rw [hb] at hd ho;exact .inr ⟨ho,rfl,hd⟩
end
end Go.Proofs.YtcfecmeocimclaaGreatDoor
