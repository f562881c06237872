/- Own work: the walk of arrow. -/
import Derived.Test.YtcfecmeocimclaaGreatDoorYAA0
import Derived.Test.YtcfecmeocimclaaGreatDoorYAHE
namespace Go.Proofs.YtcfecmeocimclaaGreatDoor
set_option linter.unusedSimpArgs false
set_option linter.unusedSectionVars false
set_option maxRecDepth 100000
open Go.RowKit
section
variable {n:Int} {toks:List Tk} {LR:List (List PV)} {l:Ts}
def ar2 (o:Int) (ps:List PT) (l1:Ts):Re Rv:=zap zf3 l1 fun l2=>if isT l2 0 zg3 then ndR (ev (.block (zaj o) l2)) fun b l3=>okR (.nd (ndO 11 o (ps++[b]))) l3 else ndR (ev (.assign (zaj o) l2)) fun n l3=>okR (.nd (ndO 11 o (ps++[nd 27 [nd 32 [n]]]))) l3
def ar1 (o:Int) (l0:Ts):Re Rv:=if isT l0 0 zbm then bnd (zay l0) (ar2 o) else zb3 l0 fun s l1=>ar2 o [ndN 7 s []] l1
theorem ar_eq {c:Cx} {l:Ts}:zdn ev c l=if isT l 0 zat then ar1 5 (l.drop 1) else ar1 2 l:=by
 unfold zdn
 cases isT l 0 zat with
 | true=>rfl
 | false=>rfl
theorem row7 {s:Bs} {T:ByteArray} (h:bL s=T):zae [ndN 7 s []]=[[pI 7,pS T,pI 0,pI 0,.v (.slice none 0 0)]]:=by subst h;rfl
set_option maxHeartbeats 4000000 in
theorem zvv {c:Cx} (ih:∀ s':Sy,s'.meas < (Sy.arrow c l).meas->zd0 n toks LR s'):zd0 n toks LR (.arrow c l):=by
 intro f hf a h o ho
 cases hf
 rw [zac] at ho;change zdn ev c l=some o at ho;unfold zdn at ho;change AtP n toks LR a l at h;show MP _ (.own 0 0 :: []) [rdr LR a c] (rOf o) (hOf toks LR c o);have hfe:zdn ev c l=_:=ar_eq;unfold zdn at hfe;rw [hfe] at ho;refine zad zaa (f:=46) Tryz.func46 rfl (by kernel_rfl) (oT (by kernel_rfl)) fun tags htl=>?_
 match tags,htl with
 | [t0],_ =>
  refine Seg.cutKM 3 56 [0,2,3] 3 (fun x:Int × Ts × Int=>[.own 0 0,.own 1 0,.own 2 0]) (fun x=>[some (.box [.p (.ro 3 LR),.p (pI x.1),.p (pB c.fn),.p (pB c.lp),.p (pB c.gn),.p (pB c.as_)] 50 (some t0)),some (.box [.p (pI 0),.p (pS ⟨#[]⟩),.p (pI 0),.p (pI 0),.p (.v (.slice none 0 0))] 27 none),some (.box [.p (pI 11),.p (pS ⟨#[]⟩),.p (pI 0),.p (pI (x.2.2)),.p (.v (.slice none 0 0))] 27 none)]) (fun x=>AtP n toks LR x.1 x.2.1/\ar1 x.2.2 x.2.1=some o/\x.2.1.length<=l.length) zaa mixed (fun _=>0) (fun _=>[]) (fun _ _=>0) (fun E=>za0 E tyT Tryz.f46.results.toList [t0] (rOf o) (hOf toks LR c o)) (by kernel_rfl) (fun P G E hc hM hE=>?_) ?_
  case' refine_1 =>
   have fO:=zje hE;have sb1:=fO.s1;have sb2:=fO.s2;have sb3:=fO.s3;have ap2:=fO.a2;have ap3:=fO.a3;have an2:=fO.n2;have an3:=fO.n3;have rm:=fun k m b h1 h2=>fO.room k m b h1 h2
   have pr:=fun k rs h=>fO.pre k rs h
   cbv;refine oE (zcm h zat c ho) (fun k1=>xE k1 fun bk1 k1=>?_) (fun k1=>?_)
   case' refine_1 =>
    refine .z [0] (hM _ _ _ _ _ (k1.2.2.2.2)) rfl rfl rfl ?_;cbv;exact .mk ((bk1,(l.drop 1),5)) ⟨rfl,rfl,rfl,rfl,rfl⟩ (⟨k1.1,k1.2.1,Nat.le_of_lt k1.2.2.1⟩)
   refine .z [0] (hM _ _ _ _ _ (k1.2.2)) rfl rfl rfl ?_;cbv;exact .mk ((a,l,2)) ⟨rfl,rfl,rfl,rfl,rfl⟩ (⟨h,k1.1,nR _⟩)
  rintro ⟨a0,l0,oo⟩ ⟨h0,ho0,hl0⟩
  simp only at h0 ho0 hl0;unfold ar1 at ho0;refine Seg.cutKM 1 56 [0,2,3] 4 (fun x:Int × Ts × List PT × List (List PV) × Nat=>[.own 0 0,.own 1 0,.own 2 0]) (fun x=>match x.2.2.1 with
    | []=>[some (.box [.p (.ro 3 LR),.p (pI x.1),.p (pB c.fn),.p (pB c.lp),.p (pB c.gn),.p (pB c.as_)] 50 (some t0)),some (.box [.p (pI 0),.p (pS ⟨#[]⟩),.p (pI 0),.p (pI 0),.p (.v (.slice none 0 0))] 27 none),some (.box [.p (pI 11),.p (pS ⟨#[]⟩),.p (pI 0),.p (pI (oo)),.p (.v (.slice none 0 0))] 27 none)]
    | _ :: _=>[some (.box [.p (.ro 3 LR),.p (pI x.1),.p (pB c.fn),.p (pB c.lp),.p (pB c.gn),.p (pB c.as_)] 50 (some t0)),some (.box [.p (pI 0),.p (pS ⟨#[]⟩),.p (pI 0),.p (pI 0),.p (.v (.slice none 0 0))] 27 none),some (.box [.p (pI 11),.p (pS ⟨#[]⟩),.p (pI 0),.p (pI (oo)),.osl 3 0 x.2.2.2.2] 27 none),some (.rows 5 x.2.2.2.1 27)]) (fun x=>AtP n toks LR x.1 x.2.1/\ar2 oo x.2.2.1 x.2.1=some o/\x.2.1.length < l0.length/\zae x.2.2.1=x.2.2.2.1/\x.2.2.2.1.length=x.2.2.2.2/\x.2.2.2.2<=1000000) zaa mixed (fun _=>0) (fun _=>[]) (fun _ _=>0) (fun E=>za0 E tyT Tryz.f46.results.toList [t0] (rOf o) (hOf toks LR c o)) (by kernel_rfl) (fun P G E hc hM hE=>?_) ?_
  case' refine_1 =>
   have fO:=zje hE;have sb1:=fO.s1;have sb2:=fO.s2;have sb3:=fO.s3;have ap2:=fO.a2;have ap3:=fO.a3;have an2:=fO.n2;have an3:=fO.n3;have rm:=fun k m b h1 h2=>fO.room k m b h1 h2
   have pr:=fun k rs h=>fO.pre k rs h
   cbv;refine oE (isS h0 0 (by decide) zbm c ho0) (fun k2=>?_) (fun k2=>?_)
   case' refine_1 =>
    refine .z [0] (hM _ _ _ _ _ (k2.2.2.2)) rfl rfl rfl ?_;cbv;refine oE (z2z h0 c (k2.1)) (fun k3=>xE k3 fun lk3 k3=>xE k3 fun bk3 k3=>?_) (fun k3=>oE k3 (fun k3=>xE k3 fun pk3 k3=>xE k3 fun psk3 k3=>xE k3 fun lk3 k3=>xE k3 fun bk3 k3=>xE k3 fun Rk3 k3=>xE k3 fun Nk3 k3=>?_) (fun k3=>?_))
    case' refine_3 =>
     refine .z [0] (hM _ _ _ _ _ (k3.2)) rfl rfl rfl ?_;cbv;have e0:=k3.1;subst e0;cbv;all_goals trivial
    case' refine_1 =>
     refine .z [0] (hM _ _ _ _ _ (k3.2.2.2)) rfl rfl rfl ?_;cbv;exact .mk ((bk3,lk3,[],[],0)) ⟨rfl,rfl,rfl,rfl,rfl⟩ (⟨k3.1,k3.2.1,k3.2.2.1,by rw [zae],rfl,Nat.zero_le _⟩)
    refine .z [0] (hM _ _ _ _ _ (k3.2.2.2.2.2.2)) rfl rfl rfl ?_;cbv;exact .mk ((bk3,lk3,pk3 :: psk3,Rk3,Nk3)) ⟨rfl,rfl,rfl,rfl,rfl⟩ (⟨k3.1,k3.2.1,k3.2.2.1,k3.2.2.2.1,k3.2.2.2.2.1,k3.2.2.2.2.2.1⟩)
   refine .z [0] (hM _ _ _ _ _ (k2.2.2)) rfl rfl rfl ?_;cbv;refine oE (zuz h0 c k2.1) (fun k4=>xE k4 fun bk4 k4=>xE k4 fun Tk4 k4=>?_) (fun k4=>?_)
   case' refine_2 =>
    refine .z [0] (hM _ _ _ _ _ (k4.2)) rfl rfl rfl ?_;cbv;have e0:=k4.1;subst e0;cbv;all_goals trivial
   refine .z [0] (hM _ _ _ _ _ (k4.2.2.2.2)) rfl rfl rfl ?_;cbv;exact .mk ((bk4,(l0.drop 1),[ndN 7 (tx l0 0) []],_,1)) ⟨rfl,rfl,rfl,rfl,rfl⟩ (⟨k4.1,k4.2.1,k4.2.2.1,row7 k4.2.2.2.1,rfl,(by decide:1<=1000000)⟩)
  rintro ⟨a1,l1,ps,R,N⟩ ⟨h1,ho1,hl1,hR,hN,hz⟩
  simp only at h1 ho1 hl1 hR hN hz;unfold ar2 at ho1;obtain ⟨c2,hc2⟩:∃ c2,zaj oo=c2:=⟨_,rfl⟩
  rw [hc2] at ho1;have hw:=upL (znb oo);rw [hc2] at hw
  cases ps with
  | nil =>
   refine Seg.ofM zaa mixed (fun n=>match n with|11=>5|12=>9|_=>0) (fun n=>match n with|11=>[3]|12=>[3]|_=>[]) (fun n i=>match n,i with|11,3=>1|11,4=>1|12,3=>1|12,4=>1|12,5=>1|12,6=>1|12,7=>1|12,8=>1|_,_=>0) (by kernel_rfl) (fun E=>za0 E tyT Tryz.f46.results.toList [t0] (rOf o) (hOf toks LR c o)) fun P G E hc hM hE=>?_
   have fO:=zje hE;have sb1:=fO.s1;have sb2:=fO.s2;have sb3:=fO.s3;have ap2:=fO.a2;have ap3:=fO.a3;have an2:=fO.n2;have an3:=fO.n3;have rm:=fun k m b h1 h2=>fO.room k m b h1 h2
   have pr:=fun k rs h=>fO.pre k rs h
   cbv;refine oE (zc1 h1 zf3 c ho1) (fun k5=>xE k5 fun bk5 k5=>?_) (fun k5=>?_)
   case' refine_2 =>
    refine .z [0] (hM _ _ _ _ _ (k5.2)) rfl rfl rfl ?_;cbv;have e0:=k5.1;subst e0;cbv;all_goals trivial
   refine .z [0] (hM _ _ _ _ _ (k5.2.2.2.2)) rfl rfl rfl ?_;cbv;simp only [sb1,sb2,sb3];cbv;refine ⟨_,hc _ _ _ hw,?_⟩;cbv;refine oE (isS k5.1 0 (by decide) zg3 c2 k5.2.1) (fun k6=>?_) (fun k6=>?_)
   case' refine_1 =>
    refine .z [0] (hM _ _ _ _ _ (k6.2.2.2)) rfl rfl rfl ?_;cbv;refine oE (ndS (L:=(l1.drop 1)) (c:=c2) (ih (.block c2 (l1.drop 1)) (by simp only [Sy.meas,Sy.l,Sy.rank];omega)) rfl rfl rfl rfl rfl rfl k5.1 k6.1) (fun k7=>xE k7 fun xk7 k7=>xE k7 fun lk7 k7=>xE k7 fun bk7 k7=>xE k7 fun q1k7 k7=>xE k7 fun q2k7 k7=>xE k7 fun q3k7 k7=>xE k7 fun q4k7 k7=>xE k7 fun q5k7 k7=>?_) (fun k7=>?_)
    case' refine_2 =>
     refine Or.inr ?_;refine .mk [0] _ _ _ _ (hM _ _ _ _ _ (k7.2)) rfl rfl rfl _ rfl ?_;cbv;have e0:=k7.1;subst e0;cbv;all_goals trivial
    refine Or.inl ?_;refine ⟨.mk trivial,?_⟩;refine .mk [0] _ _ _ _ (hM _ _ _ _ _ (k7.2.2.2.2)) rfl rfl rfl rfl ?_;cbv;have ok7:=k7.2.2.2.1.one;cbv at ok7;cbv;simp only [ok7];cbv;refine ⟨.mk (by repeat' (first|exact trivial|refine ⟨rfl,?_⟩)),?_⟩
    cbv;refine ⟨(rm _ _ _ (by decide) (by decide)),?_⟩;cbv
    have e0:=okE (k7.2.1);subst e0;simp only [k7.1.place,nd,ndN,ndO,za8,zao,zae,lCA,lNA,k7.2.2.2.1.row];cbv
    repeat (first|(refine ⟨(pr _ _ rfl),?_⟩;cbv)|(simp only [sb1,sb2,sb3];cbv))
    all_goals trivial
   refine .z [0] (hM _ _ _ _ _ (k6.2.2)) rfl rfl rfl ?_;cbv;refine oE (ndS (L:=(l1.drop 1)) (c:=c2) (ih (.assign c2 (l1.drop 1)) (by simp only [Sy.meas,Sy.l,Sy.rank];omega)) rfl rfl rfl rfl rfl rfl k5.1 k6.1) (fun k8=>xE k8 fun xk8 k8=>xE k8 fun lk8 k8=>xE k8 fun bk8 k8=>xE k8 fun q1k8 k8=>xE k8 fun q2k8 k8=>xE k8 fun q3k8 k8=>xE k8 fun q4k8 k8=>xE k8 fun q5k8 k8=>?_) (fun k8=>?_)
   case' refine_2 =>
    refine Or.inr ?_;refine .mk [0] _ _ _ _ (hM _ _ _ _ _ (k8.2)) rfl rfl rfl _ rfl ?_;cbv;have e0:=k8.1;subst e0;cbv;all_goals trivial
   refine Or.inl ?_;refine ⟨.mk trivial,?_⟩;refine .mk [0] _ _ _ _ (hM _ _ _ _ _ (k8.2.2.2.2)) rfl rfl rfl rfl ?_;cbv;have ok8:=k8.2.2.2.1.one;cbv at ok8;cbv;simp only [ok8];cbv;refine ⟨.mk (by repeat' (first|exact trivial|refine ⟨rfl,?_⟩)),?_⟩
   cbv;refine ⟨(rm _ _ _ (by decide) (by decide)),?_⟩;cbv
   have e0:=okE (k8.2.1);subst e0;simp only [k8.1.place,nd,ndN,ndO,za8,zao,zae,lCA,lNA,k8.2.2.2.1.row];cbv
   repeat (first|(refine ⟨(pr _ _ rfl),?_⟩;cbv)|(simp only [sb1,sb2,sb3];cbv))
   all_goals trivial
  | cons p ps =>
   refine Seg.ofM zaa mixed (fun n=>match n with|11=>5|12=>9|_=>0) (fun n=>match n with|11=>[3]|12=>[3]|_=>[]) (fun n i=>match n,i with|11,3=>1|11,4=>1|12,3=>1|12,4=>1|12,5=>1|12,6=>1|12,7=>1|12,8=>1|_,_=>0) (by kernel_rfl) (fun E=>za0 E tyT Tryz.f46.results.toList [t0] (rOf o) (hOf toks LR c o)) fun P G E hc hM hE=>?_
   have fO:=zje hE;have sb1:=fO.s1;have sb2:=fO.s2;have sb3:=fO.s3;have ap2:=fO.a2;have ap3:=fO.a3;have an2:=fO.n2;have an3:=fO.n3;have rm:=fun k m b h1 h2=>fO.room k m b h1 h2
   have pr:=fun k rs h=>fO.pre k rs h
   cbv;refine oE (zc1 h1 zf3 c ho1) (fun k9=>xE k9 fun bk9 k9=>?_) (fun k9=>?_)
   case' refine_2 =>
    refine .z [0] (hM _ _ _ _ _ (k9.2)) rfl rfl rfl ?_;cbv;have e0:=k9.1;subst e0;cbv;all_goals trivial
   refine .z [0] (hM _ _ _ _ _ (k9.2.2.2.2)) rfl rfl rfl ?_;cbv;simp only [sb1,sb2,sb3];cbv;refine ⟨_,hc _ _ _ hw,?_⟩;cbv;refine oE (isS k9.1 0 (by decide) zg3 c2 k9.2.1) (fun k10=>?_) (fun k10=>?_)
   case' refine_1 =>
    refine .z [0] (hM _ _ _ _ _ (k10.2.2.2)) rfl rfl rfl ?_;cbv;refine oE (ndS (L:=(l1.drop 1)) (c:=c2) (ih (.block c2 (l1.drop 1)) (by simp only [Sy.meas,Sy.l,Sy.rank];omega)) rfl rfl rfl rfl rfl rfl k9.1 k10.1) (fun k11=>xE k11 fun xk11 k11=>xE k11 fun lk11 k11=>xE k11 fun bk11 k11=>xE k11 fun q1k11 k11=>xE k11 fun q2k11 k11=>xE k11 fun q3k11 k11=>xE k11 fun q4k11 k11=>xE k11 fun q5k11 k11=>?_) (fun k11=>?_)
    case' refine_2 =>
     refine Or.inr ?_;refine .mk [0] _ _ _ _ (hM _ _ _ _ _ (k11.2)) rfl rfl rfl _ rfl ?_;cbv;have e0:=k11.1;subst e0;cbv;all_goals trivial
    refine Or.inl ?_;refine ⟨.mk trivial,?_⟩;refine .mk [0] _ _ _ _ (hM _ _ _ _ _ (k11.2.2.2.2)) rfl rfl rfl rfl ?_;cbv;have ok11:=k11.2.2.2.1.one;cbv at ok11;refine xE (⟨_,rfl⟩:∃ R2,R++[[pI q1k11,pS q4k11,pI q2k11,pI q3k11,q5k11]]=R2) fun R2 hR2=>?_
    refine xE (⟨_,rfl⟩:∃ N2,N + 1=N2) fun N2 hN2=>?_
    have fA:=zv6 hE (hN) (hz) hR2 hN2;have fA1:=fA.pre;have fA2:=fA.room;have fA3:=fA.add;have fA4:=fA.app;have fA5:=fA.pre2;have fA6:=fA.sub;have fA7:=fA.p1;have fA8:=fA.s1;cbv;simp only [ok11];cbv;refine ⟨.mk (by repeat' (first|exact trivial|refine ⟨rfl,?_⟩)),?_⟩
    cbv
    repeat (first|(refine ⟨fA1,fA2,?_⟩;cbv)|(simp only [fA3,fA4];cbv))
    have e0:=okE (k11.2.1);subst e0;have hrow:za8 (xk11)=[pI q1k11,pS q4k11,pI q2k11,pI q3k11,q5k11]:=by (simp only [nd,ndN,ndO,za8,zao,zae,k11.2.2.2.1.row]) <;> rfl
    have hK:=zea (hR) hrow hR2;simp only [nd,ndN,ndO,lCA] at hK;simp only [k11.1.place,nd,ndN,ndO,za8,hK,lCA,lNA,k11.2.2.2.1.row];cbv
    repeat (first|(refine ⟨fA5,?_⟩;cbv)|(simp only [fA6];cbv))
    all_goals trivial
   refine .z [0] (hM _ _ _ _ _ (k10.2.2)) rfl rfl rfl ?_;cbv;refine oE (ndS (L:=(l1.drop 1)) (c:=c2) (ih (.assign c2 (l1.drop 1)) (by simp only [Sy.meas,Sy.l,Sy.rank];omega)) rfl rfl rfl rfl rfl rfl k9.1 k10.1) (fun k12=>xE k12 fun xk12 k12=>xE k12 fun lk12 k12=>xE k12 fun bk12 k12=>xE k12 fun q1k12 k12=>xE k12 fun q2k12 k12=>xE k12 fun q3k12 k12=>xE k12 fun q4k12 k12=>xE k12 fun q5k12 k12=>?_) (fun k12=>?_)
   case' refine_2 =>
    refine Or.inr ?_;refine .mk [0] _ _ _ _ (hM _ _ _ _ _ (k12.2)) rfl rfl rfl _ rfl ?_;cbv;have e0:=k12.1;subst e0;cbv;all_goals trivial
   refine Or.inl ?_;refine ⟨.mk trivial,?_⟩;refine .mk [0] _ _ _ _ (hM _ _ _ _ _ (k12.2.2.2.2)) rfl rfl rfl rfl ?_;cbv;have ok12:=k12.2.2.2.1.one;cbv at ok12;refine xE (⟨_,rfl⟩:∃ R2,R++[[pI 27,pS ⟨#[]⟩,pI 0,pI 0,.ro 5 [[pI 32,pS ⟨#[]⟩,pI 0,pI 0,.ro 5 [[pI q1k12,pS q4k12,pI q2k12,pI q3k12,q5k12]]]]]]=R2) fun R2 hR2=>?_
   refine xE (⟨_,rfl⟩:∃ N2,N + 1=N2) fun N2 hN2=>?_
   have fA:=zv6 hE (hN) (hz) hR2 hN2;have fA1:=fA.pre;have fA2:=fA.room;have fA3:=fA.add;have fA4:=fA.app;have fA5:=fA.pre2;have fA6:=fA.sub;have fA7:=fA.p1;have fA8:=fA.s1;cbv;simp only [ok12];cbv;refine ⟨.mk (by repeat' (first|exact trivial|refine ⟨rfl,?_⟩)),?_⟩
   cbv
   repeat (first|(refine ⟨fA1,fA2,?_⟩;cbv)|(simp only [fA3,fA4];cbv))
   have e0:=okE (k12.2.1);subst e0;have hrow:za8 (nd 27 [nd 32 [xk12]])=[pI 27,pS ⟨#[]⟩,pI 0,pI 0,.ro 5 [[pI 32,pS ⟨#[]⟩,pI 0,pI 0,.ro 5 [[pI q1k12,pS q4k12,pI q2k12,pI q3k12,q5k12]]]]]:=by (simp only [nd,ndN,ndO,za8,zao,zae,k12.2.2.2.1.row]) <;> rfl
   have hK:=zea (hR) hrow hR2;simp only [nd,ndN,ndO,lCA] at hK;simp only [k12.1.place,nd,ndN,ndO,za8,hK,lCA,lNA,k12.2.2.2.1.row];cbv
   repeat (first|(refine ⟨fA5,?_⟩;cbv)|(simp only [fA6];cbv))
   all_goals trivial
end
end Go.Proofs.YtcfecmeocimclaaGreatDoor
