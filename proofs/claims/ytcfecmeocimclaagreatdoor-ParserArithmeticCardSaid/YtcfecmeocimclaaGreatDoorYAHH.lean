/- Own work: the walk of operands. -/
import Derived.Test.YtcfecmeocimclaaGreatDoorYAA0
import Derived.Test.YtcfecmeocimclaaGreatDoorYAHG
import Derived.Test.YtcfecmeocimclaaGreatDoorYAGB
namespace Go.Proofs.YtcfecmeocimclaaGreatDoor
set_option linter.unusedSimpArgs false
set_option linter.unusedSectionVars false
set_option maxRecDepth 100000
open Go.RowKit
def frzA (H:AH):AV->AV
 | .p x=>.p x
 | .osl k i n=>(match H[k]? with
  | some (some (.rows s rs _))=>(match Nat.ble (i + n) rs.length with
   | true=>.p (.ro s ((rs.drop i).take n))
   | false=>.junk)
  | _=>.junk)
 | _=>.junk
theorem z6c {env:List AV} {H:AH}:Wk env H (env.map (frzA H)) (H.map fun _=>none):=by
 intro w0 B w ι tmps hB hR hE;have hno:∀ (k:Nat) (b:ABlk),(H.map fun _=>(none:Option ABlk))[k]? ≠ some (some b):=fun k b h=>by
  rw [List.getElem?_map] at h
  cases hk:H[k]? with
  | none=>rw [hk] at h;cases h
  | some x=>rw [hk] at h;cases h
 have hrd:∀ b,B b->Rd B ι (H.map fun _=>(none:Option ABlk)) b:=fun b hb=>⟨hb,fun ⟨k,b',_,h,_⟩=>hno k b' h⟩
 refine ⟨ι,⟨hR.gr,hR.fut,by simp [hR.len],fun k b c s h1=>absurd h1 (hno k b),fun k l b b' c s s' h1=>absurd h1 (hno k b)⟩,by simp [hE.len],fun q y u hy hu=>?_⟩
 rw [List.getElem?_map] at hy
 cases hq:env[q]? with
 | none=>rw [hq] at hy;cases hy
 | some a =>
  rw [hq] at hy
  cases hy
  have hr:=hE.at_ q a u hq hu
  cases a with
  | p x =>
   cases hr with
   | p _ _ h=>exact .p _ _ ((zrr h).keep (nR _) fun b hb _=>⟨hrd b hb,rfl⟩)
  | osl k i n =>
   simp only [frzA]
   split
   ·rename_i s rs t hk
    split
    ·rename_i hle;have hle:=Nat.le_of_ble_eq_true hle;obtain ⟨p,rfl,hp⟩:=zge hR hB (.osl k i n) u (fun p=>p=.ro s ((rs.drop i).take n)) (by
      unfold frz;rw [hk];exact ⟨hle,rfl⟩) hr
     exact .p _ _ (hp.keep (nR _) fun b hb _=>⟨hrd b hb,rfl⟩)
    ·exact .junk _
   ·exact .junk _
  | own _ _=>exact .junk _
  | orw _ _ _=>exact .junk _
  | agg _=>exact .junk _
  | tup _=>exact .junk _
  | clo _ _ _=>exact .junk _
  | junk=>exact .junk _
def stT:List (List PV):=[[.ro 1 [[pI 22],[pI 23]]],[.ro 1 [[pI 21],[pI 21]]],[.ro 1 [[pI 11],[pI 14]]],[.ro 1 [[pI 15],[pI 20]]],[.ro 1 [[pI 6],[pI 7]]],[.ro 1 [[pI 8],[pI 10]]]]
theorem zoc:V0 89 [] (.ro 1 stT):=by
 refine zew zaa zby (f:=89) Tryz.func89 rfl (by kernel_rfl) (oT (by kernel_rfl)) ?_
 refine Seg.cutK 1 8 [] 0 (fun _:Unit=>[]) (fun _=>[]) (fun _=>True) zaa mixed (fun _=>0) (fun E=>zfm E tyT Tryz.f89.results.toList (.ro 1 stT)) (by kernel_rfl) ?_ ?_
 ·intro P G E hc hMM hE;cbv;exact .mk () ⟨rfl,rfl,rfl,rfl,rfl⟩ trivial
 intro _ _;refine Seg.cut 8 [0] 1 (fun _:Unit=>[.osl 0 0 6]) (fun _=>[some (.rows 1 stT 110)]) (fun _=>True) ?_ ?_
 ·refine Seg.cutOps 6 8 [1,2,3,4,5,6] 0 (fun _:Unit=>[.p (.ro 1 [[pI 22],[pI 23]]),.p (.ro 1 [[pI 21],[pI 21]]),.p (.ro 1 [[pI 11],[pI 14]]),.p (.ro 1 [[pI 15],[pI 20]]),.p (.ro 1 [[pI 6],[pI 7]]),.p (.ro 1 [[pI 8],[pI 10]])]) (fun _=>[]) (fun _=>True) zaa (fun E=>zce (CutIs 8 [0] 1 (fun _:Unit=>[.osl 0 0 6]) (fun _=>[some (.rows 1 stT 110)]) (fun _=>True)) (zfm E tyT Tryz.f89.results.toList (.ro 1 stT))) ?_ ?_
  ·intro P G E hc hMM hE;cbv;exact .wk () _ _ z6c ⟨rfl,rfl,rfl,rfl,rfl⟩ trivial
  ·intro _ _ P G E hc hMM hE;cbv;exact .mk () ⟨rfl,rfl,rfl,rfl,rfl⟩ trivial
 intro _ _;refine Seg.of zaa mixed (fun _=>0) (by kernel_rfl) (fun E=>zfm E tyT Tryz.f89.results.toList (.ro 1 stT)) fun P G E hc hM hE=>?_
 have p1:E.pre 0 6 stT:=by rw [hE];exact nR 6
 have t3:E.sub stT 0 6=stT:=by rw [hE];rfl
 clear hE hc hM;cbv;refine ⟨p1,?_⟩;exact congrArg (PV.ro 1) t3
theorem z6m:∀ k:Nat,k < 6->∃ fr cnt:Nat,zzv k=(fr,cnt)/\1<=fr/\fr + cnt<=30/\1<=cnt/\stT[k]?=some [.ro 1 [[pI (fr:Nat)],[pI ((fr + cnt - 1:Nat):Int)]]]
 | 0,_=>⟨22,2,rfl,by decide,by decide,by decide,rfl⟩
 | 1,_=>⟨21,1,rfl,by decide,by decide,by decide,rfl⟩
 | 2,_=>⟨11,4,rfl,by decide,by decide,by decide,rfl⟩
 | 3,_=>⟨15,6,rfl,by decide,by decide,by decide,rfl⟩
 | 4,_=>⟨6,2,rfl,by decide,by decide,by decide,rfl⟩
 | 5,_=>⟨8,3,rfl,by decide,by decide,by decide,rfl⟩
 | _ + 6,h=>by omega
theorem zfp {x:PT} {k i o:Int} {nm:ByteArray} {K:PV} (h:za8 x=[pI k,pS nm,pI i,pI o,K]):NodeV x k i o nm K:=by
 cases x with
 | mk k' nm' i' o' ks =>
  rw [za8] at h;have h1:k'=k:=by
   have:=congrArg (fun r=>r[0]?) h
   simpa using this
  have h5:zao ks=K:=by
   have:=congrArg (fun r=>r[4]?) h
   simpa using this
  exact ⟨by rw [za8];exact h,by rw [<-h5];exact zov ks,h1⟩
section
variable {n:Int} {toks:List Tk} {LR:List (List PV)} {l:Ts}
set_option maxHeartbeats 4000000 in
theorem zxe {k:Nat} {c:Cx} (ih:∀ s':Sy,s'.meas < (Sy.opnd k c l).meas->zd0 n toks LR s'):zd0 n toks LR (.opnd k c l):=by
 intro f hf a h o ho;have hk6:k<=6:=by
  by_cases hk:k<=6
  ·exact hk
  ·rw [show (Sy.opnd k c l).fid=none from if_neg hk] at hf;cases hf
 rw [show (Sy.opnd k c l).fid=some 70 from if_pos hk6] at hf
 cases hf
 rw [zac] at ho;change zev ev k c l=some o at ho;unfold zev at ho;change AtP n toks LR a l at h;show MP _ (.own 0 0 :: [.p (pI (k:Nat))]) [rdr LR a c] (rOf o) (hOf toks LR c o);obtain ⟨z,hzk⟩:∃ z:Int,((k:Nat):Int)=z:=⟨_,rfl⟩
 rw [hzk];have hst:=upL zoc
 rcases Nat.lt_or_ge k 6 with hlt|hge
 ·rw [if_neg (by omega)] at ho
  obtain ⟨fr,cnt,e1,e2,e3,e4,e5⟩:=z6m k hlt;obtain ⟨z1,hz1⟩:∃ z:Int,((fr:Nat):Int)=z:=⟨_,rfl⟩
  obtain ⟨z2,hz2⟩:∃ z:Int,((fr + cnt - 1:Nat):Int)=z:=⟨_,rfl⟩
  obtain ⟨z3,hz3⟩:∃ z:Int,((k + 1:Nat):Int)=z:=⟨_,rfl⟩
  have hl2:k < 2->z < 2:=fun h=>by omega
  have hg2:¬ k < 2->¬ z < 2:=fun h=>by omega
  have hz12:z1 + ((cnt:Nat):Int)=z2 + 1:=by omega
  rw [hz1,hz2] at e5;have hTL:stT.length=6:=rfl;obtain ⟨TB,hTB⟩:∃ x,stT=x:=⟨_,rfl⟩
  rw [hTB] at e5 hst hTL;obtain ⟨μ,hμ⟩:∃ μ:Int × Ts × PT × Int × Int × Int × ByteArray × PV->Nat,∀ x,μ x=x.2.1.length:=⟨_,fun _=>rfl⟩
  have fid1:(Sy.opnd (k + 1) c l).fid=some 70:=if_pos (by omega)
  have rk1:(Sy.opnd (k + 1) c l).meas < (Sy.opnd k c l).meas:=by
   show 64 * l.length + (if k + 1<=6 then 26 - 2 * (k + 1) else 14) < 64 * l.length + (if k<=6 then 26 - 2 * k else 14)
   rw [if_pos (by omega),if_pos hk6]
   omega
  have rk2:∀ l2:Ts,l2.length < l.length->(Sy.opnd (k + 1) c l2).meas < (Sy.opnd k c l).meas:=fun l2 h2=>by
   show 64 * l2.length + (if k + 1<=6 then 26 - 2 * (k + 1) else 14) < 64 * l.length + (if k<=6 then 26 - 2 * k else 14)
   rw [if_pos (by omega),if_pos hk6]
   omega
  refine zad zaa (f:=70) Tryz.func70 rfl (by kernel_rfl) (oT (by kernel_rfl)) fun tags htl=>?_
  match tags,htl with
  | [t0],_ =>
   refine Seg.ofM zaa mixed (fun n=>match n with|8=>14|15=>8|_=>0) (fun n=>match n with|15=>[6]|_=>[]) (fun n i=>match n,i with|15,6=>1|15,7=>1|_,_=>0) (by kernel_rfl) (fun E=>za0 E tyT Tryz.f70.results.toList [t0] (rOf o) (hOf toks LR c o)) fun P G E hc hM hE=>?_
   have l0:E.ofN TB.length=6:=by rw [hE,hTL];rfl
   have d6:decide (z=6)=false:=dF (by omega)
   have ea:E.wadd .i64 z 1=z3:=by rw [hE,<- hz3,<- hzk];exact zaf (by omega) (by omega)
   have pz:E.ple 0 z:=by rw [hE];show 0<=z;omega
   have gz:TB[E.nat z]?=some [.ro 1 [[pI z1],[pI z2]]]:=by rw [hE];show TB[z.toNat]?=_;rw [show z.toNat=k by omega];exact e5
   have n0:E.nat 0=0:=by rw [hE];rfl
   have n1:E.nat 1=1:=by rw [hE];rfl
   have p0:E.ple 0 0:=by rw [hE];exact Int.le_refl 0
   have p1:E.ple 0 1:=by rw [hE];exact (by decide:(0:Int)<=1)
   have fO:=zje hE;have sb2:=fO.s2;cbv at l0;refine ⟨_,hc _ _ _ hst,?_⟩;cbv
   repeat (first|(simp only [l0];cbv)|(simp only [d6];cbv)|(simp only [ea];cbv))
   refine oE (ndS (L:=l) (c:=c) (ih (.opnd (k + 1) c l) rk1) fid1 rfl rfl rfl rfl (show (Sy.opnd (k + 1) c l).args=[.p (pI z3)] by rw [<-hz3];rfl) h ho) (fun k1=>xE k1 fun xk1 k1=>xE k1 fun lk1 k1=>xE k1 fun bk1 k1=>xE k1 fun q1k1 k1=>xE k1 fun q2k1 k1=>xE k1 fun q3k1 k1=>xE k1 fun q4k1 k1=>xE k1 fun q5k1 k1=>?_) (fun k1=>?_)
   case' refine_2 =>
    refine .z [0] (hM _ _ _ _ _ (k1.2)) rfl rfl rfl ?_;cbv;have e0:=k1.1;subst e0;cbv;all_goals trivial
   refine .z [0] (hM _ _ _ _ _ (k1.2.2.2.2)) rfl rfl rfl ?_;cbv;have ok1:=k1.2.2.2.1.one;cbv at ok1;cbv;simp only [ok1];cbv;refine zbs 68 [0,1,4,5,6] 3 (fun x:Int × Ts × PT × Int × Int × Int × ByteArray × PV=>[.own 0 0,.p (pI z),.own 1 0,.p (.ro 1 TB),.own 2 0]) (fun x=>[some (.box [.p (.ro 3 LR),.p (pI x.1),.p (pB c.fn),.p (pB c.lp),.p (pB c.gn),.p (pB c.as_)] 50 (some t0)),some (.box [.p (pI 0),.p (pS ⟨#[]⟩),.p (pI 0),.p (pI 0),.p (.v (.slice none 0 0))] 27 none),some (.box [.p (pI x.2.2.2.1),.p (pS x.2.2.2.2.2.2.1),.p (pI x.2.2.2.2.1),.p (pI x.2.2.2.2.2.1),.p x.2.2.2.2.2.2.2] 27 none)])
    (fun x=>AtP n toks LR x.1 x.2.1/\ev (.opndL k x.2.2.1 c x.2.1)=some o/\NodeV x.2.2.1 x.2.2.2.1 x.2.2.2.2.1 x.2.2.2.2.2.1 x.2.2.2.2.2.2.1 x.2.2.2.2.2.2.2/\x.2.1.length < l.length) μ (bk1,lk1,xk1,q1k1,q2k1,q3k1,q4k1,q5k1) ⟨rfl,rfl,rfl,rfl,rfl⟩ ⟨k1.1,k1.2.1,k1.2.2.2.1,k1.2.2.1⟩ ?_
   rintro ⟨a1,l1,x,kq,iq,oq,nq,KK⟩ ⟨g1,g2,g3,g4⟩
   simp only at g1 g2 g3 g4;rw [zac] at g2;replace g2:zem ev k x c l1=some o:=g2;unfold zem at g2;rw [e1] at g2;simp only at g2;have ok:=g3.one;cbv at ok;cbv;refine xE (ziq g1 0 (by decide) c) fun K k2=>xE k2 fun T k2=>xE k2 fun zz k2=>?_
   refine .z [0] (hM _ _ _ _ _ (k2.2.2)) rfl rfl rfl ?_;cbv;refine oE (or2S g2) (fun k3=>?_) (fun k3=>oE k3 (fun k3=>?_) (fun k3=>?_))
   case' refine_1 =>
    have eK:decide (K=5)=true:=by rw [<-k2.1];exact dT k3.2
    cbv
    repeat (first|(simp only [eK];cbv)|(refine ⟨pz,_,gz,?_⟩;cbv)|(simp only [n0,n1];cbv)|(refine ⟨p0,_,rfl,?_⟩;cbv)|(refine ⟨p1,_,rfl,?_⟩;cbv))
    refine xE (zqm _ k2.2.1 fr cnt e2 e3 z1 z2 hz1 hz12) fun F k4=>?_
    refine ⟨_,hc _ _ _ k4.2,?_⟩;cbv;refine oE (zm2 k3.1) (fun k5=>?_) (fun k5=>?_)
    case' refine_1 =>
     have eF:decide (F=0)=true:=by rw [<-k4.1];exact dT k5.1
     cbv
     repeat (first|(simp only [eF];cbv)|(simp only [ok];cbv))
     have e0:=okE k5.2;subst e0;simp only [g1.place,g3.row];cbv;all_goals trivial
    have eF:decide (F=0)=false:=by rw [<-k4.1];exact dF k5.1
    cbv;simp only [eF];cbv;refine xE (AtP.next g1 (zaw k3.2 (by decide))) fun b6 k6=>?_
    have d7:(List.drop 1 l1).length < l1.length:=by have:=zaw k3.2 (by decide);rw [lLD];omega
    have ak6:=zcg hE k6.2.2.1 k6.2.2.2 k6.2.1;cbv;simp only [ak6];cbv;refine oE (cEm (k < 2)) (fun h2=>?_) (fun h2=>?_)
    case' refine_1 =>
     have d2:E.lti z 2=true:=by rw [hE];exact dT (hl2 h2)
     cbv;simp only [d2];cbv;cbv;simp only [ea];cbv;refine oE (ndS (L:=(List.drop 1 l1)) (c:=c) (ih (.opnd (k + 1) c (List.drop 1 l1)) (rk2 _ (by omega))) fid1 rfl rfl rfl rfl (show (Sy.opnd (k + 1) c (List.drop 1 l1)).args=[.p (pI z3)] by rw [<-hz3];rfl) k6.1 k5.2) (fun k8=>xE k8 fun xk8 k8=>xE k8 fun lk8 k8=>xE k8 fun bk8 k8=>xE k8 fun q1k8 k8=>xE k8 fun q2k8 k8=>xE k8 fun q3k8 k8=>xE k8 fun q4k8 k8=>xE k8 fun q5k8 k8=>?_) (fun k8=>?_)
     case' refine_2 =>
      refine Or.inr ?_;refine .mk [0] _ _ _ _ (hM _ _ _ _ _ (k8.2)) rfl rfl rfl _ rfl ?_;cbv;have e0:=k8.1;subst e0;cbv;all_goals trivial
     refine Or.inl ?_;refine ⟨.mk trivial,?_⟩;refine .mk [0] _ _ _ _ (hM _ _ _ _ _ (k8.2.2.2.2)) rfl rfl rfl rfl ?_;cbv;have ok8:=k8.2.2.2.1.one;cbv at ok8;cbv
     repeat (first|(simp only [ok];cbv)|(simp only [ok8];cbv)|(simp only [ea];cbv))
     refine ⟨.mk (by repeat' (first|exact trivial|refine ⟨rfl,?_⟩)),?_⟩
     cbv;have e9:=k8.2.1;rw [(if_pos h2)] at e9;exact .mk (bk8,lk8,ndO 14 (zbz (tx l1 0) fr cnt) [x,xk8],14,0,F,⟨#[]⟩,.ro 5 [[pI kq,pS nq,pI iq,pI oq,KK],[pI q1k8,pS q4k8,pI q2k8,pI q3k8,q5k8]]) ⟨rfl,rfl,rfl,rfl,rfl⟩ ⟨k8.1,e9,zfp (by simp only [ndO,za8,zao,zae,g3.row,k8.2.2.2.1.row,k4.1];rfl),by show lk8.length < l.length;have:=k8.2.2.1;omega⟩ (by rw [hμ,hμ];show lk8.length < l1.length;have:=k8.2.2.1;omega)
    have d2:E.lti z 2=false:=by rw [hE];exact dF (hg2 h2)
    cbv;simp only [d2];cbv;cbv;simp only [ea];cbv;refine oE (ndS (L:=(List.drop 1 l1)) (c:=c) (ih (.opnd (k + 1) c (List.drop 1 l1)) (rk2 _ (by omega))) fid1 rfl rfl rfl rfl (show (Sy.opnd (k + 1) c (List.drop 1 l1)).args=[.p (pI z3)] by rw [<-hz3];rfl) k6.1 k5.2) (fun k8=>xE k8 fun xk8 k8=>xE k8 fun lk8 k8=>xE k8 fun bk8 k8=>xE k8 fun q1k8 k8=>xE k8 fun q2k8 k8=>xE k8 fun q3k8 k8=>xE k8 fun q4k8 k8=>xE k8 fun q5k8 k8=>?_) (fun k8=>?_)
    case' refine_2 =>
     refine Or.inr ?_;refine .mk [0] _ _ _ _ (hM _ _ _ _ _ (k8.2)) rfl rfl rfl _ rfl ?_;cbv;have e0:=k8.1;subst e0;cbv;all_goals trivial
    refine Or.inl ?_;refine ⟨.mk trivial,?_⟩;refine .mk [0] _ _ _ _ (hM _ _ _ _ _ (k8.2.2.2.2)) rfl rfl rfl rfl ?_;cbv;have ok8:=k8.2.2.2.1.one;cbv at ok8;cbv
    repeat (first|(simp only [ok];cbv)|(simp only [ok8];cbv)|(simp only [ea];cbv))
    refine ⟨.mk (by repeat' (first|exact trivial|refine ⟨rfl,?_⟩)),?_⟩
    cbv;have e9:=k8.2.1;rw [(if_neg h2)] at e9;exact .mk (bk8,lk8,ndO 13 (zbz (tx l1 0) fr cnt) [x,xk8],13,0,F,⟨#[]⟩,.ro 5 [[pI kq,pS nq,pI iq,pI oq,KK],[pI q1k8,pS q4k8,pI q2k8,pI q3k8,q5k8]]) ⟨rfl,rfl,rfl,rfl,rfl⟩ ⟨k8.1,e9,zfp (by simp only [ndO,za8,zao,zae,g3.row,k8.2.2.2.1.row,k4.1];rfl),by show lk8.length < l.length;have:=k8.2.2.1;omega⟩ (by rw [hμ,hμ];show lk8.length < l1.length;have:=k8.2.2.1;omega)
   case' refine_2 =>
    have eK:decide (K=5)=false:=by rw [<-k2.1];exact dF k3.2.1
    have eK2:decide (K=2)=true:=by rw [<-k2.1];exact dT k3.2.2
    cbv
    repeat (first|(simp only [eK];cbv)|(simp only [eK2];cbv)|(refine ⟨pz,_,gz,?_⟩;cbv)|(simp only [n0,n1];cbv)|(refine ⟨p0,_,rfl,?_⟩;cbv)|(refine ⟨p1,_,rfl,?_⟩;cbv))
    refine xE (zqm _ k2.2.1 fr cnt e2 e3 z1 z2 hz1 hz12) fun F k4=>?_
    refine ⟨_,hc _ _ _ k4.2,?_⟩;cbv;refine oE (zm2 k3.1) (fun k5=>?_) (fun k5=>?_)
    case' refine_1 =>
     have eF:decide (F=0)=true:=by rw [<-k4.1];exact dT k5.1
     cbv
     repeat (first|(simp only [eF];cbv)|(simp only [ok];cbv))
     have e0:=okE k5.2;subst e0;simp only [g1.place,g3.row];cbv;all_goals trivial
    have eF:decide (F=0)=false:=by rw [<-k4.1];exact dF k5.1
    cbv;simp only [eF];cbv;refine xE (AtP.next g1 (zaw k3.2.2 (by decide))) fun b6 k6=>?_
    have d7:(List.drop 1 l1).length < l1.length:=by have:=zaw k3.2.2 (by decide);rw [lLD];omega
    have ak6:=zcg hE k6.2.2.1 k6.2.2.2 k6.2.1;cbv;simp only [ak6];cbv;refine oE (cEm (k < 2)) (fun h2=>?_) (fun h2=>?_)
    case' refine_1 =>
     have d2:E.lti z 2=true:=by rw [hE];exact dT (hl2 h2)
     cbv;simp only [d2];cbv;cbv;simp only [ea];cbv;refine oE (ndS (L:=(List.drop 1 l1)) (c:=c) (ih (.opnd (k + 1) c (List.drop 1 l1)) (rk2 _ (by omega))) fid1 rfl rfl rfl rfl (show (Sy.opnd (k + 1) c (List.drop 1 l1)).args=[.p (pI z3)] by rw [<-hz3];rfl) k6.1 k5.2) (fun k8=>xE k8 fun xk8 k8=>xE k8 fun lk8 k8=>xE k8 fun bk8 k8=>xE k8 fun q1k8 k8=>xE k8 fun q2k8 k8=>xE k8 fun q3k8 k8=>xE k8 fun q4k8 k8=>xE k8 fun q5k8 k8=>?_) (fun k8=>?_)
     case' refine_2 =>
      refine Or.inr ?_;refine .mk [0] _ _ _ _ (hM _ _ _ _ _ (k8.2)) rfl rfl rfl _ rfl ?_;cbv;have e0:=k8.1;subst e0;cbv;all_goals trivial
     refine Or.inl ?_;refine ⟨.mk trivial,?_⟩;refine .mk [0] _ _ _ _ (hM _ _ _ _ _ (k8.2.2.2.2)) rfl rfl rfl rfl ?_;cbv;have ok8:=k8.2.2.2.1.one;cbv at ok8;cbv
     repeat (first|(simp only [ok];cbv)|(simp only [ok8];cbv)|(simp only [ea];cbv))
     refine ⟨.mk (by repeat' (first|exact trivial|refine ⟨rfl,?_⟩)),?_⟩
     cbv;have e9:=k8.2.1;rw [(if_pos h2)] at e9;exact .mk (bk8,lk8,ndO 14 (zbz (tx l1 0) fr cnt) [x,xk8],14,0,F,⟨#[]⟩,.ro 5 [[pI kq,pS nq,pI iq,pI oq,KK],[pI q1k8,pS q4k8,pI q2k8,pI q3k8,q5k8]]) ⟨rfl,rfl,rfl,rfl,rfl⟩ ⟨k8.1,e9,zfp (by simp only [ndO,za8,zao,zae,g3.row,k8.2.2.2.1.row,k4.1];rfl),by show lk8.length < l.length;have:=k8.2.2.1;omega⟩ (by rw [hμ,hμ];show lk8.length < l1.length;have:=k8.2.2.1;omega)
    have d2:E.lti z 2=false:=by rw [hE];exact dF (hg2 h2)
    cbv;simp only [d2];cbv;cbv;simp only [ea];cbv;refine oE (ndS (L:=(List.drop 1 l1)) (c:=c) (ih (.opnd (k + 1) c (List.drop 1 l1)) (rk2 _ (by omega))) fid1 rfl rfl rfl rfl (show (Sy.opnd (k + 1) c (List.drop 1 l1)).args=[.p (pI z3)] by rw [<-hz3];rfl) k6.1 k5.2) (fun k8=>xE k8 fun xk8 k8=>xE k8 fun lk8 k8=>xE k8 fun bk8 k8=>xE k8 fun q1k8 k8=>xE k8 fun q2k8 k8=>xE k8 fun q3k8 k8=>xE k8 fun q4k8 k8=>xE k8 fun q5k8 k8=>?_) (fun k8=>?_)
    case' refine_2 =>
     refine Or.inr ?_;refine .mk [0] _ _ _ _ (hM _ _ _ _ _ (k8.2)) rfl rfl rfl _ rfl ?_;cbv;have e0:=k8.1;subst e0;cbv;all_goals trivial
    refine Or.inl ?_;refine ⟨.mk trivial,?_⟩;refine .mk [0] _ _ _ _ (hM _ _ _ _ _ (k8.2.2.2.2)) rfl rfl rfl rfl ?_;cbv;have ok8:=k8.2.2.2.1.one;cbv at ok8;cbv
    repeat (first|(simp only [ok];cbv)|(simp only [ok8];cbv)|(simp only [ea];cbv))
    refine ⟨.mk (by repeat' (first|exact trivial|refine ⟨rfl,?_⟩)),?_⟩
    cbv;have e9:=k8.2.1;rw [(if_neg h2)] at e9;exact .mk (bk8,lk8,ndO 13 (zbz (tx l1 0) fr cnt) [x,xk8],13,0,F,⟨#[]⟩,.ro 5 [[pI kq,pS nq,pI iq,pI oq,KK],[pI q1k8,pS q4k8,pI q2k8,pI q3k8,q5k8]]) ⟨rfl,rfl,rfl,rfl,rfl⟩ ⟨k8.1,e9,zfp (by simp only [ndO,za8,zao,zae,g3.row,k8.2.2.2.1.row,k4.1];rfl),by show lk8.length < l.length;have:=k8.2.2.1;omega⟩ (by rw [hμ,hμ];show lk8.length < l1.length;have:=k8.2.2.1;omega)
   have eK:decide (K=5)=false:=by rw [<-k2.1];exact dF k3.2.1
   have eK2:decide (K=2)=false:=by rw [<-k2.1];exact dF k3.2.2
   cbv
   repeat (first|(simp only [eK];cbv)|(simp only [eK2];cbv)|(simp only [ok];cbv))
   have e0:=okE k3.1;subst e0;simp only [g1.place,g3.row];cbv;all_goals trivial
 ·rw [if_pos hge] at ho;have hTL:stT.length=6:=rfl;obtain ⟨TB,hTB⟩:∃ x,stT=x:=⟨_,rfl⟩
  rw [hTB] at hst hTL;refine zad zaa (f:=70) Tryz.func70 rfl (by kernel_rfl) (oT (by kernel_rfl)) fun tags htl=>?_
  match tags,htl with
  | [t0],_ =>
   refine Seg.cutKM 3 68 [] 0 (fun _:Unit=>[]) (fun _=>[]) (fun _=>False) zaa mixed (fun _=>0) (fun _=>[]) (fun _ _=>0) (fun E=>za0 E tyT Tryz.f70.results.toList [t0] (rOf o) (hOf toks LR c o)) (by kernel_rfl) (fun P G E hc hM hE=>?_) (fun _ h=>h.elim)
   have l0:E.ofN TB.length=6:=by rw [hE,hTL];rfl
   have d6:decide (z=6)=true:=dT (by omega)
   cbv at l0;cbv;refine ⟨_,hc _ _ _ hst,?_⟩;cbv
   repeat (first|(simp only [l0];cbv)|(simp only [d6];cbv))
   refine oE (zlw (L:=l) (c:=c) (ih (.unary c l) (by
    show 64 * l.length + 12 < 64 * l.length + (if k<=6 then 26 - 2 * k else 14)
    rw [if_pos hk6];omega)) rfl rfl rfl rfl rfl h ho) (fun k2=>xE k2 fun xk2 k2=>xE k2 fun lk2 k2=>xE k2 fun bk2 k2=>xE k2 fun q1k2 k2=>xE k2 fun q2k2 k2=>xE k2 fun q3k2 k2=>xE k2 fun q4k2 k2=>xE k2 fun q5k2 k2=>?_) (fun k2=>?_)
   case' refine_2 =>
    refine .z [0] (hM _ _ _ _ _ (k2.2)) rfl rfl rfl ?_;cbv;have e0:=k2.1;subst e0;cbv;all_goals trivial
   refine .z [0] (hM _ _ _ _ _ (k2.2.2.2)) rfl rfl rfl ?_;cbv;have ok2:=k2.2.2.1.one;cbv at ok2;cbv;simp only [ok2];cbv;have e0:=k2.2.1;subst e0;simp only [k2.1.place,k2.2.2.1.row];cbv;all_goals trivial
end
/- Own work: the walk of chain. -/
theorem zu4 (m:Nat):∀ (e:Bs) (acc:List PT) (c:Cx) (l:Ts) {ks:List PT} {l':Ts},l.length < m->ev (.list2L e acc c l)=some (some (.ls ks,l'))->ks.length + l'.length<=acc.length + l.length:=by
 induction m with
 | zero=>intro e acc c l ks l' h;omega
 | succ m ih =>
  intro e acc c l ks l' hm h;rw [zac] at h;change zcp ev e acc c l=_ at h;unfold zcp at h;obtain ⟨o,ho,hp⟩:=zmn (.assign c l);rw [ho] at h
  cases o with
  | none=>cases h
  | some q =>
   obtain ⟨v,l1⟩:=q;have h1:=hp v l1 rfl
   cases v with
   | nb x b=>cases h
   | ls x=>cases h
   | nd x =>
    have h2:l1.length < l.length:=(h1.2.2 rfl rfl).2;replace h:(if isT l1 0 e then okR (Rv.ls (acc++[x])) (l1.drop 1) else zap zcv l1 fun l2=>ev (.list2L e (acc++[x]) c l2))=some (some (.ls ks,l')):=h
    by_cases h3:isT l1 0 e=true
    ·rw [if_pos h3] at h
     cases h
     have:=zag h3
     simp only [lLA,lLD,lLS];omega
    ·rw [if_neg h3] at h;unfold zap at h
     by_cases h4:isT l1 0 zcv=true
     ·rw [if_pos h4] at h;have h5:=zag h4
      have:=ih e _ c _ (by rw [lLD];omega) h
      simp only [lLA,lLD,lLS] at this;omega
     ·rw [if_neg h4] at h;cases h
theorem zxw {e:Bs} {c:Cx} {l:Ts} {ks:List PT} {l':Ts} (h:ev (.list2 e c l)=some (some (.ls ks,l'))):ks.length<=l.length:=by
 rw [zac] at h;change zen ev e c l=_ at h;unfold zen at h
 split at h
 ·cases h;exact Nat.zero_le _
 ·have:=zu4 _ e [] c l (nLS _) h
  simp only [List.length_nil] at this;omega
def chN2 (c:Cx) (m:PT) (l1:Ts):Re Rv:=zap zbm l1 fun l2=>lsR (ev (.list2 zan c l2)) fun qs l3=>ev (.chainL (nd 21 (m :: qs)) c l3)
def chI (c:Cx):Bool->PT->Ts->Re Rv
 | true,x,l=>ev (.chainN x c l)
 | false,x,l=>chN2 c x l
theorem z8v {c:Cx} {p:Bool} {x:PT} {l:Ts} {o:Option (Rv × Ts)} (h:(if p then ev (.chainN x c l) else zap zbm l fun l2=>lsR (ev (.list2 zan c l2)) fun qs l3=>ev (.chainL (nd 21 (x :: qs)) c l3))=some o):chI c p x l=some o:=by
 cases p with
 | true=>exact h
 | false=>exact h
theorem zoo {α:Type} (l:List α):l=[]\/∃ x xs,l=x :: xs:=by
 cases l with
 | nil=>exact .inl rfl
 | cons x xs=>exact .inr ⟨x,xs,rfl⟩
structure ApL (E:SO) (r:List PV) (rs:List (List PV)) (M:Nat) (R2:List (List PV)) (N2:Nat):Prop where
 pre:E.pre 0 1 [r]
 room:E.room 1 M 64
 add:E.addN 1 M=N2
 app:E.app [r] 1 rs=R2
 le:N2<=R2.length
 take:R2.take N2=R2
theorem apL {E:SO} (hE:E=zas) {r:List PV} {rs:List (List PV)} {M:Nat} (hM:rs.length=M) (hz:M<=1000000) {R2:List (List PV)} {N2:Nat} (h2:r :: rs=R2) (h3:1 + M=N2):ApL E r rs M R2 N2:=by
 subst hE h2 h3 hM;exact ⟨nR 1,⟨by unfold maxLen;omega,by omega⟩,rfl,rfl,by simp [Nat.add_comm],by rw [List.take_of_length_le (by simp [Nat.add_comm])]⟩
section
variable {n:Int} {toks:List Tk} {LR:List (List PV)} {l:Ts}
theorem z7q {c:Cx} {x:PT} {k i q:Int} {nm:ByteArray} {K:PV} (hv:NodeV x k i q nm K):(Sy.link x c l).args=[.p (.agg [pI k,pS nm,pI i,pI q,K])]:=congrArg (fun r=>[AV.p (.agg r)]) hv.row
theorem lsL {a:Int} {e:Bs} {c:Cx} {L:Ts} {β:Type} {o:Option (β × Ts)} (hG:zd0 n toks LR (.list2 e c L)) (h:AtP n toks LR a L) {K:List PT->Ts->Re β} (ho:lsR (ev (.list2 e c L)) K=some o) :
  (∃ ks l' b R M,AtP n toks LR b l'/\K ks l'=some o/\l'.length < L.length/\zae ks=R/\R.length=M/\M<=L.length/\MP 133 [.own 0 0,.p (pS (bL e))] [rdr LR a c] (.p (zao ks)) [rdr LR b c])\/(o=none/\MP 133 [.own 0 0,.p (pS (bL e))] [rdr LR a c] (.p (.pan zcf)) [none]):=by
 rcases hG.ls rfl rfl h with ⟨h1,h2⟩|⟨x,l',b,h1,h2,h4,h5⟩
 ·unfold lsR bnd at ho;rw [h1] at ho;simp only [Option.some.injEq] at ho;exact .inr ⟨ho.symm,h2⟩
 ·unfold lsR bnd at ho;rw [h1] at ho;refine .inl ⟨x,l',b,_,_,h2,ho,h4 rfl,rfl,rfl,?_,h5⟩;rw [zep];exact zxw h1
theorem ztk {ks:List PT} {R:List (List PV)} {M:Nat} (hks:ks=[]) (h:zae ks=R) (h2:R.length=M):zao ks=.v (.slice none 0 0)/\R=[]/\M=0:=by
 subst hks;rw [zae] at h;subst h h2;exact ⟨by rw [zao],rfl,rfl⟩
theorem zhr {ks:List PT} {R:List (List PV)} (hks:∃ x xs,ks=x :: xs) (h:zae ks=R):zao ks=.ro 5 R:=by
 obtain ⟨x,xs,rfl⟩:=hks;exact zkb h
theorem z6t {x:PT} {kd:Int} {ks:List PT} {r:List PV} {R R2:List (List PV)} (hx:za8 x=r) (h:zae ks=R) (h2:r :: R=R2):za8 (nd kd (x :: ks))=[pI kd,pS ⟨#[]⟩,pI 0,pI 0,.ro 5 R2]:=by
 subst hx h h2;rw [nd,za8,zao];rfl
theorem z04 {f:FuncId} {H H':AH} {r:AV} {k i q:Int} {nm:ByteArray} {K:PV} (h:MP f [.own 0 0,.p (.agg [pI k,pS nm,pI i,pI q,K])] H r H'):MP f [.own 0 0,.agg [.p (pI k),.p (pS nm),.p (pI i),.p (pI q),.p K]] H r H' :=
 zd4.args h rfl fun j a a' ha ha'=>by
  match j with
  | 0=>cases ha;cases ha';exact .inl rfl
  | 1=>cases ha;cases ha';exact .inr ⟨_,rfl,rfl⟩
  | j + 2=>cases ha
set_option maxHeartbeats 8000000 in
theorem zvj {c:Cx} (ih:∀ s':Sy,s'.meas < (Sy.chain c l).meas->zd0 n toks LR s'):zd0 n toks LR (.chain c l):=by
 intro f hf a h o ho
 cases hf
 rw [zac] at ho;change zdm ev c l=some o at ho;unfold zdm at ho;change AtP n toks LR a l at h;show MP _ (.own 0 0 :: []) [rdr LR a c] (rOf o) (hOf toks LR c o);have hzl:l.length<=1000000:=by have:=h.h1;have:=h.h0;have:=h.z;omega
 obtain ⟨μ,hμ⟩:∃ μ:(Int × Ts × PT × Int × Int × Int × ByteArray × PV) × Bool->Nat,∀ x,μ x=(if x.2 then x.1.2.1.length + 1 else 0):=⟨_,fun _=>rfl⟩
 obtain ⟨μ2,hμ2⟩:∃ μ:Int × Ts × PT × Int × Int × Int × ByteArray × PV->Nat,∀ x,μ x=x.2.1.length:=⟨_,fun _=>rfl⟩
 refine zad zaa (f:=118) Tryz.func118 rfl (by kernel_rfl) (oT (by kernel_rfl)) fun tags htl=>?_
 match tags,htl with
 | [t0],_ =>
  refine Seg.cutKM 3 46 [0,2,3] 3 (fun x:Int × Ts × PT × Int × Int × Int × ByteArray × PV=>[.own 0 0,.own 1 0,.own 2 0]) (fun x=>[some (.box [.p (.ro 3 LR),.p (pI x.1),.p (pB c.fn),.p (pB c.lp),.p (pB c.gn),.p (pB c.as_)] 50 (some t0)),some (.box [.p (pI 0),.p (pS ⟨#[]⟩),.p (pI 0),.p (pI 0),.p (.v (.slice none 0 0))] 27 none),some (.box [.p (pI x.2.2.2.1),.p (pS x.2.2.2.2.2.2.1),.p (pI x.2.2.2.2.1),.p (pI x.2.2.2.2.2.1),.p x.2.2.2.2.2.2.2] 27 none)]) (fun x=>AtP n toks LR x.1 x.2.1/\ev (.chainL x.2.2.1 c x.2.1)=some o/\NodeV x.2.2.1 x.2.2.2.1 x.2.2.2.2.1 x.2.2.2.2.2.1 x.2.2.2.2.2.2.1 x.2.2.2.2.2.2.2/\x.2.1.length < l.length) zaa mixed (fun _=>0) (fun _=>[]) (fun n i=>match n,i with|8,0=>1|15,0=>1|_,_=>0) (fun E=>za0 E tyT Tryz.f118.results.toList [t0] (rOf o) (hOf toks LR c o)) (by kernel_rfl) (fun P G E hc hM hE=>?_) ?_
  case' refine_1 =>
   cbv;refine oE (zcm h z6g c ho) (fun k1=>xE k1 fun bk1 k1=>?_) (fun k1=>?_)
   case' refine_2 =>
    refine .z [0] (hM _ _ _ _ _ (k1.2.2)) rfl rfl rfl ?_;cbv;refine oE (ndS (L:=l) (c:=c) (ih (.prim c l) (by simp only [Sy.meas,Sy.l,Sy.rank];omega)) rfl rfl rfl rfl rfl rfl h k1.1) (fun k2=>xE k2 fun xk2 k2=>xE k2 fun lk2 k2=>xE k2 fun bk2 k2=>xE k2 fun q1k2 k2=>xE k2 fun q2k2 k2=>xE k2 fun q3k2 k2=>xE k2 fun q4k2 k2=>xE k2 fun q5k2 k2=>?_) (fun k2=>?_)
    case' refine_2 =>
     refine .z [0] (hM _ _ _ _ _ (k2.2)) rfl rfl rfl ?_;cbv;have e0:=k2.1;subst e0;cbv;all_goals trivial
    refine .z [0] (hM _ _ _ _ _ (k2.2.2.2.2)) rfl rfl rfl ?_;cbv;have ok2:=k2.2.2.2.1.one;cbv at ok2;cbv;simp only [ok2];cbv;exact .mk (bk2,lk2,xk2,q1k2,q2k2,q3k2,q4k2,q5k2) ⟨rfl,rfl,rfl,rfl,rfl⟩ ⟨k2.1,k2.2.1,k2.2.2.2.1,k2.2.2.1⟩
   refine .z [0] (hM _ _ _ _ _ (k1.2.2.2.2)) rfl rfl rfl ?_;cbv;refine oE (ndS (L:=(List.drop 1 l)) (c:=c) (ih (.prim c (List.drop 1 l)) (by have:=k1.2.2.1;simp only [Sy.meas,Sy.l,Sy.rank];omega)) rfl rfl rfl rfl rfl rfl k1.1 k1.2.1) (fun k2=>xE k2 fun xk2 k2=>xE k2 fun lk2 k2=>xE k2 fun bk2 k2=>xE k2 fun q1k2 k2=>xE k2 fun q2k2 k2=>xE k2 fun q3k2 k2=>xE k2 fun q4k2 k2=>xE k2 fun q5k2 k2=>?_) (fun k2=>?_)
   case' refine_2 =>
    refine .z [0] (hM _ _ _ _ _ (k2.2)) rfl rfl rfl ?_;cbv;have e0:=k2.1;subst e0;cbv;all_goals trivial
   refine .z [0] (hM _ _ _ _ _ (k2.2.2.2.2)) rfl rfl rfl ?_;cbv;have ok2:=k2.2.2.2.1.one;cbv at ok2;cbv;simp only [ok2];cbv;refine zbs 46 [0,2,3,4] 3 (fun x:(Int × Ts × PT × Int × Int × Int × ByteArray × PV) × Bool=>[.own 0 0,.own 1 0,.own 2 0,.p (pB x.2)]) (fun x=>[some (.box [.p (.ro 3 LR),.p (pI x.1.1),.p (pB c.fn),.p (pB c.lp),.p (pB c.gn),.p (pB c.as_)] 50 (some t0)),some (.box [.p (pI 0),.p (pS ⟨#[]⟩),.p (pI 0),.p (pI 0),.p (.v (.slice none 0 0))] 27 none),some (.box [.p (pI x.1.2.2.2.1),.p (pS x.1.2.2.2.2.2.2.1),.p (pI x.1.2.2.2.2.1),.p (pI x.1.2.2.2.2.2.1),.p x.1.2.2.2.2.2.2.2] 27 none)]) (fun x=>AtP n toks LR x.1.1 x.1.2.1/\chI c x.2 x.1.2.2.1 x.1.2.1=some o/\NodeV x.1.2.2.1 x.1.2.2.2.1 x.1.2.2.2.2.1 x.1.2.2.2.2.2.1 x.1.2.2.2.2.2.2.1 x.1.2.2.2.2.2.2.2/\x.1.2.1.length < l.length) μ ((bk2,lk2,xk2,q1k2,q2k2,q3k2,q4k2,q5k2),true) ⟨rfl,rfl,rfl,rfl,rfl⟩ ⟨k2.1,k2.2.1,k2.2.2.2.1,by show lk2.length < l.length;have:=k2.2.2.1;have:=k1.2.2.1;omega⟩ ?_
   rintro ⟨⟨a1,l1,x,kq,iq,oq,nq,KK⟩,bb⟩ ⟨g1,g2,g3,g4⟩
   simp only at g1 g2 g3 g4;have ok:=g3.one;cbv at ok
   cases bb with
   | true =>
    replace g2:ev (.chainN x c l1)=some o:=g2;rw [zac] at g2;replace g2:zc8 ev x c l1=some o:=g2;unfold zc8 at g2;cbv;cbv;refine oE (nbS (L:=l1) (c:=c) (ih (.link x c l1) (by simp only [Sy.meas,Sy.l,Sy.rank];omega)) rfl rfl rfl rfl rfl (z7q g3) g1 g2) (fun k3=>xE k3 fun xk3 k3=>xE k3 fun pk3 k3=>xE k3 fun lk3 k3=>xE k3 fun bk3 k3=>xE k3 fun q1k3 k3=>xE k3 fun q2k3 k3=>xE k3 fun q3k3 k3=>xE k3 fun q4k3 k3=>xE k3 fun q5k3 k3=>?_) (fun k3=>?_)
    case' refine_2 =>
     refine .z [0] (hM _ _ _ _ _ (z04 k3.2)) rfl rfl rfl ?_;cbv;have e0:=k3.1;subst e0;cbv;all_goals trivial
    refine .z [0] (hM _ _ _ _ _ (z04 k3.2.2.2.2)) rfl rfl rfl ?_;cbv;have ok3:=k3.2.2.2.1.one;cbv at ok3;cbv;simp only [ok3];cbv;exact .mk ((bk3,lk3,xk3,q1k3,q2k3,q3k3,q4k3,q5k3),pk3) ⟨rfl,rfl,rfl,rfl,rfl⟩ ⟨k3.1,z8v k3.2.1,k3.2.2.2.1,by show lk3.length < l.length;have:=k3.2.2.1.1;omega⟩ (by
     rw [hμ,hμ];show (if pk3=true then lk3.length + 1 else 0) < l1.length + 1
     have e1:=k3.2.2.1.2
     cases pk3 with
     | true=>have:=e1 rfl;simp;omega
     | false=>simp)
   | false =>
    replace g2:chN2 c x l1=some o:=g2;unfold chN2 at g2;cbv;refine oE (zc1 g1 zbm c g2) (fun k4=>xE k4 fun bk4 k4=>?_) (fun k4=>?_)
    case' refine_2 =>
     refine .z [0] (hM _ _ _ _ _ (k4.2)) rfl rfl rfl ?_;cbv;have e0:=k4.1;subst e0;cbv;all_goals trivial
    refine .z [0] (hM _ _ _ _ _ (k4.2.2.2.2)) rfl rfl rfl ?_;cbv;simp only [ok];cbv;have hl4:(List.drop 1 l1).length < l.length:=by have:=k4.2.2.1;omega
    refine oE (lsL (ih (.list2 zan c (List.drop 1 l1)) (by simp only [Sy.meas,Sy.l,Sy.rank];omega)) k4.1 k4.2.1) (fun k5=>xE k5 fun ks5 k5=>xE k5 fun lk5 k5=>xE k5 fun bk5 k5=>xE k5 fun R5 k5=>xE k5 fun M5 k5=>?_) (fun k5=>?_)
    case' refine_2 =>
     refine ⟨⟨?_,?_,?_⟩,⟨?_,?_⟩,?_⟩
     all_goals refine .z [0] (hM _ _ _ _ _ (k5.2)) rfl rfl rfl ?_
     all_goals cbv
     all_goals have e0:=k5.1
     all_goals subst e0
     all_goals cbv
     all_goals trivial
    refine xE (⟨_,rfl⟩:∃ R2,[pI kq,pS nq,pI iq,pI oq,KK] :: R5=R2) fun R2 hR2=>?_
    refine xE (⟨_,rfl⟩:∃ N2,1 + M5=N2) fun N2 hN2=>?_
    have hRl:=k5.2.2.2.2.1;have hK5:=k5.2.2.2.1;have hRc:=hRl;cbv at hRc;have fA:=apL hE hRl (by have:=k5.2.2.2.2.2.1;omega) hR2 hN2
    have fA1:=fA.pre;have fA2:=fA.room;have fA3:=fA.add;have fA4:=fA.app;have hrow:=z6t (kd:=21) g3.row hK5 hR2;refine oE (zoo ks5) (fun hks=>?_) (fun hks=>?_)
    case' refine_1 =>
     have hn:=ztk hks hK5 hRl;have hc5:=k5.2.2.2.2.2.2;rw [hn.1] at hc5;rw [hn.2.1] at fA4;rw [hn.2.2] at fA2 fA3;refine ⟨⟨?_,?_,?_⟩,⟨?_,?_⟩,?_⟩
     all_goals refine .z [0] (hM _ _ _ _ _ hc5) rfl rfl rfl ?_
     all_goals cbv
     all_goals repeat (first|(simp only [ok];cbv)|(refine ⟨fA1,?_⟩;cbv)|(refine ⟨fA2,?_⟩;cbv)|(simp only [fA3,fA4];cbv))
     all_goals exact .wk (bk5,lk5,nd 21 (x :: ks5),21,0,0,⟨#[]⟩,.ro 5 R2) _ _ (zin (k:=2) (j:=4) (l:=3) (n:=N2) rfl rfl rfl fA.le fA.take) ⟨rfl,rfl,rfl,rfl,rfl⟩ ⟨k5.1,k5.2.1,zfp hrow,Nat.lt_trans k5.2.2.1 hl4⟩
    have hn:=zhr hks hK5;have hc5:=k5.2.2.2.2.2.2;rw [hn] at hc5;refine ⟨⟨?_,?_,?_⟩,⟨?_,?_⟩,?_⟩
    all_goals refine .z [0] (hM _ _ _ _ _ hc5) rfl rfl rfl ?_
    all_goals cbv
    all_goals repeat (first|(simp only [ok];cbv)|(simp only [hRc];cbv)|(refine ⟨fA1,?_⟩;cbv)|(refine ⟨fA2,?_⟩;cbv)|(simp only [fA3,fA4];cbv))
    all_goals exact .wk (bk5,lk5,nd 21 (x :: ks5),21,0,0,⟨#[]⟩,.ro 5 R2) _ _ (zin (k:=2) (j:=4) (l:=3) (n:=N2) rfl rfl rfl fA.le fA.take) ⟨rfl,rfl,rfl,rfl,rfl⟩ ⟨k5.1,k5.2.1,zfp hrow,Nat.lt_trans k5.2.2.1 hl4⟩
  rintro ⟨a0,l0,x0,kz,iz,oz,nz,Kz⟩ ⟨h0,ho0,hv0,hl0⟩
  simp only at h0 ho0 hv0 hl0;refine Seg.ofM zaa mixed (fun _=>0) (fun _=>[]) (fun n i=>match n,i with|8,0=>1|15,0=>1|_,_=>0) (by kernel_rfl) (fun E=>za0 E tyT Tryz.f118.results.toList [t0] (rOf o) (hOf toks LR c o)) fun P G E hc hM hE=>?_
  cbv;refine z02 46 [0,2,3] 3 (fun x:Int × Ts × PT × Int × Int × Int × ByteArray × PV=>[.own 0 0,.own 1 0,.own 2 0]) (fun x=>[some (.box [.p (.ro 3 LR),.p (pI x.1),.p (pB c.fn),.p (pB c.lp),.p (pB c.gn),.p (pB c.as_)] 50 (some t0)),some (.box [.p (pI 0),.p (pS ⟨#[]⟩),.p (pI 0),.p (pI 0),.p (.v (.slice none 0 0))] 27 none),some (.box [.p (pI x.2.2.2.1),.p (pS x.2.2.2.2.2.2.1),.p (pI x.2.2.2.2.1),.p (pI x.2.2.2.2.2.1),.p x.2.2.2.2.2.2.2] 27 none)]) (fun x=>AtP n toks LR x.1 x.2.1/\ev (.chainL x.2.2.1 c x.2.1)=some o/\NodeV x.2.2.1 x.2.2.2.1 x.2.2.2.2.1 x.2.2.2.2.2.1 x.2.2.2.2.2.2.1 x.2.2.2.2.2.2.2/\x.2.1.length < l.length) μ2 (a0,l0,x0,kz,iz,oz,nz,Kz) ⟨rfl,rfl,rfl,rfl,rfl⟩ ⟨h0,ho0,hv0,hl0⟩ ?_
  rintro ⟨a1,l1,x,kq,iq,oq,nq,KK⟩ ⟨g1,g2,g3,g4⟩
  simp only at g1 g2 g3 g4;have ok:=g3.one;cbv at ok;rw [zac] at g2;replace g2:zcq ev x c l1=some o:=g2;unfold zcq at g2;cbv;cbv;refine oE (nbS (L:=l1) (c:=c) (ih (.link x c l1) (by simp only [Sy.meas,Sy.l,Sy.rank];omega)) rfl rfl rfl rfl rfl (z7q g3) g1 g2) (fun k3=>xE k3 fun xk3 k3=>xE k3 fun pk3 k3=>xE k3 fun lk3 k3=>xE k3 fun bk3 k3=>xE k3 fun q1k3 k3=>xE k3 fun q2k3 k3=>xE k3 fun q3k3 k3=>xE k3 fun q4k3 k3=>xE k3 fun q5k3 k3=>?_) (fun k3=>?_)
  case' refine_2 =>
   refine .z [0] (hM _ _ _ _ _ (z04 k3.2)) rfl rfl rfl ?_;cbv;have e0:=k3.1;subst e0;cbv;all_goals trivial
  refine .z [0] (hM _ _ _ _ _ (z04 k3.2.2.2.2)) rfl rfl rfl ?_;cbv;have ok3:=k3.2.2.2.1.one;cbv at ok3;cbv;simp only [ok3];cbv;refine oE (zkn k3.2.1) (fun k4=>?_) (fun k4=>?_)
  case' refine_1 =>
   have ep:=k4.2;subst ep;have hlt:=k3.2.2.1.2 rfl;cbv;simp only [ok3];cbv;exact .mk (bk3,lk3,xk3,q1k3,q2k3,q3k3,q4k3,q5k3) ⟨rfl,rfl,rfl,rfl,rfl⟩ ⟨k3.1,k4.1,k3.2.2.2.1,by show lk3.length < l.length;omega⟩ (by rw [hμ2,hμ2];exact hlt)
  have ep:=k4.2;subst ep;cbv;refine oE (zcm k3.1 zbm c k4.1) (fun k6=>xE k6 fun bk6 k6=>?_) (fun k6=>?_)
  case' refine_2 =>
   refine .z [0] (hM _ _ _ _ _ (k6.2.2)) rfl rfl rfl ?_;cbv;simp only [ok];cbv;have e0:=okE (k6.1);subst e0;simp only [k3.1.place,g3.row];cbv;all_goals trivial
  refine .z [0] (hM _ _ _ _ _ (k6.2.2.2.2)) rfl rfl rfl ?_;cbv
  repeat (first|(simp only [ok3];cbv)|(simp only [ok];cbv))
  have hl4:(List.drop 1 lk3).length < l.length:=by have:=k6.2.2.1;have:=k3.2.2.1.1;omega
  refine oE (lsL (ih (.list2 zan c (List.drop 1 lk3)) (by simp only [Sy.meas,Sy.l,Sy.rank];omega)) k6.1 k6.2.1) (fun k5=>xE k5 fun ks5 k5=>xE k5 fun lk5 k5=>xE k5 fun bk5 k5=>xE k5 fun R5 k5=>xE k5 fun M5 k5=>?_) (fun k5=>?_)
  case' refine_2 =>
   refine ⟨⟨?_,?_,?_⟩,⟨?_,?_⟩,?_⟩
   all_goals refine .z [0] (hM _ _ _ _ _ (k5.2)) rfl rfl rfl ?_
   all_goals cbv
   all_goals have e0:=k5.1
   all_goals subst e0
   all_goals cbv
   all_goals trivial
  refine xE (⟨_,rfl⟩:∃ R2,[pI kq,pS nq,pI iq,pI oq,KK] :: R5=R2) fun R2 hR2=>?_
  refine xE (⟨_,rfl⟩:∃ N2,1 + M5=N2) fun N2 hN2=>?_
  have hRl:=k5.2.2.2.2.1;have hK5:=k5.2.2.2.1;have hRc:=hRl;cbv at hRc;have fA:=apL hE hRl (by have:=k5.2.2.2.2.2.1;omega) hR2 hN2
  have fA1:=fA.pre;have fA2:=fA.room;have fA3:=fA.add;have fA4:=fA.app;have hrow:=z6t (kd:=20) g3.row hK5 hR2;refine oE (zoo ks5) (fun hks=>?_) (fun hks=>?_)
  case' refine_1 =>
   have hn:=ztk hks hK5 hRl;have hc5:=k5.2.2.2.2.2.2;rw [hn.1] at hc5;rw [hn.2.1] at fA4;rw [hn.2.2] at fA2 fA3;refine ⟨⟨?_,?_,?_⟩,⟨?_,?_⟩,?_⟩
   all_goals refine .z [0] (hM _ _ _ _ _ hc5) rfl rfl rfl ?_
   all_goals cbv
   all_goals repeat (first|(simp only [ok];cbv)|(refine ⟨fA1,?_⟩;cbv)|(refine ⟨fA2,?_⟩;cbv)|(simp only [fA3,fA4];cbv))
   all_goals exact .wk (bk5,lk5,nd 20 (x :: ks5),20,0,0,⟨#[]⟩,.ro 5 R2) _ _ (zin (k:=2) (j:=4) (l:=4) (n:=N2) rfl rfl rfl fA.le fA.take) ⟨rfl,rfl,rfl,rfl,rfl⟩ ⟨k5.1,k5.2.1,zfp hrow,Nat.lt_trans k5.2.2.1 hl4⟩ (by rw [hμ2,hμ2];show lk5.length < l1.length;have:=k5.2.2.1;have:=k6.2.2.1;have:=k3.2.2.1.1;omega)
  have hn:=zhr hks hK5;have hc5:=k5.2.2.2.2.2.2;rw [hn] at hc5;refine ⟨⟨?_,?_,?_⟩,⟨?_,?_⟩,?_⟩
  all_goals refine .z [0] (hM _ _ _ _ _ hc5) rfl rfl rfl ?_
  all_goals cbv
  all_goals repeat (first|(simp only [ok];cbv)|(simp only [hRc];cbv)|(refine ⟨fA1,?_⟩;cbv)|(refine ⟨fA2,?_⟩;cbv)|(simp only [fA3,fA4];cbv))
  all_goals exact .wk (bk5,lk5,nd 20 (x :: ks5),20,0,0,⟨#[]⟩,.ro 5 R2) _ _ (zin (k:=2) (j:=4) (l:=4) (n:=N2) rfl rfl rfl fA.le fA.take) ⟨rfl,rfl,rfl,rfl,rfl⟩ ⟨k5.1,k5.2.1,zfp hrow,Nat.lt_trans k5.2.2.1 hl4⟩ (by rw [hμ2,hμ2];show lk5.length < l1.length;have:=k5.2.2.1;have:=k6.2.2.1;have:=k3.2.2.1.1;omega)
end
end Go.Proofs.YtcfecmeocimclaaGreatDoor
