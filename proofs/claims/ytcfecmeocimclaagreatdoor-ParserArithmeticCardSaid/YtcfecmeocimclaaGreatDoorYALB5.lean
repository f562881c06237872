/- Own work: lexer.escape. -/
import Derived.Test.YtcfecmeocimclaaGreatDoorYAA0
import Derived.Test.YtcfecmeocimclaaGreatDoorYALB4
import Derived.Test.YtcfecmeocimclaaGreatDoorYAGR
import Derived.Test.YtcfecmeocimclaaGreatDoorYAGU
namespace Go.Proofs.YtcfecmeocimclaaGreatDoor
set_option linter.unusedSimpArgs false
set_option maxRecDepth 100000
open Go.RowKit
theorem zlp (c:UInt8):∀ l:Bs,(Lib.indexByte l c=-1/\c ∉ l)\/∃ u r,l=u++c :: r/\c ∉ u/\Lib.indexByte l c=(u.length:Nat)
 | []=>.inl ⟨rfl,by simp⟩
 | b :: l=>by
  unfold Lib.indexByte
  by_cases h:b=c
  ·subst h;exact .inr ⟨[],l,rfl,by simp,by simp⟩
  ·have hb:(b == c)=false:=by simpa using h
   rw [hb];simp only [Bool.false_eq_true,if_false]
   rcases zlp c l with ⟨h1,h2⟩|⟨u,r,h1,h2,h3⟩
   ·rw [h1];exact .inl ⟨rfl,by simp [h2,Ne.symm h]⟩
   ·refine .inr ⟨b :: u,r,by rw [h1];rfl,by simp [h2,Ne.symm h],?_⟩
    rw [h3];have hbq:(((u.length:Nat):Int) == -1)=false:=beq_eq_false_iff_ne.2 (by omega)
    rw [hbq];simp only [Bool.false_eq_true,if_false,lLC];omega
theorem zyn (c:UInt8):(∃ d,z1q c=some d/\0<=Lib.indexByte [110,116,114,98,92,34,39] c/\([10,9,13,8,92,34,39]:Bs)[(Lib.indexByte [110,116,114,98,92,34,39] c).toNat]?=some d)\/(z1q c=none/\Lib.indexByte [110,116,114,98,92,34,39] c=-1):=by
 have key:=List.all_eq_true.1 (show ((List.range 256).all fun n=>(match z1q (UInt8.ofNat n) with
  | some d=>decide (0<=Lib.indexByte [110,116,114,98,92,34,39] (UInt8.ofNat n)) && decide (([10,9,13,8,92,34,39]:Bs)[(Lib.indexByte [110,116,114,98,92,34,39] (UInt8.ofNat n)).toNat]?=some d)
  | none=>decide (Lib.indexByte [110,116,114,98,92,34,39] (UInt8.ofNat n)=-1)))=true by decide +kernel) c.toNat (List.mem_range.2 c.toNat_lt)
 rw [UInt8.ofNat_toNat] at key
 cases h:z1q c with
 | some d =>
  rw [h] at key;simp only [bAT,decide_eq_true_eq] at key;exact .inl ⟨d,rfl,key.1,key.2⟩
 | none =>
  rw [h] at key;exact .inr ⟨rfl,oT key⟩
theorem z2u {u r:Bs} (h:(125:UInt8) ∉ u):ptL uB (123 :: (u++125 :: r))=if zvf u 6=true then some (uB (zh0 u),r) else none:=by
 rw [ptL,if_pos rfl]
 cases hall:u.all zbb with
 | true =>
  have h4:=zha (p:=zbb) u (125 :: r) (List.all_eq_true.1 hall) (fun x hx=>by cases hx;decide)
  rw [h4.1,h4.2];unfold zvf;rw [hall];simp only [bAT,decide_eq_true_eq,Bool.true_and,true_and]
  by_cases hc:1<=u.length/\u.length<=6/\z0m (zh0 u)=true
  ·rw [if_pos hc,if_pos ⟨hc.1,by omega,hc.2.2⟩]
  ·rw [if_neg hc,if_neg fun h=>hc ⟨h.1,by omega,h.2.2⟩]
 | false =>
  have hd:zvf u 6=false:=by unfold zvf;rw [hall];simp
  rw [hd,if_neg (by decide)]
  have hu:=zgy (p:=zbb) u;have hne:u.dropWhile zbb ≠ []:=fun e=>by
   have h3:=hu.2.2;rw [e,List.append_nil] at h3;rw [h3] at hu;rw [List.all_eq_true.2 hu.1] at hall
   cases hall
  obtain ⟨x,y,hxy⟩:∃ x y,u.dropWhile zbb=x :: y:=by
   cases hd:u.dropWhile zbb with
   | nil=>exact absurd hd hne
   | cons x y=>exact ⟨x,y,rfl⟩
  have hx:x ∈ u:=by
   have:=hu.2.2
   rw [hxy] at this;rw [<-this];simp
  have hdw:(u++125 :: r).dropWhile zbb=x :: (y++125 :: r):=by
   have h5:=zha (p:=zbb) (u.takeWhile zbb) (x :: (y++125 :: r)) hu.1 (fun z hz=>by cases hz;exact hu.2.1 x (by rw [hxy];rfl))
   have h6:u.takeWhile zbb++x :: (y++125 :: r)=u++125 :: r:=by
    have h7:u.takeWhile zbb++x :: (y++125 :: r)=(u.takeWhile zbb++u.dropWhile zbb)++125 :: r:=by rw [hxy];simp
    rw [h7,hu.2.2]
   rw [h6] at h5;exact h5.2
  rw [hdw];simp only;rw [if_neg]
  rintro ⟨e,_⟩
  exact h (by rw [<-e];exact hx)
theorem z60 {l:Bs} (h:(125:UInt8) ∉ l):ptL uB (123 :: l)=none:=by
 rw [ptL,if_pos rfl];have hu:=zgy (p:=zbb) l
 cases hd:l.dropWhile zbb with
 | nil=>rfl
 | cons x y =>
  simp only;rw [if_neg]
  rintro ⟨e,_⟩
  refine h ?_
  have:=hu.2.2
  rw [hd] at this;rw [<-this,<- e];simp
theorem ptL_c {c:UInt8} (l:Bs) (h:c ≠ 123):ptL uB (c :: l)=none:=by rw [ptL,if_neg h]
theorem z3b (a b:UInt8) (r:Bs):hxL uB (a :: b :: r)=if zvf [a,b] 2=true then some (uB (zh0 [a,b]),r) else none:=by
 rw [hxL];unfold zvf;have h15:=zsa a;have h16:=zsa b
 cases ha:zit a with
 | none =>
  have:zbb a=false:=by unfold zbb;rw [ha];rfl
  simp [List.all_cons,this]
 | some x =>
  cases hb:zit b with
  | none =>
   have:zbb b=false:=by unfold zbb;rw [hb];rfl
   simp [List.all_cons,this]
  | some y =>
   rw [ha] at h15;rw [hb] at h16;simp only [Option.getD_some] at h15 h16;have h1:zbb a=true:=by unfold zbb;rw [ha];rfl
   have h2:zbb b=true:=by unfold zbb;rw [hb];rfl
   have h3:zh0 [a,b]=16 * x + y:=by
    unfold zh0;simp only [List.foldl_cons,List.foldl_nil,ha,hb,Option.getD_some];omega
   have h4:z0m (zh0 [a,b])=true:=by
    rw [h3];unfold z0m;simp only [bAT,decide_eq_true_eq,Bool.not_eq_true',Bool.and_eq_false_iff,decide_eq_false_iff_not];omega
   have h5:([a,b]:Bs).all zbb=true:=by simp [List.all_cons,h1,h2]
   rw [h4,h5,h3];simp
theorem zfr (s:ByteArray) (i j:Int):(s.extract i.toNat j.toNat).data.toList=(rst s i).take (j.toNat - i.toNat):=zn4 s _ _
set_option maxHeartbeats 4000000 in
theorem zyl (A:AV) (hA:zjz A) (s:ByteArray) (hs:s.size<=1000000) (l:List UInt8) (hb:l.length<=900000000) (t r:Bs) (h:zf0 uB s.data.toList=some (t,r)) :
  ML 116 [.own 0 0,.p (pS s)] (bH A l) (.p (pI ((s.size:Nat) - (r.length:Nat)))) (bH (.own 0 0) (l++t)):=by
 obtain ⟨n,hn⟩:∃ n:Int,((s.size:Nat):Int)=n:=⟨_,rfl⟩
 obtain ⟨c,r0,hcs⟩:∃ c r0,s.data.toList=c :: r0:=by
  cases hl:s.data.toList with
  | nil=>rw [hl] at h;cases h
  | cons c r0=>exact ⟨c,r0,rfl⟩
 have hsz:s.size=r0.length + 1:=by
  have e:s.data.toList.length=s.size:=rfl;rw [hcs] at e;exact e.symm
 obtain ⟨z,hz⟩:∃ z:Int,((c.toNat:Nat):Int)=z:=⟨_,rfl⟩
 have hi:=upL (zed ⟨#[110,116,114,98,92,34,39]⟩ c z hz);have hi':(⟨#[110,116,114,98,92,34,39]⟩:ByteArray).data.toList=[110,116,114,98,92,34,39]:=rfl;rw [hi'] at hi;have htab:=zyn c;obtain ⟨i1,hi1⟩:∃ i:Int,Lib.indexByte [110,116,114,98,92,34,39] c=i:=⟨_,rfl⟩
 rw [hi1] at hi htab;rw [hcs,zf0] at h;rw [hn]
 rcases htab with ⟨d,hd,hi0,hdd⟩|⟨hd,hi0⟩
 ·
  rw [hd] at h;obtain ⟨rfl,rfl⟩:=Prod.mk.inj (Option.some.inj h);obtain ⟨y,hy⟩:∃ y:Int,((d.toNat:Nat):Int)=y:=⟨_,rfl⟩
  have hw:=upM (zil A hA l d y hy (by omega))
  rw [show n - (r0.length:Nat)=1 by omega]
  unfold bH at hw ⊢;obtain ⟨rs,hrs⟩:∃ x,lR l=x:=⟨_,rfl⟩
  obtain ⟨m,hm⟩:∃ x,l.length=x:=⟨_,rfl⟩
  obtain ⟨RS,hRS2⟩:∃ x,lR (l++[d])=x:=⟨_,rfl⟩
  obtain ⟨M,hM2⟩:∃ x,(l++[d]).length=x:=⟨_,rfl⟩
  rw [hrs,hm,hRS2,hM2] at hw;rw [hrs,hm,hRS2,hM2]
  rcases hA with rfl|rfl
  all_goals
   refine zad zaa (f:=116) Tryz.func116 rfl (by kernel_rfl) (oT (by kernel_rfl)) fun tags htl=>?_
   match tags,htl with
   | [t0,t1],_ =>
    refine Seg.of zaa mixed (fun _=>0) (by kernel_rfl) (fun E=>za0 E tyT Tryz.f116.results.toList [t0,t1] (.p (pI 1)) [some (.box [(.own 0 0),.osl 1 0 M] 60 none),some (.rows 1 RS 5)]) fun P G E hc hM3 hE=>?_
    have z1:E.size s=n:=by rw [hE];exact hn
    have z0:E.eq s ⟨#[]⟩=false:=by
     rw [hE];refine dF fun e=>?_
     rw [e] at hcs
     cases hcs
    have eple:=zp7 hE;have p0:=eple 0 0 (by omega)
    have g0:E.get s (E.nat 0)=some z:=by
     rw [hE];show (s.data.toList[0]?).map _=some z;rw [hcs,<- hz];rfl
    replace hi:=hc _ _ _ hi;have d0:E.lei 0 i1=decide (0<=i1):=by rw [hE];rfl
    replace hw:=hM3 _ _ _ _ _ hw;rw [dT hi0] at d0;have p1:=eple 0 i1 hi0;have g1:E.get ⟨#[10,9,13,8,92,34,39]⟩ (E.nat i1)=some y:=by
     rw [hE];show ((([10,9,13,8,92,34,39]:Bs))[i1.toNat]?).map _=some y;rw [hdd,<- hy];rfl
    clear hE hc hM3 hRS2 hM2 hrs hm hb hn hcs hsz hz hd hdd hy eple hi' hi1 hi0 h hs;cbv
    repeat (first|(simp only [z0];cbv)|simp only [z0]|(refine ⟨p0,_,g0,?_⟩;cbv)|(refine ⟨_,hi,?_⟩;cbv)|(simp only [d0];cbv)|simp only [d0]|(refine ⟨p1,_,g1,?_⟩;cbv))
    refine .mk _ _ (Wk.refl _ _) [0,1] _ _ _ _ hw rfl rfl rfl ?_;cbv;all_goals trivial
 ·rw [hd] at h;simp only at h;have d0f:decide (0<=i1)=false:=by rw [hi0];rfl
  split at h
  ·rename_i e48
   split at h
   ·cases h
   rename_i hnd;obtain ⟨rfl,rfl⟩:=Prod.mk.inj (Option.some.inj h);have hw:=upM (zil A hA l 0 0 rfl (by omega))
   rw [show n - (r0.length:Nat)=1 by omega]
   have f48:decide (z=48)=true:=dT (by rw [<-hz,e48];rfl)
   unfold bH at hw ⊢;obtain ⟨rs,hrs⟩:∃ x,lR l=x:=⟨_,rfl⟩
   obtain ⟨m,hm⟩:∃ x,l.length=x:=⟨_,rfl⟩
   obtain ⟨RS,hRS2⟩:∃ x,lR (l++[0])=x:=⟨_,rfl⟩
   obtain ⟨M,hM2⟩:∃ x,(l++[0]).length=x:=⟨_,rfl⟩
   rw [hrs,hm,hRS2,hM2] at hw;rw [hrs,hm,hRS2,hM2]
   cases hr0:r0 with
   | nil =>
    rw [hr0] at hsz;have hn1:n=1:=by rw [<-hn,hsz];rfl
    rcases hA with rfl|rfl
    all_goals
     refine zad zaa (f:=116) Tryz.func116 rfl (by kernel_rfl) (oT (by kernel_rfl)) fun tags htl=>?_
     match tags,htl with
     | [t0,t1],_ =>
      refine Seg.of zaa mixed (fun _=>0) (by kernel_rfl) (fun E=>za0 E tyT Tryz.f116.results.toList [t0,t1] (.p (pI 1)) [some (.box [(.own 0 0),.osl 1 0 M] 60 none),some (.rows 1 RS 5)]) fun P G E hc hM3 hE=>?_
      have z1:E.size s=n:=by rw [hE];exact hn
      have z0:E.eq s ⟨#[]⟩=false:=by
       rw [hE];refine dF fun e=>?_
       rw [e] at hcs
       cases hcs
      have eple:=zp7 hE;have p0:=eple 0 0 (by omega)
      have g0:E.get s (E.nat 0)=some z:=by
       rw [hE];show (s.data.toList[0]?).map _=some z;rw [hcs,<- hz];rfl
      replace hi:=hc _ _ _ hi;have d0:E.lei 0 i1=decide (0<=i1):=by rw [hE];rfl
      replace hw:=hM3 _ _ _ _ _ hw;rw [d0f] at d0;have d1:E.lti 1 n=false:=by rw [hE];exact dF (by omega)
      clear hE hc hM3 hRS2 hM2 hrs hm hb hn hcs hsz hz hd eple hi' hi1 hi0 h hs d0f e48 hnd hr0 hn1;cbv
      repeat (first|(simp only [z0];cbv)|simp only [z0]|(refine ⟨p0,_,g0,?_⟩;cbv)|(refine ⟨_,hi,?_⟩;cbv)|(simp only [d0];cbv)|simp only [d0]|(simp only [f48];cbv)|simp only [f48]|(simp only [z1];cbv)|simp only [z1]|(simp only [d1];cbv)|simp only [d1])
      refine .mk _ _ (Wk.refl _ _) [0,1] _ _ _ _ hw rfl rfl rfl ?_;cbv;all_goals trivial
   | cons q r1 =>
    rw [hr0] at hsz hnd;have hdq:dgt q=false:=by simpa using hnd
    have hdg:=upL (zmr q);rw [hdq] at hdg;obtain ⟨y,hy⟩:∃ y:Int,((q.toNat:Nat):Int)=y:=⟨_,rfl⟩
    change RL _ [.v (.int .u8 ((q.toNat:Nat):Int))] _ at hdg;rw [hy] at hdg
    rcases hA with rfl|rfl
    all_goals
     refine zad zaa (f:=116) Tryz.func116 rfl (by kernel_rfl) (oT (by kernel_rfl)) fun tags htl=>?_
     match tags,htl with
     | [t0,t1],_ =>
      refine Seg.of zaa mixed (fun _=>0) (by kernel_rfl) (fun E=>za0 E tyT Tryz.f116.results.toList [t0,t1] (.p (pI 1)) [some (.box [(.own 0 0),.osl 1 0 M] 60 none),some (.rows 1 RS 5)]) fun P G E hc hM3 hE=>?_
      have z1:E.size s=n:=by rw [hE];exact hn
      have z0:E.eq s ⟨#[]⟩=false:=by
       rw [hE];refine dF fun e=>?_
       rw [e] at hcs
       cases hcs
      have eple:=zp7 hE;have p0:=eple 0 0 (by omega)
      have g0:E.get s (E.nat 0)=some z:=by
       rw [hE];show (s.data.toList[0]?).map _=some z;rw [hcs,<- hz];rfl
      replace hi:=hc _ _ _ hi;have d0:E.lei 0 i1=decide (0<=i1):=by rw [hE];rfl
      replace hw:=hM3 _ _ _ _ _ hw;replace hdg:=hc _ _ _ hdg;rw [d0f] at d0;have d1:E.lti 1 n=true:=by rw [hE];exact dT (by rw [lLC] at hsz;omega)
      have p1:=eple 0 1 (by omega)
      have g1:E.get s (E.nat 1)=some y:=by
       rw [hE];show (s.data.toList[1]?).map _=some y;rw [hcs,hr0,<- hy];rfl
      clear hE hc hM3 hRS2 hM2 hrs hm hb hn hcs hsz hz hd eple hi' hi1 hi0 h hs d0f e48 hnd hr0 hdq hy;cbv
      repeat (first|(simp only [z0];cbv)|simp only [z0]|(refine ⟨p0,_,g0,?_⟩;cbv)|(refine ⟨_,hi,?_⟩;cbv)|(simp only [d0];cbv)|simp only [d0]|(simp only [f48];cbv)|simp only [f48]|(simp only [z1];cbv)|simp only [z1]|(simp only [d1];cbv)|simp only [d1]|(refine ⟨p1,_,g1,?_⟩;cbv)|(refine ⟨_,hdg,?_⟩;cbv))
      refine .mk _ _ (Wk.refl _ _) [0,1] _ _ _ _ hw rfl rfl rfl ?_;cbv;all_goals trivial
  ·rename_i e48;have f48:decide (z=48)=false:=zv4 hz 48 e48
   split at h
   ·rename_i e120;have f120:decide (z=120)=true:=dT (by rw [<-hz,e120];rfl)
    match r0,hcs,hsz,h with
    | [],hcs,hsz,h=>cases h
    | [_],hcs,hsz,h=>cases h
    | a :: b :: r1,hcs,hsz,h =>
     rw [z3b] at h
     split at h
     ·rename_i hdg;obtain ⟨rfl,rfl⟩:=Prod.mk.inj (Option.some.inj h);rw [show n - (r1.length:Nat)=3 by rw [<-hn,hsz,lLC,lLC];omega]
      obtain ⟨T,hT⟩:∃ x,s.extract 1 3=x:=⟨_,rfl⟩
      have hTd:T.data.toList=[a,b]:=by
       rw [<-hT,zn4,hcs];rfl
      rw [<-hTd] at hdg ⊢;have hw:=ztc A hA T 2 (by omega) l hb hdg
      unfold bH at hw ⊢;obtain ⟨X,hX⟩:∃ x,uB (zh0 T.data.toList)=x:=⟨_,rfl⟩
      rw [hX] at hw ⊢;obtain ⟨rs,hrs⟩:∃ x,lR l=x:=⟨_,rfl⟩
      obtain ⟨m,hm⟩:∃ x,l.length=x:=⟨_,rfl⟩
      obtain ⟨RS,hRS2⟩:∃ x,lR (l++X)=x:=⟨_,rfl⟩
      obtain ⟨M,hM2⟩:∃ x,(l++X).length=x:=⟨_,rfl⟩
      rw [hrs,hm,hRS2,hM2] at hw;rw [hrs,hm,hRS2,hM2]
      rcases hA with rfl|rfl
      all_goals
       refine zad zaa (f:=116) Tryz.func116 rfl (by kernel_rfl) (oT (by kernel_rfl)) fun tags htl=>?_
       match tags,htl with
       | [t0,t1],_ =>
        refine Seg.of zaa mixed (fun _=>0) (by kernel_rfl) (fun E=>za0 E tyT Tryz.f116.results.toList [t0,t1] (.p (pI 3)) [some (.box [(.own 0 0),.osl 1 0 M] 60 none),some (.rows 1 RS 5)]) fun P G E hc hM3 hE=>?_
        have z1:E.size s=n:=by rw [hE];exact hn
        have z0:E.eq s ⟨#[]⟩=false:=by
         rw [hE];refine dF fun e=>?_
         rw [e] at hcs
         cases hcs
        have eple:=zp7 hE;have p0:=eple 0 0 (by omega)
        have g0:E.get s (E.nat 0)=some z:=by
         rw [hE];show (s.data.toList[0]?).map _=some z;rw [hcs,<- hz];rfl
        replace hi:=hc _ _ _ hi;have d0:E.lei 0 i1=decide (0<=i1):=by rw [hE];rfl
        replace hw:=hM3 _ _ _ _ _ hw;rw [d0f] at d0;have d3:E.lei 3 n=true:=by rw [hE];exact dT (by rw [<-hn,hsz,lLC,lLC];omega)
        have p1:=eple 0 1 (by omega)
        have p2:=eple 1 3 (by omega)
        have p3:=eple 3 n (by rw [<-hn,hsz,lLC,lLC];omega)
        have x1:E.ext s (E.nat 1) (E.nat 3)=T:=by rw [hE];exact hT
        clear hE hc hM3 hRS2 hM2 hrs hm hb hn hcs hsz hz hd eple hi' hi1 hi0 h hs d0f e48 e120 hX hT hTd hdg;cbv
        repeat (first|(simp only [z0];cbv)|simp only [z0]|(refine ⟨p0,_,g0,?_⟩;cbv)|(refine ⟨_,hi,?_⟩;cbv)|(simp only [d0];cbv)|simp only [d0]|(simp only [f48];cbv)|simp only [f48]|(simp only [f120];cbv)|simp only [f120]|(simp only [z1];cbv)|simp only [z1]|(simp only [d3];cbv)|simp only [d3]|(refine ⟨p1,p2,p3,?_⟩;cbv)|(simp only [x1];cbv)|simp only [x1])
        refine .mk _ _ (Wk.refl _ _) [0,1] _ _ _ _ hw rfl rfl rfl ?_;cbv;all_goals trivial
     ·cases h
   ·rename_i e120;have f120:decide (z=120)=false:=zv4 hz 120 e120
    split at h
    ·rename_i e117;have f117:decide (z=117)=true:=dT (by rw [<-hz,e117];rfl)
     cases r0 with
     | nil=>cases h
     | cons q r1 =>
      by_cases hq:q=123
      ·subst hq;have hj:=upL (zed s 125 125 rfl);rw [hcs] at hj
       rcases zlp 125 r1 with ⟨_,hno⟩|⟨u,r2,hu1,hu2,hu3⟩
       ·rw [z60 hno] at h
        cases h
       ·rw [hu1,z2u hu2] at h
        split at h
        ·rename_i hdg;obtain ⟨rfl,rfl⟩:=Prod.mk.inj (Option.some.inj h);have hj2:Lib.indexByte (c :: 123 :: r1) 125=(u.length:Nat) + 2:=by
          rw [e117,Lib.indexByte,Lib.indexByte,hu3];have h1:((117:UInt8) == 125)=false:=by decide
          have h2:((123:UInt8) == 125)=false:=by decide
          have h3:(((u.length:Nat):Int) == -1)=false:=beq_eq_false_iff_ne.2 (by omega)
          have h4:((((u.length:Nat):Int) + 1) == -1)=false:=beq_eq_false_iff_ne.2 (by omega)
          simp only [h1,h2,h3,h4,Bool.false_eq_true,if_false];omega
         rw [hj2] at hj;obtain ⟨e1,he1⟩:∃ x:Int,((u.length:Nat):Int) + 2=x:=⟨_,rfl⟩
         rw [he1] at hj;have hul:1<=u.length:=by
          unfold zvf at hdg;simp only [bAT,decide_eq_true_eq] at hdg;exact hdg.1
         have hnl:n=e1 + 1 + (r2.length:Nat):=by
          rw [<-hn,hsz,hu1];simp only [lLC,lLA];omega
         obtain ⟨e2,he2⟩:∃ x:Int,e1 + 1=x:=⟨_,rfl⟩
         rw [show n - (r2.length:Nat)=e2 by omega]
         obtain ⟨T,hT⟩:∃ x,s.extract 2 e1.toNat=x:=⟨_,rfl⟩
         have hTd:T.data.toList=u:=by
          rw [<-hT,zn4,hcs,hu1];show (u++125 :: r2).take (e1.toNat - 2)=u;rw [show e1.toNat - 2=u.length by omega,List.take_left]
         rw [<-hTd] at hdg ⊢;have hw:=ztc A hA T 6 (by omega) l hb hdg
         unfold bH at hw ⊢;obtain ⟨X,hX⟩:∃ x,uB (zh0 T.data.toList)=x:=⟨_,rfl⟩
         rw [hX] at hw ⊢;obtain ⟨rs,hrs⟩:∃ x,lR l=x:=⟨_,rfl⟩
         obtain ⟨m,hm⟩:∃ x,l.length=x:=⟨_,rfl⟩
         obtain ⟨RS,hRS2⟩:∃ x,lR (l++X)=x:=⟨_,rfl⟩
         obtain ⟨M,hM2⟩:∃ x,(l++X).length=x:=⟨_,rfl⟩
         rw [hrs,hm,hRS2,hM2] at hw;rw [hrs,hm,hRS2,hM2]
         rcases hA with rfl|rfl
         all_goals
          refine zad zaa (f:=116) Tryz.func116 rfl (by kernel_rfl) (oT (by kernel_rfl)) fun tags htl=>?_
          match tags,htl with
          | [t0,t1],_ =>
           refine Seg.of zaa mixed (fun _=>0) (by kernel_rfl) (fun E=>za0 E tyT Tryz.f116.results.toList [t0,t1] (.p (pI e2)) [some (.box [(.own 0 0),.osl 1 0 M] 60 none),some (.rows 1 RS 5)]) fun P G E hc hM3 hE=>?_
           have z1:E.size s=n:=by rw [hE];exact hn
           have z0:E.eq s ⟨#[]⟩=false:=by
            rw [hE];refine dF fun e=>?_
            rw [e] at hcs
            cases hcs
           have eple:=zp7 hE;have p0:=eple 0 0 (by omega)
           have g0:E.get s (E.nat 0)=some z:=by
            rw [hE];show (s.data.toList[0]?).map _=some z;rw [hcs,<- hz];rfl
           replace hi:=hc _ _ _ hi;have d0:E.lei 0 i1=decide (0<=i1):=by rw [hE];rfl
           replace hw:=hM3 _ _ _ _ _ hw;replace hj:=hc _ _ _ hj;rw [d0f] at d0;have d3:E.lti 2 e1=true:=by rw [hE];exact dT (by omega)
           have p1:=eple 0 1 (by omega)
           have p2:=eple 0 2 (by omega)
           have p3:=eple 2 e1 (by omega)
           have p4:=eple e1 n (by omega)
           have g1:E.get s (E.nat 1)=some 123:=by
            rw [hE];show (s.data.toList[1]?).map _=some 123;rw [hcs];rfl
           have x1:E.ext s (E.nat 2) (E.nat e1)=T:=by rw [hE];exact hT
           have a1:E.wadd .i64 e1 1=e2:=by rw [hE,<- he2];exact zaf (by omega) (by omega)
           clear hE hc hM3 hRS2 hM2 hrs hm hb hn hcs hsz hz hd eple hi' hi1 hi0 h hs d0f e48 e120 hX hT hTd hdg e117 hu1 hu2 hu3 hj2 he1 hul hnl he2;cbv
           repeat (first|(simp only [z0];cbv)|simp only [z0]|(refine ⟨p0,_,g0,?_⟩;cbv)|(refine ⟨_,hi,?_⟩;cbv)|(simp only [d0];cbv)|simp only [d0]|(simp only [f48];cbv)|simp only [f48]|(simp only [f120];cbv)|simp only [f120]|(simp only [f117];cbv)|simp only [f117]|(refine ⟨_,hj,?_⟩;cbv)|(simp only [d3];cbv)|simp only [d3]|(refine ⟨p1,_,g1,?_⟩;cbv)|(simp only [z1];cbv)|simp only [z1]|(refine ⟨p2,p3,p4,?_⟩;cbv)|(simp only [x1];cbv)|simp only [x1])
           refine .mk _ _ (Wk.refl _ _) [0,1] _ _ _ _ hw rfl rfl rfl ?_;cbv
           repeat (first|(simp only [a1];cbv)|simp only [a1])
           all_goals trivial
        ·cases h
      ·rw [ptL_c _ hq] at h
       cases h
    ·cases h
end Go.Proofs.YtcfecmeocimclaaGreatDoor
