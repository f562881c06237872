/- Own work: lexer.escape of what is no escape sequence. -/
import Derived.Test.YtcfecmeocimclaaGreatDoorYAA0
import Derived.Test.YtcfecmeocimclaaGreatDoorYALB5
namespace Go.Proofs.YtcfecmeocimclaaGreatDoor
set_option linter.unusedSimpArgs false
set_option maxRecDepth 100000
open Go.RowKit
set_option maxHeartbeats 4000000 in
theorem zym (A:AV) (hA:zjz A) (s:ByteArray) (hs:s.size<=1000000) (l:List UInt8) (h:zf0 uB s.data.toList=none) :
  ML 116 [.own 0 0,.p (pS s)] (bH A l) (.p (pI 0)) (bH A l):=by
 obtain ⟨n,hn⟩:∃ n:Int,((s.size:Nat):Int)=n:=⟨_,rfl⟩
 cases hcs:s.data.toList with
 | nil =>
  have hse:s=⟨#[]⟩:=zij hcs;unfold bH;obtain ⟨rs,hrs⟩:∃ x,lR l=x:=⟨_,rfl⟩
  obtain ⟨m,hm⟩:∃ x,l.length=x:=⟨_,rfl⟩
  rw [hrs,hm]
  rcases hA with hA|hA
  all_goals
   refine zad zaa (f:=116) Tryz.func116 rfl (by kernel_rfl) (oT (by kernel_rfl)) fun tags htl=>?_
   match tags,htl with
   | [t0,t1],_ =>
    refine Seg.of zaa mixed (fun _=>0) (by kernel_rfl) (fun E=>za0 E tyT Tryz.f116.results.toList [t0,t1] (.p (pI 0)) [some (.box [A,.osl 1 0 m] 60 none),some (.rows 1 rs 5)]) fun P G E hc hM3 hE=>?_
    subst hA;have z0:E.eq s ⟨#[]⟩=true:=by rw [hE];exact dT hse
    clear hE hc hM3 hrs hm hn hcs h hs hse;cbv
    repeat (first|(simp only [z0];cbv)|simp only [z0])
    all_goals trivial
 | cons c r0 =>
 have hsz:s.size=r0.length + 1:=by
  have e:s.data.toList.length=s.size:=rfl;rw [hcs] at e;exact e.symm
 obtain ⟨z,hz⟩:∃ z:Int,((c.toNat:Nat):Int)=z:=⟨_,rfl⟩
 have hi:=upL (zed ⟨#[110,116,114,98,92,34,39]⟩ c z hz);have hi':(⟨#[110,116,114,98,92,34,39]⟩:ByteArray).data.toList=[110,116,114,98,92,34,39]:=rfl;rw [hi'] at hi;have htab:=zyn c;obtain ⟨i1,hi1⟩:∃ i:Int,Lib.indexByte [110,116,114,98,92,34,39] c=i:=⟨_,rfl⟩
 rw [hi1] at hi htab;rw [hcs,zf0] at h;unfold bH;obtain ⟨rs,hrs⟩:∃ x,lR l=x:=⟨_,rfl⟩
 obtain ⟨m,hm⟩:∃ x,l.length=x:=⟨_,rfl⟩
 rcases htab with ⟨d,hd,hi0,hdd⟩|⟨hd,hi0⟩
 ·rw [hd] at h
  cases h
 ·rw [hd] at h;simp only at h;have d0f:decide (0<=i1)=false:=by rw [hi0];rfl
  split at h
  ·rename_i e48
   split at h
   ·rename_i hnd;have f48:decide (z=48)=true:=dT (by rw [<-hz,e48];rfl)
    cases hr0:r0 with
    | nil=>rw [hr0] at hnd;cases hnd
    | cons q r1 =>
     rw [hr0] at hsz hnd;have hdq:dgt q=true:=by simpa using hnd
     have hdg:=upL (zmr q);rw [hdq] at hdg;obtain ⟨y,hy⟩:∃ y:Int,((q.toNat:Nat):Int)=y:=⟨_,rfl⟩
     change RL _ [.v (.int .u8 ((q.toNat:Nat):Int))] _ at hdg;rw [hy] at hdg;rw [hrs,hm]
     rcases hA with hA|hA
     all_goals
      refine zad zaa (f:=116) Tryz.func116 rfl (by kernel_rfl) (oT (by kernel_rfl)) fun tags htl=>?_
      match tags,htl with
      | [t0,t1],_ =>
       refine Seg.of zaa mixed (fun _=>0) (by kernel_rfl) (fun E=>za0 E tyT Tryz.f116.results.toList [t0,t1] (.p (pI 0)) [some (.box [A,.osl 1 0 m] 60 none),some (.rows 1 rs 5)]) fun P G E hc hM3 hE=>?_
       subst hA;have z1:E.size s=n:=by rw [hE];exact hn
       have z0:E.eq s ⟨#[]⟩=false:=by
        rw [hE];refine dF fun e=>?_
        rw [e] at hcs
        cases hcs
       have eple:=zp7 hE;have p0:=eple 0 0 (by omega)
       have g0:E.get s (E.nat 0)=some z:=by
        rw [hE];show (s.data.toList[0]?).map _=some z;rw [hcs,<- hz];rfl
       replace hi:=hc _ _ _ hi;have d0:E.lei 0 i1=decide (0<=i1):=by rw [hE];rfl
       replace hdg:=hc _ _ _ hdg;rw [d0f] at d0;have d1:E.lti 1 n=true:=by rw [hE];exact dT (by rw [lLC] at hsz;omega)
       have p1:=eple 0 1 (by omega)
       have g1:E.get s (E.nat 1)=some y:=by
        rw [hE];show (s.data.toList[1]?).map _=some y;rw [hcs,hr0,<- hy];rfl
       clear hE hc hM3 hrs hm hn hcs hsz hz hd eple hi' hi1 hi0 h hs d0f e48 hnd hr0 hdq hy;cbv
       repeat (first|(simp only [z0];cbv)|simp only [z0]|(refine ⟨p0,_,g0,?_⟩;cbv)|(refine ⟨_,hi,?_⟩;cbv)|(simp only [d0];cbv)|simp only [d0]|(simp only [f48];cbv)|simp only [f48]|(simp only [z1];cbv)|simp only [z1]|(simp only [d1];cbv)|simp only [d1]|(refine ⟨p1,_,g1,?_⟩;cbv)|(refine ⟨_,hdg,?_⟩;cbv))
       all_goals trivial
   ·cases h
  ·rename_i e48;have f48:decide (z=48)=false:=zv4 hz 48 e48
   split at h
   ·rename_i e120;have f120:decide (z=120)=true:=dT (by rw [<-hz,e120];rfl)
    rcases cEm (3<=n) with h3|h3
    ·match r0,hcs,hsz,h with
     | [],hcs,hsz,h=>simp only [List.length_nil] at hsz;omega
     | [_],hcs,hsz,h=>simp only [lLC,List.length_nil] at hsz;omega
     | a :: b :: r1,hcs,hsz,h =>
      rw [z3b] at h
      split at h
      ·cases h
      ·rename_i hdg;obtain ⟨T,hT⟩:∃ x,s.extract 1 3=x:=⟨_,rfl⟩
       have hTd:T.data.toList=[a,b]:=by
        rw [<-hT,zn4,hcs];rfl
       have hdg2:zvf T.data.toList 2=false:=by rw [hTd];simpa using hdg
       have hw:=ztd A hA T 2 (by omega) l hdg2
       unfold bH at hw;rw [hrs,hm] at hw;rw [hrs,hm]
       rcases hA with hA|hA
       all_goals
        refine zad zaa (f:=116) Tryz.func116 rfl (by kernel_rfl) (oT (by kernel_rfl)) fun tags htl=>?_
        match tags,htl with
        | [t0,t1],_ =>
         refine Seg.of zaa mixed (fun _=>0) (by kernel_rfl) (fun E=>za0 E tyT Tryz.f116.results.toList [t0,t1] (.p (pI 0)) [some (.box [A,.osl 1 0 m] 60 none),some (.rows 1 rs 5)]) fun P G E hc hM3 hE=>?_
         subst hA;have z1:E.size s=n:=by rw [hE];exact hn
         have z0:E.eq s ⟨#[]⟩=false:=by
          rw [hE];refine dF fun e=>?_
          rw [e] at hcs
          cases hcs
         have eple:=zp7 hE;have p0:=eple 0 0 (by omega)
         have g0:E.get s (E.nat 0)=some z:=by
          rw [hE];show (s.data.toList[0]?).map _=some z;rw [hcs,<- hz];rfl
         replace hi:=hc _ _ _ hi;have d0:E.lei 0 i1=decide (0<=i1):=by rw [hE];rfl
         replace hw:=hM3 _ _ _ _ _ hw;rw [d0f] at d0;have d3:E.lei 3 n=true:=by rw [hE];exact dT h3
         have p1:=eple 0 1 (by omega)
         have p2:=eple 1 3 (by omega)
         have p3:=eple 3 n h3;have x1:E.ext s (E.nat 1) (E.nat 3)=T:=by rw [hE];exact hT
         clear hE hc hM3 hrs hm hn hcs hsz hz hd eple hi' hi1 hi0 h hs d0f e48 e120 hT hTd hdg hdg2 h3;cbv
         repeat (first|(simp only [z0];cbv)|simp only [z0]|(refine ⟨p0,_,g0,?_⟩;cbv)|(refine ⟨_,hi,?_⟩;cbv)|(simp only [d0];cbv)|simp only [d0]|(simp only [f48];cbv)|simp only [f48]|(simp only [f120];cbv)|simp only [f120]|(simp only [z1];cbv)|simp only [z1]|(simp only [d3];cbv)|simp only [d3]|(refine ⟨p1,p2,p3,?_⟩;cbv)|(simp only [x1];cbv)|simp only [x1])
         refine .mk _ _ (Wk.refl _ _) [0,1] _ _ _ _ hw rfl rfl rfl ?_;cbv;all_goals trivial
    ·rw [hrs,hm]
     rcases hA with hA|hA
     all_goals
      refine zad zaa (f:=116) Tryz.func116 rfl (by kernel_rfl) (oT (by kernel_rfl)) fun tags htl=>?_
      match tags,htl with
      | [t0,t1],_ =>
       refine Seg.of zaa mixed (fun _=>0) (by kernel_rfl) (fun E=>za0 E tyT Tryz.f116.results.toList [t0,t1] (.p (pI 0)) [some (.box [A,.osl 1 0 m] 60 none),some (.rows 1 rs 5)]) fun P G E hc hM3 hE=>?_
       subst hA;have z1:E.size s=n:=by rw [hE];exact hn
       have z0:E.eq s ⟨#[]⟩=false:=by
        rw [hE];refine dF fun e=>?_
        rw [e] at hcs
        cases hcs
       have eple:=zp7 hE;have p0:=eple 0 0 (by omega)
       have g0:E.get s (E.nat 0)=some z:=by
        rw [hE];show (s.data.toList[0]?).map _=some z;rw [hcs,<- hz];rfl
       replace hi:=hc _ _ _ hi;have d0:E.lei 0 i1=decide (0<=i1):=by rw [hE];rfl
       rw [d0f] at d0;have d3:E.lei 3 n=false:=by rw [hE];exact dF h3
       clear hE hc hM3 hrs hm hn hcs hsz hz hd eple hi' hi1 hi0 h hs d0f e48 e120 h3;cbv
       repeat (first|(simp only [z0];cbv)|simp only [z0]|(refine ⟨p0,_,g0,?_⟩;cbv)|(refine ⟨_,hi,?_⟩;cbv)|(simp only [d0];cbv)|simp only [d0]|(simp only [f48];cbv)|simp only [f48]|(simp only [f120];cbv)|simp only [f120]|(simp only [z1];cbv)|simp only [z1]|(simp only [d3];cbv)|simp only [d3])
       all_goals trivial
   ·rename_i e120;have f120:decide (z=120)=false:=zv4 hz 120 e120
    split at h
    ·rename_i e117;have f117:decide (z=117)=true:=dT (by rw [<-hz,e117];rfl)
     have hj:=upL (zed s 125 125 rfl);obtain ⟨e1,he1⟩:∃ x:Int,Lib.indexByte s.data.toList 125=x:=⟨_,rfl⟩
     rw [he1] at hj
     rcases cEm (2 < e1) with h2|h2
     ·obtain ⟨q,u,r2,hr0,hu2,hel⟩:∃ q u r2,r0=q :: (u++125 :: r2)/\(125:UInt8) ∉ u/\e1=(u.length:Nat) + 2:=by
       rcases zlp 125 s.data.toList with ⟨h5,_⟩|⟨v,r2,h5,h6,h7⟩
       ·omega
       ·rw [hcs] at h5
        match v,h5,h6,h7 with
        | [],h5,h6,h7=>simp only [List.length_nil] at h7;omega
        | [_],h5,h6,h7=>simp only [lLC,List.length_nil] at h7;omega
        | x :: y :: v,h5,h6,h7 =>
         have h8:r0=(y :: v)++125 :: r2:=(List.cons.inj h5).2;exact ⟨y,v,r2,h8,fun h9=>h6 (List.mem_cons_of_mem _ (List.mem_cons_of_mem _ h9)),by simp only [lLC] at h7;omega⟩
      obtain ⟨y,hy⟩:∃ y:Int,((q.toNat:Nat):Int)=y:=⟨_,rfl⟩
      by_cases hq:q=123
      ·have f123:decide (y=123)=true:=dT (by rw [<-hy,hq];rfl)
       rw [hr0,hq,z2u hu2] at h
       split at h
       ·cases h
       ·rename_i hdg;have hnl:n=e1 + 1 + (r2.length:Nat):=by
         rw [<-hn,hsz,hr0];simp only [lLC,lLA];omega
        obtain ⟨T,hT⟩:∃ x,s.extract 2 e1.toNat=x:=⟨_,rfl⟩
        have hTd:T.data.toList=u:=by
         rw [<-hT,zn4,hcs,hr0];show (u++125 :: r2).take (e1.toNat - 2)=u;rw [show e1.toNat - 2=u.length by omega,List.take_left]
        have hdg2:zvf T.data.toList 6=false:=by rw [hTd];simpa using hdg
        have hw:=ztd A hA T 6 (by omega) l hdg2
        unfold bH at hw;rw [hrs,hm] at hw;rw [hrs,hm]
        rcases hA with hA|hA
        all_goals
         refine zad zaa (f:=116) Tryz.func116 rfl (by kernel_rfl) (oT (by kernel_rfl)) fun tags htl=>?_
         match tags,htl with
         | [t0,t1],_ =>
          refine Seg.of zaa mixed (fun _=>0) (by kernel_rfl) (fun E=>za0 E tyT Tryz.f116.results.toList [t0,t1] (.p (pI 0)) [some (.box [A,.osl 1 0 m] 60 none),some (.rows 1 rs 5)]) fun P G E hc hM3 hE=>?_
          subst hA;have z1:E.size s=n:=by rw [hE];exact hn
          have z0:E.eq s ⟨#[]⟩=false:=by
           rw [hE];refine dF fun e=>?_
           rw [e] at hcs
           cases hcs
          have eple:=zp7 hE;have p0:=eple 0 0 (by omega)
          have g0:E.get s (E.nat 0)=some z:=by
           rw [hE];show (s.data.toList[0]?).map _=some z;rw [hcs,<- hz];rfl
          replace hi:=hc _ _ _ hi;have d0:E.lei 0 i1=decide (0<=i1):=by rw [hE];rfl
          replace hw:=hM3 _ _ _ _ _ hw;replace hj:=hc _ _ _ hj;rw [d0f] at d0;have d3:E.lti 2 e1=true:=by rw [hE];exact dT h2
          have p1:=eple 0 1 (by omega)
          have p2:=eple 0 2 (by omega)
          have p3:=eple 2 e1 (by omega)
          have p4:=eple e1 n (by omega)
          have g1:E.get s (E.nat 1)=some y:=by
           rw [hE];show (s.data.toList[1]?).map _=some y;rw [hcs,hr0,<- hy];rfl
          have x1:E.ext s (E.nat 2) (E.nat e1)=T:=by rw [hE];exact hT
          clear hE hc hM3 hrs hm hn hcs hsz hz hd eple hi' hi1 hi0 h hs d0f e48 e120 hT hTd hdg hdg2 e117 hr0 hu2 hel he1 hnl hy hq h2;cbv
          repeat (first|(simp only [z0];cbv)|simp only [z0]|(refine ⟨p0,_,g0,?_⟩;cbv)|(refine ⟨_,hi,?_⟩;cbv)|(simp only [d0];cbv)|simp only [d0]|(simp only [f48];cbv)|simp only [f48]|(simp only [f120];cbv)|simp only [f120]|(simp only [f117];cbv)|simp only [f117]|(refine ⟨_,hj,?_⟩;cbv)|(simp only [d3];cbv)|simp only [d3]|(refine ⟨p1,_,g1,?_⟩;cbv)|(simp only [f123];cbv)|simp only [f123]|(simp only [z1];cbv)|simp only [z1]|(refine ⟨p2,p3,p4,?_⟩;cbv)|(simp only [x1];cbv)|simp only [x1])
          refine .mk _ _ (Wk.refl _ _) [0,1] _ _ _ _ hw rfl rfl rfl ?_;cbv;all_goals trivial
      ·have f123:decide (y=123)=false:=zv4 hy 123 hq;rw [hrs,hm]
       rcases hA with hA|hA
       all_goals
        refine zad zaa (f:=116) Tryz.func116 rfl (by kernel_rfl) (oT (by kernel_rfl)) fun tags htl=>?_
        match tags,htl with
        | [t0,t1],_ =>
         refine Seg.of zaa mixed (fun _=>0) (by kernel_rfl) (fun E=>za0 E tyT Tryz.f116.results.toList [t0,t1] (.p (pI 0)) [some (.box [A,.osl 1 0 m] 60 none),some (.rows 1 rs 5)]) fun P G E hc hM3 hE=>?_
         subst hA;have z1:E.size s=n:=by rw [hE];exact hn
         have z0:E.eq s ⟨#[]⟩=false:=by
          rw [hE];refine dF fun e=>?_
          rw [e] at hcs
          cases hcs
         have eple:=zp7 hE;have p0:=eple 0 0 (by omega)
         have g0:E.get s (E.nat 0)=some z:=by
          rw [hE];show (s.data.toList[0]?).map _=some z;rw [hcs,<- hz];rfl
         replace hi:=hc _ _ _ hi;have d0:E.lei 0 i1=decide (0<=i1):=by rw [hE];rfl
         replace hj:=hc _ _ _ hj;rw [d0f] at d0;have d3:E.lti 2 e1=true:=by rw [hE];exact dT h2
         have p1:=eple 0 1 (by omega)
         have g1:E.get s (E.nat 1)=some y:=by
          rw [hE];show (s.data.toList[1]?).map _=some y;rw [hcs,hr0,<- hy];rfl
         clear hE hc hM3 hrs hm hn hcs hsz hz hd eple hi' hi1 hi0 h hs d0f e48 e120 e117 hr0 hu2 hel he1 hy hq h2;cbv
         repeat (first|(simp only [z0];cbv)|simp only [z0]|(refine ⟨p0,_,g0,?_⟩;cbv)|(refine ⟨_,hi,?_⟩;cbv)|(simp only [d0];cbv)|simp only [d0]|(simp only [f48];cbv)|simp only [f48]|(simp only [f120];cbv)|simp only [f120]|(simp only [f117];cbv)|simp only [f117]|(refine ⟨_,hj,?_⟩;cbv)|(simp only [d3];cbv)|simp only [d3]|(refine ⟨p1,_,g1,?_⟩;cbv)|(simp only [f123];cbv)|simp only [f123])
         all_goals trivial
     ·rw [hrs,hm]
      rcases hA with hA|hA
      all_goals
       refine zad zaa (f:=116) Tryz.func116 rfl (by kernel_rfl) (oT (by kernel_rfl)) fun tags htl=>?_
       match tags,htl with
       | [t0,t1],_ =>
        refine Seg.of zaa mixed (fun _=>0) (by kernel_rfl) (fun E=>za0 E tyT Tryz.f116.results.toList [t0,t1] (.p (pI 0)) [some (.box [A,.osl 1 0 m] 60 none),some (.rows 1 rs 5)]) fun P G E hc hM3 hE=>?_
        subst hA;have z1:E.size s=n:=by rw [hE];exact hn
        have z0:E.eq s ⟨#[]⟩=false:=by
         rw [hE];refine dF fun e=>?_
         rw [e] at hcs
         cases hcs
        have eple:=zp7 hE;have p0:=eple 0 0 (by omega)
        have g0:E.get s (E.nat 0)=some z:=by
         rw [hE];show (s.data.toList[0]?).map _=some z;rw [hcs,<- hz];rfl
        replace hi:=hc _ _ _ hi;have d0:E.lei 0 i1=decide (0<=i1):=by rw [hE];rfl
        replace hj:=hc _ _ _ hj;rw [d0f] at d0;have d3:E.lti 2 e1=false:=by rw [hE];exact dF h2
        clear hE hc hM3 hrs hm hn hcs hsz hz hd eple hi' hi1 hi0 h hs d0f e48 e120 e117 he1 h2;cbv
        repeat (first|(simp only [z0];cbv)|simp only [z0]|(refine ⟨p0,_,g0,?_⟩;cbv)|(refine ⟨_,hi,?_⟩;cbv)|(simp only [d0];cbv)|simp only [d0]|(simp only [f48];cbv)|simp only [f48]|(simp only [f120];cbv)|simp only [f120]|(simp only [f117];cbv)|simp only [f117]|(refine ⟨_,hj,?_⟩;cbv)|(simp only [d3];cbv)|simp only [d3])
        all_goals trivial
    ·rename_i e117;have f117:decide (z=117)=false:=zv4 hz 117 e117;rw [hrs,hm]
     rcases hA with hA|hA
     all_goals
      refine zad zaa (f:=116) Tryz.func116 rfl (by kernel_rfl) (oT (by kernel_rfl)) fun tags htl=>?_
      match tags,htl with
      | [t0,t1],_ =>
       refine Seg.of zaa mixed (fun _=>0) (by kernel_rfl) (fun E=>za0 E tyT Tryz.f116.results.toList [t0,t1] (.p (pI 0)) [some (.box [A,.osl 1 0 m] 60 none),some (.rows 1 rs 5)]) fun P G E hc hM3 hE=>?_
       subst hA;have z1:E.size s=n:=by rw [hE];exact hn
       have z0:E.eq s ⟨#[]⟩=false:=by
        rw [hE];refine dF fun e=>?_
        rw [e] at hcs
        cases hcs
       have eple:=zp7 hE;have p0:=eple 0 0 (by omega)
       have g0:E.get s (E.nat 0)=some z:=by
        rw [hE];show (s.data.toList[0]?).map _=some z;rw [hcs,<- hz];rfl
       replace hi:=hc _ _ _ hi;have d0:E.lei 0 i1=decide (0<=i1):=by rw [hE];rfl
       rw [d0f] at d0;clear hE hc hM3 hrs hm hn hcs hsz hz hd eple hi' hi1 hi0 h hs d0f e48 e120 e117;cbv
       repeat (first|(simp only [z0];cbv)|simp only [z0]|(refine ⟨p0,_,g0,?_⟩;cbv)|(refine ⟨_,hi,?_⟩;cbv)|(simp only [d0];cbv)|simp only [d0]|(simp only [f48];cbv)|simp only [f48]|(simp only [f120];cbv)|simp only [f120]|(simp only [f117];cbv)|simp only [f117])
       all_goals trivial
end Go.Proofs.YtcfecmeocimclaaGreatDoor
