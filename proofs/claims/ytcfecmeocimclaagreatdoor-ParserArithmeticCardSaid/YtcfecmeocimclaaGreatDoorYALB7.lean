/- Own work: text.Repair and lexer.literal. -/
import Derived.Test.YtcfecmeocimclaaGreatDoorYAA0
import Derived.Test.YtcfecmeocimclaaGreatDoorYALB6
import Derived.Test.YtcfecmeocimclaaGreatDoorYAGV
namespace Go.Proofs.YtcfecmeocimclaaGreatDoor
set_option linter.unusedSimpArgs false
set_option maxRecDepth 100000
open Go.RowKit
theorem zvh (l:List UInt8) (hne:l ≠ []):zku (Go.Lib.decodeL l).1:=by
 by_cases hc:(Go.Lib.decodeL l).1=65533/\(Go.Lib.decodeL l).2=1
 ·rw [hc.1];unfold zku;omega
 ·have he:=Go.Lib.encode_decode l hne hc;rw [<-zhn] at he;obtain ⟨q,hq,hqe⟩:=zn0 ((Go.Lib.decodeL l).1:Int);have hd:=zyw q hq (l.drop (Go.Lib.decodeL l).2);rw [<-hqe,he,List.take_append_drop] at hd;rw [hd];exact hq
theorem zq9 (A:AV) (hA:zjz A) (n:Int) (h0:0<=n) (h1:n<=1114111) (hs:¬ (55296<=n/\n<=57343)) (l:List UInt8) (hb:l.length<=1000000000) (k:Int) (hk:(((encL n).length:Nat):Int)=k) :
  VM 123 [.own 0 0,.p (.v (.int .i32 n))] (bH A l) (.p (.tup [pI k,.v .nilIface])) (bH (.own 0 0) (l++encL n)):=by
 rw [<-hk];exact zlt A hA n h0 h1 hs l hb
theorem z71 (l:Bs):lS l=bL l:=rfl
structure TrI (s:ByteArray) (x:AV × Nat × List (List PV) × Nat):Prop where
 a:zjz x.1
 st:∃ acc:Bs,x.2.2.1=lR acc/\acc.length=x.2.1/\acc++zah (s.data.toList.drop x.2.2.2)=zah s.data.toList/\acc.length<=4 * x.2.2.2
set_option maxHeartbeats 4000000 in
theorem z0k (s:ByteArray) (hs:s.size<=8000000):RL 110 [pS s] (pS (zcn s)):=by
 have hv:=zwj s (by omega)
 cases hvb:z2a s with
 | true =>
  rw [hvb] at hv;have e:zcn s=s:=by
   unfold zcn;rw [zi6 hvb]
  rw [e];refine zaq zaa zbu mixed (fun _=>0) Tryz.func110 rfl (by kernel_rfl) (by kernel_rfl) rfl fun P G E hc hE=>?_
  replace hv:=hc _ _ _ hv;clear hE hc;cbv
  repeat (first|(refine ⟨_,hv,?_⟩;cbv))
 | false =>
  rw [hvb] at hv;obtain ⟨R,hR⟩:∃ x,zcn s=x:=⟨_,rfl⟩
  rw [hR];obtain ⟨n,hn⟩:∃ n:Int,((s.size:Nat):Int)=n:=⟨_,rfl⟩
  obtain ⟨μ,hμ⟩:∃ μ:Nat->Nat,∀ x,μ x=s.size - x:=⟨_,fun _=>rfl⟩
  have hI0:TrI s (.p (.v (.pointer none)),0,[],0):=⟨.inl rfl,[],rfl,rfl,rfl,nR _⟩;have hwr:=fun (A:AV) (hA:zjz A) (r:Int) (h0:0<=r) (h1:r<=1114111) (hs:¬ (55296<=r/\r<=57343)) (acc:Bs) (hb:acc.length<=1000000000) (k:Int) (hk:(((encL r).length:Nat):Int)=k)=>upM (zq9 A hA r h0 h1 hs acc hb k hk)
  have hst:=fun (A:AV) (acc:Bs) (hb:acc.length<=9223372036854775807)=>upM (zs4 A acc hb)
  unfold bH at hwr hst;refine zfb zaa zbu mixed (fun _=>0) Tryz.func110 rfl (by kernel_rfl) (by kernel_rfl) rfl fun P G E hc hM3 hE=>?_
  replace hv:=hc _ _ _ hv;have z1:E.size s=n:=by rw [hE];exact hn
  have elt:∀ p:Nat,E.lti (E.ofN p) n=decide (p < s.size):=fun p=>by
   rw [hE,<- hn];show decide (((p:Nat):Int) < ((s.size:Nat):Int))=_;exact decide_eq_decide.2 (by omega)
  have eadd:∀ p,E.addN p (E.decW s p)=p + (Utf8.decode s p).2:=fun p=>by rw [hE];rfl
  have edec:∀ p:Nat,E.decR s p=(((Utf8.decode s p).1:Nat):Int):=fun p=>by rw [hE];rfl
  clear hE hc;cbv
  repeat (first|(refine ⟨_,hv,?_⟩;cbv))
  refine LoopA.wk (zps (k:=0) (j:=1) 1 5 rfl rfl) ?_;refine zbs 17 [0,3,10] 3 (fun _:AV × Nat × List (List PV) × Nat=>[.p (pS s),.own 0 0,.own 1 0]) (fun x=>[some (.box [x.1,.osl 2 0 x.2.1] 60 none),some (.iter s x.2.2.2),some (.rows 1 x.2.2.1 5)]) (TrI s) (fun x=>μ x.2.2.2) (.p (.v (.pointer none)),0,[],0) ⟨rfl,rfl,rfl,rfl,rfl⟩ hI0 ?_
  clear hI0
  rintro ⟨A,m,rs,pos⟩ ⟨hA,acc,hrs,hm,hacc,h4⟩
  simp only at hA hrs hm hacc h4;replace hm:acc.length=m:=hm;replace h4:acc.length<=4 * pos:=h4;have d1:=elt pos
  rcases cEm (pos < s.size) with hp|hp
  ·rw [dT hp] at d1;obtain ⟨r,wd,hd⟩:∃ r wd,Utf8.decode s pos=(r,wd):=⟨_,_,rfl⟩
   have hw:1<=wd:=by
    by_cases ha:(s[pos]'hp).toNat < 128
    ·have:=decode_ascii s pos hp ha
     rw [hd] at this;have e:=congrArg Prod.snd this;simp only at e;omega
    ·have:=(decode_high s pos hp (by omega)).2
     rw [hd] at this;simp only at this;omega
   have hne:s.data.toList.drop pos ≠ []:=by
    intro h;have h5:=congrArg List.length h;rw [lLD] at h5;have e:s.data.toList.length=s.size:=rfl;rw [e] at h5;simp only [List.length_nil] at h5;omega
   have hdl:=(Go.Lib.decodeL_drop s pos).trans hd;have hval:=zvh _ hne;rw [hdl] at hval;simp only at hval;unfold zku at hval;have hstp:=zi7 _ r wd hne hdl;rw [lDD] at hstp;have ha4:=zff (r:Int);obtain ⟨rz,hrz⟩:∃ x:Int,((r:Nat):Int)=x:=⟨_,rfl⟩
   have hx:E.addN pos (E.decW s pos)=pos + wd:=by rw [eadd,hd]
   have hy:E.decR s pos=rz:=by rw [edec,hd];exact hrz
   rw [hrz] at hstp ha4;obtain ⟨kk,hkk⟩:∃ x:Int,(((encL rz).length:Nat):Int)=x:=⟨_,rfl⟩
   have hwr1:=hwr A hA rz (by omega) (by omega) (by omega) acc (by omega) kk hkk
   obtain ⟨RS,hRS⟩:∃ x,lR (acc++encL rz)=x:=⟨_,rfl⟩
   obtain ⟨M,hM⟩:∃ x,(acc++encL rz).length=x:=⟨_,rfl⟩
   rw [<-hrs,hm,hRS,hM] at hwr1;have hMl:M=acc.length + (encL rz).length:=by rw [<-hM,lLA]
   have hI2:TrI s (.own 0 0,M,RS,E.addN pos (E.decW s pos)):=by
    rw [hx];refine ⟨.inr rfl,acc++encL rz,hRS.symm,hM,?_,?_⟩
    ·show (acc++encL rz)++zah (s.data.toList.drop (pos + wd))=_;rw [List.append_assoc,<- hstp];exact hacc
    ·show (acc++encL rz).length<=4 * (pos + wd);rw [lLA];omega
   have hM2:μ (E.addN pos (E.decW s pos)) < μ pos:=by
    rw [hμ,hμ,hx];omega
   replace hwr1:=hM3 _ _ _ _ _ hwr1
   rcases hA with rfl|rfl
   all_goals
    clear elt eadd edec hwr hst hM3 hrs hm hacc h4 hd hdl hval hstp ha4 hrz hx hRS hM hMl hne hw hp hR hn hs hvb hv hkk;cbv
    repeat (first|(simp only [z1];cbv)|simp only [z1]|(simp only [d1];cbv)|simp only [d1]|(simp only [hy];cbv)|simp only [hy])
    refine .mk _ _ (Wk.refl _ _) [0,2] _ _ _ _ hwr1 rfl rfl rfl ?_;cbv;refine .mk (.own 0 0,M,RS,E.addN pos (E.decW s pos)) ⟨rfl,rfl,rfl,rfl,rfl⟩ ?_ ?_
    ·exact hI2
    ·exact hM2
  ·rw [dF hp] at d1;have hfin:=zof s (bL acc) pos hp hacc;rw [hR] at hfin;have hal:acc.length<=4 * s.size:=by
    have h6:=zhk s.data.toList;have h7:=congrArg List.length hacc;rw [lLA] at h7;have e:s.data.toList.length=s.size:=rfl;omega
   have hst1:=hst A acc (by omega)
   rw [z71,hfin,<- hrs,hm] at hst1;replace hst1:=hM3 _ _ _ _ _ hst1
   rcases hA with rfl|rfl
   all_goals
    clear elt eadd edec hwr hst hM3 hrs hm hacc h4 hp hR hn hs hvb hv hfin hal;cbv
    repeat (first|(simp only [z1];cbv)|simp only [z1]|(simp only [d1];cbv)|simp only [d1])
    refine .mk _ _ (Wk.refl _ _) [0,2] _ _ _ _ hst1 rfl rfl rfl ?_;cbv;all_goals trivial
def zxs (s:ByteArray) (a:Int) (q:UInt8):PV:=match lit uB q (rst s (a + 1)) with
 | none=>.tup [pS ⟨#[]⟩,pI 0]
 | some p=>.tup [pS (zcn (bL p.1)),pI ((s.size:Nat) - (p.2.length:Nat))]
structure LlI (s:ByteArray) (n a:Int) (q:UInt8) (R:Option (Bs × Bs)) (x:Int × AV × Nat × List (List PV)):Prop where
 j0:a + 1<=x.1
 j1:x.1<=n
 sa:zjz x.2.1
 st:∃ acc:Bs,x.2.2.2=lR acc/\acc.length=x.2.2.1/\(acc.length:Int)<=4 * (x.1 - a)/\R=(lit uB q (rst s x.1)).map fun z=>(acc++z.1,z.2)
set_option maxHeartbeats 4000000 in
theorem zr1 (s:ByteArray) (a:Int) (q:UInt8) (h0:0<=a) (hq:s.data.toList[a.toNat]?=some q) (hs:s.size<=900000):RL 106 [pS s,pI a] (zxs s a q):=by
 obtain ⟨n,hn⟩:∃ n:Int,((s.size:Nat):Int)=n:=⟨_,rfl⟩
 have h1:a < n:=by
  have:=(List.getElem?_eq_some_iff.1 hq).1
  have e:s.data.toList.length=s.size:=rfl;omega
 have hget:∀ i:Int,0<=i->i < n->∃ c,s.data.toList[i.toNat]?=some c:=fun i hi0 hi1=>⟨_,List.getElem?_eq_getElem (by show i.toNat < s.size;omega)⟩
 obtain ⟨a1,ha1⟩:∃ x:Int,a + 1=x:=⟨_,rfl⟩
 obtain ⟨RV,hRV⟩:∃ x,zxs s a q=x:=⟨_,rfl⟩
 rw [hRV];obtain ⟨RL_,hRL⟩:∃ x,lit uB q (rst s (a + 1))=x:=⟨_,rfl⟩
 have hnone:RL_=none->RV=.tup [pS ⟨#[]⟩,pI 0]:=fun h=>by
  rw [<-hRV];unfold zxs;rw [hRL,h]
 have hsome:∀ t r',RL_=some (t,r')->RV=.tup [pS (zcn (bL t)),pI (n - (r'.length:Nat))]:=fun t r' h=>by
  rw [<-hRV];unfold zxs;rw [hRL,h,<- hn]
 obtain ⟨μ,hμ⟩:∃ μ:Int->Nat,∀ x,μ x=2000000000 - x.toNat:=⟨_,fun _=>rfl⟩
 have hI0:LlI s n a q RL_ (a1,.p (.v (.pointer none)),0,[]):=⟨by show a + 1<=a1;omega,by show a1<=n;omega,.inl rfl,[],rfl,rfl,by show (0:Int)<=4 * (a1 - a);omega,by
  show RL_=(lit uB q (rst s a1)).map fun z=>([]++z.1,z.2)
  rw [<-ha1,hRL]
  cases RL_ <;> rfl⟩
 obtain ⟨zq,hzq⟩:∃ z:Int,((q.toNat:Nat):Int)=z:=⟨_,rfl⟩
 have hwb:=fun (A:AV) (hA:zjz A) (acc:Bs) (c:UInt8) (z:Int) (hz:((c.toNat:Nat):Int)=z) (hb:acc.length<=1000000000)=>upM (zil A hA acc c z hz hb)
 have hst:=fun (A:AV) (acc:Bs) (hb:acc.length<=9223372036854775807)=>upM (zs4 A acc hb)
 have heo:=fun (A:AV) (hA:zjz A) (T:ByteArray) (hs:T.size<=1000000) (acc:Bs) (hb:acc.length<=900000000) (t r:Bs) (h:zf0 uB T.data.toList=some (t,r))=>zyl A hA T hs acc hb t r h
 have hen:=fun (A:AV) (hA:zjz A) (T:ByteArray) (hs:T.size<=1000000) (acc:Bs) (h:zf0 uB T.data.toList=none)=>zym A hA T hs acc h
 unfold bH at hwb hst heo hen;have hrep:=fun (t:ByteArray) (h:t.size<=8000000)=>z0k t h
 refine zfb zaa zbu mixed (fun _=>0) Tryz.func106 rfl (by kernel_rfl) (by kernel_rfl) rfl fun P G E hc hM3 hE=>?_
 replace hrep:=fun (t:ByteArray) (h:t.size<=8000000)=>hc _ _ _ (hrep t h)
 have z1:E.size s=n:=by rw [hE];exact hn
 have elt:=zw5 hE;have eple:=zp7 hE;have eget:∀ (i:Int) (c:UInt8) (z:Int),s.data.toList[i.toNat]?=some c->((c.toNat:Nat):Int)=z->E.get s (E.nat i)=some z:=fun i c z h hz=>by
  rw [hE];show (s.data.toList[i.toNat]?).map _=some z;rw [h,<- hz];rfl
 have eadd:=z6z hE;have eext:∀ i j:Int,E.ext s (E.nat i) (E.nat j)=s.extract i.toNat j.toNat:=fun i j=>by rw [hE];rfl
 have ei:=eadd a 1 (by omega) (by omega) (by omega) (by omega)
 rw [ha1] at ei;have g0:=eget a q zq hq hzq;have p0:=eple 0 a h0;clear hE hc;cbv
 repeat (first|(simp only [ei];cbv)|simp only [ei])
 refine LoopA.wk (zps (k:=0) (j:=1) 1 5 rfl rfl) ?_;refine zbs 49 [0,1,6,7] 2 (fun x:Int × AV × Nat × List (List PV)=>[.p (pS s),.p (pI a),.own 0 0,.p (pI x.1)]) (fun x=>[some (.box [x.2.1,.osl 1 0 x.2.2.1] 60 none),some (.rows 1 x.2.2.2 5)]) (LlI s n a q RL_) (fun x=>μ x.1) (a1,.p (.v (.pointer none)),0,[]) ⟨rfl,rfl,rfl,rfl,rfl⟩ hI0 ?_
 clear hI0
 rintro ⟨j,A,m,rs⟩ ⟨j0,j1,hA,acc,hrs,hm,hsz,heq⟩
 simp only at j0 j1 hA hrs hm hsz heq;replace hn:((s.size:Nat):Int)=n:=hn;replace hm:acc.length=m:=hm;replace hsz:((acc.length:Nat):Int)<=4 * (j - a):=hsz;replace hzq:((q.toNat:Nat):Int)=zq:=hzq;have hsn:n<=900000:=by omega
 rcases cEm (j < n) with hlt|hlt
 ·have d1:E.lti j n=true:=by rw [elt];exact dT hlt
  obtain ⟨c,hci⟩:=hget j (by omega) hlt
  obtain ⟨z,hz⟩:∃ z:Int,((c.toNat:Nat):Int)=z:=⟨_,rfl⟩
  have g1:=eget j c z hci hz;have p1:=eple 0 j (by omega)
  have hc0:=zei (by omega) hci
  obtain ⟨j2,hj2⟩:∃ x:Int,j + 1=x:=⟨_,rfl⟩
  have ej:=eadd j 1 (by omega) (by omega) (by omega) (by omega)
  rw [hj2] at ej;rw [hc0,hj2] at heq;have hrl:=zdo s j2
  rcases cEm (c=q) with hcq|hcq
  ·
   rw [hcq,zkd] at heq;have hv:=hsome _ _ heq;rw [List.append_nil] at hv;have hg2:n - ((rst s j2).length:Nat)=j2:=by omega
   rw [hg2] at hv;have hst1:=hst A acc (by omega)
   rw [z71,<- hrs,hm] at hst1;have hbs:(bL acc).size=acc.length:=rfl;have hr:=hrep (bL acc) (by omega)
   obtain ⟨B,hB⟩:∃ x,bL acc=x:=⟨_,rfl⟩
   rw [hB] at hr hv hst1;obtain ⟨O,hO⟩:∃ x,zcn B=x:=⟨_,rfl⟩
   rw [hO] at hr hv;have w1:decide (z=zq)=true:=dT (by rw [<-hz,<- hzq,hcq])
   replace hst1:=hM3 _ _ _ _ _ hst1;subst hv
   rcases hA with rfl|rfl
   all_goals
    clear hnone hsome hget hrep elt eple eget eadd eext heq hrl hc0 hci hz hcq hO hg2 hRV hRL hzq hq hn hsz hM3 hwb hst heo hen hrs hm hB hbs;cbv
    repeat (first|(simp only [z1];cbv)|simp only [z1]|(simp only [d1];cbv)|simp only [d1]|(refine ⟨p1,_,g1,?_⟩;cbv)|(refine ⟨p0,_,g0,?_⟩;cbv)|(simp only [w1];cbv)|simp only [w1])
    refine .mk _ _ (Wk.refl _ _) [0,1] _ _ _ _ hst1 rfl rfl rfl ?_;cbv
    repeat (first|(refine ⟨_,hr,?_⟩;cbv)|(simp only [ej];cbv)|simp only [ej])
  ·have w1:decide (z=zq)=false:=dF (by
    rw [<-hz,<- hzq];intro h;exact hcq (UInt8.toNat_inj.1 (by omega)))
   have hnl:∀ k:UInt8,c ≠ k->decide (z=((k.toNat:Nat):Int))=false:=fun k h=>zv4 hz k h
   rcases cEm (c=10\/c=13) with hb|hb
   ·rw [zmc _ _ hcq hb] at heq;have hv:=hnone heq;subst hv
    rcases cEm (c=10) with h10|h10
    ·have w2:decide (z=10)=true:=dT (by rw [<-hz,h10];rfl)
     clear hnone hsome hget hrep elt eple eget eadd eext heq hrl hc0 hci hz hcq hRV hRL hzq hq hn hsz hnl hb h10 hM3 hwb hst heo hen hrs hm;cbv
     repeat (first|(simp only [z1];cbv)|simp only [z1]|(simp only [d1];cbv)|simp only [d1]|(refine ⟨p1,_,g1,?_⟩;cbv)|(refine ⟨p0,_,g0,?_⟩;cbv)|(simp only [w1];cbv)|simp only [w1]|(simp only [w2];cbv)|simp only [w2])
    ·have h13:c=13:=hb.resolve_left h10;have w2:decide (z=10)=false:=hnl 10 h10;have w3:decide (z=13)=true:=dT (by rw [<-hz,h13];rfl)
     clear hnone hsome hget hrep elt eple eget eadd eext heq hrl hc0 hci hz hcq hRV hRL hzq hq hn hsz hnl hb h10 h13 hM3 hwb hst heo hen hrs hm;cbv
     repeat (first|(simp only [z1];cbv)|simp only [z1]|(simp only [d1];cbv)|simp only [d1]|(refine ⟨p1,_,g1,?_⟩;cbv)|(refine ⟨p0,_,g0,?_⟩;cbv)|(simp only [w1];cbv)|simp only [w1]|(simp only [w2];cbv)|simp only [w2]|(simp only [w3];cbv)|simp only [w3])
   ·have w2:decide (z=10)=false:=hnl 10 (fun e=>hb (.inl e))
    have w3:decide (z=13)=false:=hnl 13 (fun e=>hb (.inr e))
    rcases cEm (c=92) with h92|h92
    ·have w4:decide (z=92)=true:=dT (by rw [<-hz,h92];rfl)
     obtain ⟨T,hT⟩:∃ x,s.extract j2.toNat n.toNat=x:=⟨_,rfl⟩
     have hTd:T.data.toList=rst s j2:=by
      rw [<-hT,zfr];exact List.take_of_length_le (by omega)
     have hTs:T.size=(rst s j2).length:=by rw [<-hTd];rfl
     have x1:=eext j2 n;rw [hT] at x1;have p3:=eple 0 j2 (by omega)
     have p4:=eple j2 n (by omega)
     have p5:=eple n n (by omega)
     cases hes:zf0 uB (rst s j2) with
     | none =>
      rw [zln _ hcq hb h92 hes] at heq;have hv:=hnone heq;subst hv;have he:=hen A hA T (by omega) acc (by rw [hTd];exact hes)
      rw [<-hrs,hm] at he;replace he:=hM3 _ _ _ _ _ he
      rcases hA with rfl|rfl
      all_goals
       clear hnone hsome hget hrep elt eple eget eadd eext heq hrl hc0 hci hz hcq hRV hRL hzq hq hn hsz hnl hb h92 hes hM3 hwb hst heo hen hrs hm hT hTd hTs;cbv
       repeat (first|(simp only [z1];cbv)|simp only [z1]|(simp only [d1];cbv)|simp only [d1]|(refine ⟨p1,_,g1,?_⟩;cbv)|(refine ⟨p0,_,g0,?_⟩;cbv)|(simp only [w1];cbv)|simp only [w1]|(simp only [w2];cbv)|simp only [w2]|(simp only [w3];cbv)|simp only [w3]|(simp only [w4];cbv)|simp only [w4]|(simp only [ej];cbv)|simp only [ej]|(refine ⟨p3,p4,p5,?_⟩;cbv)|(refine ⟨p3,p4,?_⟩;cbv)|(refine ⟨p4,p5,?_⟩;cbv)|(simp only [x1];cbv)|simp only [x1])
       refine .mk _ _ (Wk.refl _ _) [0,1] _ _ _ _ he rfl rfl rfl ?_;cbv;all_goals trivial
     | some p =>
      obtain ⟨t,r⟩:=p;have he:=heo A hA T (by omega) acc (by omega) t r (by rw [hTd];exact hes)
      have hlt2:=zmo uB hes;simp only at hlt2;obtain ⟨u,hu1,hu2,hu3⟩:=zo2 uB hes;have h4:=z3e hes;rw [zkc _ hcq hb h92 hes] at heq;simp only at heq;obtain ⟨mm,hmm⟩:∃ x:Int,((T.size:Nat):Int) - (r.length:Nat)=x:=⟨_,rfl⟩
      rw [hmm] at he;have hm0:0 < mm:=by omega
      have w5:decide (mm=0)=false:=dF (by omega)
      have hrr:r=rst s (j + (mm + 1)):=by
       have e1:rst s j2=s.data.toList.drop j2.toNat:=rfl;have e2:s.data.toList.drop (j + (mm + 1)).toNat=(s.data.toList.drop j2.toNat).drop mm.toNat:=by
        rw [lDD]
        congr 1
        omega
       show r=s.data.toList.drop (j + (mm + 1)).toNat;rw [e2,<- e1,hu2];have e3:u.length=mm.toNat:=by
        have:=congrArg List.length hu2
        rw [lLA] at this;omega
       rw [<-e3,List.drop_left]
      rw [hrr] at heq;have em:=eadd mm 1 (by omega) (by omega) (by omega) (by omega)
      obtain ⟨m2,hm2⟩:∃ x:Int,mm + 1=x:=⟨_,rfl⟩
      rw [hm2] at em heq hrr;have ejm:=eadd j m2 (by omega) (by omega) (by omega) (by omega)
      obtain ⟨j3,hj3⟩:∃ x:Int,j + m2=x:=⟨_,rfl⟩
      rw [hj3] at ejm heq hrr;obtain ⟨RS,hRS⟩:∃ x,lR (acc++t)=x:=⟨_,rfl⟩
      obtain ⟨M,hM⟩:∃ x,(acc++t).length=x:=⟨_,rfl⟩
      rw [<-hrs,hm,hRS,hM] at he;have hMl:M=acc.length + t.length:=by rw [<-hM,lLA]
      have hrlen:r.length<=s.size:=by have:=zdo s j3;rw [<-hrr] at this;omega
      have hI2:LlI s n a q RL_ (j3,.own 0 0,M,RS):=by
       refine ⟨by show a + 1<=j3;omega,by show j3<=n;omega,.inr rfl,acc++t,hRS.symm,hM,by show (((acc++t).length:Nat):Int)<=4 * (j3 - a);omega,?_⟩
       show RL_=(lit uB q (rst s j3)).map fun z=>((acc++t)++z.1,z.2)
       rw [heq,Option.map_map]
       congr 1
       funext z
       simp
      have hM2:μ j3 < μ j:=by
       rw [hμ,hμ];omega
      replace he:=hM3 _ _ _ _ _ he
      rcases hA with rfl|rfl
      all_goals
       clear hnone hsome hget hrep elt eple eget eadd eext heq hrl hc0 hci hz hcq hRV hRL hzq hq hn hsz hnl hb h92 hes hM3 hwb hst heo hen hrs hm hT hTd hTs hlt2 hu1 hu2 hu3 h4 hmm hm0 hrr hm2 hj3 hRS hM hMl hrlen;cbv
       repeat (first|(simp only [z1];cbv)|simp only [z1]|(simp only [d1];cbv)|simp only [d1]|(refine ⟨p1,_,g1,?_⟩;cbv)|(refine ⟨p0,_,g0,?_⟩;cbv)|(simp only [w1];cbv)|simp only [w1]|(simp only [w2];cbv)|simp only [w2]|(simp only [w3];cbv)|simp only [w3]|(simp only [w4];cbv)|simp only [w4]|(simp only [ej];cbv)|simp only [ej]|(refine ⟨p3,p4,p5,?_⟩;cbv)|(refine ⟨p3,p4,?_⟩;cbv)|(refine ⟨p4,p5,?_⟩;cbv)|(simp only [x1];cbv)|simp only [x1])
       refine .mk _ _ (Wk.refl _ _) [0,1] _ _ _ _ he rfl rfl rfl ?_;cbv
       repeat (first|(simp only [w5];cbv)|simp only [w5]|(simp only [em];cbv)|simp only [em]|(simp only [ejm];cbv)|simp only [ejm])
       refine .mk (j3,.own 0 0,M,RS) ⟨rfl,rfl,rfl,rfl,rfl⟩ ?_ ?_
       ·exact hI2
       ·exact hM2
    ·have w4:decide (z=92)=false:=hnl 92 h92;rw [zke _ _ hcq hb h92] at heq;have he:=hwb A hA acc c z hz (by omega)
     obtain ⟨RS,hRS⟩:∃ x,lR (acc++[c])=x:=⟨_,rfl⟩
     obtain ⟨M,hM⟩:∃ x,(acc++[c]).length=x:=⟨_,rfl⟩
     rw [<-hrs,hm,hRS,hM] at he;have hMl:M=acc.length + 1:=by rw [<-hM,lLA];rfl
     have hI2:LlI s n a q RL_ (j2,.own 0 0,M,RS):=by
      refine ⟨by show a + 1<=j2;omega,by show j2<=n;omega,.inr rfl,acc++[c],hRS.symm,hM,by show (((acc++[c]).length:Nat):Int)<=4 * (j2 - a);omega,?_⟩
      show RL_=(lit uB q (rst s j2)).map fun z=>((acc++[c])++z.1,z.2)
      rw [heq,Option.map_map]
      congr 1
      funext z
      simp
     have hM2:μ j2 < μ j:=by
      rw [hμ,hμ];omega
     replace he:=hM3 _ _ _ _ _ he
     rcases hA with rfl|rfl
     all_goals
      clear hnone hsome hget hrep elt eple eget eadd eext heq hrl hc0 hci hz hcq hRV hRL hzq hq hn hsz hnl hb h92 hM3 hwb hst heo hen hrs hm hRS hM hMl;cbv
      repeat (first|(simp only [z1];cbv)|simp only [z1]|(simp only [d1];cbv)|simp only [d1]|(refine ⟨p1,_,g1,?_⟩;cbv)|(refine ⟨p0,_,g0,?_⟩;cbv)|(simp only [w1];cbv)|simp only [w1]|(simp only [w2];cbv)|simp only [w2]|(simp only [w3];cbv)|simp only [w3]|(simp only [w4];cbv)|simp only [w4])
      refine .mk _ _ (Wk.refl _ _) [0,1] _ _ _ _ he rfl rfl rfl ?_;cbv
      repeat (first|(simp only [ej];cbv)|simp only [ej])
      refine .mk (j2,.own 0 0,M,RS) ⟨rfl,rfl,rfl,rfl,rfl⟩ ?_ ?_
      ·exact hI2
      ·exact hM2
 ·have d1:E.lti j n=false:=by rw [elt];exact dF hlt
  rw [zl3 (by omega),zr2] at heq
  have hv:=hnone heq;subst hv;clear hnone hsome hget hrep elt eple eget eadd eext heq hRV hRL hzq hq hn hsz hM3 hwb hst heo hen hrs hm;cbv
  repeat (first|(simp only [z1];cbv)|simp only [z1]|(simp only [d1];cbv)|simp only [d1])
end Go.Proofs.YtcfecmeocimclaaGreatDoor
