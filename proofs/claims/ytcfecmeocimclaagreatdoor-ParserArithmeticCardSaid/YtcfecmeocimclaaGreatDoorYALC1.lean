/- Own work: lexer.next (printed by gen_lc1.py). -/
import Derived.Test.YtcfecmeocimclaaGreatDoorYAA0
import Derived.Test.YtcfecmeocimclaaGreatDoorYALB9
import Derived.Test.YtcfecmeocimclaaGreatDoorYALA4
import Derived.Test.YtcfecmeocimclaaGreatDoorYAGN
namespace Go.Proofs.YtcfecmeocimclaaGreatDoor
set_option linter.unusedSimpArgs false
set_option maxRecDepth 100000
open Go.RowKit
def pTk (k:Int) (t:Bs) (a:Int):PV:=.agg [pI k,pS (bL t),pI a]
def zm8 (s:ByteArray) (a:Int):PV:=match zeu uB zah (rst s a) with
 | .bad e=>.tup [.agg [pI 0,pS ⟨#[]⟩,pI 0],pI a,pI e]
 | .ok k t r=>.tup [pTk k t a,pI ((s.size:Nat) - (r.length:Nat)),pI 0]
theorem zji {s:ByteArray} {a e:Int} (h:zeu uB zah (rst s a)=.bad e):zm8 s a=.tup [.agg [pI 0,pS ⟨#[]⟩,pI 0],pI a,pI e]:=by unfold zm8;rw [h]
theorem zjh {s:ByteArray} {a k:Int} {t r:Bs} (h:zeu uB zah (rst s a)=.ok k t r):zm8 s a=.tup [pTk k t a,pI ((s.size:Nat) - (r.length:Nat)),pI 0]:=by unfold zm8;rw [h]
abbrev bx0:ABlk:=.box [.p (pI 0),.p (pS ⟨#[]⟩),.p (pI 0)] 74 none
abbrev bxT (k:Int) (t:ByteArray) (a:Int):ABlk:=.box [.p (pI k),.p (pS t),.p (pI a)] 74 none
structure WdI (s:ByteArray) (n a:Int) (j:Int):Prop where
 j0:a<=j
 j1:j<=n
 u:∃ u:Bs,rst s a=u++rst s j/\(u.length:Int)=j - a/\∀ c ∈ u,wrd c=true
set_option maxHeartbeats 4000000 in
theorem zxi (s:ByteArray) (a:Int) (q:UInt8) (h0:0<=a) (hq:s.data.toList[a.toNat]?=some q) (hl:ltr q=true) (hs:s.size<=900000):RL 87 [pS s,pI a] (zm8 s a):=by
 obtain ⟨n,hn⟩:∃ n:Int,((s.size:Nat):Int)=n:=⟨_,rfl⟩
 have h1:a < n:=by
  have:=(List.getElem?_eq_some_iff.1 hq).1
  have e:s.data.toList.length=s.size:=rfl;omega
 obtain ⟨zq,hzq⟩:∃ z:Int,((q.toNat:Nat):Int)=z:=⟨_,rfl⟩
 have hau:rst s a=q :: rst s (a + 1):=zei h0 hq;have hl1:=zu6 q zq true hzq hl;have hrl:=zdo s a;obtain ⟨W,hW⟩:∃ x,(rst s a).takeWhile wrd=x:=⟨_,rfl⟩
 obtain ⟨D,hD⟩:∃ x,(rst s a).dropWhile wrd=x:=⟨_,rfl⟩
 have hWD:rst s a=W++D:=by rw [<-hW,<- hD];exact (zgy (p:=wrd) (rst s a)).2.2.symm
 have hlen:(rst s a).length=W.length + D.length:=by rw [hWD,lLA]
 obtain ⟨e1,he1⟩:∃ x:Int,n - (D.length:Nat)=x:=⟨_,rfl⟩
 have hres:zm8 s a=.tup [pTk (if z3a W then 2 else 1) W a,pI e1,pI 0]:=by
  rw [<-he1,<- hn];refine zjh ?_;rw [hau] at hW hD ⊢;rw [zeu,if_pos hl,hW,hD]
 rw [hres];unfold pTk;have hkw:=upL (z1f (bL W));have hbw:(bL W).data.toList=W:=by unfold bL;simp
 rw [hbw] at hkw;have hTx:s.extract a.toNat e1.toNat=bL W:=by
  refine zij ?_;rw [hbw,zfr,hWD,show e1.toNat - a.toNat=W.length by omega,List.take_left]
 obtain ⟨T,hT⟩:∃ x,bL W=x:=⟨_,rfl⟩
 rw [hT] at hTx hkw;rw [hT];obtain ⟨kb,hkb⟩:∃ x,z3a W=x:=⟨_,rfl⟩
 rw [hkb] at hkw ⊢;have hdig:=fun (c:UInt8) (z:Int) (b:Bool) (hz:((c.toNat:Nat):Int)=z) (hb:dgt c=b)=>zys c z b hz hb
 have hlet:=fun (c:UInt8) (z:Int) (b:Bool) (hz:((c.toNat:Nat):Int)=z) (hb:ltr c=b)=>zu6 c z b hz hb
 have hae:a<=e1:=by omega
 have hen:e1<=n:=by omega
 have hfin:∀ j,WdI s n a j->(∀ c,(rst s j).head?=some c->wrd c=false)->j=e1:=fun j hj h=>by
  obtain ⟨j0,j1,u,hu1,hu2,hu3⟩:=hj;have h5:=zha (p:=wrd) u (rst s j) hu3 h;rw [<-hu1,hD] at h5;have h6:=zdo s j;rw [<-h5.2] at h6;omega
 have hget:∀ i:Int,0<=i->i < n->∃ c,s.data.toList[i.toNat]?=some c:=fun i hi0 hi1=>⟨_,List.getElem?_eq_getElem (by show i.toNat < s.size;omega)⟩
 obtain ⟨μ,hμ⟩:∃ μ:Int->Nat,∀ x,μ x=2000000000 - x.toNat:=⟨_,fun _=>rfl⟩
 have hI0:WdI s n a a:=⟨Int.le_refl _,by omega,[],rfl,by show (0:Int)=a - a;omega,fun c hc=>(by cases hc)⟩
 clear hres hkb hbw hW hD hT hWD hlen hau hl;refine zew zaa zbu (f:=87) Tryz.func87 rfl (by kernel_rfl) (oT (by kernel_rfl)) ?_
 refine Seg.cutK 3 114 [0,1,4,7,8] 2 (fun _:Unit=>[.p (pS s),.p (pI a),.own 0 0,.own 1 0,.p (.v (.int .u8 zq))]) (fun _=>[some bx0,some (bxT 0 ⟨#[]⟩ a)]) (fun _=>True) zaa mixed (fun _=>0) (fun E=>zfm E tyT Tryz.f87.results.toList (.tup [.agg [pI (if kb=true then 2 else 1),pS T,pI a],pI e1,pI 0])) (by kernel_rfl) ?_ ?_
 ·intro P G E hc hM hE;have g0:E.get s (E.nat a)=some zq:=by
   rw [hE];show (s.data.toList[a.toNat]?).map _=some zq;rw [hq,<- hzq];rfl
  have p0:E.ple 0 a:=by rw [hE];exact h0
  clear hE hc hM hI0;cbv
  repeat (first|(refine ⟨p0,_,g0,?_⟩;cbv))
  exact .mk () ⟨rfl,rfl,rfl,rfl,rfl⟩ trivial
 intro _ _;refine Seg.never ?_;refine Seg.block ?_;refine Seg.cut 114 [0,1,4,7,8,19] 2 (fun _:Unit=>[.p (pS s),.p (pI a),.own 0 0,.own 1 0,.p (.v (.int .u8 zq)),.p (pB true)]) (fun _=>[some bx0,some (bxT 0 ⟨#[]⟩ a)]) (fun _=>True) ?_ ?_
 ·refine Seg.of0 zaa mixed (fun _=>0) (by kernel_rfl) fun P G E hc hM hE=>?_
  replace hl1:=hc _ _ _ hl1;clear hE hc hM hI0;cbv
  repeat (first|(refine ⟨_,hl1,?_⟩;cbv))
  exact .mk () ⟨rfl,rfl,rfl,rfl,rfl⟩ trivial
 intro _ _;refine Seg.condT rfl ?_;refine Seg.cutK 2 114 [0,1,4,7,9] 2 (fun _:Unit=>[.p (pS s),.p (pI a),.own 0 0,.own 1 0,.p (pI e1)]) (fun _=>[some bx0,some (bxT 0 ⟨#[]⟩ a)]) (fun _=>True) zaa mixed (fun _=>0) (fun E=>zet 0 (zce (fun _ _=>False) (zfm E tyT Tryz.f87.results.toList (.tup [.agg [pI (if kb=true then 2 else 1),pS T,pI a],pI e1,pI 0])))) (by kernel_rfl) ?_ ?_
 ·intro P G E hc hM hE;replace hdig:=fun (c:UInt8) (z:Int) (b:Bool) (hz:((c.toNat:Nat):Int)=z) (hb:dgt c=b)=>hc _ _ _ (hdig c z b hz hb)
  replace hlet:=fun (c:UInt8) (z:Int) (b:Bool) (hz:((c.toNat:Nat):Int)=z) (hb:ltr c=b)=>hc _ _ _ (hlet c z b hz hb)
  have z1:E.size s=n:=by rw [hE];exact hn
  have elt:=zw5 hE;have eple:=zp7 hE;have eget:∀ (i:Int) (c:UInt8) (z:Int),s.data.toList[i.toNat]?=some c->((c.toNat:Nat):Int)=z->E.get s (E.nat i)=some z:=fun i c z h hz=>by
   rw [hE];show (s.data.toList[i.toNat]?).map _=some z;rw [h,<- hz];rfl
  have eadd:=z6z hE;clear hE hc hM hkw hl1 hTx;cbv;refine zbs 114 [0,1,4,7,9] 2 (fun x:Int=>[.p (pS s),.p (pI a),.own 0 0,.own 1 0,.p (pI x)]) (fun _=>[some bx0,some (bxT 0 ⟨#[]⟩ a)]) (WdI s n a) μ a ⟨rfl,rfl,rfl,rfl,rfl⟩ hI0 ?_
  clear hI0;intro j hj;replace hn:((s.size:Nat):Int)=n:=hn;have hfj:=hfin j hj;obtain ⟨j0,j1,u,hu1,hu2,hu3⟩:=hj;replace hu2:((u.length:Nat):Int)=j - a:=hu2
  rcases cEm (j < n) with hlt|hlt
  ·have d1:E.lti j n=true:=by rw [elt];exact dT hlt
   obtain ⟨c,hci⟩:=hget j (by omega) hlt
   obtain ⟨z,hz⟩:∃ z:Int,((c.toNat:Nat):Int)=z:=⟨_,rfl⟩
   have g1:=eget j c z hci hz;have p1:=eple 0 j (by omega)
   have hc0:=zei (by omega) hci
   cases hwc:wrd c with
   | true =>
    obtain ⟨j2,hj2⟩:∃ x:Int,j + 1=x:=⟨_,rfl⟩
    have ej:=eadd j 1 (by omega) (by omega) (by omega) (by omega)
    rw [hj2] at ej;have hI2:WdI s n a j2:=by
     refine ⟨by omega,by omega,u++[c],?_,?_,?_⟩
     ·rw [hu1,hc0,<- hj2];simp
     ·show (((u++[c]).length:Nat):Int)=j2 - a;rw [lLA,lLS];omega
     ·intro x hx
      rcases List.mem_append.1 hx with hx|hx
      ·exact hu3 x hx
      ·rw [List.mem_singleton.1 hx];exact hwc
    have hM2:μ j2 < μ j:=by rw [hμ,hμ];omega
    cases hlc:ltr c with
    | true =>
     have hk:=hlet c z true hz hlc;clear hget hdig hlet elt eple eget eadd hn hq hzq hu1 hu2 hu3 hs hci hz hc0 hj2 hfin hfj hwc hlc hμ he1 hrl;cbv
     repeat (first|(simp only [z1];cbv)|simp only [z1]|(simp only [d1];cbv)|simp only [d1]|(refine ⟨p1,_,g1,?_⟩;cbv)|(refine ⟨_,hk,?_⟩;cbv)|(simp only [ej];cbv)|simp only [ej])
     refine .mk j2 ⟨rfl,rfl,rfl,rfl,rfl⟩ ?_ ?_
     ·exact hI2
     ·exact hM2
    | false =>
     have hk:=hlet c z false hz hlc;have hdc:dgt c=true:=by unfold wrd at hwc;rw [hlc,Bool.false_or] at hwc;exact hwc
     have hk2:=hdig c z true hz hdc;clear hget hdig hlet elt eple eget eadd hn hq hzq hu1 hu2 hu3 hs hci hz hc0 hj2 hfin hfj hwc hlc hμ he1 hrl hdc;cbv
     repeat (first|(simp only [z1];cbv)|simp only [z1]|(simp only [d1];cbv)|simp only [d1]|(refine ⟨p1,_,g1,?_⟩;cbv)|(refine ⟨_,hk,?_⟩;cbv)|(refine ⟨_,hk2,?_⟩;cbv)|(simp only [ej];cbv)|simp only [ej])
     refine .mk j2 ⟨rfl,rfl,rfl,rfl,rfl⟩ ?_ ?_
     ·exact hI2
     ·exact hM2
   | false =>
    have hje:=hfj (fun x hx=>by rw [hc0] at hx;cases hx;exact hwc)
    have hwc2:=hwc;unfold wrd at hwc2;simp only [Bool.or_eq_false_iff] at hwc2;have hk:=hlet c z false hz hwc2.1;have hk2:=hdig c z false hz hwc2.2;subst hje;clear hget hdig hlet elt eple eget eadd hn hq hzq hu1 hu2 hu3 hs hci hz hc0 hfin hfj hwc hwc2 hμ he1 hrl;cbv
    repeat (first|(simp only [z1];cbv)|simp only [z1]|(simp only [d1];cbv)|simp only [d1]|(refine ⟨p1,_,g1,?_⟩;cbv)|(refine ⟨_,hk,?_⟩;cbv)|(refine ⟨_,hk2,?_⟩;cbv))
    exact .mk () ⟨rfl,rfl,rfl,rfl,rfl⟩ trivial
  ·have d1:E.lti j n=false:=by rw [elt];exact dF hlt
   have hnil:rst s j=[]:=zl3 (by omega)
   have hje:=hfj (fun x hx=>by rw [hnil] at hx;cases hx)
   subst hje;clear hget hdig hlet elt eple eget eadd hn hq hzq hu1 hu2 hu3 hs hfin hfj hμ he1 hrl hnil;cbv
   repeat (first|(simp only [z1];cbv)|simp only [z1]|(simp only [d1];cbv)|simp only [d1])
   exact .mk () ⟨rfl,rfl,rfl,rfl,rfl⟩ trivial
 intro _ _;refine Seg.cut 114 [0,1,4,7,9] 2 (fun _:Unit=>[.p (pS s),.p (pI a),.own 0 0,.own 1 0,.p (pI e1)]) (fun _=>[some bx0,some (bxT 1 T a)]) (fun _=>True) ?_ ?_
 ·refine Seg.regM zaa mixed 8 [5,7] (fun i=>match i with|5=>1|7=>2|_=>0) (by kernel_rfl) (fun _=>zce (CutIs 114 [0,1,4,7,9] 2 (fun _:Unit=>[.p (pS s),.p (pI a),.own 0 0,.own 1 0,.p (pI e1)]) (fun _=>[some bx0,some (bxT 1 T a)]) (fun _=>True)) (zet 0 (zce (fun _ _=>False) (zfm zas tyT Tryz.f87.results.toList (.tup [.agg [pI (if kb=true then 2 else 1),pS T,pI a],pI e1,pI 0]))))) fun P G E hc hM hE=>?_
  have z1:E.size s=n:=by rw [hE];exact hn
  have p1:E.ple 0 a:=by rw [hE];exact h0
  have p2:E.ple a e1:=by rw [hE];exact hae
  have p3:E.ple e1 n:=by rw [hE];exact hen
  have x1:E.ext s (E.nat a) (E.nat e1)=T:=by rw [hE];exact hTx
  clear hE hc hM hkw hl1 hTx hdig hlet hfin hget hI0 hn hq hzq;cbv
  repeat (first|(simp only [z1];cbv)|simp only [z1]|(refine ⟨p1,p2,p3,?_⟩;cbv)|(simp only [x1];cbv)|simp only [x1])
  refine ⟨(.mk (by repeat' (first|exact trivial|refine ⟨rfl,?_⟩))),p1,p2,p3,(.mk (by repeat' (first|exact trivial|refine ⟨rfl,?_⟩))),p1,p2,p3,(.mk (by repeat' (first|exact trivial|refine ⟨rfl,?_⟩))),?_⟩
  exact .mk () ⟨rfl,rfl,rfl,rfl,rfl⟩ trivial
 intro _ _;refine Seg.of zaa mixed (fun _=>0) (by kernel_rfl) (fun E=>zet 0 (zce (fun _ _=>False) (zfm E tyT Tryz.f87.results.toList (.tup [.agg [pI (if kb=true then 2 else 1),pS T,pI a],pI e1,pI 0])))) fun P G E hc hM hE=>?_
 replace hkw:=hc _ _ _ hkw;clear hE hc hM hl1 hTx hdig hlet hfin hget hI0 hn hq hzq
 cases kb
 all_goals
  cbv
  repeat (first|(refine ⟨_,hkw,?_⟩;cbv))
theorem z4l {l t r:Bs} {k:Int} (h:zj1 l=.ok k t r):k=3/\l=t++r:=by
 unfold zj1 at h
 split at h
 ·cases h
 ·split at h
  ·cases h
  ·split at h
   ·cases h
   ·cases h
    exact ⟨rfl,(zgy (p:=dgt) l).2.2.symm⟩
theorem ztj {l:Bs} {e:Int} (h:zj1 l=.bad e):e ≠ 0:=by
 unfold zj1 at h
 split at h
 ·cases h;decide
 ·split at h
  ·cases h;decide
  ·split at h
   ·cases h;decide
   ·cases h
set_option maxHeartbeats 4000000 in
theorem z0u (s:ByteArray) (a:Int) (q:UInt8) (h0:0<=a) (hq:s.data.toList[a.toNat]?=some q) (hl:ltr q=false) (hd:dgt q=true) (hs:s.size<=900000):RL 87 [pS s,pI a] (zm8 s a):=by
 obtain ⟨n,hn⟩:∃ n:Int,((s.size:Nat):Int)=n:=⟨_,rfl⟩
 have h1:a < n:=by
  have:=(List.getElem?_eq_some_iff.1 hq).1
  have e:s.data.toList.length=s.size:=rfl;omega
 obtain ⟨zq,hzq⟩:∃ z:Int,((q.toNat:Nat):Int)=z:=⟨_,rfl⟩
 have hau:rst s a=q :: rst s (a + 1):=zei h0 hq;have hl1:=zu6 q zq false hzq hl;have hd1:=zys q zq true hzq hd;have hnu:=zuv s a q h0 hq hd (by omega)
 have hrl:=zdo s a;have htok:zeu uB zah (rst s a)=zj1 (rst s a):=by
  rw [hau,zeu,if_neg (by rw [hl];decide),if_pos hd]
 unfold z7b at hnu
 cases hnum:zj1 (rst s a) with
 | bad e =>
  rw [hnum] at htok hnu;simp only at hnu;rw [zji htok];have he:=ztj hnum;have f1:decide (e=0)=false:=dF he;clear htok hnum hau;refine zew zaa zbu (f:=87) Tryz.func87 rfl (by kernel_rfl) (oT (by kernel_rfl)) ?_
  refine Seg.cutK 3 114 [0,1,4,7,8] 2 (fun _:Unit=>[.p (pS s),.p (pI a),.own 0 0,.own 1 0,.p (.v (.int .u8 zq))]) (fun _=>[some bx0,some (bxT 0 ⟨#[]⟩ a)]) (fun _=>True) zaa mixed (fun _=>0) (fun E=>zfm E tyT Tryz.f87.results.toList (.tup [.agg [pI 0,pS ⟨#[]⟩,pI 0],pI a,pI e])) (by kernel_rfl) ?_ ?_
  ·intro P G E hc hM hE;have g0:E.get s (E.nat a)=some zq:=by
    rw [hE];show (s.data.toList[a.toNat]?).map _=some zq;rw [hq,<- hzq];rfl
   have p0:E.ple 0 a:=by rw [hE];exact h0
   clear hE hc hM h1;cbv
   repeat (first|(refine ⟨p0,_,g0,?_⟩;cbv))
   exact .mk () ⟨rfl,rfl,rfl,rfl,rfl⟩ trivial
  intro _ _;refine Seg.never ?_;refine Seg.block ?_;refine Seg.cut 114 [0,1,4,7,8,19] 2 (fun _:Unit=>[.p (pS s),.p (pI a),.own 0 0,.own 1 0,.p (.v (.int .u8 zq)),.p (pB false)]) (fun _=>[some bx0,some (bxT 0 ⟨#[]⟩ a)]) (fun _=>True) ?_ ?_
  ·refine Seg.of0 zaa mixed (fun _=>0) (by kernel_rfl) fun P G E hc hM hE=>?_
   replace hl1:=hc _ _ _ hl1;clear hE hc hM h1;cbv
   repeat (first|(refine ⟨_,hl1,?_⟩;cbv))
   exact .mk () ⟨rfl,rfl,rfl,rfl,rfl⟩ trivial
  intro _ _;refine Seg.condF rfl ?_;refine Seg.cut 114 [0,1,4,7,8,53] 2 (fun _:Unit=>[.p (pS s),.p (pI a),.own 0 0,.own 1 0,.p (.v (.int .u8 zq)),.p (pB true)]) (fun _=>[some bx0,some (bxT 0 ⟨#[]⟩ a)]) (fun _=>True) ?_ ?_
  ·refine Seg.of0 zaa mixed (fun _=>0) (by kernel_rfl) fun P G E hc hM hE=>?_
   replace hd1:=hc _ _ _ hd1;clear hE hc hM h1;cbv
   repeat (first|(refine ⟨_,hd1,?_⟩;cbv))
   exact .mk () ⟨rfl,rfl,rfl,rfl,rfl⟩ trivial
  intro _ _;refine Seg.condT rfl ?_;refine Seg.cutK 2 114 [] 0 (fun _:Unit=>[]) (fun _=>[]) (fun _=>False) zaa mixed (fun _=>0) (fun E=>zet 0 (zce (fun _ _=>False) (zfm E tyT Tryz.f87.results.toList (.tup [.agg [pI 0,pS ⟨#[]⟩,pI 0],pI a,pI e])))) (by kernel_rfl) ?_ (fun _ h=>h.elim)
  intro P G E hc hM hE;replace hnu:=hc _ _ _ hnu;clear hE hc hM;cbv
  repeat (first|(refine ⟨_,hnu,?_⟩;cbv)|(simp only [f1];cbv)|simp only [f1])
 | ok k t r =>
  rw [hnum] at htok hnu;simp only at hnu;obtain ⟨rfl,htr⟩:=z4l hnum;have hlen:(rst s a).length=t.length + r.length:=by rw [htr,lLA]
  obtain ⟨e1,he1⟩:∃ x:Int,n - (r.length:Nat)=x:=⟨_,rfl⟩
  rw [zjh htok];unfold pTk;rw [hn,he1] at hnu ⊢;have hbw:(bL t).data.toList=t:=by unfold bL;simp
  have hTx:s.extract a.toNat e1.toNat=bL t:=by
   refine zij ?_;rw [hbw,zfr,htr,show e1.toNat - a.toNat=t.length by omega,List.take_left]
  obtain ⟨T,hT⟩:∃ x,bL t=x:=⟨_,rfl⟩
  rw [hT] at hTx;rw [hT];have hae:a<=e1:=by omega
  have hen:e1<=n:=by omega
  clear htok hnum hau hbw htr hT hlen he1;refine zew zaa zbu (f:=87) Tryz.func87 rfl (by kernel_rfl) (oT (by kernel_rfl)) ?_
  refine Seg.cutK 3 114 [0,1,4,7,8] 2 (fun _:Unit=>[.p (pS s),.p (pI a),.own 0 0,.own 1 0,.p (.v (.int .u8 zq))]) (fun _=>[some bx0,some (bxT 0 ⟨#[]⟩ a)]) (fun _=>True) zaa mixed (fun _=>0) (fun E=>zfm E tyT Tryz.f87.results.toList (.tup [.agg [pI 3,pS T,pI a],pI e1,pI 0])) (by kernel_rfl) ?_ ?_
  ·intro P G E hc hM hE;have g0:E.get s (E.nat a)=some zq:=by
    rw [hE];show (s.data.toList[a.toNat]?).map _=some zq;rw [hq,<- hzq];rfl
   have p0:E.ple 0 a:=by rw [hE];exact h0
   clear hE hc hM h1;cbv
   repeat (first|(refine ⟨p0,_,g0,?_⟩;cbv))
   exact .mk () ⟨rfl,rfl,rfl,rfl,rfl⟩ trivial
  intro _ _;refine Seg.never ?_;refine Seg.block ?_;refine Seg.cut 114 [0,1,4,7,8,19] 2 (fun _:Unit=>[.p (pS s),.p (pI a),.own 0 0,.own 1 0,.p (.v (.int .u8 zq)),.p (pB false)]) (fun _=>[some bx0,some (bxT 0 ⟨#[]⟩ a)]) (fun _=>True) ?_ ?_
  ·refine Seg.of0 zaa mixed (fun _=>0) (by kernel_rfl) fun P G E hc hM hE=>?_
   replace hl1:=hc _ _ _ hl1;clear hE hc hM h1;cbv
   repeat (first|(refine ⟨_,hl1,?_⟩;cbv))
   exact .mk () ⟨rfl,rfl,rfl,rfl,rfl⟩ trivial
  intro _ _;refine Seg.condF rfl ?_;refine Seg.cut 114 [0,1,4,7,8,53] 2 (fun _:Unit=>[.p (pS s),.p (pI a),.own 0 0,.own 1 0,.p (.v (.int .u8 zq)),.p (pB true)]) (fun _=>[some bx0,some (bxT 0 ⟨#[]⟩ a)]) (fun _=>True) ?_ ?_
  ·refine Seg.of0 zaa mixed (fun _=>0) (by kernel_rfl) fun P G E hc hM hE=>?_
   replace hd1:=hc _ _ _ hd1;clear hE hc hM h1;cbv
   repeat (first|(refine ⟨_,hd1,?_⟩;cbv))
   exact .mk () ⟨rfl,rfl,rfl,rfl,rfl⟩ trivial
  intro _ _;refine Seg.condT rfl ?_;refine Seg.cutK 2 114 [0,1,4,7,10] 2 (fun _:Unit=>[.p (pS s),.p (pI a),.own 0 0,.own 1 0,.p (pI e1)]) (fun _=>[some bx0,some (bxT 0 ⟨#[]⟩ a)]) (fun _=>True) zaa mixed (fun _=>0) (fun E=>zet 0 (zce (fun _ _=>False) (zfm E tyT Tryz.f87.results.toList (.tup [.agg [pI 3,pS T,pI a],pI e1,pI 0])))) (by kernel_rfl) ?_ ?_
  ·intro P G E hc hM hE;replace hnu:=hc _ _ _ hnu;clear hE hc hM;cbv
   repeat (first|(refine ⟨_,hnu,?_⟩;cbv))
   exact .mk () ⟨rfl,rfl,rfl,rfl,rfl⟩ trivial
  intro _ _;refine Seg.cut 114 [0,1,4,7,10] 2 (fun _:Unit=>[.p (pS s),.p (pI a),.own 0 0,.own 1 0,.p (pI e1)]) (fun _=>[some bx0,some (bxT 3 T a)]) (fun _=>True) ?_ ?_
  ·refine Seg.regM zaa mixed 8 [5,7] (fun i=>match i with|5=>1|7=>2|_=>0) (by kernel_rfl) (fun _=>zce (CutIs 114 [0,1,4,7,10] 2 (fun _:Unit=>[.p (pS s),.p (pI a),.own 0 0,.own 1 0,.p (pI e1)]) (fun _=>[some bx0,some (bxT 3 T a)]) (fun _=>True)) (zet 0 (zce (fun _ _=>False) (zfm zas tyT Tryz.f87.results.toList (.tup [.agg [pI 3,pS T,pI a],pI e1,pI 0]))))) fun P G E hc hM hE=>?_
   have z1:E.size s=n:=by rw [hE];exact hn
   have p1:E.ple 0 a:=by rw [hE];exact h0
   have p2:E.ple a e1:=by rw [hE];exact hae
   have p3:E.ple e1 n:=by rw [hE];exact hen
   have x1:E.ext s (E.nat a) (E.nat e1)=T:=by rw [hE];exact hTx
   clear hE hc hM hl1 hTx hd1 hnu hn hq hzq;cbv
   repeat (first|(simp only [z1];cbv)|simp only [z1]|(refine ⟨p1,p2,p3,?_⟩;cbv)|(simp only [x1];cbv)|simp only [x1])
   refine ⟨(.mk (by repeat' (first|exact trivial|refine ⟨rfl,?_⟩))),p1,p2,p3,(.mk (by repeat' (first|exact trivial|refine ⟨rfl,?_⟩))),p1,p2,p3,(.mk (by repeat' (first|exact trivial|refine ⟨rfl,?_⟩))),?_⟩
   exact .mk () ⟨rfl,rfl,rfl,rfl,rfl⟩ trivial
  intro _ _;refine Seg.of zaa mixed (fun _=>0) (by kernel_rfl) (fun E=>zet 0 (zce (fun _ _=>False) (zfm E tyT Tryz.f87.results.toList (.tup [.agg [pI 3,pS T,pI a],pI e1,pI 0])))) fun P G E hc hM hE=>?_
  clear hE hc hM hl1 hTx hd1 hnu hn hq hzq;cbv;all_goals trivial
theorem qt_ne {q:UInt8} (h:q=34\/q=39):ltr q=false/\dgt q=false:=by
 rcases h with rfl|rfl <;> decide
set_option maxHeartbeats 4000000 in
theorem z0s (s:ByteArray) (a:Int) (q:UInt8) (h0:0<=a) (hq:s.data.toList[a.toNat]?=some q) (hqt:q=34\/q=39) (hs:s.size<=900000):RL 87 [pS s,pI a] (zm8 s a):=by
 obtain ⟨n,hn⟩:∃ n:Int,((s.size:Nat):Int)=n:=⟨_,rfl⟩
 have h1:a < n:=by
  have:=(List.getElem?_eq_some_iff.1 hq).1
  have e:s.data.toList.length=s.size:=rfl;omega
 obtain ⟨zq,hzq⟩:∃ z:Int,((q.toNat:Nat):Int)=z:=⟨_,rfl⟩
 have hau:rst s a=q :: rst s (a + 1):=zei h0 hq;obtain ⟨hl,hd⟩:=qt_ne hqt;have hl1:=zu6 q zq false hzq hl;have hd1:=zys q zq false hzq hd;have hli:=zr1 s a q h0 hq hs;have hrl:=zdo s (a + 1);have htok:zeu uB zah (rst s a)=match lit uB q (rst s (a + 1)) with
  | none=>.bad 4
  | some z=>.ok 4 (zah z.1) z.2:=by
  rw [hau,zeu,if_neg (by rw [hl];decide),if_neg (by rw [hd];decide),if_pos hqt]
  cases lit uB q (rst s (a + 1)) <;> rfl
 unfold zxs at hli;have hf:(decide (zq=34)=true/\True)\/(decide (zq=34)=false/\decide (zq=39)=true):=by
  rcases hqt with rfl|rfl
  ·exact .inl ⟨dT (by rw [<-hzq];rfl),trivial⟩
  ·exact .inr ⟨dF (by rw [<-hzq];decide),dT (by rw [<-hzq];rfl)⟩
 cases hlit:lit uB q (rst s (a + 1)) with
 | none =>
  rw [hlit] at htok hli;simp only at hli htok;rw [zji htok];have f3:decide ((0:Int)=0)=true:=rfl;clear htok hlit hau hqt hl hd
  rcases hf with ⟨f1,f2⟩|⟨f1,f2⟩
  ·skip
   refine zew zaa zbu (f:=87) Tryz.func87 rfl (by kernel_rfl) (oT (by kernel_rfl)) ?_
   refine Seg.cutK 3 114 [0,1,4,7,8] 2 (fun _:Unit=>[.p (pS s),.p (pI a),.own 0 0,.own 1 0,.p (.v (.int .u8 zq))]) (fun _=>[some bx0,some (bxT 0 ⟨#[]⟩ a)]) (fun _=>True) zaa mixed (fun _=>0) (fun E=>zfm E tyT Tryz.f87.results.toList (.tup [.agg [pI 0,pS ⟨#[]⟩,pI 0],pI a,pI 4])) (by kernel_rfl) ?_ ?_
   ·intro P G E hc hM hE;have g0:E.get s (E.nat a)=some zq:=by
     rw [hE];show (s.data.toList[a.toNat]?).map _=some zq;rw [hq,<- hzq];rfl
    have p0:E.ple 0 a:=by rw [hE];exact h0
    clear hE hc hM h1;cbv
    repeat (first|(refine ⟨p0,_,g0,?_⟩;cbv))
    exact .mk () ⟨rfl,rfl,rfl,rfl,rfl⟩ trivial
   intro _ _;refine Seg.never ?_;refine Seg.block ?_;refine Seg.cut 114 [0,1,4,7,8,19] 2 (fun _:Unit=>[.p (pS s),.p (pI a),.own 0 0,.own 1 0,.p (.v (.int .u8 zq)),.p (pB false)]) (fun _=>[some bx0,some (bxT 0 ⟨#[]⟩ a)]) (fun _=>True) ?_ ?_
   ·refine Seg.of0 zaa mixed (fun _=>0) (by kernel_rfl) fun P G E hc hM hE=>?_
    replace hl1:=hc _ _ _ hl1;clear hE hc hM h1;cbv
    repeat (first|(refine ⟨_,hl1,?_⟩;cbv))
    exact .mk () ⟨rfl,rfl,rfl,rfl,rfl⟩ trivial
   intro _ _;refine Seg.condF rfl ?_;refine Seg.cut 114 [0,1,4,7,8,53] 2 (fun _:Unit=>[.p (pS s),.p (pI a),.own 0 0,.own 1 0,.p (.v (.int .u8 zq)),.p (pB false)]) (fun _=>[some bx0,some (bxT 0 ⟨#[]⟩ a)]) (fun _=>True) ?_ ?_
   ·refine Seg.of0 zaa mixed (fun _=>0) (by kernel_rfl) fun P G E hc hM hE=>?_
    replace hd1:=hc _ _ _ hd1;clear hE hc hM h1;cbv
    repeat (first|(refine ⟨_,hd1,?_⟩;cbv))
    exact .mk () ⟨rfl,rfl,rfl,rfl,rfl⟩ trivial
   intro _ _;refine Seg.condF rfl ?_;refine Seg.cut 114 [0,1,4,7,8,75] 2 (fun _:Unit=>[.p (pS s),.p (pI a),.own 0 0,.own 1 0,.p (.v (.int .u8 zq)),.p (pB true)]) (fun _=>[some bx0,some (bxT 0 ⟨#[]⟩ a)]) (fun _=>True) ?_ ?_
   ·refine Seg.of0 zaa mixed (fun _=>0) (by kernel_rfl) fun P G E hc hM hE=>?_
    clear hE hc hM h1;cbv
    repeat (first|(simp only [f1];cbv)|simp only [f1]|(simp only [f2];cbv)|simp only [f2])
    exact .mk () ⟨rfl,rfl,rfl,rfl,rfl⟩ trivial
   intro _ _;refine Seg.condT rfl ?_;refine Seg.of zaa mixed (fun _=>0) (by kernel_rfl) (fun E=>zet 0 (zce (fun _ _=>False) (zfm E tyT Tryz.f87.results.toList (.tup [.agg [pI 0,pS ⟨#[]⟩,pI 0],pI a,pI 4])))) fun P G E hc hM hE=>?_
   replace hli:=hc _ _ _ hli;clear hE hc hM hl1 hd1 hn hq hzq;cbv
   repeat (first|(refine ⟨_,hli,?_⟩;cbv)|(simp only [f3];cbv)|simp only [f3])
  ·skip
   refine zew zaa zbu (f:=87) Tryz.func87 rfl (by kernel_rfl) (oT (by kernel_rfl)) ?_
   refine Seg.cutK 3 114 [0,1,4,7,8] 2 (fun _:Unit=>[.p (pS s),.p (pI a),.own 0 0,.own 1 0,.p (.v (.int .u8 zq))]) (fun _=>[some bx0,some (bxT 0 ⟨#[]⟩ a)]) (fun _=>True) zaa mixed (fun _=>0) (fun E=>zfm E tyT Tryz.f87.results.toList (.tup [.agg [pI 0,pS ⟨#[]⟩,pI 0],pI a,pI 4])) (by kernel_rfl) ?_ ?_
   ·intro P G E hc hM hE;have g0:E.get s (E.nat a)=some zq:=by
     rw [hE];show (s.data.toList[a.toNat]?).map _=some zq;rw [hq,<- hzq];rfl
    have p0:E.ple 0 a:=by rw [hE];exact h0
    clear hE hc hM h1;cbv
    repeat (first|(refine ⟨p0,_,g0,?_⟩;cbv))
    exact .mk () ⟨rfl,rfl,rfl,rfl,rfl⟩ trivial
   intro _ _;refine Seg.never ?_;refine Seg.block ?_;refine Seg.cut 114 [0,1,4,7,8,19] 2 (fun _:Unit=>[.p (pS s),.p (pI a),.own 0 0,.own 1 0,.p (.v (.int .u8 zq)),.p (pB false)]) (fun _=>[some bx0,some (bxT 0 ⟨#[]⟩ a)]) (fun _=>True) ?_ ?_
   ·refine Seg.of0 zaa mixed (fun _=>0) (by kernel_rfl) fun P G E hc hM hE=>?_
    replace hl1:=hc _ _ _ hl1;clear hE hc hM h1;cbv
    repeat (first|(refine ⟨_,hl1,?_⟩;cbv))
    exact .mk () ⟨rfl,rfl,rfl,rfl,rfl⟩ trivial
   intro _ _;refine Seg.condF rfl ?_;refine Seg.cut 114 [0,1,4,7,8,53] 2 (fun _:Unit=>[.p (pS s),.p (pI a),.own 0 0,.own 1 0,.p (.v (.int .u8 zq)),.p (pB false)]) (fun _=>[some bx0,some (bxT 0 ⟨#[]⟩ a)]) (fun _=>True) ?_ ?_
   ·refine Seg.of0 zaa mixed (fun _=>0) (by kernel_rfl) fun P G E hc hM hE=>?_
    replace hd1:=hc _ _ _ hd1;clear hE hc hM h1;cbv
    repeat (first|(refine ⟨_,hd1,?_⟩;cbv))
    exact .mk () ⟨rfl,rfl,rfl,rfl,rfl⟩ trivial
   intro _ _;refine Seg.condF rfl ?_;refine Seg.cut 114 [0,1,4,7,8,75] 2 (fun _:Unit=>[.p (pS s),.p (pI a),.own 0 0,.own 1 0,.p (.v (.int .u8 zq)),.p (pB true)]) (fun _=>[some bx0,some (bxT 0 ⟨#[]⟩ a)]) (fun _=>True) ?_ ?_
   ·refine Seg.of0 zaa mixed (fun _=>0) (by kernel_rfl) fun P G E hc hM hE=>?_
    clear hE hc hM h1;cbv
    repeat (first|(simp only [f1];cbv)|simp only [f1]|(simp only [f2];cbv)|simp only [f2])
    exact .mk () ⟨rfl,rfl,rfl,rfl,rfl⟩ trivial
   intro _ _;refine Seg.condT rfl ?_;refine Seg.of zaa mixed (fun _=>0) (by kernel_rfl) (fun E=>zet 0 (zce (fun _ _=>False) (zfm E tyT Tryz.f87.results.toList (.tup [.agg [pI 0,pS ⟨#[]⟩,pI 0],pI a,pI 4])))) fun P G E hc hM hE=>?_
   replace hli:=hc _ _ _ hli;clear hE hc hM hl1 hd1 hn hq hzq;cbv
   repeat (first|(refine ⟨_,hli,?_⟩;cbv)|(simp only [f3];cbv)|simp only [f3])
 | some p =>
  obtain ⟨t,r⟩:=p;rw [hlit] at htok hli;simp only at hli htok;rw [zjh htok];unfold pTk;obtain ⟨u,hu1,hu2,_⟩:=zxu uB q _ _ _ hlit;have hlen:(rst s (a + 1)).length=u.length + r.length:=by rw [hu2,lLA]
  obtain ⟨e1,he1⟩:∃ x:Int,n - (r.length:Nat)=x:=⟨_,rfl⟩
  rw [hn,he1] at hli ⊢;have f3:decide (e1=0)=false:=dF (by omega)
  have hbt:(bL t).data.toList=t:=by unfold bL;simp
  have hrp:zcn (bL t)=bL (zah t):=by
   unfold zcn;rw [hbt];rfl
  rw [hrp] at hli;obtain ⟨T,hT⟩:∃ x,bL (zah t)=x:=⟨_,rfl⟩
  rw [hT] at hli;rw [hT];clear htok hlit hau hqt hl hd hu1 hu2 hlen he1 hbt hrp hT
  rcases hf with ⟨f1,f2⟩|⟨f1,f2⟩
  ·skip
   refine zew zaa zbu (f:=87) Tryz.func87 rfl (by kernel_rfl) (oT (by kernel_rfl)) ?_
   refine Seg.cutK 3 114 [0,1,4,7,8] 2 (fun _:Unit=>[.p (pS s),.p (pI a),.own 0 0,.own 1 0,.p (.v (.int .u8 zq))]) (fun _=>[some bx0,some (bxT 0 ⟨#[]⟩ a)]) (fun _=>True) zaa mixed (fun _=>0) (fun E=>zfm E tyT Tryz.f87.results.toList (.tup [.agg [pI 4,pS T,pI a],pI e1,pI 0])) (by kernel_rfl) ?_ ?_
   ·intro P G E hc hM hE;have g0:E.get s (E.nat a)=some zq:=by
     rw [hE];show (s.data.toList[a.toNat]?).map _=some zq;rw [hq,<- hzq];rfl
    have p0:E.ple 0 a:=by rw [hE];exact h0
    clear hE hc hM h1;cbv
    repeat (first|(refine ⟨p0,_,g0,?_⟩;cbv))
    exact .mk () ⟨rfl,rfl,rfl,rfl,rfl⟩ trivial
   intro _ _;refine Seg.never ?_;refine Seg.block ?_;refine Seg.cut 114 [0,1,4,7,8,19] 2 (fun _:Unit=>[.p (pS s),.p (pI a),.own 0 0,.own 1 0,.p (.v (.int .u8 zq)),.p (pB false)]) (fun _=>[some bx0,some (bxT 0 ⟨#[]⟩ a)]) (fun _=>True) ?_ ?_
   ·refine Seg.of0 zaa mixed (fun _=>0) (by kernel_rfl) fun P G E hc hM hE=>?_
    replace hl1:=hc _ _ _ hl1;clear hE hc hM h1;cbv
    repeat (first|(refine ⟨_,hl1,?_⟩;cbv))
    exact .mk () ⟨rfl,rfl,rfl,rfl,rfl⟩ trivial
   intro _ _;refine Seg.condF rfl ?_;refine Seg.cut 114 [0,1,4,7,8,53] 2 (fun _:Unit=>[.p (pS s),.p (pI a),.own 0 0,.own 1 0,.p (.v (.int .u8 zq)),.p (pB false)]) (fun _=>[some bx0,some (bxT 0 ⟨#[]⟩ a)]) (fun _=>True) ?_ ?_
   ·refine Seg.of0 zaa mixed (fun _=>0) (by kernel_rfl) fun P G E hc hM hE=>?_
    replace hd1:=hc _ _ _ hd1;clear hE hc hM h1;cbv
    repeat (first|(refine ⟨_,hd1,?_⟩;cbv))
    exact .mk () ⟨rfl,rfl,rfl,rfl,rfl⟩ trivial
   intro _ _;refine Seg.condF rfl ?_;refine Seg.cut 114 [0,1,4,7,8,75] 2 (fun _:Unit=>[.p (pS s),.p (pI a),.own 0 0,.own 1 0,.p (.v (.int .u8 zq)),.p (pB true)]) (fun _=>[some bx0,some (bxT 0 ⟨#[]⟩ a)]) (fun _=>True) ?_ ?_
   ·refine Seg.of0 zaa mixed (fun _=>0) (by kernel_rfl) fun P G E hc hM hE=>?_
    clear hE hc hM h1;cbv
    repeat (first|(simp only [f1];cbv)|simp only [f1]|(simp only [f2];cbv)|simp only [f2])
    exact .mk () ⟨rfl,rfl,rfl,rfl,rfl⟩ trivial
   intro _ _;refine Seg.condT rfl ?_;refine Seg.of zaa mixed (fun _=>0) (by kernel_rfl) (fun E=>zet 0 (zce (fun _ _=>False) (zfm E tyT Tryz.f87.results.toList (.tup [.agg [pI 4,pS T,pI a],pI e1,pI 0])))) fun P G E hc hM hE=>?_
   replace hli:=hc _ _ _ hli;clear hE hc hM hl1 hd1 hn hq hzq;cbv
   repeat (first|(refine ⟨_,hli,?_⟩;cbv)|(simp only [f3];cbv)|simp only [f3])
  ·skip
   refine zew zaa zbu (f:=87) Tryz.func87 rfl (by kernel_rfl) (oT (by kernel_rfl)) ?_
   refine Seg.cutK 3 114 [0,1,4,7,8] 2 (fun _:Unit=>[.p (pS s),.p (pI a),.own 0 0,.own 1 0,.p (.v (.int .u8 zq))]) (fun _=>[some bx0,some (bxT 0 ⟨#[]⟩ a)]) (fun _=>True) zaa mixed (fun _=>0) (fun E=>zfm E tyT Tryz.f87.results.toList (.tup [.agg [pI 4,pS T,pI a],pI e1,pI 0])) (by kernel_rfl) ?_ ?_
   ·intro P G E hc hM hE;have g0:E.get s (E.nat a)=some zq:=by
     rw [hE];show (s.data.toList[a.toNat]?).map _=some zq;rw [hq,<- hzq];rfl
    have p0:E.ple 0 a:=by rw [hE];exact h0
    clear hE hc hM h1;cbv
    repeat (first|(refine ⟨p0,_,g0,?_⟩;cbv))
    exact .mk () ⟨rfl,rfl,rfl,rfl,rfl⟩ trivial
   intro _ _;refine Seg.never ?_;refine Seg.block ?_;refine Seg.cut 114 [0,1,4,7,8,19] 2 (fun _:Unit=>[.p (pS s),.p (pI a),.own 0 0,.own 1 0,.p (.v (.int .u8 zq)),.p (pB false)]) (fun _=>[some bx0,some (bxT 0 ⟨#[]⟩ a)]) (fun _=>True) ?_ ?_
   ·refine Seg.of0 zaa mixed (fun _=>0) (by kernel_rfl) fun P G E hc hM hE=>?_
    replace hl1:=hc _ _ _ hl1;clear hE hc hM h1;cbv
    repeat (first|(refine ⟨_,hl1,?_⟩;cbv))
    exact .mk () ⟨rfl,rfl,rfl,rfl,rfl⟩ trivial
   intro _ _;refine Seg.condF rfl ?_;refine Seg.cut 114 [0,1,4,7,8,53] 2 (fun _:Unit=>[.p (pS s),.p (pI a),.own 0 0,.own 1 0,.p (.v (.int .u8 zq)),.p (pB false)]) (fun _=>[some bx0,some (bxT 0 ⟨#[]⟩ a)]) (fun _=>True) ?_ ?_
   ·refine Seg.of0 zaa mixed (fun _=>0) (by kernel_rfl) fun P G E hc hM hE=>?_
    replace hd1:=hc _ _ _ hd1;clear hE hc hM h1;cbv
    repeat (first|(refine ⟨_,hd1,?_⟩;cbv))
    exact .mk () ⟨rfl,rfl,rfl,rfl,rfl⟩ trivial
   intro _ _;refine Seg.condF rfl ?_;refine Seg.cut 114 [0,1,4,7,8,75] 2 (fun _:Unit=>[.p (pS s),.p (pI a),.own 0 0,.own 1 0,.p (.v (.int .u8 zq)),.p (pB true)]) (fun _=>[some bx0,some (bxT 0 ⟨#[]⟩ a)]) (fun _=>True) ?_ ?_
   ·refine Seg.of0 zaa mixed (fun _=>0) (by kernel_rfl) fun P G E hc hM hE=>?_
    clear hE hc hM h1;cbv
    repeat (first|(simp only [f1];cbv)|simp only [f1]|(simp only [f2];cbv)|simp only [f2])
    exact .mk () ⟨rfl,rfl,rfl,rfl,rfl⟩ trivial
   intro _ _;refine Seg.condT rfl ?_;refine Seg.of zaa mixed (fun _=>0) (by kernel_rfl) (fun E=>zet 0 (zce (fun _ _=>False) (zfm E tyT Tryz.f87.results.toList (.tup [.agg [pI 4,pS T,pI a],pI e1,pI 0])))) fun P G E hc hM hE=>?_
   replace hli:=hc _ _ _ hli;clear hE hc hM hl1 hd1 hn hq hzq;cbv
   repeat (first|(refine ⟨_,hli,?_⟩;cbv)|(simp only [f3];cbv)|simp only [f3])
set_option maxHeartbeats 4000000 in
theorem z4o (s:ByteArray) (a:Int) (q:UInt8) (h0:0<=a) (hq:s.data.toList[a.toNat]?=some q) (hl:ltr q=false) (hd:dgt q=false) (hqt:¬ (q=34\/q=39)) (hs:s.size<=900000):RL 87 [pS s,pI a] (zm8 s a):=by
 obtain ⟨n,hn⟩:∃ n:Int,((s.size:Nat):Int)=n:=⟨_,rfl⟩
 have h1:a < n:=by
  have:=(List.getElem?_eq_some_iff.1 hq).1
  have e:s.data.toList.length=s.size:=rfl;omega
 obtain ⟨zq,hzq⟩:∃ z:Int,((q.toNat:Nat):Int)=z:=⟨_,rfl⟩
 have hau:rst s a=q :: rst s (a + 1):=zei h0 hq;have hl1:=zu6 q zq false hzq hl;have hd1:=zys q zq false hzq hd;have hrl:=zdo s a;have f1:decide (zq=34)=false:=zv4 hzq 34 fun e=>hqt (.inl e)
 have f2:decide (zq=39)=false:=zv4 hzq 39 fun e=>hqt (.inr e)
 have htok:zeu uB zah (rst s a)=match opL (rst s a) with
  | none=>.bad 4
  | some w=>.ok 5 w ((rst s a).drop w.length):=by
  rw [hau,zeu,if_neg (by rw [hl];decide),if_neg (by rw [hd];decide),if_neg hqt]
  cases opL (q :: rst s (a + 1)) <;> rfl
 obtain ⟨X,hX⟩:∃ x,s.extract a.toNat n.toNat=x:=⟨_,rfl⟩
 have hXd:X.data.toList=rst s a:=by
  rw [<-hX,zfr];exact List.take_of_length_le (by omega)
 have hXs:X.size<=1000000:=by
  have e5:X.data.toList.length=X.size:=rfl;rw [hXd] at e5;omega
 have hop:=zqb X q (rst s (a + 1)) (by rw [hXd,hau]) hXs
 unfold opR at hop;rw [hXd] at hop
 cases ho:opL (rst s a) with
 | none =>
  rw [ho] at htok hop;simp only at htok;rw [zji htok];change RL _ _ (pS ⟨#[]⟩) at hop;clear htok ho hau hqt hl hd hXd hXs;refine zew zaa zbu (f:=87) Tryz.func87 rfl (by kernel_rfl) (oT (by kernel_rfl)) ?_
  refine Seg.cutK 3 114 [0,1,4,7,8] 2 (fun _:Unit=>[.p (pS s),.p (pI a),.own 0 0,.own 1 0,.p (.v (.int .u8 zq))]) (fun _=>[some bx0,some (bxT 0 ⟨#[]⟩ a)]) (fun _=>True) zaa mixed (fun _=>0) (fun E=>zfm E tyT Tryz.f87.results.toList (.tup [.agg [pI 0,pS ⟨#[]⟩,pI 0],pI a,pI 4])) (by kernel_rfl) ?_ ?_
  ·intro P G E hc hM hE;have g0:E.get s (E.nat a)=some zq:=by
    rw [hE];show (s.data.toList[a.toNat]?).map _=some zq;rw [hq,<- hzq];rfl
   have p0:E.ple 0 a:=by rw [hE];exact h0
   clear hE hc hM h1;cbv
   repeat (first|(refine ⟨p0,_,g0,?_⟩;cbv))
   exact .mk () ⟨rfl,rfl,rfl,rfl,rfl⟩ trivial
  intro _ _;refine Seg.cut 114 [0,1,4,7] 2 (fun _:Unit=>[.p (pS s),.p (pI a),.own 0 0,.own 1 0]) (fun _=>[some bx0,some (bxT 0 ⟨#[]⟩ a)]) (fun _=>True) ?_ ?_
  ·refine Seg.block ?_;refine Seg.cut 114 [0,1,4,7,8,19] 2 (fun _:Unit=>[.p (pS s),.p (pI a),.own 0 0,.own 1 0,.p (.v (.int .u8 zq)),.p (pB false)]) (fun _=>[some bx0,some (bxT 0 ⟨#[]⟩ a)]) (fun _=>True) ?_ ?_
   ·refine Seg.of0 zaa mixed (fun _=>0) (by kernel_rfl) fun P G E hc hM hE=>?_
    replace hl1:=hc _ _ _ hl1;clear hE hc hM h1;cbv
    repeat (first|(refine ⟨_,hl1,?_⟩;cbv))
    exact .mk () ⟨rfl,rfl,rfl,rfl,rfl⟩ trivial
   intro _ _;refine Seg.condF rfl ?_;refine Seg.cut 114 [0,1,4,7,8,53] 2 (fun _:Unit=>[.p (pS s),.p (pI a),.own 0 0,.own 1 0,.p (.v (.int .u8 zq)),.p (pB false)]) (fun _=>[some bx0,some (bxT 0 ⟨#[]⟩ a)]) (fun _=>True) ?_ ?_
   ·refine Seg.of0 zaa mixed (fun _=>0) (by kernel_rfl) fun P G E hc hM hE=>?_
    replace hd1:=hc _ _ _ hd1;clear hE hc hM h1;cbv
    repeat (first|(refine ⟨_,hd1,?_⟩;cbv))
    exact .mk () ⟨rfl,rfl,rfl,rfl,rfl⟩ trivial
   intro _ _;refine Seg.condF rfl ?_;refine Seg.cut 114 [0,1,4,7,8,75] 2 (fun _:Unit=>[.p (pS s),.p (pI a),.own 0 0,.own 1 0,.p (.v (.int .u8 zq)),.p (pB false)]) (fun _=>[some bx0,some (bxT 0 ⟨#[]⟩ a)]) (fun _=>True) ?_ ?_
   ·refine Seg.of0 zaa mixed (fun _=>0) (by kernel_rfl) fun P G E hc hM hE=>?_
    clear hE hc hM h1;cbv
    repeat (first|(simp only [f1];cbv)|simp only [f1]|(simp only [f2];cbv)|simp only [f2])
    exact .mk () ⟨rfl,rfl,rfl,rfl,rfl⟩ trivial
   intro _ _;refine Seg.condF rfl ?_;refine Seg.of0 zaa mixed (fun _=>0) (by kernel_rfl) fun P G E hc hM hE=>?_
   clear hE hc hM hop;cbv;exact .mk () ⟨rfl,rfl,rfl,rfl,rfl⟩ trivial
  intro _ _;refine Seg.cutK 2 114 [] 0 (fun _:Unit=>[]) (fun _=>[]) (fun _=>False) zaa mixed (fun _=>0) (fun E=>zfm E tyT Tryz.f87.results.toList (.tup [.agg [pI 0,pS ⟨#[]⟩,pI 0],pI a,pI 4])) (by kernel_rfl) ?_ (fun _ h=>h.elim)
  intro P G E hc hM hE;replace hop:=hc _ _ _ hop;have z1:E.size s=n:=by rw [hE];exact hn
  have p1:E.ple 0 a:=by rw [hE];exact h0
  have p2:E.ple a n:=by rw [hE];show a<=n;omega
  have p3:E.ple n n:=by rw [hE];exact Int.le_refl _
  have x1:E.ext s (E.nat a) (E.nat n)=X:=by rw [hE];exact hX
  have f3:E.eq ⟨#[]⟩ ⟨#[]⟩=true:=by rw [hE];exact dT (show (⟨#[]⟩:ByteArray)=⟨#[]⟩ from rfl)
  clear hE hc hM hl1 hd1 hn hq hzq hX;cbv
  repeat (first|(simp only [z1];cbv)|simp only [z1]|(refine ⟨p1,p2,p3,?_⟩;cbv)|(refine ⟨p1,p2,?_⟩;cbv)|(refine ⟨p2,p3,?_⟩;cbv)|(simp only [x1];cbv)|simp only [x1]|(refine ⟨_,hop,?_⟩;cbv)|(simp only [f3];cbv)|simp only [f3])
 | some w =>
  rw [ho] at htok hop;simp only at htok;rw [zjh htok];unfold pTk;change RL _ _ (pS (bL w)) at hop;obtain ⟨hw1,hw2,hw3⟩:=zlk ho;have hlen:((rst s a).drop w.length).length=(rst s a).length - w.length:=lLD;have hws:(bL w).size=w.length:=rfl;have hw0:0 < w.length:=List.length_pos_iff.2 hw1;obtain ⟨T,hT⟩:∃ x,bL w=x:=⟨_,rfl⟩
  rw [hT] at hop hws;rw [hT];obtain ⟨m,hm⟩:∃ x:Int,((T.size:Nat):Int)=x:=⟨_,rfl⟩
  obtain ⟨e1,he1⟩:∃ x:Int,a + m=x:=⟨_,rfl⟩
  rw [hn,show n - (((rst s a).drop w.length).length:Nat)=e1 by omega]
  have hT0:T ≠ ⟨#[]⟩:=fun e=>by
   rw [e] at hws
   have:(⟨#[]⟩:ByteArray).size=0:=rfl
   omega
  have hm0:0<=m:=by omega
  have hm1:m<=900000:=by omega
  clear htok ho hau hqt hl hd hXd hXs hw1 hw2 hw3 hlen hT hws hw0;refine zew zaa zbu (f:=87) Tryz.func87 rfl (by kernel_rfl) (oT (by kernel_rfl)) ?_
  refine Seg.cutK 3 114 [0,1,4,7,8] 2 (fun _:Unit=>[.p (pS s),.p (pI a),.own 0 0,.own 1 0,.p (.v (.int .u8 zq))]) (fun _=>[some bx0,some (bxT 0 ⟨#[]⟩ a)]) (fun _=>True) zaa mixed (fun _=>0) (fun E=>zfm E tyT Tryz.f87.results.toList (.tup [.agg [pI 5,pS T,pI a],pI e1,pI 0])) (by kernel_rfl) ?_ ?_
  ·intro P G E hc hM hE;have g0:E.get s (E.nat a)=some zq:=by
    rw [hE];show (s.data.toList[a.toNat]?).map _=some zq;rw [hq,<- hzq];rfl
   have p0:E.ple 0 a:=by rw [hE];exact h0
   clear hE hc hM h1;cbv
   repeat (first|(refine ⟨p0,_,g0,?_⟩;cbv))
   exact .mk () ⟨rfl,rfl,rfl,rfl,rfl⟩ trivial
  intro _ _;refine Seg.cut 114 [0,1,4,7] 2 (fun _:Unit=>[.p (pS s),.p (pI a),.own 0 0,.own 1 0]) (fun _=>[some bx0,some (bxT 0 ⟨#[]⟩ a)]) (fun _=>True) ?_ ?_
  ·refine Seg.block ?_;refine Seg.cut 114 [0,1,4,7,8,19] 2 (fun _:Unit=>[.p (pS s),.p (pI a),.own 0 0,.own 1 0,.p (.v (.int .u8 zq)),.p (pB false)]) (fun _=>[some bx0,some (bxT 0 ⟨#[]⟩ a)]) (fun _=>True) ?_ ?_
   ·refine Seg.of0 zaa mixed (fun _=>0) (by kernel_rfl) fun P G E hc hM hE=>?_
    replace hl1:=hc _ _ _ hl1;clear hE hc hM h1;cbv
    repeat (first|(refine ⟨_,hl1,?_⟩;cbv))
    exact .mk () ⟨rfl,rfl,rfl,rfl,rfl⟩ trivial
   intro _ _;refine Seg.condF rfl ?_;refine Seg.cut 114 [0,1,4,7,8,53] 2 (fun _:Unit=>[.p (pS s),.p (pI a),.own 0 0,.own 1 0,.p (.v (.int .u8 zq)),.p (pB false)]) (fun _=>[some bx0,some (bxT 0 ⟨#[]⟩ a)]) (fun _=>True) ?_ ?_
   ·refine Seg.of0 zaa mixed (fun _=>0) (by kernel_rfl) fun P G E hc hM hE=>?_
    replace hd1:=hc _ _ _ hd1;clear hE hc hM h1;cbv
    repeat (first|(refine ⟨_,hd1,?_⟩;cbv))
    exact .mk () ⟨rfl,rfl,rfl,rfl,rfl⟩ trivial
   intro _ _;refine Seg.condF rfl ?_;refine Seg.cut 114 [0,1,4,7,8,75] 2 (fun _:Unit=>[.p (pS s),.p (pI a),.own 0 0,.own 1 0,.p (.v (.int .u8 zq)),.p (pB false)]) (fun _=>[some bx0,some (bxT 0 ⟨#[]⟩ a)]) (fun _=>True) ?_ ?_
   ·refine Seg.of0 zaa mixed (fun _=>0) (by kernel_rfl) fun P G E hc hM hE=>?_
    clear hE hc hM h1;cbv
    repeat (first|(simp only [f1];cbv)|simp only [f1]|(simp only [f2];cbv)|simp only [f2])
    exact .mk () ⟨rfl,rfl,rfl,rfl,rfl⟩ trivial
   intro _ _;refine Seg.condF rfl ?_;refine Seg.of0 zaa mixed (fun _=>0) (by kernel_rfl) fun P G E hc hM hE=>?_
   clear hE hc hM hop;cbv;exact .mk () ⟨rfl,rfl,rfl,rfl,rfl⟩ trivial
  intro _ _;refine Seg.cutK 2 114 [1,4,7] 2 (fun _:Unit=>[.p (pI a),.own 0 0,.own 1 0]) (fun _=>[some bx0,some (bxT 5 T a)]) (fun _=>True) zaa mixed (fun _=>0) (fun E=>zfm E tyT Tryz.f87.results.toList (.tup [.agg [pI 5,pS T,pI a],pI e1,pI 0])) (by kernel_rfl) ?_ ?_
  ·intro P G E hc hM hE;replace hop:=hc _ _ _ hop;have z1:E.size s=n:=by rw [hE];exact hn
   have p1:E.ple 0 a:=by rw [hE];exact h0
   have p2:E.ple a n:=by rw [hE];show a<=n;omega
   have p3:E.ple n n:=by rw [hE];exact Int.le_refl _
   have x1:E.ext s (E.nat a) (E.nat n)=X:=by rw [hE];exact hX
   have f3:E.eq T ⟨#[]⟩=false:=by rw [hE];exact dF hT0
   clear hE hc hM hl1 hd1 hn hq hzq hX hT0 hm;cbv
   repeat (first|(simp only [z1];cbv)|simp only [z1]|(refine ⟨p1,p2,p3,?_⟩;cbv)|(refine ⟨p1,p2,?_⟩;cbv)|(refine ⟨p2,p3,?_⟩;cbv)|(simp only [x1];cbv)|simp only [x1]|(refine ⟨_,hop,?_⟩;cbv)|(simp only [f3];cbv)|simp only [f3])
   exact .mk () ⟨rfl,rfl,rfl,rfl,rfl⟩ trivial
  intro _ _;refine Seg.cut 114 [4,5,6] 1 (fun _:Unit=>[.own 0 0,.p (pI e1),.p (pI 0)]) (fun _=>[some (bxT 5 T a)]) (fun _=>True) ?_ ?_
  ·refine Seg.regM zaa mixed 7 [6] (fun i=>match i with|6=>1|_=>0) (by kernel_rfl) (fun _=>zce (CutIs 114 [4,5,6] 1 (fun _:Unit=>[.own 0 0,.p (pI e1),.p (pI 0)]) (fun _=>[some (bxT 5 T a)]) (fun _=>True)) (zfm zas tyT Tryz.f87.results.toList (.tup [.agg [pI 5,pS T,pI a],pI e1,pI 0]))) fun P G E hc hM hE=>?_
   have z2:E.size T=m:=by rw [hE];exact hm
   have w1:E.wadd .i64 a m=e1:=by rw [hE,<- he1];exact zaf (by omega) (by omega)
   clear hE hc hM hl1 hd1 hop hn hq hzq hX hT0 hm;cbv
   repeat (first|(simp only [z2];cbv)|simp only [z2]|(simp only [w1];cbv)|simp only [w1])
   refine ⟨(.mk (by repeat' (first|exact trivial|refine ⟨rfl,?_⟩))),(.mk (by repeat' (first|exact trivial|refine ⟨rfl,?_⟩))),?_⟩
   exact .mk () ⟨rfl,rfl,rfl,rfl,rfl⟩ trivial
  intro _ _;refine Seg.of zaa mixed (fun _=>0) (by kernel_rfl) (fun E=>zfm E tyT Tryz.f87.results.toList (.tup [.agg [pI 5,pS T,pI a],pI e1,pI 0])) fun P G E hc hM hE=>?_
  clear hE hc hM hl1 hd1 hop hn hq hzq hX hT0 hm;cbv;all_goals trivial
theorem z0t (s:ByteArray) (a:Int) (h0:0<=a) (h1:a < (s.size:Nat)) (hs:s.size<=900000):RL 87 [pS s,pI a] (zm8 s a):=by
 obtain ⟨q,hq⟩:∃ c,s.data.toList[a.toNat]?=some c:=⟨_,List.getElem?_eq_getElem (by show a.toNat < s.size;omega)⟩
 cases hl:ltr q with
 | true=>exact zxi s a q h0 hq hl hs
 | false =>
  cases hd:dgt q with
  | true=>exact z0u s a q h0 hq hl hd hs
  | false =>
   by_cases hqt:q=34\/q=39
   ·exact z0s s a q h0 hq hqt hs
   ·exact z4o s a q h0 hq hl hd hqt hs
end Go.Proofs.YtcfecmeocimclaaGreatDoor
