/- Own work: lexer.number and lexer.operator (printed by gen_lb9.py). -/
import Derived.Test.YtcfecmeocimclaaGreatDoorYAA0
import Derived.Test.YtcfecmeocimclaaGreatDoorYALB8
import Derived.Lib.ParseIntBTie
import Derived.Lib.AtoiErrMem
namespace Go.Proofs.YtcfecmeocimclaaGreatDoor
set_option linter.unusedSimpArgs false
set_option maxRecDepth 100000
open Go.RowKit
def z57 (n:Nat) (l:Bs):Nat:=l.foldl (fun n c=>10 * n + (c.toNat - 48)) n
theorem zyx:∀ (l:Bs) (n:Nat),n<=z57 n l
 | [],n=>nR _
 | c :: l,n=>by
  have:=zyx l (10 * n + (c.toNat - 48))
  show n<=z57 (10 * n + (c.toNat - 48)) l;omega
theorem zyt {c:UInt8} (h:dgt c=true):48<=c.toNat/\c.toNat<=57:=by
 unfold dgt at h;simp only [decide_eq_true_eq] at h;exact ⟨UInt8.le_iff_toNat_le.1 h.1,UInt8.le_iff_toNat_le.1 h.2⟩
theorem z2t:∀ (l:Bs) (n:Nat),(∀ c ∈ l,dgt c=true)->n < 18446744073709551616->Lib.parseUint10 n l=if z57 n l < 18446744073709551616 then .ok (z57 n l) else .range
 | [],n,_,h=>by
  show Lib.parseUint10 n []=if n < 18446744073709551616 then .ok n else .range
  rw [if_pos h];rfl
 | c :: l,n,hd,h=>by
  have hc:=zyt (hd c (List.mem_cons_self ..));have hge:=zyx l (10 * n + (c.toNat - 48));show Lib.parseUint10 n (c :: l)=if z57 (10 * n + (c.toNat - 48)) l < 18446744073709551616 then .ok (z57 (10 * n + (c.toNat - 48)) l) else .range
  rw [Lib.parseUint10,if_pos hc]
  by_cases h1:1844674407370955162<=n
  ·rw [if_pos h1,if_neg (by omega)]
  ·rw [if_neg h1]
   by_cases h2:18446744073709551616<=n * 10 + (c.toNat - 48)
   ·rw [if_pos h2,if_neg (by omega)]
   ·rw [if_neg h2,show n * 10 + (c.toNat - 48)=10 * n + (c.toNat - 48) by omega]
    exact z2t l _ (fun x hx=>hd x (List.mem_cons_of_mem _ hx)) (by omega)
theorem z2v (l:Bs) (hd:∀ c ∈ l,dgt c=true) (hn:l ≠ []):Lib.parseIntB 64 l=if zj2 l < 9223372036854775808 then .ok ((zj2 l:Nat):Int) else .range:=by
 rw [Lib.parseIntB_64]
 cases l with
 | nil=>exact absurd rfl hn
 | cons c r =>
  have hc:=zyt (hd c (List.mem_cons_self ..));have hp:Lib.parseMag (c :: r)=if zj2 (c :: r) < 18446744073709551616 then .ok (zj2 (c :: r)) else .range:=by
   unfold Lib.parseMag;rw [if_neg (List.cons_ne_nil _ _)];exact z2t (c :: r) 0 hd (by omega)
  unfold Lib.atoiAll;simp only;rw [if_neg (show ¬ (c.toNat=43\/c.toNat=45) by omega),hp]
  by_cases h1:zj2 (c :: r) < 18446744073709551616
  ·rw [if_pos h1];simp only
   by_cases h2:zj2 (c :: r) < 9223372036854775808
   ·rw [if_pos h2,if_neg (by omega),if_neg (by omega),if_neg (by omega)]
   ·rw [if_neg h2,if_pos (by omega)]
  ·rw [if_neg h1,if_neg (by omega)]
theorem zp5 {w:World} {R:Nat->Prop} {p q:PV} {u v:Value} (h1:RepP w R p u) (h2:RepP w R q v):RepP w R (.tup [p,q]) (.tuple #[u,v]):=by
 refine RepP.tup [p,q] [u,v] rfl fun j x y hx hy=>?_
 rcases j with _|_|j
 ·simp at hx hy;subst hx;subst hy;exact h1
 ·simp at hx hy;subst hx;subst hy;exact h2
 ·simp at hx
theorem ztf (s:ByteArray) (hs:s.size<=2000000) (hd:∀ c ∈ s.data.toList,dgt c=true) (hn:s.data.toList ≠ []) (h:zj2 s.data.toList < 9223372036854775808):RL 115 [pS s,pI 10,pI 64] (.tup [pI (zj2 s.data.toList:Nat),.v .nilIface]):=by
 have hp:=z2v s.data.toList hd hn;rw [if_pos h] at hp;exact zrp Tryz.func115 (by kernel_rfl) (by kernel_rfl) [.string s,.int .i64 10,.int .i64 64] _ fun w hG=>(Tryz.strconv_ParseInt_10_at64_ok s (by omega) _ hp w).mono fun e w' ⟨h1,h2⟩=>⟨_,h1,by
   rcases h2 with rfl|⟨t,rfl⟩
   ·exact Gr.refl _
   ·exact Lib.bytesWorld_below _ _ _,fun _=>zp5 (.v _) (.v _)⟩
theorem zxb (s:ByteArray) (hs:s.size<=2000000) (hd:∀ c ∈ s.data.toList,dgt c=true) (hn:s.data.toList ≠ []) (h:¬ zj2 s.data.toList < 9223372036854775808):RL 115 [pS s,pI 10,pI 64] (.tup [pI (Lib.intSat 64 s.data.toList),.err]):=by
 have hp:=z2v s.data.toList hd hn;rw [if_neg h] at hp;exact zrp Tryz.func115 (by kernel_rfl) (by kernel_rfl) [.string s,.int .i64 10,.int .i64 64] _ fun w hG=>by
  obtain ⟨tp,p,hv⟩:=hG.rng;exact (Tryz.strconv_ParseInt_10_at64_range_var s (by omega) hp tp p w hv).mono fun e w' ⟨N,h1,_,_,h2⟩=>⟨_,h1,h2,fun _=>zp5 (.v _) (.err _ _)⟩
theorem zys (c:UInt8) (z:Int) (b:Bool) (hz:((c.toNat:Nat):Int)=z) (hb:dgt c=b):RL 103 [.v (.int .u8 z)] (pB b):=by
 subst hz hb;exact upL (zmr c)
theorem zu6 (c:UInt8) (z:Int) (b:Bool) (hz:((c.toNat:Nat):Int)=z) (hb:ltr c=b):RL 102 [.v (.int .u8 z)] (pB b):=by
 subst hz hb;exact upL (zu5 c)
def z7b (s:ByteArray) (a:Int):PV:=match zj1 (rst s a) with
 | .bad e=>.tup [pI a,pI e]
 | .ok _ _ r=>.tup [pI ((s.size:Nat) - (r.length:Nat)),pI 0]
structure NuI (s:ByteArray) (n a:Int) (j:Int):Prop where
 j0:a<=j
 j1:j<=n
 u:∃ u:Bs,rst s a=u++rst s j/\(u.length:Int)=j - a/\∀ c ∈ u,dgt c=true
set_option maxHeartbeats 4000000 in
theorem zuv (s:ByteArray) (a:Int) (q:UInt8) (h0:0<=a) (hq:s.data.toList[a.toNat]?=some q) (hcq:dgt q=true) (hs:s.size<=1000000):RL 105 [pS s,pI a] (z7b s a):=by
 obtain ⟨n,hn⟩:∃ n:Int,((s.size:Nat):Int)=n:=⟨_,rfl⟩
 have h1:a < n:=by
  have:=(List.getElem?_eq_some_iff.1 hq).1
  have e:s.data.toList.length=s.size:=rfl;omega
 have hget:∀ i:Int,0<=i->i < n->∃ c,s.data.toList[i.toNat]?=some c:=fun i hi0 hi1=>⟨_,List.getElem?_eq_getElem (by show i.toNat < s.size;omega)⟩
 obtain ⟨a1,ha1⟩:∃ x:Int,a + 1=x:=⟨_,rfl⟩
 obtain ⟨RV,hRV⟩:∃ x,z7b s a=x:=⟨_,rfl⟩
 rw [hRV];have hbad:∀ e,zj1 (rst s a)=.bad e->RV=.tup [pI a,pI e]:=fun e h=>by rw [<-hRV];unfold z7b;rw [h]
 have hgood:∀ k t r,zj1 (rst s a)=.ok k t r->RV=.tup [pI (n - (r.length:Nat)),pI 0]:=fun k t r h=>by rw [<-hRV];unfold z7b;rw [h,<- hn]
 obtain ⟨μ,hμ⟩:∃ μ:Int->Nat,∀ x,μ x=2000000000 - x.toNat:=⟨_,fun _=>rfl⟩
 have hI0:NuI s n a a:=⟨Int.le_refl _,by omega,[],rfl,by show (0:Int)=a - a;omega,fun c hc=>(by cases hc)⟩
 obtain ⟨zq,hzq⟩:∃ z:Int,((q.toNat:Nat):Int)=z:=⟨_,rfl⟩
 have hdig:=fun (c:UInt8) (z:Int) (b:Bool) (hz:((c.toNat:Nat):Int)=z) (hb:dgt c=b)=>zys c z b hz hb
 have hlet:=fun (c:UInt8) (z:Int) (b:Bool) (hz:((c.toNat:Nat):Int)=z) (hb:ltr c=b)=>zu6 c z b hz hb
 have hpi:=fun (t:ByteArray) (v:Int) (ht:t.size<=2000000) (hd:∀ c ∈ t.data.toList,dgt c=true) (hn:t.data.toList ≠ []) (h:zj2 t.data.toList < 9223372036854775808) (hv:((zj2 t.data.toList:Nat):Int)=v)=>show RL _ _ (.tup [pI v,.v .nilIface]) from hv ▸ ztf t ht hd hn h
 have hpb:=fun (t:ByteArray) (v:Int) (ht:t.size<=2000000) (hd:∀ c ∈ t.data.toList,dgt c=true) (hn:t.data.toList ≠ []) (h:¬ zj2 t.data.toList < 9223372036854775808) (hv:Lib.intSat 64 t.data.toList=v)=>show RL _ _ (.tup [pI v,.err]) from hv ▸ zxb t ht hd hn h
 refine zaq zaa zbu mixed (fun _=>0) Tryz.func105 rfl (by kernel_rfl) (by kernel_rfl) rfl fun P G E hc hE=>?_
 replace hdig:=fun (c:UInt8) (z:Int) (b:Bool) (hz:((c.toNat:Nat):Int)=z) (hb:dgt c=b)=>hc _ _ _ (hdig c z b hz hb)
 replace hlet:=fun (c:UInt8) (z:Int) (b:Bool) (hz:((c.toNat:Nat):Int)=z) (hb:ltr c=b)=>hc _ _ _ (hlet c z b hz hb)
 replace hpi:=fun (t:ByteArray) (v:Int) (ht:t.size<=2000000) (hd:∀ c ∈ t.data.toList,dgt c=true) (hn:t.data.toList ≠ []) (h:zj2 t.data.toList < 9223372036854775808) (hv:((zj2 t.data.toList:Nat):Int)=v)=>hc _ _ _ (hpi t v ht hd hn h hv)
 replace hpb:=fun (t:ByteArray) (v:Int) (ht:t.size<=2000000) (hd:∀ c ∈ t.data.toList,dgt c=true) (hn:t.data.toList ≠ []) (h:¬ zj2 t.data.toList < 9223372036854775808) (hv:Lib.intSat 64 t.data.toList=v)=>hc _ _ _ (hpb t v ht hd hn h hv)
 have z1:E.size s=n:=by rw [hE];exact hn
 have elt:=zw5 hE;have eple:=zp7 hE;have eget:∀ (i:Int) (c:UInt8) (z:Int),s.data.toList[i.toNat]?=some c->((c.toNat:Nat):Int)=z->E.get s (E.nat i)=some z:=fun i c z h hz=>by
  rw [hE];show (s.data.toList[i.toNat]?).map _=some z;rw [h,<- hz];rfl
 have eadd:=z6z hE;have eext:∀ i j:Int,E.ext s (E.nat i) (E.nat j)=s.extract i.toNat j.toNat:=fun i j=>by rw [hE];rfl
 have ei:=eadd a 1 (by omega) (by omega) (by omega) (by omega)
 rw [ha1] at ei;have g0:=eget a q zq hq hzq;have p0:=eple 0 a h0;clear hE hc;cbv;refine zbs 57 [0,1,6] 0 (fun x:Int=>[.p (pS s),.p (pI a),.p (pI x)]) (fun _=>[]) (NuI s n a) μ a ⟨rfl,rfl,rfl,rfl,rfl⟩ hI0 ?_
 clear hI0
 rintro j ⟨j0,j1,u,hu1,hu2,hu3⟩
 replace hn:((s.size:Nat):Int)=n:=hn;replace hu2:((u.length:Nat):Int)=j - a:=hu2;replace hzq:((q.toNat:Nat):Int)=zq:=hzq;have hau:rst s a=q :: rst s (a + 1):=zei h0 hq;have hend:(∀ c,(rst s j).head?=some c->dgt c=false)->(rst s a).takeWhile dgt=u/\(rst s a).dropWhile dgt=rst s j:=fun h=>by
  have:=zha (p:=dgt) u (rst s j) hu3 h
  rw [hu1];exact this
 rcases cEm (j < n) with hlt|hlt
 ·have d1:E.lti j n=true:=by rw [elt];exact dT hlt
  obtain ⟨c,hci⟩:=hget j (by omega) hlt
  obtain ⟨z,hz⟩:∃ z:Int,((c.toNat:Nat):Int)=z:=⟨_,rfl⟩
  have g1:=eget j c z hci hz;have p1:=eple 0 j (by omega)
  have hc0:=zei (by omega) hci
  cases hdc:dgt c with
  | true =>
   have hd1:=hdig c z true hz hdc;obtain ⟨j2,hj2⟩:∃ x:Int,j + 1=x:=⟨_,rfl⟩
   have ej:=eadd j 1 (by omega) (by omega) (by omega) (by omega)
   rw [hj2] at ej;have hI2:NuI s n a j2:=by
    refine ⟨by omega,by omega,u++[c],?_,?_,?_⟩
    ·rw [hu1,hc0,<- hj2];simp
    ·show (((u++[c]).length:Nat):Int)=j2 - a;rw [lLA,lLS];omega
    ·intro x hx
     rcases List.mem_append.1 hx with hx|hx
     ·exact hu3 x hx
     ·rw [List.mem_singleton.1 hx];exact hdc
   have hM2:μ j2 < μ j:=by rw [hμ,hμ];omega
   clear hget hdig hlet elt eple eget eadd eext hn hq hzq hRV hbad hgood hu1 hu2 hu3 hpi hpb hs hau hcq hend hci hz hc0 hdc hj2;cbv
   repeat (first|(simp only [z1];cbv)|simp only [z1]|(simp only [d1];cbv)|simp only [d1]|(refine ⟨p1,_,g1,?_⟩;cbv)|(refine ⟨_,hd1,?_⟩;cbv)|(simp only [ej];cbv)|simp only [ej])
   refine .mk j2 ⟨rfl,rfl,rfl,rfl,rfl⟩ ?_ ?_
   ·exact hI2
   ·exact hM2
  | false =>
   have hd1:=hdig c z false hz hdc;obtain ⟨ht,hdw⟩:=hend (fun x hx=>by rw [hc0] at hx;cases hx;exact hdc)
   have hun:u ≠ []:=fun e=>by
    rw [e,lNA] at hu1;have h5:q=c:=by
     rw [hau,hc0] at hu1;exact (List.cons.inj hu1).1
    rw [<-h5,hcq] at hdc
    cases hdc
   have hhead:u.head?=some q:=by
    cases u with
    | nil=>exact absurd rfl hun
    | cons x u =>
     rw [hau] at hu1;have h5:=(List.cons.inj hu1).1;rw [h5];rfl
   have hul:1<=u.length:=List.length_pos_iff.2 hun;have hjl:n - ((rst s j).length:Nat)=j:=by have:=zdo s j;omega
   rcases cEm (q=48/\a1 < j) with hz48|hz48
   ·have hv:=hbad 4 (by unfold zj1;rw [ht,hhead,if_pos ⟨by rw [hz48.1],by omega⟩])
    subst hv;have f48:decide (zq=48)=true:=dT (by rw [<-hzq,hz48.1];rfl)
    have d2:E.lti a1 j=true:=by rw [elt];exact dT hz48.2
    clear hget hdig hlet elt eple eget eadd eext hn hq hzq hRV hbad hgood hu1 hu2 hu3 hpi hpb hs hau hcq hend ha1 ht hdw hun hhead hul hjl hci hz hc0 hdc hz48;cbv
    repeat (first|(simp only [z1];cbv)|simp only [z1]|(simp only [d1];cbv)|simp only [d1]|(refine ⟨p1,_,g1,?_⟩;cbv)|(refine ⟨_,hd1,?_⟩;cbv)|(refine ⟨p0,_,g0,?_⟩;cbv)|(simp only [f48];cbv)|simp only [f48]|(simp only [ei];cbv)|simp only [ei]|(simp only [d2];cbv)|simp only [d2])
   have hz0:¬ (u.head?=some 48/\1 < u.length):=fun h=>hz48 ⟨by have:=h.1;rw [hhead] at this;exact Option.some.inj this,by omega⟩
   have f48:(decide (zq=48)=false)\/(decide (zq=48)=true/\E.lti a1 j=false):=by
    by_cases h48:q=48
    ·exact .inr ⟨dT (by rw [<-hzq,h48];rfl),by rw [elt];exact dF fun h=>hz48 ⟨h48,h⟩⟩
    ·exact .inl (zv4 hzq 48 h48)
   cases hlc:ltr c with
   | true =>
    have hl1:=hlet c z true hz hlc;have hv:=hbad 4 (by unfold zj1;rw [ht,hdw,if_neg hz0,if_pos (by rw [hc0];exact hlc)])
    subst hv
    rcases f48 with f48|⟨f48,d2⟩
    all_goals
     clear hget hdig hlet elt eple eget eadd eext hn hq hzq hRV hbad hgood hu1 hu2 hu3 hpi hpb hs hau hcq hend ha1 ht hdw hun hhead hul hjl hci hz hc0 hdc hz48 hz0 hlc;cbv
     repeat (first|(simp only [z1];cbv)|simp only [z1]|(simp only [d1];cbv)|simp only [d1]|(refine ⟨p1,_,g1,?_⟩;cbv)|(refine ⟨_,hd1,?_⟩;cbv)|(refine ⟨p0,_,g0,?_⟩;cbv)|(simp only [f48];cbv)|simp only [f48]|(simp only [ei];cbv)|simp only [ei]|(simp only [d2];cbv)|simp only [d2]|(refine ⟨p1,_,g1,?_⟩;cbv)|(refine ⟨_,hl1,?_⟩;cbv))
   | false =>
    have hl1:=hlet c z false hz hlc;obtain ⟨T,hT⟩:∃ x,s.extract a.toNat j.toNat=x:=⟨_,rfl⟩
    have hTd:T.data.toList=u:=by
     rw [<-hT,zfr,hu1,show j.toNat - a.toNat=u.length by omega,List.take_left]
    have hTs:T.size<=2000000:=by
     have e5:T.data.toList.length=T.size:=rfl;rw [hTd] at e5;omega
    have x1:=eext a j;rw [hT] at x1;have p3:=eple a j j0;have p4:=eple j n j1
    rcases cEm (zj2 u < 9223372036854775808) with hbg|hbg
    ·obtain ⟨v,hvv⟩:∃ x:Int,((zj2 T.data.toList:Nat):Int)=x:=⟨_,rfl⟩
     have hp:=hpi T v hTs (by rw [hTd];exact hu3) (by rw [hTd];exact hun) (by rw [hTd];exact hbg) hvv
     have hv:=hgood 3 u (rst s j) (by unfold zj1;rw [ht,hdw,if_neg hz0,if_neg (by rw [hc0];show ¬ ltr c=true;rw [hlc];decide),if_neg (by omega)])
     rw [hjl] at hv;subst hv
     rcases f48 with f48|⟨f48,d2⟩
     all_goals
      clear hget hdig hlet elt eple eget eadd eext hn hq hzq hRV hbad hgood hu1 hu2 hu3 hpi hpb hs hau hcq hend ha1 ht hdw hun hhead hul hjl hci hz hc0 hdc hz48 hz0 hT hTd hTs hbg hvv hlc;cbv
      repeat (first|(simp only [z1];cbv)|simp only [z1]|(simp only [d1];cbv)|simp only [d1]|(refine ⟨p1,_,g1,?_⟩;cbv)|(refine ⟨_,hd1,?_⟩;cbv)|(refine ⟨p0,_,g0,?_⟩;cbv)|(simp only [f48];cbv)|simp only [f48]|(simp only [ei];cbv)|simp only [ei]|(simp only [d2];cbv)|simp only [d2]|(refine ⟨p1,_,g1,?_⟩;cbv)|(refine ⟨_,hl1,?_⟩;cbv)|(refine ⟨p0,p3,p4,?_⟩;cbv)|(simp only [x1];cbv)|simp only [x1]|(refine ⟨_,hp,?_⟩;cbv))
    ·obtain ⟨v,hvv⟩:∃ x:Int,Lib.intSat 64 T.data.toList=x:=⟨_,rfl⟩
     have hp:=hpb T v hTs (by rw [hTd];exact hu3) (by rw [hTd];exact hun) (by rw [hTd];exact hbg) hvv
     have hv:=hbad 5 (by unfold zj1;rw [ht,hdw,if_neg hz0,if_neg (by rw [hc0];show ¬ ltr c=true;rw [hlc];decide),if_pos (by omega)])
     subst hv
     rcases f48 with f48|⟨f48,d2⟩
     all_goals
      clear hget hdig hlet elt eple eget eadd eext hn hq hzq hRV hbad hgood hu1 hu2 hu3 hpi hpb hs hau hcq hend ha1 ht hdw hun hhead hul hjl hci hz hc0 hdc hz48 hz0 hT hTd hTs hbg hvv hlc;cbv
      repeat (first|(simp only [z1];cbv)|simp only [z1]|(simp only [d1];cbv)|simp only [d1]|(refine ⟨p1,_,g1,?_⟩;cbv)|(refine ⟨_,hd1,?_⟩;cbv)|(refine ⟨p0,_,g0,?_⟩;cbv)|(simp only [f48];cbv)|simp only [f48]|(simp only [ei];cbv)|simp only [ei]|(simp only [d2];cbv)|simp only [d2]|(refine ⟨p1,_,g1,?_⟩;cbv)|(refine ⟨_,hl1,?_⟩;cbv)|(refine ⟨p0,p3,p4,?_⟩;cbv)|(simp only [x1];cbv)|simp only [x1]|(refine ⟨_,hp,?_⟩;cbv))
 ·have d1:E.lti j n=false:=by rw [elt];exact dF hlt
  have hnil:rst s j=[]:=zl3 (by omega)
  obtain ⟨ht,hdw⟩:=hend (fun x hx=>by rw [hnil] at hx;cases hx)
  have hun:u ≠ []:=fun e=>by
   rw [e,lNA,hnil,hau] at hu1
   cases hu1
  have hhead:u.head?=some q:=by
   cases u with
   | nil=>exact absurd rfl hun
   | cons x u =>
    rw [hau] at hu1;have h5:=(List.cons.inj hu1).1;rw [h5];rfl
  have hul:1<=u.length:=List.length_pos_iff.2 hun;have hjl:n - ((rst s j).length:Nat)=j:=by have:=zdo s j;omega
  rcases cEm (q=48/\a1 < j) with hz48|hz48
  ·have hv:=hbad 4 (by unfold zj1;rw [ht,hhead,if_pos ⟨by rw [hz48.1],by omega⟩])
   subst hv;have f48:decide (zq=48)=true:=dT (by rw [<-hzq,hz48.1];rfl)
   have d2:E.lti a1 j=true:=by rw [elt];exact dT hz48.2
   clear hget hdig hlet elt eple eget eadd eext hn hq hzq hRV hbad hgood hu1 hu2 hu3 hpi hpb hs hau hcq hend ha1 ht hdw hun hhead hul hjl hnil hz48;cbv
   repeat (first|(simp only [z1];cbv)|simp only [z1]|(simp only [d1];cbv)|simp only [d1]|(refine ⟨p0,_,g0,?_⟩;cbv)|(simp only [f48];cbv)|simp only [f48]|(simp only [ei];cbv)|simp only [ei]|(simp only [d2];cbv)|simp only [d2])
  have hz0:¬ (u.head?=some 48/\1 < u.length):=fun h=>hz48 ⟨by have:=h.1;rw [hhead] at this;exact Option.some.inj this,by omega⟩
  have f48:(decide (zq=48)=false)\/(decide (zq=48)=true/\E.lti a1 j=false):=by
   by_cases h48:q=48
   ·exact .inr ⟨dT (by rw [<-hzq,h48];rfl),by rw [elt];exact dF fun h=>hz48 ⟨h48,h⟩⟩
   ·exact .inl (zv4 hzq 48 h48)
  obtain ⟨T,hT⟩:∃ x,s.extract a.toNat j.toNat=x:=⟨_,rfl⟩
  have hTd:T.data.toList=u:=by
   rw [<-hT,zfr,hu1,show j.toNat - a.toNat=u.length by omega,List.take_left]
  have hTs:T.size<=2000000:=by
   have e5:T.data.toList.length=T.size:=rfl;rw [hTd] at e5;omega
  have x1:=eext a j;rw [hT] at x1;have p3:=eple a j j0;have p4:=eple j n j1
  rcases cEm (zj2 u < 9223372036854775808) with hbg|hbg
  ·obtain ⟨v,hvv⟩:∃ x:Int,((zj2 T.data.toList:Nat):Int)=x:=⟨_,rfl⟩
   have hp:=hpi T v hTs (by rw [hTd];exact hu3) (by rw [hTd];exact hun) (by rw [hTd];exact hbg) hvv
   have hv:=hgood 3 u (rst s j) (by unfold zj1;rw [ht,hdw,if_neg hz0,if_neg (by rw [hnil];simp),if_neg (by omega)])
   rw [hjl] at hv;subst hv
   rcases f48 with f48|⟨f48,d2⟩
   all_goals
    clear hget hdig hlet elt eple eget eadd eext hn hq hzq hRV hbad hgood hu1 hu2 hu3 hpi hpb hs hau hcq hend ha1 ht hdw hun hhead hul hjl hnil hz48 hz0 hT hTd hTs hbg hvv;cbv
    repeat (first|(simp only [z1];cbv)|simp only [z1]|(simp only [d1];cbv)|simp only [d1]|(refine ⟨p0,_,g0,?_⟩;cbv)|(simp only [f48];cbv)|simp only [f48]|(simp only [ei];cbv)|simp only [ei]|(simp only [d2];cbv)|simp only [d2]|(refine ⟨p0,p3,p4,?_⟩;cbv)|(simp only [x1];cbv)|simp only [x1]|(refine ⟨_,hp,?_⟩;cbv))
  ·obtain ⟨v,hvv⟩:∃ x:Int,Lib.intSat 64 T.data.toList=x:=⟨_,rfl⟩
   have hp:=hpb T v hTs (by rw [hTd];exact hu3) (by rw [hTd];exact hun) (by rw [hTd];exact hbg) hvv
   have hv:=hbad 5 (by unfold zj1;rw [ht,hdw,if_neg hz0,if_neg (by rw [hnil];simp),if_pos (by omega)])
   subst hv
   rcases f48 with f48|⟨f48,d2⟩
   all_goals
    clear hget hdig hlet elt eple eget eadd eext hn hq hzq hRV hbad hgood hu1 hu2 hu3 hpi hpb hs hau hcq hend ha1 ht hdw hun hhead hul hjl hnil hz48 hz0 hT hTd hTs hbg hvv;cbv
    repeat (first|(simp only [z1];cbv)|simp only [z1]|(simp only [d1];cbv)|simp only [d1]|(refine ⟨p0,_,g0,?_⟩;cbv)|(simp only [f48];cbv)|simp only [f48]|(simp only [ei];cbv)|simp only [ei]|(simp only [d2];cbv)|simp only [d2]|(refine ⟨p0,p3,p4,?_⟩;cbv)|(simp only [x1];cbv)|simp only [x1]|(refine ⟨_,hp,?_⟩;cbv))
theorem pre3 (a b d:UInt8) (l:Bs):Lib.hasPrefix l [a,b,d]=decide (l.take 3=[a,b,d]):=by
 unfold Lib.hasPrefix
 match l with
 | []=>rfl
 | [x] =>
  have:([a,b,d]:Bs).isPrefixOf [x]=false:=by
   show (a == x && false)=false;rw [Bool.and_false]
  rw [this];exact (dF (by simp)).symm
 | [x,y] =>
  have:([a,b,d]:Bs).isPrefixOf [x,y]=false:=by
   show (a == x && (b == y && false))=false;rw [Bool.and_false,Bool.and_false]
  rw [this];exact (dF (by simp)).symm
 | x :: y :: v :: l =>
  have h:([a,b,d]:Bs).isPrefixOf (x :: y :: v :: l)=(a == x && (b == y && d == v)):=by
   show (a == x && (b == y && (d == v && ([]:Bs).isPrefixOf l)))=_;rw [show ([]:Bs).isPrefixOf l=true by cases l <;> rfl,Bool.and_true]
  rw [h]
  by_cases hh:a=x/\b=y/\d=v
  ·obtain ⟨rfl,rfl,rfl⟩:=hh;simp
  ·rw [dF (by
    intro e;have e':[x,y,v]=[a,b,d]:=e;simp only [List.cons.injEq,and_true] at e';exact hh ⟨e'.1.symm,e'.2.1.symm,e'.2.2.symm⟩)]
   rw [Bool.and_eq_false_iff]
   by_cases h1:a=x
   ·right
    rw [Bool.and_eq_false_iff]
    by_cases h2:b=y
    ·right
     exact beq_eq_false_iff_ne.2 fun h3=>hh ⟨h1,h2,h3⟩
    ·left
     exact beq_eq_false_iff_ne.2 h2
   ·left
    exact beq_eq_false_iff_ne.2 h1
theorem z4k (c:UInt8):(0<=Lib.indexByte [123,125,40,41,91,93,59,44,46,63,58,61,43,45,42,47,37,33,60,62] c/\z2w.any (· == [c])=true)\/(¬ 0<=Lib.indexByte [123,125,40,41,91,93,59,44,46,63,58,61,43,45,42,47,37,33,60,62] c/\z2w.any (· == [c])=false):=by
 have key:=List.all_eq_true.1 (show ((List.range 256).all fun n=>decide (0<=Lib.indexByte [123,125,40,41,91,93,59,44,46,63,58,61,43,45,42,47,37,33,60,62] (UInt8.ofNat n)) == z2w.any (· == [UInt8.ofNat n]))=true by decide +kernel) c.toNat (List.mem_range.2 c.toNat_lt)
 rw [UInt8.ofNat_toNat] at key;have key2:=eq_of_beq key
 cases h:z2w.any (· == [c]) with
 | true =>
  rw [h] at key2;exact .inl ⟨oT key2,rfl⟩
 | false =>
  rw [h] at key2;exact .inr ⟨of_decide_eq_false key2,rfl⟩
theorem z0p {E:SO} (hE:E=zas) {s X1 X2 X3:ByteArray} {n z:Int} {c:UInt8} (hn:((s.size:Nat):Int)=n) (hn1:1<=n) (hX1:s.extract 0 1=X1) (hX2:s.extract 0 2=X2) (hX3:s.extract 0 3=X3) (hX2d:X2.data.toList=s.data.toList.take 2) (hc:s.data.toList[0]?=some c) (hz:((c.toNat:Nat):Int)=z) :
  E.size s=n/\(∀ a b,a<=b->E.ple a b)/\(E.ple 0 0/\E.ple 0 1/\E.ple 0 2/\E.ple 0 3/\E.ple 1 n)/\E.ext s (E.nat 0) (E.nat 1)=X1/\E.ext s (E.nat 0) (E.nat 2)=X2/\E.ext s (E.nat 0) (E.nat 3)=X3/\E.get s (E.nat 0)=some z/\(∀ t:ByteArray,s.data.toList.take 2=t.data.toList->E.eq X2 t=true)/\(∀ t:ByteArray,¬ s.data.toList.take 2=t.data.toList->E.eq X2 t=false):=by
 subst hE;have hp:∀ a b,a<=b->zas.ple a b:=fun a b h=>h
 refine ⟨hn,hp,⟨hp _ _ (by omega),hp _ _ (by omega),hp _ _ (by omega),hp _ _ (by omega),hp _ _ hn1⟩,hX1,hX2,hX3,?_,fun t h=>dT (zij (by rw [hX2d,h])),fun t h=>dF fun e=>h (by rw [<-e,hX2d])⟩
 show (s.data.toList[0]?).map _=some z;rw [hc,<- hz];rfl
def opR (l:Bs):ByteArray:=bL ((opL l).getD [])
set_option maxHeartbeats 4000000 in
theorem zqb (s:ByteArray) (c:UInt8) (r:Bs) (hcs:s.data.toList=c :: r) (hs:s.size<=1000000):RL 107 [pS s] (pS (opR s.data.toList)):=by
 obtain ⟨n,hn⟩:∃ n:Int,((s.size:Nat):Int)=n:=⟨_,rfl⟩
 have hsz:s.size=r.length + 1:=by
  have e:s.data.toList.length=s.size:=rfl;rw [hcs] at e;exact e.symm
 obtain ⟨z,hz⟩:∃ z:Int,((c.toNat:Nat):Int)=z:=⟨_,rfl⟩
 have hb1:=upL (zki s ⟨#[61,61,61]⟩);have hb2:=upL (zki s ⟨#[33,61,61]⟩);change RL _ _ (pB (Lib.hasPrefix s.data.toList [61,61,61])) at hb1;change RL _ _ (pB (Lib.hasPrefix s.data.toList [33,61,61])) at hb2;rw [pre3] at hb1 hb2;have hi:=upL (zed ⟨#[123,125,40,41,91,93,59,44,46,63,58,61,43,45,42,47,37,33,60,62]⟩ c z hz);change RL _ _ (pI (Lib.indexByte [123,125,40,41,91,93,59,44,46,63,58,61,43,45,42,47,37,33,60,62] c)) at hi;have htab:=z4k c;obtain ⟨i1,hi1⟩:∃ i:Int,Lib.indexByte [123,125,40,41,91,93,59,44,46,63,58,61,43,45,42,47,37,33,60,62] c=i:=⟨_,rfl⟩
 rw [hi1] at hi htab;have hext:∀ k:Nat,(s.extract 0 k).data.toList=s.data.toList.take k:=fun k=>by rw [zn4];rfl
 have hR3:zqd.any (· == s.data.toList.take 3)=true->opR s.data.toList=s.extract 0 3:=fun h=>by
  refine zij ?_;unfold opR opL;rw [if_pos h,hext];unfold bL;simp
 have hR2:zqd.any (· == s.data.toList.take 3)=false->zrx.any (· == s.data.toList.take 2)=true->opR s.data.toList=s.extract 0 2:=fun h3 h=>by
  refine zij ?_;unfold opR opL;rw [if_neg (by rw [h3];decide),if_pos h,hext]
  unfold bL;simp
 have hR1:zqd.any (· == s.data.toList.take 3)=false->zrx.any (· == s.data.toList.take 2)=false->z2w.any (· == s.data.toList.take 1)=true->opR s.data.toList=s.extract 0 1:=fun h3 h2 h=>by
  refine zij ?_;unfold opR opL;rw [if_neg (by rw [h3];decide),if_neg (by rw [h2];decide),if_pos h,hext]
  unfold bL;simp
 have hR0:zqd.any (· == s.data.toList.take 3)=false->zrx.any (· == s.data.toList.take 2)=false->z2w.any (· == s.data.toList.take 1)=false->opR s.data.toList=⟨#[]⟩:=fun h3 h2 h=>by
  unfold opR opL;rw [if_neg (by rw [h3];decide),if_neg (by rw [h2];decide),if_neg (by rw [h];decide)]
  rfl
 have h1c:s.data.toList.take 1=[c]:=by rw [hcs];rfl
 obtain ⟨RV,hRV⟩:∃ x,opR s.data.toList=x:=⟨_,rfl⟩
 rw [hRV] at hR0 hR1 hR2 hR3 ⊢;rw [h1c] at hR0 hR1;obtain ⟨X1,hX1⟩:∃ x,s.extract 0 1=x:=⟨_,rfl⟩
 obtain ⟨X2,hX2⟩:∃ x,s.extract 0 2=x:=⟨_,rfl⟩
 obtain ⟨X3,hX3⟩:∃ x,s.extract 0 3=x:=⟨_,rfl⟩
 rw [hX1] at hR1;rw [hX2] at hR2;rw [hX3] at hR3;have hX2d:X2.data.toList=s.data.toList.take 2:=by rw [<-hX2,hext]
 have hn1:1<=n:=by omega
 have opf:=fun {E:SO} (hE:E=zas)=>z0p hE hn hn1 hX1 hX2 hX3 hX2d (show s.data.toList[0]?=some c by rw [hcs];rfl) hz
 have hlen:∀ (k:Nat) (l:Bs),s.data.toList.take k=l->l.length<=s.size:=fun k l h=>by
  rw [<-h,List.length_take];exact Nat.min_le_right _ _
 rcases cEm (s.data.toList.take 3=[61,61,61]) with ha|ha
 ·have hv:=hR3 (by rw [ha];decide)
  rw [dT ha] at hb1;have hln:3<=s.size:=hlen 3 _ ha;refine zaq zaa zbu mixed (fun _=>0) Tryz.func107 rfl (by kernel_rfl) (by kernel_rfl) rfl fun P G E hc hE=>?_
  replace hb1:=hc _ _ _ hb1;obtain ⟨z1,eple,⟨p00,p01,p02,p03,p1n⟩,x1,x2,x3,g0,eT,eF⟩:=opf hE;have p3n:E.ple 3 n:=eple _ _ (by omega)
  subst hv;clear hE hc hb2 hi htab hi1 hext hR0 hR1 hR2 hR3 h1c hRV hX1 hX2 hX2d eple eT eF hn1 opf hlen hcs hz hn hsz hs ha hln;cbv
  repeat (first|(simp only [z1];cbv)|simp only [z1]|(refine ⟨_,hb1,?_⟩;cbv)|(refine ⟨p00,p03,p3n,?_⟩;cbv)|(refine ⟨p03,p3n,?_⟩;cbv)|(simp only [x3];cbv)|simp only [x3])
 rw [dF ha] at hb1
 rcases cEm (s.data.toList.take 3=[33,61,61]) with hb|hb
 ·have hv:=hR3 (by rw [hb];decide)
  rw [dT hb] at hb2;have hln:3<=s.size:=hlen 3 _ hb;refine zaq zaa zbu mixed (fun _=>0) Tryz.func107 rfl (by kernel_rfl) (by kernel_rfl) rfl fun P G E hc hE=>?_
  replace hb1:=hc _ _ _ hb1;replace hb2:=hc _ _ _ hb2;obtain ⟨z1,eple,⟨p00,p01,p02,p03,p1n⟩,x1,x2,x3,g0,eT,eF⟩:=opf hE;have p3n:E.ple 3 n:=eple _ _ (by omega)
  subst hv;clear hE hc hi htab hi1 hext hR0 hR1 hR2 hR3 h1c hRV hX1 hX2 hX2d eple eT eF hn1 opf hlen hcs hz hn hsz hs ha hb hln;cbv
  repeat (first|(simp only [z1];cbv)|simp only [z1]|(refine ⟨_,hb1,?_⟩;cbv)|(refine ⟨_,hb2,?_⟩;cbv)|(refine ⟨p00,p03,p3n,?_⟩;cbv)|(refine ⟨p03,p3n,?_⟩;cbv)|(simp only [x3];cbv)|simp only [x3])
 rw [dF hb] at hb2;have h3f:zqd.any (· == s.data.toList.take 3)=false:=by
  unfold zqd;simp only [List.any_cons,List.any_nil,Bool.or_false,Bool.or_eq_false_iff,beq_eq_false_iff_ne];exact ⟨Ne.symm ha,Ne.symm hb⟩
 replace hR0:=hR0 h3f;replace hR1:=hR1 h3f;replace hR2:=hR2 h3f;clear hR3 h3f
 rcases cEm (s.data.toList.take 2=[43,61]) with e0|e0
 ·have hv:=hR2 (by rw [e0];decide)
  have hln:2<=s.size:=hlen 2 _ e0;refine zaq zaa zbu mixed (fun _=>0) Tryz.func107 rfl (by kernel_rfl) (by kernel_rfl) rfl fun P G E hc hE=>?_
  replace hb1:=hc _ _ _ hb1;replace hb2:=hc _ _ _ hb2;obtain ⟨z1,eple,⟨p00,p01,p02,p03,p1n⟩,x1,x2,x3,g0,eT,eF⟩:=opf hE;have d3:E.lti 1 n=true:=by rw [hE];exact dT (by omega)
  have p2n:E.ple 2 n:=eple _ _ (by omega)
  have q:=eT ⟨#[43,61]⟩ e0;subst hv;clear hE hc hi htab hi1 hext hR0 hR1 hR2 h1c hRV hX1 hX3 hX2d eple eT eF hn1 opf hlen hcs hz hn hsz hs ha hb hln e0;cbv
  repeat (first|(simp only [z1];cbv)|simp only [z1]|(refine ⟨_,hb1,?_⟩;cbv)|(refine ⟨_,hb2,?_⟩;cbv)|(simp only [d3];cbv)|simp only [d3]|(refine ⟨p00,p02,p2n,?_⟩;cbv)|(refine ⟨p02,p2n,?_⟩;cbv)|(simp only [x2];cbv)|simp only [x2]|(simp only [q];cbv)|simp only [q])
 rcases cEm (s.data.toList.take 2=[45,61]) with e1|e1
 ·have hv:=hR2 (by rw [e1];decide)
  have hln:2<=s.size:=hlen 2 _ e1;refine zaq zaa zbu mixed (fun _=>0) Tryz.func107 rfl (by kernel_rfl) (by kernel_rfl) rfl fun P G E hc hE=>?_
  replace hb1:=hc _ _ _ hb1;replace hb2:=hc _ _ _ hb2;obtain ⟨z1,eple,⟨p00,p01,p02,p03,p1n⟩,x1,x2,x3,g0,eT,eF⟩:=opf hE;have d3:E.lti 1 n=true:=by rw [hE];exact dT (by omega)
  have p2n:E.ple 2 n:=eple _ _ (by omega)
  have q:=eT ⟨#[45,61]⟩ e1;replace e0:=eF ⟨#[43,61]⟩ e0;subst hv;clear hE hc hi htab hi1 hext hR0 hR1 hR2 h1c hRV hX1 hX3 hX2d eple eT eF hn1 opf hlen hcs hz hn hsz hs ha hb hln e1;cbv
  repeat (first|(simp only [z1];cbv)|simp only [z1]|(refine ⟨_,hb1,?_⟩;cbv)|(refine ⟨_,hb2,?_⟩;cbv)|(simp only [d3];cbv)|simp only [d3]|(refine ⟨p00,p02,p2n,?_⟩;cbv)|(refine ⟨p02,p2n,?_⟩;cbv)|(simp only [x2];cbv)|simp only [x2]|(simp only [e0,q];cbv)|simp only [e0,q])
 rcases cEm (s.data.toList.take 2=[42,61]) with e2|e2
 ·have hv:=hR2 (by rw [e2];decide)
  have hln:2<=s.size:=hlen 2 _ e2;refine zaq zaa zbu mixed (fun _=>0) Tryz.func107 rfl (by kernel_rfl) (by kernel_rfl) rfl fun P G E hc hE=>?_
  replace hb1:=hc _ _ _ hb1;replace hb2:=hc _ _ _ hb2;obtain ⟨z1,eple,⟨p00,p01,p02,p03,p1n⟩,x1,x2,x3,g0,eT,eF⟩:=opf hE;have d3:E.lti 1 n=true:=by rw [hE];exact dT (by omega)
  have p2n:E.ple 2 n:=eple _ _ (by omega)
  have q:=eT ⟨#[42,61]⟩ e2;replace e0:=eF ⟨#[43,61]⟩ e0;replace e1:=eF ⟨#[45,61]⟩ e1;subst hv;clear hE hc hi htab hi1 hext hR0 hR1 hR2 h1c hRV hX1 hX3 hX2d eple eT eF hn1 opf hlen hcs hz hn hsz hs ha hb hln e2;cbv
  repeat (first|(simp only [z1];cbv)|simp only [z1]|(refine ⟨_,hb1,?_⟩;cbv)|(refine ⟨_,hb2,?_⟩;cbv)|(simp only [d3];cbv)|simp only [d3]|(refine ⟨p00,p02,p2n,?_⟩;cbv)|(refine ⟨p02,p2n,?_⟩;cbv)|(simp only [x2];cbv)|simp only [x2]|(simp only [e0,e1,q];cbv)|simp only [e0,e1,q])
 rcases cEm (s.data.toList.take 2=[61,61]) with e3|e3
 ·have hv:=hR2 (by rw [e3];decide)
  have hln:2<=s.size:=hlen 2 _ e3;refine zaq zaa zbu mixed (fun _=>0) Tryz.func107 rfl (by kernel_rfl) (by kernel_rfl) rfl fun P G E hc hE=>?_
  replace hb1:=hc _ _ _ hb1;replace hb2:=hc _ _ _ hb2;obtain ⟨z1,eple,⟨p00,p01,p02,p03,p1n⟩,x1,x2,x3,g0,eT,eF⟩:=opf hE;have d3:E.lti 1 n=true:=by rw [hE];exact dT (by omega)
  have p2n:E.ple 2 n:=eple _ _ (by omega)
  have q:=eT ⟨#[61,61]⟩ e3;replace e0:=eF ⟨#[43,61]⟩ e0;replace e1:=eF ⟨#[45,61]⟩ e1;replace e2:=eF ⟨#[42,61]⟩ e2;subst hv;clear hE hc hi htab hi1 hext hR0 hR1 hR2 h1c hRV hX1 hX3 hX2d eple eT eF hn1 opf hlen hcs hz hn hsz hs ha hb hln e3;cbv
  repeat (first|(simp only [z1];cbv)|simp only [z1]|(refine ⟨_,hb1,?_⟩;cbv)|(refine ⟨_,hb2,?_⟩;cbv)|(simp only [d3];cbv)|simp only [d3]|(refine ⟨p00,p02,p2n,?_⟩;cbv)|(refine ⟨p02,p2n,?_⟩;cbv)|(simp only [x2];cbv)|simp only [x2]|(simp only [e0,e1,e2,q];cbv)|simp only [e0,e1,e2,q])
 rcases cEm (s.data.toList.take 2=[33,61]) with e4|e4
 ·have hv:=hR2 (by rw [e4];decide)
  have hln:2<=s.size:=hlen 2 _ e4;refine zaq zaa zbu mixed (fun _=>0) Tryz.func107 rfl (by kernel_rfl) (by kernel_rfl) rfl fun P G E hc hE=>?_
  replace hb1:=hc _ _ _ hb1;replace hb2:=hc _ _ _ hb2;obtain ⟨z1,eple,⟨p00,p01,p02,p03,p1n⟩,x1,x2,x3,g0,eT,eF⟩:=opf hE;have d3:E.lti 1 n=true:=by rw [hE];exact dT (by omega)
  have p2n:E.ple 2 n:=eple _ _ (by omega)
  have q:=eT ⟨#[33,61]⟩ e4;replace e0:=eF ⟨#[43,61]⟩ e0;replace e1:=eF ⟨#[45,61]⟩ e1;replace e2:=eF ⟨#[42,61]⟩ e2;replace e3:=eF ⟨#[61,61]⟩ e3;subst hv;clear hE hc hi htab hi1 hext hR0 hR1 hR2 h1c hRV hX1 hX3 hX2d eple eT eF hn1 opf hlen hcs hz hn hsz hs ha hb hln e4;cbv
  repeat (first|(simp only [z1];cbv)|simp only [z1]|(refine ⟨_,hb1,?_⟩;cbv)|(refine ⟨_,hb2,?_⟩;cbv)|(simp only [d3];cbv)|simp only [d3]|(refine ⟨p00,p02,p2n,?_⟩;cbv)|(refine ⟨p02,p2n,?_⟩;cbv)|(simp only [x2];cbv)|simp only [x2]|(simp only [e0,e1,e2,e3,q];cbv)|simp only [e0,e1,e2,e3,q])
 rcases cEm (s.data.toList.take 2=[60,61]) with e5|e5
 ·have hv:=hR2 (by rw [e5];decide)
  have hln:2<=s.size:=hlen 2 _ e5;refine zaq zaa zbu mixed (fun _=>0) Tryz.func107 rfl (by kernel_rfl) (by kernel_rfl) rfl fun P G E hc hE=>?_
  replace hb1:=hc _ _ _ hb1;replace hb2:=hc _ _ _ hb2;obtain ⟨z1,eple,⟨p00,p01,p02,p03,p1n⟩,x1,x2,x3,g0,eT,eF⟩:=opf hE;have d3:E.lti 1 n=true:=by rw [hE];exact dT (by omega)
  have p2n:E.ple 2 n:=eple _ _ (by omega)
  have q:=eT ⟨#[60,61]⟩ e5;replace e0:=eF ⟨#[43,61]⟩ e0;replace e1:=eF ⟨#[45,61]⟩ e1;replace e2:=eF ⟨#[42,61]⟩ e2;replace e3:=eF ⟨#[61,61]⟩ e3;replace e4:=eF ⟨#[33,61]⟩ e4;subst hv;clear hE hc hi htab hi1 hext hR0 hR1 hR2 h1c hRV hX1 hX3 hX2d eple eT eF hn1 opf hlen hcs hz hn hsz hs ha hb hln e5;cbv
  repeat (first|(simp only [z1];cbv)|simp only [z1]|(refine ⟨_,hb1,?_⟩;cbv)|(refine ⟨_,hb2,?_⟩;cbv)|(simp only [d3];cbv)|simp only [d3]|(refine ⟨p00,p02,p2n,?_⟩;cbv)|(refine ⟨p02,p2n,?_⟩;cbv)|(simp only [x2];cbv)|simp only [x2]|(simp only [e0,e1,e2,e3,e4,q];cbv)|simp only [e0,e1,e2,e3,e4,q])
 rcases cEm (s.data.toList.take 2=[62,61]) with e6|e6
 ·have hv:=hR2 (by rw [e6];decide)
  have hln:2<=s.size:=hlen 2 _ e6;refine zaq zaa zbu mixed (fun _=>0) Tryz.func107 rfl (by kernel_rfl) (by kernel_rfl) rfl fun P G E hc hE=>?_
  replace hb1:=hc _ _ _ hb1;replace hb2:=hc _ _ _ hb2;obtain ⟨z1,eple,⟨p00,p01,p02,p03,p1n⟩,x1,x2,x3,g0,eT,eF⟩:=opf hE;have d3:E.lti 1 n=true:=by rw [hE];exact dT (by omega)
  have p2n:E.ple 2 n:=eple _ _ (by omega)
  have q:=eT ⟨#[62,61]⟩ e6;replace e0:=eF ⟨#[43,61]⟩ e0;replace e1:=eF ⟨#[45,61]⟩ e1;replace e2:=eF ⟨#[42,61]⟩ e2;replace e3:=eF ⟨#[61,61]⟩ e3;replace e4:=eF ⟨#[33,61]⟩ e4;replace e5:=eF ⟨#[60,61]⟩ e5;subst hv;clear hE hc hi htab hi1 hext hR0 hR1 hR2 h1c hRV hX1 hX3 hX2d eple eT eF hn1 opf hlen hcs hz hn hsz hs ha hb hln e6;cbv
  repeat (first|(simp only [z1];cbv)|simp only [z1]|(refine ⟨_,hb1,?_⟩;cbv)|(refine ⟨_,hb2,?_⟩;cbv)|(simp only [d3];cbv)|simp only [d3]|(refine ⟨p00,p02,p2n,?_⟩;cbv)|(refine ⟨p02,p2n,?_⟩;cbv)|(simp only [x2];cbv)|simp only [x2]|(simp only [e0,e1,e2,e3,e4,e5,q];cbv)|simp only [e0,e1,e2,e3,e4,e5,q])
 rcases cEm (s.data.toList.take 2=[38,38]) with e7|e7
 ·have hv:=hR2 (by rw [e7];decide)
  have hln:2<=s.size:=hlen 2 _ e7;refine zaq zaa zbu mixed (fun _=>0) Tryz.func107 rfl (by kernel_rfl) (by kernel_rfl) rfl fun P G E hc hE=>?_
  replace hb1:=hc _ _ _ hb1;replace hb2:=hc _ _ _ hb2;obtain ⟨z1,eple,⟨p00,p01,p02,p03,p1n⟩,x1,x2,x3,g0,eT,eF⟩:=opf hE;have d3:E.lti 1 n=true:=by rw [hE];exact dT (by omega)
  have p2n:E.ple 2 n:=eple _ _ (by omega)
  have q:=eT ⟨#[38,38]⟩ e7;replace e0:=eF ⟨#[43,61]⟩ e0;replace e1:=eF ⟨#[45,61]⟩ e1;replace e2:=eF ⟨#[42,61]⟩ e2;replace e3:=eF ⟨#[61,61]⟩ e3;replace e4:=eF ⟨#[33,61]⟩ e4;replace e5:=eF ⟨#[60,61]⟩ e5;replace e6:=eF ⟨#[62,61]⟩ e6;subst hv;clear hE hc hi htab hi1 hext hR0 hR1 hR2 h1c hRV hX1 hX3 hX2d eple eT eF hn1 opf hlen hcs hz hn hsz hs ha hb hln e7;cbv
  repeat (first|(simp only [z1];cbv)|simp only [z1]|(refine ⟨_,hb1,?_⟩;cbv)|(refine ⟨_,hb2,?_⟩;cbv)|(simp only [d3];cbv)|simp only [d3]|(refine ⟨p00,p02,p2n,?_⟩;cbv)|(refine ⟨p02,p2n,?_⟩;cbv)|(simp only [x2];cbv)|simp only [x2]|(simp only [e0,e1,e2,e3,e4,e5,e6,q];cbv)|simp only [e0,e1,e2,e3,e4,e5,e6,q])
 rcases cEm (s.data.toList.take 2=[124,124]) with e8|e8
 ·have hv:=hR2 (by rw [e8];decide)
  have hln:2<=s.size:=hlen 2 _ e8;refine zaq zaa zbu mixed (fun _=>0) Tryz.func107 rfl (by kernel_rfl) (by kernel_rfl) rfl fun P G E hc hE=>?_
  replace hb1:=hc _ _ _ hb1;replace hb2:=hc _ _ _ hb2;obtain ⟨z1,eple,⟨p00,p01,p02,p03,p1n⟩,x1,x2,x3,g0,eT,eF⟩:=opf hE;have d3:E.lti 1 n=true:=by rw [hE];exact dT (by omega)
  have p2n:E.ple 2 n:=eple _ _ (by omega)
  have q:=eT ⟨#[124,124]⟩ e8;replace e0:=eF ⟨#[43,61]⟩ e0;replace e1:=eF ⟨#[45,61]⟩ e1;replace e2:=eF ⟨#[42,61]⟩ e2;replace e3:=eF ⟨#[61,61]⟩ e3;replace e4:=eF ⟨#[33,61]⟩ e4;replace e5:=eF ⟨#[60,61]⟩ e5;replace e6:=eF ⟨#[62,61]⟩ e6;replace e7:=eF ⟨#[38,38]⟩ e7;subst hv;clear hE hc hi htab hi1 hext hR0 hR1 hR2 h1c hRV hX1 hX3 hX2d eple eT eF hn1 opf hlen hcs hz hn hsz hs ha hb hln e8;cbv
  repeat (first|(simp only [z1];cbv)|simp only [z1]|(refine ⟨_,hb1,?_⟩;cbv)|(refine ⟨_,hb2,?_⟩;cbv)|(simp only [d3];cbv)|simp only [d3]|(refine ⟨p00,p02,p2n,?_⟩;cbv)|(refine ⟨p02,p2n,?_⟩;cbv)|(simp only [x2];cbv)|simp only [x2]|(simp only [e0,e1,e2,e3,e4,e5,e6,e7,q];cbv)|simp only [e0,e1,e2,e3,e4,e5,e6,e7,q])
 rcases cEm (s.data.toList.take 2=[63,63]) with e9|e9
 ·have hv:=hR2 (by rw [e9];decide)
  have hln:2<=s.size:=hlen 2 _ e9;refine zaq zaa zbu mixed (fun _=>0) Tryz.func107 rfl (by kernel_rfl) (by kernel_rfl) rfl fun P G E hc hE=>?_
  replace hb1:=hc _ _ _ hb1;replace hb2:=hc _ _ _ hb2;obtain ⟨z1,eple,⟨p00,p01,p02,p03,p1n⟩,x1,x2,x3,g0,eT,eF⟩:=opf hE;have d3:E.lti 1 n=true:=by rw [hE];exact dT (by omega)
  have p2n:E.ple 2 n:=eple _ _ (by omega)
  have q:=eT ⟨#[63,63]⟩ e9;replace e0:=eF ⟨#[43,61]⟩ e0;replace e1:=eF ⟨#[45,61]⟩ e1;replace e2:=eF ⟨#[42,61]⟩ e2;replace e3:=eF ⟨#[61,61]⟩ e3;replace e4:=eF ⟨#[33,61]⟩ e4;replace e5:=eF ⟨#[60,61]⟩ e5;replace e6:=eF ⟨#[62,61]⟩ e6;replace e7:=eF ⟨#[38,38]⟩ e7;replace e8:=eF ⟨#[124,124]⟩ e8;subst hv;clear hE hc hi htab hi1 hext hR0 hR1 hR2 h1c hRV hX1 hX3 hX2d eple eT eF hn1 opf hlen hcs hz hn hsz hs ha hb hln e9;cbv
  repeat (first|(simp only [z1];cbv)|simp only [z1]|(refine ⟨_,hb1,?_⟩;cbv)|(refine ⟨_,hb2,?_⟩;cbv)|(simp only [d3];cbv)|simp only [d3]|(refine ⟨p00,p02,p2n,?_⟩;cbv)|(refine ⟨p02,p2n,?_⟩;cbv)|(simp only [x2];cbv)|simp only [x2]|(simp only [e0,e1,e2,e3,e4,e5,e6,e7,e8,q];cbv)|simp only [e0,e1,e2,e3,e4,e5,e6,e7,e8,q])
 rcases cEm (s.data.toList.take 2=[61,62]) with e10|e10
 ·have hv:=hR2 (by rw [e10];decide)
  have hln:2<=s.size:=hlen 2 _ e10;refine zaq zaa zbu mixed (fun _=>0) Tryz.func107 rfl (by kernel_rfl) (by kernel_rfl) rfl fun P G E hc hE=>?_
  replace hb1:=hc _ _ _ hb1;replace hb2:=hc _ _ _ hb2;obtain ⟨z1,eple,⟨p00,p01,p02,p03,p1n⟩,x1,x2,x3,g0,eT,eF⟩:=opf hE;have d3:E.lti 1 n=true:=by rw [hE];exact dT (by omega)
  have p2n:E.ple 2 n:=eple _ _ (by omega)
  have q:=eT ⟨#[61,62]⟩ e10;replace e0:=eF ⟨#[43,61]⟩ e0;replace e1:=eF ⟨#[45,61]⟩ e1;replace e2:=eF ⟨#[42,61]⟩ e2;replace e3:=eF ⟨#[61,61]⟩ e3;replace e4:=eF ⟨#[33,61]⟩ e4;replace e5:=eF ⟨#[60,61]⟩ e5;replace e6:=eF ⟨#[62,61]⟩ e6;replace e7:=eF ⟨#[38,38]⟩ e7;replace e8:=eF ⟨#[124,124]⟩ e8;replace e9:=eF ⟨#[63,63]⟩ e9;subst hv;clear hE hc hi htab hi1 hext hR0 hR1 hR2 h1c hRV hX1 hX3 hX2d eple eT eF hn1 opf hlen hcs hz hn hsz hs ha hb hln e10;cbv
  repeat (first|(simp only [z1];cbv)|simp only [z1]|(refine ⟨_,hb1,?_⟩;cbv)|(refine ⟨_,hb2,?_⟩;cbv)|(simp only [d3];cbv)|simp only [d3]|(refine ⟨p00,p02,p2n,?_⟩;cbv)|(refine ⟨p02,p2n,?_⟩;cbv)|(simp only [x2];cbv)|simp only [x2]|(simp only [e0,e1,e2,e3,e4,e5,e6,e7,e8,e9,q];cbv)|simp only [e0,e1,e2,e3,e4,e5,e6,e7,e8,e9,q])
 rcases cEm (s.data.toList.take 2=[43,43]) with e11|e11
 ·have hv:=hR2 (by rw [e11];decide)
  have hln:2<=s.size:=hlen 2 _ e11;refine zaq zaa zbu mixed (fun _=>0) Tryz.func107 rfl (by kernel_rfl) (by kernel_rfl) rfl fun P G E hc hE=>?_
  replace hb1:=hc _ _ _ hb1;replace hb2:=hc _ _ _ hb2;obtain ⟨z1,eple,⟨p00,p01,p02,p03,p1n⟩,x1,x2,x3,g0,eT,eF⟩:=opf hE;have d3:E.lti 1 n=true:=by rw [hE];exact dT (by omega)
  have p2n:E.ple 2 n:=eple _ _ (by omega)
  have q:=eT ⟨#[43,43]⟩ e11;replace e0:=eF ⟨#[43,61]⟩ e0;replace e1:=eF ⟨#[45,61]⟩ e1;replace e2:=eF ⟨#[42,61]⟩ e2;replace e3:=eF ⟨#[61,61]⟩ e3;replace e4:=eF ⟨#[33,61]⟩ e4;replace e5:=eF ⟨#[60,61]⟩ e5;replace e6:=eF ⟨#[62,61]⟩ e6;replace e7:=eF ⟨#[38,38]⟩ e7;replace e8:=eF ⟨#[124,124]⟩ e8;replace e9:=eF ⟨#[63,63]⟩ e9;replace e10:=eF ⟨#[61,62]⟩ e10;subst hv;clear hE hc hi htab hi1 hext hR0 hR1 hR2 h1c hRV hX1 hX3 hX2d eple eT eF hn1 opf hlen hcs hz hn hsz hs ha hb hln e11;cbv
  repeat (first|(simp only [z1];cbv)|simp only [z1]|(refine ⟨_,hb1,?_⟩;cbv)|(refine ⟨_,hb2,?_⟩;cbv)|(simp only [d3];cbv)|simp only [d3]|(refine ⟨p00,p02,p2n,?_⟩;cbv)|(refine ⟨p02,p2n,?_⟩;cbv)|(simp only [x2];cbv)|simp only [x2]|(simp only [e0,e1,e2,e3,e4,e5,e6,e7,e8,e9,e10,q];cbv)|simp only [e0,e1,e2,e3,e4,e5,e6,e7,e8,e9,e10,q])
 rcases cEm (s.data.toList.take 2=[45,45]) with e12|e12
 ·have hv:=hR2 (by rw [e12];decide)
  have hln:2<=s.size:=hlen 2 _ e12;refine zaq zaa zbu mixed (fun _=>0) Tryz.func107 rfl (by kernel_rfl) (by kernel_rfl) rfl fun P G E hc hE=>?_
  replace hb1:=hc _ _ _ hb1;replace hb2:=hc _ _ _ hb2;obtain ⟨z1,eple,⟨p00,p01,p02,p03,p1n⟩,x1,x2,x3,g0,eT,eF⟩:=opf hE;have d3:E.lti 1 n=true:=by rw [hE];exact dT (by omega)
  have p2n:E.ple 2 n:=eple _ _ (by omega)
  have q:=eT ⟨#[45,45]⟩ e12;replace e0:=eF ⟨#[43,61]⟩ e0;replace e1:=eF ⟨#[45,61]⟩ e1;replace e2:=eF ⟨#[42,61]⟩ e2;replace e3:=eF ⟨#[61,61]⟩ e3;replace e4:=eF ⟨#[33,61]⟩ e4;replace e5:=eF ⟨#[60,61]⟩ e5;replace e6:=eF ⟨#[62,61]⟩ e6;replace e7:=eF ⟨#[38,38]⟩ e7;replace e8:=eF ⟨#[124,124]⟩ e8;replace e9:=eF ⟨#[63,63]⟩ e9;replace e10:=eF ⟨#[61,62]⟩ e10;replace e11:=eF ⟨#[43,43]⟩ e11;subst hv;clear hE hc hi htab hi1 hext hR0 hR1 hR2 h1c hRV hX1 hX3 hX2d eple eT eF hn1 opf hlen hcs hz hn hsz hs ha hb hln e12;cbv
  repeat (first|(simp only [z1];cbv)|simp only [z1]|(refine ⟨_,hb1,?_⟩;cbv)|(refine ⟨_,hb2,?_⟩;cbv)|(simp only [d3];cbv)|simp only [d3]|(refine ⟨p00,p02,p2n,?_⟩;cbv)|(refine ⟨p02,p2n,?_⟩;cbv)|(simp only [x2];cbv)|simp only [x2]|(simp only [e0,e1,e2,e3,e4,e5,e6,e7,e8,e9,e10,e11,q];cbv)|simp only [e0,e1,e2,e3,e4,e5,e6,e7,e8,e9,e10,e11,q])
 have h2f:zrx.any (· == s.data.toList.take 2)=false:=by
  unfold zrx;simp only [List.any_cons,List.any_nil,Bool.or_false,Bool.or_eq_false_iff,beq_eq_false_iff_ne];exact ⟨Ne.symm e0,Ne.symm e1,Ne.symm e2,Ne.symm e3,Ne.symm e4,Ne.symm e5,Ne.symm e6,Ne.symm e7,Ne.symm e8,Ne.symm e9,Ne.symm e10,Ne.symm e11,Ne.symm e12⟩
 replace hR0:=hR0 h2f;replace hR1:=hR1 h2f;clear hR2 h2f
 rcases cEm (1 < n) with h1n|h1n
 ·skip
  rcases htab with ⟨ht1,ht2⟩|⟨ht1,ht2⟩
  ·have hv:=hR1 ht2;refine zaq zaa zbu mixed (fun _=>0) Tryz.func107 rfl (by kernel_rfl) (by kernel_rfl) rfl fun P G E hc hE=>?_
   replace hb1:=hc _ _ _ hb1;replace hb2:=hc _ _ _ hb2;replace hi:=hc _ _ _ hi;obtain ⟨z1,eple,⟨p00,p01,p02,p03,p1n⟩,x1,x2,x3,g0,eT,eF⟩:=opf hE;have d4:E.lei 0 i1=decide (0<=i1):=by rw [hE];rfl
   rw [dT ht1] at d4;have d3:E.lti 1 n=true:=by rw [hE];exact dT h1n
   have p2n:E.ple 2 n:=eple _ _ (by omega)
   replace e0:=eF ⟨#[43,61]⟩ e0;replace e1:=eF ⟨#[45,61]⟩ e1;replace e2:=eF ⟨#[42,61]⟩ e2;replace e3:=eF ⟨#[61,61]⟩ e3;replace e4:=eF ⟨#[33,61]⟩ e4;replace e5:=eF ⟨#[60,61]⟩ e5;replace e6:=eF ⟨#[62,61]⟩ e6;replace e7:=eF ⟨#[38,38]⟩ e7;replace e8:=eF ⟨#[124,124]⟩ e8;replace e9:=eF ⟨#[63,63]⟩ e9;replace e10:=eF ⟨#[61,62]⟩ e10;replace e11:=eF ⟨#[43,43]⟩ e11;replace e12:=eF ⟨#[45,45]⟩ e12;subst hv;clear hE hc hi1 hext hR0 hR1 h1c hRV hX2 hX3 hX2d eple eT eF hn1 opf hlen hcs hz hn hsz hs ha hb h1n ht1 ht2;cbv
   repeat (first|(simp only [z1];cbv)|simp only [z1]|(refine ⟨_,hb1,?_⟩;cbv)|(refine ⟨_,hb2,?_⟩;cbv)|(simp only [d3];cbv)|simp only [d3]|(refine ⟨p00,p02,p2n,?_⟩;cbv)|(refine ⟨p02,p2n,?_⟩;cbv)|(simp only [x2];cbv)|simp only [x2]|(simp only [e0,e1,e2,e3,e4,e5,e6,e7,e8,e9,e10,e11,e12];cbv)|simp only [e0,e1,e2,e3,e4,e5,e6,e7,e8,e9,e10,e11,e12]|(refine ⟨p00,_,g0,?_⟩;cbv)|(refine ⟨_,hi,?_⟩;cbv)|(simp only [d4];cbv)|simp only [d4]|(refine ⟨p00,p01,p1n,?_⟩;cbv)|(refine ⟨p01,p1n,?_⟩;cbv)|(simp only [x1];cbv)|simp only [x1])
  ·have hv:=hR0 ht2;refine zaq zaa zbu mixed (fun _=>0) Tryz.func107 rfl (by kernel_rfl) (by kernel_rfl) rfl fun P G E hc hE=>?_
   replace hb1:=hc _ _ _ hb1;replace hb2:=hc _ _ _ hb2;replace hi:=hc _ _ _ hi;obtain ⟨z1,eple,⟨p00,p01,p02,p03,p1n⟩,x1,x2,x3,g0,eT,eF⟩:=opf hE;have d4:E.lei 0 i1=decide (0<=i1):=by rw [hE];rfl
   rw [dF ht1] at d4;have d3:E.lti 1 n=true:=by rw [hE];exact dT h1n
   have p2n:E.ple 2 n:=eple _ _ (by omega)
   replace e0:=eF ⟨#[43,61]⟩ e0;replace e1:=eF ⟨#[45,61]⟩ e1;replace e2:=eF ⟨#[42,61]⟩ e2;replace e3:=eF ⟨#[61,61]⟩ e3;replace e4:=eF ⟨#[33,61]⟩ e4;replace e5:=eF ⟨#[60,61]⟩ e5;replace e6:=eF ⟨#[62,61]⟩ e6;replace e7:=eF ⟨#[38,38]⟩ e7;replace e8:=eF ⟨#[124,124]⟩ e8;replace e9:=eF ⟨#[63,63]⟩ e9;replace e10:=eF ⟨#[61,62]⟩ e10;replace e11:=eF ⟨#[43,43]⟩ e11;replace e12:=eF ⟨#[45,45]⟩ e12;subst hv;clear hE hc hi1 hext hR0 hR1 h1c hRV hX1 hX2 hX3 hX2d eple eT eF hn1 opf hlen hcs hz hn hsz hs ha hb h1n ht1 ht2;cbv
   repeat (first|(simp only [z1];cbv)|simp only [z1]|(refine ⟨_,hb1,?_⟩;cbv)|(refine ⟨_,hb2,?_⟩;cbv)|(simp only [d3];cbv)|simp only [d3]|(refine ⟨p00,p02,p2n,?_⟩;cbv)|(refine ⟨p02,p2n,?_⟩;cbv)|(simp only [x2];cbv)|simp only [x2]|(simp only [e0,e1,e2,e3,e4,e5,e6,e7,e8,e9,e10,e11,e12];cbv)|simp only [e0,e1,e2,e3,e4,e5,e6,e7,e8,e9,e10,e11,e12]|(refine ⟨p00,_,g0,?_⟩;cbv)|(refine ⟨_,hi,?_⟩;cbv)|(simp only [d4];cbv)|simp only [d4])
 ·skip
  rcases htab with ⟨ht1,ht2⟩|⟨ht1,ht2⟩
  ·have hv:=hR1 ht2;refine zaq zaa zbu mixed (fun _=>0) Tryz.func107 rfl (by kernel_rfl) (by kernel_rfl) rfl fun P G E hc hE=>?_
   replace hb1:=hc _ _ _ hb1;replace hb2:=hc _ _ _ hb2;replace hi:=hc _ _ _ hi;obtain ⟨z1,eple,⟨p00,p01,p02,p03,p1n⟩,x1,x2,x3,g0,eT,eF⟩:=opf hE;have d4:E.lei 0 i1=decide (0<=i1):=by rw [hE];rfl
   rw [dT ht1] at d4;have d3:E.lti 1 n=false:=by rw [hE];exact dF h1n
   subst hv;clear hE hc hi1 hext hR0 hR1 h1c hRV hX2 hX3 hX2d eple eT eF hn1 opf hlen hcs hz hn hsz hs ha hb h1n ht1 ht2 e0 e1 e2 e3 e4 e5 e6 e7 e8 e9 e10 e11 e12;cbv
   repeat (first|(simp only [z1];cbv)|simp only [z1]|(refine ⟨_,hb1,?_⟩;cbv)|(refine ⟨_,hb2,?_⟩;cbv)|(simp only [d3];cbv)|simp only [d3]|(refine ⟨p00,_,g0,?_⟩;cbv)|(refine ⟨_,hi,?_⟩;cbv)|(simp only [d4];cbv)|simp only [d4]|(refine ⟨p00,p01,p1n,?_⟩;cbv)|(refine ⟨p01,p1n,?_⟩;cbv)|(simp only [x1];cbv)|simp only [x1])
  ·have hv:=hR0 ht2;refine zaq zaa zbu mixed (fun _=>0) Tryz.func107 rfl (by kernel_rfl) (by kernel_rfl) rfl fun P G E hc hE=>?_
   replace hb1:=hc _ _ _ hb1;replace hb2:=hc _ _ _ hb2;replace hi:=hc _ _ _ hi;obtain ⟨z1,eple,⟨p00,p01,p02,p03,p1n⟩,x1,x2,x3,g0,eT,eF⟩:=opf hE;have d4:E.lei 0 i1=decide (0<=i1):=by rw [hE];rfl
   rw [dF ht1] at d4;have d3:E.lti 1 n=false:=by rw [hE];exact dF h1n
   subst hv;clear hE hc hi1 hext hR0 hR1 h1c hRV hX1 hX2 hX3 hX2d eple eT eF hn1 opf hlen hcs hz hn hsz hs ha hb h1n ht1 ht2 e0 e1 e2 e3 e4 e5 e6 e7 e8 e9 e10 e11 e12;cbv
   repeat (first|(simp only [z1];cbv)|simp only [z1]|(refine ⟨_,hb1,?_⟩;cbv)|(refine ⟨_,hb2,?_⟩;cbv)|(simp only [d3];cbv)|simp only [d3]|(refine ⟨p00,_,g0,?_⟩;cbv)|(refine ⟨_,hi,?_⟩;cbv)|(simp only [d4];cbv)|simp only [d4])
end Go.Proofs.YtcfecmeocimclaaGreatDoor
