/- Own work: lexer.skip. -/
import Derived.Test.YtcfecmeocimclaaGreatDoorYAA0
import Derived.Test.YtcfecmeocimclaaGreatDoorYALB7
import Derived.Test.YtcfecmeocimclaaGreatDoorYAGQ
namespace Go.Proofs.YtcfecmeocimclaaGreatDoor
set_option linter.unusedSimpArgs false
set_option maxRecDepth 100000
open Go.RowKit
theorem pre2 (a b:UInt8) (l:Bs):Lib.hasPrefix l [a,b]=decide (l.take 2=[a,b]):=by
 unfold Lib.hasPrefix
 match l with
 | []=>rfl
 | [x] =>
  have:([a,b]:Bs).isPrefixOf [x]=false:=by
   show (a == x && false)=false;rw [Bool.and_false]
  rw [this];exact (dF (by simp)).symm
 | x :: y :: l =>
  have h:([a,b]:Bs).isPrefixOf (x :: y :: l)=(a == x && b == y):=by
   show (a == x && (b == y && ([]:Bs).isPrefixOf l))=_;rw [show ([]:Bs).isPrefixOf l=true by cases l <;> rfl,Bool.and_true]
  rw [h]
  by_cases h1:a=x
  ·by_cases h2:b=y
   ·subst h1 h2;simp
   ·have:(b == y)=false:=by simpa using h2
    rw [this,Bool.and_false];exact (dF (by simp [Ne.symm h2])).symm
  ·have:(a == x)=false:=by simpa using h1
   rw [this,Bool.false_and];exact (dF (by simp [Ne.symm h1])).symm
theorem z5n (l:Bs):(cmk l=0/\Lib.hasPrefix l [47,47]=false/\Lib.hasPrefix l [47,42]=false)\/(cmk l=1/\Lib.hasPrefix l [47,47]=true)\/(cmk l=2/\Lib.hasPrefix l [47,47]=false/\Lib.hasPrefix l [47,42]=true):=by
 rw [pre2,pre2];unfold cmk
 by_cases h1:l.take 2=[47,47]
 ·rw [if_pos h1];exact .inr (.inl ⟨rfl,dT h1⟩)
 ·rw [if_neg h1]
  by_cases h2:l.take 2=[47,42]
  ·rw [if_pos h2];exact .inr (.inr ⟨rfl,dF h1,dT h2⟩)
  ·rw [if_neg h2];exact .inl ⟨rfl,dF h1,dF h2⟩
theorem zqo:∀ {l:Bs},(10:UInt8) ∉ l->za4 l=[]
 | [],_=>rfl
 | c :: r,h=>by
  rw [za4,if_neg fun e=>h (by rw [e];exact List.mem_cons_self ..)]
  exact zqo fun h'=>h (List.mem_cons_of_mem _ h')
theorem zqn:∀ {u:Bs} (v:Bs),(10:UInt8) ∉ u->za4 (u++10 :: v)=10 :: v
 | [],v,_=>by
  show za4 (10 :: v)=_;rw [za4,if_pos rfl]
 | c :: u,v,h=>by
  show za4 (c :: (u++10 :: v))=_;rw [za4,if_neg fun e=>h (by rw [e];exact List.mem_cons_self ..)]
  exact zqn v fun h'=>h (List.mem_cons_of_mem _ h')
theorem zk4:∀ l:Bs,(Lib.index l [42,47]=-1/\zcx l=none)\/∃ k:Nat,Lib.index l [42,47]=(k:Nat)/\k + 2<=l.length/\zcx l=some (l.drop (k + 2))
 | []=>.inl ⟨rfl,rfl⟩
 | c :: r=>by
  rw [Lib.index,zcx];have hp:([42,47]:Bs).isPrefixOf (c :: r)=decide (c=42/\r.head?=some 47):=by
   cases r with
   | nil =>
    have:([42,47]:Bs).isPrefixOf [c]=false:=by
     show ((42:UInt8) == c && false)=false;rw [Bool.and_false]
    rw [this];exact (dF (by simp)).symm
   | cons d r =>
    have h:([42,47]:Bs).isPrefixOf (c :: d :: r)=(42 == c && 47 == d):=by
     show ((42:UInt8) == c && ((47:UInt8) == d && ([]:Bs).isPrefixOf r))=_;rw [show ([]:Bs).isPrefixOf r=true by cases r <;> rfl,Bool.and_true]
    rw [h]
    by_cases h1:(42:UInt8)=c
    ·by_cases h2:(47:UInt8)=d
     ·subst h1 h2;simp
     ·have:((47:UInt8) == d)=false:=by simpa using h2
      rw [this,Bool.and_false];exact (dF (by simp [Ne.symm h2])).symm
    ·have:((42:UInt8) == c)=false:=by simpa using h1
     rw [this,Bool.false_and];exact (dF (by simp [Ne.symm h1])).symm
  rw [hp]
  by_cases hc:c=42/\r.head?=some 47
  ·rw [dT hc,if_pos rfl,if_pos hc];refine .inr ⟨0,rfl,?_,?_⟩
   ·cases r with
    | nil=>cases hc.2
    | cons d r=>simp only [lLC];omega
   ·cases r with
    | nil=>cases hc.2
    | cons d r=>rfl
  ·rw [dF hc,if_neg (by decide),if_neg hc]
   rcases zk4 r with ⟨h1,h2⟩|⟨k,h1,h2,h3⟩
   ·rw [h1,h2];exact .inl ⟨rfl,rfl⟩
   ·refine .inr ⟨k + 1,?_,by simp only [lLC];omega,?_⟩
    ·have hb:(((k:Nat):Int) == -1)=false:=beq_eq_false_iff_ne.2 (by omega)
     rw [h1,hb,if_neg (by decide)]
     omega
    ·rw [h3];rfl
theorem zlh (s:ByteArray) (i:Int) (k:Nat) (h:0<=i):(rst s i).drop k=rst s (i + (k:Nat)):=by
 unfold rst;rw [lDD]
 congr 1
 omega
set_option maxHeartbeats 4000000 in
theorem z0b (s:ByteArray) (at0:Int) (r:Bs) (b:Bool) (h0:0<=at0) (h1:at0<=(s.size:Nat)) (hs:s.size<=1000000) (hR:skp (rst s at0)=(r,b)):RL 86 [pS s,pI at0] (.tup [pI ((s.size:Nat) - (r.length:Nat)),pB b]):=by
 obtain ⟨n,hn⟩:∃ n:Int,((s.size:Nat):Int)=n:=⟨_,rfl⟩
 obtain ⟨e,he⟩:∃ e:Int,n - (r.length:Nat)=e:=⟨_,rfl⟩
 rw [hn] at h1;rw [hn,he];obtain ⟨μ,hμ⟩:∃ μ:Int->Nat,∀ i,μ i=2000000000 - i.toNat:=⟨_,fun _=>rfl⟩
 have hpre:=fun (t p:ByteArray)=>upL (zki t p)
 have hidx:=fun (t:ByteArray) (c:UInt8) (z k:Int) (hz:((c.toNat:Nat):Int)=z) (hk:Lib.indexByte t.data.toList c=k)=>show RL _ _ (pI k) from hk ▸ upL (zed t c z hz)
 have hind:=fun (t p:ByteArray) (k:Int) (ht:t.size<=1000000) (hk:Lib.index t.data.toList p.data.toList=k)=>show RL _ _ (pI k) from hk ▸ zye t p (by omega)
 have hget:∀ i:Int,0<=i->i < n->∃ c,s.data.toList[i.toNat]?=some c:=fun i hi0 hi1=>⟨_,List.getElem?_eq_getElem (by show i.toNat < s.size;omega)⟩
 have hI0:Sk s n (r,b) at0:=⟨h0,h1,hR⟩;have hfin:∀ i,Sk s n (r,b) i->skp (rst s i)=(rst s i,true)->e=i/\b=true:=fun i hi h=>by
  have h2:=hi.sk;rw [h] at h2
  cases h2
  have h3:=zdo s i;have h4:=hi.i0;have h5:=hi.i1;exact ⟨by omega,rfl⟩
 refine zaq zaa zbu mixed (fun _=>0) Tryz.func86 rfl (by kernel_rfl) (by kernel_rfl) rfl fun P G E hc hE=>?_
 replace hpre:=fun (t p:ByteArray)=>hc _ _ _ (hpre t p)
 replace hidx:=fun (t:ByteArray) (c:UInt8) (z k:Int) (hz:((c.toNat:Nat):Int)=z) (hk:Lib.indexByte t.data.toList c=k)=>hc _ _ _ (hidx t c z k hz hk)
 replace hind:=fun (t p:ByteArray) (k:Int) (ht:t.size<=1000000) (hk:Lib.index t.data.toList p.data.toList=k)=>hc _ _ _ (hind t p k ht hk)
 have z1:E.size s=n:=by rw [hE];exact hn
 have elt:=zw5 hE;have eple:=zp7 hE;have eget:∀ (i:Int) (c:UInt8) (z:Int),s.data.toList[i.toNat]?=some c->((c.toNat:Nat):Int)=z->E.get s (E.nat i)=some z:=fun i c z h hz=>by
  rw [hE];show (s.data.toList[i.toNat]?).map _=some z;rw [h,<- hz];rfl
 have eadd:=z6z hE;have eext:∀ i j:Int,E.ext s (E.nat i) (E.nat j)=s.extract i.toNat j.toNat:=fun i j=>by rw [hE];rfl
 clear hE hc hR h0 h1;cbv;refine zbs 72 [0,1] 0 (fun i:Int=>[.p (pS s),.p (pI i)]) (fun _=>[]) (Sk s n (r,b)) μ at0 ⟨rfl,rfl,rfl,rfl,rfl⟩ hI0 ?_
 clear hI0;intro i hI;replace hn:((s.size:Nat):Int)=n:=hn;have hi0:=hI.i0;have hi1:=hI.i1
 rcases cEm (i < n) with hlt|hlt
 ·have d1:E.lti i n=true:=by rw [elt];exact dT hlt
  obtain ⟨c,hci⟩:=hget i hi0 hlt;obtain ⟨z,hz⟩:∃ z:Int,((c.toNat:Nat):Int)=z:=⟨_,rfl⟩
  have g1:=eget i c z hci hz;have p1:=eple 0 i hi0;have ei:=eadd i 1 (by omega) (by omega) (by omega) (by omega)
  have hc0:=zei hi0 hci;have hM:μ (E.wadd .i64 i 1) < μ i:=by rw [hμ,hμ,ei];omega
  have hzt:∀ k:UInt8,c=k->decide (z=((k.toNat:Nat):Int))=true:=fun k h=>dT (by rw [<-hz,h])
  have hzf:∀ k:UInt8,c ≠ k->decide (z=((k.toNat:Nat):Int))=false:=fun k h=>zv4 hz k h
  cases hw:wsp c with
  | true =>
   have hI2:Sk s n (r,b) (E.wadd .i64 i 1):=by
    rw [ei];refine ⟨by omega,by omega,?_⟩
    have:=hI.sk
    rw [hc0,zf5 hw] at this;exact this
   have hor:c=32\/c ≠ 32/\(c=9\/c ≠ 9/\(c=10\/c ≠ 10/\c=13)):=by
    unfold wsp at hw;simp only [Bool.or_eq_true,beq_iff_eq] at hw
    by_cases a32:c=32
    ·exact .inl a32
    ·by_cases a9:c=9
     ·exact .inr ⟨a32,.inl a9⟩
     ·by_cases a10:c=10
      ·exact .inr ⟨a32,.inr ⟨a9,.inl a10⟩⟩
      ·rcases hw with hw|hw|hw|hw
       ·exact absurd hw a32
       ·exact absurd hw a9
       ·exact absurd hw a10
       ·exact .inr ⟨a32,.inr ⟨a9,.inr ⟨a10,hw⟩⟩⟩
   rcases hor with e32|⟨e32,e9|⟨e9,e10|⟨e10,e13⟩⟩⟩
   ·have w32:decide (z=32)=true:=hzt 32 e32;clear hpre hidx hind hget hfin elt eple eget eadd eext hzt hzf hn he hc0 hci hz ei hw e32;cbv
    repeat (first|(simp only [z1];cbv)|simp only [z1]|(simp only [d1];cbv)|simp only [d1]|(refine ⟨p1,_,g1,?_⟩;cbv)|(simp only [w32];cbv)|simp only [w32])
    refine .mk (E.wadd .i64 i 1) ⟨rfl,rfl,rfl,rfl,rfl⟩ ?_ ?_
    ·exact hI2
    ·exact hM
   ·have w32:decide (z=32)=false:=hzf 32 e32;have w9:decide (z=9)=true:=hzt 9 e9;clear hpre hidx hind hget hfin elt eple eget eadd eext hzt hzf hn he hc0 hci hz ei hw e32 e9;cbv
    repeat (first|(simp only [z1];cbv)|simp only [z1]|(simp only [d1];cbv)|simp only [d1]|(refine ⟨p1,_,g1,?_⟩;cbv)|(simp only [w32];cbv)|simp only [w32]|(simp only [w9];cbv)|simp only [w9])
    refine .mk (E.wadd .i64 i 1) ⟨rfl,rfl,rfl,rfl,rfl⟩ ?_ ?_
    ·exact hI2
    ·exact hM
   ·have w32:decide (z=32)=false:=hzf 32 e32;have w9:decide (z=9)=false:=hzf 9 e9;have w10:decide (z=10)=true:=hzt 10 e10;clear hpre hidx hind hget hfin elt eple eget eadd eext hzt hzf hn he hc0 hci hz ei hw e32 e9 e10;cbv
    repeat (first|(simp only [z1];cbv)|simp only [z1]|(simp only [d1];cbv)|simp only [d1]|(refine ⟨p1,_,g1,?_⟩;cbv)|(simp only [w32];cbv)|simp only [w32]|(simp only [w9];cbv)|simp only [w9]|(simp only [w10];cbv)|simp only [w10])
    refine .mk (E.wadd .i64 i 1) ⟨rfl,rfl,rfl,rfl,rfl⟩ ?_ ?_
    ·exact hI2
    ·exact hM
   ·have w32:decide (z=32)=false:=hzf 32 e32;have w9:decide (z=9)=false:=hzf 9 e9;have w10:decide (z=10)=false:=hzf 10 e10;have w13:decide (z=13)=true:=hzt 13 e13;clear hpre hidx hind hget hfin elt eple eget eadd eext hzt hzf hn he hc0 hci hz ei hw e32 e9 e10 e13;cbv
    repeat (first|(simp only [z1];cbv)|simp only [z1]|(simp only [d1];cbv)|simp only [d1]|(refine ⟨p1,_,g1,?_⟩;cbv)|(simp only [w32];cbv)|simp only [w32]|(simp only [w9];cbv)|simp only [w9]|(simp only [w10];cbv)|simp only [w10]|(simp only [w13];cbv)|simp only [w13])
    refine .mk (E.wadd .i64 i 1) ⟨rfl,rfl,rfl,rfl,rfl⟩ ?_ ?_
    ·exact hI2
    ·exact hM
  | false =>
   have hne:c ≠ 9/\c ≠ 10/\c ≠ 13/\c ≠ 32:=by
    unfold wsp at hw;simp only [Bool.or_eq_false_iff,beq_eq_false_iff_ne] at hw;exact ⟨hw.2.1,hw.2.2.1,hw.2.2.2,hw.1⟩
   have w9:decide (z=9)=false:=hzf 9 hne.1;have w10:decide (z=10)=false:=hzf 10 hne.2.1;have w13:decide (z=13)=false:=hzf 13 hne.2.2.1;have w32:decide (z=32)=false:=hzf 32 hne.2.2.2;obtain ⟨T,hT⟩:∃ x,s.extract i.toNat n.toNat=x:=⟨_,rfl⟩
   have hTd:T.data.toList=rst s i:=by
    rw [<-hT,zfr]
    have:=zdo s i
    exact List.take_of_length_le (by omega)
   have x1:=eext i n;rw [hT] at x1;have p4:=eple i n hi1;have p5:=eple n n (by omega)
   have hb1:=hpre T ⟨#[47,47]⟩;have hb2:=hpre T ⟨#[47,42]⟩;have e1:(⟨#[47,47]⟩:ByteArray).data.toList=[47,47]:=rfl;have e2:(⟨#[47,42]⟩:ByteArray).data.toList=[47,42]:=rfl;change Ret P G _ _ (pB (Lib.hasPrefix T.data.toList [47,47])) at hb1;change Ret P G _ _ (pB (Lib.hasPrefix T.data.toList [47,42])) at hb2;rw [hTd] at hb1 hb2;have hlen:=zdo s i
   rcases z5n (rst s i) with ⟨hk,f1,f2⟩|⟨hk,f1⟩|⟨hk,f1,f2⟩
   ·rw [f1] at hb1;rw [f2] at hb2;obtain ⟨rfl,rfl⟩:=hfin i hI (by rw [hc0] at hk ⊢;exact zfl hw hk)
    clear hpre hidx hind hget hfin elt eple eget eadd eext hzt hzf hn he hc0 hci hz ei hw hne f1 f2 hk e1 e2 hTd hT hlen;cbv
    repeat (first|(simp only [z1];cbv)|simp only [z1]|(simp only [d1];cbv)|simp only [d1]|(refine ⟨p1,_,g1,?_⟩;cbv)|(simp only [w32];cbv)|simp only [w32]|(simp only [w9];cbv)|simp only [w9]|(simp only [w10];cbv)|simp only [w10]|(simp only [w13];cbv)|simp only [w13]|(refine ⟨p1,p4,p5,?_⟩;cbv)|(refine ⟨p1,p4,?_⟩;cbv)|(refine ⟨p4,p5,?_⟩;cbv)|(simp only [x1];cbv)|simp only [x1]|(refine ⟨_,hb1,?_⟩;cbv)|(refine ⟨_,hb2,?_⟩;cbv))
   ·rw [f1] at hb1;obtain ⟨r2,hr2⟩:=cmk_1 hk;have hsk:=hI.sk;rw [hr2,zkv (by decide) rfl] at hsk
    rcases zlp 10 (rst s i) with ⟨hj,hno⟩|⟨u,v,hu1,hu2,hj⟩
    ·have hjj:=hidx T 10 10 (-1) rfl (by rw [hTd];exact hj)
     have d2:E.lti (-1) 0=true:=by rw [elt];rfl
     have hd:za4 (([47,47]++r2:Bs).drop 2)=[]:=zqo fun h=>hno (by rw [hr2];exact List.mem_cons_of_mem _ (List.mem_cons_of_mem _ h))
     have hd':za4 r2=[]:=hd;change skp (za4 r2)=_ at hsk;rw [hd',zfu] at hsk;have hrn:r=[]:=(congrArg Prod.fst hsk).symm;have hbt:b=true:=(congrArg Prod.snd hsk).symm;have hen:e=n:=by rw [<-he,hrn];show n - 0=n;omega
     subst hbt hen;clear hpre hidx hind hget hfin elt eple eget eadd eext hzt hzf hn he hc0 hci hz ei hw hne f1 hk e1 e2 hTd hT hlen hr2 hsk hj hno hd hd' hrn;cbv
     repeat (first|(simp only [z1];cbv)|simp only [z1]|(simp only [d1];cbv)|simp only [d1]|(refine ⟨p1,_,g1,?_⟩;cbv)|(simp only [w32];cbv)|simp only [w32]|(simp only [w9];cbv)|simp only [w9]|(simp only [w10];cbv)|simp only [w10]|(simp only [w13];cbv)|simp only [w13]|(refine ⟨p1,p4,p5,?_⟩;cbv)|(refine ⟨p1,p4,?_⟩;cbv)|(refine ⟨p4,p5,?_⟩;cbv)|(simp only [x1];cbv)|simp only [x1]|(refine ⟨_,hb1,?_⟩;cbv)|(refine ⟨_,hjj,?_⟩;cbv)|(simp only [d2];cbv)|simp only [d2])
    ·obtain ⟨k,hk1⟩:∃ x:Int,((u.length:Nat):Int)=x:=⟨_,rfl⟩
     have hjj:=hidx T 10 10 k rfl (by rw [hTd,hj];exact hk1)
     have d2:E.lti k 0=false:=by rw [elt];exact dF (by omega)
     have hul:(rst s i).length=u.length + (v.length + 1):=by rw [hu1,lLA];rfl
     have hrk:rst s (i + k)=10 :: v:=by
      have h5:=zlh s i u.length hi0;rw [hk1] at h5;rw [<-h5,hu1,List.drop_left]
     have ek:=eadd i k (by omega) (by omega) (by omega) (by omega)
     have hd:za4 r2=10 :: v:=by
      match u,hu1,hu2 with
      | [],hu1,hu2=>rw [hr2] at hu1;cases hu1
      | [x],hu1,hu2=>rw [hr2] at hu1;cases hu1
      | x :: y :: u,hu1,hu2 =>
       rw [hr2] at hu1;have h6:r2=u++10 :: v:=(List.cons.inj (List.cons.inj hu1).2).2;rw [h6];exact zqn v fun h=>hu2 (List.mem_cons_of_mem _ (List.mem_cons_of_mem _ h))
     have hu0:1<=u.length:=by
      cases u with
      | nil=>rw [hr2] at hu1;cases hu1
      | cons x u=>simp only [lLC];omega
     change skp (za4 r2)=_ at hsk;rw [hd,<- hrk] at hsk;have hI2:Sk s n (r,b) (E.wadd .i64 i k):=by rw [ek];exact ⟨by omega,by omega,hsk⟩
     have hM2:μ (E.wadd .i64 i k) < μ i:=by rw [hμ,hμ,ek];omega
     clear hpre hidx hind hget hfin elt eple eget eadd eext hzt hzf hn he hc0 hci hz ei hw hne f1 hk e1 e2 hTd hT hlen hr2 hsk hj hd hu0 hul hrk hu1 hu2 hk1 ek hM;cbv
     repeat (first|(simp only [z1];cbv)|simp only [z1]|(simp only [d1];cbv)|simp only [d1]|(refine ⟨p1,_,g1,?_⟩;cbv)|(simp only [w32];cbv)|simp only [w32]|(simp only [w9];cbv)|simp only [w9]|(simp only [w10];cbv)|simp only [w10]|(simp only [w13];cbv)|simp only [w13]|(refine ⟨p1,p4,p5,?_⟩;cbv)|(refine ⟨p1,p4,?_⟩;cbv)|(refine ⟨p4,p5,?_⟩;cbv)|(simp only [x1];cbv)|simp only [x1]|(refine ⟨_,hb1,?_⟩;cbv)|(refine ⟨_,hjj,?_⟩;cbv)|(simp only [d2];cbv)|simp only [d2])
     refine .mk (E.wadd .i64 i k) ⟨rfl,rfl,rfl,rfl,rfl⟩ ?_ ?_
     ·exact hI2
     ·exact hM2
   ·rw [f1] at hb1;rw [f2] at hb2;obtain ⟨r2,hr2⟩:=cmk_2 hk;have hr2':rst s (i + 2)=r2:=by
     have h5:=zlh s i 2 hi0;rw [hr2] at h5;exact h5.symm
    obtain ⟨i2,hi2⟩:∃ x:Int,i + 2=x:=⟨_,rfl⟩
    have hle2:(rst s i).length=r2.length + 2:=by rw [hr2];rfl
    have ei2:=eadd i 2 (by omega) (by omega) (by omega) (by omega)
    rw [hi2] at ei2 hr2';obtain ⟨T2,hT2⟩:∃ x,s.extract i2.toNat n.toNat=x:=⟨_,rfl⟩
    have hT2d:T2.data.toList=r2:=by
     rw [<-hT2,zfr,hr2'];exact List.take_of_length_le (by omega)
    have hT2s:T2.size<=1000000:=by
     have e5:T2.data.toList.length=T2.size:=rfl;rw [hT2d] at e5;omega
    have x2:=eext i2 n;rw [hT2] at x2;have p6:=eple 0 i2 (by omega)
    have p7:=eple i2 n (by omega)
    have hsk:=hI.sk;have e3:(⟨#[42,47]⟩:ByteArray).data.toList=[42,47]:=rfl
    rcases zk4 r2 with ⟨hj,hno⟩|⟨k0,hj,hkl,hd⟩
    ·have hjj:=hind T2 ⟨#[42,47]⟩ (-1) hT2s (by rw [hT2d];exact hj)
     have d2:E.lti (-1) 0=true:=by rw [elt];rfl
     rw [hr2,zhv (c:=47) (r:=42 :: r2) (by decide) rfl hno] at hsk
     have h9:(47 :: 42 :: r2:Bs).length=r.length:=congrArg (fun p:Bs × Bool=>p.1.length) hsk
     have h10:false=b:=congrArg Prod.snd hsk;simp only [lLC] at h9;replace he:n - ((r.length:Nat):Int)=e:=he;have hee:e=i:=by omega
     subst h10 hee;clear hpre hidx hind hget hfin elt eple eget eadd eext hzt hzf hn he hc0 hci hz ei hw hne f1 f2 hk e1 e2 hTd hT hlen hr2 hsk hj hno hr2' hi2 hle2 hT2 hT2d hT2s e3 h9 hM;cbv
     repeat (first|(simp only [z1];cbv)|simp only [z1]|(simp only [d1];cbv)|simp only [d1]|(refine ⟨p1,_,g1,?_⟩;cbv)|(simp only [w32];cbv)|simp only [w32]|(simp only [w9];cbv)|simp only [w9]|(simp only [w10];cbv)|simp only [w10]|(simp only [w13];cbv)|simp only [w13]|(refine ⟨p1,p4,p5,?_⟩;cbv)|(refine ⟨p1,p4,?_⟩;cbv)|(refine ⟨p4,p5,?_⟩;cbv)|(simp only [x1];cbv)|simp only [x1]|(refine ⟨_,hb1,?_⟩;cbv)|(refine ⟨_,hb2,?_⟩;cbv)|(simp only [ei2];cbv)|simp only [ei2]|(refine ⟨p6,p7,p5,?_⟩;cbv)|(refine ⟨p6,p7,?_⟩;cbv)|(refine ⟨p7,p5,?_⟩;cbv)|(simp only [x2];cbv)|simp only [x2]|(refine ⟨_,hjj,?_⟩;cbv)|(simp only [d2];cbv)|simp only [d2])
    ·obtain ⟨k,hk1⟩:∃ x:Int,((k0:Nat):Int)=x:=⟨_,rfl⟩
     have hjj:=hind T2 ⟨#[42,47]⟩ k hT2s (by rw [hT2d];exact hj.trans hk1)
     have d2:E.lti k 0=false:=by rw [elt];exact dF (by omega)
     have ek:=eadd k 4 (by omega) (by omega) (by omega) (by omega)
     obtain ⟨k4,hk4⟩:∃ x:Int,k + 4=x:=⟨_,rfl⟩
     rw [hk4] at ek;have ek2:=eadd i k4 (by omega) (by omega) (by omega) (by omega)
     have hrk:r2.drop (k0 + 2)=rst s (i + k4):=by
      have h5:=zlh s i2 (k0 + 2) (by omega)
      rw [hr2'] at h5;rw [h5]
      congr 1
      omega
     rw [hr2,zkw (c:=47) (r:=42 :: r2) (by decide) rfl (r':=rst s (i + k4)) (by rw [<-hrk];exact hd)] at hsk
     have hI2:Sk s n (r,b) (E.wadd .i64 i k4):=by rw [ek2];exact ⟨by omega,by omega,hsk⟩
     have hM2:μ (E.wadd .i64 i k4) < μ i:=by rw [hμ,hμ,ek2];omega
     clear hpre hidx hind hget hfin elt eple eget eadd eext hzt hzf hn he hc0 hci hz ei hw hne f1 f2 hk e1 e2 hTd hT hlen hr2 hsk hj hr2' hi2 hle2 hT2 hT2d hT2s e3 hkl hd hk1 hk4 ek2 hrk hM;cbv
     repeat (first|(simp only [z1];cbv)|simp only [z1]|(simp only [d1];cbv)|simp only [d1]|(refine ⟨p1,_,g1,?_⟩;cbv)|(simp only [w32];cbv)|simp only [w32]|(simp only [w9];cbv)|simp only [w9]|(simp only [w10];cbv)|simp only [w10]|(simp only [w13];cbv)|simp only [w13]|(refine ⟨p1,p4,p5,?_⟩;cbv)|(refine ⟨p1,p4,?_⟩;cbv)|(refine ⟨p4,p5,?_⟩;cbv)|(simp only [x1];cbv)|simp only [x1]|(refine ⟨_,hb1,?_⟩;cbv)|(refine ⟨_,hb2,?_⟩;cbv)|(simp only [ei2];cbv)|simp only [ei2]|(refine ⟨p6,p7,p5,?_⟩;cbv)|(refine ⟨p6,p7,?_⟩;cbv)|(refine ⟨p7,p5,?_⟩;cbv)|(simp only [x2];cbv)|simp only [x2]|(refine ⟨_,hjj,?_⟩;cbv)|(simp only [d2];cbv)|simp only [d2]|(simp only [ek];cbv)|simp only [ek])
     refine .mk (E.wadd .i64 i k4) ⟨rfl,rfl,rfl,rfl,rfl⟩ ?_ ?_
     ·exact hI2
     ·exact hM2
 ·have d1:E.lti i n=false:=by rw [elt];exact dF hlt
  obtain ⟨rfl,rfl⟩:=hfin i hI (by rw [zl3 (by omega)];rfl)
  clear hpre hidx hind hget hfin elt eple eget eadd eext hn he;cbv
  repeat (first|(simp only [z1];cbv)|simp only [z1]|(simp only [d1];cbv)|simp only [d1])
end Go.Proofs.YtcfecmeocimclaaGreatDoor
