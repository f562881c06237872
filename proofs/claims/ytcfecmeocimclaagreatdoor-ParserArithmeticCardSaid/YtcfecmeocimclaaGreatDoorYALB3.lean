/- Own work: strconv.ParseUint of up to six bytes as a hexadecimal number of 32 bits. -/
import Derived.Test.YtcfecmeocimclaaGreatDoorYAA0
import Derived.Test.YtcfecmeocimclaaGreatDoorYALB2
import Derived.Test.YtcfecmeocimclaaGreatDoorYAGR
namespace Go.Proofs.YtcfecmeocimclaaGreatDoor
set_option linter.unusedSimpArgs false
set_option maxRecDepth 100000
open Go.RowKit
theorem zxp (c:UInt8) (z L:Int) (hz:((c.toNat:Nat):Int)=z) (hL:((c.toNat ||| 32:Nat):Int)=L):V0 151 [.v (.int .u8 z)] (.v (.int .u8 L)):=by
 have hc:=c.toNat_lt;refine zaq zaa zby mixed (fun _=>0) Tryz.func151 rfl (by kernel_rfl) (by kernel_rfl) rfl fun P G E hc hE=>?_
 have b1:E.bor .u8 z 32=L:=by
  rw [hE,z8z z 32 (by omega) (by omega) (by omega) (by omega),<- hL,<- hz]
  rfl
 clear hE hc hL hz;cbv
 repeat (first|(simp only [b1];cbv)|simp only [b1])
theorem z5e (c:UInt8):((48<=c.toNat/\c.toNat<=57)->zit c=some (c.toNat - 48))/\(¬ (48<=c.toNat/\c.toNat<=57)->(97<=(c.toNat ||| 32)/\(c.toNat ||| 32)<=122)->zit c=if (c.toNat ||| 32)<=102 then some ((c.toNat ||| 32) - 87) else none) ∧
  (¬ (48<=c.toNat/\c.toNat<=57)->¬ (97<=(c.toNat ||| 32)/\(c.toNat ||| 32)<=122)->zit c=none):=by
 have key:=List.all_eq_true.1 (show ((List.range 256).all fun n=>decide (((48<=n/\n<=57)->zit (UInt8.ofNat n)=some (n - 48))/\(¬ (48<=n/\n<=57)->(97<=(n ||| 32)/\(n ||| 32)<=122)->zit (UInt8.ofNat n)=if (n ||| 32)<=102 then some ((n ||| 32) - 87) else none) ∧
  (¬ (48<=n/\n<=57)->¬ (97<=(n ||| 32)/\(n ||| 32)<=122)->zit (UInt8.ofNat n)=none)))=true by decide +kernel) c.toNat (List.mem_range.2 c.toNat_lt)
 have k2:=oT key;rw [UInt8.ofNat_toNat] at k2;exact k2
abbrev pW (n:Int):PV:=.v (.int .u64 n)
abbrev eSyn:PV:=.v (.iface 153 (.int .i64 2))
def puR (l:Bs):PV:=if l.all zbb then .tup [pW (zh0 l:Nat),.v .nilIface] else .tup [pW 0,eSyn]
structure PuI (s:ByteArray) (n:Int) (x:Int × Int):Prop where
 i0:0<=x.1
 i1:x.1<=n
 u:∃ u:Bs,s.data.toList=u++rst s x.1/\(u.length:Int)=x.1/\(∀ c ∈ u,zbb c=true)/\x.2=(zh0 u:Nat)
theorem zim {n:Int} (h0:0<=n) (h1:n < 18446744073709551616):IntKind.u64.wrap n=n:=by rw [zra];omega
set_option maxHeartbeats 4000000 in
theorem zu7 (s:ByteArray) (h0:s.size ≠ 0) (h6:s.size<=6):V0 141 [pS s,pI 16,pI 32] (puR s.data.toList):=by
 obtain ⟨n,hn⟩:∃ n:Int,((s.size:Nat):Int)=n:=⟨_,rfl⟩
 have hget:∀ i:Int,0<=i->i < n->∃ c,s.data.toList[i.toNat]?=some c:=fun i hi0 hi1=>⟨_,List.getElem?_eq_getElem (by show i.toNat < s.size;omega)⟩
 obtain ⟨RV,hRV⟩:∃ x,puR s.data.toList=x:=⟨_,rfl⟩
 rw [hRV];obtain ⟨μ,hμ⟩:∃ μ:Int × Int->Nat,∀ x,μ x=20 - x.1.toNat:=⟨_,fun _=>rfl⟩
 obtain ⟨rows,hrows⟩:∃ x,zal s=x:=⟨_,rfl⟩
 have hI0:PuI s n (0,0):=⟨Int.le_refl _,by show 0<=n;omega,[],by show s.data.toList=rst s 0;rfl,rfl,fun c hc=>(by cases hc),rfl⟩
 have zeq:=fun (c:UInt8) (z L:Int) (hz:((c.toNat:Nat):Int)=z) (hL:((c.toNat ||| 32:Nat):Int)=L)=>zxp c z L hz hL
 have hrl:rows.length=s.size:=by rw [<-hrows];unfold zal;rw [lLM];rfl
 have hrg:∀ (i:Int) (c:UInt8) (z:Int),s.data.toList[i.toNat]?=some c->((c.toNat:Nat):Int)=z->rows[i.toNat]?=some [.v (.int .u8 z)]:=fun i c z h hz=>by
  rw [<-hrows];unfold zal;rw [List.getElem?_map,h,<- hz];rfl
 refine zaq zaa zby mixed (fun _=>0) Tryz.func141 rfl (by kernel_rfl) (by kernel_rfl) rfl fun P G E hc hE=>?_
 replace zeq:=fun (c:UInt8) (z L:Int) (hz:((c.toNat:Nat):Int)=z) (hL:((c.toNat ||| 32:Nat):Int)=L)=>hc _ _ _ (zeq c z L hz hL)
 have z1:E.brows s=rows:=by rw [hE];exact hrows
 have z2:E.ofN rows.length=n:=by rw [hE,<- hn,<- hrl];rfl
 have z3:E.eq s ⟨#[]⟩=false:=by
  rw [hE];refine dF fun e=>h0 ?_
  rw [e];rfl
 have elt:=zw5 hE;have ege:∀ a b,E.lei a b=decide (a<=b):=fun a b=>by rw [hE];rfl
 have eple:=zp7 hE;have erow:∀ (i:Int) (c:UInt8) (z:Int),s.data.toList[i.toNat]?=some c->((c.toNat:Nat):Int)=z->rows[E.nat i]?=some [.v (.int .u8 z)]:=fun i c z h hz=>by
  rw [hE];exact hrg i c z h hz
 have eadd:=z6z hE;have eadd64:∀ a b:Int,0<=a->a<=1000000000->0<=b->b<=1000000000->E.wadd .u64 a b=a + b:=fun a b h0 h1 h2 h3=>by rw [hE];exact zim (by omega) (by omega)
 have emul:∀ a:Int,0<=a->a<=1000000000->E.wmul .u64 a 16=a * 16:=fun a h0 h1=>by rw [hE];exact zim (by omega) (by omega)
 have ew8:∀ a:Int,0<=a->a<=255->E.wrap .u64 a=a:=fun a h0 h1=>by rw [hE];exact zim (by omega) (by omega)
 have c1:E.wrap .u8 16=16:=by rw [hE];exact zeg 16
 have c2:E.wrap .u64 16=16:=ew8 16 (by omega) (by omega)
 have c2':E.wrap .u64 32=32:=ew8 32 (by omega) (by omega)
 have c3:E.lei 2 16=true:=by rw [ege];rfl
 have c4:E.lei 16 36=true:=by rw [ege];rfl
 have c5:E.lti 32 0=false:=by rw [elt];rfl
 have c6:E.lti 64 32=false:=by rw [elt];rfl
 have c7:E.wsub .u64 (E.shl .u64 1 32) 1=4294967295:=by rw [hE];rfl
 have c8:E.ple 0 32:=eple _ _ (by omega)
 have es8:∀ a b:Int,0<=b->b<=a->a<=255->E.wsub .u8 a b=a - b:=fun a b h0 h1 h2=>by rw [hE];show IntKind.u8.wrap (a - b)=_;rw [zeg];omega
 have ea8:∀ a b:Int,0<=a->0<=b->a + b<=255->E.wadd .u8 a b=a + b:=fun a b h0 h1 h2=>by rw [hE];show IntKind.u8.wrap (a + b)=_;rw [zeg];omega
 clear hE hc;cbv at z2;cbv
 repeat (first|(simp only [z3];cbv)|simp only [z3]|(simp only [c3];cbv)|simp only [c3]|(simp only [c4];cbv)|simp only [c4]|(simp only [c5];cbv)|simp only [c5]|(simp only [c6];cbv)|simp only [c6]|(simp only [c2'];cbv)|simp only [c2']|(refine ⟨c8,?_⟩;cbv)|(simp only [c7];cbv)|simp only [c7]|(simp only [z1];cbv)|simp only [z1]|(simp only [z2];cbv)|simp only [z2])
 refine zbs 172 [0,1,8,9,10,11,12,13,99,100,101] 0 (fun x:Int × Int=>[.p (pS s),.p (pI 16),.p (pB false),.p (pS s),.p (pW 1152921504606846976),.p (pW 4294967295),.p (pB false),.p (pW x.2),.p (.ro 1 rows),.p (pI n),.p (pI x.1)]) (fun _=>[]) (PuI s n) μ (0,0) ⟨rfl,rfl,rfl,rfl,rfl⟩ hI0 ?_
 clear hI0 c3 c4 c5 c6 c7 c8 c2' z1 z3
 rintro ⟨j,acc⟩ ⟨j0,j1,u,hu1,hu2,hu3,hu4⟩
 simp only at j0 j1 hu1 hu2 hu4;replace hn:((s.size:Nat):Int)=n:=hn;replace hu2:((u.length:Nat):Int)=j:=hu2;replace hu4:acc=((zh0 u:Nat):Int):=hu4;have hul:u.length<=6:=by omega
 have hacc:zh0 u < 16777216:=z5f 6 u hul;have hnone:∀ c r,rst s j=c :: r->zit c=none->RV=.tup [pW 0,eSyn]:=fun c r h hc=>by
  rw [<-hRV];unfold puR;rw [if_neg];rw [lAT];intro hall
  have:=hall c (by rw [hu1,h];simp)
  unfold zbb at this;rw [hc] at this
  cases this
 rcases cEm (j < n) with hlt|hlt
 ·have d1:E.lti j n=true:=by rw [elt];exact dT hlt
  obtain ⟨c,hci⟩:=hget j j0 hlt;obtain ⟨z,hz⟩:∃ z:Int,((c.toNat:Nat):Int)=z:=⟨_,rfl⟩
  have g1:=erow j c z hci hz;have p1:=eple 0 j j0;have hc0:=zei j0 hci;obtain ⟨j2,hj2⟩:∃ x:Int,j + 1=x:=⟨_,rfl⟩
  have ej:=eadd j 1 (by omega) (by omega) (by omega) (by omega)
  rw [hj2] at ej;have hcl:=c.toNat_lt;obtain ⟨t1,t2,t3⟩:=z5e c;obtain ⟨L,hL⟩:∃ x:Int,((c.toNat ||| 32:Nat):Int)=x:=⟨_,rfl⟩
  have hl:=zeq c z L hz hL;have e1:E.lei 48 z=decide (48<=z):=ege _ _;have e2:E.lei z 57=decide (z<=57):=ege _ _;have e3:E.lei 97 L=decide (97<=L):=ege _ _;have e4:E.lei L 122=decide (L<=122):=ege _ _;obtain ⟨b95,h95⟩:∃ b,decide (z=95)=b:=⟨_,rfl⟩
  rcases cEm (48<=z/\z<=57) with hd|hd
  ·
   rw [dT hd.1] at e1;rw [dT hd.2] at e2;have hv:=t1 (by omega)
   obtain ⟨dn,hdn⟩:∃ x:Nat,c.toNat - 48=x:=⟨_,rfl⟩
   rw [hdn] at hv;have es:=es8 z 48 (by omega) (by omega) (by omega)
   obtain ⟨d,hdd⟩:∃ x:Int,z - 48=x:=⟨_,rfl⟩
   rw [hdd] at es;obtain ⟨n1,hn1⟩:∃ x:Int,acc * 16 + d=x:=⟨_,rfl⟩
   have em:=emul acc (by omega) (by omega)
   obtain ⟨m,hm⟩:∃ x:Int,acc * 16=x:=⟨_,rfl⟩
   rw [hm] at em hn1;have ea:=eadd64 m d (by omega) (by omega) (by omega) (by omega)
   rw [hn1] at ea;have wd:=ew8 d (by omega) (by omega)
   have d5:E.lei 16 d=false:=by rw [ege];exact dF (by omega)
   have d6:E.lei 1152921504606846976 acc=false:=by rw [ege];exact dF (by omega)
   have d7:E.lti n1 m=false:=by rw [elt];exact dF (by omega)
   have d8:E.lti 4294967295 n1=false:=by rw [elt];exact dF (by omega)
   have hI2:PuI s n (j2,n1):=by
    refine ⟨by show 0<=j2;omega,by show j2<=n;omega,u++[c],?_,?_,?_,?_⟩
    ·show s.data.toList=(u++[c])++rst s j2;rw [List.append_assoc,hu1,hc0,<- hj2];rfl
    ·show (((u++[c]).length:Nat):Int)=j2;rw [lLA,lLS];omega
    ·intro x hx
     rcases List.mem_append.1 hx with hx|hx
     ·exact hu3 x hx
     ·rw [List.mem_singleton.1 hx];unfold zbb;rw [hv];rfl
    ·show n1=(zh0 (u++[c]):Nat);rw [zmi,hv];show n1=((16 * zh0 u + dn:Nat):Int);omega
   have hM2:μ (j2,n1) < μ (j,acc):=by
    rw [hμ,hμ];show 20 - j2.toNat < 20 - j.toNat;omega
   cases b95
   all_goals
    clear elt ege eple erow eadd eadd64 emul ew8 es8 ea8 zeq hget hnone hrg hrl hrows hRV hu1 hu2 hu3 hu4 hul hacc hci hz hc0 hj2 hcl t1 t2 t3 hL hd hv hdn hdd hn1 hm hn h0 h6 hl e3 e4;cbv
    repeat (first|(simp only [d1];cbv)|simp only [d1]|(refine ⟨p1,_,g1,?_⟩;cbv)|(simp only [h95];cbv)|simp only [h95]|(simp only [e1];cbv)|simp only [e1]|(simp only [e2];cbv)|simp only [e2]|(simp only [es];cbv)|simp only [es]|(simp only [c1];cbv)|simp only [c1]|(simp only [d5];cbv)|simp only [d5]|(simp only [d6];cbv)|simp only [d6]|(simp only [c2];cbv)|simp only [c2]|(simp only [em];cbv)|simp only [em]|(simp only [wd];cbv)|simp only [wd]|(simp only [ea];cbv)|simp only [ea]|(simp only [d7];cbv)|simp only [d7]|(simp only [d8];cbv)|simp only [d8]|(simp only [ej];cbv)|simp only [ej])
    refine .mk (j2,n1) ⟨rfl,rfl,rfl,rfl,rfl⟩ ?_ ?_
    ·exact hI2
    ·exact hM2
  ·have hdn0:¬ (48<=c.toNat/\c.toNat<=57):=by omega
   have hd2:(E.lei 48 z=false)\/(E.lei 48 z=true/\E.lei z 57=false):=by
    rw [e1,e2]
    rcases cEm (48<=z) with h|h
    ·exact .inr ⟨dT h,dF fun h2=>hd ⟨h,h2⟩⟩
    ·exact .inl (dF h)
   rcases cEm (97<=L/\L<=122) with ha|ha
   ·rw [dT ha.1] at e3;rw [dT ha.2] at e4;have hv:=t2 hdn0 (by omega)
    have es:=es8 L 97 (by omega) (by omega) (by omega)
    obtain ⟨d0,hd0⟩:∃ x:Int,L - 97=x:=⟨_,rfl⟩
    rw [hd0] at es;have ea:=ea8 d0 10 (by omega) (by omega) (by omega)
    obtain ⟨d,hdd⟩:∃ x:Int,d0 + 10=x:=⟨_,rfl⟩
    rw [hdd] at ea
    rcases cEm (L<=102) with hh|hh
    ·rw [if_pos (by omega)] at hv
     obtain ⟨dn,hdn⟩:∃ x:Nat,(c.toNat ||| 32) - 87=x:=⟨_,rfl⟩
     rw [hdn] at hv;have eaq:=ea;obtain ⟨n1,hn1⟩:∃ x:Int,acc * 16 + d=x:=⟨_,rfl⟩
     have em:=emul acc (by omega) (by omega)
     obtain ⟨m,hm⟩:∃ x:Int,acc * 16=x:=⟨_,rfl⟩
     rw [hm] at em hn1;have ea:=eadd64 m d (by omega) (by omega) (by omega) (by omega)
     rw [hn1] at ea;have wd:=ew8 d (by omega) (by omega)
     have d5:E.lei 16 d=false:=by rw [ege];exact dF (by omega)
     have d6:E.lei 1152921504606846976 acc=false:=by rw [ege];exact dF (by omega)
     have d7:E.lti n1 m=false:=by rw [elt];exact dF (by omega)
     have d8:E.lti 4294967295 n1=false:=by rw [elt];exact dF (by omega)
     have hI2:PuI s n (j2,n1):=by
      refine ⟨by show 0<=j2;omega,by show j2<=n;omega,u++[c],?_,?_,?_,?_⟩
      ·show s.data.toList=(u++[c])++rst s j2;rw [List.append_assoc,hu1,hc0,<- hj2];rfl
      ·show (((u++[c]).length:Nat):Int)=j2;rw [lLA,lLS];omega
      ·intro x hx
       rcases List.mem_append.1 hx with hx|hx
       ·exact hu3 x hx
       ·rw [List.mem_singleton.1 hx];unfold zbb;rw [hv];rfl
      ·show n1=(zh0 (u++[c]):Nat);rw [zmi,hv];show n1=((16 * zh0 u + dn:Nat):Int);omega
     have hM2:μ (j2,n1) < μ (j,acc):=by
      rw [hμ,hμ];show 20 - j2.toNat < 20 - j.toNat;omega
     rcases hd2 with e1'|⟨e1',e2'⟩
     all_goals
      cases b95
      all_goals
       clear elt ege eple erow eadd eadd64 emul ew8 es8 ea8 zeq hget hnone hrg hrl hrows hRV hu1 hu2 hu3 hu4 hul hacc hci hz hc0 hj2 hcl t1 t2 t3 hL hd hv hdn hdd hn1 hm hn h0 h6 e1 e2 hdn0 ha hd0 hh;cbv
       repeat (first|(simp only [d1];cbv)|simp only [d1]|(refine ⟨p1,_,g1,?_⟩;cbv)|(simp only [h95];cbv)|simp only [h95]|(simp only [e1'];cbv)|simp only [e1']|(simp only [e2'];cbv)|simp only [e2']|(refine ⟨_,hl,?_⟩;cbv)|(simp only [e3];cbv)|simp only [e3]|(simp only [e4];cbv)|simp only [e4]|(simp only [es];cbv)|simp only [es]|(simp only [eaq];cbv)|simp only [eaq]|(simp only [c1];cbv)|simp only [c1]|(simp only [d5];cbv)|simp only [d5]|(simp only [d6];cbv)|simp only [d6]|(simp only [c2];cbv)|simp only [c2]|(simp only [em];cbv)|simp only [em]|(simp only [wd];cbv)|simp only [wd]|(simp only [ea];cbv)|simp only [ea]|(simp only [d7];cbv)|simp only [d7]|(simp only [d8];cbv)|simp only [d8]|(simp only [ej];cbv)|simp only [ej])
       refine .mk (j2,n1) ⟨rfl,rfl,rfl,rfl,rfl⟩ ?_ ?_
       ·exact hI2
       ·exact hM2
    ·rw [if_neg (by omega)] at hv
     have hvv:=hnone c _ hc0 hv;subst hvv;have d5:E.lei 16 d=true:=by rw [ege];exact dT (by omega)
     rcases hd2 with e1'|⟨e1',e2'⟩
     all_goals
      cases b95
      all_goals
       clear elt ege eple erow eadd eadd64 emul ew8 es8 ea8 zeq hget hnone hrg hrl hrows hRV hu1 hu2 hu3 hu4 hul hacc hci hz hc0 hj2 hcl t1 t2 t3 hL hd hv hdd hn h0 h6 e1 e2 hdn0 ha hd0 hh;cbv
       repeat (first|(simp only [d1];cbv)|simp only [d1]|(refine ⟨p1,_,g1,?_⟩;cbv)|(simp only [h95];cbv)|simp only [h95]|(simp only [e1'];cbv)|simp only [e1']|(simp only [e2'];cbv)|simp only [e2']|(refine ⟨_,hl,?_⟩;cbv)|(simp only [e3];cbv)|simp only [e3]|(simp only [e4];cbv)|simp only [e4]|(simp only [es];cbv)|simp only [es]|(simp only [ea];cbv)|simp only [ea]|(simp only [c1];cbv)|simp only [c1]|(simp only [d5];cbv)|simp only [d5])
   ·have hv:=t3 hdn0 (by omega)
    have hvv:=hnone c _ hc0 hv;subst hvv;have ha2:(E.lei 97 L=false)\/(E.lei 97 L=true/\E.lei L 122=false):=by
     rw [e3,e4]
     rcases cEm (97<=L) with h|h
     ·exact .inr ⟨dT h,dF fun h2=>ha ⟨h,h2⟩⟩
     ·exact .inl (dF h)
    rcases hd2 with e1'|⟨e1',e2'⟩
    all_goals
     rcases ha2 with e3'|⟨e3',e4'⟩
     all_goals
      cases b95
      all_goals
       clear elt ege eple erow eadd eadd64 emul ew8 es8 ea8 zeq hget hnone hrg hrl hrows hRV hu1 hu2 hu3 hu4 hul hacc hci hz hc0 hj2 hcl t1 t2 t3 hL hd hv hn h0 h6 e1 e2 e3 e4 hdn0 ha;cbv
       repeat (first|(simp only [d1];cbv)|simp only [d1]|(refine ⟨p1,_,g1,?_⟩;cbv)|(simp only [h95];cbv)|simp only [h95]|(simp only [e1'];cbv)|simp only [e1']|(simp only [e2'];cbv)|simp only [e2']|(refine ⟨_,hl,?_⟩;cbv)|(simp only [e3'];cbv)|simp only [e3']|(simp only [e4'];cbv)|simp only [e4'])
 ·have d1:E.lti j n=false:=by rw [elt];exact dF hlt
  have hv:RV=.tup [pW acc,.v .nilIface]:=by
   rw [<-hRV];unfold puR;rw [zl3 (by omega),List.append_nil] at hu1
   rw [hu1,if_pos (List.all_eq_true.2 hu3),hu4]
  subst hv;clear elt ege eple erow eadd eadd64 emul ew8 es8 ea8 zeq hget hnone hrg hrl hrows hRV hu1 hu2 hu3 hu4 hul hacc hn h0 h6;cbv
  repeat (first|(simp only [d1];cbv)|simp only [d1])
end Go.Proofs.YtcfecmeocimclaaGreatDoor
