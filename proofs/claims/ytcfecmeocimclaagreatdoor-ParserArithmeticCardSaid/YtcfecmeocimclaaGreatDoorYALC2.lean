/- Own work: lexer.scan with Lex's zfy,and Lex. -/
import Derived.Test.YtcfecmeocimclaaGreatDoorYAA0
import Derived.Test.YtcfecmeocimclaaGreatDoorYALC1
namespace Go.Proofs.YtcfecmeocimclaaGreatDoor
set_option linter.unusedSimpArgs false
set_option maxRecDepth 100000
open Go.RowKit
def tkRow (n:Int) (x:Tk):List PV:=[pI x.k,pS (bL x.t),pI (n - (x.rem:Nat))]
def zbr (n:Int) (ts:List Tk):List (List PV):=ts.map (tkRow n)
theorem zui (n:Int) (a b:List Tk):zbr n (a++b)=zbr n a++zbr n b:=List.map_append
theorem zd7 (n:Int) (a:List Tk):(zbr n a).length=a.length:=lLM ..
def zec (l:Bs):List Tk × Option (Nat × Int):=lex uB zah l
abbrev oH (m:Nat) (rs:List (List PV)):AH:=[some (.box [.osl 1 0 m] 46 none),some (.rows 3 rs 74)]
set_option maxHeartbeats 2000000 in
theorem clo_m (k:Int) (t:ByteArray) (a:Int) (m M:Nat) (rs RS:List (List PV)) (hm:m=rs.length) (hb:m<=2000000) (hM:m + 1=M) (hR:rs++[[pI k,pS t,pI a]]=RS) :
  ML 61 [.agg [.p (pI k),.p (pS t),.p (pI a)],.own 0 0] (oH m rs) (.p (pB true)) (oH M RS):=by
 refine zad zaa (f:=61) Tryz.func61 rfl (by kernel_rfl) (oT (by kernel_rfl)) fun tags htl=>?_
 match tags,htl with
 | [t0,t1],_ =>
  refine Seg.of zaa mixed (fun _=>0) (by kernel_rfl) (fun E=>za0 E tyT Tryz.f61.results.toList [t0,t1] (.p (pB true)) (oH M RS)) fun P G E hc hM3 hE=>?_
  have p5:E.pre 0 m rs:=by rw [hE];show 0 + m<=rs.length;omega
  have p4:E.room m 1 32:=by rw [hE];exact ⟨by unfold maxLen;omega,by omega⟩
  have a2:E.addN m 1=M:=by rw [hE];exact hM
  have r3:E.app rs m [[pI k,pS t,pI a]]=RS:=by rw [hE];show rs.take m++_=_;rw [hm,lTL];exact hR
  have r0:E.sub [[pI k,pS t,pI a]] 0 1=[[pI k,pS t,pI a]]:=by rw [hE];rfl
  have p0:E.pre 0 1 [[pI k,pS t,pI a]]:=by rw [hE];show 0 + 1<=1;omega
  clear hE hc hM3 hR hM hm hb;cbv
  repeat (first|(refine ⟨p0,p5,p4,?_⟩;cbv)|(simp only [r0,r3,a2];cbv)|simp only [r0,r3,a2])
  all_goals trivial
def z6q (n:Int):Option (Nat × Int)->PV
 | none=>.tup [pI 0,pI 0]
 | some p=>.tup [pI (n - (p.1:Nat)),pI p.2]
structure ScI (s:ByteArray) (n:Int) (TS:List Tk) (ER:Option (Nat × Int)) (x:Int × Nat × List (List PV)):Prop where
 i0:0<=x.1
 i1:x.1<=n
 st:∃ done:List Tk,x.2.2=zbr n done/\done.length=x.2.1/\(done.length:Int)<=x.1/\TS=done++(zec (rst s x.1)).1/\ER=(zec (rst s x.1)).2
theorem zws {s:ByteArray} {i:Int} {u r:Bs} (h0:0<=i) (h:rst s i=u++r):r=rst s (i + (u.length:Nat)):=by
 rw [<-zlh s i u.length h0,h,List.drop_left]
theorem znk {l:Bs} {e:Int} (h:zeu uB zah l=.bad e):e ≠ 0:=by
 cases l with
 | nil=>cases h;decide
 | cons c r =>
  rw [zeu] at h
  split at h
  ·cases h
  ·split at h
   ·exact ztj h
   ·split at h
    ·cases hl:lit uB c r with
     | none=>rw [hl] at h;cases h;decide
     | some z=>rw [hl] at h;cases h
    ·cases ho:opL (c :: r) with
     | none=>rw [ho] at h;cases h;decide
     | some w=>rw [ho] at h;cases h
set_option maxHeartbeats 4000000 in
theorem z6p (s:ByteArray) (hs:s.size<=900000) (TS:List Tk) (ER:Option (Nat × Int)) (hL:zec s.data.toList=(TS,ER)) :
  ML 60 [.p (pS s),.clo 61 [] [.own 0 0]] (oH 0 []) (.p (z6q (s.size:Nat) ER)) (oH TS.length (zbr (s.size:Nat) TS)):=by
 obtain ⟨n,hn⟩:∃ n:Int,((s.size:Nat):Int)=n:=⟨_,rfl⟩
 rw [hn];have hI0:ScI s n TS ER (0,0,[]):=⟨Int.le_refl _,by show 0<=n;omega,[],rfl,rfl,by show (0:Int)<=0;omega,by show TS=[]++(zec s.data.toList).1;rw [hL];rfl,by show ER=(zec s.data.toList).2;rw [hL]⟩
 obtain ⟨RV,hRV⟩:∃ x,z6q n ER=x:=⟨_,rfl⟩
 obtain ⟨M,hM⟩:∃ x,TS.length=x:=⟨_,rfl⟩
 obtain ⟨RS,hRS⟩:∃ x,zbr n TS=x:=⟨_,rfl⟩
 rw [hRV,hM,hRS];obtain ⟨μ,hμ⟩:∃ μ:Int->Nat,∀ x,μ x=2000000000 - x.toNat:=⟨_,fun _=>rfl⟩
 have hsk:=fun (i:Int) (r:Bs) (b:Bool) (e:Int) (h0:0<=i) (h1:i<=n) (hR:skp (rst s i)=(r,b)) (he:n - (r.length:Nat)=e)=>show RL 86 [pS s,pI i] (.tup [pI e,pB b]) from he ▸ hn ▸ z0b s i r b h0 (by omega) (by omega) hR
 have hnx:=fun (i:Int) (h0:0<=i) (h1:i < n)=>z0t s i h0 (by omega) hs
 have hclo:=fun (k:Int) (t:ByteArray) (a:Int) (m M:Nat) (rs RS:List (List PV)) (hm:m=rs.length) (hb:m<=2000000) (hM:m + 1=M) (hR:rs++[[pI k,pS t,pI a]]=RS)=>clo_m k t a m M rs RS hm hb hM hR
 refine zad zaa (f:=60) Tryz.func60 rfl (by kernel_rfl) (oT (by kernel_rfl)) fun tags htl=>?_
 match tags,htl with
 | [t0,t1],_ =>
  refine Seg.of zaa mixed (fun _=>0) (by kernel_rfl) (fun E=>za0 E tyT Tryz.f60.results.toList [t0,t1] (.p RV) (oH M RS)) fun P G E hc hM3 hE=>?_
  replace hsk:=fun (i:Int) (r:Bs) (b:Bool) (e:Int) (h0:0<=i) (h1:i<=n) (hR:skp (rst s i)=(r,b)) (he:n - (r.length:Nat)=e)=>hc _ _ _ (hsk i r b e h0 h1 hR he)
  replace hnx:=fun (i:Int) (h0:0<=i) (h1:i < n)=>hc _ _ _ (hnx i h0 h1)
  replace hclo:=fun (k:Int) (t:ByteArray) (a:Int) (m M:Nat) (rs RS:List (List PV)) (hm:m=rs.length) (hb:m<=2000000) (hM:m + 1=M) (hR:rs++[[pI k,pS t,pI a]]=RS)=>hM3 _ _ _ _ _ (hclo k t a m M rs RS hm hb hM hR)
  have z1:E.size s=n:=by rw [hE];exact hn
  have d0:E.lti 1048576 n=false:=by rw [hE];exact dF (by omega)
  clear hE hc hM3;cbv
  repeat (first|(simp only [z1];cbv)|simp only [z1]|(simp only [d0];cbv)|simp only [d0])
  refine zbs 44 [0,1,6] 2 (fun x:Int × Nat × List (List PV)=>[.p (pS s),.clo 61 [] [.own 0 0],.p (pI x.1)]) (fun x=>[some (.box [.osl 1 0 x.2.1] 46 (some t0)),some (.rows 3 x.2.2 74)]) (ScI s n TS ER) (fun x=>μ x.1) (0,0,[]) ⟨rfl,rfl,rfl,rfl,rfl⟩ hI0 ?_
  clear hI0 d0
  rintro ⟨i,m,rs⟩ ⟨i0,i1,done,hrs,hm,hdl,hTS,hER⟩
  simp only at i0 i1 hrs hm hdl hTS hER;replace hn:((s.size:Nat):Int)=n:=hn;replace hM:TS.length=M:=hM;replace hm:done.length=m:=hm;replace hdl:((done.length:Nat):Int)<=i:=hdl;have hrl:=zdo s i;obtain ⟨r,b,hrb⟩:∃ r b,skp (rst s i)=(r,b):=⟨_,_,rfl⟩
  have hle:=zl0 (rst s i);rw [hrb] at hle;simp only at hle;obtain ⟨v,hv⟩:=zrj (rst s i);rw [hrb] at hv;simp only at hv;obtain ⟨f,hf⟩:∃ x:Int,n - (r.length:Nat)=x:=⟨_,rfl⟩
  have hs1:=hsk i r b f i0 i1 hrb hf;have hlv:(rst s i).length=v.length + r.length:=by rw [hv,lLA]
  have hrf:r=rst s f:=by
   have:=zws i0 hv
   rw [show i + ((v.length:Nat):Int)=f by omega] at this
   exact this
  have hat:=znl _ r b hrb
  cases b with
  | false =>
   have hx:=zjk uB zah hrb;change zec (rst s i)=_ at hx;rw [hx] at hTS hER;simp only [List.append_nil] at hTS hER;have hv2:RV=.tup [pI f,pI 4]:=by
    rw [<-hRV,hER];show PV.tup [pI (n - (r.length:Nat)),pI 4]=_;rw [hf]
   have hmm:M=m:=by rw [<-hM,hTS,hm]
   have hrr:RS=rs:=by rw [<-hRS,hTS,hrs]
   subst hv2 hmm hrr;clear hRV hM hRS hnx hclo hsk hrs hm hdl hTS hER hrl hrb hle hv hf hlv hrf hat hx hμ hn hs hL;cbv
   repeat (first|(refine ⟨_,hs1,?_⟩;cbv))
   all_goals trivial
  | true =>
   rcases hat.2 rfl with hrn|⟨c,r',hrc,hw,hk⟩
   ·have hx:=zgm uB zah (l:=rst s i) (by rw [hrb,hrn])
    change zec (rst s i)=_ at hx;rw [hx] at hTS hER;simp only [List.append_nil] at hTS hER;have hv2:RV=.tup [pI 0,pI 0]:=by rw [<-hRV,hER];rfl
    have hmm:M=m:=by rw [<-hM,hTS,hm]
    have hrr:RS=rs:=by rw [<-hRS,hTS,hrs]
    have hfn:f=n:=by rw [<-hf,hrn];show n - 0=n;omega
    have d1:decide (n=n)=true:=dT rfl;subst hv2 hmm hrr hfn;clear hRV hM hRS hnx hclo hsk hrs hm hdl hTS hER hrl hrb hle hv hf hlv hrf hat hx hμ hn hs hL hrn;cbv
    repeat (first|(refine ⟨_,hs1,?_⟩;cbv)|(simp only [z1];cbv)|simp only [z1]|(simp only [d1];cbv)|simp only [d1])
    all_goals trivial
   ·have hr0:0 < r.length:=by rw [hrc];simp
    have d1:decide (f=n)=false:=dF (by omega)
    have hnx1:=hnx f (by omega) (by omega)
    cases htok:zeu uB zah r with
    | bad e =>
     have hx:=zkf uB zah hrb (by rw [hrc];exact List.cons_ne_nil _ _) htok
     change zec (rst s i)=_ at hx;rw [hx] at hTS hER;simp only [List.append_nil] at hTS hER;rw [zji (by rw [<-hrf];exact htok)] at hnx1
     have he0:decide (e=0)=false:=dF (znk htok);have hv2:RV=.tup [pI f,pI e]:=by
      rw [<-hRV,hER];show PV.tup [pI (n - (r.length:Nat)),pI e]=_;rw [hf]
     have hmm:M=m:=by rw [<-hM,hTS,hm]
     have hrr:RS=rs:=by rw [<-hRS,hTS,hrs]
     subst hv2 hmm hrr;clear hRV hM hRS hnx hclo hsk hrs hm hdl hTS hER hrl hrb hle hv hf hlv hrf hat hx hμ hn hs hL hrc hw hk hr0 htok;cbv
     repeat (first|(refine ⟨_,hs1,?_⟩;cbv)|(simp only [z1];cbv)|simp only [z1]|(simp only [d1];cbv)|simp only [d1]|(refine ⟨_,hnx1,?_⟩;cbv)|(simp only [he0];cbv)|simp only [he0])
     all_goals trivial
    | ok k t r2 =>
     have hx:=zfe uB zah hrb htok;change zec (rst s i)=(_ :: (zec r2).1,(zec r2).2) at hx;rw [hx] at hTS hER;simp only at hTS hER;rw [zjh (by rw [<-hrf];exact htok),hn] at hnx1
     unfold pTk at hnx1;have hlt:=znj uB zah htok;obtain ⟨w,hw1,hw2,_⟩:=zi2 uB zah htok;obtain ⟨e1,he1⟩:∃ x:Int,n - (r2.length:Nat)=x:=⟨_,rfl⟩
     rw [he1] at hnx1;have hrf2:rst s f=w++r2:=by rw [<-hrf,hw2]
     have hrl2:=congrArg List.length hw2;rw [lLA] at hrl2;have hr2:r2=rst s e1:=by
      have:=zws (by omega) hrf2
      rw [show f + ((w.length:Nat):Int)=e1 by omega] at this
      exact this
     obtain ⟨T,hT⟩:∃ x,bL t=x:=⟨_,rfl⟩
     rw [hT] at hnx1;have hml:m=rs.length:=by rw [hrs,zd7,hm]
     obtain ⟨RS2,hRS2⟩:∃ x,rs++[[pI k,pS T,pI f]]=x:=⟨_,rfl⟩
     have hcl:=hclo k T f m (m + 1) rs RS2 hml (by omega) rfl hRS2
     obtain ⟨m1,hm1⟩:∃ x,m + 1=x:=⟨_,rfl⟩
     rw [hm1] at hcl;have hI2:ScI s n TS ER (e1,m1,RS2):=by
      refine ⟨by show 0<=e1;omega,by show e1<=n;omega,done++[⟨k,t,r.length⟩],?_,?_,?_,?_,?_⟩
      ·show RS2=_;rw [<-hRS2,zui,hrs];show _=zbr n done++[[pI k,pS (bL t),pI (n - (r.length:Nat))]];rw [hT,hf]
      ·show (done++[_]).length=m1;rw [lLA,hm];exact hm1
      ·show (((done++[(⟨k,t,r.length⟩:Tk)]).length:Nat):Int)<=e1;rw [lLA,lLS];omega
      ·show TS=(done++[_])++(zec (rst s e1)).1;rw [hTS,<- hr2];simp
      ·show ER=(zec (rst s e1)).2;rw [hER,<- hr2]
     have hM2:μ e1 < μ i:=by rw [hμ,hμ];omega
     clear hRV hM hRS hnx hclo hsk hrs hm hdl hTS hER hrl hrb hle hv hf hlv hrf hat hx hμ hn hs hL hrc hw hk hr0 htok hlt hw1 hw2 he1 hrf2 hrl2 hr2 hT hml hRS2 hm1;cbv
     repeat (first|(refine ⟨_,hs1,?_⟩;cbv)|(simp only [z1];cbv)|simp only [z1]|(simp only [d1];cbv)|simp only [d1]|(refine ⟨_,hnx1,?_⟩;cbv))
     refine .mk _ _ (Wk.refl _ _) [0,1] _ _ _ _ hcl rfl rfl rfl ?_;cbv;refine .mk (e1,m1,RS2) ⟨rfl,rfl,rfl,rfl,rfl⟩ ?_ ?_
     ·exact hI2
     ·exact hM2
def z7r (s:ByteArray):PV:=match zec s.data.toList with
 | (ts,none)=>.tup [.ro 3 (zbr (s.size:Nat) ts),pI 0,pI 0]
 | (_,some p)=>.tup [.v (.slice none 0 0),pI ((s.size:Nat) - (p.1:Nat)),pI p.2]
theorem zoq {s:ByteArray} {ts:List Tk} (h:zec s.data.toList=(ts,none)):z7r s=.tup [.ro 3 (zbr (s.size:Nat) ts),pI 0,pI 0]:=by unfold z7r;rw [h]
theorem ztq {s:ByteArray} {ts:List Tk} {m:Nat} {e:Int} (h:zec s.data.toList=(ts,some (m,e))):z7r s=.tup [.v (.slice none 0 0),pI ((s.size:Nat) - (m:Nat)),pI e]:=by unfold z7r;rw [h]
theorem zmg:∀ (n:Nat) (l:Bs) (m:Nat) (e:Int),(zk0 uB zah n l).2=some (m,e)->e ≠ 0
 | 0,_,_,_,h=>by cases h
 | n + 1,l,m,e,h=>by
  rw [zk0] at h
  split at h
  ·cases h;decide
  ·split at h
   ·cases h
   ·split at h
    ·rename_i e' ht
     cases h
     exact znk ht
    ·exact zmg n _ m e h
set_option maxHeartbeats 2000000 in
theorem zop (s:ByteArray) (hs:s.size<=900000):RL 32 [pS s] (z7r s):=by
 obtain ⟨TS,ER,hL⟩:∃ a b,zec s.data.toList=(a,b):=⟨_,_,rfl⟩
 have hsc:=z6p s hs TS ER hL;obtain ⟨n,hn⟩:∃ n:Int,((s.size:Nat):Int)=n:=⟨_,rfl⟩
 rw [hn] at hsc;have hrl:(zbr n TS).length=TS.length:=zd7 n TS
 cases ER with
 | none =>
  rw [zoq hL,hn];change ML _ _ _ (.p (.tup [pI 0,pI 0])) _ at hsc;obtain ⟨M,hM⟩:∃ x,TS.length=x:=⟨_,rfl⟩
  obtain ⟨RS,hRS⟩:∃ x,zbr n TS=x:=⟨_,rfl⟩
  rw [hM,hRS] at hsc hrl;rw [hRS];refine zfb zaa zbu mixed (fun _=>0) Tryz.func32 rfl (by kernel_rfl) (by kernel_rfl) rfl fun P G E hc hM3 hE=>?_
  replace hsc:=hM3 _ _ _ _ _ hsc;have p1:E.pre 0 M RS:=by rw [hE];show 0 + M<=RS.length;omega
  have r1:E.sub RS 0 M=RS:=by rw [hE];show (RS.drop 0).take M=RS;rw [lDZ,<- hrl,lTL]
  clear hE hc hM3 hL hM hRS hrl;cbv;refine .mk _ _ (zps (k:=0) (j:=0) 3 74 rfl rfl) [0,1] _ _ _ _ hsc rfl rfl rfl ?_;cbv
  repeat (first|(refine ⟨p1,?_⟩;cbv)|(simp only [r1];cbv)|simp only [r1])
 | some p =>
  obtain ⟨m,e⟩:=p;rw [ztq hL,hn];have he:e ≠ 0:=zmg _ _ m e (congrArg Prod.snd hL);change ML _ _ _ (.p (.tup [pI (n - (m:Nat)),pI e])) _ at hsc;obtain ⟨f,hf⟩:∃ x:Int,n - (m:Nat)=x:=⟨_,rfl⟩
  obtain ⟨M,hM⟩:∃ x,TS.length=x:=⟨_,rfl⟩
  obtain ⟨RS,hRS⟩:∃ x,zbr n TS=x:=⟨_,rfl⟩
  rw [hM,hRS,hf] at hsc;rw [hf];have d1:decide (e=0)=false:=dF he;refine zfb zaa zbu mixed (fun _=>0) Tryz.func32 rfl (by kernel_rfl) (by kernel_rfl) rfl fun P G E hc hM3 hE=>?_
  replace hsc:=hM3 _ _ _ _ _ hsc;clear hE hc hM3 hL hM hRS hrl he hf;cbv;refine .mk _ _ (zps (k:=0) (j:=0) 3 74 rfl rfl) [0,1] _ _ _ _ hsc rfl rfl rfl ?_;cbv
  repeat (first|(simp only [d1];cbv)|simp only [d1])
end Go.Proofs.YtcfecmeocimclaaGreatDoor
