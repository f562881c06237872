/- Own work: trees whose lists of parts are slices,nil or not;both Same of such trees. -/
import Derived.Test.YtcfecmeocimclaaGreatDoorYQA0
import Derived.Test.YtcfecmeocimclaaGreatDoorYQHI
namespace Go.Proofs.YtcfecmeocimclaaGreatDoor
open Go.RowKit
set_option maxRecDepth 100000
set_option linter.unusedSimpArgs false
set_option linter.unusedVariables false
set_option linter.unusedSectionVars false
theorem zxd {k:Int} {b1 b2 b3:Bool} (h0:1<=k) (h1:k<=42) (h:∀ (P:Program) (G:World->Prop) (E:SO),E.lti k 1=false->E.lti 42 k=false->awp P G E tyT (fun _=>0) (Tryz.f26.body.getD .skip) (zcs E tyT Tryz.f26.results.toList (.tup [pB b1,pB b2,pB b3])) (([pI k]:List PV).map .p++List.replicate (34 - ([pI k]:List PV).length) (.p (.v undef))) []):V0 26 [pI k] (.tup [pB b1,pB b2,pB b3]):=by
 refine zao zaa zbl mixed (fun _=>0) Tryz.func26 rfl (by kernel_rfl) (by kernel_rfl) rfl fun P G E hc hE=>?_
 exact h P G E (by rw [hE];exact dF (by omega)) (by rw [hE];exact dF (by omega))
theorem zxc {k:Int} {b1 b2 b3:Bool} (h:zig k=(b1,b2,b3)):V0 26 [pI k] (.tup [pB b1,pB b2,pB b3]):=by
 by_cases hv:k=5\/k=11\/k=31\/k=12\/k=13\/k=14\/k=16\/k=17\/k=6\/k=7\/k=18\/k=38\/k=40\/k=41
 ·refine zxd (by omega) (by omega) fun P G E d1 d2=>?_
  rcases hv with rfl|rfl|rfl|rfl|rfl|rfl|rfl|rfl|rfl|rfl|rfl|rfl|rfl|rfl
  all_goals
   cases h
   cbv
   repeat (first|(simp only [d1];cbv)|simp only [d1]|(simp only [d2];cbv)|simp only [d2])
 ·simp only [not_or] at hv;obtain ⟨v5,v11,v31,v12,v13,v14,v16,v17,v6,v7,v18,v38,v40,v41⟩:=hv
  rcases (show k < 1\/42 < k\/(1<=k/\k<=42) by omega) with hk|hk|⟨hk0,hk1⟩
  ·unfold zig at h;rw [if_pos (.inl hk)] at h
   cases h
   refine zao zaa zbl mixed (fun _=>0) Tryz.func26 rfl (by kernel_rfl) (by kernel_rfl) rfl fun P G E hc hE=>?_
   have d1:E.lti k 1=true:=by rw [hE];exact dT hk
   clear hc hE;replace v5:decide (k=5)=false:=dF v5;replace v11:decide (k=11)=false:=dF v11;replace v31:decide (k=31)=false:=dF v31;replace v12:decide (k=12)=false:=dF v12;replace v13:decide (k=13)=false:=dF v13;replace v14:decide (k=14)=false:=dF v14;replace v16:decide (k=16)=false:=dF v16;replace v17:decide (k=17)=false:=dF v17;replace v6:decide (k=6)=false:=dF v6;replace v7:decide (k=7)=false:=dF v7;replace v18:decide (k=18)=false:=dF v18;replace v38:decide (k=38)=false:=dF v38;replace v40:decide (k=40)=false:=dF v40;replace v41:decide (k=41)=false:=dF v41;cbv
   repeat (first|(simp only [d1];cbv)|simp only [d1]|(simp only [v5];cbv)|simp only [v5]|(simp only [v11];cbv)|simp only [v11]|(simp only [v31];cbv)|simp only [v31]|(simp only [v12];cbv)|simp only [v12]|(simp only [v13];cbv)|simp only [v13]|(simp only [v14];cbv)|simp only [v14]|(simp only [v16];cbv)|simp only [v16]|(simp only [v17];cbv)|simp only [v17]|(simp only [v6];cbv)|simp only [v6]|(simp only [v7];cbv)|simp only [v7]|(simp only [v18];cbv)|simp only [v18]|(simp only [v38];cbv)|simp only [v38]|(simp only [v40];cbv)|simp only [v40]|(simp only [v41];cbv)|simp only [v41])
  ·unfold zig at h;rw [if_pos (.inr hk)] at h
   cases h
   refine zao zaa zbl mixed (fun _=>0) Tryz.func26 rfl (by kernel_rfl) (by kernel_rfl) rfl fun P G E hc hE=>?_
   have d1:E.lti k 1=false:=by rw [hE];exact dF (by omega)
   have d2:E.lti 42 k=true:=by rw [hE];exact dT hk
   clear hc hE;replace v5:decide (k=5)=false:=dF v5;replace v11:decide (k=11)=false:=dF v11;replace v31:decide (k=31)=false:=dF v31;replace v12:decide (k=12)=false:=dF v12;replace v13:decide (k=13)=false:=dF v13;replace v14:decide (k=14)=false:=dF v14;replace v16:decide (k=16)=false:=dF v16;replace v17:decide (k=17)=false:=dF v17;replace v6:decide (k=6)=false:=dF v6;replace v7:decide (k=7)=false:=dF v7;replace v18:decide (k=18)=false:=dF v18;replace v38:decide (k=38)=false:=dF v38;replace v40:decide (k=40)=false:=dF v40;replace v41:decide (k=41)=false:=dF v41;cbv
   repeat (first|(simp only [d1];cbv)|simp only [d1]|(simp only [d2];cbv)|simp only [d2]|(simp only [v5];cbv)|simp only [v5]|(simp only [v11];cbv)|simp only [v11]|(simp only [v31];cbv)|simp only [v31]|(simp only [v12];cbv)|simp only [v12]|(simp only [v13];cbv)|simp only [v13]|(simp only [v14];cbv)|simp only [v14]|(simp only [v16];cbv)|simp only [v16]|(simp only [v17];cbv)|simp only [v17]|(simp only [v6];cbv)|simp only [v6]|(simp only [v7];cbv)|simp only [v7]|(simp only [v18];cbv)|simp only [v18]|(simp only [v38];cbv)|simp only [v38]|(simp only [v40];cbv)|simp only [v40]|(simp only [v41];cbv)|simp only [v41])
  ·have e:zig k=(false,false,false):=by
    unfold zig;rw [if_neg (by omega),if_neg (by omega),if_neg (by omega),if_neg (by omega),if_neg (by omega)]
   rw [e] at h
   cases h
   refine zxd hk0 hk1 fun P G E d1 d2=>?_
   replace v5:decide (k=5)=false:=dF v5;replace v11:decide (k=11)=false:=dF v11;replace v31:decide (k=31)=false:=dF v31;replace v12:decide (k=12)=false:=dF v12;replace v13:decide (k=13)=false:=dF v13;replace v14:decide (k=14)=false:=dF v14;replace v16:decide (k=16)=false:=dF v16;replace v17:decide (k=17)=false:=dF v17;replace v6:decide (k=6)=false:=dF v6;replace v7:decide (k=7)=false:=dF v7;replace v18:decide (k=18)=false:=dF v18;replace v38:decide (k=38)=false:=dF v38;replace v40:decide (k=40)=false:=dF v40;replace v41:decide (k=41)=false:=dF v41;cbv
   repeat (first|(simp only [d1];cbv)|simp only [d1]|(simp only [d2];cbv)|simp only [d2]|(simp only [v5];cbv)|simp only [v5]|(simp only [v11];cbv)|simp only [v11]|(simp only [v31];cbv)|simp only [v31]|(simp only [v12];cbv)|simp only [v12]|(simp only [v13];cbv)|simp only [v13]|(simp only [v14];cbv)|simp only [v14]|(simp only [v16];cbv)|simp only [v16]|(simp only [v17];cbv)|simp only [v17]|(simp only [v6];cbv)|simp only [v6]|(simp only [v7];cbv)|simp only [v7]|(simp only [v18];cbv)|simp only [v18]|(simp only [v38];cbv)|simp only [v38]|(simp only [v40];cbv)|simp only [v40]|(simp only [v41];cbv)|simp only [v41])
mutual
def zi6:PT->List PV
 | .mk k nm i o ks=>[pI k,pS (bL nm),pI i,pI o,.ro 5 (zge ks)]
def zge:List PT->List (List PV)
 | []=>[]
 | k :: ks=>zi6 k :: zge ks
end
theorem zgc:∀ a:List PT,(zge a).length=a.length
 | []=>by rw [zge];rfl
 | x :: a=>by rw [zge,lLC,lLC,zgc a]
theorem zgd:∀ (ps:List PT) (i:Nat),(zge ps)[i]?=ps[i]?.map zi6
 | [],i=>by rw [zge];simp
 | p :: ps,0=>by rw [zge];rfl
 | p :: ps,i + 1=>by rw [zge,List.getElem?_cons_succ,List.getElem?_cons_succ,zgd ps i]
theorem zjp (x:PT):∃ k i o nm R,zi6 x=[pI k,pS nm,pI i,pI o,.ro 5 R]:=by
 cases x with
 | mk k nm i o ks=>exact ⟨k,i,o,bL nm,zge ks,by rw [zi6]⟩
theorem SmI.next {ks ks':List PT} {q:Bool} {j j2:Int} {z z':PT} {l l':List PT} (h:SmI ks ks' q (j,z :: l,z' :: l')) (hj:j + 1=j2) (hs:ze4 z z'=true):SmI ks ks' q (j2,l,l')/\ks[j.toNat]?=some z/\ks'[j.toNat]?=some z':=by
 obtain ⟨g1,g2,g3,g4,g5,g6⟩:=h;simp only at g1 g2 g3 g4 g5 g6;have e:j2.toNat=j.toNat + 1:=by omega
 refine ⟨⟨by show ks.drop j2.toNat=l;rw [e,<- lDD,g1];rfl,by show ks'.drop j2.toNat=l';rw [e,<- lDD,g2];rfl,by show 0<=j2;omega,by simp only [lLC] at g4;show j2 + ((l.length:Nat):Int)=_;omega,by simpa using g5,by rw [<-g6,zhh,hs,Bool.true_and]⟩,?_,?_⟩
 ·have:=congrArg (fun r:List PT=>r[0]?) g1
  rw [List.getElem?_drop] at this;simpa using this
 ·have:=congrArg (fun r:List PT=>r[0]?) g2
  rw [List.getElem?_drop] at this;simpa using this
section
variable {P:Program} {G:World->Prop} {E:SO} {k i o k' i' o' M M':Int} {T T':ByteArray} {KK KK':PV} {b1 b2 b3 dk dn di dq dl:Bool} {HI:Prop}
abbrev rsB (k i o k' i' o':Int) (T T':ByteArray) (KK KK':PV):AH:=[some (.box [.p (pI k),.p (pS T),.p (pI i),.p (pI o),.p KK] 27 none),some (.box [.p (pI k'),.p (pS T'),.p (pI i'),.p (pI o'),.p KK'] 27 none)]
abbrev rsH (P:Program) (G:World->Prop) (E:SO) (k i o k' i' o':Int) (T T':ByteArray) (KK KK':PV) (HI:Prop) (q:Bool):Prop :=
 awp P G E tyT (fun _=>0) (zeh 2 (Tryz.f15.body.getD .skip)) (zb7 (CutIs 77 [2,3,4] 2 (fun _:Unit=>[.own 0 0,.own 1 0,.p (pB false)]) (fun _=>rsB k i o k' i' o' T T' KK KK') (fun _=>HI)) (zcs E tyT Tryz.f15.results.toList (pB q)))
  (([.agg [pI k,pS T,pI i,pI o,KK],.agg [pI k',pS T',pI i',pI o',KK']]:List PV).map .p++List.replicate (77 - ([.agg [pI k,pS T,pI i,pI o,KK],.agg [pI k',pS T',pI i',pI o',KK']]:List PV).length) (.p (.v undef))) []
abbrev rsG (P:Program) (G:World->Prop) (E:SO) (k i o k' i' o':Int) (T T':ByteArray) (KK KK':PV) (HI:Prop) (q:Bool):Prop :=
 awp P G E tyT (fun _=>0) (zeh 2 (zi9 2 (Tryz.f15.body.getD .skip))) (zb7 (CutIs 77 [2,3,4] 2 (fun _:Unit=>[.own 0 0,.own 1 0,.p (pB false)]) (fun _=>rsB k i o k' i' o' T T' KK KK') (fun _=>HI)) (zcs E tyT Tryz.f15.results.toList (pB q)))
  (zba [2,3,4] [.own 0 0,.own 1 0,.p (pB false)] 77 0) (rsB k i o k' i' o' T T' KK KK')
set_option maxHeartbeats 8000000 in
theorem rs_h {q:Bool} {R R':List (List PV)} (l0:E.ofN R.length=M) (l1:E.ofN R'.length=M') (hdk:decide (k=k')=dk) (hdl:decide (M=M')=dl) (h:dk=false\/dk=true/\dl=false\/dk=true/\dl=true) (hq:(dk && dl)=false->false=q) (hI:(dk && dl)=true->HI):rsH P G E k i o k' i' o' T T' (.ro 5 R) (.ro 5 R') HI q:=by
 cbv at l0;cbv at l1
 rcases h with rfl|⟨rfl,rfl⟩|⟨rfl,rfl⟩
 ·have hq':=hq rfl;subst hq';cbv
  repeat (first|(simp only [hdk];cbv)|simp only [hdk])
 ·have hq':=hq rfl;subst hq';cbv
  repeat (first|(simp only [hdk];cbv)|simp only [hdk]|(simp only [l0];cbv)|simp only [l0]|(simp only [l1];cbv)|simp only [l1]|(simp only [hdl];cbv)|simp only [hdl])
 ·replace hI:=hI rfl;cbv
  repeat (first|(simp only [hdk];cbv)|simp only [hdk]|(simp only [l0];cbv)|simp only [l0]|(simp only [l1];cbv)|simp only [l1]|(simp only [hdl];cbv)|simp only [hdl])
  exact .mk () ⟨rfl,rfl,rfl,rfl,rfl⟩ hI
section
variable (h1:Ret P G 26 [pI k] (.tup [pB b1,pB b2,pB b3])) (ok:zhb (.p KK)=true) (ok':zhb (.p KK')=true) (e2:E.eq T T'=dn) (hdi:decide (i=i')=di) (hdq:decide (o=o')=dq)
include h1 ok ok' e2 hdi hdq
set_option maxHeartbeats 8000000 in
theorem rs_f (h:(b1=true/\dn=false)\/(b1=false/\b2=true/\di=false)\/(b1=true/\dn=true/\b2=true/\di=false)\/(b1=false/\b2=false/\b3=true/\dq=false)):rsG P G E k i o k' i' o' T T' KK KK' HI false:=by
 cbv at ok;cbv at ok'
 rcases h with ⟨rfl,rfl⟩|⟨rfl,rfl,rfl⟩|⟨rfl,rfl,rfl,rfl⟩|⟨rfl,rfl,rfl,rfl⟩
 all_goals
  cbv
  repeat (first|(refine ⟨_,h1,?_⟩;cbv)|(simp only [ok,ok',e2,hdi,hdq];cbv)|simp only [ok,ok',e2,hdi,hdq])
set_option maxHeartbeats 8000000 in
theorem rs_g (h:(b1=true/\dn=true/\b2=false/\b3=true/\dq=false)\/(b1=false/\b2=true/\di=true/\b3=true/\dq=false)\/(b1=true/\dn=true/\b2=true/\di=true/\b3=true/\dq=false)):rsG P G E k i o k' i' o' T T' KK KK' HI false:=by
 cbv at ok;cbv at ok'
 rcases h with ⟨rfl,rfl,rfl,rfl,rfl⟩|⟨rfl,rfl,rfl,rfl,rfl⟩|⟨rfl,rfl,rfl,rfl,rfl,rfl⟩
 all_goals
  cbv
  repeat (first|(refine ⟨_,h1,?_⟩;cbv)|(simp only [ok,ok',e2,hdi,hdq];cbv)|simp only [ok,ok',e2,hdi,hdq])
set_option maxHeartbeats 8000000 in
theorem rs_s {q:Bool} (hI:HI) (hb1:b1=false) (h2:b2=false\/b2=true/\di=true) (h3:b3=false\/b3=true/\dq=true):rsG P G E k i o k' i' o' T T' KK KK' HI q:=by
 cbv at ok;cbv at ok';subst hb1
 rcases h2 with rfl|⟨rfl,rfl⟩ <;> rcases h3 with rfl|⟨rfl,rfl⟩
 all_goals
  cbv
  repeat (first|(refine ⟨_,h1,?_⟩;cbv)|(simp only [ok,ok',e2,hdi,hdq];cbv)|simp only [ok,ok',e2,hdi,hdq])
 all_goals exact .mk () ⟨rfl,rfl,rfl,rfl,rfl⟩ hI
set_option maxHeartbeats 8000000 in
theorem rs_t {q:Bool} (hI:HI) (hb1:b1=true/\dn=true) (h2:b2=false\/b2=true/\di=true) (h3:b3=false\/b3=true/\dq=true):rsG P G E k i o k' i' o' T T' KK KK' HI q:=by
 cbv at ok;cbv at ok';obtain ⟨rfl,rfl⟩:=hb1
 rcases h2 with rfl|⟨rfl,rfl⟩ <;> rcases h3 with rfl|⟨rfl,rfl⟩
 all_goals
  cbv
  repeat (first|(refine ⟨_,h1,?_⟩;cbv)|(simp only [ok,ok',e2,hdi,hdq];cbv)|simp only [ok,ok',e2,hdi,hdq])
 all_goals exact .mk () ⟨rfl,rfl,rfl,rfl,rfl⟩ hI
end
end
set_option maxHeartbeats 8000000 in
theorem zji:∀ (d:Nat) (x y:PT),zd5 x<=d->zex x->zex y->V0 14 [.agg (zi6 x),.agg (zi6 y)] (pB (ze4 x y))
 | 0,x,_,h,_,_=>by have:=zl6 x;omega
 | d + 1,.mk k nm i o ks,.mk k' nm' i' o' ks',hd,hw,hw'=>by
  rw [zex] at hw hw';obtain ⟨hwl,hwk⟩:=hw;obtain ⟨hwl',hwk'⟩:=hw';rw [zd5] at hd;have ihk:∀ y ∈ ks,∀ y' ∈ ks',V0 14 [.agg (zi6 y),.agg (zi6 y')] (pB (ze4 y y')):=fun y hy y' hy'=>zji d y y' (by have:=zj1 hy;omega) (zfn hwk hy) (zfn hwk' hy')
  rw [zi6,zi6];obtain ⟨b1,b2,b3,hu⟩:∃ b1 b2 b3,zig k=(b1,b2,b3):=⟨_,_,_,rfl⟩
  have hU:=zts hu;obtain ⟨dk,hdk⟩:∃ b,decide (k=k')=b:=⟨_,rfl⟩
  obtain ⟨dn,hdn⟩:∃ b,decide (nm=nm')=b:=⟨_,rfl⟩
  obtain ⟨di,hdi⟩:∃ b,decide (i=i')=b:=⟨_,rfl⟩
  obtain ⟨dq,hdq⟩:∃ b,decide (o=o')=b:=⟨_,rfl⟩
  have hrl:=zgc ks;have hrl':=zgc ks';have hget:=zgd ks;have hget':=zgd ks';obtain ⟨R,hR⟩:∃ R,zge ks=R:=⟨_,rfl⟩
  obtain ⟨R',hR'⟩:∃ R,zge ks'=R:=⟨_,rfl⟩
  rw [hR] at hrl hget ⊢;rw [hR'] at hrl' hget' ⊢;clear hR hR';obtain ⟨M,hM⟩:∃ M:Int,((R.length:Nat):Int)=M:=⟨_,rfl⟩
  obtain ⟨M',hM'⟩:∃ M:Int,((R'.length:Nat):Int)=M:=⟨_,rfl⟩
  obtain ⟨dl,hdl⟩:∃ b,decide (M=M')=b:=⟨_,rfl⟩
  have hdl2:decide (ks.length=ks'.length)=dl:=by rw [<-hdl];exact decide_eq_decide.2 (by omega)
  obtain ⟨hb,hhb⟩:∃ b,(dk && (!b1 || dn) && (!b2 || di) && (!b3 || dq))=b:=⟨_,rfl⟩
  obtain ⟨q,hq⟩:∃ q,ze4 (.mk k nm i o ks) (.mk k' nm' i' o' ks')=q:=⟨_,rfl⟩
  rw [hq];rw [ze4,hu,hdk,hdn,hdi,hdq,hhb,hdl2] at hq;have hee:decide (bL nm=bL nm')=dn:=by rw [<-hdn];exact decide_eq_decide.2 ⟨znf,congrArg bL⟩
  obtain ⟨T,hT⟩:∃ T,bL nm=T:=⟨_,rfl⟩
  obtain ⟨T',hT'⟩:∃ T,bL nm'=T:=⟨_,rfl⟩
  rw [hT,hT'] at hee ⊢;refine zdc zaa zbl (f:=14) Tryz.func14 rfl (by kernel_rfl) (oT (by kernel_rfl)) ?_
  refine Seg.cutK 3 77 [2,3,4] 2 (fun _:Unit=>[.own 0 0,.own 1 0,.p (pB false)]) (fun _=>rsB k i o k' i' o' T T' (.ro 5 R) (.ro 5 R')) (fun _=>hb=true) zaa mixed (fun _=>0) (fun E=>zcs E tyT Tryz.f14.results.toList (pB q)) (by kernel_rfl) ?_ ?_
  ·intro P G E hc hMM hE;have h1:=hc _ _ _ hU;have e2:E.eq T T'=dn:=by rw [hE];exact hee
   have key:=zo1 dk b1 dn b2 di b3 dq
   rcases key with ⟨h,h2⟩|⟨ha,hb',hc',hd',he'⟩
   ·rw [h2] at hhb;subst hhb;have e0:false=q:=by rw [<-hq,Bool.false_and]
    subst e0
    rcases h with h|h|h|h|h
    ·exact zld h1 rfl rfl e2 hdk hdi hdq (.inl h)
    ·exact zld h1 rfl rfl e2 hdk hdi hdq (.inr (.inl h))
    ·exact zld h1 rfl rfl e2 hdk hdi hdq (.inr (.inr (.inl h)))
    ·exact zld h1 rfl rfl e2 hdk hdi hdq (.inr (.inr (.inr h)))
    ·exact z2m h1 rfl rfl e2 hdk hdi hdq h
   ·rcases hb' with hb'|hb'
    ·exact z2l h1 rfl rfl e2 hdk hdi hdq (hhb.symm.trans he') ha hb' hc' hd'
    ·exact z2k h1 rfl rfl e2 hdk hdi hdq (hhb.symm.trans he') ha hb' hc' hd'
  ·rintro _ hbt
   subst hbt;rw [Bool.true_and] at hq;clear hU hdn hdk hdi hdq hhb hee hT hT' hu
   cases dl with
   | false =>
    have e0:false=q:=by rw [<-hq,Bool.false_and]
    subst e0;refine Seg.of zaa mixed (fun n=>match n with|9=>10|_=>0) (by kernel_rfl) (fun E=>zcs E tyT Tryz.f14.results.toList (pB false)) fun P G E hc hMM hE=>?_
    have l0:E.ofN R.length=M:=by rw [hE];exact hM
    have l1:E.ofN R'.length=M':=by rw [hE];exact hM'
    clear hc hMM hE ihk;cbv at l0;cbv at l1;cbv
    repeat (first|(simp only [l0,l1,hdl];cbv)|simp only [l0,l1,hdl])
   | true =>
    rw [Bool.true_and] at hq;have hlen:ks.length=ks'.length:=oT hdl2;have hMe:M=M':=oT hdl;subst hMe;obtain ⟨μ,hμ⟩:∃ μ:Int × List PT × List PT->Nat,∀ x,μ x=x.2.1.length:=⟨_,fun _=>rfl⟩
    refine Seg.of zaa mixed (fun n=>match n with|9=>10|_=>0) (by kernel_rfl) (fun E=>zcs E tyT Tryz.f14.results.toList (pB q)) fun P G E hc hMM hE=>?_
    have l0:E.ofN R.length=M:=by rw [hE];exact hM
    cbv at l0;have l1:E.ofN R'.length=M:=by rw [hE];exact hM'
    cbv at l1;cbv
    repeat (first|(simp only [l0,l1,hdl];cbv)|simp only [l0,l1,hdl])
    refine za7 77 [2,3,4,60,61] 2 (fun x:Int × List PT × List PT=>[.own 0 0,.own 1 0,.p (pB false),.p (pI M),.p (pI x.1)]) (fun _=>rsB k i o k' i' o' T T' (.ro 5 R) (.ro 5 R')) (SmI ks ks' q) μ (0,ks,ks') ⟨rfl,rfl,rfl,rfl,rfl⟩ ⟨rfl,rfl,Int.le_refl 0,by simp,hlen,hq⟩ ?_
    rintro ⟨j,l,l'⟩ hI
    obtain ⟨g1,g2,g3,g4,g5,g6⟩:=id hI;simp only at g1 g2 g3 g4 g5 g6;replace hM:((R.length:Nat):Int)=M:=hM;replace g4:j + ((l.length:Nat):Int)=((ks.length:Nat):Int):=g4
    cases l with
    | nil =>
     have d2:E.lti j M=false:=by rw [hE];exact dF (by simp only [List.length_nil] at g4;omega)
     have e0:true=q:=by rw [<-g6];cases l' <;> rfl
     subst e0;clear hc hMM hE ihk;cbv
     repeat (first|(simp only [l0];cbv)|simp only [l0]|(simp only [d2];cbv)|simp only [d2])
    | cons z l =>
     cases l' with
     | nil=>simp at g5
     | cons z' l' =>
      have d2:E.lti j M=true:=by rw [hE];exact dT (by simp only [lLC] at g4;omega)
      have p0:E.ple 0 j:=by rw [hE];exact g3
      obtain ⟨j2,hj2⟩:∃ i2,j + 1=i2:=⟨_,rfl⟩
      have ea:E.wadd .i64 j 1=j2:=by rw [hE,<- hj2];exact zac (by omega) (by simp only [lLC] at g4;omega)
      obtain ⟨k1,q1,o1,n1,K1,hv⟩:=zjp z;obtain ⟨k2,q2,o2,n2,K2,hv'⟩:=zjp z';have hz:ks[j.toNat]?=some z:=by
       have:=congrArg (fun r:List PT=>r[0]?) g1
       rw [List.getElem?_drop] at this;simpa using this
      have hz':ks'[j.toNat]?=some z':=by
       have:=congrArg (fun r:List PT=>r[0]?) g2
       rw [List.getElem?_drop] at this;simpa using this
      have r0:R[E.nat j]?=some [pI k1,pS n1,pI q1,pI o1,.ro 5 K1]:=by rw [hE];show R[j.toNat]?=_;rw [hget,hz,<- hv];rfl
      have r1:R'[E.nat j]?=some [pI k2,pS n2,pI q2,pI o2,.ro 5 K2]:=by rw [hE];show R'[j.toNat]?=_;rw [hget',hz',<- hv'];rfl
      have hcl:=ihk z (List.mem_of_getElem? hz) z' (List.mem_of_getElem? hz');rw [hv,hv'] at hcl
      cases hsz:ze4 z z' with
      | true =>
       rw [hsz] at hcl;replace hcl:=hc _ _ _ hcl;have hx:=(hI.next hj2 hsz).1;have hmu:μ (j2,l,l') < μ (j,z :: l,z' :: l'):=by rw [hμ,hμ];show l.length < (z :: l).length;simp
       clear hc hMM hE ihk;cbv
       repeat (first|(simp only [l0];cbv)|simp only [l0]|(simp only [d2];cbv)|simp only [d2]|(refine ⟨p0,_,r0,?_⟩;cbv)|(refine ⟨p0,_,r1,?_⟩;cbv)|(refine ⟨_,hcl,?_⟩;cbv)|(simp only [ea];cbv)|simp only [ea])
       exact .mk _ ⟨rfl,rfl,rfl,rfl,rfl⟩ hx hmu
      | false =>
       rw [hsz] at hcl;replace hcl:=hc _ _ _ hcl;have e0:false=q:=by rw [<-g6,zhh,hsz,Bool.false_and]
       subst e0;clear hc hMM hE ihk;cbv
       repeat (first|(simp only [l0];cbv)|simp only [l0]|(simp only [d2];cbv)|simp only [d2]|(refine ⟨p0,_,r0,?_⟩;cbv)|(refine ⟨p0,_,r1,?_⟩;cbv)|(refine ⟨_,hcl,?_⟩;cbv))
set_option maxHeartbeats 8000000 in
theorem zqs:∀ (d:Nat) (x y:PT),zd5 x<=d->zex x->zex y->V0 15 [.agg (zi6 x),.agg (zi6 y)] (pB (ze4 x y))
 | 0,x,_,h,_,_=>by have:=zl6 x;omega
 | d + 1,.mk k nm i o ks,.mk k' nm' i' o' ks',hd,hw,hw'=>by
  rw [zex] at hw hw';obtain ⟨hwl,hwk⟩:=hw;obtain ⟨hwl',hwk'⟩:=hw';rw [zd5] at hd;have ihk:∀ y ∈ ks,∀ y' ∈ ks',V0 15 [.agg (zi6 y),.agg (zi6 y')] (pB (ze4 y y')):=fun y hy y' hy'=>zqs d y y' (by have:=zj1 hy;omega) (zfn hwk hy) (zfn hwk' hy')
  rw [zi6,zi6];obtain ⟨b1,b2,b3,hu⟩:∃ b1 b2 b3,zig k=(b1,b2,b3):=⟨_,_,_,rfl⟩
  have hU:=zxc hu;obtain ⟨dk,hdk⟩:∃ b,decide (k=k')=b:=⟨_,rfl⟩
  obtain ⟨dn,hdn⟩:∃ b,decide (nm=nm')=b:=⟨_,rfl⟩
  obtain ⟨di,hdi⟩:∃ b,decide (i=i')=b:=⟨_,rfl⟩
  obtain ⟨dq,hdq⟩:∃ b,decide (o=o')=b:=⟨_,rfl⟩
  have hrl:=zgc ks;have hrl':=zgc ks';have hget:=zgd ks;have hget':=zgd ks';obtain ⟨R,hR⟩:∃ R,zge ks=R:=⟨_,rfl⟩
  obtain ⟨R',hR'⟩:∃ R,zge ks'=R:=⟨_,rfl⟩
  rw [hR] at hrl hget ⊢;rw [hR'] at hrl' hget' ⊢;clear hR hR';obtain ⟨M,hM⟩:∃ M:Int,((R.length:Nat):Int)=M:=⟨_,rfl⟩
  obtain ⟨M',hM'⟩:∃ M:Int,((R'.length:Nat):Int)=M:=⟨_,rfl⟩
  obtain ⟨dl,hdl⟩:∃ b,decide (M=M')=b:=⟨_,rfl⟩
  have hdl2:decide (ks.length=ks'.length)=dl:=by rw [<-hdl];exact decide_eq_decide.2 (by omega)
  obtain ⟨hb,hhb⟩:∃ b,(dk && (!b1 || dn) && (!b2 || di) && (!b3 || dq))=b:=⟨_,rfl⟩
  obtain ⟨q,hq⟩:∃ q,ze4 (.mk k nm i o ks) (.mk k' nm' i' o' ks')=q:=⟨_,rfl⟩
  rw [hq];rw [ze4,hu,hdk,hdn,hdi,hdq,hhb,hdl2] at hq;have hee:decide (bL nm=bL nm')=dn:=by rw [<-hdn];exact decide_eq_decide.2 ⟨znf,congrArg bL⟩
  obtain ⟨T,hT⟩:∃ T,bL nm=T:=⟨_,rfl⟩
  obtain ⟨T',hT'⟩:∃ T,bL nm'=T:=⟨_,rfl⟩
  rw [hT,hT'] at hee ⊢;refine zdc zaa zbl (f:=15) Tryz.func15 rfl (by kernel_rfl) (oT (by kernel_rfl)) ?_
  refine Seg.cutK 2 77 [2,3,4] 2 (fun _:Unit=>[.own 0 0,.own 1 0,.p (pB false)]) (fun _=>rsB k i o k' i' o' T T' (.ro 5 R) (.ro 5 R')) (fun _=>(dk && dl)=true) zaa mixed (fun _=>0) (fun E=>zcs E tyT Tryz.f15.results.toList (pB q)) (by kernel_rfl) ?_ ?_
  ·intro P G E hc hMM hE;exact rs_h (by rw [hE];exact hM) (by rw [hE];exact hM') hdk hdl (by cases dk <;> cases dl <;> simp) (fun e=>by rw [<-hq,<- hhb];cases dk <;> cases dl <;> simp_all) id
  ·rintro _ hdd
   have hk1:dk=true:=by cases dk <;> simp_all
   have hl1:dl=true:=by cases dl <;> simp_all
   subst hk1 hl1;refine Seg.cutK 2 77 [2,3,4] 2 (fun _:Unit=>[.own 0 0,.own 1 0,.p (pB false)]) (fun _=>rsB k i o k' i' o' T T' (.ro 5 R) (.ro 5 R')) (fun _=>hb=true) zaa mixed (fun _=>0) (fun E=>zcs E tyT Tryz.f15.results.toList (pB q)) (by kernel_rfl) ?_ ?_
   ·intro P G E hc hMM hE;have h1:=hc _ _ _ hU;have e2:E.eq T T'=dn:=by rw [hE];exact hee
    have key:=zo1 true b1 dn b2 di b3 dq
    rcases key with ⟨h,h2⟩|⟨ha,hb',hc',hd',he'⟩
    ·rw [h2] at hhb;subst hhb;have e0:false=q:=by rw [<-hq,Bool.false_and]
     subst e0
     rcases h with h|h|h|h|h|h|h|h
     ·cases h
     ·exact rs_f h1 rfl rfl e2 hdi hdq (.inl h.2)
     ·exact rs_f h1 rfl rfl e2 hdi hdq (.inr (.inl h.2))
     ·exact rs_f h1 rfl rfl e2 hdi hdq (.inr (.inr (.inl h.2)))
     ·exact rs_f h1 rfl rfl e2 hdi hdq (.inr (.inr (.inr h.2)))
     ·exact rs_g h1 rfl rfl e2 hdi hdq (.inl h.2)
     ·exact rs_g h1 rfl rfl e2 hdi hdq (.inr (.inl h.2))
     ·exact rs_g h1 rfl rfl e2 hdi hdq (.inr (.inr h.2))
    ·rcases hb' with hb'|hb'
     ·exact rs_s h1 rfl rfl e2 hdi hdq (hhb.symm.trans he') hb' hc' hd'
     ·exact rs_t h1 rfl rfl e2 hdi hdq (hhb.symm.trans he') hb' hc' hd'
   ·rintro _ hbt
    subst hbt;rw [Bool.true_and,Bool.true_and] at hq;have hlen:ks.length=ks'.length:=oT hdl2;clear hU hdn hdk hdi hdq hhb hee hT hT' hu hdl hdl2 hdd;obtain ⟨μ,hμ⟩:∃ μ:Int × List PT × List PT->Nat,∀ x,μ x=x.2.1.length:=⟨_,fun _=>rfl⟩
    refine Seg.of zaa mixed (fun n=>match n with|9=>10|_=>0) (by kernel_rfl) (fun E=>zcs E tyT Tryz.f15.results.toList (pB q)) fun P G E hc hMM hE=>?_
    have l0:E.ofN R.length=M:=by rw [hE];exact hM
    cbv at l0;cbv;refine za7 77 [2,3,4,8] 2 (fun x:Int × List PT × List PT=>[.own 0 0,.own 1 0,.p (pB false),.p (pI x.1)]) (fun _=>rsB k i o k' i' o' T T' (.ro 5 R) (.ro 5 R')) (SmI ks ks' q) μ (0,ks,ks') ⟨rfl,rfl,rfl,rfl,rfl⟩ ⟨rfl,rfl,Int.le_refl 0,by simp,hlen,hq⟩ ?_
    rintro ⟨j,l,l'⟩ hI
    obtain ⟨g1,g2,g3,g4,g5,g6⟩:=id hI;simp only at g1 g2 g3 g4 g5 g6;replace hM:((R.length:Nat):Int)=M:=hM;replace g4:j + ((l.length:Nat):Int)=((ks.length:Nat):Int):=g4
    cases l with
    | nil =>
     have d2:E.lti j M=false:=by rw [hE];exact dF (by simp only [List.length_nil] at g4;omega)
     have e0:true=q:=by rw [<-g6];cases l' <;> rfl
     subst e0;clear hc hMM hE ihk;cbv
     repeat (first|(simp only [l0];cbv)|simp only [l0]|(simp only [d2];cbv)|simp only [d2])
    | cons z l =>
     cases l' with
     | nil=>simp at g5
     | cons z' l' =>
      have d2:E.lti j M=true:=by rw [hE];exact dT (by simp only [lLC] at g4;omega)
      have p0:E.ple 0 j:=by rw [hE];exact g3
      obtain ⟨j2,hj2⟩:∃ i2,j + 1=i2:=⟨_,rfl⟩
      have ea:E.wadd .i64 j 1=j2:=by rw [hE,<- hj2];exact zac (by omega) (by simp only [lLC] at g4;omega)
      obtain ⟨k1,q1,o1,n1,K1,hv⟩:=zjp z;obtain ⟨k2,q2,o2,n2,K2,hv'⟩:=zjp z';have hz:ks[j.toNat]?=some z:=by
       have:=congrArg (fun r:List PT=>r[0]?) g1
       rw [List.getElem?_drop] at this;simpa using this
      have hz':ks'[j.toNat]?=some z':=by
       have:=congrArg (fun r:List PT=>r[0]?) g2
       rw [List.getElem?_drop] at this;simpa using this
      have r0:R[E.nat j]?=some [pI k1,pS n1,pI q1,pI o1,.ro 5 K1]:=by rw [hE];show R[j.toNat]?=_;rw [hget,hz,<- hv];rfl
      have r1:R'[E.nat j]?=some [pI k2,pS n2,pI q2,pI o2,.ro 5 K2]:=by rw [hE];show R'[j.toNat]?=_;rw [hget',hz',<- hv'];rfl
      have hcl:=ihk z (List.mem_of_getElem? hz) z' (List.mem_of_getElem? hz');rw [hv,hv'] at hcl
      cases hsz:ze4 z z' with
      | true =>
       rw [hsz] at hcl;replace hcl:=hc _ _ _ hcl;have hx:=(hI.next hj2 hsz).1;have hmu:μ (j2,l,l') < μ (j,z :: l,z' :: l'):=by rw [hμ,hμ];show l.length < (z :: l).length;simp
       clear hc hMM hE ihk;cbv
       repeat (first|(simp only [l0];cbv)|simp only [l0]|(simp only [d2];cbv)|simp only [d2]|(refine ⟨p0,_,r0,?_⟩;cbv)|(refine ⟨p0,_,r1,?_⟩;cbv)|(refine ⟨_,hcl,?_⟩;cbv)|(simp only [ea];cbv)|simp only [ea])
       exact .mk _ ⟨rfl,rfl,rfl,rfl,rfl⟩ hx hmu
      | false =>
       rw [hsz] at hcl;replace hcl:=hc _ _ _ hcl;have e0:false=q:=by rw [<-g6,zhh,hsz,Bool.false_and]
       subst e0;clear hc hMM hE ihk;cbv
       repeat (first|(simp only [l0];cbv)|simp only [l0]|(simp only [d2];cbv)|simp only [d2]|(refine ⟨p0,_,r0,?_⟩;cbv)|(refine ⟨p0,_,r1,?_⟩;cbv)|(refine ⟨_,hcl,?_⟩;cbv))
end Go.Proofs.YtcfecmeocimclaaGreatDoor
