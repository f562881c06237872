/- Own work: every function of the parser does what the plain parser says. -/
import Derived.Test.YtcfecmeocimclaaGreatDoorYAA0
import Derived.Test.YtcfecmeocimclaaGreatDoorYAHJ
import Derived.Test.YtcfecmeocimclaaGreatDoorYAHK
import Derived.Test.YtcfecmeocimclaaGreatDoorYAPWD
import Derived.Test.YtcfecmeocimclaaGreatDoorYAPWE
import Derived.Test.YtcfecmeocimclaaGreatDoorYAPWF
import Derived.Test.YtcfecmeocimclaaGreatDoorYAPWG
import Derived.Test.YtcfecmeocimclaaGreatDoorYAPWJ
import Derived.Test.YtcfecmeocimclaaGreatDoorYAPWM
import Derived.Test.YtcfecmeocimclaaGreatDoorYAGZ
namespace Go.Proofs.YtcfecmeocimclaaGreatDoor
set_option linter.unusedSimpArgs false
set_option linter.unusedSectionVars false
set_option maxRecDepth 100000
open Go.RowKit
theorem zo1 {n:Int} {toks:List Tk} {LR:List (List PV)}:∀ (m:Nat) (s:Sy),s.meas < m->zd0 n toks LR s
 | 0,_,h=>by omega
 | m + 1,s,h=>by
  have ih:∀ s':Sy,s'.meas < s.meas->zd0 n toks LR s':=fun s' h'=>zo1 m s' (by omega)
  cases s with
  | stmt c l=>exact zwt ih
  | keyw c l=>exact zx4 ih
  | condn c l=>exact zvi ih
  | inner c l=>exact zu8 ih
  | body c l=>exact zy7 ih
  | loops c l=>exact zu0 ih
  | tryS c l=>exact zwo ih
  | decl c l=>exact zyu ih
  | block c l=>exact zvo ih
  | func d c l=>exact zyi ih
  | arrow c l=>exact zvv ih
  | assign c l=>exact zsj ih
  | cond c l=>exact zy1 ih
  | opnd k c l=>exact zxe ih
  | unary c l=>exact zug ih
  | postf c l=>exact zup ih
  | link x c l=>exact zxx ih
  | chain c l=>exact zvj ih
  | list2 e c l=>exact zu2 ih
  | prim c l=>exact zw6 ih
  | fields c l=>exact zsd ih
  | field c l=>exact zvd ih
  | _=>intro f hf;cases hf
def rSc:Option (List PT)->AV
 | none=>.p (.pan zcf)
 | some ks=>.p (.agg (za8 (nd 42 ks)))
def hSc (toks:List Tk) (LR:List (List PV)):Option (List PT)->AH
 | none=>[none]
 | some _=>[rdr LR ((toks.length:Nat):Int) cx0]
section
variable {n:Int} {toks:List Tk} {LR:List (List PV)} {l:Ts}
theorem z6o {a:Int} {acc:List PT} {m:Nat} {l:Ts} {o:Option (List PT)} (h:zif (m + 1) acc l=o) (hl:l ≠ []) (hz:AtP n toks LR a l) :
  (∃ x l' b k i q nm KK,AtP n toks LR b l'/\zif m (acc++[x]) l'=o/\l'.length < l.length/\NodeV x k i q nm KK/\MP 20 [.own 0 0] [rdr LR a cx0] (.p (.agg [pI k,pS nm,pI i,pI q,KK])) [rdr LR b cx0])\/(o=none/\MP 20 [.own 0 0] [rdr LR a cx0] (.p (.pan zcf)) [none]):=by
 rw [zif,if_neg hl] at h
 rcases zd0.nd (zo1 _ (.stmt cx0 l) (nLS _)) rfl rfl hz with ⟨h1,h2⟩|⟨x,l',b,k,i,q,nm,KK,h1,h2,h3,h4,h5⟩
 ·rw [h1] at h;exact .inr ⟨h.symm,h2⟩
 ·rw [h1] at h;exact .inl ⟨x,l',b,k,i,q,nm,KK,h2,h,h4 rfl,h3,h5⟩
theorem zs7 {m:Nat} {acc:List PT} {l l':Ts} {o:Option (List PT)} (h:l.length < m + 1) (hl:l'.length < l.length) (ho:zif m acc l'=o):∃ m',l'.length < m' + 1/\zif (m' + 1) acc l'=o:=by
 cases m with
 | zero=>omega
 | succ m=>exact ⟨m,by omega,ho⟩
set_option maxHeartbeats 4000000 in
theorem z0g {a:Int} (h:AtP n toks LR a l):MP 19 [.own 0 0] [rdr LR a cx0] (rSc (zpn l)) (hSc toks LR (zpn l)):=by
 obtain ⟨o,ho⟩:∃ o,zpn l=o:=⟨_,rfl⟩
 rw [ho];unfold zpn at ho;obtain ⟨μ,hμ⟩:∃ μ:Int × Ts × List PT × List (List PV) × Nat->Nat,∀ x,μ x=x.2.1.length:=⟨_,fun _=>rfl⟩
 have hz:=h.z;have hzl:l.length<=1000000:=by have:=h.h1;have:=h.h0;omega
 obtain ⟨M,hM0⟩:∃ M:Int,((toks.length:Nat):Int)=M:=⟨_,rfl⟩
 obtain ⟨rr,hrr⟩:∃ rr,rSc o=rr:=⟨_,rfl⟩
 obtain ⟨HH,hHH⟩:∃ HH,hSc toks LR o=HH:=⟨_,rfl⟩
 rw [hrr,hHH];refine zad zaa (f:=19) Tryz.func19 rfl (by kernel_rfl) (oT (by kernel_rfl)) fun tags htl=>?_
 match tags,htl with
 | [t0],_ =>
  refine Seg.ofM zaa mixed (fun n=>match n with|2=>9|3=>5|_=>0) (fun n=>match n with|3=>[3]|_=>[]) (fun n i=>match n,i with|3,3=>1|3,4=>1|_,_=>0) (by kernel_rfl) (fun E=>za0 E tyT Tryz.f19.results.toList [t0] rr HH) fun P G E hc hM hE=>?_
  cbv;refine zbs 23 [0,2,3] 4 (fun x:Int × Ts × List PT × List (List PV) × Nat=>[.own 0 0,.own 1 0,.own 2 0]) (fun x=>match x.2.2.1 with
    | []=>[some (.box [.p (.ro 3 LR),.p (pI x.1),.p (pB false),.p (pB false),.p (pB false),.p (pB false)] 50 (some t0)),some (.box [.p (pI 0),.p (pS ⟨#[]⟩),.p (pI 0),.p (pI 0),.p (.v (.slice none 0 0))] 27 none),some (.box [.p (pI 42),.p (pS ⟨#[]⟩),.p (pI 0),.p (pI 0),.p (.v (.slice none 0 0))] 27 none)]
    | _ :: _=>[some (.box [.p (.ro 3 LR),.p (pI x.1),.p (pB false),.p (pB false),.p (pB false),.p (pB false)] 50 (some t0)),some (.box [.p (pI 0),.p (pS ⟨#[]⟩),.p (pI 0),.p (pI 0),.p (.v (.slice none 0 0))] 27 none),some (.box [.p (pI 42),.p (pS ⟨#[]⟩),.p (pI 0),.p (pI 0),.osl 3 0 x.2.2.2.2] 27 none),some (.rows 5 x.2.2.2.1 27)])
   (fun x=>AtP n toks LR x.1 x.2.1/\(∃ m,x.2.1.length < m + 1/\zif (m + 1) x.2.2.1 x.2.1=o)/\x.2.2.2.2 + x.2.1.length<=l.length/\zae x.2.2.1=x.2.2.2.1/\x.2.2.2.1.length=x.2.2.2.2) μ (a,l,[],[],0) ⟨rfl,rfl,rfl,rfl,rfl⟩ ⟨h,⟨_,nLS _,ho⟩,by show 0 + l.length<=l.length;omega,by rw [zae],rfl⟩ ?_
  rintro ⟨a1,l1,acc,R,N⟩ ⟨g1,⟨m,g0,g2⟩,g3,g4,g5⟩
  simp only at g0 g1 g2 g3 g4 g5;replace hM0:((toks.length:Nat):Int)=M:=hM0;have l0:E.ofN LR.length=M:=by rw [hE,h.len];exact hM0
  cbv at l0
  rcases cEm (l1=[]) with hl|hl
  ·have d1:E.lti a1 M=false:=by rw [hE];have hM1:((toks.length:Nat):Int)=M:=hM0;have:=g1.h1;rw [hl] at this;exact dF (by simp at this;omega)
   rw [zif,if_pos hl] at g2;subst g2;have ha:a1=M:=by have hM1:((toks.length:Nat):Int)=M:=hM0;have:=g1.h1;rw [hl] at this;simp at this;omega
   have e2:[rdr LR a1 cx0]=HH:=by rw [<-hHH,ha,<- hM0];rfl
   cases acc with
   | nil =>
    have e1:AV.p (.agg [pI 42,pS ⟨#[]⟩,pI 0,pI 0,.v (.slice none 0 0)])=rr:=by rw [<-hrr];rfl
    subst e1 e2;cbv
    repeat (first|(simp only [l0];cbv)|(simp only [d1];cbv))
    all_goals trivial
   | cons y ys =>
    have hK:=zkb g4;have e1:AV.p (.agg [pI 42,pS ⟨#[]⟩,pI 0,pI 0,.ro 5 R])=rr:=by rw [<-hrr];simp only [rSc,nd,za8,hK];rfl
    have fB:=zv6 (R:=R) (row:=[pI 0,pI 0,pI 0,pI 0,pI 0]) hE g5 (by omega) rfl rfl
    have fB5:=fB.pre;have fB6:E.sub R 0 N=R:=by rw [hE,<- g5];show (R.drop 0).take R.length=R;rw [lDZ,lTL]
    subst e1 e2;cbv
    repeat (first|(simp only [l0];cbv)|(simp only [d1];cbv)|(refine ⟨fB5,?_⟩;cbv)|(simp only [fB6];cbv))
    all_goals trivial
  ·have hpos:=List.length_pos_iff.2 hl;have d1:E.lti a1 M=true:=by rw [hE];have hM1:((toks.length:Nat):Int)=M:=hM0;have:=g1.h1;exact dT (by omega)
   have hsc:=z6o g2 hl g1
   cases acc with
   | nil =>
    cbv
    repeat (first|(simp only [l0];cbv)|(simp only [d1];cbv))
    refine oE hsc (fun k3=>xE k3 fun xk k3=>xE k3 fun lk k3=>xE k3 fun bk k3=>xE k3 fun q1 k3=>xE k3 fun q2 k3=>xE k3 fun q3 k3=>xE k3 fun q4 k3=>xE k3 fun q5 k3=>?_) (fun k3=>?_)
    case' refine_2 =>
     refine Or.inr ?_;refine .mk [0] _ _ _ _ (hM _ _ _ _ _ (k3.2)) rfl rfl rfl _ rfl ?_;cbv;have e0:=k3.1;subst e0;have e1:AV.p (.pan zcf)=rr:=hrr;have e2:[none]=HH:=hHH;subst e1 e2;cbv;all_goals trivial
    refine Or.inl ?_;refine ⟨.mk trivial,?_⟩;refine .mk [0] _ _ _ _ (hM _ _ _ _ _ (k3.2.2.2.2)) rfl rfl rfl rfl ?_;cbv;have ok3:=k3.2.2.2.1.one;cbv at ok3;have rm:=(zje hE).room 0 1 64 (by decide) (by decide)
    cbv;simp only [ok3];cbv;refine ⟨.mk (by repeat' (first|exact trivial|refine ⟨rfl,?_⟩)),?_⟩
    cbv;refine ⟨rm,?_⟩;cbv;exact .mk (bk,lk,[xk],[[pI q1,pS q4,pI q2,pI q3,q5]],1) ⟨rfl,rfl,rfl,rfl,rfl⟩ ⟨k3.1,zs7 g0 k3.2.2.1 k3.2.1,by show 1 + lk.length<=l.length;have:=k3.2.2.1;omega,by rw [zae,zae,k3.2.2.2.1.row],rfl⟩ (by rw [hμ,hμ];exact k3.2.2.1)
   | cons y ys =>
    cbv
    repeat (first|(simp only [l0];cbv)|(simp only [d1];cbv))
    refine oE hsc (fun k3=>xE k3 fun xk k3=>xE k3 fun lk k3=>xE k3 fun bk k3=>xE k3 fun q1 k3=>xE k3 fun q2 k3=>xE k3 fun q3 k3=>xE k3 fun q4 k3=>xE k3 fun q5 k3=>?_) (fun k3=>?_)
    case' refine_2 =>
     refine Or.inr ?_;refine .mk [0] _ _ _ _ (hM _ _ _ _ _ (k3.2)) rfl rfl rfl _ rfl ?_;cbv;have e0:=k3.1;subst e0;have e1:AV.p (.pan zcf)=rr:=hrr;have e2:[none]=HH:=hHH;subst e1 e2;cbv;all_goals trivial
    refine Or.inl ?_;refine ⟨.mk trivial,?_⟩;refine .mk [0] _ _ _ _ (hM _ _ _ _ _ (k3.2.2.2.2)) rfl rfl rfl rfl ?_;cbv;have ok3:=k3.2.2.2.1.one;cbv at ok3;refine xE (⟨_,rfl⟩:∃ R2,R++[[pI q1,pS q4,pI q2,pI q3,q5]]=R2) fun R2 hR2=>?_
    refine xE (⟨_,rfl⟩:∃ N2,N + 1=N2) fun N2 hN2=>?_
    have fA:=zv6 hE g5 (by omega) hR2 hN2
    have fA1:=fA.pre;have fA2:=fA.room;have fA3:=fA.add;have fA4:=fA.app;cbv;simp only [ok3];cbv;refine ⟨.mk (by repeat' (first|exact trivial|refine ⟨rfl,?_⟩)),?_⟩
    cbv
    repeat (first|(refine ⟨fA1,fA2,?_⟩;cbv)|(simp only [fA3,fA4];cbv))
    exact .mk (bk,lk,y :: ys++[xk],R2,N2) ⟨rfl,rfl,rfl,rfl,rfl⟩ ⟨k3.1,zs7 g0 k3.2.2.1 k3.2.1,by show N2 + lk.length<=l.length;have:=k3.2.2.1;omega,by rw [zc0,g4,zae,zae,k3.2.2.2.1.row];exact hR2,by show R2.length=N2;rw [<-hR2,lLA,g5];exact hN2⟩ (by rw [hμ,hμ];exact k3.2.2.1)
end
end Go.Proofs.YtcfecmeocimclaaGreatDoor
