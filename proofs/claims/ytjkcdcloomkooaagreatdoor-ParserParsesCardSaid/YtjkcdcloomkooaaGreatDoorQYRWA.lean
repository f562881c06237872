/- Own work: walks and laws of the parser and its reference. -/
import Derived.Test.YtjkcdcloomkooaaGreatDoorQYS
import Derived.Test.YtjkcdcloomkooaaGreatDoorQYRW5
import Derived.Test.YtjkcdcloomkooaaGreatDoorQYRW7
import Derived.Test.YtjkcdcloomkooaaGreatDoorQYRW8
import Derived.Test.YtjkcdcloomkooaaGreatDoorQYRW9
set_option linter.unusedVariables false
set_option linter.unusedSimpArgs false
set_option linter.unusedSectionVars false
set_option maxHeartbeats 16000000
set_option maxRecDepth 100000
namespace Go.Proofs.YtjkcdcloomkooaaGreatDoor
open Go.RowKit
section
variable{n:Int}{toks:List Tk}{LR:List (List PV)}{l:Ts}
theorem zwr{b:Bool}(ih:∀s' l' b',dU s' l' b'<dU .chain l false->gQ n toks LR s' l' b'):gQ n toks LR .chain l false:=by
 refine uX fun _ m gL f hf a h o ho rr dH HH mE M lU l0 mX R0 gU=>?_
 cases hf
 replace ho:bC (bX m) (.take QI (.call .prim fun x=>.tail (.newL x)) (.call .prim fun x=>.tail (.chainL x))) l false o:=ho
 replace dH:uM o=rr:=dH;show VM 138 (.own 0 0::[]) [dB LR a false] rr HH;obtain⟨μ,hμ⟩:∃μ:MF->Nat,∀x,μ x=rμ x.2.1 x.2.2.1:=⟨_,fun _=>rfl⟩
 refine iD aU (f:=138) Tryz.func138 rfl kR (oT kR) fun tags cC=>?_
 match tags,cC with
 |[t0],_=>
  refine aY.cutKM 3 74 [0,2,3] 3 (fun x:MF=>J2) (Jg LR t0) (LK n toks LR o R0 zy .chainL) aU mixed (fun n=>match n with|6=>4|8=>3|_=>0) (fun n=>match n with|6=>[1]|8=>[2]|_=>[]) (fun n i=>match n,i with|6,1=>1|8,2=>1|11,0=>1|_,_=>0) (fun E=>fI E cO Tryz.f138.results.toList [t0] rr HH) kR (fun P G E hc hM hE=>?_) ?_
  case' refine_1=>
   have fO:=iQ hE;have fG:=wU hE;have YP:=trivial;cbv;refine IR h ho (fun a h ho hs hb hk=>?_) (fun ho hk=>?_)<;>(refine .y hM hk ?_;cbv)
   case' refine_2=>exact rW
   refine vk gL ih h ho ⟨tM,rfl,rfl,rfl,rfl⟩ (fun x l b a k i q nm KK h ho hl hv hk=>?_)
   refine .y hM hk ?_;cbv;have ok:=hv.one;cbv at ok;simp only[ok];cbv;refine xE (ca ho (aJ tM gL)) fun m1 r=>?_
   have ho:=r.2;have oK:=r.1;clear r;refine Ed 74 [0,2,3] 3 (fun x:MF=>J2) (Jg LR t0) (LK n toks LR o R0 CR .newL) μ (_,_,_,m1,_,k,i,q,nm,KK) r5 ⟨h,ho,hv,oK,tL⟩ ?_
   rintro⟨a1,l1,b1,m1,x,kx,ix,qx,nx,KX⟩ ⟨h,ho,hx,gL,qU⟩
   simp only at h ho hx gL qU;replace ih:∀s' l' b',dU s' l' b'<dU (.newL x) l1 b1->gQ n toks LR s' l' b':=fun s' l' b' hh=>ih s' l' b' (aJ hh (xc0 tQ (oT rfl)))
   have okx:=hx.one;exact rW
  rintro⟨a0,l0,b0,m0,x0,k0,i0,q0,n0,K0⟩ ⟨h0,bg,sG,yl,mX⟩
  simp only at h0 bg sG yl mX;refine aY.ofM aU mixed (fun n=>match n with|15=>4|17=>3|_=>0) (fun n=>match n with|15=>[1]|17=>[2]|_=>[]) (fun n i=>match n,i with|15,1=>1|17,2=>1|20,0=>1|_,_=>0) kR (fun E=>fI E cO Tryz.f138.results.toList [t0] rr HH) fun P G E hc hM hE=>?_
  have fO:=iQ hE;have fG:=wU hE;have YP:=trivial;cbv;refine Ed 74 [0,2,3] 3 (fun x:MF=>J2) (Jg LR t0) (LK n toks LR o R0 zy .chainL) μ (a0,l0,b0,m0,x0,k0,i0,q0,n0,K0) r5 ⟨h0,bg,sG,yl,mX⟩ ?_
  rintro⟨a1,l1,b1,m1,x,kx,ix,qx,nx,KX⟩ ⟨h,ho,hx,gL,qU⟩
  simp only at h ho hx gL qU;replace ih:∀s' l' b',dU s' l' b'<dU (.chainL x) l1 b1->gQ n toks LR s' l' b':=fun s' l' b' hh=>ih s' l' b' (aJ hh (pc tQ (oT rfl) (oT rfl)))
  have okx:=hx.one;exact rW
end
theorem Pw{n:Int}{toks:List Tk}{LR:List (List PV)}:∀(M:Nat)(s:RS)(l:Ts)(b:Bool),dU s l b<M->gQ n toks LR s l b
 |0,_,_,_,h=>by omega
 |M+1,s,l,b,h=>by
  have ih:∀s' l' b',dU s' l' b'<dU s l b->gQ n toks LR s' l' b':=fun s' l' b' hh=>Pw M s' l' b' oM
  have hb:∀{s:RS},(b=false->gQ n toks LR s l b)->(b=true->xe s b=false)->gQ n toks LR s l b:=fun h1 h2 ho=>by
   cases b with
   |false=>exact h1 rfl ho
   |true=>rw[h2 rfl]at ho;cases ho
  cases s with
  |stms=>exact zy1 ih
  |stmsL acc=>intro _ m hm f hf;cases hf
  |stm=>exact z15 ih
  |block=>exact zwt ih
  |decls k=>exact zwo ih
  |declsL k acc=>intro _ m hm f hf;cases hf
  |cond=>exact hb (fun e=>by subst e;exact z0n (b:=false) ih) (fun e=>by rw[e];rfl)
  |loop=>exact hb (fun e=>by subst e;exact Zq (b:=false) ih) (fun e=>by rw[e];rfl)
  |tryR=>exact hb (fun e=>by subst e;exact zyu (b:=false) ih) (fun e=>by rw[e];rfl)
  |func d=>exact hb (fun e=>by
    subst e
    cases d with
    |true=>exact zt3 (b:=false) ih
    |false=>exact zt4 (b:=false) ih) (fun e=>by rw[e];rfl)
  |names=>intro ho;cases ho
  |namesL acc=>intro _ m hm f hf;cases hf
  |arrow=>exact hb (fun e=>by subst e;exact zww (b:=false) ih) (fun e=>by rw[e];rfl)
  |assign=>exact zuh ih
  |lv k=>
   refine hb (fun e=>?_) (fun e=>by rw[e];rfl)
   subst e
   match k with
   |0=>exact z4a (b:=false) ih
   |1=>exact z39 (b:=false) ih
   |2=>exact z38 (b:=false) ih
   |3=>exact z36 (b:=false) ih
   |4=>exact z35 (b:=false) ih
   |5=>exact z34 (b:=false) ih
   |6=>exact z33 (b:=false) ih
   |k+7=>
    intro _ m hm f hf
    have:(if k+5<=4 then some 103 else none)=some f:=hf
    rw[aD oM]at this
    cases this
  |lvL k x=>intro _ m hm f hf;cases hf
  |unary=>exact zu8 ih
  |list e=>cases b with
   |true=>exact ztt ih
   |false=>exact ztu ih
  |listL e acc=>intro _ m hm f hf;cases hf
  |chain=>exact hb (fun e=>by subst e;exact zwr (b:=false) ih) (fun e=>by rw[e];rfl)
  |newL x=>intro _ m hm f hf;cases hf
  |chainL x=>intro _ m hm f hf;cases hf
  |prim=>exact hb (fun e=>by subst e;exact zzk (b:=false) ih) (fun e=>by rw[e];rfl)
  |obj=>exact hb (fun e=>by subst e;exact z3r (b:=false) ih) (fun e=>by rw[e];rfl)
  |objL acc=>intro _ m hm f hf;cases hf
  |field=>exact hb (fun e=>by subst e;exact zwk (b:=false) ih) (fun e=>by rw[e];rfl)
end Go.Proofs.YtjkcdcloomkooaaGreatDoor
