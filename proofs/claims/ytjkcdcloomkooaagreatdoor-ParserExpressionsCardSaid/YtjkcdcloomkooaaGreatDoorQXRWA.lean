/- Own work: walks and laws of the parser and its reference. -/
import Derived.Test.YtjkcdcloomkooaaGreatDoorQXS
import Derived.Test.YtjkcdcloomkooaaGreatDoorQXRW5
import Derived.Test.YtjkcdcloomkooaaGreatDoorQXRW7
import Derived.Test.YtjkcdcloomkooaaGreatDoorQXRW8
import Derived.Test.YtjkcdcloomkooaaGreatDoorQXRW9
set_option linter.unusedVariables false
set_option linter.unusedSimpArgs false
set_option linter.unusedSectionVars false
set_option maxHeartbeats 16000000
set_option maxRecDepth 100000
namespace Go.Proofs.YtjkcdcloomkooaaGreatDoor
open Go.RowKit
section
variable{n:Int}{toks:List Tk}{LR:List (List PV)}{l:Ts}
theorem Yg{b:Bool}(ih:∀s' l' b',cG s' l' b'<cG .chain l false->gK n toks LR s' l' b'):gK n toks LR .chain l false:=by
 intro _ m hm f hf a h o ho
 cases hf
 obtain⟨m,rfl⟩:∃k,m=k+1:=⟨m-1,by omega⟩
 have gF:cG .chain l false<=m:=aO hm;clear hm;rw[rL]at ho;obtain⟨l0,mW⟩:∃k,l=k:=⟨_,rfl⟩
 obtain⟨R0,gZ⟩:∃k,rμ l false=k:=⟨_,rfl⟩
 replace ho:aW (bN m) (.take YT (.call .prim fun x=>.tail (.newL x)) (.call .prim fun x=>.tail (.chainL x))) l false o:=⟨ho⟩
 show VM 138 (.own 0 0::[]) [cZ LR a false] (lD o) (iC toks LR o);obtain⟨rr,dZ⟩:∃rr,lD o=rr:=⟨_,rfl⟩
 obtain⟨HH,gQ⟩:∃HH,iC toks LR o=HH:=⟨_,rfl⟩
 rw[dZ,gQ];obtain⟨M,mY⟩:∃M:Int,((toks.length:Nat):Int)=M:=⟨_,rfl⟩
 obtain⟨μ,hμ⟩:∃μ:Int×Ts×Bool×Nat×PT×Int×Int×Int×ByteArray×PV->Nat,∀x,μ x=rμ x.2.1 x.2.2.1:=⟨_,fun _=>rfl⟩
 refine gS aN (f:=138) Tryz.func138 rfl kR (oT kR) fun tags bS=>?_
 match tags,bS with
 |[t0],_=>
  refine aY.cutKM 3 74 [0,2,3] 3 (fun x:Int×Ts×Bool×Nat×PT×Int×Int×Int×ByteArray×PV=>[.own 0 0,.own 1 0,.own 2 0]) (fun x=>[some (.box [.p (.ro 3 LR),.p (pI x.1),.p (pB x.2.2.1)] 46 (some t0)),some (.box [.p (pI 0),.p (pS ⟨#[]⟩),.p (pI 0),.p (pI 0),.p (.v (.slice none 0 0))] 25 none),some (.box [.p (pI x.2.2.2.2.2.1),.p (pS x.2.2.2.2.2.2.2.2.1),.p (pI x.2.2.2.2.2.2.1),.p (pI x.2.2.2.2.2.2.2.1),.p x.2.2.2.2.2.2.2.2.2] 25 none)]) (fun x=>bE n toks LR x.1 x.2.1/\aW (bN x.2.2.2.1) (BV x.2.2.2.2.1) x.2.1 x.2.2.1 o/\fI x.2.2.2.2.1 x.2.2.2.2.2.1 x.2.2.2.2.2.2.1 x.2.2.2.2.2.2.2.1 x.2.2.2.2.2.2.2.2.1 x.2.2.2.2.2.2.2.2.2/\cG (.chainL x.2.2.2.2.1) x.2.1 x.2.2.1<=x.2.2.2.1/\rμ x.2.1 x.2.2.1<=R0) aN mixed (fun n=>match n with|6=>4|8=>3|_=>0) (fun n=>match n with|6=>[1]|8=>[2]|_=>[]) (fun n i=>match n,i with|6,1=>1|8,2=>1|11,0=>1|_,_=>0) (fun E=>eU E cK Tryz.f138.results.toList [t0] rr HH) kR (fun P G E hc hM hE=>?_) ?_
  case' refine_1=>
   have fO:=gX hE;have fG:=wM hE;have VB:=trivial;cbv;refine GY h ho (fun a h ho hs hb hk=>?_) (fun ho hk=>?_)<;>(refine .z [0] (hM _ _ _ _ _ hk) rfl rfl rfl ?_;cbv)
   case' refine_2=>exact rW
   refine uj gF ih h ho ⟨tM,rfl,rfl,rfl,rfl⟩ (fun x l b a k i q nm KK h ho hl hv hk=>?_)
   refine .z [0] (hM _ _ _ _ _ hk) rfl rfl rfl ?_;cbv;have ok:=hv.one;cbv at ok;simp only[ok];cbv;refine xE (bo ho (aI tM gF)) fun m1 r=>?_
   have ho:=r.2;have nZ:=r.1;clear r;refine C9 74 [0,2,3] 3 (fun x:Int×Ts×Bool×Nat×PT×Int×Int×Int×ByteArray×PV=>[.own 0 0,.own 1 0,.own 2 0]) (fun x=>[some (.box [.p (.ro 3 LR),.p (pI x.1),.p (pB x.2.2.1)] 46 (some t0)),some (.box [.p (pI 0),.p (pS ⟨#[]⟩),.p (pI 0),.p (pI 0),.p (.v (.slice none 0 0))] 25 none),some (.box [.p (pI x.2.2.2.2.2.1),.p (pS x.2.2.2.2.2.2.2.2.1),.p (pI x.2.2.2.2.2.2.1),.p (pI x.2.2.2.2.2.2.2.1),.p x.2.2.2.2.2.2.2.2.2] 25 none)]) (fun x=>bE n toks LR x.1 x.2.1/\aW (bN x.2.2.2.1) (GQ x.2.2.2.2.1) x.2.1 x.2.2.1 o/\fI x.2.2.2.2.1 x.2.2.2.2.2.1 x.2.2.2.2.2.2.1 x.2.2.2.2.2.2.2.1 x.2.2.2.2.2.2.2.2.1 x.2.2.2.2.2.2.2.2.2/\cG (.newL x.2.2.2.2.1) x.2.1 x.2.2.1<=x.2.2.2.1/\rμ x.2.1 x.2.2.1<=R0) μ (_,_,_,m1,_,k,i,q,nm,KK) r5 ⟨h,ho,hv,nZ,tL⟩ ?_
   rintro⟨a1,l1,b1,m1,x,kx,ix,qx,nx,KX⟩ ⟨h,ho,hx,gF,qI⟩
   simp only at h ho hx gF qI;replace ih:∀s' l' b',cG s' l' b'<cG (.newL x) l1 b1->gK n toks LR s' l' b':=fun s' l' b' hh=>ih s' l' b' (aI hh (xa3 tQ (oT rfl)))
   have okx:=hx.one;exact rW
  rintro⟨a0,l0,b0,m0,x0,k0,i0,q0,n0,K0⟩ ⟨h0,ap,rQ,xh,mW⟩
  simp only at h0 ap rQ xh mW;refine aY.ofM aN mixed (fun n=>match n with|15=>4|17=>3|_=>0) (fun n=>match n with|15=>[1]|17=>[2]|_=>[]) (fun n i=>match n,i with|15,1=>1|17,2=>1|20,0=>1|_,_=>0) kR (fun E=>eU E cK Tryz.f138.results.toList [t0] rr HH) fun P G E hc hM hE=>?_
  have fO:=gX hE;have fG:=wM hE;have VB:=trivial;cbv;refine C9 74 [0,2,3] 3 (fun x:Int×Ts×Bool×Nat×PT×Int×Int×Int×ByteArray×PV=>[.own 0 0,.own 1 0,.own 2 0]) (fun x=>[some (.box [.p (.ro 3 LR),.p (pI x.1),.p (pB x.2.2.1)] 46 (some t0)),some (.box [.p (pI 0),.p (pS ⟨#[]⟩),.p (pI 0),.p (pI 0),.p (.v (.slice none 0 0))] 25 none),some (.box [.p (pI x.2.2.2.2.2.1),.p (pS x.2.2.2.2.2.2.2.2.1),.p (pI x.2.2.2.2.2.2.1),.p (pI x.2.2.2.2.2.2.2.1),.p x.2.2.2.2.2.2.2.2.2] 25 none)]) (fun x=>bE n toks LR x.1 x.2.1/\aW (bN x.2.2.2.1) (BV x.2.2.2.2.1) x.2.1 x.2.2.1 o/\fI x.2.2.2.2.1 x.2.2.2.2.2.1 x.2.2.2.2.2.2.1 x.2.2.2.2.2.2.2.1 x.2.2.2.2.2.2.2.2.1 x.2.2.2.2.2.2.2.2.2/\cG (.chainL x.2.2.2.2.1) x.2.1 x.2.2.1<=x.2.2.2.1/\rμ x.2.1 x.2.2.1<=R0) μ (a0,l0,b0,m0,x0,k0,i0,q0,n0,K0) r5 ⟨h0,ap,rQ,xh,mW⟩ ?_
  rintro⟨a1,l1,b1,m1,x,kx,ix,qx,nx,KX⟩ ⟨h,ho,hx,gF,qI⟩
  simp only at h ho hx gF qI;replace ih:∀s' l' b',cG s' l' b'<cG (.chainL x) l1 b1->gK n toks LR s' l' b':=fun s' l' b' hh=>ih s' l' b' (aI hh (nw tQ (oT rfl) (oT rfl)))
  have okx:=hx.one;exact rW
end
theorem Lm{n:Int}{toks:List Tk}{LR:List (List PV)}:∀(M:Nat)(s:RS)(l:Ts)(b:Bool),cG s l b<M->gK n toks LR s l b
 |0,_,_,_,h=>by omega
 |M+1,s,l,b,h=>by
  have ih:∀s' l' b',cG s' l' b'<cG s l b->gK n toks LR s' l' b':=fun s' l' b' hh=>Lm M s' l' b' oM
  have hb:∀{s:RS},(b=false->gK n toks LR s l b)->(b=true->DK s b=false)->gK n toks LR s l b:=fun h1 h2 ho=>by
   cases b with
   |false=>exact h1 rfl ho
   |true=>rw[h2 rfl]at ho;cases ho
  cases s with
  |stms=>exact Y7 ih
  |stmsL acc=>intro _ m hm f hf;cases hf
  |stm=>exact z0x ih
  |block=>exact Yf ih
  |decls k=>exact Yi ih
  |declsL k acc=>intro _ m hm f hf;cases hf
  |cond=>exact hb (fun e=>by subst e;exact Wu (b:=false) ih) (fun e=>by rw[e];rfl)
  |loop=>exact hb (fun e=>by subst e;exact Xc (b:=false) ih) (fun e=>by rw[e];rfl)
  |tryR=>exact hb (fun e=>by subst e;exact Y1 (b:=false) ih) (fun e=>by rw[e];rfl)
  |func d=>exact hb (fun e=>by
    subst e
    cases d with
    |true=>exact Zz (b:=false) ih
    |false=>exact Zy (b:=false) ih) (fun e=>by rw[e];rfl)
  |names=>intro ho;cases ho
  |namesL acc=>intro _ m hm f hf;cases hf
  |arrow=>exact hb (fun e=>by subst e;exact Yd (b:=false) ih) (fun e=>by rw[e];rfl)
  |assign=>exact Zj ih
  |lv k=>
   refine hb (fun e=>?_) (fun e=>by rw[e];rfl)
   subst e
   match k with
   |0=>exact z2x (b:=false) ih
   |1=>exact z2w (b:=false) ih
   |2=>exact z2v (b:=false) ih
   |3=>exact z2u (b:=false) ih
   |4=>exact z2t (b:=false) ih
   |5=>exact z2s (b:=false) ih
   |6=>exact z2r (b:=false) ih
   |k+7=>
    intro _ m hm f hf
    have:(if k+5<=4 then some 103 else none)=some f:=hf
    rw[aE oM]at this
    cases this
  |lvL k x=>intro _ m hm f hf;cases hf
  |unary=>exact Z7 ih
  |list e=>cases b with
   |true=>exact Zt ih
   |false=>exact Zs ih
  |listL e acc=>intro _ m hm f hf;cases hf
  |chain=>exact hb (fun e=>by subst e;exact Yg (b:=false) ih) (fun e=>by rw[e];rfl)
  |newL x=>intro _ m hm f hf;cases hf
  |chainL x=>intro _ m hm f hf;cases hf
  |prim=>exact hb (fun e=>by subst e;exact Xo (b:=false) ih) (fun e=>by rw[e];rfl)
  |obj=>exact hb (fun e=>by subst e;exact z2g (b:=false) ih) (fun e=>by rw[e];rfl)
  |objL acc=>intro _ m hm f hf;cases hf
  |field=>exact hb (fun e=>by subst e;exact Yl (b:=false) ih) (fun e=>by rw[e];rfl)
end Go.Proofs.YtjkcdcloomkooaaGreatDoor
