/- Own work: ParserSame returns true. -/
import Derived.Test.YtcfecmeocimclaaGreatDoorYQA0
import Derived.Test.YtcfecmeocimclaaGreatDoorYQPYE
namespace Go.Proofs.YtcfecmeocimclaaGreatDoor
open Go.RowKit
set_option maxRecDepth 100000
set_option linter.unusedSimpArgs false
set_option linter.unusedVariables false
mutual
theorem zoc:∀ x y:PT,ze4 x y=ze4 y x
 | .mk k n i o ks,.mk k' n' i' o' ks'=>by
  rw [ze4,ze4,zoe ks ks']
  by_cases h:k=k'
  ·subst h;have e:∀ {α:Type} [DecidableEq α] (a b:α),decide (a=b)=decide (b=a):=fun a b=>decide_eq_decide.2 eq_comm
   rw [e n n',e i i',e o o',e ks.length ks'.length]
  ·rw [dF (p:=k=k') h,dF (p:=k'=k) (fun e=>h e.symm)]
   simp
theorem zoe:∀ x y:List PT,zhh x y=zhh y x
 | [],[]=>rfl
 | [],y :: ys=>by unfold zhh;rfl
 | x :: xs,[]=>by unfold zhh;rfl
 | x :: xs,y :: ys=>by rw [zhh,zhh,zoc x y,zoe xs ys]
end
theorem zns (x y:PT):RL 5 [.agg (zi6 x),.agg (zi6 y)] (pB true):=by
 have hf:=upL (zyv 80 (by decide) (by decide) x)
 have hg:=upL (zyv 80 (by decide) (by decide) y)
 have hw:=zml 60 x 80 (by decide)
 have hw':=zml 60 y 80 (by decide)
 have s1:=fun h h'=>upL (zji _ x y (nR _) (hw h) (hw' h'))
 have s2:=fun h h'=>upL (zji _ y x (nR _) (hw' h') (hw h))
 have s3:=fun h=>upL (zji _ x x (nR _) (hw h) (hw h))
 have s4:=fun h h'=>upL (zqs _ x y (nR _) (hw h) (hw' h'))
 rw [zoc y x] at s2;rw [zod] at s3;obtain ⟨b,hb⟩:∃ b,ze4 x y=b:=⟨_,rfl⟩
 rw [hb] at s1 s2 s4;obtain ⟨k,i,q,nm,K,hv⟩:=zjp x;obtain ⟨k',i',q',nm',K',hv'⟩:=zjp y;obtain ⟨c,hc⟩:∃ c,zga 60 x 80=c:=⟨_,rfl⟩
 obtain ⟨c',hc'⟩:∃ c,zga 60 y 80=c:=⟨_,rfl⟩
 rw [hc] at hf s1 s2 s3 s4;rw [hc'] at hg s1 s2 s4;rw [hv] at hf s1 s2 s3 s4 ⊢;rw [hv'] at hg s1 s2 s4 ⊢;clear hw hw' hb hc hc' hv hv'
 rcases (show ¬ 0<=c\/(0<=c/\¬ 0<=c')\/(0<=c/\0<=c') by omega) with h|⟨h,h'⟩|⟨h,h'⟩
 ·rw [dF h] at hf;refine zgp zaa zbq mixed (fun n=>match n with|3=>19|_=>0) Tryz.func5 rfl (by kernel_rfl) (by kernel_rfl) rfl fun P G E hc hM hE=>?_
  have h1:=hc _ _ _ zcr;replace hf:=hc _ _ _ hf;replace hg:=hc _ _ _ hg;clear hc hM hE s1 s2 s3 s4;cbv
  repeat (first|(refine ⟨_,h1,?_⟩;cbv)|(refine ⟨_,hf,?_⟩;cbv)|(refine ⟨_,hg,?_⟩;cbv))
 ·rw [dT h] at hf;rw [dF h'] at hg;refine zgp zaa zbq mixed (fun n=>match n with|3=>19|_=>0) Tryz.func5 rfl (by kernel_rfl) (by kernel_rfl) rfl fun P G E hc hM hE=>?_
  have h1:=hc _ _ _ zcr;replace hf:=hc _ _ _ hf;replace hg:=hc _ _ _ hg;clear hc hM hE s1 s2 s3 s4;cbv
  repeat (first|(refine ⟨_,h1,?_⟩;cbv)|(refine ⟨_,hf,?_⟩;cbv)|(refine ⟨_,hg,?_⟩;cbv))
 ·rw [dT h] at hf;rw [dT h'] at hg;replace s1:=s1 h h';replace s2:=s2 h h';replace s3:=s3 h;replace s4:=s4 h h';refine zgp zaa zbq mixed (fun n=>match n with|3=>19|_=>0) Tryz.func5 rfl (by kernel_rfl) (by kernel_rfl) rfl fun P G E hc hM hE=>?_
  have h1:=hc _ _ _ zcr;replace hf:=hc _ _ _ hf;replace hg:=hc _ _ _ hg;replace s1:=hc _ _ _ s1;replace s2:=hc _ _ _ s2;replace s3:=hc _ _ _ s3;replace s4:=hc _ _ _ s4;clear hc hM hE;have d1:decide (b=b)=true:=dT rfl;cbv
  repeat (first|(refine ⟨_,h1,?_⟩;cbv)|(refine ⟨_,hf,?_⟩;cbv)|(refine ⟨_,hg,?_⟩;cbv)|(refine ⟨_,s1,?_⟩;cbv)|(refine ⟨_,s4,?_⟩;cbv)|(refine ⟨_,s2,?_⟩;cbv)|(refine ⟨_,s3,?_⟩;cbv)|(simp only [d1];cbv)|simp only [d1])
end Go.Proofs.YtcfecmeocimclaaGreatDoor
