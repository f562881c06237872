/- Own work: walks and laws of the parser and its reference. -/
import Derived.Test.YtjkcdcloomkooaaGreatDoorQXR
set_option linter.unusedVariables false
set_option linter.unusedSimpArgs false
set_option linter.unusedSectionVars false
set_option maxHeartbeats 16000000
set_option maxRecDepth 100000
namespace Go.Proofs.YtjkcdcloomkooaaGreatDoor
open Go.RowKit
section
variable{n:Int}{toks:List Tk}{LR:List (List PV)}{l:Ts}
theorem z0x{b:Bool}(ih:∀s' l' b',cG s' l' b'<cG .stm l b->gK n toks LR s' l' b'):gK n toks LR .stm l b:=by
 intro _ m hm f hf a h o ho
 cases hf
 obtain⟨m,rfl⟩:∃k,m=k+1:=⟨m-1,by omega⟩
 have gF:cG .stm l b<=m:=aO hm;clear hm;rw[rL]at ho;obtain⟨l0,mW⟩:∃k,l=k:=⟨_,rfl⟩
 obtain⟨R0,gZ⟩:∃k,rμ l b=k:=⟨_,rfl⟩
 replace ho:aW (bN m) sx l b o:=⟨ho⟩;show VM 47 (.own 0 0::[]) [cZ LR a b] (lD o) (iC toks LR o);obtain⟨rr,dZ⟩:∃rr,lD o=rr:=⟨_,rfl⟩
 obtain⟨HH,gQ⟩:∃HH,iC toks LR o=HH:=⟨_,rfl⟩
 rw[dZ,gQ];obtain⟨M,mY⟩:∃M:Int,((toks.length:Nat):Int)=M:=⟨_,rfl⟩
 refine nQ Tryz.func47 rfl kR (fun n=>match n with|23=>3|29=>5|_=>0) (fun n=>match n with|23=>[2]|29=>[3]|_=>[]) (fun n i=>match n,i with|23,2=>1|29,3=>1|29,4=>1|27,0=>1|_,_=>0) kR rfl fun t0 P G E hc hM hE=>?_
 exact zu
end
end Go.Proofs.YtjkcdcloomkooaaGreatDoor
