/- Own work: walks and laws of the parser and its reference. -/
import Derived.Test.YtjkcdcloomkooaaGreatDoorQYR
set_option linter.unusedVariables false
set_option linter.unusedSimpArgs false
set_option linter.unusedSectionVars false
set_option maxHeartbeats 16000000
set_option maxRecDepth 100000
namespace Go.Proofs.YtjkcdcloomkooaaGreatDoor
open Go.RowKit
section
variable{n:Int}{toks:List Tk}{LR:List (List PV)}{l:Ts}
theorem z15{b:Bool}(ih:∀s' l' b',dU s' l' b'<dU .stm l b->gQ n toks LR s' l' b'):gQ n toks LR .stm l b:=by
 refine uX fun _ m gL f hf a h o ho rr dH HH mE M lU l0 mX R0 gU=>?_
 cases hf
 replace ho:bC (bX m) q8 l b o:=ho;replace dH:uM o=rr:=dH;show VM 47 (.own 0 0::[]) [dB LR a b] rr HH;refine nX Tryz.func47 rfl kR (fun n=>match n with|23=>3|29=>5|_=>0) (fun n=>match n with|23=>[2]|29=>[3]|_=>[]) (fun n i=>match n,i with|23,2=>1|29,3=>1|29,4=>1|27,0=>1|_,_=>0) kR rfl fun t0 P G E hc hM hE=>?_
 exact BK
end
end Go.Proofs.YtjkcdcloomkooaaGreatDoor
