/- Own work: what the Parser rows of this seat share: the listed variables and the world's shape give what the walks ask of them. -/
import Derived.Test.YtcfecmeocimclaaGreatDoorYAA0
import Derived.Test.YtcfecmeocimclaaGreatDoorRows
import Derived.Test.YtcfecmeocimclaaGreatDoorYALB4
import Derived.Test.YtcfecmeocimclaaGreatDoorYAGT
import Derived.PinnedBridge
import Derived.Lib.LaidU8T
import Derived.Lib.LaidTab
import Derived.ProofKit
import Derived.Lay
import Derived.LaidMore
import Derived.LaidOnce
import Derived.SevenTiedAt
import Derived.Carry
import Derived.Handed
namespace Go.Proofs.YtcfecmeocimclaaGreatDoor
set_option maxRecDepth 100000
open Go.ChangeShapes Go.WideShapes Go.ChangeAt Go.RowKit Go.Lib Go.Shelf
theorem own:ownKnob Tryz.prog.godebug=none:=by kernel_rfl
theorem xU:U8Extra Tryz.prog Tryz.laysValid_ren:=⟨by kernel_rfl,by kernel_rfl,by kernel_rfl,by kernel_rfl,by kernel_rfl,by kernel_rfl,by kernel_rfl⟩
theorem zzl:(Rows.laid_unicode_utf8_acceptRanges:DataW Unit)=acceptData:=by kernel_rfl
def zr5:List (String × DataW Unit):=Rows.parserTwoRow.laid
theorem zhm {W:World} {name nm:String} {d:DataW Unit} {g:Nat} {t:TypeId} {ms:Array (String × TypeId)} (hg:Tryz.prog.globalNamed name=some g) (hty:(Tryz.prog.globals[g]?).map (·.type)=some t) (hu:Tryz.prog.underlying t=some (.interface ms))
  (h:VarReads Tryz.prog W name (.iface nm d)):zzp W name:=by
 obtain ⟨g',t',cs,fuel,p,hg',hty',hvar,hd⟩:=h;obtain rfl:=Option.some.inj (hg.symm.trans hg');obtain rfl:=Option.some.inj (hty.symm.trans hty')
 cases fuel with
 | zero=>simp [DataW.trod] at hd
 | succ n =>
  rw [DataW.trod_step] at hd;have hcs:cs=cs.toList.toArray:=by simp
  match hl:cs.toList,hd with
  | [],hd=>simp [DataW.trodStep,hu] at hd
  | [v],hd =>
   cases v <;> simp [DataW.trodStep,hu] at hd
   rename_i tp v;rw [hcs,hl] at hvar;exact ⟨tp,v,hvar⟩
  | _ :: _ :: _,hd=>simp [DataW.trodStep,hu] at hd
theorem zo0 {H:Type} {enc:TypeId × Value->H} {a:Assume} {C:Checked} {os:Os} {f:FuncId} {fn:Func} {s:ChangeSpec} {conds:List PathCond} {apart fresh handsOn again:Bool} {X:World->Array Value->Prop}
  (hX:∀ (w w':World) (args:Array Value),w.heap=w'.heap->X w args->X w' args) (own:ownKnob C.prog.godebug=none) (started:os.Started) (noInit:C.prog.inits.idxOf? f=none) (hfn:C.prog.funcs[f]?=some fn)
  (wit:∃ (w:World) (tape:Tape) (i:Input),w.os=os/\(w.forCall tape i).Shaped C.prog/\i.vars=[]/\Input.okWide C.prog (w.forCall tape i) .any w.heap.size f i ∧
   ((s.pre enc C.prog fn conds apart (w.forCall tape i).memory i.args/\X (w.forCall tape i).memory i.args)/\sizedMet enc C.prog fn (OpenSpec.ofChange s) apart (w.forCall tape i).memory i.args)/\a.holds C.prog (lone (Frame.enter C.prog f i.args .normal) [] (w.forCall tape i)))
  (walk:∀ (W:World) (base:Nat) (args:Array Value) (ds gs:List (DataW H)) (before:List MemPlace),(∀ (j:Nat) t v,fn.params[j]?=some t->args[j]?=some v->Value.okWide C.prog W .any base t v) →
   DataW.Whole enc C.prog fn.params.toList s.vars apart W args.toList ds gs before->X W args->W.ShapedOpen C.prog →
   Calls C.prog f args W fun e W'=>∃ v,e=.returned v/\s.post enc C.prog fn apart fresh handsOn again W args v W') :
  ReturnsInHanded a C os f .any (fun w args=>(s.pre enc C.prog fn conds apart w args/\X w args)/\sizedMet enc C.prog fn (OpenSpec.ofChange s) apart w args) (s.post enc C.prog fn apart fresh handsOn again):=by
 refine returnsInHanded_of_calls own started noInit wit fun w tape i _ hsh _ hok hpre _=>?_
 obtain ⟨_,_,_,fn',hfn',_,_,_,_,hval⟩:=hok
 cases Option.some.inj (hfn'.symm.trans hfn)
 obtain ⟨⟨⟨ds,gs,before,hw,_⟩,hx⟩,_⟩:=hpre;refine (walk _ w.heap.size i.args ds gs before hval (DataW.Whole.of_heap (w':=w.forCall tape i) (by rfl) hw) (hX _ _ _ (by rfl) hx) hsh).mono ?_
 rintro e W' ⟨v,rfl,hp⟩
 exact ChangeSpec.post_blind hp
theorem gl_of {W:World} (hL:laidMetH Tryz.prog zr5 W) (hS:W.ShapedOpen Tryz.prog):GL W:=by
 rw [MakeChecks.laidMetH_plain _ _ _ (by kernel_rfl)] at hL
 refine ⟨?_,?_,?_,Tryz.laysM143.s1_3 W hS⟩
 ·exact utf8Tabs_of_readsT (U8Types.of196 Tryz.laysValid) xU (Pinned.utf8First_eq ▸ Lib.laidMet.reads hL (.tail _ (.tail _ (.tail _ (.tail _ (.tail _ (.tail _ (.head _)))))))) (zzl ▸ Lib.laidMet.reads hL (.tail _ (.tail _ (.tail _ (.head _)))))
 ·exact zhm (g:=4) (t:=89) (by kernel_rfl) (by kernel_rfl) Tryz.underlying89 (Lib.laidMet.reads hL (.tail _ (.tail _ (.tail _ (.tail _ (.tail _ (.head _)))))))
 ·exact zhm (g:=5) (t:=89) (by kernel_rfl) (by kernel_rfl) Tryz.underlying89 (Lib.laidMet.reads hL (.tail _ (.tail _ (.tail _ (.tail _ (.head _))))))
theorem zx1 (os:Os) (args:Array Value):laidMetH Tryz.prog zr5 ((World.laidAll Tryz.prog os zr5).forCall (fun _ _=>0) ⟨#[],args,[]⟩).memory:=by
 rw [MakeChecks.laidMetH_plain _ _ _ (by kernel_rfl)];exact laidMet_laidAll _ (by kernel_rfl) (by kernel_rfl)
theorem ztt:laidOutB Tryz.prog=true:=by kernel_rfl
def Reps (w:World) (B:Nat->Prop) (ps:List PV) (vs:List Value):Prop:=ps.length=vs.length/\∀ (j:Nat) (a:PV) (v:Value),ps[j]?=some a->vs[j]?=some v->RepP w B a v
theorem reps0 {w:World} {B:Nat->Prop}:Reps w B [] []:=⟨rfl,fun j a v h=>by simp at h⟩
theorem z39 {w:World} {B:Nat->Prop} {p:PV} {v:Value} {ps:List PV} {vs:List Value} (h:RepP w B p v) (hr:Reps w B ps vs):Reps w B (p :: ps) (v :: vs):=by
 refine ⟨by simp [hr.1],fun j a x ha hx=>?_⟩
 cases j with
 | zero=>simp at ha hx;subst ha hx;exact h
 | succ j=>exact hr.2 j a x (by simpa using ha) (by simpa using hx)
theorem zw0 {f:FuncId} {ps:List PV} {vs:List Value} (h:RL f ps (pB true)) {W:World} (hG:GL W) (hr:Reps W (fun _=>True) ps vs):Calls Tryz.prog f vs.toArray W fun e W'=>e=.returned (.bool true)/\Gr W W' :=
 (h.2 W (fun _=>True) vs hG hr.1 hr.2).mono fun e w' ⟨h2,v,h1,h3⟩=>⟨by cases h3;exact h1,h2⟩
theorem zwc {x:Int} (h:(Lit.int .u8 x).wf=true):0<=x/\x<=255:=by
 have e1:IntKind.u8.min=0:=by decide
 have e2:IntKind.u8.max=255:=by decide
 simp only [Lit.wf,e1,e2,bAT,decide_eq_true_eq] at h;exact h
end Go.Proofs.YtcfecmeocimclaaGreatDoor
