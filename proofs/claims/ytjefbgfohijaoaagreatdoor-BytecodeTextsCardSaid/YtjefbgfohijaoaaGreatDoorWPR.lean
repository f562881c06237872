/- Own work: Formed, Few and Same as contracts over data. -/
import Derived.Test.YtjefbgfohijaoaaGreatDoorWPD
import Derived.Test.YtjefbgfohijaoaaGreatDoorWGH
namespace Go.Proofs.YtjefbgfohijaoaaGreatDoor
open Go.RowKit
set_option maxRecDepth 100000
def progF (fs : List Fn) : Bool := fs.all (fun f => formedB f fs.length) && decide ((fs.length : Int) <= 4096)
theorem progF_map (rs : List FnRef) : progF (rs.map (·.f)) = progB rs := by
 unfold progF progB
 rw [List.all_map, List.length_map]
 rfl
def fewFn (f : Fn) : Bool := decide (f.name.size <= 40) && (decide (f.code.length <= 80) && (decide (f.consts.length <= 20) && (decide (f.hdls.length <= 10) && f.consts.all fewC)))
def fewP (fs : List Fn) (n : Int) : Bool := decide ((fs.length : Int) <= n) && fs.all fewFn
theorem fewP_map (rs : List FnRef) (n : Int) : fewP (rs.map (·.f)) n = fewB rs n := by
 unfold fewP fewB
 rw [List.all_map, List.length_map]
 rfl
def sameP (xs ys : List Fn) : Bool := listEq fnSame xs ys
theorem ret_prog {f : FuncId} {fn : Func} (hf : Tryz.prog.funcs[f]? = some fn) (hb : fn.body.isSome = true) (hn : (fn.name == "runtime.NumGoroutine") = false) (fs : List Fn) (hw : ∀ f ∈ fs, FnSz f) (q : Bool)
  (h : ∀ w A c rs, Tabs w -> ProgAt w A rs -> rs.map (·.f) = fs -> Calls Tryz.prog f #[.agg #[.slice A rs.length c]] w fun e w' => e = .returned (.bool q) /\ Gr w w') : RT f [pProg fs] (pB q) :=
 ⟨enters hf hb hn, fun w B args hG hl hr => by
  match args, hl with
  | [v], _ =>
   obtain ⟨A, c, rs, rfl, hm, hP⟩ := prog_of (hr 0 _ v rfl rfl) hw
   exact (h w A c rs hG hP hm).mono fun e w' ⟨h1, h2⟩ => ⟨h2, by rw [h1]; exact .ret (.v _)⟩⟩
theorem rformed_ret (fs : List Fn) (hw : ∀ f ∈ fs, FnSz f) (hn : fs.length <= 1000000) : RT 7 [pProg fs] (pB (progF fs)) :=
 ret_prog Tryz.func7 (by kernel_rfl) (by kernel_rfl) fs hw _ fun w A c rs hT hP hm => by
  subst hm
  rw [progF_map]
  exact RFormed_any A c rs w hP (by simpa using hn)
theorem few_ret (fs : List Fn) (hw : ∀ f ∈ fs, FnSz f) (n : Int) (hn : n <= 100) : RT 6 [pProg fs, pI n] (pB (fewP fs n)) :=
 ⟨enters Tryz.func6 (by kernel_rfl) (by kernel_rfl), fun w B args hG hl hr => by
  match args, hl with
  | [v, u], _ =>
   obtain ⟨A, c, rs, rfl, hm, hP⟩ := prog_of (hr 0 _ v rfl rfl) hw
   have h2 := hr 1 _ u rfl rfl
   cases h2
   subst hm
   rw [fewP_map]
   exact (few_any A c rs n w hP hn).mono fun e w' ⟨h1, h2⟩ => ⟨h2, by rw [h1]; exact .ret (.v _)⟩⟩
end Go.Proofs.YtjefbgfohijaoaaGreatDoor
