/- Own work: contracts over scalars, as the walk over data takes them. -/
import Derived.Test.YtlffpgjkhehdmaaDoorAbsI
namespace Go.Proofs.YtlffpgjkhehdmaaDoor
open Go.RowKit

theorem enters {P : Program} {f : FuncId} {fn : Func} (hf : P.funcs[f]? = some fn) (hb : fn.body.isSome = true) (hn : (fn.name == "runtime.NumGoroutine") = false) (args : Array Value) (w : World) : (callFunc f args).run P w = .ok (.enter f args) w := by
  have hn' : ¬ fn.name = "runtime.NumGoroutine" := by simpa using hn
  obtain ⟨c, hc⟩ := Option.isSome_iff_exists.1 hb
  simp [callFunc, program, Sem.run, hf, hn', hc]

theorem args_v {w : World} {B : Nat → Prop} : ∀ (vs args : List Value), (vs.map PV.v).length = args.length → (∀ (j : Nat) (a : PV) (v : Value), (vs.map PV.v)[j]? = some a → args[j]? = some v → RepP w B a v) → args = vs
  | [], [], _, _ => rfl
  | [], _ :: _, h, _ => by simp at h
  | _ :: _, [], h, _ => by simp at h
  | v :: vs, a :: args, hl, h => by
    have h0 := h 0 _ a rfl rfl
    have ih := args_v (w := w) (B := B) vs args (by simpa using hl) (fun j x y hx hy => h (j + 1) x y (by simpa using hx) (by simpa using hy))
    cases h0
    rw [ih]

/-- a contract over scalars -/
theorem ret_v {P : Program} {G : World → Prop} {f : FuncId} {fn : Func} (hf : P.funcs[f]? = some fn) (hb : fn.body.isSome = true) (hn : (fn.name == "runtime.NumGoroutine") = false) (vs : List Value) (r : PV)
    (h : ∀ w, G w → Calls P f vs.toArray w fun e w' => ∃ v, e = .returned v ∧ Gr w w' ∧ ∀ R, RepP w' R r v) : Ret P G f (vs.map .v) r :=
  ⟨enters hf hb hn, fun w B args hG hl hr => by
    have := args_v vs args hl hr
    subst this
    exact (h w hG).mono fun e w' ⟨v, h1, h2, h3⟩ => ⟨h2, by rw [h1]; exact .ret (h3 _)⟩⟩
theorem repP_tup2 {w : World} {R : Nat → Prop} (a b : Value) : RepP w R (.tup [.v a, .v b]) (.tuple #[a, b]) := by
  refine RepP.tup [.v a, .v b] [a, b] rfl fun j x v hx hv => ?_
  rcases j with _ | _ | j
  · simp at hx hv; subst hx; subst hv; exact .v _
  · simp at hx hv; subst hx; subst hv; exact .v _
  · simp at hx
end Go.Proofs.YtlffpgjkhehdmaaDoor
