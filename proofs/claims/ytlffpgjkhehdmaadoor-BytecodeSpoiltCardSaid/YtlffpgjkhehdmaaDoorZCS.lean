/- Own work: bytecode.Same as a contract over data; a program's sizes for the writer. -/
import Derived.Test.YtlffpgjkhehdmaaDoorZGI
import Derived.Test.YtlffpgjkhehdmaaDoorZBSame
import Derived.Test.YtlffpgjkhehdmaaDoorZGM
import Derived.Test.YtlffpgjkhehdmaaDoorZBA4
namespace Go.Proofs.YtlffpgjkhehdmaaDoor
open Go.RowKit
set_option maxRecDepth 100000
set_option linter.unusedSimpArgs false

theorem bsame_ret (xs ys : List Fn) (hx : ∀ f ∈ xs, FnSz f) (hy : ∀ f ∈ ys, FnSz f) (nx : xs.length ≤ 1000000) (ny : ys.length ≤ 1000000) : RT 25 [pProg xs, pProg ys] (pB (sameP xs ys)) :=
  ⟨enters Tryd.func25 (by kernel_rfl) (by kernel_rfl), fun w B args hG hl hr => by
    match args, hl with
    | [v, u], _ =>
      obtain ⟨A, c, rs, rfl, hm, hP⟩ := prog_of (hr 0 _ v rfl rfl) hx
      obtain ⟨A', c', rs', rfl, hm', hP'⟩ := prog_of (hr 1 _ u rfl rfl) hy
      subst hm hm'
      rw [sameP_map]
      exact (Same_any A A' c c' rs rs' w hP hP' (by simpa using nx) (by simpa using ny)).mono fun e w' ⟨h1, h2⟩ => ⟨h2, by rw [h1]; exact .ret (.v _)⟩⟩
/-- a small well-formed program can be written -/
theorem flat_le {α : Type} {enc : α → List UInt8} {b : Nat} : ∀ (xs : List α), (∀ x ∈ xs, (enc x).length ≤ b) → (xs.flatMap enc).length ≤ b * xs.length
  | [], _ => Nat.zero_le _
  | x :: xs, h => by
    have h1 := h x (List.mem_cons_self ..)
    have h2 := flat_le xs fun y hy => h y (List.mem_cons_of_mem _ hy)
    simp only [List.flatMap_cons, List.length_append, List.length_cons, Nat.mul_succ]
    omega
theorem fewFn_len {f : Fn} (h : fewFn f = true) : (fnB f).length ≤ 20000 ∧ f.name.size ≤ 40 ∧ f.code.length ≤ 80 ∧ f.consts.length ≤ 20 ∧ f.hdls.length ≤ 10 ∧ ∀ c ∈ f.consts, c.str.size ≤ 60 := by
  unfold fewFn fewC at h
  simp only [Bool.and_eq_true, decide_eq_true_eq, List.all_eq_true] at h
  obtain ⟨h1, h2, h3, h4, h5⟩ := h
  have g1 := flat_le (enc := insB) (b := 30) f.code fun x _ => by
    have := zb_len x.op
    have := zb_len x.a
    have := zb_len x.b
    simp only [insB, List.length_append]
    omega
  have g2 := flat_le (enc := cstB) (b := 80) f.consts fun x hx => by
    have h6 := h5 x hx
    have := zb_len x.kind
    have := zb_len x.int
    have h8 := natB_10 (n := x.str.size) (by omega)
    unfold cstB
    rw [List.length_append]
    split
    · simp only [strB, List.length_append, ba_len]
      omega
    · omega
  have g3 := flat_le (enc := hdlB) (b := 50) f.hdls fun x _ => by
    have := zb_len x.lo
    have := zb_len x.hi
    have := zb_len x.tg
    have := zb_len x.dp
    have := zb_len x.sc
    simp only [hdlB, List.length_append]
    omega
  have k1 := zb_len f.kind
  have k2 := zb_len f.params
  have k3 := zb_len f.locals
  have s1 := natB_10 (n := f.name.size) (by omega)
  have s2 := natB_10 (n := f.code.length) (by omega)
  have s3 := natB_10 (n := f.consts.length) (by omega)
  have s4 := natB_10 (n := f.hdls.length) (by omega)
  refine ⟨?_, h1, h2, h3, h4, h5⟩
  simp only [fnB, strB, List.length_append, ba_len]
  omega
theorem few_en {fs : List Fn} {n : Int} (h : fewP fs n = true) (hn : n ≤ 100) : EnSz fs := by
  unfold fewP at h
  simp only [Bool.and_eq_true, decide_eq_true_eq, List.all_eq_true] at h
  obtain ⟨h1, h2⟩ := h
  refine ⟨?_, by omega, fun f hf => by have := fewFn_len (h2 f hf); omega, fun f hf => by have := fewFn_len (h2 f hf); omega, fun f hf => by have := fewFn_len (h2 f hf); omega, fun f hf => by have := fewFn_len (h2 f hf); omega, fun f hf c hc => by have := (fewFn_len (h2 f hf)).2.2.2.2.2 c hc; omega⟩
  have g := flat_le (enc := fnB) (b := 20000) fs fun f hf => (fewFn_len (h2 f hf)).1
  have s := natB_10 (n := fs.length) (by omega)
  unfold progBy
  rw [List.length_append]
  omega
end Go.Proofs.YtlffpgjkhehdmaaDoor
