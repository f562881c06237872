/- Own work: what is read from the bytes of a well-formed program, plain. -/
import Derived.Test.YtlffpgjkhehdmaaDoorZCQ
import Derived.Test.YtlffpgjkhehdmaaDoorZRD4
import Derived.Test.YtlffpgjkhehdmaaDoorZCS
namespace Go.Proofs.YtlffpgjkhehdmaaDoor
open Go.RowKit
set_option maxRecDepth 100000
set_option linter.unusedSimpArgs false

theorem kindAt_norm (cs : List Cst) (a : Int) : kindAt (cs.map cstN) a = kindAt cs a := by
  unfold kindAt
  rw [List.getElem?_map]
  cases cs[a.toNat]? with
  | none => rfl
  | some c =>
    simp only [Option.map_some, Option.getD_some]
    unfold cstN
    split <;> rfl
theorem argOk_norm (f : Fn) (n k a b : Int) : argOk (fnN f) n k a b = argOk f n k a b := by
  unfold argOk fnN
  simp only [List.length_map, kindAt_norm]
theorem formed_norm {f : Fn} {n : Int} (h : formedB f n = true) : formedB (fnN f) n = true := by
  unfold formedB headB sizeB partsB at h ⊢
  simp only [Bool.and_eq_true, List.all_eq_true] at h ⊢
  obtain ⟨h1, h2, h3, h4, h5⟩ := h
  refine ⟨h1, ?_, ?_, fun x hx => ?_, fun x hx => h5 x hx⟩
  · unfold fnN
    simp only [List.length_map]
    exact h2
  · intro c hc
    unfold fnN at hc
    simp only at hc
    obtain ⟨c0, hc0, rfl⟩ := List.mem_map.1 hc
    have h6 := h3 c0 hc0
    unfold cstOk at h6 ⊢
    unfold cstN
    by_cases hk : c0.kind = 2
    · rw [if_pos hk]
      simpa [hk] using h6
    · rw [if_neg hk]
      simp only [hk, decide_false, Bool.false_and, Bool.or_false] at h6 ⊢
      exact h6
  · have h6 := h4 x hx
    unfold fitsB at h6 ⊢
    rw [argOk_norm]
    exact h6
theorem progF_norm {fs : List Fn} (h : progF fs = true) : progF (fs.map fnN) = true := by
  unfold progF at h ⊢
  simp only [Bool.and_eq_true, List.all_eq_true, List.length_map] at h ⊢
  refine ⟨fun f hf => ?_, h.2⟩
  obtain ⟨g, hg, rfl⟩ := List.mem_map.1 hf
  exact formed_norm (h.1 g hg)
theorem formed_kind {f : Fn} {n : Int} (h : formedB f n = true) : ∀ c ∈ f.consts, c.kind = 1 ∨ (c.kind = 2 ∧ c.str.size ≤ 1048576) := by
  unfold formedB partsB at h
  simp only [Bool.and_eq_true, List.all_eq_true] at h
  intro c hc
  have h6 := h.2.2.1 c hc
  unfold cstOk at h6
  simp only [Bool.or_eq_true, Bool.and_eq_true, decide_eq_true_eq] at h6
  rcases h6 with h6 | h6
  · exact .inl h6
  · exact .inr ⟨h6.1, h6.2.1⟩
theorem all2_map_r {α : Type} {p : α → α → Bool} {g : α → α} : ∀ (xs : List α), (∀ x ∈ xs, p x (g x) = true) → all2 p xs (xs.map g) = true
  | [], _ => rfl
  | x :: xs, h => by
    have := all2_map_r (p := p) (g := g) xs fun y hy => h y (List.mem_cons_of_mem _ hy)
    unfold all2 at this ⊢
    simp only [List.map_cons, List.zip_cons_cons, List.all_cons, h x (List.mem_cons_self ..), this, Bool.and_self]
theorem listEq_map {α : Type} {p : α → α → Bool} {g : α → α} (xs : List α) (h : ∀ x ∈ xs, p x (g x) = true) : listEq p xs (xs.map g) = true := by
  unfold listEq
  rw [all2_map_r xs h, List.length_map, Bool.and_true]
  exact decide_eq_true rfl
theorem insEq_rf (x : Ins) : insEq x x = true := by simp [insEq]
theorem hdlEq_rf (x : Hdl) : hdlEq x x = true := by simp [hdlEq]
theorem same_norm {fs : List Fn} (h : progF fs = true) : sameP fs (fs.map fnN) = true := by
  refine listEq_map fs fun f hf => ?_
  unfold progF at h
  simp only [Bool.and_eq_true, List.all_eq_true] at h
  have hk := formed_kind (h.1 f hf)
  have h1 : all2 cstSame f.consts (f.consts.map cstN) = true := all2_map_r _ fun c hc => by
    unfold cstSame cstN
    rcases hk c hc with h1 | h1
    · rw [if_neg (by omega)]
      simp [h1]
    · rw [if_pos h1.1]
      simp [h1.1]
  unfold fnSame headSame bodySame fnN
  simp [h1, all2_refl insEq_rf, all2_refl hdlEq_rf]
def IntsI (f : Fn) : Prop := ∀ c ∈ f.consts, I64R c.int
theorem fnR_of {f : Fn} {n : Int} (h : formedB f n = true) (hn : n ≤ 4096) (hi : IntsI f) (hs : ∀ c ∈ f.consts, c.str.size ≤ 1000000) (hnm : f.name.size ≤ 1000000) : FnR f := by
  have hk := formed_kind h
  unfold formedB headB sizeB partsB betw at h
  simp only [Bool.and_eq_true, List.all_eq_true, decide_eq_true_eq] at h
  obtain ⟨⟨_, _, hkd, hpa, hloc⟩, ⟨h1, h2, h3⟩, h4, h5, h6⟩ := h
  refine ⟨⟨by omega, by unfold I64R; omega, by unfold I64R; omega, by unfold I64R; omega, by omega, by omega, by omega, fun x hx => ?_, fun c hc => ?_, fun x hx => ?_⟩, hnm, hs, fun c hc => (hk c hc).imp id fun h => h.1⟩
  · have hx := h5 x hx
    unfold fitsB argOk betw at hx
    simp only [Bool.and_eq_true, Bool.or_eq_true, decide_eq_true_eq] at hx
    obtain ⟨⟨ho, hb⟩, ha⟩ := hx
    have key : (0 ≤ x.a ∧ x.a ≤ 100000) ∧ (0 ≤ x.b ∧ x.b ≤ 100000) := by
      generalize operandOf x.op = k at ha hb
      repeat' split at ha
      all_goals simp only [Bool.and_eq_true, decide_eq_true_eq, beq_iff_eq] at ha
      all_goals omega
    exact ⟨by unfold I64R; omega, by unfold I64R; omega, by unfold I64R; omega⟩
  · exact ⟨by rcases hk c hc with h | h <;> (unfold I64R; omega), hi c hc, by have := hs c hc; omega⟩
  · have hx := h6 x hx
    unfold hdlOk betw at hx
    simp only [Bool.and_eq_true, decide_eq_true_eq] at hx
    exact ⟨by unfold I64R; omega, by unfold I64R; omega, by unfold I64R; omega, by unfold I64R; omega, by unfold I64R; omega⟩
theorem norm_sz {fs : List Fn} (h : ∀ f ∈ fs, FnSz f) : ∀ f ∈ fs.map fnN, FnSz f := by
  intro f hf
  obtain ⟨g, hg, rfl⟩ := List.mem_map.1 hf
  have hz := h g hg
  refine ⟨hz.nm, hz.l1, by unfold fnN; simp only [List.length_map]; exact hz.l2, hz.l3, fun c hc => ?_⟩
  unfold fnN at hc
  simp only at hc
  obtain ⟨c0, hc0, rfl⟩ := List.mem_map.1 hc
  unfold cstN
  split
  · exact hz.cs c0 hc0
  · exact Nat.zero_le _
/-- a program that was written is read -/
theorem dec_enc {fs : List Fn} (h : progF fs = true) (hR : ∀ f ∈ fs, FnR f) (hn : fs.length ≤ 4096) : pDec (ofL (progBy fs)) = .tup [pProg (fs.map fnN), pI 0] := by
  have hp := prog_comp (fun f hf => (hR f hf).i) hn
  unfold pDec decOk
  rw [hp]
  simp only
  unfold rDone
  rw [if_pos rfl, if_pos rfl, progF_norm h]
  rfl
/-- what is read has integers of the language -/
theorem unzz_rng (u : Nat) : I64R (unzz u) := by
  unfold unzz
  show -9223372036854775808 ≤ IntKind.i64.wrap _ ∧ IntKind.i64.wrap _ < 9223372036854775808
  rw [wrap_i64_eq]
  omega
structure CstD (c : Cst) : Prop where
  i : I64R c.int
  z : c.kind = 2 → c.int = 0
  e : c.kind ≠ 2 → c.str = ⟨#[]⟩
theorem rCst_d (d : ByteArray) (st : RS) : CstD (rCst d st).1 := by
  unfold rCst
  split
  · rename_i h
    exact ⟨by unfold I64R; simp only; omega, fun _ => rfl, fun h2 => absurd h h2⟩
  · rename_i h
    exact ⟨unzz_rng _, fun h2 => absurd h2 h, fun _ => rfl⟩
theorem rProg_d (d : ByteArray) : ∀ f ∈ (rProg d).1, ∀ c ∈ f.consts, CstD c :=
  rLoop_mem (q := fun f : Fn => ∀ c ∈ f.consts, CstD c) (fun st => by
    unfold rFn
    exact rLoop_mem (rCst_d d) _ _) _ _
theorem rProg_str (d : ByteArray) : ∀ f ∈ (rProg d).1, f.name.size ≤ d.size ∧ ∀ c ∈ f.consts, c.str.size ≤ d.size :=
  rLoop_mem (q := fun f : Fn => f.name.size ≤ d.size ∧ ∀ c ∈ f.consts, c.str.size ≤ d.size) (fun st => by
    unfold rFn
    refine ⟨rStr_sz d st, rLoop_mem (q := fun c : Cst => c.str.size ≤ d.size) (fun st => ?_) _ _⟩
    unfold rCst
    split
    · exact rStr_sz d _
    · exact Nat.zero_le _) _ _
/-- a program that is read -/
theorem dec_ok {d : ByteArray} (h : decOk d = true) (hd : d.size ≤ 1000000) : progF (rProg d).1 = true ∧ ofL (progBy (rProg d).1) = d ∧ (progBy (rProg d).1).length ≤ 1000000 ∧ ∀ f ∈ (rProg d).1, FnR f := by
  unfold decOk at h
  rw [Bool.and_eq_true, decide_eq_true_eq] at h
  obtain ⟨h1, h2⟩ := h
  have h3 := prog_sound h1
  refine ⟨h2, by rw [h3]; rfl, by rw [h3]; exact hd, fun f hf => ?_⟩
  have h4 := h2
  unfold progF at h4
  simp only [Bool.and_eq_true, List.all_eq_true, decide_eq_true_eq] at h4
  obtain ⟨h5, h6⟩ := rProg_str d f hf
  exact fnR_of (h4.1 f hf) (by omega) (fun c hc => (rProg_d d f hf c hc).i) (fun c hc => by have := h6 c hc; omega) (by omega)
end Go.Proofs.YtlffpgjkhehdmaaDoor
