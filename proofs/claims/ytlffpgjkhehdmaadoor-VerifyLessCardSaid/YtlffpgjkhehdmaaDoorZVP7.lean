/- Own work: a safe function without one of its handlers is safe. -/
import Derived.Test.YtlffpgjkhehdmaaDoorZVC
namespace Go.Proofs.YtlffpgjkhehdmaaDoor
open Go.RowKit
set_option maxRecDepth 100000

/-- the same function with other handlers -/
def withH (f : Fn) (hs : List Hdl) : Fn := { f with hdls := hs }
section
variable {f : Fn} {hs : List Hdl} (hsub : ∀ h ∈ hs, h ∈ f.hdls)
include hsub
theorem less_mem {y : Hd} (h : y ∈ (withH f hs).hdls.map hdOf) : y ∈ f.hdls.map hdOf := by
  obtain ⟨x, hx, rfl⟩ := List.mem_map.1 h
  exact List.mem_map_of_mem (hsub x hx)
theorem less_next {i : Int} {p : Shp} {j : Int} {q : Shp} (h : NextP (withH f hs) i p j q) : NextP f i p j q := by
  obtain ⟨x, hx, h⟩ := h
  refine ⟨x, hx, ?_⟩
  rcases h with ⟨y, hy, h⟩ | h
  · exact .inl ⟨y, less_mem hsub hy, h⟩
  · exact .inr h
theorem less_rch {i : Int} {p : Shp} (h : Rch (withH f hs) i p) : Rch f i p := by
  induction h with
  | start => exact .start
  | step _ h2 ih => exact ih.step (less_next hsub h2)
theorem less_safe (h : SafeF f) : SafeF (withH f hs) := by
  refine ⟨h.kind, fun i p hr => h.fit i p (less_rch hsub hr), fun i p hr => ?_, fun i p q h1 h2 => h.one i p q (less_rch hsub h1) (less_rch hsub h2)⟩
  obtain ⟨x, hx, h1, h2, h3⟩ := h.free i p (less_rch hsub hr)
  exact ⟨x, hx, h1, h2, fun y hy hc => h3 y (less_mem hsub hy) hc⟩
theorem less_formed {n : Int} (hl : hs.length ≤ f.hdls.length) (h : formedB f n = true) : formedB (withH f hs) n = true := by
  unfold formedB partsB at h ⊢
  simp only [Bool.and_eq_true, List.all_eq_true] at h ⊢
  obtain ⟨h1, h2, h3, h4, h5⟩ := h
  refine ⟨h1, ?_, h3, h4, fun y hy => h5 y (hsub y hy)⟩
  unfold sizeB at h2 ⊢
  simp only [Bool.and_eq_true, decide_eq_true_eq] at h2 ⊢
  refine ⟨h2.1, h2.2.1, ?_⟩
  have : ((withH f hs).hdls.length : Int) ≤ (f.hdls.length : Int) := by
    show ((hs.length : Nat) : Int) ≤ _
    omega
  omega
omit hsub in
theorem less_sz (hl : hs.length ≤ f.hdls.length) (h : FnSz f) : FnSz (withH f hs) := ⟨h.nm, h.l1, h.l2, Nat.le_trans hl h.l3, h.cs⟩
end
theorem check_iff {fs : List Fn} : checkP fs = 0 ↔ progF fs = true ∧ ∀ f ∈ fs, SafeF f := by
  unfold checkP
  constructor
  · intro h
    split at h
    · rename_i hp
      refine ⟨hp, fun f hf => ?_⟩
      split at h
      · rename_i ha
        have := List.all_eq_true.1 ha f hf
        obtain ⟨l, hl⟩ := Option.isSome_iff_exists.1 this
        exact ((shapesP_spec (progF_fnV hp f hf)).1 l hl).1
      · cases h
    · cases h
  · rintro ⟨hp, hs⟩
    rw [if_pos hp, if_pos]
    refine List.all_eq_true.2 fun f hf => ?_
    cases hx : shapesP f with
    | none => exact absurd (hs f hf) ((shapesP_spec (progF_fnV hp f hf)).2 hx)
    | some l => rfl
theorem less_check {fs : List Fn} {k : Nat} {f : Fn} {hs : List Hdl} (hf : fs[k]? = some f) (hsub : ∀ h ∈ hs, h ∈ f.hdls) (hl : hs.length ≤ f.hdls.length) (h : checkP fs = 0) : checkP (fs.set k (withH f hs)) = 0 := by
  obtain ⟨hp, hs'⟩ := check_iff.1 h
  refine check_iff.2 ⟨?_, fun g hg => ?_⟩
  · unfold progF at hp ⊢
    simp only [Bool.and_eq_true, List.all_eq_true, List.length_set] at hp ⊢
    refine ⟨fun g hg => ?_, hp.2⟩
    rcases List.mem_or_eq_of_mem_set hg with hg | rfl
    · exact hp.1 g hg
    · exact less_formed hsub hl (hp.1 f (List.mem_of_getElem? hf))
  · rcases List.mem_or_eq_of_mem_set hg with hg | rfl
    · exact hs' g hg
    · exact less_safe hsub (hs' f (List.mem_of_getElem? hf))
end Go.Proofs.YtlffpgjkhehdmaaDoor
