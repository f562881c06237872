/- Own work: values, additions and a return: which of these functions are safe, and how deep they are. -/
import Derived.Test.YtlffpgjkhehdmaaDoorZVC
namespace Go.Proofs.YtlffpgjkhehdmaaDoor
open Go.RowKit
set_option maxRecDepth 100000

def lnCode (k m : Nat) : List Ins := List.replicate k ⟨2, 0, 0⟩ ++ List.replicate m ⟨39, 6, 0⟩ ++ [⟨48, 0, 0⟩]
def lnFn (k m : Nat) : Fn := ⟨ByteArray.empty, 1, 0, 0, lnCode k m, [], []⟩
theorem lnCode_len (k m : Nat) : (lnCode k m).length = k + m + 1 := by simp [lnCode]; omega
theorem lnCode_at (k m i : Nat) (h : i < k + m + 1) : (lnCode k m)[i]? = some (if i < k then ⟨2, 0, 0⟩ else if i < k + m then ⟨39, 6, 0⟩ else ⟨48, 0, 0⟩) := by
  unfold lnCode
  by_cases h1 : i < k
  · rw [if_pos h1, List.getElem?_append_left (by simp; omega), List.getElem?_append_left (by simpa using h1), List.getElem?_replicate, if_pos h1]
  · rw [if_neg h1]
    by_cases h2 : i < k + m
    · rw [if_pos h2, List.getElem?_append_left (by simp; omega), List.getElem?_append_right (by simp; omega), List.getElem?_replicate, if_pos (by simp; omega)]
    · rw [if_neg h2, List.getElem?_append_right (by simp; omega)]
      have : i - (List.replicate k (⟨2, 0, 0⟩ : Ins) ++ List.replicate m (⟨39, 6, 0⟩ : Ins)).length = 0 := by simp; omega
      rw [this]
      rfl
theorem lnCode_mem {k m : Nat} {x : Ins} (h : x ∈ lnCode k m) : x = ⟨2, 0, 0⟩ ∨ x = ⟨39, 6, 0⟩ ∨ x = ⟨48, 0, 0⟩ := by
  unfold lnCode at h
  simp only [List.mem_append, List.mem_replicate, List.mem_singleton] at h
  rcases h with (⟨_, h⟩ | ⟨_, h⟩) | h
  · exact .inl h
  · exact .inr (.inl h)
  · exact .inr (.inr h)
theorem ln_valid : validB ByteArray.empty = true := by kernel_rfl
theorem ln_fits (f : Fn) (n : Int) : fitsB f n ⟨2, 0, 0⟩ = true ∧ fitsB f n ⟨39, 6, 0⟩ = true ∧ fitsB f n ⟨48, 0, 0⟩ = true := ⟨rfl, rfl, rfl⟩
theorem ln_formed (k m : Nat) (h : k + m ≤ 60000) : progF [lnFn k m] = true := by
  have h1 : headB (lnFn k m) = true := by
    unfold headB
    rw [show (lnFn k m).name = ByteArray.empty from rfl, ln_valid]
    rfl
  have h2 : sizeB (lnFn k m) = true := by
    unfold sizeB betw
    have e : (lnFn k m).code.length = k + m + 1 := lnCode_len k m
    rw [e]
    simp only [Bool.and_eq_true, decide_eq_true_eq]
    exact ⟨⟨by omega, by omega⟩, by show (0 : Nat) ≤ _; omega, by show (0 : Nat) ≤ _; omega⟩
  have h3 : partsB (lnFn k m) 1 = true := by
    unfold partsB
    simp only [Bool.and_eq_true]
    refine ⟨rfl, List.all_eq_true.2 fun x hx => ?_, rfl⟩
    rcases lnCode_mem hx with rfl | rfl | rfl
    · rfl
    · rfl
    · rfl
  unfold progF formedB
  simp only [List.all_cons, List.all_nil, Bool.and_true, List.length_singleton, Bool.and_eq_true]
  exact ⟨⟨h1, h2, h3⟩, rfl⟩
def lnDep (k : Nat) (i : Int) : Int := if i ≤ k then i else 2 * k - i
theorem ln_next {k m : Nat} {i : Int} {p : Shp} {j : Int} {q : Shp} (hi : 0 ≤ i) (hi2 : i ≤ k + m) (h : NextP (lnFn k m) i p j q) : i < k + m ∧ j = i + 1 ∧ q = (if i < k then p.1 + 1 else p.1 - 1, p.2) := by
  obtain ⟨x, hx, h⟩ := h
  have hx' : (lnCode k m)[i.toNat]? = some x := hx
  rw [lnCode_at k m i.toNat (by omega)] at hx'
  rcases h with ⟨y, hy, _⟩ | ⟨he, rfl, sc, hsc, rfl⟩ | ⟨h7, _⟩
  · simp [lnFn] at hy
  · by_cases h1 : i.toNat < k
    · rw [if_pos h1] at hx'
      cases hx'
      refine ⟨by omega, rfl, ?_⟩
      rw [if_pos (by omega)]
      have : scopeP 2 p.2 = some p.2 := rfl
      rw [this] at hsc
      cases hsc
      have e1 : takesP 2 0 = 0 := rfl
      have e2 : pushesOf 2 = 1 := rfl
      simp only [e1, e2]
      congr 1
      omega
    · rw [if_neg h1] at hx'
      by_cases h2 : i.toNat < k + m
      · rw [if_pos h2] at hx'
        cases hx'
        refine ⟨by omega, rfl, ?_⟩
        rw [if_neg (by omega)]
        have : scopeP 39 p.2 = some p.2 := rfl
        rw [this] at hsc
        cases hsc
        have e1 : takesP 39 6 = 2 := rfl
        have e2 : pushesOf 39 = 1 := rfl
        simp only [e1, e2]
        congr 1
        omega
      · rw [if_neg h2] at hx'
        cases hx'
        cases he
  · split at hx'
    · cases hx'
      cases h7
    · split at hx' <;> cases hx' <;> cases h7
theorem ln_rch {k m : Nat} {i : Int} {p : Shp} (h : Rch (lnFn k m) i p) : (0 ≤ i ∧ i ≤ k + m) ∧ p = (lnDep k i, 0) := by
  induction h with
  | start => exact ⟨⟨by omega, by omega⟩, by unfold lnDep; rw [if_pos (by omega)]⟩
  | step h1 h2 ih =>
    obtain ⟨⟨a1, a2⟩, rfl⟩ := ih
    obtain ⟨b1, rfl, rfl⟩ := ln_next a1 a2 h2
    refine ⟨⟨by omega, by omega⟩, ?_⟩
    unfold lnDep
    simp only
    congr 1
    split <;> split <;> split <;> omega
theorem ln_got {k m : Nat} : ∀ (i : Nat), i ≤ k + m → Rch (lnFn k m) i (lnDep k i, 0)
  | 0, _ => by
    have : lnDep k (0 : Nat) = 0 := by unfold lnDep; rw [if_pos (by omega)]; rfl
    rw [this]
    exact .start
  | i + 1, h => by
    refine Rch.step (ln_got i (by omega)) ?_
    have hx : (lnFn k m).code[((i : Nat) : Int).toNat]? = some _ := lnCode_at k m i (by omega)
    refine ⟨_, hx, .inr (.inl ?_)⟩
    by_cases h1 : i < k
    · rw [if_pos h1]
      refine ⟨rfl, by omega, 0, rfl, ?_⟩
      have e1 : takesP 2 0 = 0 := rfl
      have e2 : pushesOf 2 = 1 := rfl
      simp only [e1, e2]
      congr 1
      unfold lnDep
      rw [if_pos (by omega), if_pos (by omega)]
      omega
    · rw [if_neg h1, if_pos (by omega)]
      refine ⟨rfl, by omega, 0, rfl, ?_⟩
      have e1 : takesP 39 6 = 2 := rfl
      have e2 : pushesOf 39 = 1 := rfl
      simp only [e1, e2]
      congr 1
      unfold lnDep
      split <;> split <;> omega
theorem ln_safe (k : Nat) (h0 : 1 ≤ k) (h1 : k ≤ 1000) : SafeF (lnFn k (k - 1)) := by
  refine ⟨List.all_eq_true.2 fun x hx => ?_, fun i p hr => ?_, fun i p hr => ?_, fun i p q hp hq => by rw [(ln_rch hp).2, (ln_rch hq).2]⟩
  · rcases lnCode_mem hx with rfl | rfl | rfl <;> rfl
  · obtain ⟨⟨a1, a2⟩, rfl⟩ := ln_rch hr
    have hl : (lnFn k (k - 1)).code.length = k + (k - 1) + 1 := lnCode_len _ _
    rw [hl]
    refine ⟨⟨a1, by omega⟩, ?_, by simp⟩
    unfold lnDep
    simp only
    split <;> omega
  · obtain ⟨⟨a1, a2⟩, rfl⟩ := ln_rch hr
    have hx : (lnFn k (k - 1)).code[i.toNat]? = some _ := lnCode_at k (k - 1) i.toNat (by omega)
    refine ⟨_, hx, ?_, ?_, fun h hh => by simp [lnFn] at hh⟩
    · by_cases c1 : i.toNat < k
      · rw [if_pos c1]
        refine ⟨?_, .inl (by decide)⟩
        have e1 : takesP 2 0 = 0 := rfl
        simp only [e1]
        unfold lnDep
        split <;> omega
      · rw [if_neg c1]
        by_cases c2 : i.toNat < k + (k - 1)
        · rw [if_pos c2]
          refine ⟨?_, .inl (by decide)⟩
          have e1 : takesP 39 6 = 2 := rfl
          simp only [e1]
          unfold lnDep
          split <;> omega
        · rw [if_neg c2]
          refine ⟨?_, .inl (by decide)⟩
          have e1 : takesP 48 0 = 1 := rfl
          simp only [e1]
          unfold lnDep
          split <;> omega
    · by_cases c1 : i.toNat < k
      · rw [if_pos c1]; exact ⟨0, rfl⟩
      · rw [if_neg c1]
        by_cases c2 : i.toNat < k + (k - 1)
        · rw [if_pos c2]; exact ⟨0, rfl⟩
        · rw [if_neg c2]; exact ⟨0, rfl⟩
theorem ln_unsafe (k : Nat) (h0 : 1 ≤ k) : ¬ SafeF (lnFn k k) := by
  intro hs
  have hr := ln_got (k := k) (m := k) (2 * k - 1) (by omega)
  obtain ⟨x, hx, ⟨ht, _⟩, _⟩ := hs.free _ _ hr
  have hx' : (lnCode k k)[(((2 * k - 1 : Nat) : Int)).toNat]? = some x := hx
  rw [show (((2 * k - 1 : Nat) : Int)).toNat = 2 * k - 1 by omega, lnCode_at k k _ (by omega), if_neg (by omega), if_pos (by omega)] at hx'
  cases hx'
  have e1 : takesP 39 6 = 2 := rfl
  simp only [e1] at ht
  unfold lnDep at ht
  split at ht <;> omega
theorem deep_ge : ∀ (l : List Shp) (m : Int), m ≤ l.foldl (fun m s => if m < s.1 then s.1 else m) m ∧ ∀ s ∈ l, s.1 ≤ l.foldl (fun m s => if m < s.1 then s.1 else m) m
  | [], m => ⟨Int.le_refl _, fun s hs => by simp at hs⟩
  | x :: l, m => by
    simp only [List.foldl_cons]
    have h := deep_ge l (if m < x.1 then x.1 else m)
    refine ⟨Int.le_trans ?_ h.1, fun s hs => ?_⟩
    · split <;> omega
    · rcases List.mem_cons.1 hs with rfl | hs
      · refine Int.le_trans ?_ h.1
        split <;> omega
      · exact h.2 s hs
theorem deep_le : ∀ (l : List Shp) (m b : Int), m ≤ b → (∀ s ∈ l, s.1 ≤ b) → l.foldl (fun m s => if m < s.1 then s.1 else m) m ≤ b
  | [], m, b, h, _ => h
  | x :: l, m, b, h, hl => by
    simp only [List.foldl_cons]
    refine deep_le l _ b ?_ fun s hs => hl s (by simp [hs])
    have := hl x (by simp)
    split <;> omega
/-- the answer of Deepest -/
theorem ln_deep (k : Nat) (h0 : 1 ≤ k) (h1 : k ≤ 1000) : pDR (shapesQ [lnFn k (k - 1)] 0) = .tup [pI k, pI 0] := by
  have hF := ln_formed k (k - 1) (by omega)
  have hv := progF_fnV hF (lnFn k (k - 1)) (by simp)
  have hs := ln_safe k h0 h1
  obtain ⟨l, hl⟩ : ∃ l, shapesP (lnFn k (k - 1)) = some l := by
    cases h : shapesP (lnFn k (k - 1)) with
    | none => exact absurd hs ((shapesP_spec hv).2 h)
    | some l => exact ⟨l, rfl⟩
  have ht := ((shapesP_spec hv).1 l hl).2
  have hq : shapesQ [lnFn k (k - 1)] 0 = .ok l := by
    unfold shapesQ
    rw [if_pos hF, if_pos (by simp)]
    rw [show ([lnFn k (k - 1)] : List Fn)[(0 : Int).toNat]? = some (lnFn k (k - 1)) from rfl, Option.bind_some, hl]
  rw [hq]
  have hlen : l.length = k + (k - 1) + 1 := ht.len.trans (lnCode_len _ _)
  have hat : ∀ (i : Nat) p, l[i]? = some p → p.1 ≤ k ∧ (i = k → p.1 = k) := fun i p hp => by
    have hil := (List.getElem?_eq_some_iff.1 hp).1
    rcases ht.at_ i p hp with h | ⟨_, h⟩
    · obtain ⟨_, rfl⟩ := ln_rch h
      unfold lnDep
      simp only
      refine ⟨?_, fun h => ?_⟩ <;> split <;> omega
    · exact absurd (ln_got i (by omega)) (h _)
  have hd : deepP l = k := by
    unfold deepP
    refine Int.le_antisymm (deep_le l 0 k (by omega) fun s hs => ?_) ?_
    · obtain ⟨i, hi⟩ := List.getElem?_of_mem hs
      exact (hat i s hi).1
    · obtain ⟨p, hp⟩ : ∃ p, l[k]? = some p := ⟨_, List.getElem?_eq_getElem (by omega)⟩
      rw [← (hat k p hp).2 rfl]
      exact (deep_ge l 0).2 p (List.mem_of_getElem? hp)
  simp only [pDR, hd]
theorem ln_deep1 (k : Nat) (h0 : 1 ≤ k) (h1 : k ≤ 1000) : pDR (shapesQ [lnFn k k] 0) = .tup [pI 0, pI 11] := by
  have hF := ln_formed k k (by omega)
  have hv := progF_fnV hF (lnFn k k) (by simp)
  have hl := shapesP_none hv (ln_unsafe k h0)
  have hq : shapesQ [lnFn k k] 0 = .error 11 := by
    unfold shapesQ
    rw [if_pos hF, if_pos (by simp)]
    rw [show ([lnFn k k] : List Fn)[(0 : Int).toNat]? = some (lnFn k k) from rfl, Option.bind_some, hl]
  rw [hq]
  rfl
theorem ln_sz (k m : Nat) (h : k + m ≤ 1000) : ∀ f ∈ [lnFn k m], FnSz f := by
  intro f hf
  obtain rfl : f = lnFn k m := by simpa using hf
  refine ⟨?_, ?_, ?_, ?_, fun c hc => ?_⟩
  · show (0 : Nat) ≤ _; omega
  · show (lnCode k m).length ≤ _; rw [lnCode_len]; omega
  · show (0 : Nat) ≤ _; omega
  · show (0 : Nat) ≤ _; omega
  · simp [lnFn] at hc
end Go.Proofs.YtlffpgjkhehdmaaDoor
