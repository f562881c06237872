/- Own work: a rule for a region that draws its order, with a relation that is kept by each operation, whatever the order, but for a tail whose order is forced. -/
import Derived.Test.YtlffpgjkhehdmaaDoorRg
namespace Go.Proofs.YtlffpgjkhehdmaaDoor
open Go.RowKit

section
variable {P : Program} {ops : Array Oper} {Q : Exit → Act → World → Prop}

theorem wpAny_inv (J : Array Bool → Act → World → Prop) (k r : Nat) (hB : rgB ops k r = true) (hk : k ≤ ops.size)
    (hstep : ∀ (listed : Array Bool) (a : Act) (w : World) (i : Nat) (o : Oper), J listed a w → listed.size = ops.size → (∀ d ∈ depsOf ops i, listed.getD d false = true) → ops[i]? = some o → i < k → listed.getD i false = false →
      (if Region.wanted o (yieldedE ops a.eval) then growUpon P (fun v w' => J (listed.setIfInBounds i true) (a.put o.dst v) w') ((execOp a.eval o).run P w) else J (listed.setIfInBounds i true) (a.put o.dst undef) w))
    (hend : ∀ (listed : Array Bool) (a : Act) (w : World), J listed a w → (∀ i, i < k → listed.getD i false = true) → wpList P ops Q (ops.toList.drop k) a w) :
    ∀ (m : Nat) (listed : Array Bool) (a : Act) (w : World), J listed a w → listed.size = ops.size → (∀ i, listed.getD i false = true → ∀ d ∈ depsOf ops i, listed.getD d false = true) → (∀ i, k ≤ i → listed.getD i false = false) →
      ((List.range k).filter fun i => !listed.getD i false).length = m → wpAny P .any ops Q (m + (ops.size - k)) listed a w := by
  simp only [rgB, Bool.and_eq_true, List.all_eq_true, List.mem_range, decide_eq_true_eq, Bool.or_eq_true, List.contains_iff_mem] at hB
  obtain ⟨⟨hB1, hB2⟩, hB3⟩ := hB
  have hback : ∀ i d, d ∈ depsOf ops i → d < i := fun i d hd => by
    rcases Nat.lt_or_ge i ops.size with h | h
    · exact hB1 i h d hd
    · simp [depsOf, Array.getElem?_eq_none h] at hd
  have htail : ∀ j, k ≤ j → j < ops.size → ∀ i, i < j → i ∈ closure ops r (depsOf ops j) := fun j hkj hj i hi => by
    rcases hB2 j hj with h | h
    · omega
    · exact h i hi
  intro m
  induction m with
  | zero =>
    intro listed a w hJ hls hcl hu hm
    have hall : ∀ i, i < k → listed.getD i false = true := fun i hi => by
      have h0 := List.eq_nil_of_length_eq_zero hm
      have := List.eq_nil_iff_forall_not_mem.1 h0 i
      simp only [List.mem_filter, List.mem_range, not_and, Bool.not_eq_true', Bool.not_eq_false] at this
      exact this hi
    exact wpAny_tail hback r k htail (ops.size - k) k listed a w (Nat.le_refl _) (by omega) hls hall (fun i h1 _ => hu i h1) hcl (hend listed a w hJ hall) _ (by omega)
  | succ m ih =>
    intro listed a w hJ hls hcl hu hm
    obtain ⟨i0, hi0, hun0⟩ : ∃ i, i < k ∧ listed.getD i false = false := by
      cases hf : (List.range k).filter fun i => !listed.getD i false with
      | nil => rw [hf] at hm; simp at hm
      | cons x xs =>
        have hx : x ∈ (List.range k).filter fun i => !listed.getD i false := by rw [hf]; simp
        simp only [List.mem_filter, List.mem_range, Bool.not_eq_true'] at hx
        exact ⟨x, hx.1, hx.2⟩
    have hfu : m + 1 + (ops.size - k) = (m + (ops.size - k)) + 1 := by omega
    rw [hfu]
    refine ⟨fun h0 => ?_, fun i hi => ?_⟩
    · obtain ⟨i, _, hi⟩ := ready_exists hback hls i0 i0 (Nat.le_refl _) (by omega) hun0
      rw [h0] at hi
      cases hi
    · obtain ⟨hun, o, ho, _⟩ := mem_ready.1 hi
      have hilt := (Array.getElem?_eq_some_iff.1 ho).1
      obtain ⟨hunf, hil⟩ := getD_true_false hun
      have hik : i < k := by
        rcases Nat.lt_or_ge i k with h | h
        · exact h
        · have := closure_listed hcl r _ (depsOf_ready hi) i0 (htail i h hilt i0 (by omega))
          rw [hun0] at this
          cases this
      have hs := hstep listed a w i o hJ hls (depsOf_ready hi) ho hik hunf
      have hcount : ((List.range k).filter fun x => !(listed.setIfInBounds i true).getD x false).length = m := by
        have h1 : ((List.range k).filter fun x => !(listed.setIfInBounds i true).getD x false) = ((List.range k).filter fun x => !listed.getD x false).erase i := by
          have hnd : ((List.range k).filter fun x => !listed.getD x false).Nodup := List.Pairwise.filter _ List.nodup_range
          rw [List.Nodup.erase_eq_filter hnd, List.filter_filter]
          refine List.filter_congr fun x _ => ?_
          by_cases hxi : i = x
          · subst hxi
            rw [getD_set_self hil]
            simp
          · rw [getD_set_ne false hxi]
            have : (x != i) = true := by simp; omega
            rw [this, Bool.true_and]
        rw [h1, List.length_erase_of_mem]
        · omega
        · simp only [List.mem_filter, List.mem_range, Bool.not_eq_true']
          exact ⟨hik, hunf⟩
      have hu' : ∀ x, k ≤ x → (listed.setIfInBounds i true).getD x false = false := fun x hx => by
        rw [getD_set_ne false (by omega)]; exact hu x hx
      have hcl' : ∀ x, (listed.setIfInBounds i true).getD x false = true → ∀ d ∈ depsOf ops x, (listed.setIfInBounds i true).getD d false = true := fun x hx d hd => by
        by_cases hxi : i = x
        · subst hxi; exact getD_set_true (depsOf_ready hi d hd)
        · rw [getD_set_ne false hxi] at hx; exact getD_set_true (hcl x hx d hd)
      unfold wpOp
      simp only [ho]
      rw [yielded_eval]
      split
      · rename_i hw
        rw [if_pos hw] at hs
        exact .inl (wp_of_grow hs fun v w' hv => ih _ _ _ hv (by simpa using hls) hcl' hu' hcount)
      · rename_i hw
        rw [if_neg hw] at hs
        exact ih _ _ _ hs (by simpa using hls) hcl' hu' hcount

theorem wp_region_inv {id : Nat} {l : List Oper} {a : Act} {w : World} (k r : Nat) (J : Array Bool → Act → World → Prop)
    (hm : P.follows .mixedOrders = true) (hB : rgB l.toArray k r = true) (hk : k ≤ l.length) (h0 : J (Array.replicate l.length false) a w.drew)
    (hstep : ∀ (listed : Array Bool) (a : Act) (w : World) (i : Nat) (o : Oper), J listed a w → listed.size = l.length → (∀ d ∈ depsOf l.toArray i, listed.getD d false = true) → l[i]? = some o → i < k → listed.getD i false = false →
      (if Region.wanted o (yieldedE l.toArray a.eval) then growUpon P (fun v w' => J (listed.setIfInBounds i true) (a.put o.dst v) w') ((execOp a.eval o).run P w) else J (listed.setIfInBounds i true) (a.put o.dst undef) w))
    (hend : ∀ (listed : Array Bool) (a : Act) (w : World), J listed a w → (∀ i, i < k → listed.getD i false = true) → wpList P l.toArray Q (l.drop k) a w) :
    (Code.region id l.toArray true).wp P Q a w := by
  refine wp_region_any hm ?_
  have hnot : ∀ n i, (Array.replicate n false).getD i false = false := fun n i => by
    by_cases h : i < n <;> simp [h]
  have hsz : l.toArray.size = k + (l.toArray.size - k) := by simp; omega
  have hsz2 : l.toArray.size = l.length := by simp
  have hall := wpAny_inv (P := P) (ops := l.toArray) (Q := Q) J k r hB (by simpa using hk) (fun listed a w i o hJ hls hd ho hik hun => hstep listed a w i o hJ (by simpa using hls) hd (by simpa using ho) hik hun) (fun listed a w hJ hl => by simpa using hend listed a w hJ hl)
    k (Array.replicate l.length false) a w.drew h0 (by simp) (fun i h => by rw [hnot] at h; cases h) (fun i _ => hnot _ i) (by
      have : ((List.range k).filter fun i => !(Array.replicate l.length false).getD i false) = List.range k := by
        rw [List.filter_eq_self]
        intro i _
        rw [hnot]; rfl
      rw [this]; simp)
  rw [hsz2] at hsz ⊢
  rw [hsz2] at hall
  rw [← hsz] at hall
  exact hall
end
end Go.Proofs.YtlffpgjkhehdmaaDoor
