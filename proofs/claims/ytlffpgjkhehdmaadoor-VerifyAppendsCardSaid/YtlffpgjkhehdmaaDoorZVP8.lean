/- Own work: appended programs: their shapes. -/
import Derived.Test.YtlffpgjkhehdmaaDoorZVC
import Derived.Test.YtlffpgjkhehdmaaDoorZGK
import Derived.Test.YtlffpgjkhehdmaaDoorZW3E
namespace Go.Proofs.YtlffpgjkhehdmaaDoor
open Go.RowKit
set_option maxRecDepth 100000
set_option linter.unusedSimpArgs false

theorem betw_iff {n a b : Int} : betw n a b = true ↔ a ≤ n ∧ n ≤ b := by simp [betw]
section
variable {f g : Fn} {n m M : Int} {x : Ins}
theorem fits_arg5 (h : fitsB f n x = true) (h5 : operandOf x.op = 5) : 0 ≤ x.a ∧ x.a ≤ n - 1 := by
  unfold fitsB at h
  rw [Bool.and_eq_true, h5] at h
  exact betw_iff.1 h.2
theorem fits_copy (h : fitsB f n x = true) (hM : 0 ≤ M) (hm : n + M ≤ m) (hm2 : m ≤ 1000000) (e1 : g.consts = f.consts) (e2 : g.locals = f.locals) (e3 : g.code.length = f.code.length) : fitsB g m (copyI M x) = true := by
  by_cases h5 : operandOf x.op = 5
  · have ha := fits_arg5 h h5
    have hc : copyI M x = { x with a := x.a + M } := by
      unfold copyI
      rw [if_pos h5, wrap_i64_in (by omega) (by omega)]
    rw [hc]
    unfold fitsB at h ⊢
    rw [Bool.and_eq_true] at h ⊢
    refine ⟨h.1, ?_⟩
    simp only [h5]
    exact betw_iff.2 ⟨by omega, by omega⟩
  · have hc : copyI M x = x := if_neg h5
    rw [hc]
    unfold fitsB at h ⊢
    rw [Bool.and_eq_true] at h ⊢
    refine ⟨h.1, ?_⟩
    have h2 := h.2
    unfold argOk at h2 ⊢
    rw [e1, e2, e3]
    rw [if_neg h5] at h2 ⊢
    exact h2
theorem formed_parts (h : formedB f n = true) : headB f = true ∧ sizeB f = true ∧ f.consts.all cstOk = true ∧ f.code.all (fitsB f n) = true ∧ f.hdls.all (hdlOk f.code.length) = true := by
  unfold formedB partsB at h
  simp only [Bool.and_eq_true] at h
  exact ⟨h.1, h.2.1, h.2.2.1, h.2.2.2.1, h.2.2.2.2⟩
theorem formed_copy (h : formedB f n = true) (hM : 0 ≤ M) (hm : n + M ≤ m) (hm2 : m ≤ 1000000) : formedB (copyF M f) m = true := by
  obtain ⟨h1, h2, h3, h4, h5⟩ := formed_parts h
  have hl : (copyF M f).code.length = f.code.length := List.length_map _
  unfold formedB partsB
  simp only [Bool.and_eq_true]
  refine ⟨h1, ?_, h3, ?_, ?_⟩
  · unfold sizeB at h2 ⊢
    rw [hl]
    exact h2
  · rw [List.all_eq_true] at h4 ⊢
    intro y hy
    obtain ⟨x, hx, rfl⟩ := List.mem_map.1 hy
    exact fits_copy (h4 x hx) hM hm hm2 rfl rfl hl
  · rw [hl]; exact h5
theorem copyF_zero (h : formedB f n = true) (hn : n ≤ 1000000) : copyF 0 f = f := by
  obtain ⟨_, _, _, h4, _⟩ := formed_parts h
  have : f.code.map (copyI 0) = f.code := by
    conv => rhs; rw [← List.map_id f.code]
    refine List.map_congr_left fun x hx => ?_
    unfold copyI
    split
    · rename_i h5
      have ha := fits_arg5 (List.all_eq_true.1 h4 x hx) h5
      rw [wrap_i64_in (by omega) (by omega), Int.add_zero]
      rfl
    · rfl
  unfold copyF
  rw [this]
theorem formed_mono (h : formedB f n = true) (hm : n ≤ m) (hm2 : m ≤ 1000000) : formedB f m = true := by
  have := formed_copy (M := 0) h (Int.le_refl _) (m := m) (by omega) hm2
  rwa [copyF_zero h (by omega)] at this
end
structure FnOk (f : Fn) : Prop where
  sm : FnSm f
  ne : 1 ≤ f.code.length
  ops : ∀ x ∈ f.code, 1 ≤ x.op ∧ x.op ≤ 53
section
variable {f g : Fn} {n m M : Int} {x : Ins}
theorem formed_ok (h : formedB f n = true) : FnOk f := by
  obtain ⟨_, h2, _, h4, _⟩ := formed_parts h
  unfold sizeB at h2
  simp only [Bool.and_eq_true, betw_iff, decide_eq_true_eq] at h2
  refine ⟨⟨by omega, by omega, by omega⟩, by omega, fun x hx => ?_⟩
  have := List.all_eq_true.1 h4 x hx
  unfold fitsB at this
  simp only [Bool.and_eq_true, decide_eq_true_eq] at this
  exact this.1.1
theorem sz_copy (h : FnSz f) : FnSz (copyF M f) := ⟨h.nm, by unfold copyF; simp; exact h.l1, h.l2, h.l3, h.cs⟩
end
/-- the list that Append gives -/
def appF (p q : List Fn) : List Fn := p.map (copyF 0) ++ q.map (copyF p.length)
theorem progF_iff {p : List Fn} (h : p.length ≤ 4096) : progF p = true ↔ ∀ f ∈ p, formedB f p.length = true := by
  unfold progF
  rw [Bool.and_eq_true, List.all_eq_true]
  exact ⟨fun h => h.1, fun h2 => ⟨h2, decide_eq_true (by omega)⟩⟩
section
variable {p q r : List Fn}
theorem app_len : (appF p q).length = p.length + q.length := by simp [appF]
theorem app_eq (hp : ∀ f ∈ p, formedB f p.length = true) (hl : p.length ≤ 4096) : appF p q = p ++ q.map (copyF p.length) := by
  unfold appF
  congr 1
  conv => rhs; rw [← List.map_id p]
  exact List.map_congr_left fun f hf => copyF_zero (hp f hf) (by omega)
theorem app_formed (hp : ∀ f ∈ p, formedB f p.length = true) (hq : ∀ f ∈ q, formedB f q.length = true) (hl : p.length + q.length ≤ 4096) : ∀ f ∈ appF p q, formedB f (appF p q).length = true := by
  intro f hf
  rw [app_len]
  rw [app_eq hp (by omega)] at hf
  rcases List.mem_append.1 hf with h | h
  · exact formed_mono (hp f h) (by omega) (by omega)
  · obtain ⟨g, hg, rfl⟩ := List.mem_map.1 h
    exact formed_copy (hq g hg) (by omega) (by omega) (by omega)
theorem app_sz (hp : ∀ f ∈ p, FnSz f) (hq : ∀ f ∈ q, FnSz f) : ∀ f ∈ appF p q, FnSz f := by
  intro f hf
  rcases List.mem_append.1 hf with h | h
  · obtain ⟨g, hg, rfl⟩ := List.mem_map.1 h
    exact sz_copy (hp g hg)
  · obtain ⟨g, hg, rfl⟩ := List.mem_map.1 h
    exact sz_copy (hq g hg)
/-- bytecode.Append of well-formed programs -/
theorem append_both (sp : ∀ f ∈ p, FnSz f) (sq : ∀ f ∈ q, FnSz f) (hp : ∀ f ∈ p, formedB f p.length = true) (hq : ∀ f ∈ q, formedB f q.length = true) (hl : p.length + q.length ≤ 4096) : RT 22 [pProg p, pProg q] (.tup [pProg (appF p q), pI 0]) := by
  have f1 := formed_ret p sp (by omega)
  have f2 := formed_ret q sq (by omega)
  rw [(progF_iff (by omega)).2 hp] at f1
  rw [(progF_iff (by omega)).2 hq] at f2
  exact append_ok p q f1 f2 hl (fun f hf => (formed_ok (hp f hf)).sm) (fun f hf => (formed_ok (hq f hf)).sm)
end

theorem visitP_copy (M : Int) (hs : List Hd) (i : Int) (x : Ins) (d s : Int) (st : WS2) : visitP hs i (copyI M x).op (copyI M x).a d s st = visitP hs i x.op x.a d s st := by
  unfold copyI
  split
  · rename_i h5
    have hc : cntOf x.op = false := by
      cases h : cntOf x.op
      · rfl
      · have := cnt_no_jump x.op h
        omega
    have h7 : ¬ operandOf x.op = 7 := by omega
    have ht : ∀ a, takesP x.op a = popsOf x.op := fun a => by unfold takesP; rw [hc]; rfl
    have hr : ∀ a b st, restP i x.op a d s st = restP i x.op b d s st := fun a b st => by
      unfold restP
      simp only [ht, if_neg h7]
    unfold visitP
    simp only [ht]
    split
    · congr 1
      funext st
      exact hr _ _ st
    · rfl
  · rfl
theorem visitAt_copy (M : Int) (f : Fn) (st : WS2) (i : Int) : visitAt (copyF M f) st i = visitAt f st i := by
  unfold visitAt
  have : (copyF M f).code[i.toNat]? = (f.code[i.toNat]?).map (copyI M) := List.getElem?_map
  rw [this]
  cases f.code[i.toNat]? with
  | none => rfl
  | some x =>
    simp only [Option.map_some]
    cases st.sh[i.toNat]? with
    | none => rfl
    | some p => exact visitP_copy M _ i x p.1 p.2 st
theorem runP_copy (M : Int) (f : Fn) : ∀ (n : Nat) (st : WS2), runP (copyF M f) n st = runP f n st
  | 0, _ => rfl
  | n + 1, st => by
    unfold runP
    cases st.op.getLast? with
    | none => rfl
    | some i =>
      simp only [visitAt_copy]
      congr 1
      funext st2
      exact runP_copy M f n st2
theorem copyI_op (M : Int) (x : Ins) : (copyI M x).op = x.op := by unfold copyI; split <;> rfl
theorem shapesP_copy (M : Int) (f : Fn) : shapesP (copyF M f) = shapesP f := by
  have h1 : (copyF M f).code.length = f.code.length := List.length_map _
  have h2 : (copyF M f).code.all (kindOk (copyF M f).kind) = f.code.all (kindOk f.kind) := by
    show (f.code.map (copyI M)).all (kindOk f.kind) = _
    rw [List.all_map]
    congr 1
    funext x
    simp only [Function.comp_apply, kindOk, copyI_op]
  unfold shapesP
  rw [h1, h2]
  congr 2
  funext st
  exact runP_copy M f _ st
section
variable {p q : List Fn}
theorem app_progF (hp : progF p = true) (hq : progF q = true) (hl : p.length + q.length ≤ 4096) : progF (appF p q) = true :=
  (progF_iff (by rw [app_len]; exact hl)).2 (app_formed ((progF_iff (by omega)).1 hp) ((progF_iff (by omega)).1 hq) hl)
theorem app_check (hp : progF p = true) (hq : progF q = true) (hl : p.length + q.length ≤ 4096) : checkP (appF p q) = if (p.all (fun f => (shapesP f).isSome)) && (q.all fun f => (shapesP f).isSome) then 0 else 11 := by
  unfold checkP
  rw [if_pos (app_progF hp hq hl), app_eq ((progF_iff (by omega)).1 hp) (by omega), List.all_append, List.all_map]
  have : ((fun f => (shapesP f).isSome) ∘ copyF (p.length : Int)) = fun f => (shapesP f).isSome := by
    funext f
    simp only [Function.comp_apply, shapesP_copy]
  rw [this]
theorem app_shapes (hp : progF p = true) (hq : progF q = true) (hl : p.length + q.length ≤ 4096) (i : Int) (h0 : 0 ≤ i) (h1 : i < q.length) : shapesQ (appF p q) ((p.length : Int) + i) = shapesQ q i := by
  unfold shapesQ
  rw [if_pos (app_progF hp hq hl), if_pos hq, if_pos ⟨by omega, by rw [app_len]; omega⟩, if_pos ⟨h0, h1⟩]
  have e : (appF p q)[((p.length : Int) + i).toNat]? = (q[i.toNat]?).map (copyF p.length) := by
    rw [app_eq ((progF_iff (by omega)).1 hp) (by omega), List.getElem?_append_right (by omega), show ((p.length : Int) + i).toNat - p.length = i.toNat by omega, List.getElem?_map]
  rw [e]
  cases q[i.toNat]? with
  | none => rfl
  | some x => simp only [Option.map_some, Option.bind_some, shapesP_copy]
end
end Go.Proofs.YtlffpgjkhehdmaaDoor
