/- Own work: appending programs: plain laws, and the walk of BytecodeAppends. -/
import Derived.Test.YtlffpgjkhehdmaaDoorZBA3
import Derived.Test.YtlffpgjkhehdmaaDoorZGI
import Derived.Test.YtlffpgjkhehdmaaDoorZGG
namespace Go.Proofs.YtlffpgjkhehdmaaDoor
open Go.RowKit
set_option maxRecDepth 100000

theorem all2_refl {α : Type} {p : α → α → Bool} (h : ∀ x, p x x = true) : ∀ xs : List α, all2 p xs xs = true
  | [] => rfl
  | x :: xs => by
    have := all2_refl h xs
    unfold all2 at this ⊢
    simp only [List.zip_cons_cons, List.all_cons, this, h x, Bool.and_self]
theorem listEq_refl {α : Type} {p : α → α → Bool} (h : ∀ x, p x x = true) (xs : List α) : listEq p xs xs = true := by
  unfold listEq; rw [all2_refl h xs]; simp
theorem fnSame_refl (x : Fn) : fnSame x x = true := by
  unfold fnSame headSame bodySame
  rw [all2_refl (fun x => by simp [insEq]), all2_refl (fun x => by simp [cstSame]), all2_refl (fun x => by simp [hdlEq])]
  simp
theorem betw_iff {n a b : Int} : betw n a b = true ↔ a ≤ n ∧ n ≤ b := by simp [betw]
section
variable {f g : Fn} {n m M : Int} {x : Ins}
theorem fits_arg5 (h : fitsB f n x = true) (h5 : operandOf x.op = 5) : 0 ≤ x.a ∧ x.a ≤ n - 1 := by
  unfold fitsB at h
  rw [Bool.and_eq_true, h5] at h
  exact betw_iff.1 h.2
theorem fits_copy (h : fitsB f n x = true) (hM : 0 ≤ M) (hm : n + M ≤ m) (hm2 : m ≤ 1000000) (e1 : g.consts = f.consts) (e2 : g.locals = f.locals) (e3 : g.code.length = f.code.length) : fitsB g m (copyI M x) = true := by
  by_cases h5 : operandOf x.op = 5
  · have ha := fits_arg5 h h5
    have hc : copyI M x = { x with a := x.a + M } := by
      unfold copyI
      rw [if_pos h5, wrap_i64_in (by omega) (by omega)]
    rw [hc]
    unfold fitsB at h ⊢
    rw [Bool.and_eq_true] at h ⊢
    refine ⟨h.1, ?_⟩
    simp only [h5]
    exact betw_iff.2 ⟨by omega, by omega⟩
  · have hc : copyI M x = x := if_neg h5
    rw [hc]
    unfold fitsB at h ⊢
    rw [Bool.and_eq_true] at h ⊢
    refine ⟨h.1, ?_⟩
    have h2 := h.2
    unfold argOk at h2 ⊢
    rw [e1, e2, e3]
    rw [if_neg h5] at h2 ⊢
    exact h2
theorem formed_parts (h : formedB f n = true) : headB f = true ∧ sizeB f = true ∧ f.consts.all cstOk = true ∧ f.code.all (fitsB f n) = true ∧ f.hdls.all (hdlOk f.code.length) = true := by
  unfold formedB partsB at h
  simp only [Bool.and_eq_true] at h
  exact ⟨h.1, h.2.1, h.2.2.1, h.2.2.2.1, h.2.2.2.2⟩
theorem formed_copy (h : formedB f n = true) (hM : 0 ≤ M) (hm : n + M ≤ m) (hm2 : m ≤ 1000000) : formedB (copyF M f) m = true := by
  obtain ⟨h1, h2, h3, h4, h5⟩ := formed_parts h
  have hl : (copyF M f).code.length = f.code.length := List.length_map _
  unfold formedB partsB
  simp only [Bool.and_eq_true]
  refine ⟨h1, ?_, h3, ?_, ?_⟩
  · unfold sizeB at h2 ⊢
    rw [hl]
    exact h2
  · rw [List.all_eq_true] at h4 ⊢
    intro y hy
    obtain ⟨x, hx, rfl⟩ := List.mem_map.1 hy
    exact fits_copy (h4 x hx) hM hm hm2 rfl rfl hl
  · rw [hl]; exact h5
theorem copyF_zero (h : formedB f n = true) (hn : n ≤ 1000000) : copyF 0 f = f := by
  obtain ⟨_, _, _, h4, _⟩ := formed_parts h
  have : f.code.map (copyI 0) = f.code := by
    conv => rhs; rw [← List.map_id f.code]
    refine List.map_congr_left fun x hx => ?_
    unfold copyI
    split
    · rename_i h5
      have ha := fits_arg5 (List.all_eq_true.1 h4 x hx) h5
      rw [wrap_i64_in (by omega) (by omega), Int.add_zero]
      rfl
    · rfl
  unfold copyF
  rw [this]
theorem formed_mono (h : formedB f n = true) (hm : n ≤ m) (hm2 : m ≤ 1000000) : formedB f m = true := by
  have := formed_copy (M := 0) h (Int.le_refl _) (m := m) (by omega) hm2
  rwa [copyF_zero h (by omega)] at this
theorem copyF_add {P Q : Int} (h : formedB f n = true) (hP : 0 ≤ P) (hQ : 0 ≤ Q) (hn : n + P + Q ≤ 1000000) : copyF P (copyF Q f) = copyF (Q + P) f := by
  obtain ⟨_, _, _, h4, _⟩ := formed_parts h
  unfold copyF
  simp only [List.map_map]
  congr 1
  refine List.map_congr_left fun x hx => ?_
  simp only [Function.comp_apply]
  by_cases h5 : operandOf x.op = 5
  · have ha := fits_arg5 (List.all_eq_true.1 h4 x hx) h5
    have e1 : copyI Q x = { x with a := x.a + Q } := by
      unfold copyI
      rw [if_pos h5, wrap_i64_in (by omega) (by omega)]
    rw [e1]
    unfold copyI
    simp only [h5, if_true]
    rw [Int.add_assoc]
  · have e1 : copyI Q x = x := if_neg h5
    have e2 : copyI P x = x := if_neg h5
    have e3 : copyI (Q + P) x = x := if_neg h5
    rw [e1, e2, e3]
theorem formed_ok (h : formedB f n = true) : FnOk f := by
  obtain ⟨_, h2, _, h4, _⟩ := formed_parts h
  unfold sizeB at h2
  simp only [Bool.and_eq_true, betw_iff, decide_eq_true_eq] at h2
  refine ⟨⟨by omega, by omega, by omega⟩, by omega, fun x hx => ?_⟩
  have := List.all_eq_true.1 h4 x hx
  unfold fitsB at this
  simp only [Bool.and_eq_true, decide_eq_true_eq] at this
  exact this.1.1
theorem sz_copy (h : FnSz f) : FnSz (copyF M f) := ⟨h.nm, by unfold copyF; simp; exact h.l1, h.l2, h.l3, h.cs⟩
end
/-- the list that Append gives -/
def appF (p q : List Fn) : List Fn := p.map (copyF 0) ++ q.map (copyF p.length)
theorem progF_iff {p : List Fn} (h : p.length ≤ 4096) : progF p = true ↔ ∀ f ∈ p, formedB f p.length = true := by
  unfold progF
  rw [Bool.and_eq_true, List.all_eq_true]
  exact ⟨fun h => h.1, fun h2 => ⟨h2, decide_eq_true (by omega)⟩⟩
section
variable {p q r : List Fn}
theorem app_len : (appF p q).length = p.length + q.length := by simp [appF]
theorem app_eq (hp : ∀ f ∈ p, formedB f p.length = true) (hl : p.length ≤ 4096) : appF p q = p ++ q.map (copyF p.length) := by
  unfold appF
  congr 1
  conv => rhs; rw [← List.map_id p]
  exact List.map_congr_left fun f hf => copyF_zero (hp f hf) (by omega)
theorem app_formed (hp : ∀ f ∈ p, formedB f p.length = true) (hq : ∀ f ∈ q, formedB f q.length = true) (hl : p.length + q.length ≤ 4096) : ∀ f ∈ appF p q, formedB f (appF p q).length = true := by
  intro f hf
  rw [app_len]
  rw [app_eq hp (by omega)] at hf
  rcases List.mem_append.1 hf with h | h
  · exact formed_mono (hp f h) (by omega) (by omega)
  · obtain ⟨g, hg, rfl⟩ := List.mem_map.1 h
    exact formed_copy (hq g hg) (by omega) (by omega) (by omega)
theorem app_assoc (hp : ∀ f ∈ p, formedB f p.length = true) (hq : ∀ f ∈ q, formedB f q.length = true) (hr : ∀ f ∈ r, formedB f r.length = true) (hl : p.length + q.length + r.length ≤ 4096) : appF (appF p q) r = appF p (appF q r) := by
  rw [app_eq (app_formed hp hq (by omega)) (by rw [app_len]; omega), app_eq hp (by omega), app_eq hp (by omega), app_eq hq (by omega), List.map_append, List.append_assoc]
  congr 2
  rw [List.map_map]
  refine List.map_congr_left fun f hf => ?_
  simp only [Function.comp_apply]
  rw [copyF_add (hr f hf) (by omega) (by omega) (by omega)]
  congr 1
  simp
  omega
theorem app_sz (hp : ∀ f ∈ p, FnSz f) (hq : ∀ f ∈ q, FnSz f) : ∀ f ∈ appF p q, FnSz f := by
  intro f hf
  rcases List.mem_append.1 hf with h | h
  · obtain ⟨g, hg, rfl⟩ := List.mem_map.1 h
    exact sz_copy (hp g hg)
  · obtain ⟨g, hg, rfl⟩ := List.mem_map.1 h
    exact sz_copy (hq g hg)
theorem same_refl (xs : List Fn) : sameP xs xs = true := listEq_refl fnSame_refl xs
/-- bytecode.Append of well-formed programs -/
theorem append_both (sp : ∀ f ∈ p, FnSz f) (sq : ∀ f ∈ q, FnSz f) (hp : ∀ f ∈ p, formedB f p.length = true) (hq : ∀ f ∈ q, formedB f q.length = true) (hl : p.length + q.length ≤ 4096) : RT 22 [pProg p, pProg q] (.tup [pProg (appF p q), pI 0]) := by
  have f1 := formed_ret p sp (by omega)
  have f2 := formed_ret q sq (by omega)
  rw [(progF_iff (by omega)).2 hp] at f1
  rw [(progF_iff (by omega)).2 hq] at f2
  exact append_ok p q f1 f2 hl (fun f hf => (formed_ok (hp f hf)).sm) (fun f hf => (formed_ok (hq f hf)).sm)
end
theorem awake_ret : RT 17 [] (pB true) :=
  ret_v Tryd.func17 (by kernel_rfl) (by kernel_rfl) [] _ fun w hT => (awake27 w hT).mono fun e w' ⟨h1, h2⟩ => ⟨_, h1, h2, fun _ => .v _⟩
theorem fewP_len {fs : List Fn} {n : Int} (h : fewP fs n = true) : (fs.length : Int) ≤ n := by
  unfold fewP at h
  rw [Bool.and_eq_true] at h
  exact of_decide_eq_true h.1
set_option maxHeartbeats 2000000 in
theorem lappends_ret (p q r : List Fn) (sp : ∀ f ∈ p, FnSz f) (sq : ∀ f ∈ q, FnSz f) (sr : ∀ f ∈ r, FnSz f) : RT 4 [pProg p, pProg q, pProg r] (pB true) := by
  have hw := awake_ret
  have fp := few_ret p sp 4 (by omega)
  cases cfp : fewP p 4 with
  | false =>
    rw [cfp] at fp
    clear sp sq sr
    unfold pProg at *
    generalize pFns p = P1 at *
    generalize pFns q = Q1 at *
    generalize pFns r = R1 at *
    refine ret_by tyT_ok tabs_gr mixed (fun n => match n with | 7 => 31 | _ => 0) Tryd.func4 rfl (by kernel_rfl) (by kernel_rfl) rfl fun P G E hc hE => ?_
    replace hw := hc _ _ _ hw
    replace fp := hc _ _ _ fp
    cbv
    repeat (first | (refine ⟨_, hw, ?_⟩; cbv) | (refine ⟨_, fp, ?_⟩; cbv))
  | true =>
    rw [cfp] at fp
    have fq := few_ret q sq 4 (by omega)
    cases cfq : fewP q 4 with
    | false =>
      rw [cfq] at fq
      clear sp sq sr
      unfold pProg at *
      generalize pFns p = P1 at *
      generalize pFns q = Q1 at *
      generalize pFns r = R1 at *
      refine ret_by tyT_ok tabs_gr mixed (fun n => match n with | 7 => 31 | _ => 0) Tryd.func4 rfl (by kernel_rfl) (by kernel_rfl) rfl fun P G E hc hE => ?_
      replace hw := hc _ _ _ hw
      replace fp := hc _ _ _ fp
      replace fq := hc _ _ _ fq
      cbv
      repeat (first | (refine ⟨_, hw, ?_⟩; cbv) | (refine ⟨_, fp, ?_⟩; cbv) | (refine ⟨_, fq, ?_⟩; cbv))
    | true =>
      rw [cfq] at fq
      have fr := few_ret r sr 4 (by omega)
      cases cfr : fewP r 4 with
      | false =>
        rw [cfr] at fr
        clear sp sq sr
        unfold pProg at *
        generalize pFns p = P1 at *
        generalize pFns q = Q1 at *
        generalize pFns r = R1 at *
        refine ret_by tyT_ok tabs_gr mixed (fun n => match n with | 7 => 31 | _ => 0) Tryd.func4 rfl (by kernel_rfl) (by kernel_rfl) rfl fun P G E hc hE => ?_
        replace hw := hc _ _ _ hw
        replace fp := hc _ _ _ fp
        replace fq := hc _ _ _ fq
        replace fr := hc _ _ _ fr
        cbv
        repeat (first | (refine ⟨_, hw, ?_⟩; cbv) | (refine ⟨_, fp, ?_⟩; cbv) | (refine ⟨_, fq, ?_⟩; cbv) | (refine ⟨_, fr, ?_⟩; cbv))
      | true =>
        rw [cfr] at fr
        have lp := fewP_len cfp
        have lq := fewP_len cfq
        have lr := fewP_len cfr
        have gp := rformed_ret p sp (by omega)
        cases cgp : progF p with
        | false =>
          rw [cgp] at gp
          clear sp sq sr
          clear lp lq lr
          unfold pProg at *
          generalize pFns p = P1 at *
          generalize pFns q = Q1 at *
          generalize pFns r = R1 at *
          refine ret_by tyT_ok tabs_gr mixed (fun n => match n with | 7 => 31 | _ => 0) Tryd.func4 rfl (by kernel_rfl) (by kernel_rfl) rfl fun P G E hc hE => ?_
          replace hw := hc _ _ _ hw
          replace fp := hc _ _ _ fp
          replace fq := hc _ _ _ fq
          replace fr := hc _ _ _ fr
          replace gp := hc _ _ _ gp
          cbv
          repeat (first | (refine ⟨_, hw, ?_⟩; cbv) | (refine ⟨_, fp, ?_⟩; cbv) | (refine ⟨_, fq, ?_⟩; cbv) | (refine ⟨_, fr, ?_⟩; cbv) | (refine ⟨_, gp, ?_⟩; cbv))
        | true =>
          rw [cgp] at gp
          have gq := rformed_ret q sq (by omega)
          cases cgq : progF q with
          | false =>
            rw [cgq] at gq
            clear sp sq sr
            clear lp lq lr
            unfold pProg at *
            generalize pFns p = P1 at *
            generalize pFns q = Q1 at *
            generalize pFns r = R1 at *
            refine ret_by tyT_ok tabs_gr mixed (fun n => match n with | 7 => 31 | _ => 0) Tryd.func4 rfl (by kernel_rfl) (by kernel_rfl) rfl fun P G E hc hE => ?_
            replace hw := hc _ _ _ hw
            replace fp := hc _ _ _ fp
            replace fq := hc _ _ _ fq
            replace fr := hc _ _ _ fr
            replace gp := hc _ _ _ gp
            replace gq := hc _ _ _ gq
            cbv
            repeat (first | (refine ⟨_, hw, ?_⟩; cbv) | (refine ⟨_, fp, ?_⟩; cbv) | (refine ⟨_, fq, ?_⟩; cbv) | (refine ⟨_, fr, ?_⟩; cbv) | (refine ⟨_, gp, ?_⟩; cbv) | (refine ⟨_, gq, ?_⟩; cbv))
          | true =>
            rw [cgq] at gq
            have gr := rformed_ret r sr (by omega)
            cases cgr : progF r with
            | false =>
              rw [cgr] at gr
              clear sp sq sr
              clear lp lq lr
              unfold pProg at *
              generalize pFns p = P1 at *
              generalize pFns q = Q1 at *
              generalize pFns r = R1 at *
              refine ret_by tyT_ok tabs_gr mixed (fun n => match n with | 7 => 31 | _ => 0) Tryd.func4 rfl (by kernel_rfl) (by kernel_rfl) rfl fun P G E hc hE => ?_
              replace hw := hc _ _ _ hw
              replace fp := hc _ _ _ fp
              replace fq := hc _ _ _ fq
              replace fr := hc _ _ _ fr
              replace gp := hc _ _ _ gp
              replace gq := hc _ _ _ gq
              replace gr := hc _ _ _ gr
              cbv
              repeat (first | (refine ⟨_, hw, ?_⟩; cbv) | (refine ⟨_, fp, ?_⟩; cbv) | (refine ⟨_, fq, ?_⟩; cbv) | (refine ⟨_, fr, ?_⟩; cbv) | (refine ⟨_, gp, ?_⟩; cbv) | (refine ⟨_, gq, ?_⟩; cbv) | (refine ⟨_, gr, ?_⟩; cbv))
            | true =>
              rw [cgr] at gr
              have hp := (progF_iff (by omega)).1 cgp
              have hq := (progF_iff (by omega)).1 cgq
              have hr := (progF_iff (by omega)).1 cgr
              have a1 := append_both sp sq hp hq (by omega)
              have a2 := append_both sq sr hq hr (by omega)
              have hpq := app_formed hp hq (by omega)
              have hqr := app_formed hq hr (by omega)
              have spq := app_sz sp sq
              have sqr := app_sz sq sr
              have lpq : (appF p q).length = p.length + q.length := app_len
              have lqr : (appF q r).length = q.length + r.length := app_len
              have a3 := append_both spq sr hpq hr (by omega)
              have a4 := append_both sp sqr hp hqr (by omega)
              rw [← app_assoc hp hq hr (by omega)] at a4
              have lpqr : (appF (appF p q) r).length = p.length + q.length + r.length := by rw [app_len, app_len]
              have hpqr := app_formed hpq hr (by omega)
              have spqr := app_sz spq sr
              have ra := rappend_ret p q (by omega) (by omega) fun f hf => formed_ok (hq f hf)
              rw [← app_eq hp (by omega)] at ra
              have s1 := same_ret (appF p q) (appF p q) spq spq (by omega) (by omega)
              rw [same_refl] at s1
              have s2 := same_ret (appF (appF p q) r) (appF (appF p q) r) spqr spqr (by omega) (by omega)
              rw [same_refl] at s2
              have ga := rformed_ret (appF (appF p q) r) spqr (by omega)
              rw [(progF_iff (by omega)).2 hpqr] at ga
              generalize appF (appF p q) r = pqr at *
              generalize appF p q = pq at *
              generalize appF q r = qr at *
              clear sp sq sr spq sqr spqr hp hq hr hpq hqr hpqr lp lq lr lpq lqr lpqr
              unfold pProg at *
              generalize pFns pqr = A1 at *
              generalize pFns pq = B1 at *
              generalize pFns qr = C1 at *
              generalize pFns p = P1 at *
              generalize pFns q = Q1 at *
              generalize pFns r = R1 at *
              refine ret_by tyT_ok tabs_gr mixed (fun n => match n with | 7 => 31 | _ => 0) Tryd.func4 rfl (by kernel_rfl) (by kernel_rfl) rfl fun P G E hc hE => ?_
              replace hw := hc _ _ _ hw
              replace fp := hc _ _ _ fp
              replace fq := hc _ _ _ fq
              replace fr := hc _ _ _ fr
              replace gp := hc _ _ _ gp
              replace gq := hc _ _ _ gq
              replace gr := hc _ _ _ gr
              replace a1 := hc _ _ _ a1
              replace a2 := hc _ _ _ a2
              replace a3 := hc _ _ _ a3
              replace a4 := hc _ _ _ a4
              replace ra := hc _ _ _ ra
              replace s1 := hc _ _ _ s1
              replace s2 := hc _ _ _ s2
              replace ga := hc _ _ _ ga
              cbv
              repeat (first | (refine ⟨_, hw, ?_⟩; cbv) | (refine ⟨_, fp, ?_⟩; cbv) | (refine ⟨_, fq, ?_⟩; cbv) | (refine ⟨_, fr, ?_⟩; cbv) | (refine ⟨_, gp, ?_⟩; cbv) | (refine ⟨_, gq, ?_⟩; cbv) | (refine ⟨_, gr, ?_⟩; cbv) | (refine ⟨_, a1, ?_⟩; cbv) | (refine ⟨_, a2, ?_⟩; cbv) | (refine ⟨_, a3, ?_⟩; cbv) | (refine ⟨_, a4, ?_⟩; cbv) | (refine ⟨_, ra, ?_⟩; cbv) | (refine ⟨_, s1, ?_⟩; cbv) | (refine ⟨_, s2, ?_⟩; cbv) | (refine ⟨_, ga, ?_⟩; cbv))
end Go.Proofs.YtlffpgjkhehdmaaDoor
