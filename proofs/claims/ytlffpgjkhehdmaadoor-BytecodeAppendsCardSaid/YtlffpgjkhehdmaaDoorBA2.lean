/- Own work: bytecode.Append. -/
import Derived.Test.YtlffpgjkhehdmaaDoorBA1
namespace Go.Proofs.YtlffpgjkhehdmaaDoor
open Go.RowKit
set_option maxRecDepth 100000

abbrev pZero : PV := .agg [.v (.slice none 0 0)]
theorem append_bad1 (p q : List Fn) (hp : RT 36 [pProg p] (pB false)) : RT 22 [pProg p, pProg q] (.tup [pZero, pI 3]) := by
  unfold pProg at *
  generalize pFns p = P' at *
  generalize pFns q = Q' at *
  refine ret_by tyT_ok tabs_gr mixed (fun n => match n with | 9 => 5 | 14 => 8 | _ => 0) Tryd.func22 rfl (by kernel_rfl) (by kernel_rfl) rfl fun P G E hc hE => ?_
  replace hp := hc _ _ _ hp
  cbv
  repeat (first | (refine ⟨_, hp, ?_⟩; cbv))
theorem append_bad2 (p q : List Fn) (hp : RT 36 [pProg p] (pB true)) (hq : RT 36 [pProg q] (pB false)) : RT 22 [pProg p, pProg q] (.tup [pZero, pI 3]) := by
  unfold pProg at *
  generalize pFns p = P' at *
  generalize pFns q = Q' at *
  refine ret_by tyT_ok tabs_gr mixed (fun n => match n with | 9 => 5 | 14 => 8 | _ => 0) Tryd.func22 rfl (by kernel_rfl) (by kernel_rfl) rfl fun P G E hc hE => ?_
  replace hp := hc _ _ _ hp
  replace hq := hc _ _ _ hq
  cbv
  repeat (first | (refine ⟨_, hp, ?_⟩; cbv) | (refine ⟨_, hq, ?_⟩; cbv))
theorem append_many (p q : List Fn) (hp : RT 36 [pProg p] (pB true)) (hq : RT 36 [pProg q] (pB true)) (hm : 4096 < p.length + q.length) (h1 : p.length ≤ 100000) (h2 : q.length ≤ 100000) : RT 22 [pProg p, pProg q] (.tup [pZero, pI 5]) := by
  unfold pProg at *
  have l1 : (pFns p).length = p.length := by simp [pFns]
  have l2 : (pFns q).length = q.length := by simp [pFns]
  generalize pFns p = P' at *
  generalize pFns q = Q' at *
  generalize p.length = n1 at *
  generalize q.length = n2 at *
  refine ret_by tyT_ok tabs_gr mixed (fun n => match n with | 9 => 5 | 14 => 8 | _ => 0) Tryd.func22 rfl (by kernel_rfl) (by kernel_rfl) rfl fun P G E hc hE => ?_
  replace hp := hc _ _ _ hp
  replace hq := hc _ _ _ hq
  have c1 : E.lti 4096 (E.wadd .i64 (E.ofN n1) (E.ofN n2)) = true := by
    rw [hE]
    refine decide_eq_true ?_
    show (4096 : Int) < IntKind.i64.wrap ((n1 : Int) + n2)
    rw [wrap_i64_in (by omega) (by omega)]
    omega
  cbv at l1
  cbv at l2
  cbv
  repeat (first | (refine ⟨_, hp, ?_⟩; cbv) | (refine ⟨_, hq, ?_⟩; cbv) | (simp only [l1,l2]; cbv) | simp only [l1,l2] | (simp only [l1]; cbv) | simp only [l1] | (simp only [l2]; cbv) | simp only [l2] | (simp only [c1]; cbv) | simp only [c1])
/-- the functions that have been appended -/
structure ApI (pre src : List Fn) (more : Int) (x : List (List PV) × Nat × Int) : Prop where
  i0 : 0 ≤ x.2.2
  i1 : x.2.2 ≤ src.length
  rs : x.1 = pFns (pre ++ (src.take x.2.2.toNat).map (copyF more))
  nn : x.2.1 = pre.length + x.2.2.toNat
section
variable {pre src : List Fn} {more i : Int} {rows : List (List PV)} {nn : Nat} {f : Fn}
theorem ap_len (h : ApI pre src more (rows, nn, i)) : rows.length = nn := by
  have h0 := h.i0
  have h1 := h.i1
  have h2 := h.rs
  have h3 := h.nn
  simp only at h0 h1 h2 h3
  rw [h2, h3, pFns, List.length_map, List.length_append, List.length_map, List.length_take]
  omega
theorem ap_step (h : ApI pre src more (rows, nn, i)) (hf : src[i.toNat]? = some f) : ApI pre src more (rows ++ [pFn (copyF more f)], nn + 1, i + 1) := by
  have h0 := h.i0
  have h1 := (List.getElem?_eq_some_iff.1 hf).1
  have h2 := h.rs
  have h3 := h.nn
  simp only at h0 h2 h3
  have e : (i + 1).toNat = i.toNat + 1 := by omega
  refine ⟨by simp only; omega, by simp only; omega, ?_, ?_⟩
  · simp only
    rw [e, List.take_add_one, hf, h2]
    simp [pFns]
  · simp only
    rw [e, h3]; omega
theorem ap_end (h : ApI pre src more (rows, nn, i)) (hi : ¬ i < src.length) : rows = pFns (pre ++ src.map (copyF more)) := by
  have h2 := h.rs
  simp only at h2
  rw [h2, List.take_of_length_le (by omega)]
end
structure FnSm (f : Fn) : Prop where
  l1 : f.code.length ≤ 100000
  l2 : f.consts.length ≤ 100000
  l3 : f.hdls.length ≤ 100000
/-- a row, and what copied makes of it -/
theorem copied_row (f : Fn) (h : FnSm f) (more : Int) : ∃ nm kd pr lc C C' K L, pFn f = [pS nm, pI kd, pI pr, pI lc, .ro 3 C, .ro 3 K, .ro 5 L] ∧ pFn (copyF more f) = [pS nm, pI kd, pI pr, pI lc, .ro 3 C', .ro 3 K, .ro 5 L] ∧
    RT 41 [.agg [pS nm, pI kd, pI pr, pI lc, .ro 3 C, .ro 3 K, .ro 5 L], pI more] (.agg [pS nm, pI kd, pI pr, pI lc, .ro 3 C', .ro 3 K, .ro 5 L]) :=
  ⟨_, _, _, _, _, _, _, _, rfl, rfl, copied_ret f more h.l1 h.l2 h.l3⟩
set_option maxHeartbeats 2000000 in
theorem append_ok (p q : List Fn) (hp : RT 36 [pProg p] (pB true)) (hq : RT 36 [pProg q] (pB true)) (bb : p.length + q.length ≤ 4096) (sp : ∀ f ∈ p, FnSm f) (sq : ∀ f ∈ q, FnSm f) :
    RT 22 [pProg p, pProg q] (.tup [pProg (p.map (copyF 0) ++ q.map (copyF p.length)), pI 0]) := by
  obtain ⟨M, hM⟩ : ∃ M : Int, (p.length : Int) = M := ⟨_, rfl⟩
  rw [hM]
  obtain ⟨pre, hpre⟩ : ∃ l, p.map (copyF 0) = l := ⟨_, rfl⟩
  have hprl : pre.length = p.length := by rw [← hpre, List.length_map]
  rw [hpre]
  obtain ⟨res, hres⟩ : ∃ r, pFns (pre ++ q.map (copyF M)) = r := ⟨_, rfl⟩
  unfold pProg at *
  rw [hres]
  have l1 : (pFns p).length = p.length := by simp [pFns]
  have l2 : (pFns q).length = q.length := by simp [pFns]
  have g1 : ∀ (i : Nat) f, p[i]? = some f → (pFns p)[i]? = some (pFn f) := fun i f h => by rw [pFns, List.getElem?_map, h]; rfl
  have g2 : ∀ (i : Nat) f, q[i]? = some f → (pFns q)[i]? = some (pFn f) := fun i f h => by rw [pFns, List.getElem?_map, h]; rfl
  generalize pFns p = P' at *
  generalize pFns q = Q' at *
  obtain ⟨n1, hn1⟩ : ∃ n, p.length = n := ⟨_, rfl⟩
  obtain ⟨n2, hn2⟩ : ∃ n, q.length = n := ⟨_, rfl⟩
  rw [hn1] at l1
  rw [hn2] at l2
  obtain ⟨μ, hμ⟩ : ∃ μ : Int → Nat, ∀ i, μ i = 10000 - i.toNat := ⟨_, fun _ => rfl⟩
  refine ret_by tyT_ok tabs_gr mixed (fun n => match n with | 9 => 5 | 14 => 8 | _ => 0) Tryd.func22 rfl (by kernel_rfl) (by kernel_rfl) rfl fun P G E hc hE => ?_
  replace hp := hc _ _ _ hp
  replace hq := hc _ _ _ hq
  have c1 : E.lti 4096 (E.wadd .i64 (E.ofN n1) (E.ofN n2)) = false := by
    rw [hE]
    refine decide_eq_false ?_
    show ¬ (4096 : Int) < IntKind.i64.wrap ((n1 : Int) + n2)
    rw [wrap_i64_in (by omega) (by omega)]
    omega
  have elt : ∀ a b, E.lti a b = decide (a < b) := fun a b => by rw [hE]; rfl
  have eofn : ∀ n, E.ofN n = (n : Int) := fun n => by rw [hE]; rfl
  have enat : ∀ i, E.nat i = i.toNat := fun i => by rw [hE]; rfl
  have eple : ∀ a b, a ≤ b → E.ple a b := fun a b h => by rw [hE]; exact h
  have eadd : ∀ i : Int, 0 ≤ i → i ≤ 100000 → E.wadd .i64 i 1 = i + 1 := fun i h0 h1 => by rw [hE]; exact wrap_i64_in (by omega) (by omega)
  have eaddN : ∀ n m, E.addN n m = n + m := fun n m => by rw [hE]; rfl
  have epre : ∀ (rs : List (List PV)) n, n ≤ rs.length → E.pre 0 n rs := fun rs n h => by rw [hE]; show 0 + n ≤ rs.length; omega
  have esub : ∀ (rs : List (List PV)) n, rs.length = n → E.sub rs 0 n = rs := fun rs n h => by rw [hE]; show (rs.drop 0).take n = rs; rw [List.drop_zero, ← h, List.take_length]
  have eapp : ∀ (rs : List (List PV)) n row, rs.length = n → E.app rs n row = rs ++ row := fun rs n row h => by rw [hE]; show rs.take n ++ row = _; rw [← h, List.take_length]
  have eroom : ∀ n, n ≤ 10000 → E.room n 1 112 := fun n h => by rw [hE]; exact ⟨by unfold maxLen; omega, by omega⟩
  have eM : E.ofN n1 = M := by rw [eofn, ← hM, hn1]
  cbv at l1
  cbv at l2
  cbv
  repeat (first | (refine ⟨_, hp, ?_⟩; cbv) | (refine ⟨_, hq, ?_⟩; cbv) | (simp only [l1,l2]; cbv) | simp only [l1,l2] | (simp only [l1]; cbv) | simp only [l1] | (simp only [l2]; cbv) | simp only [l2] | (simp only [c1]; cbv) | simp only [c1])
  refine LoopA.wk (wk_nil (k := 3) (j := 0) 7 50 rfl rfl) ?_
  refine loop_by 63 [2, 3, 4, 6, 30, 31, 32] 5 (fun x : List (List PV) × Nat × Int => [.own 0 0, .own 1 0, .own 2 0, .own 3 0, .p (.ro 7 P'), .p (pI (E.ofN n1)), .p (pI x.2.2)]) (fun x => [some (.box [.p (.ro 7 P')] 33 none), some (.box [.p (.ro 7 Q')] 33 none), some (.box [.p (.v (.slice none 0 0))] 33 none), some (.box [.osl 4 0 x.2.1] 33 none), some (.rows 7 x.1 50)]) (ApI [] p 0) (fun x => μ x.2.2) ([], 0, 0) ⟨rfl, rfl, rfl, rfl, rfl⟩ ⟨by simp, by simp, by simp [pFns], by simp⟩ ?_
  rintro ⟨rows, nn, i⟩ hI
  have i0 := hI.i0
  have i1 := hI.i1
  have hnn := hI.nn
  simp only [List.length_nil, Nat.zero_add, List.length_map] at i0 i1 hnn
  replace hn1 : p.length = n1 := hn1
  replace hn2 : q.length = n2 := hn2
  replace hprl : pre.length = p.length := hprl
  replace bb : p.length + q.length ≤ 4096 := bb
  have hrl := ap_len hI
  skip
  have hnb : nn ≤ 4096 := by omega
  have cc : E.lti i (E.ofN n1) = decide (i < (n1 : Int)) := by rw [eofn, elt]
  by_cases hin : i < (n1 : Int)
  · rw [decide_eq_true hin] at cc
    obtain ⟨f, hf⟩ : ∃ f, p[i.toNat]? = some f := ⟨_, List.getElem?_eq_getElem (by omega)⟩
    obtain ⟨nm, kd, pr, lc, C, C', K, L, hr1, hr2, hcop⟩ := copied_row f (sp f (List.mem_of_getElem? hf)) 0
    have gr := g1 _ _ hf
    rw [hr1, ← enat] at gr
    replace hcop := hc _ _ _ hcop
    have p1 := eple 0 i i0
    have q0 : E.pre 0 1 [[pS nm, pI kd, pI pr, pI lc, .ro 3 C', .ro 3 K, .ro 5 L]] := epre _ 1 (by simp)
    have q1 := epre rows nn (by omega)
    have q2 := eroom nn (by omega)
    have ei := eadd i i0 (by omega)
    have hM2 : μ (E.wadd .i64 i 1) < μ i := by rw [hμ, hμ, ei]; omega
    have hI' := ap_step hI hf
    rw [hr2, ← ei, ← eaddN, ← eapp rows nn _ (by omega), ← esub [[pS nm, pI kd, pI pr, pI lc, .ro 3 C', .ro 3 K, .ro 5 L]] 1 rfl] at hI'
    clear hf hr1 hr2
    cbv
    repeat (first | (simp only [cc]; cbv) | simp only [cc] | (refine ⟨p1, ?_⟩; cbv) | (refine ⟨_, gr, ?_⟩; cbv) | (simp only [l1]; cbv) | simp only [l1] | (simp only [eM]; cbv) | simp only [eM] | (refine ⟨_, hcop, ?_⟩; cbv) | (refine ⟨q0,q1,q2, ?_⟩; cbv))
    refine .mk (E.app rows nn (E.sub [[pS nm, pI kd, pI pr, pI lc, .ro 3 C', .ro 3 K, .ro 5 L]] 0 1), E.addN nn 1, E.wadd .i64 i 1) ⟨rfl, rfl, rfl, rfl, rfl⟩ ?_ ?_
    · exact hI'
    · exact hM2
  · rw [decide_eq_false hin] at cc
    have hend := ap_end hI (by omega)
    skip
    rw [List.nil_append] at hend
    replace hprl : pre.length = p.length := hprl
    rw [hpre] at hend
    have hx0 : ApI pre q M (rows, nn, 0) := ⟨by simp, by simp, by simp only; rw [hend]; simp, by simp only [Int.toNat_zero]; omega⟩
    replace hres : pFns (pre ++ q.map (copyF M)) = res := hres
    clear hI i0 i1 hnn hrl hnb hend hin
    cbv
    repeat (first | (simp only [cc]; cbv) | simp only [cc] | (simp only [l2]; cbv) | simp only [l2])
    refine loop_by 63 [2, 3, 4, 6, 45, 46, 47] 5 (fun x : List (List PV) × Nat × Int => [.own 0 0, .own 1 0, .own 2 0, .own 3 0, .p (.ro 7 Q'), .p (pI (E.ofN n2)), .p (pI x.2.2)]) (fun x => [some (.box [.p (.ro 7 P')] 33 none), some (.box [.p (.ro 7 Q')] 33 none), some (.box [.p (.v (.slice none 0 0))] 33 none), some (.box [.osl 4 0 x.2.1] 33 none), some (.rows 7 x.1 50)]) (ApI pre q M) (fun x => μ x.2.2) (rows, nn, 0) ⟨rfl, rfl, rfl, rfl, rfl⟩ hx0 ?_
    clear hx0 cc
    clear rows nn i
    rintro ⟨rows, nn, i⟩ hI
    have i0 := hI.i0
    have i1 := hI.i1
    have hnn := hI.nn
    simp only [List.length_nil, Nat.zero_add, List.length_map] at i0 i1 hnn
    replace hn1 : p.length = n1 := hn1
    replace hn2 : q.length = n2 := hn2
    replace hprl : pre.length = p.length := hprl
    replace bb : p.length + q.length ≤ 4096 := bb
    have hrl := ap_len hI
    skip
    have hnb : nn ≤ 4096 := by omega
    have cc : E.lti i (E.ofN n2) = decide (i < (n2 : Int)) := by rw [eofn, elt]
    by_cases hin : i < (n2 : Int)
    · rw [decide_eq_true hin] at cc
      obtain ⟨f, hf⟩ : ∃ f, q[i.toNat]? = some f := ⟨_, List.getElem?_eq_getElem (by omega)⟩
      obtain ⟨nm, kd, pr, lc, C, C', K, L, hr1, hr2, hcop⟩ := copied_row f (sq f (List.mem_of_getElem? hf)) M
      have gr := g2 _ _ hf
      rw [hr1, ← enat] at gr
      replace hcop := hc _ _ _ hcop
      have p1 := eple 0 i i0
      have q0 : E.pre 0 1 [[pS nm, pI kd, pI pr, pI lc, .ro 3 C', .ro 3 K, .ro 5 L]] := epre _ 1 (by simp)
      have q1 := epre rows nn (by omega)
      have q2 := eroom nn (by omega)
      have ei := eadd i i0 (by omega)
      have hM2 : μ (E.wadd .i64 i 1) < μ i := by rw [hμ, hμ, ei]; omega
      have hI' := ap_step hI hf
      rw [hr2, ← ei, ← eaddN, ← eapp rows nn _ (by omega), ← esub [[pS nm, pI kd, pI pr, pI lc, .ro 3 C', .ro 3 K, .ro 5 L]] 1 rfl] at hI'
      clear hf hr1 hr2
      cbv
      repeat (first | (simp only [cc]; cbv) | simp only [cc] | (refine ⟨p1, ?_⟩; cbv) | (refine ⟨_, gr, ?_⟩; cbv) | (simp only [l1]; cbv) | simp only [l1] | (simp only [eM]; cbv) | simp only [eM] | (refine ⟨_, hcop, ?_⟩; cbv) | (refine ⟨q0,q1,q2, ?_⟩; cbv))
      refine .mk (E.app rows nn (E.sub [[pS nm, pI kd, pI pr, pI lc, .ro 3 C', .ro 3 K, .ro 5 L]] 0 1), E.addN nn 1, E.wadd .i64 i 1) ⟨rfl, rfl, rfl, rfl, rfl⟩ ?_ ?_
      · exact hI'
      · exact hM2
    · rw [decide_eq_false hin] at cc
      have hend := ap_end hI (by omega)
      skip
      replace hres : pFns (pre ++ q.map (copyF M)) = res := hres
      rw [hres] at hend
      have k1 := epre rows nn (by omega)
      have s1 := esub rows nn (by omega)
      cbv
      repeat (first | (simp only [cc]; cbv) | simp only [cc])
      refine ⟨k1, ?_⟩
      simp only [s1]
      rw [hend]
end Go.Proofs.YtlffpgjkhehdmaaDoor
