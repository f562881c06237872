/- Own work: the reference's Append. -/
import Derived.Test.YtlffpgjkhehdmaaDoorZGK
import Derived.Test.YtlffpgjkhehdmaaDoorZRefDesc
namespace Go.Proofs.YtlffpgjkhehdmaaDoor
open Go.RowKit
set_option maxRecDepth 100000

theorem repP_aggv {w : World} {R : Nat → Prop} (vs : List Value) : RepP w R (.agg (vs.map .v)) (.agg vs.toArray) := by
  refine .agg _ vs (by simp) fun j a v ha hv => ?_
  rw [List.getElem?_map, hv] at ha
  cases ha
  exact .v _
theorem rdesc_ret (op : Int) (h0 : 1 ≤ op) (h1 : op ≤ 53) : RT 19 [pI op] (.agg [pS (nameOf op), pI (operandOf op), pI (popsOf op), pI (pushesOf op), pB (cntOf op), pI (jmpOf op), pB (endsOf op)]) :=
  ret_v Tryd.func19 (by kernel_rfl) (by kernel_rfl) [.int .i64 op] _ fun w _ => (rdesc_in op w h0 h1).mono fun e w' ⟨h1, h2⟩ => ⟨_, h1, h2, fun R => repP_aggv [.string (nameOf op), .int .i64 (operandOf op), .int .i64 (popsOf op), .int .i64 (pushesOf op), .bool (cntOf op), .int .i64 (jmpOf op), .bool (endsOf op)]⟩
/-- the code that has been appended -/
structure InA (code : List Ins) (M : Int) (y : List (List PV) × Nat × Int × Bool) : Prop where
  k0 : 0 ≤ y.2.2.1
  k1 : y.2.2.1 ≤ code.length
  rs : y.1 = pCode ((code.take y.2.2.1.toNat).map (copyI M))
  nn : y.2.1 = y.2.2.1.toNat
  fl : y.2.2.2 = decide (y.2.2.1 = code.length)
section
variable {code : List Ins} {M k : Int} {rs : List (List PV)} {nn : Nat} {x : Ins} {fl : Bool}
theorem ia_len (h : InA code M (rs, nn, k, fl)) : rs.length = nn := by
  have h0 := h.k0
  have h1 := h.k1
  have h2 := h.rs
  have h3 := h.nn
  simp only at h0 h1 h2 h3
  rw [h2, h3, pCode, List.length_map, List.length_map, List.length_take]
  omega
theorem ia_step (h : InA code M (rs, nn, k, fl)) (hx : code[k.toNat]? = some x) : InA code M (rs ++ [pIns (copyI M x)], nn + 1, k + 1, decide (k + 1 = code.length)) := by
  have h0 := h.k0
  have h1 := (List.getElem?_eq_some_iff.1 hx).1
  have h2 := h.rs
  have h3 := h.nn
  simp only at h0 h2 h3
  have e : (k + 1).toNat = k.toNat + 1 := by omega
  refine ⟨by simp only; omega, by simp only; omega, ?_, ?_, rfl⟩
  · simp only
    rw [e, List.take_add_one, hx, h2]
    simp [pCode]
  · simp only
    rw [e, h3]
theorem ia_end (h : InA code M (rs, nn, k, true)) : rs = pCode (code.map (copyI M)) ∧ k = code.length := by
  have h2 := h.rs
  have h4 := of_decide_eq_true h.fl.symm
  simp only at h2 h4
  refine ⟨?_, h4⟩
  rw [h2, h4, Int.toNat_natCast, List.take_length]
theorem ia_lt (h : InA code M (rs, nn, k, false)) : k < code.length := by
  have h1 := h.k1
  have h4 := of_decide_eq_false h.fl.symm
  simp only at h1 h4
  omega
end
/-- a function that both Appends take -/
structure FnOk (f : Fn) : Prop where
  sm : FnSm f
  ne : 1 ≤ f.code.length
  ops : ∀ x ∈ f.code, 1 ≤ x.op ∧ x.op ≤ 53
theorem fn_row (f : Fn) (M : Int) : ∃ nm kd pr lc K L, pFn f = [pS nm, pI kd, pI pr, pI lc, .ro 3 (pCode f.code), .ro 3 K, .ro 5 L] ∧ pFn (copyF M f) = [pS nm, pI kd, pI pr, pI lc, .ro 3 (pCode (f.code.map (copyI M))), .ro 3 K, .ro 5 L] := ⟨_, _, _, _, _, _, rfl, rfl⟩
set_option maxHeartbeats 4000000 in
theorem rappend_ret (p q : List Fn) (b1 : p.length ≤ 4096) (b2 : q.length ≤ 4096) (sq : ∀ f ∈ q, FnOk f) :
    RT 24 [pProg p, pProg q] (pProg (p ++ q.map (copyF p.length))) := by
  obtain ⟨M, hM⟩ : ∃ M : Int, (p.length : Int) = M := ⟨_, rfl⟩
  rw [hM]
  obtain ⟨res, hres⟩ : ∃ r, pFns (p ++ q.map (copyF M)) = r := ⟨_, rfl⟩
  unfold pProg at *
  rw [hres]
  have l1 : (pFns p).length = p.length := by simp [pFns]
  have l2 : (pFns q).length = q.length := by simp [pFns]
  have g2 : ∀ (i : Nat) f, q[i]? = some f → (pFns q)[i]? = some (pFn f) := fun i f h => by rw [pFns, List.getElem?_map, h]; rfl
  obtain ⟨P', hP'⟩ : ∃ P', pFns p = P' := ⟨_, rfl⟩
  rw [hP'] at l1 ⊢
  generalize pFns q = Q' at *
  obtain ⟨n1, hn1⟩ : ∃ n, p.length = n := ⟨_, rfl⟩
  obtain ⟨n2, hn2⟩ : ∃ n, q.length = n := ⟨_, rfl⟩
  rw [hn1] at l1
  rw [hn2] at l2
  have hx0 : ApI p q M (P', n1, 0) := ⟨by simp, by simp, by simp [hP'], by simp [hn1]⟩
  obtain ⟨μ, hμ⟩ : ∃ μ : Int → Nat, ∀ i, μ i = 10000 - i.toNat := ⟨_, fun _ => rfl⟩
  obtain ⟨ν, hν⟩ : ∃ ν : Int → Nat, ∀ i, ν i = 200000 - i.toNat := ⟨_, fun _ => rfl⟩
  refine ret_by tyT_ok tabs_gr mixed (fun _ => 0) Tryd.func24 rfl (by kernel_rfl) (by kernel_rfl) rfl fun P G E hc hE => ?_
  have elt : ∀ a b, E.lti a b = decide (a < b) := fun a b => by rw [hE]; rfl
  have eofn : ∀ n, E.ofN n = (n : Int) := fun n => by rw [hE]; rfl
  have enat : ∀ i, E.nat i = i.toNat := fun i => by rw [hE]; rfl
  have eple : ∀ a b, a ≤ b → E.ple a b := fun a b h => by rw [hE]; exact h
  have eadd : ∀ i : Int, 0 ≤ i → i ≤ 1000000 → E.wadd .i64 i 1 = i + 1 := fun i h0 h1 => by rw [hE]; exact wrap_i64_in (by omega) (by omega)
  have eaddN : ∀ n m, E.addN n m = n + m := fun n m => by rw [hE]; rfl
  have epre : ∀ (rs : List (List PV)) n, n ≤ rs.length → E.pre 0 n rs := fun rs n h => by rw [hE]; show 0 + n ≤ rs.length; omega
  have esub : ∀ (rs : List (List PV)) n, rs.length = n → E.sub rs 0 n = rs := fun rs n h => by rw [hE]; show (rs.drop 0).take n = rs; rw [List.drop_zero, ← h, List.take_length]
  have eapp : ∀ (rs : List (List PV)) n row, rs.length = n → E.app rs n row = rs ++ row := fun rs n row h => by rw [hE]; show rs.take n ++ row = _; rw [← h, List.take_length]
  have eroom : ∀ n, n ≤ 10000 → E.room n 1 112 := fun n h => by rw [hE]; exact ⟨by unfold maxLen; omega, by omega⟩
  have eroom2 : ∀ n, n ≤ 200000 → E.room n 1 24 := fun n h => by rw [hE]; exact ⟨by unfold maxLen; omega, by omega⟩
  have eroom3 : E.room 0 n1 112 := by rw [hE]; exact ⟨by unfold maxLen; omega, by omega⟩
  have ewa : ∀ a : Int, E.wadd .i64 a M = IntKind.i64.wrap (a + M) := fun a => by rw [hE]; rfl
  have eM : E.ofN n1 = M := by rw [eofn, ← hM, hn1]
  cbv at l1
  cbv at l2
  cbv
  repeat (first | (simp only [l1]; cbv) | simp only [l1] | (refine ⟨eroom3, ?_⟩; cbv))
  refine loop_by 74 [2, 3, 4, 5, 6] 5 (fun x : List (List PV) × Nat × Int => [.own 0 0, .own 1 0, .own 2 0, .own 3 0, .p (pI x.2.2)]) (fun x => [some (.box [.p (.ro 7 P')] 33 none), some (.box [.p (.ro 7 Q')] 33 none), some (.box [.p (.v (.slice none 0 0))] 33 none), some (.box [.osl 4 0 x.2.1] 33 none), some (.rows 7 x.1 50)]) (ApI p q M) (fun x => μ x.2.2) (P', n1, 0) ⟨rfl, rfl, rfl, rfl, rfl⟩ hx0 ?_
  clear hx0
  rintro ⟨rows, nn, i⟩ hI
  have i0 := hI.i0
  have i1 := hI.i1
  have hnn := hI.nn
  simp only at i0 i1 hnn
  replace hn1 : p.length = n1 := hn1
  replace hn2 : q.length = n2 := hn2
  replace b1 : p.length ≤ 4096 := b1
  replace b2 : q.length ≤ 4096 := b2
  have hrl := ap_len hI
  have hnb : nn ≤ 9000 := by omega
  have cc : E.lti i (E.ofN n2) = decide (i < (n2 : Int)) := by rw [eofn, elt]
  by_cases hin : i < (n2 : Int)
  · rw [decide_eq_true hin] at cc
    obtain ⟨f, hf⟩ : ∃ f, q[i.toNat]? = some f := ⟨_, List.getElem?_eq_getElem (by omega)⟩
    have hok := sq f (List.mem_of_getElem? hf)
    obtain ⟨nm, kd, pr, lc, K, L, hr1, hr2⟩ := fn_row f M
    have gr := g2 _ _ hf
    have hI' := ap_step hI hf
    obtain ⟨code, hcode⟩ : ∃ c, f.code = c := ⟨_, rfl⟩
    have hl1 := hok.sm.l1
    have hne := hok.ne
    have hops := hok.ops
    rw [hcode] at hr1 hr2 hl1 hne hops
    have hCl : (pCode code).length = code.length := by simp [pCode]
    have hCg : ∀ (i : Nat) x, code[i]? = some x → (pCode code)[i]? = some (pIns x) := fun i x h => by rw [pCode, List.getElem?_map, h]; rfl
    obtain ⟨D, hD⟩ : ∃ D, pCode (code.map (copyI M)) = D := ⟨_, rfl⟩
    rw [hD] at hr2
    generalize pCode code = C at *
    obtain ⟨nC, hnC⟩ : ∃ n, code.length = n := ⟨_, rfl⟩
    rw [hnC] at hCl
    rw [hr1, ← enat] at gr
    have p1 := eple 0 i i0
    have q0 : E.pre 0 1 [[pS nm, pI kd, pI pr, pI lc, .ro 3 D, .ro 3 K, .ro 5 L]] := epre _ 1 (by simp)
    have q1 := epre rows nn (by omega)
    have q2 := eroom nn (by omega)
    have ei := eadd i i0 (by omega)
    have hM2 : μ (E.wadd .i64 i 1) < μ i := by rw [hμ, hμ, ei]; omega
    rw [hr2, ← ei, ← eaddN, ← eapp rows nn _ (by omega), ← esub [[pS nm, pI kd, pI pr, pI lc, .ro 3 D, .ro 3 K, .ro 5 L]] 1 rfl] at hI'
    have hy0 : InA code M ([], 0, 0, false) := ⟨by simp, by simp, by simp [pCode], by simp, (decide_eq_false (by simp only; omega)).symm⟩
    clear hf hr1 hr2 hcode
    cbv at hCl
    cbv
    repeat (first | (simp only [l2]; cbv) | simp only [l2] | (simp only [cc]; cbv) | simp only [cc] | (refine ⟨p1, ?_⟩; cbv) | (refine ⟨_, gr, ?_⟩; cbv))
    refine LoopA.wk (wk_nil (k := 5) (j := 4) 3 54 rfl rfl) ?_
    refine loop_byW 74 [2, 3, 4, 5, 6, 7, 8] 7 (fun y : List (List PV) × Nat × Int × Bool => [.own 0 0, .own 1 0, .own 2 0, .own 3 0, .p (pI i), .own 5 0, .p (pI y.2.2.1)]) (fun y => [some (.box [.p (.ro 7 P')] 33 none), some (.box [.p (.ro 7 Q')] 33 none), some (.box [.p (.v (.slice none 0 0))] 33 none), some (.box [.osl 4 0 nn] 33 none), some (.rows 7 rows 50), some (.box [.p (pS nm), .p (pI kd), .p (pI pr), .p (pI lc), (match y.2.2.2 with | true => .p (.ro 3 y.1) | false => .osl 6 0 y.2.1), .p (.ro 3 K), .p (.ro 5 L)] 50 none), (match y.2.2.2 with | true => none | false => some (.rows 3 y.1 54))]) (InA code M) (fun y => ν y.2.2.1) ([], 0, 0, false) ⟨rfl, rfl, rfl, rfl, rfl⟩ hy0 ?_
    clear hy0
    rintro ⟨rs, kk, k, fl⟩ hin
    have k0 := hin.k0
    have k1 := hin.k1
    have hkk := hin.nn
    simp only at k0 k1 hkk
    replace hnC : code.length = nC := hnC
    replace hl1 : code.length ≤ 100000 := hl1
    have hrs := ia_len hin
    have dd : E.lti k (E.ofN nC) = decide (k < (nC : Int)) := by rw [eofn, elt]
    cases fl
    · have hlt := ia_lt hin
      obtain ⟨⟨op, a, b⟩, hx⟩ : ∃ x, code[k.toNat]? = some x := ⟨_, List.getElem?_eq_getElem (by omega)⟩
      have hopr := hops _ (List.mem_of_getElem? hx)
      have rd := hc _ _ _ (rdesc_ret op hopr.1 hopr.2)
      have cr := hCg _ _ hx
      rw [← enat] at cr
      replace cr : C[E.nat k]? = some [pI op, pI a, pI b] := cr
      rw [decide_eq_true (by omega)] at dd
      have p2 := eple 0 k k0
      have ek := eadd k k0 (by omega)
      have hstep := ia_step hin hx
      have hN : ν (E.wadd .i64 k 1) < ν k := by rw [hν, hν, ek]; omega
      have u1 := epre rs kk (by omega)
      have u2 := eroom2 kk (by omega)
      have hone : ∀ y, InA code M (rs ++ [y], kk + 1, k + 1, decide (k + 1 = code.length)) → InA code M (E.app rs kk (E.sub [y] 0 1), E.addN kk 1, E.wadd .i64 k 1, decide (k + 1 = code.length)) := fun y h => by
        rw [ek, eaddN, eapp rs kk _ (by omega), esub [y] 1 rfl]; exact h
      have htwo : ∀ y, E.addN kk 1 ≤ (E.app rs kk (E.sub [y] 0 1)).length ∧ (E.app rs kk (E.sub [y] 0 1)).take (E.addN kk 1) = E.app rs kk (E.sub [y] 0 1) := fun y => by
        rw [eaddN, eapp rs kk _ (by omega), esub [y] 1 rfl]
        have hl : (rs ++ [y]).length = kk + 1 := by simp; omega
        exact ⟨by omega, by rw [← hl, List.take_length]⟩
      have u0 : ∀ y : List PV, E.pre 0 1 [y] := fun y => epre _ 1 (by simp)
      clear hx
      cases hq : decide (operandOf op = 5)
      · have hcp : copyI M ⟨op, a, b⟩ = ⟨op, a, b⟩ := if_neg (of_decide_eq_false hq)
        rw [hcp] at hstep
        replace hstep := hone [pI op, pI a, pI b] hstep
        obtain ⟨ht1, ht2⟩ := htwo [pI op, pI a, pI b]
        replace u0 := u0 [pI op, pI a, pI b]
        generalize nameOf op = x1 at *
        generalize operandOf op = od at *
        generalize popsOf op = x3 at *
        generalize pushesOf op = x4 at *
        generalize cntOf op = x5 at *
        generalize jmpOf op = x6 at *
        generalize endsOf op = x7 at *
        cases hlast : decide (k + 1 = (code.length : Int))
        · rw [hlast] at hstep
          cbv
          repeat (first | (refine ⟨p1, ?_⟩; cbv) | (refine ⟨_, gr, ?_⟩; cbv) | (simp only [hCl]; cbv) | simp only [hCl] | (simp only [dd]; cbv) | simp only [dd] | (refine ⟨p2, ?_⟩; cbv) | (refine ⟨_, cr, ?_⟩; cbv) | (refine ⟨_, rd, ?_⟩; cbv) | (simp only [hq]; cbv) | simp only [hq] | (refine ⟨u0,u1,u2, ?_⟩; cbv))
          refine .mk (E.app rs kk (E.sub [[pI op, pI a, pI b]] 0 1), E.addN kk 1, E.wadd .i64 k 1, false) ⟨rfl, rfl, rfl, rfl, rfl⟩ ?_ ?_
          · exact hstep
          · exact hN
        · rw [hlast] at hstep
          cbv
          repeat (first | (refine ⟨p1, ?_⟩; cbv) | (refine ⟨_, gr, ?_⟩; cbv) | (simp only [hCl]; cbv) | simp only [hCl] | (simp only [dd]; cbv) | simp only [dd] | (refine ⟨p2, ?_⟩; cbv) | (refine ⟨_, cr, ?_⟩; cbv) | (refine ⟨_, rd, ?_⟩; cbv) | (simp only [hq]; cbv) | simp only [hq] | (refine ⟨u0,u1,u2, ?_⟩; cbv))
          refine .wk ((E.app rs kk (E.sub [[pI op, pI a, pI b]] 0 1)).take (E.addN kk 1), E.addN kk 1, E.wadd .i64 k 1, true) _ _ (wk_frz (k := 5) (j := 4) (l := 6) rfl rfl rfl ht1) ⟨rfl, rfl, rfl, rfl, rfl⟩ ?_ ?_
          · rw [ht2]; exact hstep
          · exact hN
      · have hcp : copyI M ⟨op, a, b⟩ = ⟨op, IntKind.i64.wrap (a + M), b⟩ := if_pos (of_decide_eq_true hq)
        rw [hcp, ← ewa] at hstep
        replace hstep := hone [pI op, pI (E.wadd .i64 a M), pI b] hstep
        obtain ⟨ht1, ht2⟩ := htwo [pI op, pI (E.wadd .i64 a M), pI b]
        replace u0 := u0 [pI op, pI (E.wadd .i64 a M), pI b]
        generalize nameOf op = x1 at *
        generalize operandOf op = od at *
        generalize popsOf op = x3 at *
        generalize pushesOf op = x4 at *
        generalize cntOf op = x5 at *
        generalize jmpOf op = x6 at *
        generalize endsOf op = x7 at *
        cases hlast : decide (k + 1 = (code.length : Int))
        · rw [hlast] at hstep
          cbv
          repeat (first | (refine ⟨p1, ?_⟩; cbv) | (refine ⟨_, gr, ?_⟩; cbv) | (simp only [hCl]; cbv) | simp only [hCl] | (simp only [dd]; cbv) | simp only [dd] | (refine ⟨p2, ?_⟩; cbv) | (refine ⟨_, cr, ?_⟩; cbv) | (refine ⟨_, rd, ?_⟩; cbv) | (simp only [hq]; cbv) | simp only [hq] | (simp only [l1]; cbv) | simp only [l1] | (simp only [eM]; cbv) | simp only [eM] | (refine ⟨u0,u1,u2, ?_⟩; cbv))
          refine .mk (E.app rs kk (E.sub [[pI op, pI (E.wadd .i64 a M), pI b]] 0 1), E.addN kk 1, E.wadd .i64 k 1, false) ⟨rfl, rfl, rfl, rfl, rfl⟩ ?_ ?_
          · exact hstep
          · exact hN
        · rw [hlast] at hstep
          cbv
          repeat (first | (refine ⟨p1, ?_⟩; cbv) | (refine ⟨_, gr, ?_⟩; cbv) | (simp only [hCl]; cbv) | simp only [hCl] | (simp only [dd]; cbv) | simp only [dd] | (refine ⟨p2, ?_⟩; cbv) | (refine ⟨_, cr, ?_⟩; cbv) | (refine ⟨_, rd, ?_⟩; cbv) | (simp only [hq]; cbv) | simp only [hq] | (simp only [l1]; cbv) | simp only [l1] | (simp only [eM]; cbv) | simp only [eM] | (refine ⟨u0,u1,u2, ?_⟩; cbv))
          refine .wk ((E.app rs kk (E.sub [[pI op, pI (E.wadd .i64 a M), pI b]] 0 1)).take (E.addN kk 1), E.addN kk 1, E.wadd .i64 k 1, true) _ _ (wk_frz (k := 5) (j := 4) (l := 6) rfl rfl rfl ht1) ⟨rfl, rfl, rfl, rfl, rfl⟩ ?_ ?_
          · rw [ht2]; exact hstep
          · exact hN
    · obtain ⟨he1, he2⟩ := ia_end hin
      rw [hD] at he1
      subst he1
      rw [decide_eq_false (by omega)] at dd
      cbv
      repeat (first | (refine ⟨p1, ?_⟩; cbv) | (refine ⟨_, gr, ?_⟩; cbv) | (simp only [hCl]; cbv) | simp only [hCl] | (simp only [dd]; cbv) | simp only [dd] | (refine ⟨q0,q1,q2, ?_⟩; cbv))
      refine .mk (E.app rows nn (E.sub [[pS nm, pI kd, pI pr, pI lc, .ro 3 rs, .ro 3 K, .ro 5 L]] 0 1), E.addN nn 1, E.wadd .i64 i 1) ⟨rfl, rfl, rfl, rfl, rfl⟩ ?_ ?_
      · exact hI'
      · exact hM2
  · rw [decide_eq_false hin] at cc
    have hend := ap_end hI (by omega)
    replace hres : pFns (p ++ q.map (copyF M)) = res := hres
    rw [hres] at hend
    have k1 := epre rows nn (by omega)
    have s1 := esub rows nn (by omega)
    cbv
    repeat (first | (simp only [l2]; cbv) | simp only [l2] | (simp only [cc]; cbv) | simp only [cc])
    refine ⟨k1, ?_⟩
    simp only [s1]
    rw [hend]
end Go.Proofs.YtlffpgjkhehdmaaDoor
