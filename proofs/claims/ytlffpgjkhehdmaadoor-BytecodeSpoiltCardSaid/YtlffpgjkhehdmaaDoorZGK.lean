/- Own work: bytecode.copied. -/
import Derived.Test.YtlffpgjkhehdmaaDoorZGG
import Derived.Test.YtlffpgjkhehdmaaDoorZGB
namespace Go.Proofs.YtlffpgjkhehdmaaDoor
open Go.RowKit
set_option maxRecDepth 100000

theorem operand_ret (op : Int) : RT 38 [pI op] (pI (operandOf op)) :=
  ret_v Tryd.func38 (by kernel_rfl) (by kernel_rfl) [.int .i64 op] _ fun w _ => (operand_any op w).mono fun e w' ⟨h1, h2⟩ => ⟨_, h1, by subst h2; exact Gr.refl _, fun _ => .v _⟩
def copyI (more : Int) (x : Ins) : Ins := if operandOf x.op = 5 then { x with a := IntKind.i64.wrap (x.a + more) } else x
def copyF (more : Int) (f : Fn) : Fn := { f with code := f.code.map (copyI more) }
structure CpI (code : List Ins) (more : Int) (x : List (List PV) × Int) : Prop where
  i0 : 0 ≤ x.2
  i1 : x.2 ≤ code.length
  rs : x.1 = pCode ((code.take x.2.toNat).map (copyI more) ++ code.drop x.2.toNat)
section
variable {code : List Ins} {more i : Int} {rows : List (List PV)} {x : Ins}
theorem cp_split (h : CpI code more (rows, i)) (hx : code[i.toNat]? = some x) : rows = pCode ((code.take i.toNat).map (copyI more) ++ x :: code.drop (i.toNat + 1)) ∧ ((code.take i.toNat).map (copyI more)).length = i.toNat := by
  obtain ⟨h1, h2⟩ := List.getElem?_eq_some_iff.1 hx
  refine ⟨?_, by rw [List.length_map, List.length_take]; omega⟩
  rw [← h2, ← List.drop_eq_getElem_cons h1]
  exact h.rs
theorem cp_row (h : CpI code more (rows, i)) (hx : code[i.toNat]? = some x) : rows[i.toNat]? = some (pIns x) := by
  obtain ⟨h1, h2⟩ := cp_split h hx
  rw [h1, pCode, List.getElem?_map, List.getElem?_append_right (by omega), h2, Nat.sub_self]
  rfl
theorem cp_set (h : CpI code more (rows, i)) (hx : code[i.toNat]? = some x) : CpI code more (rows.set i.toNat (pIns (copyI more x)), i + 1) := by
  have hi0 := h.i0
  have hi1 := (List.getElem?_eq_some_iff.1 hx).1
  obtain ⟨h1, h2⟩ := cp_split h hx
  simp only at hi0
  refine ⟨by simp only; omega, by simp only; omega, ?_⟩
  simp only
  have e : (i + 1).toNat = i.toNat + 1 := by omega
  rw [e, List.take_add_one, hx, h1]
  simp only [pCode, List.map_append, Option.toList_some, List.map_cons, List.map_nil]
  rw [List.set_append_right _ _ (by rw [List.length_map, h2]; exact Nat.le_refl _), List.length_map, h2, Nat.sub_self]
  simp
theorem cp_skip (h : CpI code more (rows, i)) (hx : code[i.toNat]? = some x) (he : copyI more x = x) : CpI code more (rows, i + 1) := by
  have := cp_set h hx
  rw [he] at this
  have hr := cp_row h hx
  have hs : rows.set i.toNat (pIns x) = rows := by
    obtain ⟨q1, q2⟩ := List.getElem?_eq_some_iff.1 hr
    rw [← q2]; exact List.set_getElem_self q1
  rwa [hs] at this
theorem cp_len (h : CpI code more (rows, i)) : rows.length = code.length := by
  have h1 := h.i1
  have h0 := h.i0
  have := h.rs
  simp only at this h1 h0
  rw [this, pCode, List.length_map, List.length_append, List.length_map, List.length_take, List.length_drop]
  omega
theorem cp_end (h : CpI code more (rows, i)) (hi : ¬ i < code.length) : rows = pCode (code.map (copyI more)) := by
  have := h.rs
  simp only at this
  rw [this, List.take_of_length_le (by omega), List.drop_eq_nil_of_le (by omega), List.append_nil]
end
set_option maxHeartbeats 1000000 in
theorem copied_ret (f : Fn) (more : Int) (h1 : f.code.length ≤ 100000) (h2 : f.consts.length ≤ 100000) (h3 : f.hdls.length ≤ 100000) : RT 41 [.agg (pFn f), pI more] (.agg (pFn (copyF more f))) := by
  unfold copyF pFn
  simp only
  obtain ⟨nm, kd, pr, lc, code, cons, hdls⟩ := f
  simp only at h1 h2 h3 ⊢
  have hC : (pCode code).length = code.length := by simp [pCode]
  have hK : (pCons cons).length = cons.length := by simp [pCons]
  have hH : (pHdls hdls).length = hdls.length := by simp [pHdls]
  obtain ⟨C, hCe⟩ : ∃ C, pCode code = C := ⟨_, rfl⟩
  obtain ⟨D, hDe⟩ : ∃ D, pCode (code.map (copyI more)) = D := ⟨_, rfl⟩
  rw [hCe] at hC
  rw [hCe, hDe]
  generalize pCons cons = K at *
  generalize pHdls hdls = L at *
  obtain ⟨n, hn⟩ : ∃ n, C.length = n := ⟨_, rfl⟩
  obtain ⟨nk, hnk⟩ : ∃ n, K.length = n := ⟨_, rfl⟩
  obtain ⟨nh, hnh⟩ : ∃ n, L.length = n := ⟨_, rfl⟩
  have hcn : code.length = n := by rw [← hn, hC]
  obtain ⟨μ, hμ⟩ : ∃ μ : Int → Nat, ∀ i, μ i = code.length - i.toNat := ⟨_, fun _ => rfl⟩
  have hop := fun op => operand_ret op
  refine ret_by tyT_ok tabs_gr mixed (fun _ => 0) Tryd.func41 rfl (by kernel_rfl) (by kernel_rfl) rfl fun P G E hc hE => ?_
  have m1 : E.room 0 n 24 := by rw [hE]; exact ⟨by unfold maxLen; omega, by omega⟩
  have m2 : E.room 0 nk 32 := by rw [hE]; exact ⟨by unfold maxLen; omega, by omega⟩
  have m3 : E.room 0 nh 40 := by rw [hE]; exact ⟨by unfold maxLen; omega, by omega⟩
  have elt : ∀ a b, E.lti a b = decide (a < b) := fun a b => by rw [hE]; rfl
  have eofn : ∀ n, E.ofN n = (n : Int) := fun n => by rw [hE]; rfl
  have enat : ∀ i, E.addN 0 (E.nat i) = i.toNat := fun i => by rw [hE]; exact Nat.zero_add _
  have eple : ∀ a b, a ≤ b → E.ple a b := fun a b h => by rw [hE]; exact h
  have eplt : ∀ a b, a < b → E.plt a b := fun a b h => by rw [hE]; exact h
  have eadd : ∀ i : Int, 0 ≤ i → i ≤ 100000 → E.wadd .i64 i 1 = i + 1 := fun i h0 h1 => by rw [hE]; exact wrap_i64_in (by omega) (by omega)
  have eput : ∀ rs r row, E.put rs r row = rs.set r row := fun rs r row => by rw [hE]; rfl
  have epre : ∀ rs : List (List PV), rs.length = n → E.pre 0 n rs := fun rs h => by rw [hE]; show 0 + n ≤ rs.length; omega
  have esub : ∀ rs : List (List PV), rs.length = n → E.sub rs 0 n = rs := fun rs h => by rw [hE]; show (rs.drop 0).take n = rs; rw [List.drop_zero, ← h, List.take_length]
  have k2 : E.pre 0 nk K := by rw [hE]; show 0 + nk ≤ K.length; omega
  have k3 : E.pre 0 nh L := by rw [hE]; show 0 + nh ≤ L.length; omega
  have s2 : E.sub K 0 nk = K := by rw [hE]; show (K.drop 0).take nk = K; rw [List.drop_zero, ← hnk, List.take_length]
  have s3 : E.sub L 0 nh = L := by rw [hE]; show (L.drop 0).take nh = L; rw [List.drop_zero, ← hnh, List.take_length]
  have ewa : ∀ a : Int, E.wadd .i64 a more = IntKind.i64.wrap (a + more) := fun a => by rw [hE]; rfl
  have l1 := hn
  have l2 := hnk
  have l3 := hnh
  cbv at l1
  cbv at l2
  cbv at l3
  cbv
  simp only [l1, l2, l3]
  refine ⟨m1, m2, m3, ?_⟩
  refine loop_by 43 [1, 2, 4, 20, 21, 22] 5 (fun x : List (List PV) × Int => [.p (pI more), .own 0 0, .own 1 0, .osl 2 0 n, .p (pI (E.ofN n)), .p (pI x.2)]) (fun x => [some (.box [.p (pS nm), .p (pI kd), .p (pI pr), .p (pI lc), .osl 2 0 n, .osl 3 0 nk, .osl 4 0 nh] 50 none), some (.box [.p (pS ⟨#[]⟩), .p (pI 0), .p (pI 0), .p (pI 0), .p (.v (.slice none 0 0)), .p (.v (.slice none 0 0)), .p (.v (.slice none 0 0))] 50 none), some (.rows 3 x.1 54), some (.rows 3 K 69), some (.rows 5 L 56)]) (CpI code more) (fun x => μ x.2) (C, 0) ⟨rfl, rfl, rfl, rfl, rfl⟩ ⟨by simp, by simp, by simp only; rw [← hCe]; simp⟩ ?_
  rintro ⟨rows, i⟩ hI
  have i0 := hI.i0
  have i1 := hI.i1
  simp only at i0 i1
  replace hcn : code.length = n := hcn
  replace h1 : code.length ≤ 100000 := h1
  have hrl := cp_len hI
  have c1 : E.lti i (E.ofN n) = decide (i < (n : Int)) := by rw [eofn, elt]
  by_cases hin : i < (n : Int)
  · rw [decide_eq_true hin] at c1
    obtain ⟨⟨op, a, b⟩, hx⟩ : ∃ x, code[i.toNat]? = some x := ⟨_, List.getElem?_eq_getElem (by omega)⟩
    have hr : rows[E.addN 0 (E.nat i)]? = some [pI op, pI a, pI b] := by rw [enat]; exact cp_row hI hx
    have p1 := eple 0 i i0
    have p2 : E.plt i (E.ofN n) := by rw [eofn]; exact eplt _ _ hin
    have ei := eadd i i0 (by omega)
    have hd := hc _ _ _ (hop op)
    have hM : μ (E.wadd .i64 i 1) < μ i := by rw [hμ, hμ, ei]; omega
    cases hq : decide (operandOf op = 5)
    · have hcp : copyI more ⟨op, a, b⟩ = ⟨op, a, b⟩ := if_neg (of_decide_eq_false hq)
      have hI' := cp_skip hI hx hcp
      rw [← ei] at hI'
      generalize operandOf op = od at *
      clear hx
      cbv
      repeat (first | (simp only [c1]; cbv) | simp only [c1] | (refine ⟨p1,p2, ?_⟩; cbv) | (refine ⟨_, hr, ?_⟩; cbv) | (refine ⟨_, hd, ?_⟩; cbv) | (simp only [hq]; cbv) | simp only [hq])
      refine .mk (rows, E.wadd .i64 i 1) ⟨rfl, rfl, rfl, rfl, rfl⟩ ?_ ?_
      · exact hI'
      · exact hM
    · have hcp : copyI more ⟨op, a, b⟩ = ⟨op, IntKind.i64.wrap (a + more), b⟩ := if_pos (of_decide_eq_true hq)
      have hI' := cp_set hI hx
      rw [hcp, ← ei, ← enat, ← eput, ← ewa] at hI'
      replace hI' : CpI code more (E.put rows (E.addN 0 (E.nat i)) [pI op, pI (E.wadd .i64 a more), pI b], E.wadd .i64 i 1) := hI'
      generalize operandOf op = od at *
      clear hx
      cbv
      repeat (first | (simp only [c1]; cbv) | simp only [c1] | (refine ⟨p1,p2, ?_⟩; cbv) | (refine ⟨_, hr, ?_⟩; cbv) | (refine ⟨_, hd, ?_⟩; cbv) | (simp only [hq]; cbv) | simp only [hq])
      refine .mk (E.put rows (E.addN 0 (E.nat i)) [pI op, pI (E.wadd .i64 a more), pI b], E.wadd .i64 i 1) ⟨rfl, rfl, rfl, rfl, rfl⟩ ?_ ?_
      · exact hI'
      · exact hM
  · rw [decide_eq_false hin] at c1
    have hend := cp_end hI (by omega)
    rw [hDe] at hend
    have k1 := epre rows (by omega)
    have s1 := esub rows (by omega)
    cbv
    repeat (first | (simp only [c1]; cbv) | simp only [c1])
    refine ⟨k1, k2, k3, ?_⟩
    simp only [s1, s2, s3]
    rw [hend]
end Go.Proofs.YtlffpgjkhehdmaaDoor

/- Own work: bytecode.Append. -/
namespace Go.Proofs.YtlffpgjkhehdmaaDoor
open Go.RowKit
set_option maxRecDepth 100000
set_option linter.unusedSimpArgs false

abbrev pZero : PV := .agg [.v (.slice none 0 0)]
theorem append_bad1 (p q : List Fn) (hp : RT 36 [pProg p] (pB false)) : RT 22 [pProg p, pProg q] (.tup [pZero, pI 3]) := by
  unfold pProg at *
  generalize pFns p = P' at *
  generalize pFns q = Q' at *
  refine ret_by tyT_ok tabs_gr mixed (fun n => match n with | 9 => 5 | 14 => 8 | _ => 0) Tryd.func22 rfl (by kernel_rfl) (by kernel_rfl) rfl fun P G E hc hE => ?_
  replace hp := hc _ _ _ hp
  cbv
  repeat (first | (refine ⟨_, hp, ?_⟩; cbv))
theorem append_bad2 (p q : List Fn) (hp : RT 36 [pProg p] (pB true)) (hq : RT 36 [pProg q] (pB false)) : RT 22 [pProg p, pProg q] (.tup [pZero, pI 3]) := by
  unfold pProg at *
  generalize pFns p = P' at *
  generalize pFns q = Q' at *
  refine ret_by tyT_ok tabs_gr mixed (fun n => match n with | 9 => 5 | 14 => 8 | _ => 0) Tryd.func22 rfl (by kernel_rfl) (by kernel_rfl) rfl fun P G E hc hE => ?_
  replace hp := hc _ _ _ hp
  replace hq := hc _ _ _ hq
  cbv
  repeat (first | (refine ⟨_, hp, ?_⟩; cbv) | (refine ⟨_, hq, ?_⟩; cbv))
theorem append_many (p q : List Fn) (hp : RT 36 [pProg p] (pB true)) (hq : RT 36 [pProg q] (pB true)) (hm : 4096 < p.length + q.length) (h1 : p.length ≤ 100000) (h2 : q.length ≤ 100000) : RT 22 [pProg p, pProg q] (.tup [pZero, pI 5]) := by
  unfold pProg at *
  have l1 : (pFns p).length = p.length := by simp [pFns]
  have l2 : (pFns q).length = q.length := by simp [pFns]
  generalize pFns p = P' at *
  generalize pFns q = Q' at *
  generalize p.length = n1 at *
  generalize q.length = n2 at *
  refine ret_by tyT_ok tabs_gr mixed (fun n => match n with | 9 => 5 | 14 => 8 | _ => 0) Tryd.func22 rfl (by kernel_rfl) (by kernel_rfl) rfl fun P G E hc hE => ?_
  replace hp := hc _ _ _ hp
  replace hq := hc _ _ _ hq
  have c1 : E.lti 4096 (E.wadd .i64 (E.ofN n1) (E.ofN n2)) = true := by
    rw [hE]
    refine decide_eq_true ?_
    show (4096 : Int) < IntKind.i64.wrap ((n1 : Int) + n2)
    rw [wrap_i64_in (by omega) (by omega)]
    omega
  cbv at l1
  cbv at l2
  cbv
  repeat (first | (refine ⟨_, hp, ?_⟩; cbv) | (refine ⟨_, hq, ?_⟩; cbv) | (simp only [l1,l2]; cbv) | simp only [l1,l2] | (simp only [l1]; cbv) | simp only [l1] | (simp only [l2]; cbv) | simp only [l2] | (simp only [c1]; cbv) | simp only [c1])
/-- the functions that have been appended -/
structure ApI (pre src : List Fn) (more : Int) (x : List (List PV) × Nat × Int) : Prop where
  i0 : 0 ≤ x.2.2
  i1 : x.2.2 ≤ src.length
  rs : x.1 = pFns (pre ++ (src.take x.2.2.toNat).map (copyF more))
  nn : x.2.1 = pre.length + x.2.2.toNat
section
variable {pre src : List Fn} {more i : Int} {rows : List (List PV)} {nn : Nat} {f : Fn}
theorem ap_len (h : ApI pre src more (rows, nn, i)) : rows.length = nn := by
  have h0 := h.i0
  have h1 := h.i1
  have h2 := h.rs
  have h3 := h.nn
  simp only at h0 h1 h2 h3
  rw [h2, h3, pFns, List.length_map, List.length_append, List.length_map, List.length_take]
  omega
theorem ap_step (h : ApI pre src more (rows, nn, i)) (hf : src[i.toNat]? = some f) : ApI pre src more (rows ++ [pFn (copyF more f)], nn + 1, i + 1) := by
  have h0 := h.i0
  have h1 := (List.getElem?_eq_some_iff.1 hf).1
  have h2 := h.rs
  have h3 := h.nn
  simp only at h0 h2 h3
  have e : (i + 1).toNat = i.toNat + 1 := by omega
  refine ⟨by simp only; omega, by simp only; omega, ?_, ?_⟩
  · simp only
    rw [e, List.take_add_one, hf, h2]
    simp [pFns]
  · simp only
    rw [e, h3]; omega
theorem ap_end (h : ApI pre src more (rows, nn, i)) (hi : ¬ i < src.length) : rows = pFns (pre ++ src.map (copyF more)) := by
  have h2 := h.rs
  simp only at h2
  rw [h2, List.take_of_length_le (by omega)]
end
structure FnSm (f : Fn) : Prop where
  l1 : f.code.length ≤ 100000
  l2 : f.consts.length ≤ 100000
  l3 : f.hdls.length ≤ 100000
/-- a row, and what copied makes of it -/
theorem copied_row (f : Fn) (h : FnSm f) (more : Int) : ∃ nm kd pr lc C C' K L, pFn f = [pS nm, pI kd, pI pr, pI lc, .ro 3 C, .ro 3 K, .ro 5 L] ∧ pFn (copyF more f) = [pS nm, pI kd, pI pr, pI lc, .ro 3 C', .ro 3 K, .ro 5 L] ∧
    RT 41 [.agg [pS nm, pI kd, pI pr, pI lc, .ro 3 C, .ro 3 K, .ro 5 L], pI more] (.agg [pS nm, pI kd, pI pr, pI lc, .ro 3 C', .ro 3 K, .ro 5 L]) :=
  ⟨_, _, _, _, _, _, _, _, rfl, rfl, copied_ret f more h.l1 h.l2 h.l3⟩
set_option maxHeartbeats 2000000 in
theorem append_ok (p q : List Fn) (hp : RT 36 [pProg p] (pB true)) (hq : RT 36 [pProg q] (pB true)) (bb : p.length + q.length ≤ 4096) (sp : ∀ f ∈ p, FnSm f) (sq : ∀ f ∈ q, FnSm f) :
    RT 22 [pProg p, pProg q] (.tup [pProg (p.map (copyF 0) ++ q.map (copyF p.length)), pI 0]) := by
  obtain ⟨M, hM⟩ : ∃ M : Int, (p.length : Int) = M := ⟨_, rfl⟩
  rw [hM]
  obtain ⟨pre, hpre⟩ : ∃ l, p.map (copyF 0) = l := ⟨_, rfl⟩
  have hprl : pre.length = p.length := by rw [← hpre, List.length_map]
  rw [hpre]
  obtain ⟨res, hres⟩ : ∃ r, pFns (pre ++ q.map (copyF M)) = r := ⟨_, rfl⟩
  unfold pProg at *
  rw [hres]
  have l1 : (pFns p).length = p.length := by simp [pFns]
  have l2 : (pFns q).length = q.length := by simp [pFns]
  have g1 : ∀ (i : Nat) f, p[i]? = some f → (pFns p)[i]? = some (pFn f) := fun i f h => by rw [pFns, List.getElem?_map, h]; rfl
  have g2 : ∀ (i : Nat) f, q[i]? = some f → (pFns q)[i]? = some (pFn f) := fun i f h => by rw [pFns, List.getElem?_map, h]; rfl
  generalize pFns p = P' at *
  generalize pFns q = Q' at *
  obtain ⟨n1, hn1⟩ : ∃ n, p.length = n := ⟨_, rfl⟩
  obtain ⟨n2, hn2⟩ : ∃ n, q.length = n := ⟨_, rfl⟩
  rw [hn1] at l1
  rw [hn2] at l2
  obtain ⟨μ, hμ⟩ : ∃ μ : Int → Nat, ∀ i, μ i = 10000 - i.toNat := ⟨_, fun _ => rfl⟩
  refine ret_by tyT_ok tabs_gr mixed (fun n => match n with | 9 => 5 | 14 => 8 | _ => 0) Tryd.func22 rfl (by kernel_rfl) (by kernel_rfl) rfl fun P G E hc hE => ?_
  replace hp := hc _ _ _ hp
  replace hq := hc _ _ _ hq
  have c1 : E.lti 4096 (E.wadd .i64 (E.ofN n1) (E.ofN n2)) = false := by
    rw [hE]
    refine decide_eq_false ?_
    show ¬ (4096 : Int) < IntKind.i64.wrap ((n1 : Int) + n2)
    rw [wrap_i64_in (by omega) (by omega)]
    omega
  have elt : ∀ a b, E.lti a b = decide (a < b) := fun a b => by rw [hE]; rfl
  have eofn : ∀ n, E.ofN n = (n : Int) := fun n => by rw [hE]; rfl
  have enat : ∀ i, E.nat i = i.toNat := fun i => by rw [hE]; rfl
  have eple : ∀ a b, a ≤ b → E.ple a b := fun a b h => by rw [hE]; exact h
  have eadd : ∀ i : Int, 0 ≤ i → i ≤ 100000 → E.wadd .i64 i 1 = i + 1 := fun i h0 h1 => by rw [hE]; exact wrap_i64_in (by omega) (by omega)
  have eaddN : ∀ n m, E.addN n m = n + m := fun n m => by rw [hE]; rfl
  have epre : ∀ (rs : List (List PV)) n, n ≤ rs.length → E.pre 0 n rs := fun rs n h => by rw [hE]; show 0 + n ≤ rs.length; omega
  have esub : ∀ (rs : List (List PV)) n, rs.length = n → E.sub rs 0 n = rs := fun rs n h => by rw [hE]; show (rs.drop 0).take n = rs; rw [List.drop_zero, ← h, List.take_length]
  have eapp : ∀ (rs : List (List PV)) n row, rs.length = n → E.app rs n row = rs ++ row := fun rs n row h => by rw [hE]; show rs.take n ++ row = _; rw [← h, List.take_length]
  have eroom : ∀ n, n ≤ 10000 → E.room n 1 112 := fun n h => by rw [hE]; exact ⟨by unfold maxLen; omega, by omega⟩
  have eM : E.ofN n1 = M := by rw [eofn, ← hM, hn1]
  cbv at l1
  cbv at l2
  cbv
  repeat (first | (refine ⟨_, hp, ?_⟩; cbv) | (refine ⟨_, hq, ?_⟩; cbv) | (simp only [l1,l2]; cbv) | simp only [l1,l2] | (simp only [l1]; cbv) | simp only [l1] | (simp only [l2]; cbv) | simp only [l2] | (simp only [c1]; cbv) | simp only [c1])
  refine LoopA.wk (wk_nil (k := 3) (j := 0) 7 50 rfl rfl) ?_
  refine loop_by 63 [2, 3, 4, 6, 30, 31, 32] 5 (fun x : List (List PV) × Nat × Int => [.own 0 0, .own 1 0, .own 2 0, .own 3 0, .p (.ro 7 P'), .p (pI (E.ofN n1)), .p (pI x.2.2)]) (fun x => [some (.box [.p (.ro 7 P')] 33 none), some (.box [.p (.ro 7 Q')] 33 none), some (.box [.p (.v (.slice none 0 0))] 33 none), some (.box [.osl 4 0 x.2.1] 33 none), some (.rows 7 x.1 50)]) (ApI [] p 0) (fun x => μ x.2.2) ([], 0, 0) ⟨rfl, rfl, rfl, rfl, rfl⟩ ⟨by simp, by simp, by simp [pFns], by simp⟩ ?_
  rintro ⟨rows, nn, i⟩ hI
  have i0 := hI.i0
  have i1 := hI.i1
  have hnn := hI.nn
  simp only [List.length_nil, Nat.zero_add, List.length_map] at i0 i1 hnn
  replace hn1 : p.length = n1 := hn1
  replace hn2 : q.length = n2 := hn2
  replace hprl : pre.length = p.length := hprl
  replace bb : p.length + q.length ≤ 4096 := bb
  have hrl := ap_len hI
  skip
  have hnb : nn ≤ 4096 := by omega
  have cc : E.lti i (E.ofN n1) = decide (i < (n1 : Int)) := by rw [eofn, elt]
  by_cases hin : i < (n1 : Int)
  · rw [decide_eq_true hin] at cc
    obtain ⟨f, hf⟩ : ∃ f, p[i.toNat]? = some f := ⟨_, List.getElem?_eq_getElem (by omega)⟩
    obtain ⟨nm, kd, pr, lc, C, C', K, L, hr1, hr2, hcop⟩ := copied_row f (sp f (List.mem_of_getElem? hf)) 0
    have gr := g1 _ _ hf
    rw [hr1, ← enat] at gr
    replace hcop := hc _ _ _ hcop
    have p1 := eple 0 i i0
    have q0 : E.pre 0 1 [[pS nm, pI kd, pI pr, pI lc, .ro 3 C', .ro 3 K, .ro 5 L]] := epre _ 1 (by simp)
    have q1 := epre rows nn (by omega)
    have q2 := eroom nn (by omega)
    have ei := eadd i i0 (by omega)
    have hM2 : μ (E.wadd .i64 i 1) < μ i := by rw [hμ, hμ, ei]; omega
    have hI' := ap_step hI hf
    rw [hr2, ← ei, ← eaddN, ← eapp rows nn _ (by omega), ← esub [[pS nm, pI kd, pI pr, pI lc, .ro 3 C', .ro 3 K, .ro 5 L]] 1 rfl] at hI'
    clear hf hr1 hr2
    cbv
    repeat (first | (simp only [cc]; cbv) | simp only [cc] | (refine ⟨p1, ?_⟩; cbv) | (refine ⟨_, gr, ?_⟩; cbv) | (simp only [l1]; cbv) | simp only [l1] | (simp only [eM]; cbv) | simp only [eM] | (refine ⟨_, hcop, ?_⟩; cbv) | (refine ⟨q0,q1,q2, ?_⟩; cbv))
    refine .mk (E.app rows nn (E.sub [[pS nm, pI kd, pI pr, pI lc, .ro 3 C', .ro 3 K, .ro 5 L]] 0 1), E.addN nn 1, E.wadd .i64 i 1) ⟨rfl, rfl, rfl, rfl, rfl⟩ ?_ ?_
    · exact hI'
    · exact hM2
  · rw [decide_eq_false hin] at cc
    have hend := ap_end hI (by omega)
    skip
    rw [List.nil_append] at hend
    replace hprl : pre.length = p.length := hprl
    rw [hpre] at hend
    have hx0 : ApI pre q M (rows, nn, 0) := ⟨by simp, by simp, by simp only; rw [hend]; simp, by simp only [Int.toNat_zero]; omega⟩
    replace hres : pFns (pre ++ q.map (copyF M)) = res := hres
    clear hI i0 i1 hnn hrl hnb hend hin
    cbv
    repeat (first | (simp only [cc]; cbv) | simp only [cc] | (simp only [l2]; cbv) | simp only [l2])
    refine loop_by 63 [2, 3, 4, 6, 45, 46, 47] 5 (fun x : List (List PV) × Nat × Int => [.own 0 0, .own 1 0, .own 2 0, .own 3 0, .p (.ro 7 Q'), .p (pI (E.ofN n2)), .p (pI x.2.2)]) (fun x => [some (.box [.p (.ro 7 P')] 33 none), some (.box [.p (.ro 7 Q')] 33 none), some (.box [.p (.v (.slice none 0 0))] 33 none), some (.box [.osl 4 0 x.2.1] 33 none), some (.rows 7 x.1 50)]) (ApI pre q M) (fun x => μ x.2.2) (rows, nn, 0) ⟨rfl, rfl, rfl, rfl, rfl⟩ hx0 ?_
    clear hx0 cc
    clear rows nn i
    rintro ⟨rows, nn, i⟩ hI
    have i0 := hI.i0
    have i1 := hI.i1
    have hnn := hI.nn
    simp only [List.length_nil, Nat.zero_add, List.length_map] at i0 i1 hnn
    replace hn1 : p.length = n1 := hn1
    replace hn2 : q.length = n2 := hn2
    replace hprl : pre.length = p.length := hprl
    replace bb : p.length + q.length ≤ 4096 := bb
    have hrl := ap_len hI
    skip
    have hnb : nn ≤ 4096 := by omega
    have cc : E.lti i (E.ofN n2) = decide (i < (n2 : Int)) := by rw [eofn, elt]
    by_cases hin : i < (n2 : Int)
    · rw [decide_eq_true hin] at cc
      obtain ⟨f, hf⟩ : ∃ f, q[i.toNat]? = some f := ⟨_, List.getElem?_eq_getElem (by omega)⟩
      obtain ⟨nm, kd, pr, lc, C, C', K, L, hr1, hr2, hcop⟩ := copied_row f (sq f (List.mem_of_getElem? hf)) M
      have gr := g2 _ _ hf
      rw [hr1, ← enat] at gr
      replace hcop := hc _ _ _ hcop
      have p1 := eple 0 i i0
      have q0 : E.pre 0 1 [[pS nm, pI kd, pI pr, pI lc, .ro 3 C', .ro 3 K, .ro 5 L]] := epre _ 1 (by simp)
      have q1 := epre rows nn (by omega)
      have q2 := eroom nn (by omega)
      have ei := eadd i i0 (by omega)
      have hM2 : μ (E.wadd .i64 i 1) < μ i := by rw [hμ, hμ, ei]; omega
      have hI' := ap_step hI hf
      rw [hr2, ← ei, ← eaddN, ← eapp rows nn _ (by omega), ← esub [[pS nm, pI kd, pI pr, pI lc, .ro 3 C', .ro 3 K, .ro 5 L]] 1 rfl] at hI'
      clear hf hr1 hr2
      cbv
      repeat (first | (simp only [cc]; cbv) | simp only [cc] | (refine ⟨p1, ?_⟩; cbv) | (refine ⟨_, gr, ?_⟩; cbv) | (simp only [l1]; cbv) | simp only [l1] | (simp only [eM]; cbv) | simp only [eM] | (refine ⟨_, hcop, ?_⟩; cbv) | (refine ⟨q0,q1,q2, ?_⟩; cbv))
      refine .mk (E.app rows nn (E.sub [[pS nm, pI kd, pI pr, pI lc, .ro 3 C', .ro 3 K, .ro 5 L]] 0 1), E.addN nn 1, E.wadd .i64 i 1) ⟨rfl, rfl, rfl, rfl, rfl⟩ ?_ ?_
      · exact hI'
      · exact hM2
    · rw [decide_eq_false hin] at cc
      have hend := ap_end hI (by omega)
      skip
      replace hres : pFns (pre ++ q.map (copyF M)) = res := hres
      rw [hres] at hend
      have k1 := epre rows nn (by omega)
      have s1 := esub rows nn (by omega)
      cbv
      repeat (first | (simp only [cc]; cbv) | simp only [cc])
      refine ⟨k1, ?_⟩
      simp only [s1]
      rw [hend]
end Go.Proofs.YtlffpgjkhehdmaaDoor
