/- Own work: bytecode.Decode. -/
import Derived.Test.YtlffpgjkhehdmaaDoorZRD3
import Derived.Test.YtlffpgjkhehdmaaDoorZGM
import Derived.Test.YtlffpgjkhehdmaaDoorZGK
namespace Go.Proofs.YtlffpgjkhehdmaaDoor
open Go.RowKit
set_option maxRecDepth 100000
set_option linter.unusedSimpArgs false

theorem rStr_sz (d : ByteArray) (st : RS) : (rStr d st).1.size ≤ d.size := by
  unfold rStr
  split
  · cases hn : numF 0 0 (restL d st) with
    | none => exact Nat.zero_le _
    | some nk =>
      obtain ⟨n, k⟩ := nk
      simp only
      split
      · exact Nat.zero_le _
      · rw [ofL_size, List.length_take, List.length_drop, rest_len]
        omega
  · exact Nat.zero_le _
theorem rLoop_len {α : Type} (step : RS → α × RS) : ∀ (n : Nat) (st : RS), (rLoop step n st).1.length ≤ n
  | 0, _ => Nat.le_refl _
  | n + 1, st => by
    unfold rLoop
    split
    · have := rLoop_len step n (step st).2
      simp only [List.length_cons]
      omega
    · exact Nat.zero_le _
theorem rLoop_mem {α : Type} {step : RS → α × RS} {q : α → Prop} (h : ∀ st, q (step st).1) : ∀ (n : Nat) (st : RS), ∀ x ∈ (rLoop step n st).1, q x
  | 0, _, x, hx => by simp [rLoop] at hx
  | n + 1, st, x, hx => by
    unfold rLoop at hx
    split at hx
    · rcases List.mem_cons.1 hx with rfl | hx
      · exact h st
      · exact rLoop_mem h n _ x hx
    · simp at hx
theorem rCount_most (d : ByteArray) (most : Nat) (st : RS) : (rCount d most st).1 ≤ most := by
  unfold rCount
  split
  · cases hn : numF 0 0 (restL d st) with
    | none => exact Nat.zero_le _
    | some nk =>
      simp only
      split
      · exact Nat.zero_le _
      · simp only; omega
  · exact Nat.zero_le _
theorem rFn_sz (d : ByteArray) (hd : d.size ≤ 1000000000) (st : RS) : FnSz (rFn d st).1 := by
  unfold rFn
  refine ⟨?_, ?_, ?_, ?_, ?_⟩
  · have := rStr_sz d st
    simp only
    omega
  · exact Nat.le_trans (rLoop_len _ _ _) (Nat.le_trans (rCount_most _ _ _) (by decide))
  · exact Nat.le_trans (rLoop_len _ _ _) (Nat.le_trans (rCount_most _ _ _) (by decide))
  · exact Nat.le_trans (rLoop_len _ _ _) (Nat.le_trans (rCount_most _ _ _) (by decide))
  · refine rLoop_mem (q := fun c : Cst => c.str.size ≤ 9223372036854775807) (fun st => ?_) _ _
    unfold rCst
    split
    · have := rStr_sz d (rInt d st).2
      simp only
      omega
    · exact Nat.zero_le _
theorem rFn_le (d : ByteArray) (st : RS) (h : st.at_ ≤ d.size) : (rFn d st).2.at_ ≤ d.size := by
  unfold rFn
  exact loop_le (hdl_le d) _ _ (rCount_le (loop_le (cst_le d) _ _ (rCount_le (loop_le (ins_le d) _ _ (rCount_le (rInt_le (rInt_le (rInt_le (rStr_le h))))).1)).1)).1
theorem rProg_sz (d : ByteArray) (hd : d.size ≤ 1000000000) : ∀ f ∈ (rProg d).1, FnSz f := rLoop_mem (rFn_sz d hd) _ _
theorem rProg_len (d : ByteArray) : (rProg d).1.length ≤ 4096 := Nat.le_trans (rLoop_len _ _ _) (rCount_most _ _ _)
/-- what Decode answers -/
def decOk (d : ByteArray) : Bool := decide (rDone d (rProg d).2 = 0) && progF (rProg d).1
def pDec (d : ByteArray) : PV := if decOk d then .tup [pProg (rProg d).1, pI 0] else .tup [pZero, pI 3]
set_option maxHeartbeats 8000000 in
theorem decode_ret (d : ByteArray) (hd : d.size ≤ 1000000000) : RT 33 [pS d] (pDec d) := by
  have c1 := upC (count_rd d 4096 (by omega) ⟨0, 0⟩ (Nat.zero_le _) hd)
  obtain ⟨l1, m1⟩ := rCount_le (d := d) (most := 4096) (st := ⟨0, 0⟩) (Nat.zero_le _)
  have hsz := rProg_sz d hd
  have hln := rProg_len d
  have cd := fun st => upC (done_rd d st)
  unfold pDec decOk
  unfold rProg at hsz hln ⊢
  obtain ⟨⟨n1, s1⟩, h1⟩ : ∃ x, rCount d 4096 ⟨0, 0⟩ = x := ⟨_, rfl⟩
  rw [h1] at c1 l1 m1 hsz hln
  rw [h1]
  simp only at c1 l1 m1 hsz hln ⊢
  obtain ⟨⟨fs, s2⟩, h2⟩ : ∃ x, rLoop (rFn d) n1 s1 = x := ⟨_, rfl⟩
  rw [h2] at hsz hln
  rw [h2]
  simp only at hsz hln ⊢
  replace cd := cd s2
  have cf := formed_ret fs hsz (by omega)
  have w1 : RdI d (rFn d) pFns 4096 (fs, s2) ((n1 : Int), (s1.at_ : Int), s1.err, [], 0) := ⟨Int.natCast_nonneg _, s1, [], rfl, rfl, l1, rfl, rfl, by simp only [List.length_nil]; omega, by rw [show ((n1 : Nat) : Int).toNat = n1 by omega, h2]; rfl⟩
  obtain ⟨q, hq⟩ : ∃ q, (if (decide (rDone d s2 = 0) && progF fs) = true then PV.tup [pProg fs, pI 0] else PV.tup [pZero, pI 3]) = q := ⟨_, rfl⟩
  rw [hq]
  obtain ⟨dn, hdn⟩ : ∃ x, rDone d s2 = x := ⟨_, rfl⟩
  rw [hdn] at cd hq
  obtain ⟨pf, hpf⟩ : ∃ x, progF fs = x := ⟨_, rfl⟩
  rw [hpf] at cf hq
  clear h1 h2 l1 m1 hsz hln hdn hpf
  unfold pProg at cf hq
  unfold rH at c1 cd
  have e0 : ((⟨0, 0⟩ : RS).at_ : Int) = 0 := rfl
  have e00 : (⟨0, 0⟩ : RS).err = 0 := rfl
  rw [e0, e00] at c1
  obtain ⟨a1, ea1⟩ : ∃ x : Int, ((s1.at_ : Nat) : Int) = x := ⟨_, rfl⟩
  obtain ⟨a2, ea2⟩ : ∃ x : Int, ((s2.at_ : Nat) : Int) = x := ⟨_, rfl⟩
  obtain ⟨E1, ee1⟩ : ∃ x, s1.err = x := ⟨_, rfl⟩
  obtain ⟨E2, ee2⟩ : ∃ x, s2.err = x := ⟨_, rfl⟩
  obtain ⟨N1, eN1⟩ : ∃ x : Int, ((n1 : Nat) : Int) = x := ⟨_, rfl⟩
  rw [ea1, ee1, eN1] at c1 w1
  rw [ea2, ee2] at cd
  clear ea1 ee1 eN1 e0 e00
  obtain ⟨FS, hFS⟩ : ∃ x, pFns fs = x := ⟨_, rfl⟩
  rw [hFS] at cf hq
  have fr := fun st hl => upC (func_rd d hd st hl)
  refine ret_cut tyT_ok tabs_gr (f := 33) Tryd.func33 rfl (by kernel_rfl) (of_decide_eq_true (by kernel_rfl)) ?_
  refine Seg.cutK 3 38 [2, 3, 4, 5] 3 (fun _ : Unit => [.own 0 0, .p (cI 0), .own 1 0, .own 2 0]) (fun _ => [some (.box [.p (.v (.slice none 0 0))] 33 none), rB d 0 0 none, some (.box [.p (.v (.slice none 0 0))] 33 none)]) (fun _ => True) tyT_ok mixed (fun _ => 0) (fun E => retQ E tyT Tryd.f33.results.toList q) (by kernel_rfl) ?_ ?_
  · intro P G E hc hM hE
    clear c1 cd cf w1 fr hq hE
    cbv
    exact .mk () ⟨rfl, rfl, rfl, rfl, rfl⟩ trivial
  intro _ _
  refine Seg.cut 38 [2, 3, 4, 5] 3 (fun _ : Int × Int => [.own 0 0, .p (cI 0), .own 1 0, .own 2 0]) (fun y => [some (.box [.p (.v (.slice none 0 0))] 33 none), rB d y.1 y.2 none, some (.box [.p (.ro 7 FS)] 33 none)]) (fun y => y = ((s2.at_ : Int), s2.err)) (Q := (fun E => retQ E tyT Tryd.f33.results.toList q) stdE) ?_ ?_
  · refine Seg.cut 38 [2, 3, 4, 5, 6] 3 (fun _ : Unit => [.own 0 0, .p (cI 0), .own 1 0, .own 2 0, .p (cI N1)]) (fun _ => [some (.box [.p (.v (.slice none 0 0))] 33 none), rB d a1 E1 none, some (.box [.p (.v (.slice none 0 0))] 33 none)]) (fun _ => True) ?_ ?_
    · refine Seg.of tyT_ok mixed (fun _ => 0) (by kernel_rfl) (fun E => thenA (CutIs 38 [2, 3, 4, 5, 6] 3 (fun _ : Unit => [.own 0 0, .p (cI 0), .own 1 0, .own 2 0, .p (cI N1)]) (fun _ => [some (.box [.p (.v (.slice none 0 0))] 33 none), rB d a1 E1 none, some (.box [.p (.v (.slice none 0 0))] 33 none)]) (fun _ => True)) (thenA (CutIs 38 [2, 3, 4, 5] 3 (fun _ : Int × Int => [.own 0 0, .p (cI 0), .own 1 0, .own 2 0]) (fun y => [some (.box [.p (.v (.slice none 0 0))] 33 none), rB d y.1 y.2 none, some (.box [.p (.ro 7 FS)] 33 none)]) (fun y => y = ((s2.at_ : Int), s2.err))) (retQ E tyT Tryd.f33.results.toList q))) fun P G E hc hM hE => ?_
      replace c1 := hM _ _ _ _ _ c1
      clear cd cf w1 fr hq hE
      cbv
      refine .mk _ _ (Wk.refl _ _) [1] _ _ _ _ c1 rfl rfl rfl ?_
      cbv
      exact .mk () ⟨rfl, rfl, rfl, rfl, rfl⟩ trivial
    intro _ _
    clear c1
    refine Seg.block ?_
    refine Seg.wk (wk_nil (k := 2) (j := 0) 7 50 rfl rfl) ?_
    obtain ⟨μ, hμ⟩ : ∃ μ : Int → Nat, ∀ i, μ i = i.toNat := ⟨_, fun _ => rfl⟩
    refine Seg.loop 38 [2, 3, 4, 5, 6] 4 (fun y : Int × Int × Int × List (List PV) × Nat => [.own 0 0, .p (cI 0), .own 1 0, .own 2 0, .p (cI y.1)]) (fun y => [some (.box [.p (.v (.slice none 0 0))] 33 none), rB d y.2.1 y.2.2.1 none, some (.box [.osl 3 0 y.2.2.2.2] 33 none), some (.rows 7 y.2.2.2.1 50)]) (RdI d (rFn d) pFns 4096 (fs, s2)) (fun y => μ y.1) (N1, a1, E1, [], 0) ⟨rfl, rfl, rfl, rfl, rfl⟩ w1 ?_
    clear w1
    rintro ⟨n, a, e, rs, m⟩ ⟨n0, st, xs, ha, he, hle, hrs, hm, hlen, hfin⟩
    simp only at n0 ha he hrs hm hlen hfin
    refine Seg.cut 38 [2, 3, 4, 5, 6] 4 (fun _ : Unit => [.own 0 0, .p (cI 0), .own 1 0, .own 2 0, .p (cI n)]) (fun _ => [some (.box [.p (.v (.slice none 0 0))] 33 none), rB d a e none, some (.box [.osl 3 0 m] 33 none), some (.rows 7 rs 50)]) (fun _ => 0 < n ∧ e = 0) ?_ ?_
    · rcases Classical.em (0 < n ∧ e = 0) with hgo | hgo
      · refine Seg.of tyT_ok mixed (fun _ => 0) (by kernel_rfl) (fun E => thenA (CutIs 38 [2, 3, 4, 5, 6] 4 (fun _ : Unit => [.own 0 0, .p (cI 0), .own 1 0, .own 2 0, .p (cI n)]) (fun _ => [some (.box [.p (.v (.slice none 0 0))] 33 none), rB d a e none, some (.box [.osl 3 0 m] 33 none), some (.rows 7 rs 50)]) (fun _ => 0 < n ∧ e = 0)) (thenA (Again 38 [2, 3, 4, 5, 6] 4 (fun y : Int × Int × Int × List (List PV) × Nat => [.own 0 0, .p (cI 0), .own 1 0, .own 2 0, .p (cI y.1)]) (fun y => [some (.box [.p (.v (.slice none 0 0))] 33 none), rB d y.2.1 y.2.2.1 none, some (.box [.osl 3 0 y.2.2.2.2] 33 none), some (.rows 7 y.2.2.2.1 50)]) (RdI d (rFn d) pFns 4096 (fs, s2)) (fun y => μ y.1) (μ n)) (blockA 0 (thenA (CutIs 38 [2, 3, 4, 5] 3 (fun _ : Int × Int => [.own 0 0, .p (cI 0), .own 1 0, .own 2 0]) (fun y => [some (.box [.p (.v (.slice none 0 0))] 33 none), rB d y.1 y.2 none, some (.box [.p (.ro 7 FS)] 33 none)]) (fun y => y = ((s2.at_ : Int), s2.err))) (retQ E tyT Tryd.f33.results.toList q))))) fun P G E hc hM hE => ?_
        have d1 : E.lti 0 n = true := by rw [hE]; exact decide_eq_true hgo.1
        have d2 : decide (e = 0) = true := decide_eq_true hgo.2
        clear hE hfin hlen hm hrs hle he ha n0 cd cf fr hq
        cbv
        repeat (first | (simp only [d1]; cbv) | simp only [d1] | (simp only [d2]; cbv) | simp only [d2])
        exact .mk () ⟨rfl, rfl, rfl, rfl, rfl⟩ hgo
      · have hst : rLoop (rFn d) n.toNat st = ([], st) := loop_stop (fun h => hgo ⟨h.1, by rw [he]; exact h.2⟩)
        rw [hst, List.append_nil] at hfin
        have hx : xs = fs := congrArg Prod.fst hfin
        have hs2 : st = s2 := congrArg Prod.snd hfin
        have hI : (a, e) = ((s2.at_ : Int), s2.err) := by rw [ha, he, hs2]
        have hR : rs.take m = FS := by rw [hrs, hm, hx, ← hFS, List.take_of_length_le (by simp [pFns])]
        have hml : m ≤ rs.length := by rw [hrs, hm]; simp [pFns]
        clear hfin hlen hx hs2 hst hm hrs hle he ha n0 cd cf fr hq
        rcases Classical.em (0 < n) with hn | hn
        · refine Seg.of tyT_ok mixed (fun _ => 0) (by kernel_rfl) (fun E => thenA (CutIs 38 [2, 3, 4, 5, 6] 4 (fun _ : Unit => [.own 0 0, .p (cI 0), .own 1 0, .own 2 0, .p (cI n)]) (fun _ => [some (.box [.p (.v (.slice none 0 0))] 33 none), rB d a e none, some (.box [.osl 3 0 m] 33 none), some (.rows 7 rs 50)]) (fun _ => 0 < n ∧ e = 0)) (thenA (Again 38 [2, 3, 4, 5, 6] 4 (fun y : Int × Int × Int × List (List PV) × Nat => [.own 0 0, .p (cI 0), .own 1 0, .own 2 0, .p (cI y.1)]) (fun y => [some (.box [.p (.v (.slice none 0 0))] 33 none), rB d y.2.1 y.2.2.1 none, some (.box [.osl 3 0 y.2.2.2.2] 33 none), some (.rows 7 y.2.2.2.1 50)]) (RdI d (rFn d) pFns 4096 (fs, s2)) (fun y => μ y.1) (μ n)) (blockA 0 (thenA (CutIs 38 [2, 3, 4, 5] 3 (fun _ : Int × Int => [.own 0 0, .p (cI 0), .own 1 0, .own 2 0]) (fun y => [some (.box [.p (.v (.slice none 0 0))] 33 none), rB d y.1 y.2 none, some (.box [.p (.ro 7 FS)] 33 none)]) (fun y => y = ((s2.at_ : Int), s2.err))) (retQ E tyT Tryd.f33.results.toList q))))) fun P G E hc hM hE => ?_
          have he0 : ¬ e = 0 := fun h => hgo ⟨hn, h⟩
          have d1 : E.lti 0 n = true := by rw [hE]; exact decide_eq_true hn
          have d2 : decide (e = 0) = false := decide_eq_false he0
          clear hE hgo
          cbv
          repeat (first | (simp only [d1]; cbv) | simp only [d1] | (simp only [d2]; cbv) | simp only [d2])
          exact .wk (a, e) _ _ (wk_frzE (k := 2) (j := 0) (l := 3) rfl rfl rfl hml hR) ⟨rfl, rfl, rfl, rfl, rfl⟩ hI
        · refine Seg.of tyT_ok mixed (fun _ => 0) (by kernel_rfl) (fun E => thenA (CutIs 38 [2, 3, 4, 5, 6] 4 (fun _ : Unit => [.own 0 0, .p (cI 0), .own 1 0, .own 2 0, .p (cI n)]) (fun _ => [some (.box [.p (.v (.slice none 0 0))] 33 none), rB d a e none, some (.box [.osl 3 0 m] 33 none), some (.rows 7 rs 50)]) (fun _ => 0 < n ∧ e = 0)) (thenA (Again 38 [2, 3, 4, 5, 6] 4 (fun y : Int × Int × Int × List (List PV) × Nat => [.own 0 0, .p (cI 0), .own 1 0, .own 2 0, .p (cI y.1)]) (fun y => [some (.box [.p (.v (.slice none 0 0))] 33 none), rB d y.2.1 y.2.2.1 none, some (.box [.osl 3 0 y.2.2.2.2] 33 none), some (.rows 7 y.2.2.2.1 50)]) (RdI d (rFn d) pFns 4096 (fs, s2)) (fun y => μ y.1) (μ n)) (blockA 0 (thenA (CutIs 38 [2, 3, 4, 5] 3 (fun _ : Int × Int => [.own 0 0, .p (cI 0), .own 1 0, .own 2 0]) (fun y => [some (.box [.p (.v (.slice none 0 0))] 33 none), rB d y.1 y.2 none, some (.box [.p (.ro 7 FS)] 33 none)]) (fun y => y = ((s2.at_ : Int), s2.err))) (retQ E tyT Tryd.f33.results.toList q))))) fun P G E hc hM hE => ?_
          have d1 : E.lti 0 n = false := by rw [hE]; exact decide_eq_false hn
          clear hE hgo
          cbv
          repeat (first | (simp only [d1]; cbv) | simp only [d1])
          exact .wk (a, e) _ _ (wk_frzE (k := 2) (j := 0) (l := 3) rfl rfl rfl hml hR) ⟨rfl, rfl, rfl, rfl, rfl⟩ hI
    rintro _ ⟨hn, he0⟩
    subst he0
    have hst := loop_more (step := rFn d) hn he.symm
    rw [hst] at hfin
    have r1 := fr st hle
    have e1 := rFn_le d st hle
    obtain ⟨⟨fx, t1⟩, k1⟩ : ∃ x, rFn d st = x := ⟨_, rfl⟩
    rw [k1] at r1 e1 hfin
    simp only at r1 e1
    have hprow : [pFn fx] = [pFn fx] := rfl
    obtain ⟨rs2, hrs2⟩ : ∃ x, rs ++ [pFn fx] = x := ⟨_, rfl⟩
    obtain ⟨m2, hm2⟩ : ∃ x, m + 1 = x := ⟨_, rfl⟩
    have hI2 : RdI d (rFn d) pFns 4096 (fs, s2) (n - 1, (t1.at_ : Int), t1.err, rs2, m2) := by
      refine ⟨by simp only; omega, t1, xs ++ [fx], rfl, rfl, e1, ?_, by simp only [List.length_append, List.length_singleton]; omega, by simp only [List.length_append, List.length_singleton]; omega, ?_⟩
      · simp only; rw [← hrs2, hrs]; unfold pFns; rw [List.map_append]; rfl
      · simp only; rw [List.append_assoc]; exact hfin
    have hml2 : m = rs.length := by rw [hm, hrs]; simp [pFns]
    have hmr : m ≤ rs.length := by omega
    have hmb : m ≤ 2000000 := by omega
    clear k1 e1 hprow
    unfold rH at r1
    unfold pFn at r1 hrs2
    obtain ⟨az, haz⟩ : ∃ x : Int, ((t1.at_ : Nat) : Int) = x := ⟨_, rfl⟩
    obtain ⟨ez, hez⟩ : ∃ x : Int, t1.err = x := ⟨_, rfl⟩
    rw [haz, hez] at r1 hI2
    rw [← ha, ← he] at r1
    clear haz hez
    obtain ⟨x1, hx1⟩ : ∃ x, fx.name = x := ⟨_, rfl⟩
    obtain ⟨x2, hx2⟩ : ∃ x, fx.kind = x := ⟨_, rfl⟩
    obtain ⟨x3, hx3⟩ : ∃ x, fx.params = x := ⟨_, rfl⟩
    obtain ⟨x4, hx4⟩ : ∃ x, fx.locals = x := ⟨_, rfl⟩
    obtain ⟨x5, hx5⟩ : ∃ x, pCode fx.code = x := ⟨_, rfl⟩
    obtain ⟨x6, hx6⟩ : ∃ x, pCons fx.consts = x := ⟨_, rfl⟩
    obtain ⟨x7, hx7⟩ : ∃ x, pHdls fx.hdls = x := ⟨_, rfl⟩
    rw [hx1, hx2, hx3, hx4, hx5, hx6, hx7] at r1 hrs2
    clear hx1 hx2 hx3 hx4 hx5 hx6 hx7
    refine Seg.cut 38 [2, 3, 4, 5, 6] 4 (fun _ : Unit => [.own 0 0, .p (cI 0), .own 1 0, .own 2 0, .p (cI n)]) (fun _ => [some (.box [.p (.v (.slice none 0 0))] 33 none), rB d az ez none, some (.box [.osl 3 0 m2] 33 none), some (.rows 7 rs2 50)]) (fun _ => True) ?_ ?_
    · refine Seg.block ?_
      refine Seg.regM tyT_ok mixed 4 [2] (fun i => match i with | 2 => 1 | 3 => 1 | _ => 0) (by kernel_rfl) (fun E => blockA 1 (thenA (CutIs 38 [2, 3, 4, 5, 6] 4 (fun _ : Unit => [.own 0 0, .p (cI 0), .own 1 0, .own 2 0, .p (cI n)]) (fun _ => [some (.box [.p (.v (.slice none 0 0))] 33 none), rB d az ez none, some (.box [.osl 3 0 m2] 33 none), some (.rows 7 rs2 50)]) (fun _ => True)) (thenA (Again 38 [2, 3, 4, 5, 6] 4 (fun y : Int × Int × Int × List (List PV) × Nat => [.own 0 0, .p (cI 0), .own 1 0, .own 2 0, .p (cI y.1)]) (fun y => [some (.box [.p (.v (.slice none 0 0))] 33 none), rB d y.2.1 y.2.2.1 none, some (.box [.osl 3 0 y.2.2.2.2] 33 none), some (.rows 7 y.2.2.2.1 50)]) (RdI d (rFn d) pFns 4096 (fs, s2)) (fun y => μ y.1) (μ n)) (blockA 0 (thenA (CutIs 38 [2, 3, 4, 5] 3 (fun _ : Int × Int => [.own 0 0, .p (cI 0), .own 1 0, .own 2 0]) (fun y => [some (.box [.p (.v (.slice none 0 0))] 33 none), rB d y.1 y.2 none, some (.box [.p (.ro 7 FS)] 33 none)]) (fun y => y = ((s2.at_ : Int), s2.err))) (retQ E tyT Tryd.f33.results.toList q)))))) fun P G E hc hM hE => ?_
      replace r1 := hM _ _ _ _ _ r1
      have epre : ∀ (r : List (List PV)) k, k ≤ r.length → E.pre 0 k r := fun r k h => by rw [hE]; show 0 + k ≤ r.length; omega
      have eroom : ∀ k, k ≤ 2000000 → E.room k 1 112 := fun k h => by rw [hE]; exact ⟨by unfold maxLen; omega, by omega⟩
      have eaddn : ∀ a b, E.addN a b = a + b := fun a b => by rw [hE]; rfl
      have eapp : ∀ (r : List (List PV)) k x, k = r.length → E.app r k x = r ++ x := fun r k x h => by rw [hE]; show r.take k ++ x = _; rw [h, List.take_length]
      have p5 := epre rs m hmr
      have p4 := eroom m hmb
      have a2' := eaddn m 1
      have r3' := eapp rs m [[pS x1, pI x2, pI x3, pI x4, .ro 3 x5, .ro 3 x6, .ro 5 x7]] hml2
      rw [hm2] at a2'
      rw [hrs2] at r3'
      clear hE epre eroom eaddn eapp hfin hst hm2 hrs2 hI2 hmr hmb hml2 hrs hm hle he ha n0 hlen cd cf fr hq
      cbv
      refine ⟨.mk (by repeat' (first | exact trivial | refine ⟨rfl, ?_⟩)), ?_⟩
      refine .mk [1] _ _ _ _ r1 rfl rfl rfl rfl ?_
      cbv
      refine ⟨.mk (by repeat' (first | exact trivial | refine ⟨rfl, ?_⟩)), ?_⟩
      cbv
      repeat (first | (refine ⟨p5,p4, ?_⟩; cbv) | (simp only [r3',a2']; cbv) | simp only [r3',a2'])
      exact .mk () ⟨rfl, rfl, rfl, rfl, rfl⟩ trivial
    intro _ _
    refine Seg.of tyT_ok mixed (fun _ => 0) (by kernel_rfl) (fun E => thenA (Again 38 [2, 3, 4, 5, 6] 4 (fun y : Int × Int × Int × List (List PV) × Nat => [.own 0 0, .p (cI 0), .own 1 0, .own 2 0, .p (cI y.1)]) (fun y => [some (.box [.p (.v (.slice none 0 0))] 33 none), rB d y.2.1 y.2.2.1 none, some (.box [.osl 3 0 y.2.2.2.2] 33 none), some (.rows 7 y.2.2.2.1 50)]) (RdI d (rFn d) pFns 4096 (fs, s2)) (fun y => μ y.1) (μ n)) (blockA 0 (thenA (CutIs 38 [2, 3, 4, 5] 3 (fun _ : Int × Int => [.own 0 0, .p (cI 0), .own 1 0, .own 2 0]) (fun y => [some (.box [.p (.v (.slice none 0 0))] 33 none), rB d y.1 y.2 none, some (.box [.p (.ro 7 FS)] 33 none)]) (fun y => y = ((s2.at_ : Int), s2.err))) (retQ E tyT Tryd.f33.results.toList q)))) fun P G E hc hM hE => ?_
    have elt : ∀ a b, E.lti a b = decide (a < b) := fun a b => by rw [hE]; rfl
    have esb : ∀ a : Int, 0 < a → a ≤ 1000000 → E.wsub .i64 a 1 = a - 1 := fun a h0 h1 => by rw [hE]; exact wrap_i64_in (by omega) (by omega)
    have ei := esb n hn (by omega)
    have hM2 : μ (E.wsub .i64 n 1) < μ n := by rw [hμ, hμ, ei]; omega
    rw [← ei] at hI2
    clear elt esb ei hE hfin hst hm2 hrs2 hmr hmb hml2 hrs hm hle he ha n0 hlen cd cf fr hq r1
    cbv
    refine .mk (E.wsub .i64 n 1, az, ez, rs2, m2) ⟨rfl, rfl, rfl, rfl, rfl⟩ ?_ ?_
    · exact hI2
    · exact hM2
  rintro _ rfl
  rw [ea2, ee2]
  clear fr w1
  have hcase : (dn = 0 ∧ pf = true ∧ q = .tup [.agg [.ro 7 FS], pI 0]) ∨ (dn = 0 ∧ pf = false ∧ q = .tup [pZero, pI 3]) ∨ (¬ dn = 0 ∧ q = .tup [pZero, pI 3]) := by
    by_cases h : dn = 0
    · cases pf
      · exact .inr (.inl ⟨h, rfl, by rw [← hq]; simp⟩)
      · exact .inl ⟨h, rfl, by rw [← hq]; simp [h]⟩
    · exact .inr (.inr ⟨h, by rw [← hq]; simp [h]⟩)
  rcases hcase with ⟨hd0, rfl, rfl⟩ | ⟨hd0, rfl, rfl⟩ | ⟨hd0, rfl⟩
  · refine Seg.of tyT_ok mixed (fun _ => 0) (by kernel_rfl) (fun E => retQ E tyT Tryd.f33.results.toList (.tup [.agg [.ro 7 FS], pI 0])) fun P G E hc hM hE => ?_
    replace cd := hM _ _ _ _ _ cd
    replace cf := hc _ _ _ cf
    have d0 : decide (dn = 0) = true := decide_eq_true hd0
    clear hE hq c1 hd0
    cbv
    refine .mk _ _ (Wk.refl _ _) [1] _ _ _ _ cd rfl rfl rfl ?_
    cbv
    repeat (first | (simp only [d0]; cbv) | simp only [d0] | (refine ⟨_, cf, ?_⟩; cbv))
    all_goals trivial
  · refine Seg.of tyT_ok mixed (fun _ => 0) (by kernel_rfl) (fun E => retQ E tyT Tryd.f33.results.toList (.tup [pZero, pI 3])) fun P G E hc hM hE => ?_
    replace cd := hM _ _ _ _ _ cd
    replace cf := hc _ _ _ cf
    have d0 : decide (dn = 0) = true := decide_eq_true hd0
    clear hE hq c1 hd0
    cbv
    refine .mk _ _ (Wk.refl _ _) [1] _ _ _ _ cd rfl rfl rfl ?_
    cbv
    repeat (first | (simp only [d0]; cbv) | simp only [d0] | (refine ⟨_, cf, ?_⟩; cbv))
    all_goals trivial
  · refine Seg.of tyT_ok mixed (fun _ => 0) (by kernel_rfl) (fun E => retQ E tyT Tryd.f33.results.toList (.tup [pZero, pI 3])) fun P G E hc hM hE => ?_
    replace cd := hM _ _ _ _ _ cd
    replace cf := hc _ _ _ cf
    have d0 : decide (dn = 0) = false := decide_eq_false hd0
    clear hE hq c1 hd0
    cbv
    refine .mk _ _ (Wk.refl _ _) [1] _ _ _ _ cd rfl rfl rfl ?_
    cbv
    repeat (first | (simp only [d0]; cbv) | simp only [d0] | (refine ⟨_, cf, ?_⟩; cbv))
    all_goals trivial
end Go.Proofs.YtlffpgjkhehdmaaDoor
