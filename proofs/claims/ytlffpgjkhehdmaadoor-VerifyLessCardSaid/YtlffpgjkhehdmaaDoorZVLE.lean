/- Own work: knapsacklaw29.VerifyLess returns true. -/
import Derived.Test.YtlffpgjkhehdmaaDoorZVA
import Derived.Test.YtlffpgjkhehdmaaDoorZVP7
import Derived.Test.YtlffpgjkhehdmaaDoorZGN
namespace Go.Proofs.YtlffpgjkhehdmaaDoor
open Go.RowKit
set_option maxRecDepth 100000
set_option linter.unusedSimpArgs false

theorem wfu8l {x : Int} (h : (Lit.int .u8 x).wf = true) : 0 ≤ x ∧ x ≤ 255 := by
  simpa [Lit.wf, IntKind.min, IntKind.max, IntKind.signed, IntKind.bits] using h
theorem fewP_len7 {fs : List Fn} {n : Int} (h : fewP fs n = true) : (fs.length : Int) ≤ n := by
  unfold fewP at h
  simp only [Bool.and_eq_true, decide_eq_true_eq] at h
  exact h.1
/-- a safe program, a function of it with a handler less -/
structure LeD (fs : List Fn) (k : Int) (j : Int) (f : Fn) : Prop where
  k0 : 0 ≤ k
  hf : fs[k.toNat]? = some f
  j0 : 0 ≤ j
  j1 : j < f.hdls.length
  h10 : f.hdls.length ≤ 10
def lessL (f : Fn) (j : Int) : List Hdl := f.hdls.take j.toNat ++ f.hdls.drop (j.toNat + 1)
theorem less_sub (f : Fn) (j : Int) : ∀ h ∈ lessL f j, h ∈ f.hdls := by
  intro h hh
  rcases List.mem_append.1 hh with h1 | h1
  · exact List.mem_of_mem_take h1
  · exact List.mem_of_mem_drop h1
theorem less_len (f : Fn) (j : Int) : (lessL f j).length ≤ f.hdls.length := by
  unfold lessL
  rw [List.length_append, List.length_take, List.length_drop]
  omega
theorem pFns_set (fs : List Fn) (k : Nat) (g : Fn) : (pFns fs).set k (pFn g) = pFns (fs.set k g) := by unfold pFns; rw [List.map_set]
set_option maxHeartbeats 4000000 in
theorem lless_go (fs : List Fn) (hw : ∀ f ∈ fs, FnSz f) (i which : Int) (hi : 0 ≤ i ∧ i ≤ 255) (hwh : 0 ≤ which ∧ which ≤ 255) (hp4 : fewP fs 4 = true) (hck : checkP fs = 0) (hne : 0 < fs.length) : RT 8 [pProg fs, .v (.int .u8 i), .v (.int .u8 which)] (pB true) := by
  have ha := awake29_ret
  have hfew := few_ret fs hw 4 (by omega)
  rw [hp4] at hfew
  have hlen := fewP_len7 hp4
  have hn : fs.length ≤ 1000000 := by omega
  have hc1 := check_ret fs hw hn
  rw [hck] at hc1
  obtain ⟨n, hnn⟩ : ∃ n, fs.length = n := ⟨_, rfl⟩
  obtain ⟨k, hk⟩ : ∃ k : Int, i % (n : Int) = k := ⟨_, rfl⟩
  have hk0 : 0 ≤ k := by rw [← hk]; exact Int.emod_nonneg _ (by omega)
  have hk1 : k < n := by rw [← hk]; exact Int.emod_lt_of_pos _ (by omega)
  obtain ⟨f, hf⟩ : ∃ f, fs[k.toNat]? = some f := ⟨_, List.getElem?_eq_getElem (by omega)⟩
  have hffew : f.hdls.length ≤ 10 := by
    unfold fewP fewFn at hp4
    simp only [Bool.and_eq_true, List.all_eq_true, decide_eq_true_eq] at hp4
    exact (hp4.2 f (List.mem_of_getElem? hf)).2.2.2.1
  have hgf : (pFns fs)[k.toNat]? = some (pFn f) := pFns_get hf
  have hl : (pFns fs).length = fs.length := by simp [pFns]
  rw [hnn] at hl
  have hHl : (pHdls f.hdls).length = f.hdls.length := by simp [pHdls]
  obtain ⟨nH, hnH⟩ : ∃ x, f.hdls.length = x := ⟨_, rfl⟩
  rw [hnH] at hHl hffew
  by_cases hz : nH = 0
  · -- without handlers
    unfold pProg at *
    unfold pFn at hgf
    generalize pCode f.code = c1 at *
    generalize pCons f.consts = c2 at *
    generalize pHdls f.hdls = c3 at *
    generalize pFns fs = F at *
    refine ret_cut tyT_ok tabs_gr (f := 8) Tryd.func8 rfl (by kernel_rfl) (of_decide_eq_true (by kernel_rfl)) ?_
    refine Seg.cutK 6 77 [3, 7, 8, 9] 2 (fun _ : Unit => []) (fun _ => []) (fun _ => False) tyT_ok mixed (fun _ => 0) (fun E => retQ E tyT Tryd.f8.results.toList (pB true)) (by kernel_rfl) ?_ (fun _ h => h.elim)
    intro P G E hc hM hE
    replace ha := hc _ _ _ ha
    replace hfew := hc _ _ _ hfew
    replace hc1 := hc _ _ _ hc1
    have z1 : E.wrap .i64 i = i := by rw [hE]; exact wrap_i64_in (by omega) (by omega)
    have z2 : E.ofN n = 0 → False := fun h => by rw [hE] at h; change (n : Int) = 0 at h; omega
    have z3 : decide (E.ofN n = 0) = false := decide_eq_false z2
    have z4 : E.rem i (E.ofN n) = k := by rw [hE]; show i.tmod (n : Int) = k; rw [Int.tmod_eq_emod_of_nonneg hi.1]; exact hk
    have z5 : decide (E.ofN nH = 0) = true := decide_eq_true (by rw [hE, hz]; rfl)
    have p1 : E.ple 0 k := by rw [hE]; exact hk0
    have g1 : F[E.nat k]? = some [pS f.name, pI f.kind, pI f.params, pI f.locals, .ro 3 c1, .ro 3 c2, .ro 5 c3] := by rw [hE]; exact hgf
    generalize f.name = x1 at *
    generalize f.kind = x2 at *
    generalize f.params = x3 at *
    generalize f.locals = x4 at *
    clear hE hw hf hgf hk hnH hz hp4 hck
    cbv at hl hHl
    cbv
    repeat (first | (refine ⟨_, ha, ?_⟩; cbv) | (refine ⟨_, hfew, ?_⟩; cbv) | (refine ⟨_, hc1, ?_⟩; cbv) | (simp only [hl]; cbv) | simp only [hl] | (simp only [z3]; cbv) | simp only [z3] | (simp only [z1]; cbv) | simp only [z1] | (refine ⟨z2, ?_⟩; cbv) | (simp only [z4]; cbv) | simp only [z4] | (refine ⟨p1,_,g1, ?_⟩; cbv) | (simp only [hHl]; cbv) | simp only [hHl] | (simp only [z5]; cbv) | simp only [z5])
  · obtain ⟨j, hj⟩ : ∃ j : Int, which % (nH : Int) = j := ⟨_, rfl⟩
    have hj0 : 0 ≤ j := by rw [← hj]; exact Int.emod_nonneg _ (by omega)
    have hj1 : j < nH := by rw [← hj]; exact Int.emod_lt_of_pos _ (by omega)
    have hck2 := less_check hf (less_sub f j) (less_len f j) hck
    have hw2 : ∀ g ∈ fs.set k.toNat (withH f (lessL f j)), FnSz g := fun g hg => by
      rcases List.mem_or_eq_of_mem_set hg with hg | rfl
      · exact hw g hg
      · exact less_sz (less_len f j) (hw f (List.mem_of_getElem? hf))
    have hc2 := check_ret (fs.set k.toNat (withH f (lessL f j))) hw2 (by rw [List.length_set]; exact hn)
    rw [hck2] at hc2
    have hset := pFns_set fs k.toNat (withH f (lessL f j))
    have hH1 : pHdls (lessL f j) = (pHdls f.hdls).take j.toNat ++ (pHdls f.hdls).drop (j.toNat + 1) := by
      unfold lessL pHdls
      rw [List.map_append, List.map_take, List.map_drop]
    have hpf2 : pFn (withH f (lessL f j)) = [pS f.name, pI f.kind, pI f.params, pI f.locals, .ro 3 (pCode f.code), .ro 3 (pCons f.consts), .ro 5 (pHdls (lessL f j))] := rfl
    rw [hpf2, hH1] at hset
    have hrl1 : ((pHdls f.hdls).take j.toNat).length = j.toNat := by rw [List.length_take, hHl]; omega
    have hrl2 : ((pHdls f.hdls).drop (j.toNat + 1)).length = nH - (j.toNat + 1) := by rw [List.length_drop, hHl]
    unfold pProg at *
    unfold pFn at hgf
    obtain ⟨c1, hc1'⟩ : ∃ x, pCode f.code = x := ⟨_, rfl⟩
    obtain ⟨c2, hc2'⟩ : ∃ x, pCons f.consts = x := ⟨_, rfl⟩
    obtain ⟨HR, hHR⟩ : ∃ x, pHdls f.hdls = x := ⟨_, rfl⟩
    obtain ⟨F, hF⟩ : ∃ x, pFns fs = x := ⟨_, rfl⟩
    obtain ⟨F2, hF2⟩ : ∃ x, pFns (fs.set k.toNat (withH f (lessL f j))) = x := ⟨_, rfl⟩
    rw [hc1', hc2', hHR, hF] at hgf
    rw [hF] at hl hfew hc1 ⊢
    rw [hF2] at hc2
    rw [hF, hF2, hc1', hc2', hHR] at hset
    rw [hHR] at hHl hrl1 hrl2
    generalize f.name = x1 at *
    generalize f.kind = x2 at *
    generalize f.params = x3 at *
    generalize f.locals = x4 at *
    clear hw hf hw2 hp4 hck hck2 hpf2 hH1 hF hF2 hc1' hc2' hHR
    obtain ⟨R1, hR1⟩ : ∃ x, HR.take j.toNat = x := ⟨_, rfl⟩
    obtain ⟨R2, hR2⟩ : ∃ x, HR.drop (j.toNat + 1) = x := ⟨_, rfl⟩
    obtain ⟨R3, hR3⟩ : ∃ x, R1 ++ R2 = x := ⟨_, rfl⟩
    rw [hR1] at hrl1 hset
    rw [hR2] at hrl2 hset
    rw [hR3] at hset
    obtain ⟨m1, hm1⟩ : ∃ x, j.toNat = x := ⟨_, rfl⟩
    obtain ⟨m2, hm2⟩ : ∃ x, nH - (j.toNat + 1) = x := ⟨_, rfl⟩
    obtain ⟨m3, hm3⟩ : ∃ x, m1 + m2 = x := ⟨_, rfl⟩
    rw [hm1] at hrl1
    rw [hm2] at hrl2
    have hR3l : R3.length = m3 := by rw [← hR3, List.length_append, hrl1, hrl2, hm3]
    refine ret_cut tyT_ok tabs_gr (f := 8) Tryd.func8 rfl (by kernel_rfl) (of_decide_eq_true (by kernel_rfl)) ?_
    refine Seg.cutK 6 77 [3, 7, 8, 9] 2 (fun _ : Unit => [.own 0 0, .p (pI k), .own 1 0, .p (pI j)]) (fun _ => [some (.box [.p (.ro 7 F)] 33 none), some (.box [.p (pS x1), .p (pI x2), .p (pI x3), .p (pI x4), .p (.ro 3 c1), .p (.ro 3 c2), .p (.ro 5 HR)] 50 none)]) (fun _ => True) tyT_ok mixed (fun _ => 0) (fun E => retQ E tyT Tryd.f8.results.toList (pB true)) (by kernel_rfl) ?_ ?_
    · intro P G E hc hM hE
      replace ha := hc _ _ _ ha
      replace hfew := hc _ _ _ hfew
      replace hc1 := hc _ _ _ hc1
      have z1 : E.wrap .i64 i = i := by rw [hE]; exact wrap_i64_in (by omega) (by omega)
      have y1 : E.wrap .i64 which = which := by rw [hE]; exact wrap_i64_in (by omega) (by omega)
      have z2 : E.ofN n = 0 → False := fun h => by rw [hE] at h; change (n : Int) = 0 at h; omega
      have y2 : E.ofN nH = 0 → False := fun h => by rw [hE] at h; change (nH : Int) = 0 at h; omega
      have z3 : decide (E.ofN n = 0) = false := decide_eq_false z2
      have z4 : E.rem i (E.ofN n) = k := by rw [hE]; show i.tmod (n : Int) = k; rw [Int.tmod_eq_emod_of_nonneg hi.1]; exact hk
      have y4 : E.rem which (E.ofN nH) = j := by rw [hE]; show which.tmod (nH : Int) = j; rw [Int.tmod_eq_emod_of_nonneg hwh.1]; exact hj
      have z5 : decide (E.ofN nH = 0) = false := decide_eq_false y2
      have p1 : E.ple 0 k := by rw [hE]; exact hk0
      have g1 : F[E.nat k]? = some [pS x1, pI x2, pI x3, pI x4, .ro 3 c1, .ro 3 c2, .ro 5 HR] := by rw [hE]; exact hgf
      clear hE hgf hk hnH hz hset hR1 hR2 hR3 hrl1 hrl2 hR3l hc2
      cbv at hl hHl
      cbv
      repeat (first | (refine ⟨_, ha, ?_⟩; cbv) | (refine ⟨_, hfew, ?_⟩; cbv) | (refine ⟨_, hc1, ?_⟩; cbv) | (simp only [hl]; cbv) | simp only [hl] | (simp only [z3]; cbv) | simp only [z3] | (simp only [z1]; cbv) | simp only [z1] | (refine ⟨z2, ?_⟩; cbv) | (simp only [z4]; cbv) | simp only [z4] | (refine ⟨p1,_,g1, ?_⟩; cbv) | (simp only [hHl]; cbv) | simp only [hHl] | (simp only [z5]; cbv) | simp only [z5] | (simp only [y1]; cbv) | simp only [y1] | (refine ⟨y2, ?_⟩; cbv) | (simp only [y4]; cbv) | simp only [y4])
      exact .mk () ⟨rfl, rfl, rfl, rfl, rfl⟩ trivial
    intro _ _
    clear ha hfew hc1
    refine Seg.cut 77 [3, 7, 8] 2 (fun _ : Unit => [.own 0 0, .p (pI k), .own 1 0]) (fun _ => [some (.box [.p (.ro 7 F)] 33 none), some (.box [.p (pS x1), .p (pI x2), .p (pI x3), .p (pI x4), .p (.ro 3 c1), .p (.ro 3 c2), .p (.ro 5 R3)] 50 none)]) (fun _ => True) (Q := (fun E => retQ E tyT Tryd.f8.results.toList (pB true)) stdE) ?_ ?_
    · refine Seg.regM tyT_ok mixed 11 [0, 5] (fun i => match i with | 0 => 1 | 5 => 2 | _ => 0) (by kernel_rfl) (fun E => thenA (CutIs 77 [3, 7, 8] 2 (fun _ : Unit => [.own 0 0, .p (pI k), .own 1 0]) (fun _ => [some (.box [.p (.ro 7 F)] 33 none), some (.box [.p (pS x1), .p (pI x2), .p (pI x3), .p (pI x4), .p (.ro 3 c1), .p (.ro 3 c2), .p (.ro 5 R3)] 50 none)]) (fun _ => True)) (retQ E tyT Tryd.f8.results.toList (pB true))) fun P G E hc hM hE => ?_
      have q0 : E.ple 0 0 := by rw [hE]; exact Int.le_refl _
      have q1 : E.ple 0 j := by rw [hE]; exact hj0
      have q2 : E.ple j (E.ofN nH) := by rw [hE]; show j ≤ (nH : Int); omega
      have w1 : E.wadd .i64 j 1 = j + 1 := by rw [hE]; exact wrap_i64_in (by omega) (by omega)
      have q3 : E.ple 0 (j + 1) := by rw [hE]; show (0 : Int) ≤ j + 1; omega
      have q4 : E.ple (j + 1) (E.ofN nH) := by rw [hE]; show j + 1 ≤ (nH : Int); omega
      have q5 : E.ple (E.ofN nH) (E.ofN nH) := by rw [hE]; exact Int.le_refl _
      have r1 : E.cut HR (E.nat 0) (E.nat j) = R1 := by rw [hE]; show (HR.take j.toNat).drop 0 = R1; rw [List.drop_zero]; exact hR1
      have r2 : E.cut HR (E.nat (j + 1)) (E.nat (E.ofN nH)) = R2 := by
        rw [hE]
        show (HR.take ((nH : Int)).toNat).drop (j + 1).toNat = R2
        rw [show ((nH : Int)).toNat = nH by omega, show (j + 1).toNat = j.toNat + 1 by omega, ← hHl, List.take_length]
        exact hR2
      have p0 : E.pre 0 0 [] := by rw [hE]; exact Nat.le_refl _
      have p1 : E.room 0 m1 40 := by rw [hE]; exact ⟨by unfold maxLen; omega, by omega⟩
      have p2 : E.pre 0 m1 R1 := by rw [hE]; show 0 + m1 ≤ R1.length; omega
      have p3 : E.room m1 m2 40 := by rw [hE]; exact ⟨by unfold maxLen; omega, by omega⟩
      have s1 : E.addN 0 m1 = m1 := by rw [hE]; exact Nat.zero_add _
      have s2 : E.addN m1 m2 = m3 := by rw [hE]; exact hm3
      have t1 : E.app [] 0 R1 = R1 := by rw [hE]; rfl
      have t2 : E.app R1 m1 R2 = R3 := by rw [hE]; show R1.take m1 ++ R2 = R3; rw [← hrl1, List.take_length]; exact hR3
      have hR : R3.take m3 = R3 := by rw [← hR3l, List.take_length]
      have hml : m3 ≤ R3.length := by omega
      clear hE hgf hk hnH hz hset hR1 hR2 hR3 hc2 hl hm1 hm2 hm3 hR3l
      generalize j + 1 = j1 at *
      cbv at hHl hrl1 hrl2
      cbv
      cbv
      repeat (first | (simp only [hHl]; cbv) | simp only [hHl] | (refine ⟨q0,q1,q2, ?_⟩; cbv) | (simp only [w1]; cbv) | simp only [w1] | (refine ⟨q3,q4,q5, ?_⟩; cbv) | (simp only [r1,r2]; cbv) | simp only [r1,r2])
      refine ⟨(.mk (by repeat' (first | exact trivial | refine ⟨rfl, ?_⟩))), ?_⟩
      refine ⟨q0, q1, q2, q3, q4, q5, (.mk (by repeat' (first | exact trivial | refine ⟨rfl, ?_⟩))), ?_⟩
      cbv
      repeat (first | (simp only [hrl1]; cbv) | simp only [hrl1] | (refine ⟨p0,p1, ?_⟩; cbv) | (simp only [t1,s1]; cbv) | simp only [t1,s1])
      refine ⟨q0, q1, q2, q3, q4, q5, (.mk (by repeat' (first | exact trivial | refine ⟨rfl, ?_⟩))), ?_⟩
      cbv
      repeat (first | (simp only [hrl2]; cbv) | simp only [hrl2] | (refine ⟨p2,p3, ?_⟩; cbv) | (simp only [t2,s2]; cbv) | simp only [t2,s2])
      exact .wk () _ _ (wk_frzE (k := 1) (j := 6) (l := 2) rfl rfl rfl hml hR) ⟨rfl, rfl, rfl, rfl, rfl⟩ trivial
    intro _ _
    refine Seg.of tyT_ok mixed (fun _ => 0) (by kernel_rfl) (fun E => retQ E tyT Tryd.f8.results.toList (pB true)) fun P G E hc hM hE => ?_
    replace hc2 := hc _ _ _ hc2
    have q0 : E.ple 0 k := by rw [hE]; exact hk0
    have q1 : E.plt k (E.ofN n) := by rw [hE]; exact hk1
    have p0 : E.pre 0 0 [] := by rw [hE]; exact Nat.le_refl _
    have p1 : E.room 0 n 112 := by rw [hE]; exact ⟨by unfold maxLen; omega, by omega⟩
    have s1 : E.addN 0 n = n := by rw [hE]; exact Nat.zero_add _
    have t1 : E.app [] 0 F = F := by rw [hE]; rfl
    have a1 : E.addN 0 (E.nat k) = k.toNat := by rw [hE]; exact Nat.zero_add _
    have r1 : F[E.addN 0 (E.nat k)]? = some [pS x1, pI x2, pI x3, pI x4, .ro 3 c1, .ro 3 c2, .ro 5 HR] := by rw [a1]; exact hgf
    have t2 : E.put F (E.addN 0 (E.nat k)) [pS x1, pI x2, pI x3, pI x4, .ro 3 c1, .ro 3 c2, .ro 5 R3] = F2 := by rw [a1, hE]; exact hset
    have hF2l : F2.length = n := by rw [← hset, List.length_set]; exact hl
    have p2 : E.pre 0 n F2 := by rw [hE]; show 0 + n ≤ F2.length; omega
    have t3 : E.sub F2 0 n = F2 := by rw [hE]; show (F2.drop 0).take n = F2; rw [List.drop_zero, ← hF2l, List.take_length]
    clear hE hgf hk hnH hz hset hR1 hR2 hR3 hm1 hm2 hm3 hR3l a1 hrl1 hrl2 hF2l
    cbv at hl
    cbv
    repeat (first | (simp only [hl]; cbv) | simp only [hl] | (refine ⟨p0,p1, ?_⟩; cbv) | (simp only [s1,t1]; cbv) | simp only [s1,t1] | (refine ⟨q0,q1, ?_⟩; cbv) | (refine ⟨_,r1, ?_⟩; cbv) | (simp only [t2]; cbv) | simp only [t2])
    simp only [t3]
    refine .inl ⟨p2, _, hc2, ?_⟩
    cbv

theorem lless_ret (fs : List Fn) (hw : ∀ f ∈ fs, FnSz f) (i which : Int) (hi : 0 ≤ i ∧ i ≤ 255) (hwh : 0 ≤ which ∧ which ≤ 255) : RT 8 [pProg fs, .v (.int .u8 i), .v (.int .u8 which)] (pB true) := by
  have ha := awake29_ret
  have hfew := few_ret fs hw 4 (by omega)
  cases hp4 : fewP fs 4 with
  | false =>
    rw [hp4] at hfew
    unfold pProg at *
    generalize pFns fs = F at *
    refine ret_cut tyT_ok tabs_gr (f := 8) Tryd.func8 rfl (by kernel_rfl) (of_decide_eq_true (by kernel_rfl)) ?_
    refine Seg.cutK 6 77 [3, 7, 8, 9] 2 (fun _ : Unit => []) (fun _ => []) (fun _ => False) tyT_ok mixed (fun _ => 0) (fun E => retQ E tyT Tryd.f8.results.toList (pB true)) (by kernel_rfl) ?_ (fun _ h => h.elim)
    intro P G E hc hM hE
    replace ha := hc _ _ _ ha
    replace hfew := hc _ _ _ hfew
    clear hE hw hp4
    cbv
    repeat (first | (refine ⟨_, ha, ?_⟩; cbv) | (refine ⟨_, hfew, ?_⟩; cbv))
  | true =>
    rw [hp4] at hfew
    have hlen := fewP_len7 hp4
    have hn : fs.length ≤ 1000000 := by omega
    by_cases hck : checkP fs = 0
    · cases fs with
      | cons f0 fs => exact lless_go (f0 :: fs) hw i which hi hwh hp4 hck (by simp)
      | nil =>
        have hc1 := check_ret [] hw hn
        rw [hck] at hc1
        unfold pProg at *
        unfold pFns at *
        refine ret_cut tyT_ok tabs_gr (f := 8) Tryd.func8 rfl (by kernel_rfl) (of_decide_eq_true (by kernel_rfl)) ?_
        refine Seg.cutK 6 77 [3, 7, 8, 9] 2 (fun _ : Unit => []) (fun _ => []) (fun _ => False) tyT_ok mixed (fun _ => 0) (fun E => retQ E tyT Tryd.f8.results.toList (pB true)) (by kernel_rfl) ?_ (fun _ h => h.elim)
        intro P G E hc hM hE
        replace ha := hc _ _ _ ha
        replace hfew := hc _ _ _ hfew
        replace hc1 := hc _ _ _ hc1
        have z3 : decide (E.ofN 0 = 0) = true := decide_eq_true (by rw [hE]; rfl)
        clear hE hw hp4 hck hn hlen
        cbv
        repeat (first | (refine ⟨_, ha, ?_⟩; cbv) | (refine ⟨_, hfew, ?_⟩; cbv) | (refine ⟨_, hc1, ?_⟩; cbv) | (simp only [z3]; cbv) | simp only [z3])
    · have hc1 := check_ret fs hw hn
      have z3 : decide (checkP fs = 0) = false := decide_eq_false hck
      generalize checkP fs = cc at *
      unfold pProg at *
      generalize pFns fs = F at *
      refine ret_cut tyT_ok tabs_gr (f := 8) Tryd.func8 rfl (by kernel_rfl) (of_decide_eq_true (by kernel_rfl)) ?_
      refine Seg.cutK 6 77 [3, 7, 8, 9] 2 (fun _ : Unit => []) (fun _ => []) (fun _ => False) tyT_ok mixed (fun _ => 0) (fun E => retQ E tyT Tryd.f8.results.toList (pB true)) (by kernel_rfl) ?_ (fun _ h => h.elim)
      intro P G E hc hM hE
      replace ha := hc _ _ _ ha
      replace hfew := hc _ _ _ hfew
      replace hc1 := hc _ _ _ hc1
      clear hE hw hp4 hck hn hlen
      cbv
      repeat (first | (refine ⟨_, ha, ?_⟩; cbv) | (refine ⟨_, hfew, ?_⟩; cbv) | (refine ⟨_, hc1, ?_⟩; cbv) | (simp only [z3]; cbv) | simp only [z3])
end Go.Proofs.YtlffpgjkhehdmaaDoor
