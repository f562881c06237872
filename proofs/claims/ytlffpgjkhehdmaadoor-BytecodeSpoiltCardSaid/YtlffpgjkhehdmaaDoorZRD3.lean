/- Own work: package bytecode: a function is read. -/
import Derived.Test.YtlffpgjkhehdmaaDoorZGO
import Derived.Test.YtlffpgjkhehdmaaDoorZGG
import Derived.Test.YtlffpgjkhehdmaaDoorZGN
namespace Go.Proofs.YtlffpgjkhehdmaaDoor
open Go.RowKit
set_option maxRecDepth 100000
set_option linter.unusedSimpArgs false

theorem rInt_le {d : ByteArray} {st : RS} (hl : st.at_ ≤ d.size) : (rInt d st).2.at_ ≤ d.size := rUint_le hl
theorem rStr_le {d : ByteArray} {st : RS} (hl : st.at_ ≤ d.size) : (rStr d st).2.at_ ≤ d.size := by
  rcases Classical.em ((rStr d st).2.err = 0) with h | h
  · exact (rStr_sound hl h).le
  · unfold rStr at h ⊢
    split
    · rename_i h0
      rw [if_pos h0] at h
      cases hn : numF 0 0 (restL d st) with
      | none => exact hl
      | some nk =>
        obtain ⟨n, k⟩ := nk
        rw [hn] at h
        simp only at h ⊢
        split
        · exact hl
        · rename_i hm
          rw [if_neg hm] at h
          exact absurd rfl h
    · exact hl
theorem rCount_le {d : ByteArray} {most : Nat} {st : RS} (hl : st.at_ ≤ d.size) : (rCount d most st).2.at_ ≤ d.size ∧ (rCount d most st).1 ≤ most := by
  unfold rCount
  split
  · rename_i h0
    cases hn : numF 0 0 (restL d st) with
    | none => exact ⟨hl, Nat.zero_le _⟩
    | some nk =>
      obtain ⟨n, k⟩ := nk
      simp only
      split
      · exact ⟨hl, Nat.zero_le _⟩
      · have := numF_k hn
        have := rest_len d st
        exact ⟨by simp only; omega, by simp only; omega⟩
  · exact ⟨hl, Nat.zero_le _⟩
/-- at the head of a loop that reads a list: what is still to come makes the rest -/
structure RdI {α : Type} (d : ByteArray) (step : RS → α × RS) (pc : List α → List (List PV)) (most : Nat) (fin : List α × RS) (y : Int × Int × Int × List (List PV) × Nat) : Prop where
  n0 : 0 ≤ y.1
  st : ∃ (st : RS) (xs : List α), y.2.1 = st.at_ ∧ y.2.2.1 = st.err ∧ st.at_ ≤ d.size ∧ y.2.2.2.1 = pc xs ∧ y.2.2.2.2 = xs.length ∧ (xs.length : Int) + y.1 ≤ most ∧ (xs ++ (rLoop step y.1.toNat st).1, (rLoop step y.1.toNat st).2) = fin
/-- one round is due -/
theorem loop_more {α : Type} {step : RS → α × RS} {n : Int} {st : RS} (hn : 0 < n) (he : st.err = 0) : rLoop step n.toNat st = ((step st).1 :: (rLoop step (n - 1).toNat (step st).2).1, (rLoop step (n - 1).toNat (step st).2).2) := by
  rw [show n.toNat = (n - 1).toNat + 1 by omega]
  conv => lhs; unfold rLoop
  rw [if_pos he]
theorem loop_stop {α : Type} {step : RS → α × RS} {n : Int} {st : RS} (h : ¬ (0 < n ∧ st.err = 0)) : rLoop step n.toNat st = ([], st) := by
  cases hm : n.toNat with
  | zero => rfl
  | succ m =>
    unfold rLoop
    rw [if_neg (fun he => h ⟨by omega, he⟩)]
theorem loop_le {α : Type} {d : ByteArray} {step : RS → α × RS} (hs : ∀ st : RS, st.at_ ≤ d.size → (step st).2.at_ ≤ d.size) : ∀ (n : Nat) (st : RS), st.at_ ≤ d.size → (rLoop step n st).2.at_ ≤ d.size
  | 0, _, h => h
  | n + 1, st, h => by
    unfold rLoop
    split
    · exact loop_le hs n _ (hs st h)
    · exact h
theorem ins_le (d : ByteArray) (st : RS) (h : st.at_ ≤ d.size) : (rIns d st).2.at_ ≤ d.size := rInt_le (rInt_le (rInt_le h))
theorem hdl_le (d : ByteArray) (st : RS) (h : st.at_ ≤ d.size) : (rHdl d st).2.at_ ≤ d.size := rInt_le (rInt_le (rInt_le (rInt_le (rInt_le h))))
theorem cst_le (d : ByteArray) (st : RS) (h : st.at_ ≤ d.size) : (rCst d st).2.at_ ≤ d.size := by
  unfold rCst
  split
  · exact rStr_le (rInt_le h)
  · exact rInt_le (rInt_le h)
set_option maxHeartbeats 8000000 in
theorem func_rd (d : ByteArray) (hd : d.size ≤ 1000000000) (st0 : RS) (hl : st0.at_ ≤ d.size) : CM 49 [.own 0 0] (rH d st0) (.p (.agg (pFn (rFn d st0).1))) (rH d (rFn d st0).2) := by
  unfold rFn
  simp only
  have c1 := str_rd d st0 hl hd
  have l1 := rStr_le hl
  obtain ⟨⟨nm, s1⟩, h1⟩ : ∃ x, rStr d st0 = x := ⟨_, rfl⟩
  rw [h1] at c1 l1
  rw [h1]
  simp only at c1 l1 ⊢
  have c2 := next_rd d s1 l1 hd
  have l2 := rInt_le (st := s1) l1
  obtain ⟨⟨kd, s2⟩, h2⟩ : ∃ x, rInt d s1 = x := ⟨_, rfl⟩
  rw [h2] at c2 l2
  rw [h2]
  simp only at c2 l2 ⊢
  have c3 := next_rd d s2 l2 hd
  have l3 := rInt_le (st := s2) l2
  obtain ⟨⟨pa, s3⟩, h3⟩ : ∃ x, rInt d s2 = x := ⟨_, rfl⟩
  rw [h3] at c3 l3
  rw [h3]
  simp only at c3 l3 ⊢
  have c4 := next_rd d s3 l3 hd
  have l4 := rInt_le (st := s3) l3
  obtain ⟨⟨lo, s4⟩, h4⟩ : ∃ x, rInt d s3 = x := ⟨_, rfl⟩
  rw [h4] at c4 l4
  rw [h4]
  simp only at c4 l4 ⊢
  have c5 := count_rd d 65536 (by omega) s4 l4 hd
  obtain ⟨l5, m5⟩ := rCount_le (most := 65536) l4
  obtain ⟨⟨n5, s5⟩, h5⟩ : ∃ x, rCount d 65536 s4 = x := ⟨_, rfl⟩
  rw [h5] at c5 l5 m5
  rw [h5]
  simp only at c5 l5 m5 ⊢
  obtain ⟨⟨cs, s6⟩, h6⟩ : ∃ x, rLoop (rIns d) n5 s5 = x := ⟨_, rfl⟩
  rw [h6]
  simp only
  obtain ⟨⟨n7, s7⟩, h7⟩ : ∃ x, rCount d 10000 s6 = x := ⟨_, rfl⟩
  rw [h7]
  simp only
  obtain ⟨⟨ks, s8⟩, h8⟩ : ∃ x, rLoop (rCst d) n7 s7 = x := ⟨_, rfl⟩
  rw [h8]
  simp only
  obtain ⟨⟨n9, s9⟩, h9⟩ : ∃ x, rCount d 10000 s8 = x := ⟨_, rfl⟩
  rw [h9]
  simp only
  obtain ⟨⟨hs, s10⟩, h10⟩ : ∃ x, rLoop (rHdl d) n9 s9 = x := ⟨_, rfl⟩
  rw [h10]
  simp only
  unfold pFn
  simp only
  have l6 : s6.at_ ≤ d.size := by have := loop_le (ins_le d) n5 s5 l5; rw [h6] at this; exact this
  have c7 := count_rd d 10000 (by omega) s6 l6 hd
  obtain ⟨l7, m7⟩ := rCount_le (most := 10000) l6
  rw [h7] at c7 l7 m7
  simp only at c7 l7 m7
  have l8 : s8.at_ ≤ d.size := by have := loop_le (cst_le d) n7 s7 l7; rw [h8] at this; exact this
  have c9 := count_rd d 10000 (by omega) s8 l8 hd
  obtain ⟨l9, m9⟩ := rCount_le (most := 10000) l8
  rw [h9] at c9 l9 m9
  simp only at c9 l9 m9
  have w2 : RdI d (rCst d) pCons 10000 (ks, s8) ((n7 : Int), (s7.at_ : Int), s7.err, [], 0) := ⟨Int.natCast_nonneg _, s7, [], rfl, rfl, l7, rfl, rfl, by simp only [List.length_nil]; omega, by rw [show ((n7 : Nat) : Int).toNat = n7 by omega, h8]; rfl⟩
  have w3 : RdI d (rHdl d) pHdls 10000 (hs, s10) ((n9 : Int), (s9.at_ : Int), s9.err, [], 0) := ⟨Int.natCast_nonneg _, s9, [], rfl, rfl, l9, rfl, rfl, by simp only [List.length_nil]; omega, by rw [show ((n9 : Nat) : Int).toNat = n9 by omega, h10]; rfl⟩
  have w1 : RdI d (rIns d) pCode 65536 (cs, s6) ((n5 : Int), (s5.at_ : Int), s5.err, [], 0) := ⟨Int.natCast_nonneg _, s5, [], rfl, rfl, l5, rfl, rfl, by simp only [List.length_nil]; omega, by rw [show ((n5 : Nat) : Int).toNat = n5 by omega, h6]; rfl⟩
  clear h1 h2 h3 h4 h5 h6 h7 h8 h9 h10 m7 m9 l6 l7 l8 l9
  unfold rH at c1 c2 c3 c4 c5 c7 c9 ⊢
  obtain ⟨a0, ea0⟩ : ∃ x : Int, ((st0.at_ : Nat) : Int) = x := ⟨_, rfl⟩
  obtain ⟨a1, ea1⟩ : ∃ x : Int, ((s1.at_ : Nat) : Int) = x := ⟨_, rfl⟩
  obtain ⟨a2, ea2⟩ : ∃ x : Int, ((s2.at_ : Nat) : Int) = x := ⟨_, rfl⟩
  obtain ⟨a3, ea3⟩ : ∃ x : Int, ((s3.at_ : Nat) : Int) = x := ⟨_, rfl⟩
  obtain ⟨a4, ea4⟩ : ∃ x : Int, ((s4.at_ : Nat) : Int) = x := ⟨_, rfl⟩
  obtain ⟨a5, ea5⟩ : ∃ x : Int, ((s5.at_ : Nat) : Int) = x := ⟨_, rfl⟩
  obtain ⟨a10, ea10⟩ : ∃ x : Int, ((s10.at_ : Nat) : Int) = x := ⟨_, rfl⟩
  obtain ⟨a6, ea6⟩ : ∃ x : Int, ((s6.at_ : Nat) : Int) = x := ⟨_, rfl⟩
  obtain ⟨a7, ea7⟩ : ∃ x : Int, ((s7.at_ : Nat) : Int) = x := ⟨_, rfl⟩
  obtain ⟨a8, ea8⟩ : ∃ x : Int, ((s8.at_ : Nat) : Int) = x := ⟨_, rfl⟩
  obtain ⟨a9, ea9⟩ : ∃ x : Int, ((s9.at_ : Nat) : Int) = x := ⟨_, rfl⟩
  obtain ⟨N7, eN7⟩ : ∃ x : Int, ((n7 : Nat) : Int) = x := ⟨_, rfl⟩
  obtain ⟨N9, eN9⟩ : ∃ x : Int, ((n9 : Nat) : Int) = x := ⟨_, rfl⟩
  obtain ⟨E6, ee6⟩ : ∃ x, s6.err = x := ⟨_, rfl⟩
  obtain ⟨E7, ee7⟩ : ∃ x, s7.err = x := ⟨_, rfl⟩
  obtain ⟨E8, ee8⟩ : ∃ x, s8.err = x := ⟨_, rfl⟩
  obtain ⟨E9, ee9⟩ : ∃ x, s9.err = x := ⟨_, rfl⟩
  rw [ea6, ea7, ee6, ee7, eN7] at c7
  rw [ea7, ee7, eN7] at w2
  rw [ea8, ea9, ee8, ee9, eN9] at c9
  rw [ea9, ee9, eN9] at w3
  obtain ⟨N5, eN5⟩ : ∃ x : Int, ((n5 : Nat) : Int) = x := ⟨_, rfl⟩
  obtain ⟨E0, ee0⟩ : ∃ x, st0.err = x := ⟨_, rfl⟩
  obtain ⟨E1, ee1⟩ : ∃ x, s1.err = x := ⟨_, rfl⟩
  obtain ⟨E2, ee2⟩ : ∃ x, s2.err = x := ⟨_, rfl⟩
  obtain ⟨E3, ee3⟩ : ∃ x, s3.err = x := ⟨_, rfl⟩
  obtain ⟨E4, ee4⟩ : ∃ x, s4.err = x := ⟨_, rfl⟩
  obtain ⟨E5, ee5⟩ : ∃ x, s5.err = x := ⟨_, rfl⟩
  obtain ⟨E10, ee10⟩ : ∃ x, s10.err = x := ⟨_, rfl⟩
  rw [ea0, ea1, ee0, ee1] at c1
  rw [ea1, ea2, ee1, ee2] at c2
  rw [ea2, ea3, ee2, ee3] at c3
  rw [ea3, ea4, ee3, ee4] at c4
  rw [ea4, ea5, ee4, ee5, eN5] at c5
  rw [ea5, ee5, eN5] at w1
  rw [ea0, ee0, ea10, ee10]
  clear ea0 ea1 ea2 ea3 ea4 ea5 ea7 ea9 ee7 ee9 eN7 eN9 ee0 ee1 ee2 ee3 ee4 ee5 eN5 l1 l2 l3 l4 m5 hl
  obtain ⟨CD, hCD⟩ : ∃ x, pCode cs = x := ⟨_, rfl⟩
  obtain ⟨CS, hCS⟩ : ∃ x, pCons ks = x := ⟨_, rfl⟩
  obtain ⟨HR, hHR⟩ : ∃ x, pHdls hs = x := ⟨_, rfl⟩
  rw [hCD, hCS, hHR]
  refine retm_cut tyT_ok (f := 49) Tryd.func49 rfl (by kernel_rfl) (of_decide_eq_true (by kernel_rfl)) fun tags htl => ?_
  match tags, htl with
  | [t0], _ =>
    refine Seg.cutK 3 121 [0, 2, 3] 3 (fun _ : Unit => [.own 0 0, .own 1 0, .own 2 0]) (fun _ => [rB d a4 E4 (some t0), some (.box [.p (cS ⟨#[]⟩), .p (cI 0), .p (cI 0), .p (cI 0), .p (.v (.slice none 0 0)), .p (.v (.slice none 0 0)), .p (.v (.slice none 0 0))] 50 none), some (.box [.p (cS nm), .p (cI kd), .p (cI pa), .p (cI lo), .p (.v (.slice none 0 0)), .p (.v (.slice none 0 0)), .p (.v (.slice none 0 0))] 50 none)]) (fun _ => True) tyT_ok mixed (fun _ => 0) (fun E => retQM E tyT Tryd.f49.results.toList [t0] (.p (.agg [cS nm, cI kd, cI pa, cI lo, .ro 3 CD, .ro 3 CS, .ro 5 HR])) [rB d a10 E10 none]) (by kernel_rfl) ?_ ?_
    · intro P G E hc hM hE
      replace c1 := hM _ _ _ _ _ c1
      replace c2 := hM _ _ _ _ _ c2
      replace c3 := hM _ _ _ _ _ c3
      replace c4 := hM _ _ _ _ _ c4
      clear c5 c7 c9 w1 w2 w3 hE
      cbv
      refine .mk _ _ (Wk.refl _ _) [0] _ _ _ _ c1 rfl rfl rfl ?_
      cbv
      refine .mk _ _ (Wk.refl _ _) [0] _ _ _ _ c2 rfl rfl rfl ?_
      cbv
      refine .mk _ _ (Wk.refl _ _) [0] _ _ _ _ c3 rfl rfl rfl ?_
      cbv
      refine .mk _ _ (Wk.refl _ _) [0] _ _ _ _ c4 rfl rfl rfl ?_
      cbv
      exact .mk () ⟨rfl, rfl, rfl, rfl, rfl⟩ trivial
    intro _ _
    clear c1 c2 c3 c4
    refine Seg.cut 121 [0, 2, 3] 3 (fun _ : Int × Int => [.own 0 0, .own 1 0, .own 2 0]) (fun y => [rB d y.1 y.2 (some t0), some (.box [.p (cS ⟨#[]⟩), .p (cI 0), .p (cI 0), .p (cI 0), .p (.v (.slice none 0 0)), .p (.v (.slice none 0 0)), .p (.v (.slice none 0 0))] 50 none), some (.box [.p (cS nm), .p (cI kd), .p (cI pa), .p (cI lo), .p (.ro 3 CD), .p (.v (.slice none 0 0)), .p (.v (.slice none 0 0))] 50 none)]) (fun y => y = ((s6.at_ : Int), s6.err)) (Q := (fun E => retQM E tyT Tryd.f49.results.toList [t0] (.p (.agg [cS nm, cI kd, cI pa, cI lo, .ro 3 CD, .ro 3 CS, .ro 5 HR])) [rB d a10 E10 none]) stdE) ?_ ?_
    · refine Seg.cut 121 [0, 2, 3, 4] 3 (fun _ : Unit => [.own 0 0, .own 1 0, .own 2 0, .p (cI N5)]) (fun _ => [rB d a5 E5 (some t0), some (.box [.p (cS ⟨#[]⟩), .p (cI 0), .p (cI 0), .p (cI 0), .p (.v (.slice none 0 0)), .p (.v (.slice none 0 0)), .p (.v (.slice none 0 0))] 50 none), some (.box [.p (cS nm), .p (cI kd), .p (cI pa), .p (cI lo), .p (.v (.slice none 0 0)), .p (.v (.slice none 0 0)), .p (.v (.slice none 0 0))] 50 none)]) (fun _ => True) ?_ ?_
      · refine Seg.of tyT_ok mixed (fun _ => 0) (by kernel_rfl) (fun E => thenA (CutIs 121 [0, 2, 3, 4] 3 (fun _ : Unit => [.own 0 0, .own 1 0, .own 2 0, .p (cI N5)]) (fun _ => [rB d a5 E5 (some t0), some (.box [.p (cS ⟨#[]⟩), .p (cI 0), .p (cI 0), .p (cI 0), .p (.v (.slice none 0 0)), .p (.v (.slice none 0 0)), .p (.v (.slice none 0 0))] 50 none), some (.box [.p (cS nm), .p (cI kd), .p (cI pa), .p (cI lo), .p (.v (.slice none 0 0)), .p (.v (.slice none 0 0)), .p (.v (.slice none 0 0))] 50 none)]) (fun _ => True)) (thenA (CutIs 121 [0, 2, 3] 3 (fun _ : Int × Int => [.own 0 0, .own 1 0, .own 2 0]) (fun y => [rB d y.1 y.2 (some t0), some (.box [.p (cS ⟨#[]⟩), .p (cI 0), .p (cI 0), .p (cI 0), .p (.v (.slice none 0 0)), .p (.v (.slice none 0 0)), .p (.v (.slice none 0 0))] 50 none), some (.box [.p (cS nm), .p (cI kd), .p (cI pa), .p (cI lo), .p (.ro 3 CD), .p (.v (.slice none 0 0)), .p (.v (.slice none 0 0))] 50 none)]) (fun y => y = ((s6.at_ : Int), s6.err))) (retQM E tyT Tryd.f49.results.toList [t0] (.p (.agg [cS nm, cI kd, cI pa, cI lo, .ro 3 CD, .ro 3 CS, .ro 5 HR])) [rB d a10 E10 none]))) fun P G E hc hM hE => ?_
        replace c5 := hM _ _ _ _ _ c5
        clear w3 hE w1 w2 c7 c9
        cbv
        refine .mk _ _ (Wk.refl _ _) [0] _ _ _ _ c5 rfl rfl rfl ?_
        cbv
        exact .mk () ⟨rfl, rfl, rfl, rfl, rfl⟩ trivial
      intro _ _
      clear c5
      refine Seg.block ?_
      refine Seg.wk (wk_nil (k := 2) (j := 4) 3 54 rfl rfl) ?_
      obtain ⟨μ, hμ⟩ : ∃ μ : Int → Nat, ∀ i, μ i = i.toNat := ⟨_, fun _ => rfl⟩
      refine Seg.loop 121 [0, 2, 3, 4] 4 (fun y : Int × Int × Int × List (List PV) × Nat => [.own 0 0, .own 1 0, .own 2 0, .p (cI y.1)]) (fun y => [rB d y.2.1 y.2.2.1 (some t0), some (.box [.p (cS ⟨#[]⟩), .p (cI 0), .p (cI 0), .p (cI 0), .p (.v (.slice none 0 0)), .p (.v (.slice none 0 0)), .p (.v (.slice none 0 0))] 50 none), some (.box [.p (cS nm), .p (cI kd), .p (cI pa), .p (cI lo), .osl 3 0 y.2.2.2.2, .p (.v (.slice none 0 0)), .p (.v (.slice none 0 0))] 50 none), some (.rows 3 y.2.2.2.1 54)]) (RdI d (rIns d) pCode 65536 (cs, s6)) (fun y => μ y.1) (N5, a5, E5, [], 0) ⟨rfl, rfl, rfl, rfl, rfl⟩ w1 ?_
      clear w1
      rintro ⟨n, a, e, rs, m⟩ ⟨n0, st, xs, ha, he, hle, hrs, hm, hlen, hfin⟩
      simp only at n0 ha he hrs hm hlen hfin
      refine Seg.cut 121 [0, 2, 3, 4] 4 (fun _ : Unit => [.own 0 0, .own 1 0, .own 2 0, .p (cI n)]) (fun _ => [rB d a e (some t0), some (.box [.p (cS ⟨#[]⟩), .p (cI 0), .p (cI 0), .p (cI 0), .p (.v (.slice none 0 0)), .p (.v (.slice none 0 0)), .p (.v (.slice none 0 0))] 50 none), some (.box [.p (cS nm), .p (cI kd), .p (cI pa), .p (cI lo), .osl 3 0 m, .p (.v (.slice none 0 0)), .p (.v (.slice none 0 0))] 50 none), some (.rows 3 rs 54)]) (fun _ => 0 < n ∧ e = 0) ?_ ?_
      · rcases Classical.em (0 < n) with hn | hn
        · rcases Classical.em (e = 0) with he0 | he0
          · refine Seg.of tyT_ok mixed (fun _ => 0) (by kernel_rfl) (fun E => thenA (CutIs 121 [0, 2, 3, 4] 4 (fun _ : Unit => [.own 0 0, .own 1 0, .own 2 0, .p (cI n)]) (fun _ => [rB d a e (some t0), some (.box [.p (cS ⟨#[]⟩), .p (cI 0), .p (cI 0), .p (cI 0), .p (.v (.slice none 0 0)), .p (.v (.slice none 0 0)), .p (.v (.slice none 0 0))] 50 none), some (.box [.p (cS nm), .p (cI kd), .p (cI pa), .p (cI lo), .osl 3 0 m, .p (.v (.slice none 0 0)), .p (.v (.slice none 0 0))] 50 none), some (.rows 3 rs 54)]) (fun _ => 0 < n ∧ e = 0)) (thenA (Again 121 [0, 2, 3, 4] 4 (fun y : Int × Int × Int × List (List PV) × Nat => [.own 0 0, .own 1 0, .own 2 0, .p (cI y.1)]) (fun y => [rB d y.2.1 y.2.2.1 (some t0), some (.box [.p (cS ⟨#[]⟩), .p (cI 0), .p (cI 0), .p (cI 0), .p (.v (.slice none 0 0)), .p (.v (.slice none 0 0)), .p (.v (.slice none 0 0))] 50 none), some (.box [.p (cS nm), .p (cI kd), .p (cI pa), .p (cI lo), .osl 3 0 y.2.2.2.2, .p (.v (.slice none 0 0)), .p (.v (.slice none 0 0))] 50 none), some (.rows 3 y.2.2.2.1 54)]) (RdI d (rIns d) pCode 65536 (cs, s6)) (fun y => μ y.1) (μ n)) (blockA 0 (thenA (CutIs 121 [0, 2, 3] 3 (fun _ : Int × Int => [.own 0 0, .own 1 0, .own 2 0]) (fun y => [rB d y.1 y.2 (some t0), some (.box [.p (cS ⟨#[]⟩), .p (cI 0), .p (cI 0), .p (cI 0), .p (.v (.slice none 0 0)), .p (.v (.slice none 0 0)), .p (.v (.slice none 0 0))] 50 none), some (.box [.p (cS nm), .p (cI kd), .p (cI pa), .p (cI lo), .p (.ro 3 CD), .p (.v (.slice none 0 0)), .p (.v (.slice none 0 0))] 50 none)]) (fun y => y = ((s6.at_ : Int), s6.err))) (retQM E tyT Tryd.f49.results.toList [t0] (.p (.agg [cS nm, cI kd, cI pa, cI lo, .ro 3 CD, .ro 3 CS, .ro 5 HR])) [rB d a10 E10 none]))))) fun P G E hc hM hE => ?_
            have d1 : E.lti 0 n = true := by rw [hE]; exact decide_eq_true hn
            have d2 : decide (e = 0) = true := decide_eq_true he0
            have hI : 0 < n ∧ e = 0 := ⟨hn, he0⟩
            clear hE hfin hlen hm hrs hle he ha n0 w2 w3 c7 c9
            cbv
            repeat (first | (simp only [d1]; cbv) | simp only [d1] | (simp only [d2]; cbv) | simp only [d2])
            exact .mk () ⟨rfl, rfl, rfl, rfl, rfl⟩ hI
          · have hst : rLoop (rIns d) n.toNat st = ([], st) := loop_stop (fun h => he0 (by rw [he]; exact h.2))
            rw [hst, List.append_nil] at hfin
            have hx : xs = cs := congrArg Prod.fst hfin
            have hs : st = s6 := congrArg Prod.snd hfin
            have hI : (a, e) = ((s6.at_ : Int), s6.err) := by rw [ha, he, hs]
            have hR : rs.take m = CD := by rw [hrs, hm, hx, ← hCD, List.take_of_length_le (by simp [pCode])]
            have hml : m ≤ rs.length := by rw [hrs, hm]; simp [pCode]
            clear hfin hlen hx hs hst hm hrs hle he ha n0 w2 w3 c7 c9
            refine Seg.of tyT_ok mixed (fun _ => 0) (by kernel_rfl) (fun E => thenA (CutIs 121 [0, 2, 3, 4] 4 (fun _ : Unit => [.own 0 0, .own 1 0, .own 2 0, .p (cI n)]) (fun _ => [rB d a e (some t0), some (.box [.p (cS ⟨#[]⟩), .p (cI 0), .p (cI 0), .p (cI 0), .p (.v (.slice none 0 0)), .p (.v (.slice none 0 0)), .p (.v (.slice none 0 0))] 50 none), some (.box [.p (cS nm), .p (cI kd), .p (cI pa), .p (cI lo), .osl 3 0 m, .p (.v (.slice none 0 0)), .p (.v (.slice none 0 0))] 50 none), some (.rows 3 rs 54)]) (fun _ => 0 < n ∧ e = 0)) (thenA (Again 121 [0, 2, 3, 4] 4 (fun y : Int × Int × Int × List (List PV) × Nat => [.own 0 0, .own 1 0, .own 2 0, .p (cI y.1)]) (fun y => [rB d y.2.1 y.2.2.1 (some t0), some (.box [.p (cS ⟨#[]⟩), .p (cI 0), .p (cI 0), .p (cI 0), .p (.v (.slice none 0 0)), .p (.v (.slice none 0 0)), .p (.v (.slice none 0 0))] 50 none), some (.box [.p (cS nm), .p (cI kd), .p (cI pa), .p (cI lo), .osl 3 0 y.2.2.2.2, .p (.v (.slice none 0 0)), .p (.v (.slice none 0 0))] 50 none), some (.rows 3 y.2.2.2.1 54)]) (RdI d (rIns d) pCode 65536 (cs, s6)) (fun y => μ y.1) (μ n)) (blockA 0 (thenA (CutIs 121 [0, 2, 3] 3 (fun _ : Int × Int => [.own 0 0, .own 1 0, .own 2 0]) (fun y => [rB d y.1 y.2 (some t0), some (.box [.p (cS ⟨#[]⟩), .p (cI 0), .p (cI 0), .p (cI 0), .p (.v (.slice none 0 0)), .p (.v (.slice none 0 0)), .p (.v (.slice none 0 0))] 50 none), some (.box [.p (cS nm), .p (cI kd), .p (cI pa), .p (cI lo), .p (.ro 3 CD), .p (.v (.slice none 0 0)), .p (.v (.slice none 0 0))] 50 none)]) (fun y => y = ((s6.at_ : Int), s6.err))) (retQM E tyT Tryd.f49.results.toList [t0] (.p (.agg [cS nm, cI kd, cI pa, cI lo, .ro 3 CD, .ro 3 CS, .ro 5 HR])) [rB d a10 E10 none]))))) fun P G E hc hM hE => ?_
            have d1 : E.lti 0 n = true := by rw [hE]; exact decide_eq_true hn
            have d2 : decide (e = 0) = false := decide_eq_false he0
            clear hE
            cbv
            repeat (first | (simp only [d1]; cbv) | simp only [d1] | (simp only [d2]; cbv) | simp only [d2])
            exact .wk (a, e) _ _ (wk_frzE (k := 2) (j := 4) (l := 3) rfl rfl rfl hml hR) ⟨rfl, rfl, rfl, rfl, rfl⟩ hI
        · have hst : rLoop (rIns d) n.toNat st = ([], st) := loop_stop (fun h => hn h.1)
          rw [hst, List.append_nil] at hfin
          have hx : xs = cs := congrArg Prod.fst hfin
          have hs : st = s6 := congrArg Prod.snd hfin
          have hI : (a, e) = ((s6.at_ : Int), s6.err) := by rw [ha, he, hs]
          have hR : rs.take m = CD := by rw [hrs, hm, hx, ← hCD, List.take_of_length_le (by simp [pCode])]
          have hml : m ≤ rs.length := by rw [hrs, hm]; simp [pCode]
          clear hfin hlen hx hs hst hm hrs hle he ha n0 w2 w3 c7 c9
          refine Seg.of tyT_ok mixed (fun _ => 0) (by kernel_rfl) (fun E => thenA (CutIs 121 [0, 2, 3, 4] 4 (fun _ : Unit => [.own 0 0, .own 1 0, .own 2 0, .p (cI n)]) (fun _ => [rB d a e (some t0), some (.box [.p (cS ⟨#[]⟩), .p (cI 0), .p (cI 0), .p (cI 0), .p (.v (.slice none 0 0)), .p (.v (.slice none 0 0)), .p (.v (.slice none 0 0))] 50 none), some (.box [.p (cS nm), .p (cI kd), .p (cI pa), .p (cI lo), .osl 3 0 m, .p (.v (.slice none 0 0)), .p (.v (.slice none 0 0))] 50 none), some (.rows 3 rs 54)]) (fun _ => 0 < n ∧ e = 0)) (thenA (Again 121 [0, 2, 3, 4] 4 (fun y : Int × Int × Int × List (List PV) × Nat => [.own 0 0, .own 1 0, .own 2 0, .p (cI y.1)]) (fun y => [rB d y.2.1 y.2.2.1 (some t0), some (.box [.p (cS ⟨#[]⟩), .p (cI 0), .p (cI 0), .p (cI 0), .p (.v (.slice none 0 0)), .p (.v (.slice none 0 0)), .p (.v (.slice none 0 0))] 50 none), some (.box [.p (cS nm), .p (cI kd), .p (cI pa), .p (cI lo), .osl 3 0 y.2.2.2.2, .p (.v (.slice none 0 0)), .p (.v (.slice none 0 0))] 50 none), some (.rows 3 y.2.2.2.1 54)]) (RdI d (rIns d) pCode 65536 (cs, s6)) (fun y => μ y.1) (μ n)) (blockA 0 (thenA (CutIs 121 [0, 2, 3] 3 (fun _ : Int × Int => [.own 0 0, .own 1 0, .own 2 0]) (fun y => [rB d y.1 y.2 (some t0), some (.box [.p (cS ⟨#[]⟩), .p (cI 0), .p (cI 0), .p (cI 0), .p (.v (.slice none 0 0)), .p (.v (.slice none 0 0)), .p (.v (.slice none 0 0))] 50 none), some (.box [.p (cS nm), .p (cI kd), .p (cI pa), .p (cI lo), .p (.ro 3 CD), .p (.v (.slice none 0 0)), .p (.v (.slice none 0 0))] 50 none)]) (fun y => y = ((s6.at_ : Int), s6.err))) (retQM E tyT Tryd.f49.results.toList [t0] (.p (.agg [cS nm, cI kd, cI pa, cI lo, .ro 3 CD, .ro 3 CS, .ro 5 HR])) [rB d a10 E10 none]))))) fun P G E hc hM hE => ?_
          have d1 : E.lti 0 n = false := by rw [hE]; exact decide_eq_false hn
          clear hE
          cbv
          repeat (first | (simp only [d1]; cbv) | simp only [d1])
          exact .wk (a, e) _ _ (wk_frzE (k := 2) (j := 4) (l := 3) rfl rfl rfl hml hR) ⟨rfl, rfl, rfl, rfl, rfl⟩ hI
      rintro _ ⟨hn, he0⟩
      subst he0
      have hst := loop_more (step := (rIns d)) hn he.symm
      rw [hst] at hfin
      have r1 := next_rd d st hle hd
      have e1 := rInt_le (st := st) hle
      obtain ⟨⟨op, t1⟩, k1⟩ : ∃ x, rInt d st = x := ⟨_, rfl⟩
      rw [k1] at r1 e1
      simp only at r1 e1
      have r2 := next_rd d t1 e1 hd
      have e2 := rInt_le (st := t1) e1
      obtain ⟨⟨xa, t2⟩, k2⟩ : ∃ x, rInt d t1 = x := ⟨_, rfl⟩
      rw [k2] at r2 e2
      simp only at r2 e2
      have r3 := next_rd d t2 e2 hd
      have e3 := rInt_le (st := t2) e2
      obtain ⟨⟨xb, t3⟩, k3⟩ : ∃ x, rInt d t2 = x := ⟨_, rfl⟩
      rw [k3] at r3 e3
      simp only at r3 e3
      have hstep : rIns d st = (⟨op, xa, xb⟩, t3) := by unfold rIns; rw [k1]; simp only; rw [k2]; simp only; rw [k3]
      rw [hstep] at hfin
      obtain ⟨rs2, hrs2⟩ : ∃ x, rs ++ [[cI op, cI xa, cI xb]] = x := ⟨_, rfl⟩
      obtain ⟨m2, hm2⟩ : ∃ x, m + 1 = x := ⟨_, rfl⟩
      have hI2 : RdI d (rIns d) pCode 65536 (cs, s6) (n - 1, (t3.at_ : Int), t3.err, rs2, m2) := by
        refine ⟨by simp only; omega, t3, xs ++ [⟨op, xa, xb⟩], rfl, rfl, e3, ?_, by simp only [List.length_append, List.length_singleton]; omega, by simp only [List.length_append, List.length_singleton]; omega, ?_⟩
        · simp only; rw [← hrs2, hrs]; unfold pCode; rw [List.map_append]; rfl
        · simp only; rw [List.append_assoc]; exact hfin
      have hml2 : m = rs.length := by rw [hm, hrs]; simp [pCode]
      have hmr : m ≤ rs.length := by omega
      have hmb : m ≤ 2000000 := by omega
      clear hstep k1 k2 k3 e1 e2 e3
      unfold rH at r1 r2 r3
      obtain ⟨az, haz⟩ : ∃ x : Int, ((t3.at_ : Nat) : Int) = x := ⟨_, rfl⟩
      obtain ⟨ez, hez⟩ : ∃ x : Int, t3.err = x := ⟨_, rfl⟩
      rw [haz, hez] at r3 hI2
      rw [← ha, ← he] at r1
      clear haz hez
      generalize ((t1.at_ : Nat) : Int) = b1 at *
      generalize ((t2.at_ : Nat) : Int) = b2 at *
      generalize t1.err = g1 at *
      generalize t2.err = g2 at *
      refine Seg.cut 121 [0, 2, 3, 4] 4 (fun _ : Unit => [.own 0 0, .own 1 0, .own 2 0, .p (cI n)]) (fun _ => [rB d az ez (some t0), some (.box [.p (cS ⟨#[]⟩), .p (cI 0), .p (cI 0), .p (cI 0), .p (.v (.slice none 0 0)), .p (.v (.slice none 0 0)), .p (.v (.slice none 0 0))] 50 none), some (.box [.p (cS nm), .p (cI kd), .p (cI pa), .p (cI lo), .osl 3 0 m2, .p (.v (.slice none 0 0)), .p (.v (.slice none 0 0))] 50 none), some (.rows 3 rs2 54)]) (fun _ => True) ?_ ?_
      · refine Seg.block ?_
        refine Seg.regM tyT_ok mixed 10 [3, 5, 7] (fun i => match i with | 3 => 1 | 5 => 2 | 7 => 3 | 8 => 3 | 9 => 3 | _ => 0) (by kernel_rfl) (fun E => blockA 1 (thenA (CutIs 121 [0, 2, 3, 4] 4 (fun _ : Unit => [.own 0 0, .own 1 0, .own 2 0, .p (cI n)]) (fun _ => [rB d az ez (some t0), some (.box [.p (cS ⟨#[]⟩), .p (cI 0), .p (cI 0), .p (cI 0), .p (.v (.slice none 0 0)), .p (.v (.slice none 0 0)), .p (.v (.slice none 0 0))] 50 none), some (.box [.p (cS nm), .p (cI kd), .p (cI pa), .p (cI lo), .osl 3 0 m2, .p (.v (.slice none 0 0)), .p (.v (.slice none 0 0))] 50 none), some (.rows 3 rs2 54)]) (fun _ => True)) (thenA (Again 121 [0, 2, 3, 4] 4 (fun y : Int × Int × Int × List (List PV) × Nat => [.own 0 0, .own 1 0, .own 2 0, .p (cI y.1)]) (fun y => [rB d y.2.1 y.2.2.1 (some t0), some (.box [.p (cS ⟨#[]⟩), .p (cI 0), .p (cI 0), .p (cI 0), .p (.v (.slice none 0 0)), .p (.v (.slice none 0 0)), .p (.v (.slice none 0 0))] 50 none), some (.box [.p (cS nm), .p (cI kd), .p (cI pa), .p (cI lo), .osl 3 0 y.2.2.2.2, .p (.v (.slice none 0 0)), .p (.v (.slice none 0 0))] 50 none), some (.rows 3 y.2.2.2.1 54)]) (RdI d (rIns d) pCode 65536 (cs, s6)) (fun y => μ y.1) (μ n)) (blockA 0 (thenA (CutIs 121 [0, 2, 3] 3 (fun _ : Int × Int => [.own 0 0, .own 1 0, .own 2 0]) (fun y => [rB d y.1 y.2 (some t0), some (.box [.p (cS ⟨#[]⟩), .p (cI 0), .p (cI 0), .p (cI 0), .p (.v (.slice none 0 0)), .p (.v (.slice none 0 0)), .p (.v (.slice none 0 0))] 50 none), some (.box [.p (cS nm), .p (cI kd), .p (cI pa), .p (cI lo), .p (.ro 3 CD), .p (.v (.slice none 0 0)), .p (.v (.slice none 0 0))] 50 none)]) (fun y => y = ((s6.at_ : Int), s6.err))) (retQM E tyT Tryd.f49.results.toList [t0] (.p (.agg [cS nm, cI kd, cI pa, cI lo, .ro 3 CD, .ro 3 CS, .ro 5 HR])) [rB d a10 E10 none])))))) fun P G E hc hM hE => ?_
        replace r1 := hM _ _ _ _ _ r1
        replace r2 := hM _ _ _ _ _ r2
        replace r3 := hM _ _ _ _ _ r3
        have epre : ∀ (r : List (List PV)) k, k ≤ r.length → E.pre 0 k r := fun r k h => by rw [hE]; show 0 + k ≤ r.length; omega
        have eroom : ∀ k, k ≤ 2000000 → E.room k 1 24 := fun k h => by rw [hE]; exact ⟨by unfold maxLen; omega, by omega⟩
        have eaddn : ∀ a b, E.addN a b = a + b := fun a b => by rw [hE]; rfl
        have eapp : ∀ (r : List (List PV)) k x, k = r.length → E.app r k x = r ++ x := fun r k x h => by rw [hE]; show r.take k ++ x = _; rw [h, List.take_length]
        have esub : ∀ x : List PV, E.sub [x] 0 1 = [x] := fun x => by rw [hE]; rfl
        have epre1 : ∀ x : List PV, E.pre 0 1 [x] := fun x => by rw [hE]; show 0 + 1 ≤ 1; omega
        have p5 := epre rs m hmr
        have p4 := eroom m hmb
        have a2 := eaddn m 1
        have r3' := eapp rs m [[cI op, cI xa, cI xb]] hml2
        have r0 := esub [cI op, cI xa, cI xb]
        have p0 := epre1 [cI op, cI xa, cI xb]
        rw [hm2] at a2
        rw [hrs2] at r3'
        clear hE epre eroom eaddn eapp esub epre1 hfin hst hm2 hrs2 hI2 hmr hmb hml2 hrs hm hle he ha n0 hlen w2 w3 c7 c9
        cbv
        refine ⟨.mk (by repeat' (first | exact trivial | refine ⟨rfl, ?_⟩)), ?_⟩
        refine .mk [0] _ _ _ _ r1 rfl rfl rfl rfl ?_
        cbv
        refine ⟨.mk (by repeat' (first | exact trivial | refine ⟨rfl, ?_⟩)), ?_⟩
        refine .mk [0] _ _ _ _ r2 rfl rfl rfl rfl ?_
        cbv
        refine ⟨.mk (by repeat' (first | exact trivial | refine ⟨rfl, ?_⟩)), ?_⟩
        refine .mk [0] _ _ _ _ r3 rfl rfl rfl rfl ?_
        cbv
        refine ⟨.mk (by repeat' (first | exact trivial | refine ⟨rfl, ?_⟩)), ?_⟩
        cbv
        repeat (first | (refine ⟨p5,p4, ?_⟩; cbv) | (simp only [r3',a2]; cbv) | simp only [r3',a2])
        exact .mk () ⟨rfl, rfl, rfl, rfl, rfl⟩ trivial
      intro _ _
      refine Seg.of tyT_ok mixed (fun _ => 0) (by kernel_rfl) (fun E => thenA (Again 121 [0, 2, 3, 4] 4 (fun y : Int × Int × Int × List (List PV) × Nat => [.own 0 0, .own 1 0, .own 2 0, .p (cI y.1)]) (fun y => [rB d y.2.1 y.2.2.1 (some t0), some (.box [.p (cS ⟨#[]⟩), .p (cI 0), .p (cI 0), .p (cI 0), .p (.v (.slice none 0 0)), .p (.v (.slice none 0 0)), .p (.v (.slice none 0 0))] 50 none), some (.box [.p (cS nm), .p (cI kd), .p (cI pa), .p (cI lo), .osl 3 0 y.2.2.2.2, .p (.v (.slice none 0 0)), .p (.v (.slice none 0 0))] 50 none), some (.rows 3 y.2.2.2.1 54)]) (RdI d (rIns d) pCode 65536 (cs, s6)) (fun y => μ y.1) (μ n)) (blockA 0 (thenA (CutIs 121 [0, 2, 3] 3 (fun _ : Int × Int => [.own 0 0, .own 1 0, .own 2 0]) (fun y => [rB d y.1 y.2 (some t0), some (.box [.p (cS ⟨#[]⟩), .p (cI 0), .p (cI 0), .p (cI 0), .p (.v (.slice none 0 0)), .p (.v (.slice none 0 0)), .p (.v (.slice none 0 0))] 50 none), some (.box [.p (cS nm), .p (cI kd), .p (cI pa), .p (cI lo), .p (.ro 3 CD), .p (.v (.slice none 0 0)), .p (.v (.slice none 0 0))] 50 none)]) (fun y => y = ((s6.at_ : Int), s6.err))) (retQM E tyT Tryd.f49.results.toList [t0] (.p (.agg [cS nm, cI kd, cI pa, cI lo, .ro 3 CD, .ro 3 CS, .ro 5 HR])) [rB d a10 E10 none])))) fun P G E hc hM hE => ?_
      have elt : ∀ a b, E.lti a b = decide (a < b) := fun a b => by rw [hE]; rfl
      have esb : ∀ a : Int, 0 < a → a ≤ 1000000 → E.wsub .i64 a 1 = a - 1 := fun a h0 h1 => by rw [hE]; exact wrap_i64_in (by omega) (by omega)
      have ei := esb n hn (by omega)
      have hM2 : μ (E.wsub .i64 n 1) < μ n := by rw [hμ, hμ, ei]; omega
      rw [← ei] at hI2
      clear elt esb ei hE hfin hst hm2 hrs2 hmr hmb hml2 hrs hm hle he ha n0 hlen w2 w3 c7 c9 r1 r2 r3
      cbv
      refine .mk (E.wsub .i64 n 1, az, ez, rs2, m2) ⟨rfl, rfl, rfl, rfl, rfl⟩ ?_ ?_
      · exact hI2
      · exact hM2
    rintro _ rfl
    rw [ea6, ee6]
    refine Seg.cutK 1 121 [0, 2, 3] 3 (fun _ : Int × Int => [.own 0 0, .own 1 0, .own 2 0]) (fun y => [rB d y.1 y.2 (some t0), some (.box [.p (cS ⟨#[]⟩), .p (cI 0), .p (cI 0), .p (cI 0), .p (.v (.slice none 0 0)), .p (.v (.slice none 0 0)), .p (.v (.slice none 0 0))] 50 none), some (.box [.p (cS nm), .p (cI kd), .p (cI pa), .p (cI lo), .p (.ro 3 CD), .p (.ro 3 CS), .p (.v (.slice none 0 0))] 50 none)]) (fun y => y = ((s8.at_ : Int), s8.err)) tyT_ok mixed (fun _ => 0) (fun E => retQM E tyT Tryd.f49.results.toList [t0] (.p (.agg [cS nm, cI kd, cI pa, cI lo, .ro 3 CD, .ro 3 CS, .ro 5 HR])) [rB d a10 E10 none]) (by kernel_rfl) ?_ ?_
    · intro P G E hc hM hE
      replace c7 := hM _ _ _ _ _ c7
      have elt : ∀ a b, E.lti a b = decide (a < b) := fun a b => by rw [hE]; rfl
      have esb : ∀ a : Int, 0 < a → a ≤ 1000000 → E.wsub .i64 a 1 = a - 1 := fun a h0 h1 => by rw [hE]; exact wrap_i64_in (by omega) (by omega)
      have epre : ∀ (r : List (List PV)) k, k ≤ r.length → E.pre 0 k r := fun r k h => by rw [hE]; show 0 + k ≤ r.length; omega
      have eroom : ∀ k, k ≤ 2000000 → E.room k 1 32 := fun k h => by rw [hE]; exact ⟨by unfold maxLen; omega, by omega⟩
      have eaddn : ∀ a b, E.addN a b = a + b := fun a b => by rw [hE]; rfl
      have eapp : ∀ (r : List (List PV)) k x, k = r.length → E.app r k x = r ++ x := fun r k x h => by rw [hE]; show r.take k ++ x = _; rw [h, List.take_length]
      have esub : ∀ x : List PV, E.sub [x] 0 1 = [x] := fun x => by rw [hE]; rfl
      have epre1 : ∀ x : List PV, E.pre 0 1 [x] := fun x => by rw [hE]; show 0 + 1 ≤ 1; omega
      obtain ⟨μ, hμ⟩ : ∃ μ : Int → Nat, ∀ i, μ i = i.toNat := ⟨_, fun _ => rfl⟩
      clear c9 w3 hE
      cbv
      refine .mk _ _ (Wk.refl _ _) [0] _ _ _ _ c7 rfl rfl rfl ?_
      cbv
      refine LoopA.wk (wk_nil (k := 2) (j := 5) 3 69 rfl rfl) ?_
      refine loop_by 121 [0, 2, 3, 5] 4 (fun y : Int × Int × Int × List (List PV) × Nat => [.own 0 0, .own 1 0, .own 2 0, .p (cI y.1)]) (fun y => [rB d y.2.1 y.2.2.1 (some t0), some (.box [.p (cS ⟨#[]⟩), .p (cI 0), .p (cI 0), .p (cI 0), .p (.v (.slice none 0 0)), .p (.v (.slice none 0 0)), .p (.v (.slice none 0 0))] 50 none), some (.box [.p (cS nm), .p (cI kd), .p (cI pa), .p (cI lo), .p (.ro 3 CD), .osl 3 0 y.2.2.2.2, .p (.v (.slice none 0 0))] 50 none), some (.rows 3 y.2.2.2.1 69)]) (RdI d (rCst d) pCons 10000 (ks, s8)) (fun y => μ y.1) (N7, a7, E7, [], 0) ⟨rfl, rfl, rfl, rfl, rfl⟩ w2 ?_
      clear w2
      rintro ⟨n, a, e, rs, m⟩ ⟨n0, st, xs, ha, he, hle, hrs, hm, hlen, hfin⟩
      simp only at n0 ha he hrs hm hlen hfin
      replace hd : d.size ≤ 1000000000 := hd
      replace hlen : (xs.length : Int) + n ≤ 10000 := hlen
      replace ha : a = (st.at_ : Int) := ha
      rcases Classical.em (0 < n ∧ e = 0) with hgo | hgo
      · obtain ⟨hn, he0⟩ := hgo
        subst he0
        have d1 : E.lti 0 n = true := by rw [elt]; exact decide_eq_true hn
        have d2 : decide ((0 : Int) = 0) = true := rfl
        have ei := esb n hn (by omega)
        have hM2 : μ (E.wsub .i64 n 1) < μ n := by rw [hμ, hμ, ei]; omega
        have hst := loop_more (step := rCst d) hn he.symm
        rw [hst] at hfin
        have r1 := next_rd d st hle hd
        have e1 := rInt_le (st := st) hle
        obtain ⟨⟨ck, t1⟩, k1⟩ : ∃ x, rInt d st = x := ⟨_, rfl⟩
        rw [k1] at r1 e1
        simp only at r1 e1
        have hml2 : m = rs.length := by rw [hm, hrs]; simp [pCons]
        have p5 := epre rs m (by omega)
        have p4 := eroom m (by omega)
        have a2 := eaddn m 1
        obtain ⟨m2, hm2⟩ : ∃ x, m + 1 = x := ⟨_, rfl⟩
        rw [hm2] at a2
        rcases Classical.em (ck = 2) with hck | hck
        · have hk : decide (ck = 2) = true := decide_eq_true hck
          have r2 := str_rd d t1 e1 hd
          have e2 := rStr_le (st := t1) e1
          obtain ⟨⟨sx, t2⟩, k2⟩ : ∃ x, rStr d t1 = x := ⟨_, rfl⟩
          rw [k2] at r2 e2
          simp only at r2 e2
          have hstep : rCst d st = (⟨ck, 0, sx⟩, t2) := by unfold rCst; rw [k1]; simp only; rw [if_pos hck, k2]
          rw [hstep] at hfin
          obtain ⟨rs2, hrs2⟩ : ∃ x, rs ++ [[cI ck, cI 0, cS sx]] = x := ⟨_, rfl⟩
          have hI2 : RdI d (rCst d) pCons 10000 (ks, s8) (E.wsub .i64 n 1, (t2.at_ : Int), t2.err, rs2, m2) := by
            rw [ei]
            refine ⟨by simp only; omega, t2, xs ++ [⟨ck, 0, sx⟩], rfl, rfl, e2, ?_, by simp only [List.length_append, List.length_singleton]; omega, by simp only [List.length_append, List.length_singleton]; omega, ?_⟩
            · simp only; rw [← hrs2, hrs]; unfold pCons; rw [List.map_append]; rfl
            · simp only; rw [List.append_assoc]; exact hfin
          have r3' := eapp rs m [[cI ck, cI 0, cS sx]] hml2
          have r0 := esub [cI ck, cI 0, cS sx]
          have p0 := epre1 [cI ck, cI 0, cS sx]
          rw [hrs2] at r3'
          clear hstep k1 k2 e1 e2
          unfold rH at r1 r2
          obtain ⟨az, haz⟩ : ∃ x : Int, ((t2.at_ : Nat) : Int) = x := ⟨_, rfl⟩
          obtain ⟨ez, hez⟩ : ∃ x : Int, t2.err = x := ⟨_, rfl⟩
          rw [haz, hez] at r2 hI2
          rw [← ha, ← he] at r1
          clear haz hez
          generalize ((t1.at_ : Nat) : Int) = b1 at *
          generalize t1.err = g1 at *
          replace r1 := hM _ _ _ _ _ r1
          replace r2 := hM _ _ _ _ _ r2
          clear epre eroom eaddn eapp esub epre1 hfin hst hm2 hrs2 hml2 hrs hm hle he ha n0 hlen elt esb ei hck
          cbv
          repeat (first | (simp only [d1]; cbv) | simp only [d1] | (simp only [d2]; cbv) | simp only [d2])
          refine .mk _ _ (Wk.refl _ _) [0] _ _ _ _ r1 rfl rfl rfl ?_
          cbv
          repeat (first | (simp only [hk]; cbv) | simp only [hk])
          refine .mk _ _ (Wk.refl _ _) [0] _ _ _ _ r2 rfl rfl rfl ?_
          cbv
          repeat (first | (refine ⟨p0,p5,p4, ?_⟩; cbv) | (simp only [r0,r3',a2]; cbv) | simp only [r0,r3',a2])
          refine .mk (E.wsub .i64 n 1, az, ez, rs2, m2) ⟨rfl, rfl, rfl, rfl, rfl⟩ ?_ ?_
          · exact hI2
          · exact hM2
        · have hk : decide (ck = 2) = false := decide_eq_false hck
          have r2 := int_rd d t1 e1 hd
          have e2 := rInt_le (st := t1) e1
          obtain ⟨⟨ix, t2⟩, k2⟩ : ∃ x, rInt d t1 = x := ⟨_, rfl⟩
          rw [k2] at r2 e2
          simp only at r2 e2
          have hstep : rCst d st = (⟨ck, ix, ofL []⟩, t2) := by unfold rCst; rw [k1]; simp only; rw [if_neg hck, k2]
          rw [hstep] at hfin
          obtain ⟨rs2, hrs2⟩ : ∃ x, rs ++ [[cI ck, cI ix, cS ⟨#[]⟩]] = x := ⟨_, rfl⟩
          have hI2 : RdI d (rCst d) pCons 10000 (ks, s8) (E.wsub .i64 n 1, (t2.at_ : Int), t2.err, rs2, m2) := by
            rw [ei]
            refine ⟨by simp only; omega, t2, xs ++ [⟨ck, ix, ofL []⟩], rfl, rfl, e2, ?_, by simp only [List.length_append, List.length_singleton]; omega, by simp only [List.length_append, List.length_singleton]; omega, ?_⟩
            · simp only; rw [← hrs2, hrs]; unfold pCons; rw [List.map_append]; rfl
            · simp only; rw [List.append_assoc]; exact hfin
          have r3' := eapp rs m [[cI ck, cI ix, cS ⟨#[]⟩]] hml2
          have r0 := esub [cI ck, cI ix, cS ⟨#[]⟩]
          have p0 := epre1 [cI ck, cI ix, cS ⟨#[]⟩]
          rw [hrs2] at r3'
          clear hstep k1 k2 e1 e2
          unfold rH at r1 r2
          obtain ⟨az, haz⟩ : ∃ x : Int, ((t2.at_ : Nat) : Int) = x := ⟨_, rfl⟩
          obtain ⟨ez, hez⟩ : ∃ x : Int, t2.err = x := ⟨_, rfl⟩
          rw [haz, hez] at r2 hI2
          rw [← ha, ← he] at r1
          clear haz hez
          generalize ((t1.at_ : Nat) : Int) = b1 at *
          generalize t1.err = g1 at *
          replace r1 := hM _ _ _ _ _ r1
          replace r2 := hM _ _ _ _ _ r2
          clear epre eroom eaddn eapp esub epre1 hfin hst hm2 hrs2 hml2 hrs hm hle he ha n0 hlen elt esb ei hck
          cbv at r3' r0 p0
          cbv
          repeat (first | (simp only [d1]; cbv) | simp only [d1] | (simp only [d2]; cbv) | simp only [d2])
          refine .mk _ _ (Wk.refl _ _) [0] _ _ _ _ r1 rfl rfl rfl ?_
          cbv
          repeat (first | (simp only [hk]; cbv) | simp only [hk])
          refine .mk _ _ (Wk.refl _ _) [0] _ _ _ _ r2 rfl rfl rfl ?_
          cbv
          repeat (first | (refine ⟨p0,p5,p4, ?_⟩; cbv) | (simp only [r0,r3',a2]; cbv) | simp only [r0,r3',a2])
          refine .mk (E.wsub .i64 n 1, az, ez, rs2, m2) ⟨rfl, rfl, rfl, rfl, rfl⟩ ?_ ?_
          · exact hI2
          · exact hM2
      · have hst : rLoop (rCst d) n.toNat st = ([], st) := loop_stop (fun h => hgo ⟨h.1, by rw [he]; exact h.2⟩)
        rw [hst, List.append_nil] at hfin
        have hx : xs = ks := congrArg Prod.fst hfin
        have hs2 : st = s8 := congrArg Prod.snd hfin
        have hI : (a, e) = ((s8.at_ : Int), s8.err) := by rw [ha, he, hs2]
        have hR : rs.take m = CS := by rw [hrs, hm, hx, ← hCS, List.take_of_length_le (by simp [pCons])]
        have hml : m ≤ rs.length := by rw [hrs, hm]; simp [pCons]
        clear hfin hlen hx hs2 hst hm hrs hle he ha n0 epre eroom eaddn eapp esub epre1
        rcases Classical.em (0 < n) with hn | hn
        · have he0 : ¬ e = 0 := fun h => hgo ⟨hn, h⟩
          have d1 : E.lti 0 n = true := by rw [elt]; exact decide_eq_true hn
          have d2 : decide (e = 0) = false := decide_eq_false he0
          clear elt esb hgo
          cbv
          repeat (first | (simp only [d1]; cbv) | simp only [d1] | (simp only [d2]; cbv) | simp only [d2])
          exact .wk (a, e) _ _ (wk_frzE (k := 2) (j := 5) (l := 3) rfl rfl rfl hml hR) ⟨rfl, rfl, rfl, rfl, rfl⟩ hI
        · have d1 : E.lti 0 n = false := by rw [elt]; exact decide_eq_false hn
          clear elt esb hgo
          cbv
          repeat (first | (simp only [d1]; cbv) | simp only [d1])
          exact .wk (a, e) _ _ (wk_frzE (k := 2) (j := 5) (l := 3) rfl rfl rfl hml hR) ⟨rfl, rfl, rfl, rfl, rfl⟩ hI
    rintro _ rfl
    rw [ea8, ee8]
    refine Seg.cut 121 [0, 2, 3] 3 (fun _ : Int × Int => [.own 0 0, .own 1 0, .own 2 0]) (fun y => [rB d y.1 y.2 (some t0), some (.box [.p (cS ⟨#[]⟩), .p (cI 0), .p (cI 0), .p (cI 0), .p (.v (.slice none 0 0)), .p (.v (.slice none 0 0)), .p (.v (.slice none 0 0))] 50 none), some (.box [.p (cS nm), .p (cI kd), .p (cI pa), .p (cI lo), .p (.ro 3 CD), .p (.ro 3 CS), .p (.ro 5 HR)] 50 none)]) (fun y => y = ((s10.at_ : Int), s10.err)) (Q := (fun E => retQM E tyT Tryd.f49.results.toList [t0] (.p (.agg [cS nm, cI kd, cI pa, cI lo, .ro 3 CD, .ro 3 CS, .ro 5 HR])) [rB d a10 E10 none]) stdE) ?_ ?_
    · refine Seg.cut 121 [0, 2, 3, 7] 3 (fun _ : Unit => [.own 0 0, .own 1 0, .own 2 0, .p (cI N9)]) (fun _ => [rB d a9 E9 (some t0), some (.box [.p (cS ⟨#[]⟩), .p (cI 0), .p (cI 0), .p (cI 0), .p (.v (.slice none 0 0)), .p (.v (.slice none 0 0)), .p (.v (.slice none 0 0))] 50 none), some (.box [.p (cS nm), .p (cI kd), .p (cI pa), .p (cI lo), .p (.ro 3 CD), .p (.ro 3 CS), .p (.v (.slice none 0 0))] 50 none)]) (fun _ => True) ?_ ?_
      · refine Seg.of tyT_ok mixed (fun _ => 0) (by kernel_rfl) (fun E => thenA (CutIs 121 [0, 2, 3, 7] 3 (fun _ : Unit => [.own 0 0, .own 1 0, .own 2 0, .p (cI N9)]) (fun _ => [rB d a9 E9 (some t0), some (.box [.p (cS ⟨#[]⟩), .p (cI 0), .p (cI 0), .p (cI 0), .p (.v (.slice none 0 0)), .p (.v (.slice none 0 0)), .p (.v (.slice none 0 0))] 50 none), some (.box [.p (cS nm), .p (cI kd), .p (cI pa), .p (cI lo), .p (.ro 3 CD), .p (.ro 3 CS), .p (.v (.slice none 0 0))] 50 none)]) (fun _ => True)) (thenA (CutIs 121 [0, 2, 3] 3 (fun _ : Int × Int => [.own 0 0, .own 1 0, .own 2 0]) (fun y => [rB d y.1 y.2 (some t0), some (.box [.p (cS ⟨#[]⟩), .p (cI 0), .p (cI 0), .p (cI 0), .p (.v (.slice none 0 0)), .p (.v (.slice none 0 0)), .p (.v (.slice none 0 0))] 50 none), some (.box [.p (cS nm), .p (cI kd), .p (cI pa), .p (cI lo), .p (.ro 3 CD), .p (.ro 3 CS), .p (.ro 5 HR)] 50 none)]) (fun y => y = ((s10.at_ : Int), s10.err))) (retQM E tyT Tryd.f49.results.toList [t0] (.p (.agg [cS nm, cI kd, cI pa, cI lo, .ro 3 CD, .ro 3 CS, .ro 5 HR])) [rB d a10 E10 none]))) fun P G E hc hM hE => ?_
        replace c9 := hM _ _ _ _ _ c9
        clear w3 hE
        cbv
        refine .mk _ _ (Wk.refl _ _) [0] _ _ _ _ c9 rfl rfl rfl ?_
        cbv
        exact .mk () ⟨rfl, rfl, rfl, rfl, rfl⟩ trivial
      intro _ _
      clear c9
      refine Seg.block ?_
      refine Seg.wk (wk_nil (k := 2) (j := 6) 5 56 rfl rfl) ?_
      obtain ⟨μ, hμ⟩ : ∃ μ : Int → Nat, ∀ i, μ i = i.toNat := ⟨_, fun _ => rfl⟩
      refine Seg.loop 121 [0, 2, 3, 7] 4 (fun y : Int × Int × Int × List (List PV) × Nat => [.own 0 0, .own 1 0, .own 2 0, .p (cI y.1)]) (fun y => [rB d y.2.1 y.2.2.1 (some t0), some (.box [.p (cS ⟨#[]⟩), .p (cI 0), .p (cI 0), .p (cI 0), .p (.v (.slice none 0 0)), .p (.v (.slice none 0 0)), .p (.v (.slice none 0 0))] 50 none), some (.box [.p (cS nm), .p (cI kd), .p (cI pa), .p (cI lo), .p (.ro 3 CD), .p (.ro 3 CS), .osl 3 0 y.2.2.2.2] 50 none), some (.rows 5 y.2.2.2.1 56)]) (RdI d (rHdl d) pHdls 10000 (hs, s10)) (fun y => μ y.1) (N9, a9, E9, [], 0) ⟨rfl, rfl, rfl, rfl, rfl⟩ w3 ?_
      clear w3
      rintro ⟨n, a, e, rs, m⟩ ⟨n0, st, xs, ha, he, hle, hrs, hm, hlen, hfin⟩
      simp only at n0 ha he hrs hm hlen hfin
      refine Seg.cut 121 [0, 2, 3, 7] 4 (fun _ : Unit => [.own 0 0, .own 1 0, .own 2 0, .p (cI n)]) (fun _ => [rB d a e (some t0), some (.box [.p (cS ⟨#[]⟩), .p (cI 0), .p (cI 0), .p (cI 0), .p (.v (.slice none 0 0)), .p (.v (.slice none 0 0)), .p (.v (.slice none 0 0))] 50 none), some (.box [.p (cS nm), .p (cI kd), .p (cI pa), .p (cI lo), .p (.ro 3 CD), .p (.ro 3 CS), .osl 3 0 m] 50 none), some (.rows 5 rs 56)]) (fun _ => 0 < n ∧ e = 0) ?_ ?_
      · rcases Classical.em (0 < n) with hn | hn
        · rcases Classical.em (e = 0) with he0 | he0
          · refine Seg.of tyT_ok mixed (fun _ => 0) (by kernel_rfl) (fun E => thenA (CutIs 121 [0, 2, 3, 7] 4 (fun _ : Unit => [.own 0 0, .own 1 0, .own 2 0, .p (cI n)]) (fun _ => [rB d a e (some t0), some (.box [.p (cS ⟨#[]⟩), .p (cI 0), .p (cI 0), .p (cI 0), .p (.v (.slice none 0 0)), .p (.v (.slice none 0 0)), .p (.v (.slice none 0 0))] 50 none), some (.box [.p (cS nm), .p (cI kd), .p (cI pa), .p (cI lo), .p (.ro 3 CD), .p (.ro 3 CS), .osl 3 0 m] 50 none), some (.rows 5 rs 56)]) (fun _ => 0 < n ∧ e = 0)) (thenA (Again 121 [0, 2, 3, 7] 4 (fun y : Int × Int × Int × List (List PV) × Nat => [.own 0 0, .own 1 0, .own 2 0, .p (cI y.1)]) (fun y => [rB d y.2.1 y.2.2.1 (some t0), some (.box [.p (cS ⟨#[]⟩), .p (cI 0), .p (cI 0), .p (cI 0), .p (.v (.slice none 0 0)), .p (.v (.slice none 0 0)), .p (.v (.slice none 0 0))] 50 none), some (.box [.p (cS nm), .p (cI kd), .p (cI pa), .p (cI lo), .p (.ro 3 CD), .p (.ro 3 CS), .osl 3 0 y.2.2.2.2] 50 none), some (.rows 5 y.2.2.2.1 56)]) (RdI d (rHdl d) pHdls 10000 (hs, s10)) (fun y => μ y.1) (μ n)) (blockA 4 (thenA (CutIs 121 [0, 2, 3] 3 (fun _ : Int × Int => [.own 0 0, .own 1 0, .own 2 0]) (fun y => [rB d y.1 y.2 (some t0), some (.box [.p (cS ⟨#[]⟩), .p (cI 0), .p (cI 0), .p (cI 0), .p (.v (.slice none 0 0)), .p (.v (.slice none 0 0)), .p (.v (.slice none 0 0))] 50 none), some (.box [.p (cS nm), .p (cI kd), .p (cI pa), .p (cI lo), .p (.ro 3 CD), .p (.ro 3 CS), .p (.ro 5 HR)] 50 none)]) (fun y => y = ((s10.at_ : Int), s10.err))) (retQM E tyT Tryd.f49.results.toList [t0] (.p (.agg [cS nm, cI kd, cI pa, cI lo, .ro 3 CD, .ro 3 CS, .ro 5 HR])) [rB d a10 E10 none]))))) fun P G E hc hM hE => ?_
            have d1 : E.lti 0 n = true := by rw [hE]; exact decide_eq_true hn
            have d2 : decide (e = 0) = true := decide_eq_true he0
            have hI : 0 < n ∧ e = 0 := ⟨hn, he0⟩
            clear hE hfin hlen hm hrs hle he ha n0 
            cbv
            repeat (first | (simp only [d1]; cbv) | simp only [d1] | (simp only [d2]; cbv) | simp only [d2])
            exact .mk () ⟨rfl, rfl, rfl, rfl, rfl⟩ hI
          · have hst : rLoop (rHdl d) n.toNat st = ([], st) := loop_stop (fun h => he0 (by rw [he]; exact h.2))
            rw [hst, List.append_nil] at hfin
            have hx : xs = hs := congrArg Prod.fst hfin
            have hs : st = s10 := congrArg Prod.snd hfin
            have hI : (a, e) = ((s10.at_ : Int), s10.err) := by rw [ha, he, hs]
            have hR : rs.take m = HR := by rw [hrs, hm, hx, ← hHR, List.take_of_length_le (by simp [pHdls])]
            have hml : m ≤ rs.length := by rw [hrs, hm]; simp [pHdls]
            clear hfin hlen hx hs hst hm hrs hle he ha n0 
            refine Seg.of tyT_ok mixed (fun _ => 0) (by kernel_rfl) (fun E => thenA (CutIs 121 [0, 2, 3, 7] 4 (fun _ : Unit => [.own 0 0, .own 1 0, .own 2 0, .p (cI n)]) (fun _ => [rB d a e (some t0), some (.box [.p (cS ⟨#[]⟩), .p (cI 0), .p (cI 0), .p (cI 0), .p (.v (.slice none 0 0)), .p (.v (.slice none 0 0)), .p (.v (.slice none 0 0))] 50 none), some (.box [.p (cS nm), .p (cI kd), .p (cI pa), .p (cI lo), .p (.ro 3 CD), .p (.ro 3 CS), .osl 3 0 m] 50 none), some (.rows 5 rs 56)]) (fun _ => 0 < n ∧ e = 0)) (thenA (Again 121 [0, 2, 3, 7] 4 (fun y : Int × Int × Int × List (List PV) × Nat => [.own 0 0, .own 1 0, .own 2 0, .p (cI y.1)]) (fun y => [rB d y.2.1 y.2.2.1 (some t0), some (.box [.p (cS ⟨#[]⟩), .p (cI 0), .p (cI 0), .p (cI 0), .p (.v (.slice none 0 0)), .p (.v (.slice none 0 0)), .p (.v (.slice none 0 0))] 50 none), some (.box [.p (cS nm), .p (cI kd), .p (cI pa), .p (cI lo), .p (.ro 3 CD), .p (.ro 3 CS), .osl 3 0 y.2.2.2.2] 50 none), some (.rows 5 y.2.2.2.1 56)]) (RdI d (rHdl d) pHdls 10000 (hs, s10)) (fun y => μ y.1) (μ n)) (blockA 4 (thenA (CutIs 121 [0, 2, 3] 3 (fun _ : Int × Int => [.own 0 0, .own 1 0, .own 2 0]) (fun y => [rB d y.1 y.2 (some t0), some (.box [.p (cS ⟨#[]⟩), .p (cI 0), .p (cI 0), .p (cI 0), .p (.v (.slice none 0 0)), .p (.v (.slice none 0 0)), .p (.v (.slice none 0 0))] 50 none), some (.box [.p (cS nm), .p (cI kd), .p (cI pa), .p (cI lo), .p (.ro 3 CD), .p (.ro 3 CS), .p (.ro 5 HR)] 50 none)]) (fun y => y = ((s10.at_ : Int), s10.err))) (retQM E tyT Tryd.f49.results.toList [t0] (.p (.agg [cS nm, cI kd, cI pa, cI lo, .ro 3 CD, .ro 3 CS, .ro 5 HR])) [rB d a10 E10 none]))))) fun P G E hc hM hE => ?_
            have d1 : E.lti 0 n = true := by rw [hE]; exact decide_eq_true hn
            have d2 : decide (e = 0) = false := decide_eq_false he0
            clear hE
            cbv
            repeat (first | (simp only [d1]; cbv) | simp only [d1] | (simp only [d2]; cbv) | simp only [d2])
            exact .wk (a, e) _ _ (wk_frzE (k := 2) (j := 6) (l := 3) rfl rfl rfl hml hR) ⟨rfl, rfl, rfl, rfl, rfl⟩ hI
        · have hst : rLoop (rHdl d) n.toNat st = ([], st) := loop_stop (fun h => hn h.1)
          rw [hst, List.append_nil] at hfin
          have hx : xs = hs := congrArg Prod.fst hfin
          have hs : st = s10 := congrArg Prod.snd hfin
          have hI : (a, e) = ((s10.at_ : Int), s10.err) := by rw [ha, he, hs]
          have hR : rs.take m = HR := by rw [hrs, hm, hx, ← hHR, List.take_of_length_le (by simp [pHdls])]
          have hml : m ≤ rs.length := by rw [hrs, hm]; simp [pHdls]
          clear hfin hlen hx hs hst hm hrs hle he ha n0 
          refine Seg.of tyT_ok mixed (fun _ => 0) (by kernel_rfl) (fun E => thenA (CutIs 121 [0, 2, 3, 7] 4 (fun _ : Unit => [.own 0 0, .own 1 0, .own 2 0, .p (cI n)]) (fun _ => [rB d a e (some t0), some (.box [.p (cS ⟨#[]⟩), .p (cI 0), .p (cI 0), .p (cI 0), .p (.v (.slice none 0 0)), .p (.v (.slice none 0 0)), .p (.v (.slice none 0 0))] 50 none), some (.box [.p (cS nm), .p (cI kd), .p (cI pa), .p (cI lo), .p (.ro 3 CD), .p (.ro 3 CS), .osl 3 0 m] 50 none), some (.rows 5 rs 56)]) (fun _ => 0 < n ∧ e = 0)) (thenA (Again 121 [0, 2, 3, 7] 4 (fun y : Int × Int × Int × List (List PV) × Nat => [.own 0 0, .own 1 0, .own 2 0, .p (cI y.1)]) (fun y => [rB d y.2.1 y.2.2.1 (some t0), some (.box [.p (cS ⟨#[]⟩), .p (cI 0), .p (cI 0), .p (cI 0), .p (.v (.slice none 0 0)), .p (.v (.slice none 0 0)), .p (.v (.slice none 0 0))] 50 none), some (.box [.p (cS nm), .p (cI kd), .p (cI pa), .p (cI lo), .p (.ro 3 CD), .p (.ro 3 CS), .osl 3 0 y.2.2.2.2] 50 none), some (.rows 5 y.2.2.2.1 56)]) (RdI d (rHdl d) pHdls 10000 (hs, s10)) (fun y => μ y.1) (μ n)) (blockA 4 (thenA (CutIs 121 [0, 2, 3] 3 (fun _ : Int × Int => [.own 0 0, .own 1 0, .own 2 0]) (fun y => [rB d y.1 y.2 (some t0), some (.box [.p (cS ⟨#[]⟩), .p (cI 0), .p (cI 0), .p (cI 0), .p (.v (.slice none 0 0)), .p (.v (.slice none 0 0)), .p (.v (.slice none 0 0))] 50 none), some (.box [.p (cS nm), .p (cI kd), .p (cI pa), .p (cI lo), .p (.ro 3 CD), .p (.ro 3 CS), .p (.ro 5 HR)] 50 none)]) (fun y => y = ((s10.at_ : Int), s10.err))) (retQM E tyT Tryd.f49.results.toList [t0] (.p (.agg [cS nm, cI kd, cI pa, cI lo, .ro 3 CD, .ro 3 CS, .ro 5 HR])) [rB d a10 E10 none]))))) fun P G E hc hM hE => ?_
          have d1 : E.lti 0 n = false := by rw [hE]; exact decide_eq_false hn
          clear hE
          cbv
          repeat (first | (simp only [d1]; cbv) | simp only [d1])
          exact .wk (a, e) _ _ (wk_frzE (k := 2) (j := 6) (l := 3) rfl rfl rfl hml hR) ⟨rfl, rfl, rfl, rfl, rfl⟩ hI
      rintro _ ⟨hn, he0⟩
      subst he0
      have hst := loop_more (step := (rHdl d)) hn he.symm
      rw [hst] at hfin
      have r1 := next_rd d st hle hd
      have e1 := rInt_le (st := st) hle
      obtain ⟨⟨lo1, t1⟩, k1⟩ : ∃ x, rInt d st = x := ⟨_, rfl⟩
      rw [k1] at r1 e1
      simp only at r1 e1
      have r2 := next_rd d t1 e1 hd
      have e2 := rInt_le (st := t1) e1
      obtain ⟨⟨hi1, t2⟩, k2⟩ : ∃ x, rInt d t1 = x := ⟨_, rfl⟩
      rw [k2] at r2 e2
      simp only at r2 e2
      have r3 := next_rd d t2 e2 hd
      have e3 := rInt_le (st := t2) e2
      obtain ⟨⟨tg1, t3⟩, k3⟩ : ∃ x, rInt d t2 = x := ⟨_, rfl⟩
      rw [k3] at r3 e3
      simp only at r3 e3
      have r4 := next_rd d t3 e3 hd
      have e4 := rInt_le (st := t3) e3
      obtain ⟨⟨dp1, t4⟩, k4⟩ : ∃ x, rInt d t3 = x := ⟨_, rfl⟩
      rw [k4] at r4 e4
      simp only at r4 e4
      have r5 := next_rd d t4 e4 hd
      have e5 := rInt_le (st := t4) e4
      obtain ⟨⟨sc1, t5⟩, k5⟩ : ∃ x, rInt d t4 = x := ⟨_, rfl⟩
      rw [k5] at r5 e5
      simp only at r5 e5
      have hstep : rHdl d st = (⟨lo1, hi1, tg1, dp1, sc1⟩, t5) := by unfold rHdl; simp only [k1, k2, k3, k4, k5]
      rw [hstep] at hfin
      obtain ⟨rs2, hrs2⟩ : ∃ x, rs ++ [[cI lo1, cI hi1, cI tg1, cI dp1, cI sc1]] = x := ⟨_, rfl⟩
      obtain ⟨m2, hm2⟩ : ∃ x, m + 1 = x := ⟨_, rfl⟩
      have hI2 : RdI d (rHdl d) pHdls 10000 (hs, s10) (n - 1, (t5.at_ : Int), t5.err, rs2, m2) := by
        refine ⟨by simp only; omega, t5, xs ++ [⟨lo1, hi1, tg1, dp1, sc1⟩], rfl, rfl, e5, ?_, by simp only [List.length_append, List.length_singleton]; omega, by simp only [List.length_append, List.length_singleton]; omega, ?_⟩
        · simp only; rw [← hrs2, hrs]; unfold pHdls; rw [List.map_append]; rfl
        · simp only; rw [List.append_assoc]; exact hfin
      have hml2 : m = rs.length := by rw [hm, hrs]; simp [pHdls]
      have hmr : m ≤ rs.length := by omega
      have hmb : m ≤ 2000000 := by omega
      clear hstep k1 k2 k3 k4 k5 e1 e2 e3 e4 e5
      unfold rH at r1 r2 r3 r4 r5
      obtain ⟨az, haz⟩ : ∃ x : Int, ((t5.at_ : Nat) : Int) = x := ⟨_, rfl⟩
      obtain ⟨ez, hez⟩ : ∃ x : Int, t5.err = x := ⟨_, rfl⟩
      rw [haz, hez] at r5 hI2
      rw [← ha, ← he] at r1
      clear haz hez
      generalize ((t1.at_ : Nat) : Int) = b1 at *
      generalize ((t2.at_ : Nat) : Int) = b2 at *
      generalize ((t3.at_ : Nat) : Int) = b3 at *
      generalize ((t4.at_ : Nat) : Int) = b4 at *
      generalize t1.err = g1 at *
      generalize t2.err = g2 at *
      generalize t3.err = g3 at *
      generalize t4.err = g4 at *
      refine Seg.cut 121 [0, 2, 3, 7] 4 (fun _ : Unit => [.own 0 0, .own 1 0, .own 2 0, .p (cI n)]) (fun _ => [rB d az ez (some t0), some (.box [.p (cS ⟨#[]⟩), .p (cI 0), .p (cI 0), .p (cI 0), .p (.v (.slice none 0 0)), .p (.v (.slice none 0 0)), .p (.v (.slice none 0 0))] 50 none), some (.box [.p (cS nm), .p (cI kd), .p (cI pa), .p (cI lo), .p (.ro 3 CD), .p (.ro 3 CS), .osl 3 0 m2] 50 none), some (.rows 5 rs2 56)]) (fun _ => True) ?_ ?_
      · refine Seg.block ?_
        refine Seg.regM tyT_ok mixed 14 [3, 5, 7, 9, 11] (fun i => match i with | 3 => 1 | 5 => 2 | 7 => 3 | 9 => 4 | 11 => 5 | 12 => 5 | 13 => 5 | _ => 0) (by kernel_rfl) (fun E => blockA 5 (thenA (CutIs 121 [0, 2, 3, 7] 4 (fun _ : Unit => [.own 0 0, .own 1 0, .own 2 0, .p (cI n)]) (fun _ => [rB d az ez (some t0), some (.box [.p (cS ⟨#[]⟩), .p (cI 0), .p (cI 0), .p (cI 0), .p (.v (.slice none 0 0)), .p (.v (.slice none 0 0)), .p (.v (.slice none 0 0))] 50 none), some (.box [.p (cS nm), .p (cI kd), .p (cI pa), .p (cI lo), .p (.ro 3 CD), .p (.ro 3 CS), .osl 3 0 m2] 50 none), some (.rows 5 rs2 56)]) (fun _ => True)) (thenA (Again 121 [0, 2, 3, 7] 4 (fun y : Int × Int × Int × List (List PV) × Nat => [.own 0 0, .own 1 0, .own 2 0, .p (cI y.1)]) (fun y => [rB d y.2.1 y.2.2.1 (some t0), some (.box [.p (cS ⟨#[]⟩), .p (cI 0), .p (cI 0), .p (cI 0), .p (.v (.slice none 0 0)), .p (.v (.slice none 0 0)), .p (.v (.slice none 0 0))] 50 none), some (.box [.p (cS nm), .p (cI kd), .p (cI pa), .p (cI lo), .p (.ro 3 CD), .p (.ro 3 CS), .osl 3 0 y.2.2.2.2] 50 none), some (.rows 5 y.2.2.2.1 56)]) (RdI d (rHdl d) pHdls 10000 (hs, s10)) (fun y => μ y.1) (μ n)) (blockA 4 (thenA (CutIs 121 [0, 2, 3] 3 (fun _ : Int × Int => [.own 0 0, .own 1 0, .own 2 0]) (fun y => [rB d y.1 y.2 (some t0), some (.box [.p (cS ⟨#[]⟩), .p (cI 0), .p (cI 0), .p (cI 0), .p (.v (.slice none 0 0)), .p (.v (.slice none 0 0)), .p (.v (.slice none 0 0))] 50 none), some (.box [.p (cS nm), .p (cI kd), .p (cI pa), .p (cI lo), .p (.ro 3 CD), .p (.ro 3 CS), .p (.ro 5 HR)] 50 none)]) (fun y => y = ((s10.at_ : Int), s10.err))) (retQM E tyT Tryd.f49.results.toList [t0] (.p (.agg [cS nm, cI kd, cI pa, cI lo, .ro 3 CD, .ro 3 CS, .ro 5 HR])) [rB d a10 E10 none])))))) fun P G E hc hM hE => ?_
        replace r1 := hM _ _ _ _ _ r1
        replace r2 := hM _ _ _ _ _ r2
        replace r3 := hM _ _ _ _ _ r3
        replace r4 := hM _ _ _ _ _ r4
        replace r5 := hM _ _ _ _ _ r5
        have epre : ∀ (r : List (List PV)) k, k ≤ r.length → E.pre 0 k r := fun r k h => by rw [hE]; show 0 + k ≤ r.length; omega
        have eroom : ∀ k, k ≤ 2000000 → E.room k 1 40 := fun k h => by rw [hE]; exact ⟨by unfold maxLen; omega, by omega⟩
        have eaddn : ∀ a b, E.addN a b = a + b := fun a b => by rw [hE]; rfl
        have eapp : ∀ (r : List (List PV)) k x, k = r.length → E.app r k x = r ++ x := fun r k x h => by rw [hE]; show r.take k ++ x = _; rw [h, List.take_length]
        have esub : ∀ x : List PV, E.sub [x] 0 1 = [x] := fun x => by rw [hE]; rfl
        have epre1 : ∀ x : List PV, E.pre 0 1 [x] := fun x => by rw [hE]; show 0 + 1 ≤ 1; omega
        have p5 := epre rs m hmr
        have p4 := eroom m hmb
        have a2 := eaddn m 1
        have r3' := eapp rs m [[cI lo1, cI hi1, cI tg1, cI dp1, cI sc1]] hml2
        have r0 := esub [cI lo1, cI hi1, cI tg1, cI dp1, cI sc1]
        have p0 := epre1 [cI lo1, cI hi1, cI tg1, cI dp1, cI sc1]
        rw [hm2] at a2
        rw [hrs2] at r3'
        clear hE epre eroom eaddn eapp esub epre1 hfin hst hm2 hrs2 hI2 hmr hmb hml2 hrs hm hle he ha n0 hlen 
        cbv
        refine ⟨.mk (by repeat' (first | exact trivial | refine ⟨rfl, ?_⟩)), ?_⟩
        refine .mk [0] _ _ _ _ r1 rfl rfl rfl rfl ?_
        cbv
        refine ⟨.mk (by repeat' (first | exact trivial | refine ⟨rfl, ?_⟩)), ?_⟩
        refine .mk [0] _ _ _ _ r2 rfl rfl rfl rfl ?_
        cbv
        refine ⟨.mk (by repeat' (first | exact trivial | refine ⟨rfl, ?_⟩)), ?_⟩
        refine .mk [0] _ _ _ _ r3 rfl rfl rfl rfl ?_
        cbv
        refine ⟨.mk (by repeat' (first | exact trivial | refine ⟨rfl, ?_⟩)), ?_⟩
        refine .mk [0] _ _ _ _ r4 rfl rfl rfl rfl ?_
        cbv
        refine ⟨.mk (by repeat' (first | exact trivial | refine ⟨rfl, ?_⟩)), ?_⟩
        refine .mk [0] _ _ _ _ r5 rfl rfl rfl rfl ?_
        cbv
        refine ⟨.mk (by repeat' (first | exact trivial | refine ⟨rfl, ?_⟩)), ?_⟩
        cbv
        repeat (first | (refine ⟨p5,p4, ?_⟩; cbv) | (simp only [r3',a2]; cbv) | simp only [r3',a2])
        exact .mk () ⟨rfl, rfl, rfl, rfl, rfl⟩ trivial
      intro _ _
      refine Seg.of tyT_ok mixed (fun _ => 0) (by kernel_rfl) (fun E => thenA (Again 121 [0, 2, 3, 7] 4 (fun y : Int × Int × Int × List (List PV) × Nat => [.own 0 0, .own 1 0, .own 2 0, .p (cI y.1)]) (fun y => [rB d y.2.1 y.2.2.1 (some t0), some (.box [.p (cS ⟨#[]⟩), .p (cI 0), .p (cI 0), .p (cI 0), .p (.v (.slice none 0 0)), .p (.v (.slice none 0 0)), .p (.v (.slice none 0 0))] 50 none), some (.box [.p (cS nm), .p (cI kd), .p (cI pa), .p (cI lo), .p (.ro 3 CD), .p (.ro 3 CS), .osl 3 0 y.2.2.2.2] 50 none), some (.rows 5 y.2.2.2.1 56)]) (RdI d (rHdl d) pHdls 10000 (hs, s10)) (fun y => μ y.1) (μ n)) (blockA 4 (thenA (CutIs 121 [0, 2, 3] 3 (fun _ : Int × Int => [.own 0 0, .own 1 0, .own 2 0]) (fun y => [rB d y.1 y.2 (some t0), some (.box [.p (cS ⟨#[]⟩), .p (cI 0), .p (cI 0), .p (cI 0), .p (.v (.slice none 0 0)), .p (.v (.slice none 0 0)), .p (.v (.slice none 0 0))] 50 none), some (.box [.p (cS nm), .p (cI kd), .p (cI pa), .p (cI lo), .p (.ro 3 CD), .p (.ro 3 CS), .p (.ro 5 HR)] 50 none)]) (fun y => y = ((s10.at_ : Int), s10.err))) (retQM E tyT Tryd.f49.results.toList [t0] (.p (.agg [cS nm, cI kd, cI pa, cI lo, .ro 3 CD, .ro 3 CS, .ro 5 HR])) [rB d a10 E10 none])))) fun P G E hc hM hE => ?_
      have elt : ∀ a b, E.lti a b = decide (a < b) := fun a b => by rw [hE]; rfl
      have esb : ∀ a : Int, 0 < a → a ≤ 1000000 → E.wsub .i64 a 1 = a - 1 := fun a h0 h1 => by rw [hE]; exact wrap_i64_in (by omega) (by omega)
      have ei := esb n hn (by omega)
      have hM2 : μ (E.wsub .i64 n 1) < μ n := by rw [hμ, hμ, ei]; omega
      rw [← ei] at hI2
      clear elt esb ei hE hfin hst hm2 hrs2 hmr hmb hml2 hrs hm hle he ha n0 hlen  r1 r2 r3 r4 r5
      cbv
      refine .mk (E.wsub .i64 n 1, az, ez, rs2, m2) ⟨rfl, rfl, rfl, rfl, rfl⟩ ?_ ?_
      · exact hI2
      · exact hM2
    rintro _ rfl
    rw [ea10, ee10]
    refine Seg.of tyT_ok mixed (fun _ => 0) (by kernel_rfl) (fun E => retQM E tyT Tryd.f49.results.toList [t0] (.p (.agg [cS nm, cI kd, cI pa, cI lo, .ro 3 CD, .ro 3 CS, .ro 5 HR])) [rB d a10 E10 none]) fun P G E hc hM hE => ?_
    clear hE
    cbv
    all_goals trivial
end Go.Proofs.YtlffpgjkhehdmaaDoor
