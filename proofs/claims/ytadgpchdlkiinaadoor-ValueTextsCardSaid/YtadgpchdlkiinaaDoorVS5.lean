/- Own work: ValueTexts and ValueParts: both Slices and both Finds come to the same; a text is what is before an index and from it on. -/
import Derived.Test.YtadgpchdlkiinaaDoorVS4
import Derived.Test.YtadgpchdlkiinaaDoorV2
namespace Go.Proofs.YtadgpchdlkiinaaDoor
open Go.RowKit
set_option maxRecDepth 100000

set_option maxHeartbeats 1000000 in
theorem ltexts_ret (s t : ByteArray) (i j : Int) : R3 9 [.agg [pS s, pS t, pI i, pI j]] (pB true) := by
  have hw := up3 awake_ret
  by_cases hs : s.size ≤ 200
  · by_cases ht : t.size ≤ 200
    · have a1 := up3 (slice_ret s i j (by omega))
      have a2 := up3 (rslice_ret s i j (by omega))
      have a3 := find_ret s t i (by omega) (by omega)
      have a4 := up3 (rfind_ret s t i (by omega) (by omega))
      generalize cutE (runesS s) i j = x at *
      generalize findE (runesS s) (runesS t) i = y at *
      refine ret_by tyT_ok good3_gr mixed (fun n => match n with | 4 => 23 | _ => 0) Tryd.func9 rfl (by kernel_rfl) (by kernel_rfl) rfl fun P G E hc hE => ?_
      replace hw := hc _ _ _ hw
      replace a1 := hc _ _ _ a1
      replace a2 := hc _ _ _ a2
      replace a3 := hc _ _ _ a3
      replace a4 := hc _ _ _ a4
      have e0 : E.lti 200 (E.size s) = false := by rw [hE]; exact decide_eq_false (by simp only [stdE]; omega)
      have e1 : E.lti 200 (E.size t) = false := by rw [hE]; exact decide_eq_false (by simp only [stdE]; omega)
      have e2 : E.eq x x = true := by rw [hE]; exact decide_eq_true rfl
      have e3 : decide (y = y) = true := decide_eq_true rfl
      cbv
      repeat (first | (refine ⟨_, hw, ?_⟩; cbv) | (simp only [e0]; cbv) | simp only [e0] | (simp only [e1]; cbv) | simp only [e1] | (refine ⟨_, a1, ?_⟩; cbv) | (refine ⟨_, a2, ?_⟩; cbv) | (refine ⟨_, a3, ?_⟩; cbv) | (refine ⟨_, a4, ?_⟩; cbv) | (simp only [e2]; cbv) | simp only [e2] | (simp only [e3]; cbv) | simp only [e3])
    · refine ret_by tyT_ok good3_gr mixed (fun n => match n with | 4 => 23 | _ => 0) Tryd.func9 rfl (by kernel_rfl) (by kernel_rfl) rfl fun P G E hc hE => ?_
      replace hw := hc _ _ _ hw
      have e0 : E.lti 200 (E.size s) = false := by rw [hE]; exact decide_eq_false (by simp only [stdE]; omega)
      have e1 : E.lti 200 (E.size t) = true := by rw [hE]; exact decide_eq_true (by simp only [stdE]; omega)
      cbv
      repeat (first | (refine ⟨_, hw, ?_⟩; cbv) | (simp only [e0]; cbv) | simp only [e0] | (simp only [e1]; cbv) | simp only [e1])
  · refine ret_by tyT_ok good3_gr mixed (fun n => match n with | 4 => 23 | _ => 0) Tryd.func9 rfl (by kernel_rfl) (by kernel_rfl) rfl fun P G E hc hE => ?_
    replace hw := hc _ _ _ hw
    have e0 : E.lti 200 (E.size s) = true := by rw [hE]; exact decide_eq_true (by simp only [stdE]; omega)
    cbv
    repeat (first | (refine ⟨_, hw, ?_⟩; cbv) | (simp only [e0]; cbv) | simp only [e0])
/-- the cut before a place and the cut from it on -/
theorem cut_parts (L : List Int) (k : Int) (hl : L.length ≤ 1000) : cutE L 0 k ++ cutE L k 1000 = enB L := by
  unfold cutE
  have b0 : bndE 0 L.length = 0 := by
    unfold bndE
    simp only
    rw [if_neg (by omega), if_neg (by omega), if_neg (by omega)]
  have b1 : bndE 1000 L.length = L.length := by
    unfold bndE
    simp only
    have e : (if (1000 : Int) < 0 then wr (1000 + L.length) else 1000) = 1000 := if_neg (by omega)
    rw [e, if_neg (show ¬ (0 : Int) > 1000 by omega)]
    by_cases h : (L.length : Int) < 1000
    · rw [if_pos h]
    · rw [if_neg h]; omega
  rw [b0, b1, ← enB_app]
  simp only [Int.toNat_natCast, Int.toNat_zero, List.drop_zero, List.take_length]
  rw [List.take_append_drop]
theorem cut_found (L M : List Int) (j : Nat) (hj : j ≤ L.length) (h : M <+: L.drop j) : cutE L j ((j : Int) + M.length) = enB M := by
  have hle := h.length_le
  rw [List.length_drop] at hle
  have bn : ∀ x : Nat, x ≤ L.length → bndE x L.length = x := fun x hx => by
    unfold bndE
    simp only
    rw [if_neg (by omega), if_neg (by omega), if_neg (by omega)]
  unfold cutE
  have e : (j : Int) + M.length = ((j + M.length : Nat) : Int) := by omega
  rw [e, bn j hj, bn _ (by omega)]
  simp only [Int.toNat_natCast]
  congr 1
  rw [List.drop_take, show j + M.length - j = M.length by omega]
  exact (List.prefix_iff_eq_take.1 h).symm
theorem find_again (L M : List Int) (j : Nat) (h : findE L M 0 = j) : findE L M j = j := by
  rcases findE_spec L M 0 with ⟨e, _⟩ | ⟨q, e, h1, h2, h3, h4⟩
  · rw [e] at h; omega
  · have : q = j := by omega
    subst this
    rcases findE_spec L M q with ⟨e', hn⟩ | ⟨p, e', g1, g2, g3, g4⟩
    · exact absurd h3 (hn q h2 (by omega))
    · by_cases hp : p = q
      · rw [e', hp]
      · exact absurd h3 (g4 q (by omega) (by omega))
theorem enB_nil_iff {M : List Int} (hM : VR M) (h : enB M = ⟨#[]⟩) : M = [] := by
  have h1 : (enB M).size = 0 := by rw [h]; rfl
  rw [enB_size] at h1
  have := encs_len M hM
  exact List.length_eq_zero_iff.1 (by omega)
theorem find_nil (L : List Int) : findE L [] 0 = 0 := by
  rcases findE_spec L [] 0 with ⟨e, hn⟩ | ⟨q, e, h1, h2, h3, h4⟩
  · exact absurd List.nil_prefix (hn 0 (by omega) (by omega))
  · by_cases hq : q = 0
    · rw [e, hq]; rfl
    · exact absurd List.nil_prefix (h4 0 (by omega) (by omega))
set_option maxHeartbeats 1000000 in
theorem lparts_ret (s t : ByteArray) (k : Int) (hk0 : -32768 ≤ k) (hk1 : k ≤ 32767) : R3 10 [pS s, pS t, .v (.int .i16 k)] (pB true) := by
  have hw := up3 awake_ret
  by_cases hs : s.size ≤ 200
  · by_cases ht : t.size ≤ 200
    · have r1 := up3 (repR_ret s (by omega))
      have r2 := up3 (repR_ret t (by omega))
      rw [repair_runes] at r1 r2
      have a1 := up3 (slice_ret s 0 k (by omega))
      have a2 := up3 (slice_ret s k 1000 (by omega))
      have a3 := find_ret s t 0 (by omega) (by omega)
      have hL := runesS_vr s
      have hM := runesS_vr t
      have hl := runesS_len s
      have hm := runesS_len t
      have hcp := cut_parts (runesS s) k (by omega)
      have hcl1 : (cutE (runesS s) 0 k).size ≤ 1000 := by
        have := congrArg ByteArray.size hcp
        rw [ByteArray.size_append] at this
        have := enB_le (L := runesS s) (n := 200) (by omega)
        omega
      have hcl2 : (cutE (runesS s) k 1000).size ≤ 1000 := by
        have := congrArg ByteArray.size hcp
        rw [ByteArray.size_append] at this
        have := enB_le (L := runesS s) (n := 200) (by omega)
        omega
      have hmz := enB_le (L := runesS t) (n := 200) (by omega)
      have hrt : runesOf (enB (runesS t)) = runesS t := by rw [runesOf_runes, runesS_enB hM]
      by_cases hf : findE (runesS s) (runesS t) 0 < 0
      · have hf1 : findE (runesS s) (runesS t) 0 = -1 := by
          rcases findE_spec (runesS s) (runesS t) 0 with ⟨e, _⟩ | ⟨q, e, _⟩
          · exact e
          · omega
        have hne : ¬ enB (runesS t) = ⟨#[]⟩ := fun h => by
          rw [enB_nil_iff hM h, find_nil] at hf1
          omega
        rw [hf1] at a3
        generalize cutE (runesS s) 0 k = x at *
        generalize cutE (runesS s) k 1000 = y at *
        generalize enB (runesS s) = u at *
        generalize enB (runesS t) = v at *
        refine ret_by tyT_ok good3_gr mixed (fun _ => 0) Tryd.func10 rfl (by kernel_rfl) (by kernel_rfl) rfl fun P G E hc hE => ?_
        replace hw := hc _ _ _ hw
        replace r1 := hc _ _ _ r1
        replace r2 := hc _ _ _ r2
        replace a1 := hc _ _ _ a1
        replace a2 := hc _ _ _ a2
        replace a3 := hc _ _ _ a3
        have e0 : E.lti 200 (E.size s) = false := by rw [hE]; exact decide_eq_false (by simp only [stdE]; omega)
        have e1 : E.lti 200 (E.size t) = false := by rw [hE]; exact decide_eq_false (by simp only [stdE]; omega)
        have w1 : E.wrap .i64 k = k := by rw [hE]; exact wrap_i64_in (by omega) (by omega)
        have p1 : E.cat x y := by rw [hE]; show _ ≤ _; omega
        have x1 : E.add x y = u := by rw [hE]; exact hcp
        have x2 : E.eq u u = true := by rw [hE]; exact decide_eq_true rfl
        have x3 : E.lti (-1) 0 = true := by rw [hE]; rfl
        have x4 : E.eq v ⟨#[]⟩ = false := by rw [hE]; exact decide_eq_false hne
        cbv
        repeat (first | (refine ⟨_, hw, ?_⟩; cbv) | (simp only [e0]; cbv) | simp only [e0] | (simp only [e1]; cbv) | simp only [e1] | (simp only [w1]; cbv) | simp only [w1] | (refine ⟨_, r1, ?_⟩; cbv) | (refine ⟨_, r2, ?_⟩; cbv) | (refine ⟨_, a1, ?_⟩; cbv) | (refine ⟨_, a2, ?_⟩; cbv) | (refine ⟨p1, ?_⟩; cbv) | (simp only [x1]; cbv) | simp only [x1] | (simp only [x2]; cbv) | simp only [x2] | (refine ⟨_, a3, ?_⟩; cbv) | (simp only [x3]; cbv) | simp only [x3] | (simp only [x4]; cbv) | simp only [x4])
      · obtain ⟨j, hj, hjl, hjp⟩ : ∃ j : Nat, findE (runesS s) (runesS t) 0 = j ∧ j ≤ (runesS s).length ∧ runesS t <+: (runesS s).drop j := by
          rcases findE_spec (runesS s) (runesS t) 0 with ⟨e, _⟩ | ⟨q, e, h1, h2, h3, _⟩
          · omega
          · exact ⟨q, e, h2, h3⟩
        have hjp' := hjp.length_le
        rw [List.length_drop] at hjp'
        have a4 := up3 (slice_ret s j ((j : Int) + (runesS t).length) (by omega))
        rw [cut_found _ _ j hjl hjp] at a4
        have a5 := find_ret s t j (by omega) (by omega)
        rw [find_again _ _ j hj] at a5
        rw [hj] at a3
        obtain ⟨n, hn⟩ : ∃ n : Int, (((runesS t).length : Nat) : Int) = n := ⟨_, rfl⟩
        obtain ⟨i, hi⟩ : ∃ i : Int, ((j : Nat) : Int) = i := ⟨_, rfl⟩
        have hi0 : 0 ≤ i := by rw [← hi]; exact Int.natCast_nonneg _
        have hin : IntKind.i64.wrap (i + n) = i + n := wrap_i64_in (by omega) (by omega)
        rw [hn, hi] at a4
        rw [hi] at a3 a5
        obtain ⟨b, hb⟩ : ∃ b, i + n = b := ⟨_, rfl⟩
        rw [hb] at a4 hin
        have hrl : ((pR (runesOf (enB (runesS t)))).length : Int) = n := by rw [hrt, pR, List.length_map, hn]
        generalize cutE (runesS s) 0 k = x at *
        generalize cutE (runesS s) k 1000 = y at *
        generalize enB (runesS s) = u at *
        generalize enB (runesS t) = v at *
        refine ret_by tyT_ok good3_gr mixed (fun _ => 0) Tryd.func10 rfl (by kernel_rfl) (by kernel_rfl) rfl fun P G E hc hE => ?_
        replace hw := hc _ _ _ hw
        replace r1 := hc _ _ _ r1
        replace r2 := hc _ _ _ r2
        replace a1 := hc _ _ _ a1
        replace a2 := hc _ _ _ a2
        replace a3 := hc _ _ _ a3
        replace a4 := hc _ _ _ a4
        replace a5 := hc _ _ _ a5
        have e0 : E.lti 200 (E.size s) = false := by rw [hE]; exact decide_eq_false (by simp only [stdE]; omega)
        have e1 : E.lti 200 (E.size t) = false := by rw [hE]; exact decide_eq_false (by simp only [stdE]; omega)
        have w1 : E.wrap .i64 k = k := by rw [hE]; exact wrap_i64_in (by omega) (by omega)
        have p1 : E.cat x y := by rw [hE]; show _ ≤ _; omega
        have p2 : E.fits v := by rw [hE]; show _ ≤ _; omega
        have x1 : E.add x y = u := by rw [hE]; exact hcp
        have x2 : ∀ z, E.eq z z = true := fun z => by rw [hE]; exact decide_eq_true rfl
        have x3 : E.lti i 0 = false := by rw [hE]; exact decide_eq_false (by omega)
        have x4 : E.ofN (E.rrows v).length = n := by rw [hE]; exact hrl
        have x5 : E.wadd .i64 i n = b := by rw [hE]; exact (congrArg IntKind.i64.wrap hb).trans hin
        have x6 : decide (i = i) = true := decide_eq_true rfl
        cbv at x4
        cbv
        repeat (first | (refine ⟨_, hw, ?_⟩; cbv) | (simp only [e0]; cbv) | simp only [e0] | (simp only [e1]; cbv) | simp only [e1] | (simp only [w1]; cbv) | simp only [w1] | (refine ⟨_, r1, ?_⟩; cbv) | (refine ⟨_, r2, ?_⟩; cbv) | (refine ⟨_, a1, ?_⟩; cbv) | (refine ⟨_, a2, ?_⟩; cbv) | (refine ⟨p1, ?_⟩; cbv) | (simp only [x1]; cbv) | simp only [x1] | (simp only [x2]; cbv) | simp only [x2] | (refine ⟨_, a3, ?_⟩; cbv) | (simp only [x3]; cbv) | simp only [x3] | (refine ⟨p2, ?_⟩; cbv) | (simp only [x4]; cbv) | simp only [x4] | (simp only [x5]; cbv) | simp only [x5] | (refine ⟨_, a4, ?_⟩; cbv) | (refine ⟨_, a5, ?_⟩; cbv) | (simp only [x6]; cbv) | simp only [x6])
    · refine ret_by tyT_ok good3_gr mixed (fun _ => 0) Tryd.func10 rfl (by kernel_rfl) (by kernel_rfl) rfl fun P G E hc hE => ?_
      replace hw := hc _ _ _ hw
      have e0 : E.lti 200 (E.size s) = false := by rw [hE]; exact decide_eq_false (by simp only [stdE]; omega)
      have e1 : E.lti 200 (E.size t) = true := by rw [hE]; exact decide_eq_true (by simp only [stdE]; omega)
      cbv
      repeat (first | (refine ⟨_, hw, ?_⟩; cbv) | (simp only [e0]; cbv) | simp only [e0] | (simp only [e1]; cbv) | simp only [e1])
  · refine ret_by tyT_ok good3_gr mixed (fun _ => 0) Tryd.func10 rfl (by kernel_rfl) (by kernel_rfl) rfl fun P G E hc hE => ?_
    replace hw := hc _ _ _ hw
    have e0 : E.lti 200 (E.size s) = true := by rw [hE]; exact decide_eq_true (by simp only [stdE]; omega)
    cbv
    repeat (first | (refine ⟨_, hw, ?_⟩; cbv) | (simp only [e0]; cbv) | simp only [e0])
end Go.Proofs.YtadgpchdlkiinaaDoor
