/- Own work: knapsacklaw25.LexerQuotes returns true. -/
import Derived.Test.YtnhbboknffppiaaDoorZLQ2
import Derived.Test.YtnhbboknffppiaaDoorZLL3
namespace Go.Proofs.YtnhbboknffppiaaDoor
open Go.RowKit
set_option maxRecDepth 100000
set_option linter.unusedSimpArgs false

theorem uB_low : ∀ n, n < 128 → uB n = [UInt8.ofNat n] := fun n h => by
  have key := List.all_eq_true.1 (show ((List.range 128).all fun n => decide (uB n = [UInt8.ofNat n])) = true by decide +kernel) n (List.mem_range.2 h)
  exact of_decide_eq_true key
theorem quo_len (x : Bs) : (quo x).length ≤ 4 * x.length + 2 := by
  have hlen : ∀ l : Bs, (l.flatMap qB).length ≤ 4 * l.length := fun l => by
    induction l with
    | nil => exact Nat.le_refl _
    | cons c l ih =>
      have := qB_len c
      rw [List.flatMap_cons, List.length_append, List.length_cons]
      omega
  have := hlen x
  unfold quo
  rw [List.length_cons, List.length_append, List.length_singleton]
  omega
set_option maxHeartbeats 4000000 in
theorem lquotes_ret (s : ByteArray) : RL 9 [pS s] (pB true) := by
  have ha := awake_ret
  obtain ⟨n, hn⟩ : ∃ n : Int, ((s.size : Nat) : Int) = n := ⟨_, rfl⟩
  rcases Classical.em (1000 < n) with hbig | hbig
  · skip
    refine ret_by tyT_ok gl_gr mixed (fun n => match n with | 5 => 31 | _ => 0) Tryd.func9 rfl (by kernel_rfl) (by kernel_rfl) rfl fun P G E hc hE => ?_
    replace ha := hc _ _ _ ha
    have z1 : E.size s = n := by rw [hE]; exact hn
    have d1 : E.lti 1000 n = true := by rw [hE]; exact decide_eq_true hbig
    clear hE hc hn hbig
    cbv
    repeat (first | (refine ⟨_, ha, ?_⟩; cbv) | (simp only [z1]; cbv) | simp only [z1] | (simp only [d1]; cbv) | simp only [d1])
  have hq := quote_ret s (by omega)
  have hrq := upL (rquote_ret s (by omega))
  have hrp := upL (rrepair_ret s (by omega))
  have hrl : (repairL s.data.toList).length ≤ 4 * s.data.toList.length := repairL_size _
  have hsl : s.data.toList.length = s.size := rfl
  have hRS : repairS s = bL (repairL s.data.toList) := rfl
  rw [hRS] at hrp
  have hid : repairL (repairL s.data.toList) = repairL s.data.toList := repairL_valid (repairL_isValid _)
  obtain ⟨x, hx⟩ : ∃ x, repairL s.data.toList = x := ⟨_, rfl⟩
  rw [hx] at hq hrq hrp hrl hid
  have hql := quo_len x
  have hb : lexB (bL (quo x)).data.toList = ([⟨4, x, (quo x).length⟩], none) := by
    rw [show (bL (quo x)).data.toList = quo x by unfold bL; simp]
    have := lex_quo uB repairL uB_low x
    rw [hid] at this
    exact this
  have hqs : (bL (quo x)).size = (quo x).length := rfl
  have hlx := lex_ret (bL (quo x)) (by omega)
  rw [lexR_ok hb] at hlx
  have hrow : tkRows (((bL (quo x)).size : Nat) : Int) [⟨4, x, (quo x).length⟩] = [[pI 4, pS (bL x), pI 0]] := by
    show [[pI 4, pS (bL x), pI ((((bL (quo x)).size : Nat) : Int) - ((quo x).length : Nat))]] = _
    rw [hqs, Int.sub_self]
  rw [hrow] at hlx
  obtain ⟨Q, hQ⟩ : ∃ y, bL (quo x) = y := ⟨_, rfl⟩
  obtain ⟨T, hT⟩ : ∃ y, bL x = y := ⟨_, rfl⟩
  rw [hQ] at hlx hq hrq
  rw [hT] at hlx hrp
  obtain ⟨R, hR⟩ : ∃ y : List (List PV), [[pI 4, pS T, pI 0]] = y := ⟨_, rfl⟩
  rw [hR] at hlx
  have f0 : decide ((0 : Int) = 0) = true := rfl
  refine ret_by tyT_ok gl_gr mixed (fun n => match n with | 5 => 31 | _ => 0) Tryd.func9 rfl (by kernel_rfl) (by kernel_rfl) rfl fun P G E hc hE => ?_
  replace ha := hc _ _ _ ha
  replace hq := hc _ _ _ hq
  replace hrq := hc _ _ _ hrq
  replace hrp := hc _ _ _ hrp
  replace hlx := hc _ _ _ hlx
  have z1 : E.size s = n := by rw [hE]; exact hn
  have d1 : E.lti 1000 n = false := by rw [hE]; exact decide_eq_false hbig
  have q1 : E.eq Q Q = true := by rw [hE]; exact decide_eq_true rfl
  have q2 : E.eq T T = true := by rw [hE]; exact decide_eq_true rfl
  have l1 : E.ofN R.length = 1 := by rw [hE, ← hR]; rfl
  have p0 : E.ple 0 0 := by rw [hE]; show (0 : Int) ≤ 0; omega
  have g1 : R[E.nat 0]? = some [pI 4, pS T, pI 0] := by rw [hE, ← hR]; rfl
  clear hE hc hn hbig hR hb hrow hqs hql hQ hT hx hid hrl hRS
  cbv at l1
  cbv
  repeat (first | (refine ⟨_, ha, ?_⟩; cbv) | (simp only [z1]; cbv) | simp only [z1] | (simp only [d1]; cbv) | simp only [d1] | (refine ⟨_, hq, ?_⟩; cbv) | (refine ⟨_, hlx, ?_⟩; cbv) | (refine ⟨_, hrq, ?_⟩; cbv) | (simp only [q1]; cbv) | simp only [q1] | (simp only [f0]; cbv) | simp only [f0] | (simp only [l1]; cbv) | simp only [l1] | (refine ⟨p0,_,g1, ?_⟩; cbv) | (refine ⟨_, hrp, ?_⟩; cbv) | (simp only [q2]; cbv) | simp only [q2])
end Go.Proofs.YtnhbboknffppiaaDoor
