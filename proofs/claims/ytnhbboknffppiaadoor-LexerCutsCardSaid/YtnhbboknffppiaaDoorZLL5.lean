/- Own work: knapsacklaw25.LexerCuts returns true. -/
import Derived.Test.YtnhbboknffppiaaDoorZLA14
import Derived.Test.YtnhbboknffppiaaDoorZLL3
namespace Go.Proofs.YtnhbboknffppiaaDoor
open Go.RowKit
set_option maxRecDepth 100000
set_option linter.unusedSimpArgs false

theorem tkRows_len2 (n : Int) (ts : List Tk) (i : Nat) (h : i < (tkRows n ts).length) : ∃ k t a a', (tkRows n ts)[i]? = some [pI k, pS t, pI a] ∧ (tkRows n ts)[i]? = some [pI k, pS t, pI a'] ∧ (true = true → a = a') := by
  rw [tkRows_len] at h
  have h2 := tkRows_at (n := n) (List.getElem?_eq_getElem h)
  exact ⟨_, _, _, _, h2, h2, fun _ => rfl⟩
set_option maxHeartbeats 4000000 in
theorem lcuts_ret (s : ByteArray) : RL 3 [pS s] (pB true) := by
  have ha := awake_ret
  obtain ⟨n, hn⟩ : ∃ n : Int, ((s.size : Nat) : Int) = n := ⟨_, rfl⟩
  rcases Classical.em (2000 < n) with hbig | hbig
  · skip
    refine ret_by tyT_ok gl_gr mixed (fun _ => 0) Tryd.func3 rfl (by kernel_rfl) (by kernel_rfl) rfl fun P G E hc hE => ?_
    replace ha := hc _ _ _ ha
    have z1 : E.size s = n := by rw [hE]; exact hn
    have d1 : E.lti 2000 n = true := by rw [hE]; exact decide_eq_true hbig
    clear hE hc hn hbig
    cbv
    repeat (first | (refine ⟨_, ha, ?_⟩; cbv) | (simp only [z1]; cbv) | simp only [z1] | (simp only [d1]; cbv) | simp only [d1])
  have hlx := lex_ret s (by omega)
  have hrl := upL (rlex_ret s (by omega))
  obtain ⟨ts, er, hb⟩ : ∃ ts er, lexB s.data.toList = (ts, er) := ⟨_, _, rfl⟩
  cases er with
  | some p =>
    obtain ⟨m, e⟩ := p
    rw [lexR_bad hb] at hlx hrl
    have hsa := upL (same_nil true)
    obtain ⟨f, hf⟩ : ∃ x : Int, ((s.size : Nat) : Int) - (m : Nat) = x := ⟨_, rfl⟩
    rw [hf] at hlx hrl
    have d2 : decide (e = e) = true := decide_eq_true rfl
    have d3 : decide (f = f) = true := decide_eq_true rfl
    refine ret_by tyT_ok gl_gr mixed (fun _ => 0) Tryd.func3 rfl (by kernel_rfl) (by kernel_rfl) rfl fun P G E hc hE => ?_
    replace ha := hc _ _ _ ha
    replace hlx := hc _ _ _ hlx
    replace hrl := hc _ _ _ hrl
    replace hsa := hc _ _ _ hsa
    have z1 : E.size s = n := by rw [hE]; exact hn
    have d1 : E.lti 2000 n = false := by rw [hE]; exact decide_eq_false hbig
    clear hE hc hn hbig hb hf
    cbv
    repeat (first | (refine ⟨_, ha, ?_⟩; cbv) | (simp only [z1]; cbv) | simp only [z1] | (simp only [d1]; cbv) | simp only [d1] | (refine ⟨_, hlx, ?_⟩; cbv) | (refine ⟨_, hrl, ?_⟩; cbv) | (simp only [d2]; cbv) | simp only [d2] | (simp only [d3]; cbv) | simp only [d3] | (refine ⟨_, hsa, ?_⟩; cbv))
  | none =>
    rw [lexR_ok hb] at hlx hrl
    have hlen : ts.length ≤ 100000000 := by
      have := lexF_cnt _ _ (show lexF uB repairL (s.data.toList.length + 1) s.data.toList = _ from hb)
      have e : s.data.toList.length = s.size := rfl
      omega
    have hsa := upL (same_ret (tkRows (s.size : Nat) ts) (tkRows (s.size : Nat) ts) true rfl (by rw [tkRows_len]; exact hlen) (tkRows_len2 _ _))
    generalize tkRows (s.size : Nat) ts = R at *
    have d2 : decide ((0 : Int) = 0) = true := rfl
    refine ret_by tyT_ok gl_gr mixed (fun _ => 0) Tryd.func3 rfl (by kernel_rfl) (by kernel_rfl) rfl fun P G E hc hE => ?_
    replace ha := hc _ _ _ ha
    replace hlx := hc _ _ _ hlx
    replace hrl := hc _ _ _ hrl
    replace hsa := hc _ _ _ hsa
    have z1 : E.size s = n := by rw [hE]; exact hn
    have d1 : E.lti 2000 n = false := by rw [hE]; exact decide_eq_false hbig
    clear hE hc hn hbig hb hlen
    cbv
    repeat (first | (refine ⟨_, ha, ?_⟩; cbv) | (simp only [z1]; cbv) | simp only [z1] | (simp only [d1]; cbv) | simp only [d1] | (refine ⟨_, hlx, ?_⟩; cbv) | (refine ⟨_, hrl, ?_⟩; cbv) | (simp only [d2]; cbv) | simp only [d2] | (refine ⟨_, hsa, ?_⟩; cbv))
end Go.Proofs.YtnhbboknffppiaaDoor
