/- Own work: what LexerTokens does behind its loop. -/
import Derived.Test.YtnhbboknffppiaaDoorZLA14
import Derived.Test.YtnhbboknffppiaaDoorZLL3
namespace Go.Proofs.YtnhbboknffppiaaDoor
open Go.RowKit
set_option maxRecDepth 100000
set_option linter.unusedSimpArgs false
set_option linter.unusedVariables false

theorem tkRows_len2 (n : Int) (ts : List Tk) (i : Nat) (h : i < (tkRows n ts).length) : ∃ k t a a', (tkRows n ts)[i]? = some [pI k, pS t, pI a] ∧ (tkRows n ts)[i]? = some [pI k, pS t, pI a'] ∧ (true = true → a = a') := by
  rw [tkRows_len] at h
  have h2 := tkRows_at (n := n) (List.getElem?_eq_getElem h)
  exact ⟨_, _, _, _, h2, h2, fun _ => rfl⟩
theorem tkRows_take (n : Int) (ts : List Tk) (k : Nat) : (tkRows n ts).take k = tkRows n (ts.take k) := by unfold tkRows; rw [List.map_take]
set_option maxHeartbeats 4000000 in
theorem tok_seg (s : ByteArray) (hs : s.size ≤ 2000) (stop : Int) (hst : 0 ≤ stop ∧ stop ≤ 255) (TS : List Tk) (ER : Option (Nat × Int)) (hL : lexB s.data.toList = (TS, ER)) :
    Seg Tryd.prog GL 46 (tailK 4 ((Tryd.f8).body.getD .skip)) (fun e env _ => e = .ret ∧ env[4]? = some (.p (pB true)))
      (spreadE [0, 3, 5] [.p (pS s), .p (.rop [.v (.int .u8 stop)]), .p (.rop [.ro 3 (tkRows (s.size : Nat) (TS.take (stop.toNat + 1)))])] 46 0) [] := by
  obtain ⟨n, hn⟩ : ∃ n : Int, ((s.size : Nat) : Int) = n := ⟨_, rfl⟩
  have hbf := upL (before_ret s (by omega))
  have hcnt := lexF_cnt _ _ (show lexF uB repairL (s.data.toList.length + 1) s.data.toList = (TS, ER) from hL)
  have hsl : s.data.toList.length = s.size := rfl
  obtain ⟨TR, hTR⟩ : ∃ x, tkRows n (TS.take (stop.toNat + 1)) = x := ⟨_, rfl⟩
  obtain ⟨RS, hRS⟩ : ∃ x, tkRows n TS = x := ⟨_, rfl⟩
  have hRl : RS.length = TS.length := by rw [← hRS, tkRows_len]
  obtain ⟨m, hm⟩ : ∃ m : Int, ((RS.length : Nat) : Int) = m := ⟨_, rfl⟩
  obtain ⟨st1, hst1⟩ : ∃ y : Int, stop + 1 = y := ⟨_, rfl⟩
  obtain ⟨mn, hmn⟩ : ∃ y : Int, (if st1 < m then st1 else m) = y := ⟨_, rfl⟩
  have hmn0 : 0 ≤ mn ∧ mn ≤ m ∧ mn ≤ st1 ∧ (mn = m ∨ mn = st1) := by
    rw [← hmn]
    split <;> omega
  have htk : (RS.take mn.toNat) = TR := by
    rw [← hTR, ← hRS, tkRows_take]
    congr 1
    rcases hmn0.2.2.2 with h | h
    · rw [List.take_of_length_le (by omega), List.take_of_length_le (by omega)]
    · rw [show mn.toNat = stop.toNat + 1 by omega]
  have hsa := upL (same_ret TR TR true rfl (by rw [← hTR, tkRows_len, List.length_take]; omega) (by rw [← hTR]; exact tkRows_len2 _ _))
  have hres : ∃ x y, befR s = .tup [.ro 3 RS, pI x, pI y] := by
    unfold befR
    rw [hL, hn, ← hRS]
    cases ER with
    | none => exact ⟨_, _, rfl⟩
    | some p => exact ⟨_, _, rfl⟩
  obtain ⟨x1, x2, hres⟩ := hres
  rw [hres] at hbf
  rw [hn, hTR]
  refine Seg.of0 tyT_ok mixed (fun r => match r with | 9 => 9 | _ => 0) (by kernel_rfl) fun P G E hc hM hE => ?_
  replace hbf := hc _ _ _ hbf
  replace hsa := hc _ _ _ hsa
  have l0 : E.ofN RS.length = m := by rw [hE]; exact hm
  have w1 : E.wrap .i64 stop = stop := by rw [hE]; exact wrap_i64_in (by omega) (by omega)
  have w2 : E.wadd .i64 stop 1 = st1 := by rw [hE, ← hst1]; exact wrap_i64_in (by omega) (by omega)
  have mE : E.min m st1 = mn := by rw [hE]; exact hmn
  have r1 : E.cut RS (E.nat 0) (E.nat mn) = TR := by rw [hE]; show (RS.take mn.toNat).drop 0 = TR; rw [List.drop_zero]; exact htk
  have p0 : E.ple 0 0 := by rw [hE]; exact Int.le_refl _
  have p1 : E.ple 0 mn := by rw [hE]; exact hmn0.1
  have p2 : E.ple mn m := by rw [hE]; exact hmn0.2.1
  clear hL hcnt hsl hRS hRl hTR hres hE hc hM hmn htk hm
  cbv at l0
  cbv
  repeat (first | (refine ⟨_, hbf, ?_⟩; cbv) | (simp only [l0]; cbv) | simp only [l0] | (simp only [w1]; cbv) | simp only [w1] | (simp only [w2]; cbv) | simp only [w2] | (simp only [mE]; cbv) | simp only [mE] | (refine ⟨p0,p1,p2, ?_⟩; cbv) | (simp only [r1]; cbv) | simp only [r1] | (refine ⟨_, hsa, ?_⟩; cbv))
  all_goals trivial
/-- behind the loop -/
theorem tok_rest (s : ByteArray) (hs : s.size ≤ 2000) (stop : Int) (hst : 0 ≤ stop ∧ stop ≤ 255) (TS : List Tk) (ER : Option (Nat × Int)) (hL : lexB s.data.toList = (TS, ER)) (ds : List Deferred) (a : Act) (W : World) (hG : GL W) (had : a.defers = ds) (hsz : a.tmps.size = 46)
    (h0 : a.tmps[0]? = some (.string s)) (v3 v5 : Value) (h3 : a.tmps[3]? = some v3) (h5 : a.tmps[5]? = some v5) (r3 : RepP W (fun _ => True) (.rop [.v (.int .u8 stop)]) v3) (r5 : RepP W (fun _ => True) (.rop [.ro 3 (tkRows (s.size : Nat) (TS.take (stop.toNat + 1)))]) v5) :
    (tailK 4 ((Tryd.f8).body.getD .skip)).wp Tryd.prog (fun e a' W' => e = .ret ∧ a'.defers = ds ∧ a'.tmps[4]? = some (.bool true) ∧ Gr W W') a W := by
  have hB : GrX ⟨W, fun _ => False, ds, fun _ => none⟩ W := ⟨rfl, rfl, rfl, Nat.le_refl _, fun _ _ _ => rfl⟩
  have hown : ∀ b, Rd (fun _ => True) [] [] b := fun b => ⟨trivial, fun ⟨k, h⟩ => by simp at h⟩
  have hup : ∀ (p : PV) (v : Value), RepP W (fun _ => True) p v → Rep W [] (Rd (fun _ => True) [] []) (.p p) v := fun p v h => .p _ _ (h.keep (Nat.le_refl _) fun b _ _ => ⟨hown b, rfl⟩)
  refine wp_mono (tok_seg s hs stop hst TS ER hL ⟨W, fun _ => False, ds, fun _ => none⟩ (fun _ => True) (fun w h => gl_gr W w ⟨h.os, h.tape, h.output, h.size, fun k hk => h.block k hk id⟩ hG) (fun _ _ => trivial) (dstK_none (fun _ => rfl) _) a W
    ⟨had, hsz, (fun t v h => by cases h), ⟨[], ⟨hB, (fun _ _ => trivial), rfl, (fun k b c s hk => by simp at hk), (fun k l b b' c s s' hk => by simp at hk)⟩, ⟨by rw [hsz, spreadE_len], ?_⟩⟩⟩) ?_
  · intro t x v hx hv
    have ht : t < 46 := by
      have := (List.getElem?_eq_some_iff.1 hx).1
      rw [spreadE_len] at this
      exact this
    rw [spreadE_get _ _ _ _ _ ht, Nat.zero_add] at hx
    cases hx
    by_cases e0 : t = 0
    · subst e0
      rw [h0] at hv
      cases hv
      exact hup _ _ (.v _)
    by_cases e3 : t = 3
    · subst e3
      rw [h3] at hv
      cases hv
      exact hup _ _ r3
    by_cases e5 : t = 5
    · subst e5
      rw [h5] at hv
      cases hv
      exact hup _ _ r5
    have hnb : ∀ k, t ≠ k → Nat.beq t k = false := fun k h => by
      cases hb : Nat.beq t k with
      | false => rfl
      | true => exact absurd (Nat.eq_of_beq_eq_true hb) h
    have hj : lookE t [0, 3, 5] [.p (pS s), .p (.rop [.v (.int .u8 stop)]), .p (.rop [.ro 3 (tkRows (s.size : Nat) (TS.take (stop.toNat + 1)))])] = .junk := by
      simp only [lookE, hnb 0 e0, hnb 3 e3, hnb 5 e5]
    rw [hj]
    exact .junk _
  · rintro e a' W' ⟨env, H, ⟨he, henv⟩, hS⟩
    obtain ⟨ι, hR, hE⟩ := hS.rep
    have hlt : 4 < a'.tmps.size := by rw [hS.size]; decide
    have h4 := hE.at_ 4 _ _ henv (Array.getElem?_eq_getElem hlt)
    have h6 := rep_v h4
    refine ⟨he, hS.defers, ?_, ⟨hR.gr.os, hR.gr.tape, hR.gr.output, hR.gr.size, fun k hk => hR.gr.block k hk id⟩⟩
    rw [Array.getElem?_eq_getElem hlt, h6]
end Go.Proofs.YtnhbboknffppiaaDoor
