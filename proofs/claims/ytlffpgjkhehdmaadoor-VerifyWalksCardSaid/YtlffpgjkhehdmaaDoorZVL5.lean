/- Own work: law 29's thrown. -/
import Derived.Test.YtlffpgjkhehdmaaDoorZVA
import Derived.Test.YtlffpgjkhehdmaaDoorZGB
namespace Go.Proofs.YtlffpgjkhehdmaaDoor
open Go.RowKit
set_option maxRecDepth 100000

/-- the first handler, from a place on, that covers an instruction -/
def thF (hs : List Hdl) (p q : Int) : Nat → Int → Option Hdl
  | 0, _ => none
  | n + 1, i => match hs[((i + q).tmod hs.length).toNat]? with
    | some h => if h.lo ≤ p ∧ p < h.hi then some h else thF hs p q n (i + 1)
    | none => none
def thrownP (hs : List Hdl) (p c : Int) : Option Hdl := if c.tmod 4 = 3 then thF hs p (c.tdiv 4) hs.length 0 else none
theorem thF_mem {hs : List Hdl} {p q : Int} : ∀ {n : Nat} {i : Int} {h : Hdl}, thF hs p q n i = some h → h ∈ hs ∧ h.lo ≤ p ∧ p < h.hi
  | 0, _, _, h => by cases h
  | n + 1, i, h, e => by
    unfold thF at e
    split at e
    · rename_i h' hh
      split at e
      · rename_i hc
        cases e
        exact ⟨List.mem_of_getElem? hh, hc⟩
      · exact thF_mem e
    · cases e
theorem thrown_mem {hs : List Hdl} {p c : Int} {h : Hdl} (e : thrownP hs p c = some h) : h ∈ hs ∧ h.lo ≤ p ∧ p < h.hi := by
  unfold thrownP at e
  split at e
  · exact thF_mem e
  · cases e
def thR : Option Hdl → PV
  | some h => .tup [.agg [pI h.lo, pI h.hi, pI h.tg, pI h.dp, pI h.sc], pB true]
  | none => .tup [.agg [pI 0, pI 0, pI 0, pI 0, pI 0], pB false]
structure ThI (hs : List Hdl) (p q : Int) (o : Option Hdl) (i : Int) : Prop where
  i0 : 0 ≤ i
  i1 : i ≤ hs.length
  o : thF hs p q (hs.length - i.toNat) i = o
set_option maxHeartbeats 2000000 in
theorem thrown_ret (f : Fn) (hl : f.hdls.length ≤ 10000) (p c : Int) (hc0 : 0 ≤ c) (hc1 : c ≤ 255) : RT 30 [.agg (pFn f), pI p, pI c] (thR (thrownP f.hdls p c)) := by
  obtain ⟨q4, hq4⟩ : ∃ x, c.tdiv 4 = x := ⟨_, rfl⟩
  obtain ⟨r4, hr4⟩ : ∃ x, c.tmod 4 = x := ⟨_, rfl⟩
  have hq0 : 0 ≤ q4 ∧ q4 ≤ 100 := by
    rw [← hq4, Int.tdiv_eq_ediv_of_nonneg hc0]
    omega
  unfold thrownP
  rw [hq4, hr4]
  have hHl : (pHdls f.hdls).length = f.hdls.length := by simp [pHdls]
  have hHg : ∀ (k : Nat) h, f.hdls[k]? = some h → (pHdls f.hdls)[k]? = some [pI h.lo, pI h.hi, pI h.tg, pI h.dp, pI h.sc] := fun k h e => by rw [pHdls, List.getElem?_map, e]; rfl
  unfold pFn
  generalize pCode f.code = CD at *
  generalize pCons f.consts = CS at *
  generalize pHdls f.hdls = HR at *
  generalize f.hdls = hs at *
  generalize f.name = fnm at *
  generalize f.kind = fkd at *
  generalize f.params = fpa at *
  generalize f.locals = flo at *
  obtain ⟨nH, hnH⟩ : ∃ n, hs.length = n := ⟨_, rfl⟩
  rw [hnH] at hHl
  by_cases h3 : r4 = 3
  · rw [if_pos h3]
    obtain ⟨o, ho⟩ : ∃ o, thF hs p q4 hs.length 0 = o := ⟨_, rfl⟩
    rw [ho]
    obtain ⟨rr, hrr⟩ : ∃ x, thR o = x := ⟨_, rfl⟩
    rw [hrr]
    obtain ⟨μ, hμ⟩ : ∃ μ : Int → Nat, ∀ i, μ i = 20000 - i.toNat := ⟨_, fun _ => rfl⟩
    have hx0 : ThI hs p q4 o 0 := ⟨Int.le_refl _, Int.natCast_nonneg _, ho⟩
    have d3 : decide (r4 = 3) = true := decide_eq_true h3
    refine ret_by tyT_ok tabs_gr mixed (fun n => match n with | 6 => 14 | _ => 0) Tryd.func30 rfl (by kernel_rfl) (by kernel_rfl) rfl fun P G E hc hE => ?_
    have elt : ∀ a b, E.lti a b = decide (a < b) := fun a b => by rw [hE]; rfl
    have ele : ∀ a b, E.lei a b = decide (a ≤ b) := fun a b => by rw [hE]; rfl
    have eofn : ∀ n, E.ofN n = (n : Int) := fun n => by rw [hE]; rfl
    have enat : ∀ i, E.nat i = i.toNat := fun i => by rw [hE]; rfl
    have eple : ∀ a b, a ≤ b → E.ple a b := fun a b h => by rw [hE]; exact h
    have eadd : ∀ a b : Int, -1000000 ≤ a → a ≤ 1000000 → -1000000 ≤ b → b ≤ 1000000 → E.wadd .i64 a b = a + b := fun a b h0 h1 h2 h3 => by rw [hE]; exact wrap_i64_in (by omega) (by omega)
    have erem : ∀ a b, E.rem a b = a.tmod b := fun a b => by rw [hE]; rfl
    have w1 : E.rem c 4 = r4 := by rw [erem]; exact hr4
    have w2 : E.wquo .i64 c 4 = q4 := by rw [hE]; show IntKind.wrap .i64 (c.tdiv 4) = q4; rw [hq4]; exact wrap_i64_in (by omega) (by omega)
    cbv at hHl
    cbv
    repeat (first | (simp only [w1]; cbv) | simp only [w1] | (simp only [d3]; cbv) | simp only [d3])
    refine loop_by 45 [1, 2, 3, 6, 7, 8] 2 (fun i : Int => [.p (pI p), .p (pI c), .own 0 0, .own 1 0, .p (pB false), .p (pI i)]) (fun _ => [some (.box [.p (pS fnm), .p (pI fkd), .p (pI fpa), .p (pI flo), .p (.ro 3 CD), .p (.ro 3 CS), .p (.ro 5 HR)] 50 none), some (.box [.p (pI 0), .p (pI 0), .p (pI 0), .p (pI 0), .p (pI 0)] 56 none)]) (ThI hs p q4 o) μ 0 ⟨rfl, rfl, rfl, rfl, rfl⟩ hx0 ?_
    clear hx0
    intro i hI
    obtain ⟨i0, i1, hio⟩ := hI
    replace hnH : hs.length = nH := hnH
    replace hl : hs.length ≤ 10000 := hl
    replace eofn : ∀ n : Nat, E.ofN n = (n : Int) := eofn
    have dd : E.lti i (E.ofN nH) = decide (i < (nH : Int)) := by rw [eofn, elt]
    by_cases hi : i < (nH : Int)
    · rw [decide_eq_true hi] at dd
      obtain ⟨m, hm⟩ : ∃ m, (i + q4).tmod nH = m := ⟨_, rfl⟩
      have hm0 : 0 ≤ m ∧ m < nH := by
        rw [← hm, Int.tmod_eq_emod_of_nonneg (by omega)]
        exact ⟨Int.emod_nonneg _ (by omega), Int.emod_lt_of_pos _ (by omega)⟩
      obtain ⟨h, hh⟩ : ∃ h, hs[m.toNat]? = some h := ⟨_, List.getElem?_eq_getElem (by omega)⟩
      have gr := hHg _ _ hh
      rw [← enat] at gr
      have p3 := eple 0 m hm0.1
      have ei := eadd i 1 (by omega) (by omega) (by omega) (by omega)
      have w3 : E.wadd .i64 i q4 = i + q4 := eadd i q4 (by omega) (by omega) (by omega) (by omega)
      have w4 : E.rem (i + q4) (E.ofN nH) = m := by rw [erem, eofn]; exact hm
      have hz : E.ofN nH = 0 → False := by rw [eofn]; omega
      have hM2 : μ (E.wadd .i64 i 1) < μ i := by rw [hμ, hμ, ei]; omega
      rw [show hs.length - i.toNat = (hs.length - (i.toNat + 1)) + 1 by omega] at hio
      unfold thF at hio
      rw [hnH, hm, hh] at hio
      simp only at hio
      have q1 := ele h.lo p
      have q2 := elt p h.hi
      by_cases hcov : h.lo ≤ p ∧ p < h.hi
      · rw [if_pos hcov] at hio
        rw [decide_eq_true hcov.1] at q1
        rw [decide_eq_true hcov.2] at q2
        obtain rfl : rr = .tup [.agg [pI h.lo, pI h.hi, pI h.tg, pI h.dp, pI h.sc], pB true] := by rw [← hrr, ← hio]; rfl
        obtain ⟨lo, hi', tg, dp, sc⟩ := h
        simp only at gr q1 q2 ⊢
        clear hio hh hrr hHg hm
        generalize i + q4 = iq at *
        cbv
        repeat (first | (simp only [hHl]; cbv) | simp only [hHl] | (simp only [dd]; cbv) | simp only [dd] | (simp only [w2]; cbv) | simp only [w2] | (simp only [w3]; cbv) | simp only [w3] | (simp only [w4]; cbv) | simp only [w4] | (refine ⟨hz,p3,_,gr, ?_⟩; cbv) | (refine ⟨hz,p3, ?_⟩; cbv) | (refine ⟨_,gr, ?_⟩; cbv) | (simp only [q1]; cbv) | simp only [q1] | (simp only [q2]; cbv) | simp only [q2])
      · rw [if_neg hcov] at hio
        have hI2 : ThI hs p q4 o (E.wadd .i64 i 1) := by
          rw [ei]
          refine ⟨by omega, by omega, ?_⟩
          rw [show (i + 1).toNat = i.toNat + 1 by omega, hnH]
          exact hio
        obtain ⟨lo, hi', tg, dp, sc⟩ := h
        simp only at gr q1 q2 hcov
        clear hio hh hrr hHg hm
        generalize i + q4 = iq at *
        by_cases hlo : lo ≤ p
        · rw [decide_eq_true hlo] at q1
          rw [decide_eq_false (fun h => hcov ⟨hlo, h⟩)] at q2
          cbv
          repeat (first | (simp only [hHl]; cbv) | simp only [hHl] | (simp only [dd]; cbv) | simp only [dd] | (simp only [w2]; cbv) | simp only [w2] | (simp only [w3]; cbv) | simp only [w3] | (simp only [w4]; cbv) | simp only [w4] | (refine ⟨hz,p3,_,gr, ?_⟩; cbv) | (refine ⟨hz,p3, ?_⟩; cbv) | (refine ⟨_,gr, ?_⟩; cbv) | (simp only [q1]; cbv) | simp only [q1] | (simp only [q2]; cbv) | simp only [q2])
          refine .mk (E.wadd .i64 i 1) ⟨rfl, rfl, rfl, rfl, rfl⟩ ?_ ?_
          · exact hI2
          · exact hM2
        · rw [decide_eq_false hlo] at q1
          cbv
          repeat (first | (simp only [hHl]; cbv) | simp only [hHl] | (simp only [dd]; cbv) | simp only [dd] | (simp only [w2]; cbv) | simp only [w2] | (simp only [w3]; cbv) | simp only [w3] | (simp only [w4]; cbv) | simp only [w4] | (refine ⟨hz,p3,_,gr, ?_⟩; cbv) | (refine ⟨hz,p3, ?_⟩; cbv) | (refine ⟨_,gr, ?_⟩; cbv) | (simp only [q1]; cbv) | simp only [q1])
          refine .mk (E.wadd .i64 i 1) ⟨rfl, rfl, rfl, rfl, rfl⟩ ?_ ?_
          · exact hI2
          · exact hM2
    · rw [decide_eq_false hi] at dd
      rw [show hs.length - i.toNat = 0 by omega] at hio
      obtain rfl : rr = .tup [.agg [pI 0, pI 0, pI 0, pI 0, pI 0], pB false] := by rw [← hrr, ← hio]; rfl
      clear hio hrr hHg
      cbv
      repeat (first | (simp only [hHl]; cbv) | simp only [hHl] | (simp only [dd]; cbv) | simp only [dd])
  · rw [if_neg h3]
    have d3 : decide (r4 = 3) = false := decide_eq_false h3
    unfold thR
    refine ret_by tyT_ok tabs_gr mixed (fun n => match n with | 6 => 14 | _ => 0) Tryd.func30 rfl (by kernel_rfl) (by kernel_rfl) rfl fun P G E hc hE => ?_
    have w1 : E.rem c 4 = r4 := by rw [hE]; exact hr4
    clear hHg
    cbv
    repeat (first | (simp only [w1]; cbv) | simp only [w1] | (simp only [d3]; cbv) | simp only [d3])
end Go.Proofs.YtlffpgjkhehdmaaDoor
