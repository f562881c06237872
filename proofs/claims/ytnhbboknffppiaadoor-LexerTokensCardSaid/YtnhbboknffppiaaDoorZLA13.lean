/- Own work: package knapsackref25: token where it is an operator; token. -/
import Derived.Test.YtnhbboknffppiaaDoorZLA12
namespace Go.Proofs.YtnhbboknffppiaaDoor
open Go.RowKit
set_option maxRecDepth 100000
set_option linter.unusedSimpArgs false

structure OpI (L : Bs) (i : Int) : Prop where
  i0 : 0 ≤ i
  i1 : i ≤ 35
  f : opL L = (allOp.drop i.toNat).find? (fun o => decide (L.take o.length = o))
theorem opS_small : ∀ t ∈ opS, t.size ≤ 3 := by decide
set_option maxHeartbeats 8000000 in
theorem rtok_op (s : ByteArray) (a : Int) (q : UInt8) (h0 : 0 ≤ a) (hq : s.data.toList[a.toNat]? = some q) (hl : ltr q = false) (hd : dgt q = false) (hqt : ¬ (q = 34 ∨ q = 39)) (hs : s.size ≤ 900000) : V0 30 [pS s, pI a] (rtokR s a) := by
  obtain ⟨n, hn⟩ : ∃ n : Int, ((s.size : Nat) : Int) = n := ⟨_, rfl⟩
  have h1 : a < n := by
    have := (List.getElem?_eq_some_iff.1 hq).1
    have e : s.data.toList.length = s.size := rfl
    omega
  obtain ⟨zq, hzq⟩ : ∃ z : Int, ((q.toNat : Nat) : Int) = z := ⟨_, rfl⟩
  have hau : rst s a = q :: rst s (a + 1) := rst_cons h0 hq
  have hrl := rst_len s a
  obtain ⟨W, D, T, e1, m0, hR⟩ := rw_of s a h0 (by omega) q
  rw [hn] at hR
  have hl1 := rlet_b q zq false hzq hl
  have hd1 := rdig_b q zq false hzq hd
  have hop := operators_ret
  have hbg := fun (t : ByteArray) (b : Bool) (ht : t.size ≤ 3) (hb : begB s a t.data.toList = b) => show V0 36 [pS s, pI a, pS t] (pB b) from hb ▸ begins_ret s t a h0 (by omega) (by omega) (by omega)
  have f1 : decide (zq = 34) = false := decide_eq_false fun e => hqt (.inl (UInt8.toNat_inj.1 (by show q.toNat = 34; omega)))
  have f2 : decide (zq = 39) = false := decide_eq_false fun e => hqt (.inr (UInt8.toNat_inj.1 (by show q.toNat = 39; omega)))
  obtain ⟨L, hL⟩ : ∃ x, rst s a = x := ⟨_, rfl⟩
  have htok : tokL uB repairL L = match opL L with
    | none => .bad 4
    | some w => .ok 5 w (L.drop w.length) := by
    rw [← hL, hau, tokL, if_neg (by rw [hl]; decide), if_neg (by rw [hd]; decide), if_neg hqt]
    cases opL (q :: rst s (a + 1)) <;> rfl
  obtain ⟨RV, hRV⟩ : ∃ x, rtokR s a = x := ⟨_, rfl⟩
  have hv0 : opL L = none → RV = .tup [.agg [pI 0, pS ⟨#[]⟩, pI 0], pI 0, pI 4] := fun h => by
    rw [← hRV]
    exact rtokR_bad (by rw [hL, htok, h])
  have hv1 : ∀ (t : ByteArray) (m : Int), opL L = some t.data.toList → ((t.size : Nat) : Int) = m → RV = .tup [.agg [pI 5, pS t, pI a], pI m, pI 0] := fun t m h hm => by
    have hT : bL t.data.toList = t := bl_inj (by unfold bL; simp)
    obtain ⟨_, _, h3⟩ := opL_some h
    have h4 : t.data.toList.length = t.size := rfl
    have h5 : (L.drop t.data.toList.length).length = L.length - t.data.toList.length := List.length_drop
    rw [hL] at hrl
    rw [← hRV, rtokR_ok (show tokL uB repairL (rst s a) = .ok 5 t.data.toList (L.drop t.data.toList.length) by rw [hL, htok, h])]
    unfold pTk
    rw [hT, show ((s.size : Nat) : Int) - ((L.drop t.data.toList.length).length : Nat) - a = m by omega]
  have hll : (pSs opS).length = 35 := rfl
  have hg : ∀ (k : Nat) x, opS[k]? = some x → (pSs opS)[k]? = some [pS x] := fun k x h => by
    unfold pSs
    rw [List.getElem?_map, h]
    rfl
  have hga : ∀ (k : Nat) x, opS[k]? = some x → allOp.drop k = x.data.toList :: allOp.drop (k + 1) := fun k x h => by
    have h2 : allOp[k]? = some x.data.toList := by rw [← opS_all, List.getElem?_map, h]; rfl
    have h3 := (List.getElem?_eq_some_iff.1 h2).1
    rw [List.drop_eq_getElem_cons h3]
    congr 1
    exact (List.getElem?_eq_some_iff.1 h2).2
  have hkl : opS.length = 35 := rfl
  have hal : allOp.length = 35 := rfl
  have hI0 : OpI L 0 := ⟨Int.le_refl _, by decide, opL_find L⟩
  obtain ⟨μ, hμ⟩ : ∃ μ : Int → Nat, ∀ i, μ i = 200000 - i.toNat := ⟨_, fun _ => rfl⟩
  have hbe : ∀ t : ByteArray, begB s a t.data.toList = decide (L.take t.data.toList.length = t.data.toList) := fun t => by unfold begB; rw [hL]
  rw [hRV]
  clear hRV htok hau hrl
  obtain ⟨LR, hLR⟩ : ∃ x, pSs opS = x := ⟨_, rfl⟩
  rw [hLR] at hop hll hg
  clear hLR
  refine ret_cut tyT_ok g0_gr (f := 30) (c := ((Tryd.f30).body.getD .skip)) Tryd.func30 rfl (by kernel_rfl) (of_decide_eq_true (by kernel_rfl)) ?_
  refine rtok_head s n a q zq W D T e1 m0 h0 hn h1 hq hzq hs hR ?_
  clear hR
  refine Seg.cutK0 4 130 [0, 1, 4, 13] 1 (fun _ : Unit => [.p (pS s), .p (pI a), .own 0 0, .p (.ro 1 LR)]) (fun _ => [some bx0]) (fun _ => True) tyT_ok mixed (fun _ => 0) (by kernel_rfl) ?_ ?_
  · intro P G E hc hM hE
    replace hl1 := hc _ _ _ hl1
    replace hd1 := hc _ _ _ hd1
    replace hop := hc _ _ _ hop
    clear hE hc hM hbg hg hga hv0 hv1 hI0 hbe hμ hn h1 hq hzq hs
    cbv
    repeat (first | (refine ⟨_, hl1, ?_⟩; cbv) | (refine ⟨_, hd1, ?_⟩; cbv) | (simp only [f1]; cbv) | simp only [f1] | (simp only [f2]; cbv) | simp only [f2] | (refine ⟨_, hop, ?_⟩; cbv))
    exact .mk () ⟨rfl, rfl, rfl, rfl, rfl⟩ trivial
  intro _ _
  clear hl1 hd1 hop f1 f2
  refine Seg.cut 130 [0, 1, 4] 1 (fun _ : Unit => [.p (pS s), .p (pI a), .own 0 0]) (fun _ => [some bx0]) (fun _ => opL L = none) ?_ ?_
  · refine Seg.cut 130 [0, 1, 4, 13, 14] 1 (fun _ : Unit => [.p (pS s), .p (pI a), .own 0 0, .p (.ro 1 LR), .p (pI 0)]) (fun _ => [some bx0]) (fun _ => True) ?_ ?_
    · refine Seg.of0 tyT_ok mixed (fun _ => 0) (by kernel_rfl) fun P G E hc hM hE => ?_
      clear hE hc hM hbg hg hga hv0 hv1 hI0 hbe hμ hn h1 hq hzq hs
      cbv
      exact .mk () ⟨rfl, rfl, rfl, rfl, rfl⟩ trivial
    intro _ _
    refine Seg.block ?_
    refine Seg.loop 130 [0, 1, 4, 13, 14] 1 (fun i : Int => [.p (pS s), .p (pI a), .own 0 0, .p (.ro 1 LR), .p (pI i)]) (fun _ => [some bx0]) (OpI L) μ 0 ⟨rfl, rfl, rfl, rfl, rfl⟩ hI0 ?_
    clear hI0
    rintro i ⟨i0, i1, hf⟩
    rcases Classical.em (i < 35) with hlt | hlt
    · obtain ⟨t, ht⟩ : ∃ t, opS[i.toNat]? = some t := ⟨_, List.getElem?_eq_getElem (by omega)⟩
      have hts := opS_small t (List.mem_of_getElem? ht)
      have hgt := hg _ _ ht
      have hdr := hga _ _ ht
      have hbt := hbe t
      refine Seg.cut 130 [0, 1, 4, 13, 14] 1 (fun _ : Unit => [.p (pS s), .p (pI a), .own 0 0, .p (.ro 1 LR), .p (pI i)]) (fun _ => [some bx0]) (fun _ => True) ?_ ?_
      · refine Seg.of0 tyT_ok mixed (fun _ => 0) (by kernel_rfl) fun P G E hc hM hE => ?_
        have v1 : E.ofN 35 = 35 := by rw [hE]; rfl
        have d1 : E.lti i 35 = true := by rw [hE]; exact decide_eq_true hlt
        clear hE hc hM hbg hg hga hv0 hv1 hbe hμ hn h1 hq hzq hs hts hgt hdr hbt hf ht
        cbv at hll
        cbv
        repeat (first | (simp only [hll]; cbv) | simp only [hll] | (simp only [v1]; cbv) | simp only [v1] | (simp only [d1]; cbv) | simp only [d1])
        exact .mk () ⟨rfl, rfl, rfl, rfl, rfl⟩ trivial
      intro _ _
      cases hb : begB s a t.data.toList with
      | true =>
        have hb1 := hbg t true hts hb
        obtain ⟨m, hm⟩ : ∃ m : Int, ((t.size : Nat) : Int) = m := ⟨_, rfl⟩
        have hv := hv1 t m (by
          rw [hf, hdr, List.find?_cons, ← hbt, hb]) hm
        subst hv
        clear hv0 hv1 hf hdr hbt hb hbe hga hbg hg hμ
        refine Seg.never ?_
        refine Seg.block ?_
        refine Seg.cut 130 [0, 1, 4, 13, 14, 117] 1 (fun _ : Unit => [.p (pS s), .p (pI a), .own 0 0, .p (.ro 1 LR), .p (pI i), .p (pB true)]) (fun _ => [some bx0]) (fun _ => True) ?_ ?_
        · refine Seg.of0 tyT_ok mixed (fun _ => 0) (by kernel_rfl) fun P G E hc hM hE => ?_
          replace hb1 := hc _ _ _ hb1
          have v1 : E.ofN 35 = 35 := by rw [hE]; rfl
          have p1 : E.ple 0 i := by rw [hE]; exact i0
          have g1 : LR[E.nat i]? = some [pS t] := by rw [hE]; exact hgt
          clear hE hc hM hn h1 hq hzq hs hts hgt ht
          cbv at hll
          cbv
          repeat (first | (simp only [hll]; cbv) | simp only [hll] | (simp only [v1]; cbv) | simp only [v1] | (refine ⟨p1,_,g1, ?_⟩; cbv) | (refine ⟨_, hb1, ?_⟩; cbv))
          exact .mk () ⟨rfl, rfl, rfl, rfl, rfl⟩ trivial
        intro _ _
        refine Seg.condT rfl ?_
        refine Seg.cut 130 [4, 5, 6] 1 (fun _ : Unit => [.own 0 0, .p (pI m), .p (pI 0)]) (fun _ => [some (bxT 5 t a)]) (fun _ => True) ?_ ?_
        · refine Seg.regM0 tyT_ok mixed 12 [11] (fun i => match i with | 11 => 1 | _ => 0) (by kernel_rfl) fun P G E hc hM hE => ?_
          have v1 : E.ofN 35 = 35 := by rw [hE]; rfl
          have p1 : E.ple 0 i := by rw [hE]; exact i0
          have g1 : LR[E.nat i]? = some [pS t] := by rw [hE]; exact hgt
          have z1 : E.size t = m := by rw [hE]; exact hm
          clear hE hc hM hn h1 hq hzq hs hts hgt ht hb1
          cbv at hll
          cbv
          repeat (first | (simp only [hll]; cbv) | simp only [hll] | (simp only [v1]; cbv) | simp only [v1] | (refine ⟨p1,_,g1, ?_⟩; cbv) | (simp only [z1]; cbv) | simp only [z1])
          refine ⟨(.mk (by repeat' (first | exact trivial | refine ⟨rfl, ?_⟩))), p1, _, g1, ?_⟩
          cbv
          repeat (first | (refine ⟨p1,_,g1, ?_⟩; cbv) | (simp only [z1]; cbv) | simp only [z1])
          refine ⟨(.mk (by repeat' (first | exact trivial | refine ⟨rfl, ?_⟩))), ?_⟩
          exact .mk () ⟨rfl, rfl, rfl, rfl, rfl⟩ trivial
        intro _ _
        refine Seg.of0 tyT_ok mixed (fun _ => 0) (by kernel_rfl) fun P G E hc hM hE => ?_
        clear hE hc hM hn h1 hq hzq hs hts hgt ht hb1
        cbv
        all_goals trivial
      | false =>
        have hb1 := hbg t false hts hb
        obtain ⟨i2, hi2⟩ : ∃ x : Int, i + 1 = x := ⟨_, rfl⟩
        have hI2 : OpI L i2 := by
          refine ⟨by omega, by omega, ?_⟩
          rw [hf, hdr, List.find?_cons, ← hbt, hb, show i2.toNat = i.toNat + 1 by omega]
        have hM2 : μ i2 < μ i := by rw [hμ, hμ]; omega
        clear hv0 hv1 hf hdr hbt hb hbe hga hbg hg hμ
        refine Seg.cut 130 [0, 1, 4, 13, 14] 1 (fun _ : Unit => [.p (pS s), .p (pI a), .own 0 0, .p (.ro 1 LR), .p (pI i)]) (fun _ => [some bx0]) (fun _ => True) ?_ ?_
        · refine Seg.block ?_
          refine Seg.cut 130 [0, 1, 4, 13, 14, 117] 1 (fun _ : Unit => [.p (pS s), .p (pI a), .own 0 0, .p (.ro 1 LR), .p (pI i), .p (pB false)]) (fun _ => [some bx0]) (fun _ => True) ?_ ?_
          · refine Seg.of0 tyT_ok mixed (fun _ => 0) (by kernel_rfl) fun P G E hc hM hE => ?_
            replace hb1 := hc _ _ _ hb1
            have v1 : E.ofN 35 = 35 := by rw [hE]; rfl
            have p1 : E.ple 0 i := by rw [hE]; exact i0
            have g1 : LR[E.nat i]? = some [pS t] := by rw [hE]; exact hgt
            clear hE hc hM hn h1 hq hzq hs hts hgt ht hi2 hI2 hM2
            cbv at hll
            cbv
            repeat (first | (simp only [hll]; cbv) | simp only [hll] | (simp only [v1]; cbv) | simp only [v1] | (refine ⟨p1,_,g1, ?_⟩; cbv) | (refine ⟨_, hb1, ?_⟩; cbv))
            exact .mk () ⟨rfl, rfl, rfl, rfl, rfl⟩ trivial
          intro _ _
          refine Seg.condF rfl ?_
          refine Seg.of0 tyT_ok mixed (fun _ => 0) (by kernel_rfl) fun P G E hc hM hE => ?_
          clear hE hc hM hn h1 hq hzq hs hts hgt ht hi2 hI2 hM2 hb1
          cbv
          exact .mk () ⟨rfl, rfl, rfl, rfl, rfl⟩ trivial
        intro _ _
        refine Seg.of0 tyT_ok mixed (fun _ => 0) (by kernel_rfl) fun P G E hc hM hE => ?_
        have ej : E.wadd .i64 i 1 = i2 := by rw [hE, ← hi2]; exact wrap_i64_in (by omega) (by omega)
        clear hE hc hM hn h1 hq hzq hs hts hgt ht hi2 hb1
        cbv
        repeat (first | (simp only [ej]; cbv) | simp only [ej])
        refine .mk i2 ⟨rfl, rfl, rfl, rfl, rfl⟩ ?_ ?_
        · exact hI2
        · exact hM2
    · have h35 : i = 35 := by omega
      have hno : opL L = none := by
        rw [hf, h35]
        rfl
      refine Seg.never ?_
      refine Seg.of0 tyT_ok mixed (fun _ => 0) (by kernel_rfl) fun P G E hc hM hE => ?_
      have v1 : E.ofN 35 = 35 := by rw [hE]; rfl
      have d1 : E.lti i 35 = false := by rw [hE]; exact decide_eq_false hlt
      clear hE hc hM hbg hg hga hv0 hv1 hbe hμ hn h1 hq hzq hs hf h35
      cbv at hll
      cbv
      repeat (first | (simp only [hll]; cbv) | simp only [hll] | (simp only [v1]; cbv) | simp only [v1] | (simp only [d1]; cbv) | simp only [d1])
      exact .mk () ⟨rfl, rfl, rfl, rfl, rfl⟩ hno
  intro _ hno
  have hv := hv0 hno
  subst hv
  refine Seg.of0 tyT_ok mixed (fun _ => 0) (by kernel_rfl) fun P G E hc hM hE => ?_
  clear hE hc hM hbg hg hga hv0 hv1 hI0 hbe hμ hn h1 hq hzq hs hno
  cbv
  all_goals trivial
/-- token at a place of the text -/
theorem rtok_ret (s : ByteArray) (a : Int) (h0 : 0 ≤ a) (h1 : a < (s.size : Nat)) (hs : s.size ≤ 900000) : V0 30 [pS s, pI a] (rtokR s a) := by
  obtain ⟨q, hq⟩ : ∃ q, s.data.toList[a.toNat]? = some q := ⟨_, List.getElem?_eq_getElem (by show a.toNat < s.size; omega)⟩
  cases hl : ltr q with
  | true => exact rtok_word s a q h0 hq hl hs
  | false =>
    cases hd : dgt q with
    | true => exact rtok_num s a q h0 hq hl hd hs
    | false =>
      rcases Classical.em (q = 34 ∨ q = 39) with hqt | hqt
      · exact rtok_str s a q h0 hq hqt hs
      · exact rtok_op s a q h0 hq hl hd hqt hs
end Go.Proofs.YtnhbboknffppiaaDoor
