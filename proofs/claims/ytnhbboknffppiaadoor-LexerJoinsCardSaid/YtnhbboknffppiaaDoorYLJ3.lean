/- Own work: lexer.Join. -/
import Derived.Test.YtnhbboknffppiaaDoorYLJ2
namespace Go.Proofs.YtnhbboknffppiaaDoor
open Go.RowKit
set_option maxRecDepth 100000
set_option linter.unusedSimpArgs false

structure LjI (L : List TJ) (n : Int) (st : Int × Nat × List (List PV)) : Prop where
  i0 : 0 ≤ st.1
  i1 : st.1 ≤ n
  ok : (L.take st.1.toNat).all okT = true
  o : st.2.2 = pSs ((L.take st.1.toNat).map wr)
  m : st.2.1 = st.2.2.length
theorem pSs_next {L : List TJ} {i : Nat} {x : TJ} (h : L[i]? = some x) : pSs ((L.take (i + 1)).map wr) = pSs ((L.take i).map wr) ++ [[pS (wr x)]] := by
  rw [List.take_add_one, h, Option.toList_some, List.map_append]
  unfold pSs
  rw [List.map_append]
  rfl
theorem join_W (L : List TJ) : Lib.join ((L.map wr).map (·.data.toList)) [32] = joinW L := by
  unfold joinW
  rw [List.map_map]
  exact joinB_inter _
set_option maxHeartbeats 4000000 in
theorem ljoin_ret (L : List TJ) (h60 : L.length ≤ 60) (hL : ∀ x ∈ L, x.t.size ≤ 60) : RL 23 [.ro 3 (tjRows L)] (joinR L) := by
  obtain ⟨n, hn⟩ : ∃ n : Int, ((L.length : Nat) : Int) = n := ⟨_, rfl⟩
  have hn60 : n ≤ 60 := by omega
  have hAl : (((tjRows L).length : Nat) : Int) = n := by rw [tjRows_len]; exact hn
  have hAt : ∀ (i : Int) x, L[i.toNat]? = some x → (tjRows L)[i.toNat]? = some [pI x.k, pS x.t, pI x.a] := fun i x h => tjRows_at h
  obtain ⟨A, hA⟩ : ∃ y, tjRows L = y := ⟨_, rfl⟩
  rw [hA] at hAl hAt ⊢
  have hq := fun (t : ByteArray) (h : t.size ≤ 1000000) => quote_ret t h
  have hlx := fun (s : ByteArray) (h : s.size ≤ 900000) => lex_ret s h
  have hJl : (joinW L).length ≤ 60060 := by have := joinW_len hL; omega
  have hsj := sjoin_ret (L.map wr) ⟨#[32]⟩ (by rw [List.length_map]; omega) (by rw [show (⟨#[32]⟩ : ByteArray).data.toList = [32] from rfl, join_W]; omega)
  rw [show (⟨#[32]⟩ : ByteArray).data.toList = [32] from rfl, join_W] at hsj
  have hget : ∀ i : Int, 0 ≤ i → i < n → ∃ x, L[i.toNat]? = some x := fun i hi0 hi1 => ⟨_, List.getElem?_eq_getElem (by omega)⟩
  have hI0 : LjI L n (0, 0, []) := ⟨Int.le_refl _, by show 0 ≤ n; omega, rfl, rfl, rfl⟩
  obtain ⟨μ, hμ⟩ : ∃ μ : Int × Nat × List (List PV) → Nat, ∀ x, μ x = 2000000000 - x.1.toNat := ⟨_, fun _ => rfl⟩
  obtain ⟨RV, hRV⟩ : ∃ y, joinR L = y := ⟨_, rfl⟩
  have hbadR : L.all okT = false → RV = .tup [pS ⟨#[]⟩, pI 3] := fun h => by rw [← hRV]; unfold joinR; rw [h]; rfl
  obtain ⟨J, hJ⟩ : ∃ y, bL (joinW L) = y := ⟨_, rfl⟩
  have hJs : ((J.size : Nat) : Int) ≤ 60060 := by rw [← hJ]; show (((joinW L).length : Nat) : Int) ≤ 60060; omega
  rw [hJ] at hsj
  have hfin : ∀ m rs, LjI L n (n, m, rs) → rs = pSs (L.map wr) ∧ RV = .tup [pS J, pI 0] := fun m rs h => by
    have h1 := h.ok
    have h2 := h.o
    simp only at h1 h2
    rw [show n.toNat = L.length by omega, List.take_length] at h1 h2
    refine ⟨h2, ?_⟩
    rw [← hRV]
    unfold joinR
    rw [h1, hJ]
    rfl
  rw [hRV]
  refine ret_by tyT_ok gl_gr mixed (fun n => match n with | 9 => 23 | _ => 0) Tryd.func23 rfl (by kernel_rfl) (by kernel_rfl) rfl fun P G E hc hE => ?_
  replace hsj := hc _ _ _ hsj
  replace hq := fun (t : ByteArray) (h : t.size ≤ 1000000) => hc _ _ _ (hq t h)
  replace hlx := fun (s : ByteArray) (h : s.size ≤ 900000) => hc _ _ _ (hlx s h)
  have l0 : E.ofN A.length = n := by rw [hE]; exact hAl
  have elt : ∀ a b, E.lti a b = decide (a < b) := fun a b => by rw [hE]; rfl
  have eple : ∀ a b, a ≤ b → E.ple a b := fun a b h => by rw [hE]; exact h
  have egA : ∀ (i : Int) x, L[i.toNat]? = some x → A[E.nat i]? = some [pI x.k, pS x.t, pI x.a] := fun i x h => by rw [hE]; exact hAt i x h
  have eadd : ∀ a b : Int, -1000000000 ≤ a → a ≤ 1000000000 → -1000000000 ≤ b → b ≤ 1000000000 → E.wadd .i64 a b = a + b := fun a b h0 h1 h2 h3 => by rw [hE]; exact wrap_i64_in (by omega) (by omega)
  have eroom : ∀ m : Nat, m ≤ 2000000 → E.room m 1 16 := fun m h => by rw [hE]; exact ⟨by unfold maxLen; omega, by omega⟩
  have eaddN : ∀ m k : Nat, E.addN m k = m + k := fun m k => by rw [hE]; rfl
  have eapp : ∀ (rs : List (List PV)) (m : Nat) P, m = rs.length → E.app rs m P = rs ++ P := fun rs m P h => by rw [hE]; show rs.take m ++ P = _; rw [h, List.take_length]
  have epre : ∀ (m : Nat) (rs : List (List PV)), m ≤ rs.length → E.pre 0 m rs := fun m rs h => by rw [hE]; show 0 + m ≤ rs.length; omega
  have esub : ∀ (m : Nat) (rs : List (List PV)), m = rs.length → E.sub rs 0 m = rs := fun m rs h => by rw [hE]; show (rs.drop 0).take m = rs; rw [List.drop_zero, h, List.take_length]
  have esz : ∀ a : ByteArray, E.size a = ((a.size : Nat) : Int) := fun a => by rw [hE]; rfl
  have eln : ∀ (R : List (List PV)) (m : Int), ((R.length : Nat) : Int) = m → E.ofN R.length = m := fun R m h => by rw [hE]; exact h
  have enat0 : E.nat 0 = 0 := by rw [hE]; rfl
  have eeq : ∀ a b, E.eq a b = decide (a = b) := fun a b => by rw [hE]; rfl
  clear hE hc hAt
  cbv at l0
  cbv
  repeat (first | (simp only [l0]; cbv) | simp only [l0])
  refine LoopA.wk (wk_nilS (d := 4) 1 9 rfl) ?_
  refine loop_by 67 [4, 12, 13, 14] 1 (fun y : Int × Nat × List (List PV) => [.osl 0 0 y.2.1, .p (.ro 3 A), .p (pI n), .p (pI y.1)]) (fun y => [some (.rows 1 y.2.2 9)]) (LjI L n) μ (0, 0, []) ⟨rfl, rfl, rfl, rfl, rfl⟩ hI0 ?_
  clear hI0
  rintro ⟨i, m, rs⟩ ⟨i0, i1, hok0, hrs, hm⟩
  simp only at i0 i1 hok0 hrs hm
  replace hn : ((L.length : Nat) : Int) = n := hn
  replace hJs : ((J.size : Nat) : Int) ≤ 60060 := hJs
  have hm60 : m ≤ 60 := by
    rw [hm, hrs]
    unfold pSs
    rw [List.length_map, List.length_map, List.length_take]
    omega
  rcases Classical.em (i < n) with hlt | hlt
  · have d1 : E.lti i n = true := by rw [elt]; exact decide_eq_true hlt
    obtain ⟨x, hx⟩ := hget i i0 hlt
    have hxs := hL x (List.mem_of_getElem? hx)
    have g1 := egA i x hx
    have p1 := eple 0 i i0
    have hwz := wr_size hxs
    have hq1 := hq x.t (by omega)
    have hl1 := hlx (wr x) (by omega)
    have hcs := lx_cases x
    obtain ⟨LR, hLR⟩ : ∃ y, lexR (wr x) = y := ⟨_, rfl⟩
    rw [hLR] at hl1 hcs
    obtain ⟨bo, hok⟩ : ∃ y, okT x = y := ⟨_, rfl⟩
    rw [hok] at hcs
    clear hLR
    rcases Classical.em (x.k = 4) with h4 | h4
    · have hWe : wr x = bL (quo (repairL x.t.data.toList)) := by unfold wr; rw [if_pos h4]
      have fk : decide (x.k = 4) = true := decide_eq_true h4
      rw [← hWe] at hq1
      obtain ⟨W, hW⟩ : ∃ y, wr x = y := ⟨_, rfl⟩
      rw [hW] at hq1 hl1 hwz hWe
      replace hWe := hW
      clear hW h4
      obtain ⟨k, t, a⟩ := x
      simp only at g1 hq1 fk
      cases hcs with
      | err f e he =>
        have hbad := all_bad hx hok
        have hv := hbadR hbad
        subst hv
        have f1 : decide (e = 0) = false := decide_eq_false he
        clear hq hlx hget hbadR elt eple egA eadd eroom eaddN eapp epre esub esz eln eeq hRV hok hx hrs hok0 hμ hn hfin hsj hWe hbad
        cbv
        repeat (first | (simp only [l0]; cbv) | simp only [l0] | (simp only [d1]; cbv) | simp only [d1] | (refine ⟨p1,_,g1, ?_⟩; cbv) | (simp only [fk]; cbv) | simp only [fk] | (refine ⟨_, hq1, ?_⟩; cbv) | (refine ⟨_, hl1, ?_⟩; cbv) | (simp only [f1]; cbv) | simp only [f1])
      | len R m' hm' h1 =>
        have hbad := all_bad hx hok
        have hv := hbadR hbad
        subst hv
        have f0 : decide ((0 : Int) = 0) = true := rfl
        have l1 := eln R m' hm'
        have f1 : decide (m' = 1) = false := decide_eq_false h1
        cbv at l1
        clear hq hlx hget hbadR elt eple egA eadd eroom eaddN eapp epre esub esz eln eeq hRV hok hx hrs hok0 hμ hn hfin hsj hWe hbad hm' h1
        cbv
        repeat (first | (simp only [l0]; cbv) | simp only [l0] | (simp only [d1]; cbv) | simp only [d1] | (refine ⟨p1,_,g1, ?_⟩; cbv) | (simp only [fk]; cbv) | simp only [fk] | (refine ⟨_, hq1, ?_⟩; cbv) | (refine ⟨_, hl1, ?_⟩; cbv) | (simp only [f0]; cbv) | simp only [f0] | (simp only [l1]; cbv) | simp only [l1] | (simp only [f1]; cbv) | simp only [f1])
      | one R k2 a2 t2 hR b hb =>
        have f0 : decide ((0 : Int) = 0) = true := rfl
        have l1 := eln R 1 (by rw [← hR]; rfl)
        cbv at l1
        have q0 := eple 0 0 (Int.le_refl _)
        have g2 : R[E.nat 0]? = some [pI k2, pS t2, pI a2] := by rw [enat0, ← hR]; rfl
        by_cases hk : k2 = k
        · have f2 : decide (k2 = k) = true := decide_eq_true hk
          by_cases ht : t2 = t
          · have f3 : E.eq t2 t = true := by rw [eeq]; exact decide_eq_true ht
            have hb1 : bo = true := by rw [← hb, f2, decide_eq_true ht]; rfl
            rw [hb1] at hok
            obtain ⟨i2, hi2⟩ : ∃ y : Int, i + 1 = y := ⟨_, rfl⟩
            have ei := eadd i 1 (by omega) (by omega) (by omega) (by omega)
            rw [hi2] at ei
            have hal : (L.take i2.toNat).all okT = true := by
              rw [show i2.toNat = i.toNat + 1 by omega, all_take hx, hok0, hok]
              rfl
            obtain ⟨RS2, hRS2⟩ : ∃ y, rs ++ [[pS W]] = y := ⟨_, rfl⟩
            obtain ⟨m2, hm2⟩ : ∃ y, m + 1 = y := ⟨_, rfl⟩
            have a1 := eapp rs m [[pS W]] hm
            rw [hRS2] at a1
            have a2' := eaddN m 1
            rw [hm2] at a2'
            have a3 := esub 1 [[pS W]] rfl
            have p4 := eroom m (by omega)
            have p5 := epre 1 [[pS W]] (Nat.le_refl 1)
            have p6 := epre m rs (Nat.le_of_eq hm)
            have hI2 : LjI L n (i2, m2, RS2) := by
              refine ⟨by show 0 ≤ i2; omega, by show i2 ≤ n; omega, hal, ?_, ?_⟩
              · show RS2 = _
                rw [← hRS2, hrs, show i2.toNat = i.toNat + 1 by omega, pSs_next hx, hWe]
              · show m2 = RS2.length
                rw [← hRS2, ← hm2, List.length_append, hm]
                rfl
            have hM2 : μ (i2, m2, RS2) < μ (i, m, rs) := by
              rw [hμ, hμ]
              show 2000000000 - i2.toNat < 2000000000 - i.toNat
              omega
            clear hq hlx hget hbadR elt eple egA eadd eroom eaddN eapp epre esub esz eln eeq hRV hok hx hrs hok0 hμ hn hfin hsj hWe hR hb hal hi2 hRS2 hm2 hk ht
            cbv
            repeat (first | (simp only [l0]; cbv) | simp only [l0] | (simp only [d1]; cbv) | simp only [d1] | (refine ⟨p1,_,g1, ?_⟩; cbv) | (simp only [fk]; cbv) | simp only [fk] | (refine ⟨_, hq1, ?_⟩; cbv) | (refine ⟨_, hl1, ?_⟩; cbv) | (simp only [f0]; cbv) | simp only [f0] | (simp only [l1]; cbv) | simp only [l1] | (refine ⟨q0,_,g2, ?_⟩; cbv) | (simp only [f2]; cbv) | simp only [f2] | (refine ⟨q0,_,g2, ?_⟩; cbv) | (simp only [f3]; cbv) | simp only [f3] | (refine ⟨p5,p6,p4, ?_⟩; cbv) | (simp only [a3,a1,a2']; cbv) | simp only [a3,a1,a2'] | (simp only [ei]; cbv) | simp only [ei])
            refine .mk (i2, m2, RS2) ⟨rfl, rfl, rfl, rfl, rfl⟩ ?_ ?_
            · exact hI2
            · exact hM2
          · have f3 : E.eq t2 t = false := by rw [eeq]; exact decide_eq_false ht
            have hb1 : bo = false := by rw [← hb, f2, decide_eq_false ht]; rfl
            rw [hb1] at hok
            have hbad := all_bad hx hok
            have hv := hbadR hbad
            subst hv
            clear hq hlx hget hbadR elt eple egA eadd eroom eaddN eapp epre esub esz eln eeq hRV hok hx hrs hok0 hμ hn hfin hsj hWe hbad hR hb hk ht
            cbv
            repeat (first | (simp only [l0]; cbv) | simp only [l0] | (simp only [d1]; cbv) | simp only [d1] | (refine ⟨p1,_,g1, ?_⟩; cbv) | (simp only [fk]; cbv) | simp only [fk] | (refine ⟨_, hq1, ?_⟩; cbv) | (refine ⟨_, hl1, ?_⟩; cbv) | (simp only [f0]; cbv) | simp only [f0] | (simp only [l1]; cbv) | simp only [l1] | (refine ⟨q0,_,g2, ?_⟩; cbv) | (simp only [f2]; cbv) | simp only [f2] | (refine ⟨q0,_,g2, ?_⟩; cbv) | (simp only [f3]; cbv) | simp only [f3])
        · have f2 : decide (k2 = k) = false := decide_eq_false hk
          have hb1 : bo = false := by rw [← hb, f2]; rfl
          rw [hb1] at hok
          have hbad := all_bad hx hok
          have hv := hbadR hbad
          subst hv
          clear hq hlx hget hbadR elt eple egA eadd eroom eaddN eapp epre esub esz eln eeq hRV hok hx hrs hok0 hμ hn hfin hsj hWe hbad hR hb hk
          cbv
          repeat (first | (simp only [l0]; cbv) | simp only [l0] | (simp only [d1]; cbv) | simp only [d1] | (refine ⟨p1,_,g1, ?_⟩; cbv) | (simp only [fk]; cbv) | simp only [fk] | (refine ⟨_, hq1, ?_⟩; cbv) | (refine ⟨_, hl1, ?_⟩; cbv) | (simp only [f0]; cbv) | simp only [f0] | (simp only [l1]; cbv) | simp only [l1] | (refine ⟨q0,_,g2, ?_⟩; cbv) | (simp only [f2]; cbv) | simp only [f2])
    · have hWe : wr x = x.t := by unfold wr; rw [if_neg h4]
      have fk : decide (x.k = 4) = false := decide_eq_false h4
      rw [hWe] at hl1
      clear h4 hq1 hwz
      obtain ⟨k, t, a⟩ := x
      simp only at g1 hl1 fk hWe
      cases hcs with
      | err f e he =>
        have hbad := all_bad hx hok
        have hv := hbadR hbad
        subst hv
        have f1 : decide (e = 0) = false := decide_eq_false he
        clear hq hlx hget hbadR elt eple egA eadd eroom eaddN eapp epre esub esz eln eeq hRV hok hx hrs hok0 hμ hn hfin hsj hWe hbad
        cbv
        repeat (first | (simp only [l0]; cbv) | simp only [l0] | (simp only [d1]; cbv) | simp only [d1] | (refine ⟨p1,_,g1, ?_⟩; cbv) | (simp only [fk]; cbv) | simp only [fk] | (refine ⟨_, hl1, ?_⟩; cbv) | (simp only [f1]; cbv) | simp only [f1])
      | len R m' hm' h1 =>
        have hbad := all_bad hx hok
        have hv := hbadR hbad
        subst hv
        have f0 : decide ((0 : Int) = 0) = true := rfl
        have l1 := eln R m' hm'
        have f1 : decide (m' = 1) = false := decide_eq_false h1
        cbv at l1
        clear hq hlx hget hbadR elt eple egA eadd eroom eaddN eapp epre esub esz eln eeq hRV hok hx hrs hok0 hμ hn hfin hsj hWe hbad hm' h1
        cbv
        repeat (first | (simp only [l0]; cbv) | simp only [l0] | (simp only [d1]; cbv) | simp only [d1] | (refine ⟨p1,_,g1, ?_⟩; cbv) | (simp only [fk]; cbv) | simp only [fk] | (refine ⟨_, hl1, ?_⟩; cbv) | (simp only [f0]; cbv) | simp only [f0] | (simp only [l1]; cbv) | simp only [l1] | (simp only [f1]; cbv) | simp only [f1])
      | one R k2 a2 t2 hR b hb =>
        have f0 : decide ((0 : Int) = 0) = true := rfl
        have l1 := eln R 1 (by rw [← hR]; rfl)
        cbv at l1
        have q0 := eple 0 0 (Int.le_refl _)
        have g2 : R[E.nat 0]? = some [pI k2, pS t2, pI a2] := by rw [enat0, ← hR]; rfl
        by_cases hk : k2 = k
        · have f2 : decide (k2 = k) = true := decide_eq_true hk
          by_cases ht : t2 = t
          · have f3 : E.eq t2 t = true := by rw [eeq]; exact decide_eq_true ht
            have hb1 : bo = true := by rw [← hb, f2, decide_eq_true ht]; rfl
            rw [hb1] at hok
            obtain ⟨i2, hi2⟩ : ∃ y : Int, i + 1 = y := ⟨_, rfl⟩
            have ei := eadd i 1 (by omega) (by omega) (by omega) (by omega)
            rw [hi2] at ei
            have hal : (L.take i2.toNat).all okT = true := by
              rw [show i2.toNat = i.toNat + 1 by omega, all_take hx, hok0, hok]
              rfl
            obtain ⟨RS2, hRS2⟩ : ∃ y, rs ++ [[pS t]] = y := ⟨_, rfl⟩
            obtain ⟨m2, hm2⟩ : ∃ y, m + 1 = y := ⟨_, rfl⟩
            have a1 := eapp rs m [[pS t]] hm
            rw [hRS2] at a1
            have a2' := eaddN m 1
            rw [hm2] at a2'
            have a3 := esub 1 [[pS t]] rfl
            have p4 := eroom m (by omega)
            have p5 := epre 1 [[pS t]] (Nat.le_refl 1)
            have p6 := epre m rs (Nat.le_of_eq hm)
            have hI2 : LjI L n (i2, m2, RS2) := by
              refine ⟨by show 0 ≤ i2; omega, by show i2 ≤ n; omega, hal, ?_, ?_⟩
              · show RS2 = _
                rw [← hRS2, hrs, show i2.toNat = i.toNat + 1 by omega, pSs_next hx, hWe]
              · show m2 = RS2.length
                rw [← hRS2, ← hm2, List.length_append, hm]
                rfl
            have hM2 : μ (i2, m2, RS2) < μ (i, m, rs) := by
              rw [hμ, hμ]
              show 2000000000 - i2.toNat < 2000000000 - i.toNat
              omega
            clear hq hlx hget hbadR elt eple egA eadd eroom eaddN eapp epre esub esz eln eeq hRV hok hx hrs hok0 hμ hn hfin hsj hWe hR hb hal hi2 hRS2 hm2 hk ht
            cbv
            repeat (first | (simp only [l0]; cbv) | simp only [l0] | (simp only [d1]; cbv) | simp only [d1] | (refine ⟨p1,_,g1, ?_⟩; cbv) | (simp only [fk]; cbv) | simp only [fk] | (refine ⟨_, hl1, ?_⟩; cbv) | (simp only [f0]; cbv) | simp only [f0] | (simp only [l1]; cbv) | simp only [l1] | (refine ⟨q0,_,g2, ?_⟩; cbv) | (simp only [f2]; cbv) | simp only [f2] | (refine ⟨q0,_,g2, ?_⟩; cbv) | (simp only [f3]; cbv) | simp only [f3] | (refine ⟨p5,p6,p4, ?_⟩; cbv) | (simp only [a3,a1,a2']; cbv) | simp only [a3,a1,a2'] | (simp only [ei]; cbv) | simp only [ei])
            refine .mk (i2, m2, RS2) ⟨rfl, rfl, rfl, rfl, rfl⟩ ?_ ?_
            · exact hI2
            · exact hM2
          · have f3 : E.eq t2 t = false := by rw [eeq]; exact decide_eq_false ht
            have hb1 : bo = false := by rw [← hb, f2, decide_eq_false ht]; rfl
            rw [hb1] at hok
            have hbad := all_bad hx hok
            have hv := hbadR hbad
            subst hv
            clear hq hlx hget hbadR elt eple egA eadd eroom eaddN eapp epre esub esz eln eeq hRV hok hx hrs hok0 hμ hn hfin hsj hWe hbad hR hb hk ht
            cbv
            repeat (first | (simp only [l0]; cbv) | simp only [l0] | (simp only [d1]; cbv) | simp only [d1] | (refine ⟨p1,_,g1, ?_⟩; cbv) | (simp only [fk]; cbv) | simp only [fk] | (refine ⟨_, hl1, ?_⟩; cbv) | (simp only [f0]; cbv) | simp only [f0] | (simp only [l1]; cbv) | simp only [l1] | (refine ⟨q0,_,g2, ?_⟩; cbv) | (simp only [f2]; cbv) | simp only [f2] | (refine ⟨q0,_,g2, ?_⟩; cbv) | (simp only [f3]; cbv) | simp only [f3])
        · have f2 : decide (k2 = k) = false := decide_eq_false hk
          have hb1 : bo = false := by rw [← hb, f2]; rfl
          rw [hb1] at hok
          have hbad := all_bad hx hok
          have hv := hbadR hbad
          subst hv
          clear hq hlx hget hbadR elt eple egA eadd eroom eaddN eapp epre esub esz eln eeq hRV hok hx hrs hok0 hμ hn hfin hsj hWe hbad hR hb hk
          cbv
          repeat (first | (simp only [l0]; cbv) | simp only [l0] | (simp only [d1]; cbv) | simp only [d1] | (refine ⟨p1,_,g1, ?_⟩; cbv) | (simp only [fk]; cbv) | simp only [fk] | (refine ⟨_, hl1, ?_⟩; cbv) | (simp only [f0]; cbv) | simp only [f0] | (simp only [l1]; cbv) | simp only [l1] | (refine ⟨q0,_,g2, ?_⟩; cbv) | (simp only [f2]; cbv) | simp only [f2])
  · have d1 : E.lti i n = false := by rw [elt]; exact decide_eq_false hlt
    have hin : i = n := by omega
    subst hin
    obtain ⟨hv1, hv2⟩ := hfin m rs ⟨i0, i1, hok0, hrs, hm⟩
    subst hv2
    rw [← hv1] at hsj
    have p6 := epre m rs (Nat.le_of_eq hm)
    have t3 := esub m rs hm
    obtain ⟨q, hqq⟩ : ∃ q : Int, ((J.size : Nat) : Int) = q := ⟨_, rfl⟩
    have z1 := (esz J).trans hqq
    have d2 : E.lti 1048576 q = false := by rw [elt]; exact decide_eq_false (by omega)
    clear hq hlx hget hbadR elt eple egA eadd eroom eaddN eapp epre esub esz eln eeq hRV hrs hok0 hμ hn hfin hv1 hqq hJs hlt
    cbv
    repeat (first | (simp only [l0]; cbv) | simp only [l0] | (simp only [d1]; cbv) | simp only [d1])
    simp only [t3]
    refine .inl ⟨p6, _, hsj, ?_⟩
    cbv
    repeat (first | (simp only [z1]; cbv) | simp only [z1] | (simp only [d2]; cbv) | simp only [d2])
end Go.Proofs.YtnhbboknffppiaaDoor
