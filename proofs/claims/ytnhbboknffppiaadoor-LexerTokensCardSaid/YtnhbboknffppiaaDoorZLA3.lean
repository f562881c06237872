/- Own work: package knapsackref25: skip. -/
import Derived.Test.YtnhbboknffppiaaDoorZLA2
namespace Go.Proofs.YtnhbboknffppiaaDoor
open Go.RowKit
set_option maxRecDepth 100000
set_option linter.unusedSimpArgs false

theorem rst_cons {s : ByteArray} {i : Int} {c : UInt8} (h0 : 0 ≤ i) (h : s.data.toList[i.toNat]? = some c) : rst s i = c :: rst s (i + 1) := by
  unfold rst
  have hl := (List.getElem?_eq_some_iff.1 h).1
  rw [List.drop_eq_getElem_cons hl, show (i + 1).toNat = i.toNat + 1 by omega]
  congr 1
  exact (List.getElem?_eq_some_iff.1 h).2
theorem rst_end {s : ByteArray} {i : Int} (h : (s.size : Nat) ≤ i) : rst s i = [] := by
  have := rst_len s i
  exact List.eq_nil_of_length_eq_zero (by omega)
/-- what skipping comes to from a place on -/
structure Sk (s : ByteArray) (n : Int) (R : Bs × Bool) (i : Int) : Prop where
  i0 : 0 ≤ i
  i1 : i ≤ n
  sk : skp (rst s i) = R
/-- in a line comment -/
structure SkL (s : ByteArray) (n : Int) (D : Bs) (i : Int) : Prop where
  i0 : 0 ≤ i
  i1 : i ≤ n
  dl : dropLn (rst s i) = D
/-- in a comment -/
structure SkC (s : ByteArray) (n : Int) (D : Option Bs) (i : Int) : Prop where
  i0 : 0 ≤ i
  i1 : i ≤ n
  dl : dropCm (rst s i) = D
theorem beg_cmk {s : ByteArray} {i : Int} : (begB s i [47, 47] = true ↔ cmk (rst s i) = 1) ∧ (begB s i [47, 42] = true ↔ cmk (rst s i) = 2) := by
  unfold begB cmk
  simp only [decide_eq_true_eq, List.length_cons, List.length_nil]
  constructor
  · constructor
    · intro h; rw [if_pos h]
    · intro h
      split at h
      · assumption
      · split at h <;> cases h
  · constructor
    · intro h
      have h' : (rst s i).take 2 = [47, 42] := h
      rw [if_neg (by rw [h']; decide), if_pos h']
    · intro h
      split at h
      · cases h
      · split at h
        · assumption
        · cases h
theorem cmk_1 {l : Bs} (h : cmk l = 1) : ∃ r, l = 47 :: 47 :: r := by
  unfold cmk at h
  split at h
  · rename_i h2
    match l, h2 with
    | a :: b :: r, h2 => simp at h2; exact ⟨r, by rw [h2.1, h2.2]⟩
  · split at h <;> cases h
theorem cmk_2 {l : Bs} (h : cmk l = 2) : ∃ r, l = 47 :: 42 :: r := by
  unfold cmk at h
  split at h
  · cases h
  · split at h
    · rename_i h2
      match l, h2 with
      | a :: b :: r, h2 => simp at h2; exact ⟨r, by rw [h2.1, h2.2]⟩
    · cases h
theorem beg_end {s : ByteArray} {j : Int} {c : UInt8} (h : rst s j = c :: rst s (j + 1)) : begB s j [42, 47] = decide (c = 42 ∧ (rst s (j + 1)).head? = some 47) := by
  unfold begB
  rw [h]
  refine decide_eq_decide.2 ?_
  cases rst s (j + 1) with
  | nil => simp
  | cons d r => simp
set_option maxHeartbeats 4000000 in
theorem rskip_ret (s : ByteArray) (at0 : Int) (r : Bs) (b : Bool) (h0 : 0 ≤ at0) (h1 : at0 ≤ (s.size : Nat)) (hs : s.size ≤ 1000000000) (hR : skp (rst s at0) = (r, b)) : V0 29 [pS s, pI at0] (.tup [pI ((s.size : Nat) - (r.length : Nat)), pB b]) := by
  obtain ⟨n, hn⟩ : ∃ n : Int, ((s.size : Nat) : Int) = n := ⟨_, rfl⟩
  obtain ⟨e, he⟩ : ∃ e : Int, n - (r.length : Nat) = e := ⟨_, rfl⟩
  rw [hn] at h1
  rw [hn, he]
  obtain ⟨μ, hμ⟩ : ∃ μ : Int → Nat, ∀ i, μ i = 2000000000 - i.toNat := ⟨_, fun _ => rfl⟩
  have hbeg := fun (i : Int) (hi0 : 0 ≤ i) (hi1 : i ≤ n) (t : ByteArray) (ht : t.size ≤ 1000000) => begins_ret s t i hi0 (by omega) hs ht
  have hget : ∀ i : Int, 0 ≤ i → i < n → ∃ c, s.data.toList[i.toNat]? = some c := fun i hi0 hi1 => ⟨_, List.getElem?_eq_getElem (by show i.toNat < s.size; omega)⟩
  have hI0 : Sk s n (r, b) at0 := ⟨h0, h1, hR⟩
  have hfin : ∀ i, Sk s n (r, b) i → skp (rst s i) = (rst s i, true) → e = i ∧ b = true := fun i hi h => by
    have h2 := hi.sk
    rw [h] at h2
    cases h2
    have h3 := rst_len s i
    have h4 := hi.i0
    have h5 := hi.i1
    exact ⟨by omega, rfl⟩
  refine ret_by tyT_ok g0_gr mixed (fun _ => 0) Tryd.func29 rfl (by kernel_rfl) (by kernel_rfl) rfl fun P G E hc hE => ?_
  replace hbeg := fun (i : Int) (hi0 : 0 ≤ i) (hi1 : i ≤ n) (t : ByteArray) (ht : t.size ≤ 1000000) => hc _ _ _ (hbeg i hi0 hi1 t ht)
  have z1 : E.size s = n := by rw [hE]; exact hn
  have elt : ∀ a b, E.lti a b = decide (a < b) := fun a b => by rw [hE]; rfl
  have ege : ∀ a b, E.lei a b = decide (a ≤ b) := fun a b => by rw [hE]; rfl
  have eple : ∀ a b, a ≤ b → E.ple a b := fun a b h => by rw [hE]; exact h
  have eget : ∀ (i : Int) (c : UInt8) (z : Int), s.data.toList[i.toNat]? = some c → ((c.toNat : Nat) : Int) = z → E.get s (E.nat i) = some z := fun i c z h hz => by
    rw [hE]
    show (s.data.toList[i.toNat]?).map _ = some z
    rw [h, ← hz]
    rfl
  have eadd : ∀ a b : Int, -1000000000 ≤ a → a ≤ 1000000000 → -1000000 ≤ b → b ≤ 1000000 → E.wadd .i64 a b = a + b := fun a b h0 h1 h2 h3 => by rw [hE]; exact wrap_i64_in (by omega) (by omega)
  clear hE hc hR h0 h1
  cbv
  refine loop_by 75 [0, 1] 0 (fun i : Int => [.p (pS s), .p (pI i)]) (fun _ => []) (Sk s n (r, b)) μ at0 ⟨rfl, rfl, rfl, rfl, rfl⟩ hI0 ?_
  clear hI0
  intro i hI
  replace hn : ((s.size : Nat) : Int) = n := hn
  have hi0 := hI.i0
  have hi1 := hI.i1
  rcases Classical.em (i < n) with hlt | hlt
  · have d1 : E.lti i n = true := by rw [elt]; exact decide_eq_true hlt
    obtain ⟨c, hci⟩ := hget i hi0 hlt
    obtain ⟨z, hz⟩ : ∃ z : Int, ((c.toNat : Nat) : Int) = z := ⟨_, rfl⟩
    have g1 := eget i c z hci hz
    have p1 := eple 0 i hi0
    have ei := eadd i 1 (by omega) (by omega) (by omega) (by omega)
    have hc0 := rst_cons hi0 hci
    have hM : μ (E.wadd .i64 i 1) < μ i := by rw [hμ, hμ, ei]; omega
    have hzc : ∀ k : Nat, k < 256 → (z = (k : Nat) ↔ c = UInt8.ofNat k) := fun k hk => by
      rw [← hz]
      constructor
      · intro h
        have h' : c.toNat = k := by omega
        rw [← h', UInt8.ofNat_toNat]
      · intro h
        rw [h, UInt8.toNat_ofNat']
        omega
    cases hw : wsp c with
    | true =>
      have hI2 : Sk s n (r, b) (E.wadd .i64 i 1) := by
        rw [ei]
        refine ⟨by omega, by omega, ?_⟩
        have := hI.sk
        rw [hc0, skp_ws hw] at this
        exact this
      have hor : c = 9 ∨ c ≠ 9 ∧ (c = 10 ∨ c ≠ 10 ∧ (c = 13 ∨ c ≠ 13 ∧ c = 32)) := by
        unfold wsp at hw
        simp only [Bool.or_eq_true, beq_iff_eq] at hw
        by_cases a9 : c = 9
        · exact .inl a9
        · by_cases a10 : c = 10
          · exact .inr ⟨a9, .inl a10⟩
          · by_cases a13 : c = 13
            · exact .inr ⟨a9, .inr ⟨a10, .inl a13⟩⟩
            · rcases hw with hw | hw | hw | hw
              · exact .inr ⟨a9, .inr ⟨a10, .inr ⟨a13, hw⟩⟩⟩
              · exact absurd hw a9
              · exact absurd hw a10
              · exact absurd hw a13
      rcases hor with e9 | ⟨e9, e10 | ⟨e10, e13 | ⟨e13, e32⟩⟩⟩
      · have w9 : decide (z = 9) = true := decide_eq_true ((hzc 9 (by decide)).2 e9)
        clear hbeg hget hfin elt ege eple eget eadd hzc hn he hc0 hci hz ei hw e9
        cbv
        repeat (first | (simp only [z1]; cbv) | simp only [z1] | (simp only [d1]; cbv) | simp only [d1] | (refine ⟨p1,_,g1, ?_⟩; cbv) | (simp only [w9]; cbv) | simp only [w9])
        refine .mk (E.wadd .i64 i 1) ⟨rfl, rfl, rfl, rfl, rfl⟩ ?_ ?_
        · exact hI2
        · exact hM
      · have w9 : decide (z = 9) = false := decide_eq_false fun h => e9 ((hzc 9 (by decide)).1 h)
        have w10 : decide (z = 10) = true := decide_eq_true ((hzc 10 (by decide)).2 e10)
        clear hbeg hget hfin elt ege eple eget eadd hzc hn he hc0 hci hz ei hw e9 e10
        cbv
        repeat (first | (simp only [z1]; cbv) | simp only [z1] | (simp only [d1]; cbv) | simp only [d1] | (refine ⟨p1,_,g1, ?_⟩; cbv) | (simp only [w9]; cbv) | simp only [w9] | (simp only [w10]; cbv) | simp only [w10])
        refine .mk (E.wadd .i64 i 1) ⟨rfl, rfl, rfl, rfl, rfl⟩ ?_ ?_
        · exact hI2
        · exact hM
      · have w9 : decide (z = 9) = false := decide_eq_false fun h => e9 ((hzc 9 (by decide)).1 h)
        have w10 : decide (z = 10) = false := decide_eq_false fun h => e10 ((hzc 10 (by decide)).1 h)
        have w13 : decide (z = 13) = true := decide_eq_true ((hzc 13 (by decide)).2 e13)
        clear hbeg hget hfin elt ege eple eget eadd hzc hn he hc0 hci hz ei hw e9 e10 e13
        cbv
        repeat (first | (simp only [z1]; cbv) | simp only [z1] | (simp only [d1]; cbv) | simp only [d1] | (refine ⟨p1,_,g1, ?_⟩; cbv) | (simp only [w9]; cbv) | simp only [w9] | (simp only [w10]; cbv) | simp only [w10] | (simp only [w13]; cbv) | simp only [w13])
        refine .mk (E.wadd .i64 i 1) ⟨rfl, rfl, rfl, rfl, rfl⟩ ?_ ?_
        · exact hI2
        · exact hM
      · have w9 : decide (z = 9) = false := decide_eq_false fun h => e9 ((hzc 9 (by decide)).1 h)
        have w10 : decide (z = 10) = false := decide_eq_false fun h => e10 ((hzc 10 (by decide)).1 h)
        have w13 : decide (z = 13) = false := decide_eq_false fun h => e13 ((hzc 13 (by decide)).1 h)
        have w32 : decide (z = 32) = true := decide_eq_true ((hzc 32 (by decide)).2 e32)
        clear hbeg hget hfin elt ege eple eget eadd hzc hn he hc0 hci hz ei hw e9 e10 e13 e32
        cbv
        repeat (first | (simp only [z1]; cbv) | simp only [z1] | (simp only [d1]; cbv) | simp only [d1] | (refine ⟨p1,_,g1, ?_⟩; cbv) | (simp only [w9]; cbv) | simp only [w9] | (simp only [w10]; cbv) | simp only [w10] | (simp only [w13]; cbv) | simp only [w13] | (simp only [w32]; cbv) | simp only [w32])
        refine .mk (E.wadd .i64 i 1) ⟨rfl, rfl, rfl, rfl, rfl⟩ ?_ ?_
        · exact hI2
        · exact hM
    | false =>
      have hne : c ≠ 9 ∧ c ≠ 10 ∧ c ≠ 13 ∧ c ≠ 32 := by
        unfold wsp at hw
        simp only [Bool.or_eq_false_iff, beq_eq_false_iff_ne] at hw
        exact ⟨hw.2.1, hw.2.2.1, hw.2.2.2, hw.1⟩
      have w9 : decide (z = 9) = false := decide_eq_false fun h => hne.1 ((hzc 9 (by decide)).1 h)
      have w10 : decide (z = 10) = false := decide_eq_false fun h => hne.2.1 ((hzc 10 (by decide)).1 h)
      have w13 : decide (z = 13) = false := decide_eq_false fun h => hne.2.2.1 ((hzc 13 (by decide)).1 h)
      have w32 : decide (z = 32) = false := decide_eq_false fun h => hne.2.2.2 ((hzc 32 (by decide)).1 h)
      have hb1 := hbeg i hi0 hi1 ⟨#[47, 47]⟩ (by decide)
      have hb2 := hbeg i hi0 hi1 ⟨#[47, 42]⟩ (by decide)
      obtain ⟨k1, k2⟩ := beg_cmk (s := s) (i := i)
      rcases cmk_cases (rst s i) with hk | hk | hk
      · have f1 : begB s i [47, 47] = false := Bool.eq_false_iff.2 fun h => by rw [k1.1 h] at hk; cases hk
        have f2 : begB s i [47, 42] = false := Bool.eq_false_iff.2 fun h => by rw [k2.1 h] at hk; cases hk
        change Ret P G _ _ (pB (begB s i [47, 47])) at hb1
        change Ret P G _ _ (pB (begB s i [47, 42])) at hb2
        rw [f1] at hb1
        rw [f2] at hb2
        obtain ⟨rfl, rfl⟩ := hfin i hI (by rw [hc0] at hk ⊢; exact skp_stop hw hk)
        clear hbeg hget hfin elt ege eple eget eadd hzc hn he hc0 hci hz ei hw hne k1 k2 f1 f2 hk
        cbv
        repeat (first | (simp only [z1]; cbv) | simp only [z1] | (simp only [d1]; cbv) | simp only [d1] | (refine ⟨p1,_,g1, ?_⟩; cbv) | (simp only [w9]; cbv) | simp only [w9] | (simp only [w10]; cbv) | simp only [w10] | (simp only [w13]; cbv) | simp only [w13] | (simp only [w32]; cbv) | simp only [w32] | (refine ⟨_, hb1, ?_⟩; cbv) | (refine ⟨_, hb2, ?_⟩; cbv))
      · have f1 : begB s i [47, 47] = true := k1.2 hk
        change Ret P G _ _ (pB (begB s i [47, 47])) at hb1
        rw [f1] at hb1
        obtain ⟨r2, hr2⟩ := cmk_1 hk
        obtain ⟨D, hD⟩ : ∃ D, dropLn (rst s i) = D := ⟨_, rfl⟩
        have hD2 : dropLn r2 = D := by
          rw [← hD, hr2, dropLn, if_neg (by decide), dropLn, if_neg (by decide)]
        have hRD : skp D = (r, b) := by
          have h5 := hI.sk
          rw [hr2, skp_ln (by decide) rfl] at h5
          rw [← hD2]
          exact h5
        have hlenD : D.length + 2 ≤ (rst s i).length := by
          have h5 := dropLn_le r2
          rw [hD2] at h5
          rw [hr2]
          simp only [List.length_cons]
          omega
        have hlen := rst_len s i
        have hJ0 : SkL s n D i := ⟨hi0, hi1, hD⟩
        have hout : ∀ j, SkL s n D j → rst s j = D → Sk s n (r, b) j ∧ μ j < μ i := fun j hj h => by
          have h5 := rst_len s j
          have h6 := hj.i0
          have h7 := hj.i1
          rw [h] at h5
          refine ⟨⟨h6, h7, by rw [h]; exact hRD⟩, ?_⟩
          rw [hμ, hμ]
          omega
        clear hzc hI hc0 k1 k2 hb2 hk hr2 hD hD2 hRD hlenD hlen hfin hbeg hci hz hne hw f1 ei hM
        cbv
        repeat (first | (simp only [z1]; cbv) | simp only [z1] | (simp only [d1]; cbv) | simp only [d1] | (refine ⟨p1,_,g1, ?_⟩; cbv) | (simp only [w9]; cbv) | simp only [w9] | (simp only [w10]; cbv) | simp only [w10] | (simp only [w13]; cbv) | simp only [w13] | (simp only [w32]; cbv) | simp only [w32] | (refine ⟨_, hb1, ?_⟩; cbv))
        refine loop_by 75 [0, 1] 0 (fun j : Int => [.p (pS s), .p (pI j)]) (fun _ => []) (SkL s n D) μ i ⟨rfl, rfl, rfl, rfl, rfl⟩ hJ0 ?_
        clear hJ0 g1 w9 w10 w13 w32 hb1 p1 d1
        intro j hJ
        replace hn : ((s.size : Nat) : Int) = n := hn
        have hj0 := hJ.i0
        have hj1 := hJ.i1
        rcases Classical.em (j < n) with hlj | hlj
        · have d1 : E.lti j n = true := by rw [elt]; exact decide_eq_true hlj
          obtain ⟨x, hx⟩ := hget j hj0 hlj
          obtain ⟨y, hy⟩ : ∃ y : Int, ((x.toNat : Nat) : Int) = y := ⟨_, rfl⟩
          have g1 := eget j x y hx hy
          have p1 := eple 0 j hj0
          have hx0 := rst_cons hj0 hx
          have hdl := hJ.dl
          rw [hx0, dropLn] at hdl
          rcases Classical.em (x = 10) with hx10 | hx10
          · rw [if_pos hx10, ← hx0] at hdl
            have w10 : decide (y = 10) = true := decide_eq_true (by rw [← hy, hx10]; rfl)
            obtain ⟨q1, q2⟩ := hout j hJ hdl
            clear hout hget elt ege eple eget eadd hn he hx0 hx hy hdl hx10
            cbv
            repeat (first | (simp only [z1]; cbv) | simp only [z1] | (simp only [d1]; cbv) | simp only [d1] | (refine ⟨p1,_,g1, ?_⟩; cbv) | (simp only [w10]; cbv) | simp only [w10])
            refine .mk j ⟨rfl, rfl, rfl, rfl, rfl⟩ ?_ ?_
            · exact q1
            · exact q2
          · rw [if_neg hx10] at hdl
            have w10 : decide (y = 10) = false := decide_eq_false fun h => hx10 (UInt8.toNat_inj.1 (by show x.toNat = 10; omega))
            have ej := eadd j 1 (by omega) (by omega) (by omega) (by omega)
            have q1 : SkL s n D (E.wadd .i64 j 1) := by rw [ej]; exact ⟨by omega, by omega, hdl⟩
            have q2 : μ (E.wadd .i64 j 1) < μ j := by rw [hμ, hμ, ej]; omega
            clear hout hget elt ege eple eget eadd hn he hx0 hx hy hdl hx10 ej
            cbv
            repeat (first | (simp only [z1]; cbv) | simp only [z1] | (simp only [d1]; cbv) | simp only [d1] | (refine ⟨p1,_,g1, ?_⟩; cbv) | (simp only [w10]; cbv) | simp only [w10])
            refine .mk (E.wadd .i64 j 1) ⟨rfl, rfl, rfl, rfl, rfl⟩ ?_ ?_
            · exact q1
            · exact q2
        · have d1 : E.lti j n = false := by rw [elt]; exact decide_eq_false hlj
          have hdl := hJ.dl
          have hx0 : rst s j = [] := rst_end (by omega)
          rw [hx0] at hdl
          obtain ⟨q1, q2⟩ := hout j hJ (by rw [hx0]; exact hdl)
          clear hout hget elt ege eple eget eadd hn he hx0 hdl
          cbv
          repeat (first | (simp only [z1]; cbv) | simp only [z1] | (simp only [d1]; cbv) | simp only [d1])
          refine .mk j ⟨rfl, rfl, rfl, rfl, rfl⟩ ?_ ?_
          · exact q1
          · exact q2
      · have f1 : begB s i [47, 47] = false := Bool.eq_false_iff.2 fun h => by rw [k1.1 h] at hk; cases hk
        have f2 : begB s i [47, 42] = true := k2.2 hk
        change Ret P G _ _ (pB (begB s i [47, 47])) at hb1
        change Ret P G _ _ (pB (begB s i [47, 42])) at hb2
        rw [f1] at hb1
        rw [f2] at hb2
        obtain ⟨r2, hr2⟩ := cmk_2 hk
        have hlen := rst_len s i
        rw [hr2] at hlen
        simp only [List.length_cons] at hlen
        have hr2' : rst s (i + 2) = r2 := by
          have h5 : rst s (i + 2) = (rst s i).drop 2 := by
            unfold rst
            rw [List.drop_drop]
            congr 1
            omega
          rw [h5, hr2]
          rfl
        obtain ⟨D, hD⟩ : ∃ D, dropCm r2 = D := ⟨_, rfl⟩
        have hsk := hI.sk
        have ei2 := eadd i 2 (by omega) (by omega) (by omega) (by omega)
        have hJ0 : SkC s n D (E.wadd .i64 i 2) := by rw [ei2]; exact ⟨by omega, by omega, by rw [hr2']; exact hD⟩
        have hout : ∀ j, 0 ≤ j → j ≤ n → D = some (rst s j) → Sk s n (r, b) j ∧ μ j < μ i := fun j h6 h7 h => by
          have h5 := rst_len s j
          rw [h] at hD
          have h8 := dropCm_le hD
          refine ⟨⟨h6, h7, ?_⟩, ?_⟩
          · rw [hr2, skp_cm (c := 47) (r := 42 :: r2) (by decide) rfl hD] at hsk
            exact hsk
          · rw [hμ, hμ]
            omega
        have hnone : D = none → e = i ∧ b = false := fun h => by
          rw [hr2, skp_open (by decide) rfl (by rw [← h]; exact hD)] at hsk
          have h9 : (47 :: 42 :: r2 : Bs).length = r.length := congrArg (fun p : Bs × Bool => p.1.length) hsk
          have h10 : false = b := congrArg Prod.snd hsk
          simp only [List.length_cons] at h9
          replace he : n - ((r.length : Nat) : Int) = e := he
          exact ⟨by omega, h10.symm⟩
        clear hzc hI hc0 k1 k2 hk hr2 hlen hfin hci hz hne hw f1 f2 ei hM hr2' hD hsk ei2 he
        cbv
        repeat (first | (simp only [z1]; cbv) | simp only [z1] | (simp only [d1]; cbv) | simp only [d1] | (refine ⟨p1,_,g1, ?_⟩; cbv) | (simp only [w9]; cbv) | simp only [w9] | (simp only [w10]; cbv) | simp only [w10] | (simp only [w13]; cbv) | simp only [w13] | (simp only [w32]; cbv) | simp only [w32] | (refine ⟨_, hb1, ?_⟩; cbv) | (refine ⟨_, hb2, ?_⟩; cbv))
        refine loop_by 75 [0, 1, 7] 0 (fun j : Int => [.p (pS s), .p (pI i), .p (pI j)]) (fun _ => []) (SkC s n D) μ (E.wadd .i64 i 2) ⟨rfl, rfl, rfl, rfl, rfl⟩ hJ0 ?_
        clear hJ0 g1 w9 w10 w13 w32 hb1 hb2 p1 d1
        intro j hJ
        replace hn : ((s.size : Nat) : Int) = n := hn
        have hj0 := hJ.i0
        have hj1 := hJ.i1
        rcases Classical.em (j < n) with hlj | hlj
        · have d1 : E.lti j n = true := by rw [elt]; exact decide_eq_true hlj
          obtain ⟨x, hx⟩ := hget j hj0 hlj
          have hx0 := rst_cons hj0 hx
          have hdl := hJ.dl
          have hb3 := hbeg j hj0 hj1 ⟨#[42, 47]⟩ (by decide)
          change Ret P G _ _ (pB (begB s j [42, 47])) at hb3
          rw [beg_end hx0] at hb3
          rw [hx0, dropCm] at hdl
          rcases Classical.em (x = 42 ∧ (rst s (j + 1)).head? = some 47) with hxe | hxe
          · rw [decide_eq_true hxe] at hb3
            rw [if_pos hxe] at hdl
            have d2 : E.lei n j = false := by rw [ege]; exact decide_eq_false (by omega)
            have ht2 : (rst s (j + 1)).tail = rst s (j + 2) := by
              unfold rst
              rw [List.tail_drop]
              congr 1
              omega
            have hl2 : j + 2 ≤ n := by
              have h5 := rst_len s (j + 1)
              have h6 : (rst s (j + 1)) ≠ [] := fun h => by rw [h] at hxe; cases hxe.2
              have h7 := List.length_pos_iff.2 h6
              omega
            have ej := eadd j 2 (by omega) (by omega) (by omega) (by omega)
            obtain ⟨q1, q2⟩ := hout (E.wadd .i64 j 2) (by omega) (by omega) (by rw [ej, ← ht2]; exact hdl.symm)
            clear hout hnone hget hbeg elt ege eple eget eadd hn hx0 hx hdl hxe ht2 hl2 ej
            cbv
            repeat (first | (simp only [z1]; cbv) | simp only [z1] | (simp only [d1]; cbv) | simp only [d1] | (refine ⟨_, hb3, ?_⟩; cbv) | (simp only [d2]; cbv) | simp only [d2])
            refine .mk (E.wadd .i64 j 2) ⟨rfl, rfl, rfl, rfl, rfl⟩ ?_ ?_
            · exact q1
            · exact q2
          · rw [decide_eq_false hxe] at hb3
            rw [if_neg hxe] at hdl
            have ej := eadd j 1 (by omega) (by omega) (by omega) (by omega)
            have q1 : SkC s n D (E.wadd .i64 j 1) := by rw [ej]; exact ⟨by omega, by omega, hdl⟩
            have q2 : μ (E.wadd .i64 j 1) < μ j := by rw [hμ, hμ, ej]; omega
            clear hout hnone hget hbeg elt ege eple eget eadd hn hx0 hx hdl hxe ej
            cbv
            repeat (first | (simp only [z1]; cbv) | simp only [z1] | (simp only [d1]; cbv) | simp only [d1] | (refine ⟨_, hb3, ?_⟩; cbv))
            refine .mk (E.wadd .i64 j 1) ⟨rfl, rfl, rfl, rfl, rfl⟩ ?_ ?_
            · exact q1
            · exact q2
        · have d1 : E.lti j n = false := by rw [elt]; exact decide_eq_false hlj
          have d2 : E.lei n j = true := by rw [ege]; exact decide_eq_true (by omega)
          have hdl := hJ.dl
          have hx0 : rst s j = [] := rst_end (by omega)
          rw [hx0] at hdl
          obtain ⟨rfl, rfl⟩ := hnone hdl.symm
          clear hout hnone hget hbeg elt ege eple eget eadd hn hx0 hdl
          cbv
          repeat (first | (simp only [z1]; cbv) | simp only [z1] | (simp only [d1]; cbv) | simp only [d1] | (simp only [d2]; cbv) | simp only [d2])
  · have d1 : E.lti i n = false := by rw [elt]; exact decide_eq_false hlt
    obtain ⟨rfl, rfl⟩ := hfin i hI (by rw [rst_end (by omega)]; rfl)
    cbv
    repeat (first | (simp only [z1]; cbv) | simp only [z1] | (simp only [d1]; cbv) | simp only [d1])
end Go.Proofs.YtnhbboknffppiaaDoor
