/- Own work: law 25's awake; LexerNumbers, LexerWords. -/
import Derived.Test.YtnhbboknffppiaaDoorZLC2
import Derived.Test.YtnhbboknffppiaaDoorZLA5
namespace Go.Proofs.YtnhbboknffppiaaDoor
open Go.RowKit
set_option maxRecDepth 100000
set_option linter.unusedSimpArgs false

theorem lex_awake : RL 12 [pS ⟨#[97, 32, 61, 62, 32, 49]⟩] (.tup [.ro 3 [[pI 1, pS ⟨#[97]⟩, pI 0], [pI 5, pS ⟨#[61, 62]⟩, pI 2], [pI 3, pS ⟨#[49]⟩, pI 5]], pI 0, pI 0]) := by
  have h := lex_ret ⟨#[97, 32, 61, 62, 32, 49]⟩ (by decide)
  have e : lexB (⟨#[97, 32, 61, 62, 32, 49]⟩ : ByteArray).data.toList = ([⟨1, [97], 6⟩, ⟨5, [61, 62], 4⟩, ⟨3, [49], 1⟩], none) := by kernel_rfl
  rw [lexR_ok e] at h
  exact h
theorem awake_ret : RL 11 [] (pB true) := by
  have h := lex_awake
  obtain ⟨R, hR⟩ : ∃ x : List (List PV), [[pI 1, pS ⟨#[97]⟩, pI 0], [pI 5, pS ⟨#[61, 62]⟩, pI 2], [pI 3, pS ⟨#[49]⟩, pI 5]] = x := ⟨_, rfl⟩
  rw [hR] at h
  refine ret_by tyT_ok gl_gr mixed (fun _ => 0) Tryd.func11 rfl (by kernel_rfl) (by kernel_rfl) rfl fun P G E hc hE => ?_
  replace h := hc _ _ _ h
  have l1 : E.ofN R.length = 3 := by rw [hE, ← hR]; rfl
  have p1 : E.ple 0 1 := by rw [hE]; show (0 : Int) ≤ 1; omega
  have p2 : E.ple 0 2 := by rw [hE]; show (0 : Int) ≤ 2; omega
  have g1 : R[E.nat 1]? = some [pI 5, pS ⟨#[61, 62]⟩, pI 2] := by rw [hE, ← hR]; rfl
  have g2 : R[E.nat 2]? = some [pI 3, pS ⟨#[49]⟩, pI 5] := by rw [hE, ← hR]; rfl
  have q1 : E.eq ⟨#[61, 62]⟩ ⟨#[61, 62]⟩ = true := by rw [hE]; exact decide_eq_true (show (⟨#[61, 62]⟩ : ByteArray) = ⟨#[61, 62]⟩ from rfl)
  clear hE hc hR
  cbv at l1
  cbv
  repeat (first | (refine ⟨_, h, ?_⟩; cbv) | (simp only [l1]; cbv) | simp only [l1] | (refine ⟨p1,_,g1, ?_⟩; cbv) | (simp only [q1]; cbv) | simp only [q1] | (refine ⟨p2,_,g2, ?_⟩; cbv))
theorem bL_list (l : Bs) : (bL l).data.toList = l := by unfold bL; simp
theorem bL_size (l : Bs) : (bL l).size = l.length := rfl
theorem dig_len : ∀ (k N : Nat), N < 10 ^ (k + 1) → (dig N).length ≤ k + 1
  | 0, N, h => by
    rw [dig_lt (by omega)]
    exact Nat.le_refl _
  | k + 1, N, h => by
    by_cases h1 : N < 10
    · rw [dig_lt h1]
      show 1 ≤ k + 1 + 1
      omega
    · rw [dig_ge h1, List.length_append]
      have := dig_len k (N / 10) (by rw [Nat.pow_succ] at h; omega)
      show _ + 1 ≤ _
      omega
structure LnI (N : Nat) (x : Int × ByteArray) : Prop where
  st : ∃ K : Nat, x.1 = (K : Nat) ∧ K ≤ N ∧ ((K = N ∧ x.2 = ⟨#[]⟩) ∨ (0 < K ∧ x.2.data.toList ≠ [] ∧ dig N = dig K ++ x.2.data.toList) ∨ (K = 0 ∧ x.2.data.toList = dig N))
structure LzI (r : Int) (x : Int × ByteArray) : Prop where
  i0 : 0 ≤ x.1
  i1 : x.1 ≤ r + 1
  z : x.2.data.toList = List.replicate x.1.toNat 48
theorem digit_ext (r : Nat) (h : r < 10) : ((⟨#[48, 49, 50, 51, 52, 53, 54, 55, 56, 57]⟩ : ByteArray).extract r (r + 1)).data.toList = [UInt8.ofNat (48 + r)] := by
  have key := List.all_eq_true.1 (show ((List.range 10).all fun r => decide (((⟨#[48, 49, 50, 51, 52, 53, 54, 55, 56, 57]⟩ : ByteArray).extract r (r + 1)).data.toList = [UInt8.ofNat (48 + r)])) = true by decide +kernel) r (List.mem_range.2 h)
  exact of_decide_eq_true key
set_option maxHeartbeats 4000000 in
theorem numbers_ret (N : Nat) (zz : Int) (hN : N < 18446744073709551616) (h0 : 0 ≤ zz) : RL 7 [.v (.int .u64 (N : Nat)), .v (.int .u8 zz)] (pB true) := by
  have ha := awake_ret
  obtain ⟨n, hn⟩ : ∃ n : Int, ((N : Nat) : Int) = n := ⟨_, rfl⟩
  rw [hn]
  have hdl : (dig N).length ≤ 20 := dig_len 19 N (by omega)
  have hdn : (dig N) ≠ [] := (dig_spec N N (Nat.le_refl _)).2.1
  obtain ⟨r, hr⟩ : ∃ r : Int, zz.tmod 5 = r := ⟨_, rfl⟩
  have hr0 : 0 ≤ r ∧ r ≤ 4 := by
    rw [Int.tmod_eq_emod_of_nonneg h0] at hr
    omega
  obtain ⟨S, hS⟩ : ∃ x, bL (dig N) = x := ⟨_, rfl⟩
  have hSd : S.data.toList = dig N := by rw [← hS]; exact bL_list _
  have hSs : S.size = (dig N).length := by rw [← hS]; rfl
  have hlx := lex_ret S (by omega)
  have hl1 := lex_dig uB repairL N
  have hlx2 : ∀ X : ByteArray, X.data.toList = 32 :: (List.replicate (r.toNat + 1) 48 ++ dig N) → RL 12 [pS X] (.tup [.v (.slice none 0 0), pI 1, pI 4]) := fun X hX => by
    have hXs : X.size = r.toNat + 2 + (dig N).length := by
      have e5 : X.data.toList.length = X.size := rfl
      rw [← e5, hX, List.length_cons, List.length_append, List.length_replicate]
      omega
    have h := lex_ret X (by omega)
    have hb : lexB X.data.toList = ([], some ((List.replicate (r.toNat + 1) 48 ++ dig N).length, 4)) := by
      rw [hX]
      exact lex_zeros uB repairL N (r.toNat + 1) (by omega)
    rw [lexR_bad hb] at h
    have e : ((X.size : Nat) : Int) - ((List.replicate (r.toNat + 1) 48 ++ dig N).length : Nat) = 1 := by
      rw [List.length_append, List.length_replicate, hXs]
      omega
    rw [e] at h
    exact h
  have hI0 : LnI N (n, ⟨#[]⟩) := ⟨N, hn.symm, Nat.le_refl _, .inl ⟨rfl, rfl⟩⟩
  have hJ0 : LzI r (0, ⟨#[]⟩) := ⟨Int.le_refl _, by show 0 ≤ r + 1; omega, rfl⟩
  obtain ⟨μ, hμ⟩ : ∃ μ : Int × ByteArray → Nat, ∀ x, μ x = 2 * x.1.toNat + (if x.2.size = 0 then 1 else 0) := ⟨_, fun _ => rfl⟩
  obtain ⟨ν, hν⟩ : ∃ ν : Int → Nat, ∀ x, ν x = 100 - x.toNat := ⟨_, fun _ => rfl⟩
  have hres : (9223372036854775807 < n ∧ RL 12 [pS S] (.tup [.v (.slice none 0 0), pI 0, pI 5])) ∨ (¬ 9223372036854775807 < n ∧ RL 12 [pS S] (.tup [.ro 3 [[pI 3, pS S, pI 0]], pI 0, pI 0])) := by
    by_cases hb : 9223372036854775807 < N
    · rw [if_pos hb] at hl1
      have hb2 : lexB S.data.toList = ([], some ((dig N).length, 5)) := by rw [hSd]; exact hl1
      rw [lexR_bad hb2] at hlx
      have e : ((S.size : Nat) : Int) - ((dig N).length : Nat) = 0 := by omega
      rw [e] at hlx
      exact .inl ⟨by omega, hlx⟩
    · rw [if_neg hb] at hl1
      have hb2 : lexB S.data.toList = ([⟨3, dig N, (dig N).length⟩], none) := by rw [hSd]; exact hl1
      rw [lexR_ok hb2] at hlx
      have e : tkRows (S.size : Nat) [⟨3, dig N, (dig N).length⟩] = [[pI 3, pS S, pI 0]] := by
        show [[pI 3, pS (bL (dig N)), pI ((S.size : Nat) - ((dig N).length : Nat))]] = _
        rw [hS]
        have e : ((S.size : Nat) : Int) - ((dig N).length : Nat) = 0 := by omega
        rw [e]
      rw [e] at hlx
      exact .inr ⟨by omega, hlx⟩
  clear hlx hl1
  refine ret_by tyT_ok gl_gr mixed (fun _ => 0) Tryd.func7 rfl (by kernel_rfl) (by kernel_rfl) rfl fun P G E hc hE => ?_
  replace ha := hc _ _ _ ha
  replace hlx2 := fun X hX => hc _ _ _ (hlx2 X hX)
  replace hres : (9223372036854775807 < n ∧ Ret P G 12 [pS S] (.tup [.v (.slice none 0 0), pI 0, pI 5])) ∨ (¬ 9223372036854775807 < n ∧ Ret P G 12 [pS S] (.tup [.ro 3 [[pI 3, pS S, pI 0]], pI 0, pI 0])) := hres.imp (fun h => ⟨h.1, hc _ _ _ h.2⟩) (fun h => ⟨h.1, hc _ _ _ h.2⟩)
  have elti : ∀ a b, E.lti a b = decide (a < b) := fun a b => by rw [hE]; rfl
  have elei : ∀ a b, E.lei a b = decide (a ≤ b) := fun a b => by rw [hE]; rfl
  have eple : ∀ a b, a ≤ b → E.ple a b := fun a b h => by rw [hE]; exact h
  have eaddi : ∀ a b : Int, -1000000000 ≤ a → a ≤ 1000000000 → -1000000000 ≤ b → b ≤ 1000000000 → E.wadd .i64 a b = a + b := fun a b h0 h1 h2 h3 => by rw [hE]; exact wrap_i64_in (by omega) (by omega)
  have eaddu : ∀ a b : Int, 0 ≤ a → a ≤ 1000000000 → 0 ≤ b → b ≤ 1000000000 → E.wadd .u64 a b = a + b := fun a b h0 h1 h2 h3 => by rw [hE]; exact wrap_u64_in (by omega) (by omega)
  have erem : ∀ a b : Int, 0 ≤ a → E.rem a b = a % b := fun a b h => by rw [hE]; exact Int.tmod_eq_emod_of_nonneg h
  have equo : ∀ a : Int, 0 ≤ a → a < 18446744073709551616 → E.wquo .u64 a 10 = a / 10 := fun a h h' => by
    rw [hE]
    show IntKind.u64.wrap (a.tdiv 10) = _
    rw [Int.tdiv_eq_ediv_of_nonneg h]
    exact wrap_u64_in (by omega) (by omega)
  have ecat : ∀ a b : ByteArray, a.size ≤ 1000000 → b.size ≤ 1000000 → E.cat a b := fun a b h1 h2 => by rw [hE]; show ((a.size : Nat) : Int) + ((b.size : Nat) : Int) ≤ _; omega
  have eapp : ∀ a b, E.add a b = a ++ b := fun a b => by rw [hE]; rfl
  have eeq : ∀ a b, E.eq a b = decide (a = b) := fun a b => by rw [hE]; rfl
  have eext : ∀ (t : ByteArray) (i j : Int), E.ext t (E.nat i) (E.nat j) = t.extract i.toNat j.toNat := fun t i j => by rw [hE]; rfl
  have z10 : E.size ⟨#[48, 49, 50, 51, 52, 53, 54, 55, 56, 57]⟩ = 10 := by rw [hE]; rfl
  have t1 : E.rem zz 5 = r := by rw [hE]; exact hr
  have t2 : E.wrap .i64 r = r := by rw [hE]; exact wrap_i64_in (by omega) (by omega)
  have o0 : E.ofN 0 = 0 := by rw [hE]; rfl
  have o1 : E.ofN 1 = 1 := by rw [hE]; rfl
  have p0 := eple 0 0 (by omega)
  have hn0 : E.nat 0 = 0 := by rw [hE]; rfl
  have qS : E.eq S S = true := by rw [eeq]; exact decide_eq_true rfl
  clear hE hc
  cbv
  repeat (first | (refine ⟨_, ha, ?_⟩; cbv))
  refine loop_by 99 [0, 1, 5, 6] 0 (fun x : Int × ByteArray => [.p (.v (.int .u64 n)), .p (.v (.int .u8 zz)), .p (pS x.2), .p (.v (.int .u64 x.1))]) (fun _ => []) (LnI N) μ (n, ⟨#[]⟩) ⟨rfl, rfl, rfl, rfl, rfl⟩ hI0 ?_
  clear hI0 ha
  rintro ⟨k, T⟩ ⟨K, hk, hKN, hst⟩
  simp only at hk hst
  replace hk : k = ((K : Nat) : Int) := hk
  replace hn : ((N : Nat) : Int) = n := hn
  have b1 : E.lti 0 k = decide (0 < k) := elti _ _
  have b2 : E.eq T ⟨#[]⟩ = decide (T = ⟨#[]⟩) := eeq _ _
  have hTne : T.data.toList ≠ [] → T ≠ ⟨#[]⟩ := fun h e => h (by rw [e])
  have hTl : T.data.toList.length = T.size := rfl
  rcases Classical.em (K = 0 ∧ T.data.toList = dig N) with hend | hgo
  · -- the end of the digits
    have hTS : T = S := bl_inj (by rw [hend.2, hSd])
    rw [decide_eq_false (by omega)] at b1
    rw [decide_eq_false (hTne (by rw [hend.2]; exact hdn))] at b2
    subst hTS
    rcases hres with ⟨hbig, hlx⟩ | ⟨hbig, hlx⟩
    · have b3 : E.lti 9223372036854775807 n = true := by rw [elti]; exact decide_eq_true hbig
      clear hst hTne hend hbig hμ elti eple eaddu erem equo eeq eext hn hk hKN hN
      cbv
      repeat (first | (simp only [b1]; cbv) | simp only [b1] | (simp only [b2]; cbv) | simp only [b2] | (refine ⟨_, hlx, ?_⟩; cbv) | (simp only [b3]; cbv) | simp only [b3] | (simp only [o0]; cbv) | simp only [o0])
      refine loop_by 99 [1, 5, 10, 11] 0 (fun x : Int × ByteArray => [.p (.v (.int .u8 zz)), .p (pS T), .p (pS x.2), .p (pI x.1)]) (fun _ => []) (LzI r) (fun x => ν x.1) (0, ⟨#[]⟩) ⟨rfl, rfl, rfl, rfl, rfl⟩ hJ0 ?_
      clear hJ0
      rintro ⟨i, Z⟩ ⟨i0, i1, hZ⟩
      simp only at i0 i1 hZ
      have hd := elei i r
      have hZs : Z.size = i.toNat := by
        have e5 : Z.data.toList.length = Z.size := rfl
        rw [← e5, hZ, List.length_replicate]
      rcases Classical.em (i ≤ r) with hir | hir
      · rw [decide_eq_true hir] at hd
        obtain ⟨Z2, hZ2⟩ : ∃ x, Z ++ ⟨#[48]⟩ = x := ⟨_, rfl⟩
        have ez := eapp Z ⟨#[48]⟩
        rw [hZ2] at ez
        have cz := ecat Z ⟨#[48]⟩ (by omega) (by decide)
        obtain ⟨i2, hi2⟩ : ∃ x : Int, i + 1 = x := ⟨_, rfl⟩
        have ei := eaddi i 1 (by omega) (by omega) (by omega) (by omega)
        rw [hi2] at ei
        have hI2 : LzI r (i2, Z2) := by
          refine ⟨by show 0 ≤ i2; omega, by show i2 ≤ r + 1; omega, ?_⟩
          show Z2.data.toList = List.replicate i2.toNat 48
          rw [← hZ2, ByteArray.data_append, Array.toList_append, hZ, show i2.toNat = i.toNat + 1 by omega, List.replicate_succ']
        have hM2 : ν i2 < ν i := by rw [hν, hν]; omega
        clear elei eapp ecat eaddi hZ hZs hir hZ2 hi2 hlx2 hr0
        cbv
        repeat (first | (simp only [t1]; cbv) | simp only [t1] | (simp only [t2]; cbv) | simp only [t2] | (simp only [hd]; cbv) | simp only [hd] | (refine ⟨cz, ?_⟩; cbv) | (simp only [ez]; cbv) | simp only [ez] | (simp only [ei]; cbv) | simp only [ei])
        refine .mk (i2, Z2) ⟨rfl, rfl, rfl, rfl, rfl⟩ ?_ ?_
        · exact hI2
        · exact hM2
      · rw [decide_eq_false hir] at hd
        have hir2 : i = r + 1 := by omega
        obtain ⟨Y, hY⟩ : ∃ x, (⟨#[32]⟩ : ByteArray) ++ Z = x := ⟨_, rfl⟩
        obtain ⟨X, hX⟩ : ∃ x, Y ++ T = x := ⟨_, rfl⟩
        have hXd : X.data.toList = 32 :: (List.replicate (r.toNat + 1) 48 ++ dig N) := by
          rw [← hX, ← hY, ByteArray.data_append, Array.toList_append, ByteArray.data_append, Array.toList_append, hZ, hSd, hir2, show (r + 1).toNat = r.toNat + 1 by omega]
          rfl
        have hYs : Y.size = 1 + Z.size := by rw [← hY, ByteArray.size_append]; rfl
        have c1 := ecat ⟨#[32]⟩ Z (by decide) (by omega)
        have e1 := eapp ⟨#[32]⟩ Z
        rw [hY] at e1
        have c2 := ecat Y T (by omega) (by omega)
        have e2 := eapp Y T
        rw [hX] at e2
        have hl := hlx2 X hXd
        clear elei eapp ecat eaddi hZ hZs hir hlx2 hr0 hY hX hXd hYs hir2
        cbv
        repeat (first | (simp only [t1]; cbv) | simp only [t1] | (simp only [t2]; cbv) | simp only [t2] | (simp only [hd]; cbv) | simp only [hd] | (refine ⟨c1, ?_⟩; cbv) | (simp only [e1]; cbv) | simp only [e1] | (refine ⟨c2, ?_⟩; cbv) | (simp only [e2]; cbv) | simp only [e2] | (refine ⟨_, hl, ?_⟩; cbv))
    · have b3 : E.lti 9223372036854775807 n = false := by rw [elti]; exact decide_eq_false hbig
      obtain ⟨R, hR⟩ : ∃ x : List (List PV), [[pI 3, pS T, pI 0]] = x := ⟨_, rfl⟩
      rw [hR] at hlx
      have l1 : E.ofN R.length = 1 := by rw [← hR]; exact o1
      have g1 : R[E.nat 0]? = some [pI 3, pS T, pI 0] := by rw [hn0, ← hR]; rfl
      clear hst hTne hend hbig hμ elti eple eaddu erem equo eeq eext hn hk hKN hN hR o0 o1
      cbv at l1
      cbv
      repeat (first | (simp only [b1]; cbv) | simp only [b1] | (simp only [b2]; cbv) | simp only [b2] | (refine ⟨_, hlx, ?_⟩; cbv) | (simp only [b3]; cbv) | simp only [b3] | (simp only [l1]; cbv) | simp only [l1] | (refine ⟨p0,_,g1, ?_⟩; cbv) | (simp only [qS]; cbv) | simp only [qS])
      refine loop_by 99 [1, 5, 10, 11] 0 (fun x : Int × ByteArray => [.p (.v (.int .u8 zz)), .p (pS T), .p (pS x.2), .p (pI x.1)]) (fun _ => []) (LzI r) (fun x => ν x.1) (0, ⟨#[]⟩) ⟨rfl, rfl, rfl, rfl, rfl⟩ hJ0 ?_
      clear hJ0
      rintro ⟨i, Z⟩ ⟨i0, i1, hZ⟩
      simp only at i0 i1 hZ
      have hd := elei i r
      have hZs : Z.size = i.toNat := by
        have e5 : Z.data.toList.length = Z.size := rfl
        rw [← e5, hZ, List.length_replicate]
      rcases Classical.em (i ≤ r) with hir | hir
      · rw [decide_eq_true hir] at hd
        obtain ⟨Z2, hZ2⟩ : ∃ x, Z ++ ⟨#[48]⟩ = x := ⟨_, rfl⟩
        have ez := eapp Z ⟨#[48]⟩
        rw [hZ2] at ez
        have cz := ecat Z ⟨#[48]⟩ (by omega) (by decide)
        obtain ⟨i2, hi2⟩ : ∃ x : Int, i + 1 = x := ⟨_, rfl⟩
        have ei := eaddi i 1 (by omega) (by omega) (by omega) (by omega)
        rw [hi2] at ei
        have hI2 : LzI r (i2, Z2) := by
          refine ⟨by show 0 ≤ i2; omega, by show i2 ≤ r + 1; omega, ?_⟩
          show Z2.data.toList = List.replicate i2.toNat 48
          rw [← hZ2, ByteArray.data_append, Array.toList_append, hZ, show i2.toNat = i.toNat + 1 by omega, List.replicate_succ']
        have hM2 : ν i2 < ν i := by rw [hν, hν]; omega
        clear elei eapp ecat eaddi hZ hZs hir hZ2 hi2 hlx2 hr0
        cbv
        repeat (first | (simp only [t1]; cbv) | simp only [t1] | (simp only [t2]; cbv) | simp only [t2] | (simp only [hd]; cbv) | simp only [hd] | (refine ⟨cz, ?_⟩; cbv) | (simp only [ez]; cbv) | simp only [ez] | (simp only [ei]; cbv) | simp only [ei])
        refine .mk (i2, Z2) ⟨rfl, rfl, rfl, rfl, rfl⟩ ?_ ?_
        · exact hI2
        · exact hM2
      · rw [decide_eq_false hir] at hd
        have hir2 : i = r + 1 := by omega
        obtain ⟨Y, hY⟩ : ∃ x, (⟨#[32]⟩ : ByteArray) ++ Z = x := ⟨_, rfl⟩
        obtain ⟨X, hX⟩ : ∃ x, Y ++ T = x := ⟨_, rfl⟩
        have hXd : X.data.toList = 32 :: (List.replicate (r.toNat + 1) 48 ++ dig N) := by
          rw [← hX, ← hY, ByteArray.data_append, Array.toList_append, ByteArray.data_append, Array.toList_append, hZ, hSd, hir2, show (r + 1).toNat = r.toNat + 1 by omega]
          rfl
        have hYs : Y.size = 1 + Z.size := by rw [← hY, ByteArray.size_append]; rfl
        have c1 := ecat ⟨#[32]⟩ Z (by decide) (by omega)
        have e1 := eapp ⟨#[32]⟩ Z
        rw [hY] at e1
        have c2 := ecat Y T (by omega) (by omega)
        have e2 := eapp Y T
        rw [hX] at e2
        have hl := hlx2 X hXd
        clear elei eapp ecat eaddi hZ hZs hir hlx2 hr0 hY hX hXd hYs hir2
        cbv
        repeat (first | (simp only [t1]; cbv) | simp only [t1] | (simp only [t2]; cbv) | simp only [t2] | (simp only [hd]; cbv) | simp only [hd] | (refine ⟨c1, ?_⟩; cbv) | (simp only [e1]; cbv) | simp only [e1] | (refine ⟨c2, ?_⟩; cbv) | (simp only [e2]; cbv) | simp only [e2] | (refine ⟨_, hl, ?_⟩; cbv))
  · have hgo2 : ((K = N ∧ T = ⟨#[]⟩) ∨ (0 < K ∧ T.data.toList ≠ [] ∧ dig N = dig K ++ T.data.toList)) := by
      rcases hst with h | h | h
      · exact .inl h
      · exact .inr h
      · exact absurd h hgo
    obtain ⟨m, hm⟩ : ∃ x : Int, k % 10 = x := ⟨_, rfl⟩
    have hmm : m = ((K % 10 : Nat) : Int) := by rw [← hm, hk]; omega
    have r1 := erem k 10 (by omega)
    rw [hm] at r1
    obtain ⟨m1, hm1⟩ : ∃ x : Int, m + 1 = x := ⟨_, rfl⟩
    have r2 := eaddu m 1 (by omega) (by omega) (by omega) (by omega)
    rw [hm1] at r2
    obtain ⟨k2, hk2⟩ : ∃ x : Int, k / 10 = x := ⟨_, rfl⟩
    have r3 := equo k (by omega) (by omega)
    rw [hk2] at r3
    obtain ⟨D, hD⟩ : ∃ x, (⟨#[48, 49, 50, 51, 52, 53, 54, 55, 56, 57]⟩ : ByteArray).extract m.toNat m1.toNat = x := ⟨_, rfl⟩
    have hDd : D.data.toList = [UInt8.ofNat (48 + K % 10)] := by
      rw [← hD, show m.toNat = K % 10 by omega, show m1.toNat = K % 10 + 1 by omega]
      exact digit_ext _ (by omega)
    have hDs : D.size = 1 := by
      have e5 : D.data.toList.length = D.size := rfl
      rw [hDd] at e5
      exact e5.symm
    have x1 := eext ⟨#[48, 49, 50, 51, 52, 53, 54, 55, 56, 57]⟩ m m1
    rw [hD] at x1
    have p1 := eple 0 m (by omega)
    have p2 := eple m m1 (by omega)
    have p3 := eple m1 10 (by omega)
    obtain ⟨T2, hT2⟩ : ∃ x, D ++ T = x := ⟨_, rfl⟩
    have hTs : T.size ≤ 20 := by
      rcases hgo2 with ⟨_, h⟩ | ⟨_, _, h⟩
      · rw [h]; decide
      · have h5 := congrArg List.length h
        rw [List.length_append] at h5
        omega
    have c1 := ecat D T (by omega) (by omega)
    have e1 := eapp D T
    rw [hT2] at e1
    have hT2d : T2.data.toList = UInt8.ofNat (48 + K % 10) :: T.data.toList := by
      rw [← hT2, ByteArray.data_append, Array.toList_append, hDd]
      rfl
    have hT2s : T2.size ≠ 0 := by
      rw [← hT2, ByteArray.size_append]
      omega
    have hI2 : LnI N (k2, T2) := by
      refine ⟨K / 10, by show k2 = _; omega, by omega, ?_⟩
      show _ ∨ (0 < K / 10 ∧ T2.data.toList ≠ [] ∧ dig N = dig (K / 10) ++ T2.data.toList) ∨ (K / 10 = 0 ∧ T2.data.toList = dig N)
      have hdN : dig N = dig K ++ T.data.toList := by
        rcases hgo2 with ⟨h, h'⟩ | ⟨_, _, h⟩
        · rw [h, h']
          simp
        · exact h
      rw [hT2d]
      right
      by_cases h10 : K < 10
      · right
        refine ⟨by omega, ?_⟩
        rw [hdN, dig_lt h10, show K % 10 = K by omega]
        rfl
      · left
        refine ⟨by omega, List.cons_ne_nil _ _, ?_⟩
        rw [hdN, dig_ge h10]
        simp
    have hM2 : μ (k2, T2) < μ (k, T) := by
      rw [hμ, hμ]
      show 2 * k2.toNat + (if T2.size = 0 then 1 else 0) < 2 * k.toNat + (if T.size = 0 then 1 else 0)
      rw [if_neg hT2s]
      rcases hgo2 with ⟨h, h'⟩ | ⟨h, _, _⟩
      · have : T.size = 0 := by rw [h']; rfl
        rw [if_pos this]
        omega
      · omega
    have hgd : (E.lti 0 k = true) ∨ (E.lti 0 k = false ∧ E.eq T ⟨#[]⟩ = true) := by
      by_cases h : 0 < k
      · exact .inl (by rw [b1]; exact decide_eq_true h)
      · refine .inr ⟨by rw [b1]; exact decide_eq_false h, ?_⟩
        rw [b2]
        rcases hgo2 with ⟨_, h'⟩ | ⟨h', _, _⟩
        · exact decide_eq_true h'
        · omega
    clear b1 b2
    rcases hgd with b1 | ⟨b1, b2⟩
    all_goals
      clear hst hTne hgo hgo2 hμ elti elei eple eaddi eaddu erem equo eeq eext ecat eapp hn hk hKN hN hres hlx2 hr0 hr hS hSd hSs hdl hdn hm hmm hm1 hk2 hD hDd hDs hT2 hTs hT2d hT2s hTl t1 t2 o0 o1 hn0 qS p0 hJ0
      cbv
      repeat (first | (simp only [b1]; cbv) | simp only [b1] | (simp only [b2]; cbv) | simp only [b2] | (simp only [r1]; cbv) | simp only [r1] | (simp only [r2]; cbv) | simp only [r2] | (simp only [z10]; cbv) | simp only [z10] | (refine ⟨p1,p2,p3, ?_⟩; cbv) | (simp only [x1]; cbv) | simp only [x1] | (refine ⟨c1, ?_⟩; cbv) | (simp only [e1]; cbv) | simp only [e1] | (simp only [r3]; cbv) | simp only [r3])
      refine .mk (k2, T2) ⟨rfl, rfl, rfl, rfl, rfl⟩ ?_ ?_
      · exact hI2
      · exact hM2
theorem lnumbers_ret (x z : Int) (hx : 0 ≤ x ∧ x < 18446744073709551616) (hz : 0 ≤ z ∧ z ≤ 255) : RL 7 [.v (.int .u64 x), .v (.int .u8 z)] (pB true) := by
  obtain ⟨N, rfl⟩ := Int.eq_ofNat_of_zero_le hx.1
  exact numbers_ret N z (by omega) hz.1
end Go.Proofs.YtnhbboknffppiaaDoor
