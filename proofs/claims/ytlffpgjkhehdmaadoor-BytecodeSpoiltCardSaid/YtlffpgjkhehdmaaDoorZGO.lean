/- Own work: package codec: a number is read. -/
import Derived.Test.YtlffpgjkhehdmaaDoorZGL
import Derived.Test.YtlffpgjkhehdmaaDoorZGM
namespace Go.Proofs.YtlffpgjkhehdmaaDoor
open Go.RowKit
set_option maxRecDepth 100000
set_option linter.unusedSimpArgs false

theorem and_127 : ∀ c : Fin 256, (c.val &&& 127) = c.val % 128 := by decide
theorem band_127 (c : Nat) (h : c < 256) : stdE.band .u8 (c : Int) 127 = ((c % 128 : Nat) : Int) := by
  show IntKind.u8.wrap ((BitVec.ofInt 8 (c : Int)) &&& BitVec.ofInt 8 127).toNat = _
  rw [BitVec.toNat_and, BitVec.toNat_ofInt, wrap_u8_eq]
  have e : (BitVec.ofInt 8 127).toNat = 127 := by decide
  have e2 : ((2 : Nat) ^ 8 : Nat) = 256 := by decide
  rw [e, e2]
  have h2 := and_127 ⟨((c : Int) % ((256 : Nat) : Int)).toNat, by omega⟩
  simp only at h2
  rw [h2]
  omega
theorem shl_128 (x i : Nat) (hi : i ≤ 9) (hx : x * 128 ^ i < 18446744073709551616) : stdE.shl .u64 (x : Int) ((7 * i : Nat) : Int) = ((x * 128 ^ i : Nat) : Int) := by
  show IntKind.u64.wrap ((x : Int) * 2 ^ (min ((7 * i : Nat) : Int).toNat IntKind.u64.bits)) = _
  have e1 : min ((7 * i : Nat) : Int).toNat IntKind.u64.bits = 7 * i := by
    have : IntKind.u64.bits = 64 := rfl
    rw [this]; omega
  have e2 : ((2 : Int) ^ (7 * i)) = ((128 ^ i : Nat) : Int) := by
    rw [Int.pow_mul]
    have : ((2 : Int) ^ 7) = ((128 : Nat) : Int) := by decide
    rw [this, ← Int.natCast_pow]
  rw [e1, e2, ← Int.natCast_mul, wrap_u64_eq]
  omega
theorem or_add (a x i : Nat) (ha : a < 128 ^ i) (_hi : i ≤ 9) (hx : x * 128 ^ i < 18446744073709551616) (hs : a + x * 128 ^ i < 18446744073709551616) : stdE.bor .u64 (a : Int) ((x * 128 ^ i : Nat) : Int) = ((a + x * 128 ^ i : Nat) : Int) := by
  show IntKind.u64.wrap ((BitVec.ofInt 64 (a : Int)) ||| BitVec.ofInt 64 ((x * 128 ^ i : Nat) : Int)).toNat = _
  have e2 : ((2 : Nat) ^ 64 : Nat) = 18446744073709551616 := by decide
  rw [BitVec.toNat_or, BitVec.toNat_ofInt, BitVec.toNat_ofInt, e2]
  have u1 : ((a : Int) % ((18446744073709551616 : Nat) : Int)).toNat = a := by omega
  have u2 : (((x * 128 ^ i : Nat) : Int) % ((18446744073709551616 : Nat) : Int)).toNat = x * 128 ^ i := by omega
  rw [u1, u2]
  have e7 : (128 : Nat) ^ i = 2 ^ (7 * i) := by rw [Nat.pow_mul]
  have h := Nat.two_pow_add_eq_or_of_lt (b := a) (i := 7 * i) (by rw [← e7]; exact ha) x
  rw [Nat.or_comm, Nat.mul_comm x, e7, ← h, wrap_u64_eq]
  rw [Nat.mul_comm x, e7] at hs
  omega
/-- what number answers -/
def numP (s : ByteArray) : Nat × Nat := (numF 0 0 s.data.toList).getD (0, 0)
def pNum (s : ByteArray) : PV := .tup [cU (numP s).1, cI (numP s).2]
structure NmI (s : ByteArray) (y : Int × Int) : Prop where
  i0 : 0 ≤ y.2
  i1 : y.2 ≤ 10
  i2 : y.2 ≤ s.size
  a0 : 0 ≤ y.1
  a1 : y.1.toNat < 128 ^ y.2.toNat
  st : numF y.2.toNat y.1.toNat (s.data.toList.drop y.2.toNat) = numF 0 0 s.data.toList
theorem acc_next {a i c : Nat} (ha : a < 128 ^ i) : a + (c % 128) * 128 ^ i < 128 ^ (i + 1) := by
  have h1 : c % 128 < 128 := Nat.mod_lt _ (by omega)
  have h2 : (c % 128) * 128 ^ i ≤ 127 * 128 ^ i := Nat.mul_le_mul_right _ (by omega)
  rw [Nat.pow_succ]
  omega
theorem acc_small {a i c : Nat} (ha : a < 128 ^ i) (hi : i ≤ 9) (h9 : ¬ (i = 9 ∧ 1 < c)) (hc : c < 256) : a + (c % 128) * 128 ^ i < 18446744073709551616 := by
  by_cases e : i = 9
  · subst e
    have e9 : (128 : Nat) ^ 9 = 9223372036854775808 := by decide
    rw [e9] at ha ⊢
    have : c % 128 ≤ 1 := by omega
    have : c % 128 * 9223372036854775808 ≤ 1 * 9223372036854775808 := Nat.mul_le_mul_right _ this
    omega
  · have h1 := acc_next (c := c) ha
    have h2 : (128 : Nat) ^ (i + 1) ≤ 128 ^ 9 := Nat.pow_le_pow_right (by omega) (by omega)
    have e9 : (128 : Nat) ^ 9 = 9223372036854775808 := by decide
    omega
set_option maxHeartbeats 2000000 in
theorem number_p (s : ByteArray) (_hs : s.size ≤ 1000000000) : CV 67 [cS s] (pNum s) := by
  obtain ⟨q, hq⟩ : ∃ q, pNum s = q := ⟨_, rfl⟩
  rw [hq]
  have hx0 : NmI s (0, 0) := ⟨Int.le_refl _, by decide, Int.natCast_nonneg _, Int.le_refl _, by decide, rfl⟩
  obtain ⟨μ, hμ⟩ : ∃ μ : Int → Nat, ∀ i, μ i = 20 - i.toNat := ⟨_, fun _ => rfl⟩
  have hnone : numF 0 0 s.data.toList = none → q = .tup [cU 0, cI 0] := fun h => by rw [← hq]; unfold pNum numP; rw [h]; rfl
  have hsome : ∀ n k : Nat, numF 0 0 s.data.toList = some (n, k) → q = .tup [cU n, cI k] := fun n k h => by rw [← hq]; unfold pNum numP; rw [h]; rfl
  obtain ⟨L, hL⟩ : ∃ L, s.data.toList = L := ⟨_, rfl⟩
  have hLn : L.length = s.size := by rw [← hL]; rfl
  obtain ⟨n, hn⟩ : ∃ n : Int, ((s.size : Nat) : Int) = n := ⟨_, rfl⟩
  refine ret_by tyT_ok c0_gr mixed (fun _ => 0) Tryd.func67 rfl (by kernel_rfl) (by kernel_rfl) rfl fun P G E hc hE => ?_
  have elt : ∀ a b, E.lti a b = decide (a < b) := fun a b => by rw [hE]; rfl
  have eple : ∀ a b, a ≤ b → E.ple a b := fun a b h => by rw [hE]; exact h
  have esz : E.size s = n := by rw [hE]; exact hn
  have eget : ∀ (i : Int) (c : UInt8), L[i.toNat]? = some c → E.get s (E.nat i) = some (c.toNat : Int) := fun i c h => by
    rw [hE]
    show (s.data.toList[i.toNat]?).map _ = _
    rw [hL, h]; rfl
  have eadd : ∀ a b : Int, -1000000 ≤ a → a ≤ 1000000 → -1000000 ≤ b → b ≤ 1000000 → E.wadd .i64 a b = a + b := fun a b h0 h1 h2 h3 => by rw [hE]; exact wrap_i64_in (by omega) (by omega)
  have emul : ∀ a b : Int, a * b ≤ 1000000 → 0 ≤ a * b → E.wmul .i64 a b = a * b := fun a b h0 h1 => by rw [hE]; exact wrap_i64_in (by omega) (by omega)
  have eband : ∀ c : Nat, c < 256 → E.band .u8 (c : Int) 127 = ((c % 128 : Nat) : Int) := fun c h => by rw [hE]; exact band_127 c h
  have ewr : ∀ n : Int, 0 ≤ n → n < 18446744073709551616 → E.wrap .u64 n = n := fun n h h' => by rw [hE]; show IntKind.u64.wrap n = n; rw [wrap_u64_eq]; omega
  have eshl : ∀ x i : Nat, i ≤ 9 → x * 128 ^ i < 18446744073709551616 → E.shl .u64 (x : Int) ((7 * i : Nat) : Int) = ((x * 128 ^ i : Nat) : Int) := fun x i h1 h2 => by rw [hE]; exact shl_128 x i h1 h2
  have ebor : ∀ a x i : Nat, a < 128 ^ i → i ≤ 9 → x * 128 ^ i < 18446744073709551616 → a + x * 128 ^ i < 18446744073709551616 → E.bor .u64 (a : Int) ((x * 128 ^ i : Nat) : Int) = ((a + x * 128 ^ i : Nat) : Int) := fun a x i h1 h2 h3 h4 => by rw [hE]; exact or_add a x i h1 h2 h3 h4
  -- one byte
  have hbyte : ∀ (a i : Int) (c : UInt8), NmI s (a, i) → L[i.toNat]? = some c → i ≤ 9 → ¬ (i = 9 ∧ 1 < c.toNat) → ∃ x si sh a' : Int, E.band .u8 (c.toNat : Int) 127 = x ∧ E.wrap .u64 x = x ∧ E.wmul .i64 7 i = si ∧ E.ple 0 si ∧ E.shl .u64 x si = sh ∧ E.bor .u64 a sh = a' ∧ 0 ≤ a' ∧ a'.toNat = a.toNat + c.toNat % 128 * 128 ^ i.toNat := fun a i c hI hc1 h9 hn9 => by
    have hi0 := hI.i0
    have ha0 := hI.a0
    have ha1 := hI.a1
    simp only at hi0 ha0 ha1
    have hcl := u8_lt c
    have hsm := acc_small (c := c.toNat) ha1 (by omega) (by omega) hcl
    have e1 : ((7 * i.toNat : Nat) : Int) = 7 * i := by omega
    have e2 : ((a.toNat : Nat) : Int) = a := by omega
    refine ⟨((c.toNat % 128 : Nat) : Int), 7 * i, ((c.toNat % 128 * 128 ^ i.toNat : Nat) : Int), ((a.toNat + c.toNat % 128 * 128 ^ i.toNat : Nat) : Int), eband _ hcl, ewr _ (by omega) (by omega), emul 7 i (by omega) (by omega), eple _ _ (by omega), ?_, ?_, Int.natCast_nonneg _, by omega⟩
    · rw [← e1]
      exact eshl _ _ (by omega) (by omega)
    · have := ebor a.toNat (c.toNat % 128) i.toNat ha1 (by omega) (by omega) hsm
      rw [e2] at this
      exact this
  clear hE eband emul ewr eshl ebor
  cbv
  refine loop_by 45 [0, 4, 5] 0 (fun y : Int × Int => [.p (cS s), .p (cU y.1), .p (cI y.2)]) (fun _ => []) (NmI s) (fun y => μ y.2) (0, 0) ⟨rfl, rfl, rfl, rfl, rfl⟩ hx0 ?_
  clear hx0
  rintro ⟨a, i⟩ hI
  replace hLn : L.length = s.size := hLn
  replace hn : ((s.size : Nat) : Int) = n := hn
  replace hL : s.data.toList = L := hL
  replace eget : ∀ (i : Int) (c : UInt8), L[i.toNat]? = some c → E.get s (E.nat i) = some (c.toNat : Int) := eget
  replace hsome : ∀ n k : Nat, numF 0 0 s.data.toList = some (n, k) → q = .tup [cU n, cI k] := hsome
  replace hnone : numF 0 0 s.data.toList = none → q = .tup [cU 0, cI 0] := hnone
  replace hbyte : ∀ (a i : Int) (c : UInt8), NmI s (a, i) → L[i.toNat]? = some c → i ≤ 9 → ¬ (i = 9 ∧ 1 < c.toNat) → ∃ x si sh a' : Int, E.band .u8 (c.toNat : Int) 127 = x ∧ E.wrap .u64 x = x ∧ E.wmul .i64 7 i = si ∧ E.ple 0 si ∧ E.shl .u64 x si = sh ∧ E.bor .u64 a sh = a' ∧ 0 ≤ a' ∧ a'.toNat = a.toNat + c.toNat % 128 * 128 ^ i.toNat := hbyte
  obtain ⟨i0, i1, i2, a0, a1, hst⟩ := id hI
  simp only at i0 i1 i2 a0 a1 hst
  rw [hL] at hst hnone hsome
  obtain ⟨R0, hR0⟩ : ∃ R, numF 0 0 L = R := ⟨_, rfl⟩
  rw [hR0] at hst hnone hsome
  have d1 := elt i n
  have d2 := elt i 10
  by_cases hi : i < n
  · rw [decide_eq_true hi] at d1
    by_cases h10 : i < 10
    · rw [decide_eq_true h10] at d2
      obtain ⟨c, hc1⟩ : ∃ c, L[i.toNat]? = some c := ⟨_, List.getElem?_eq_getElem (by omega)⟩
      obtain ⟨k1, k2⟩ := List.getElem?_eq_some_iff.1 hc1
      rw [List.drop_eq_getElem_cons k1, k2] at hst
      unfold numF at hst
      rw [if_neg (by omega)] at hst
      have hcl := u8_lt c
      have gg := eget i c hc1
      have p0 := eple 0 i i0
      obtain ⟨cv, hcv⟩ : ∃ x : Int, (c.toNat : Int) = x := ⟨_, rfl⟩
      rw [hcv] at gg
      have d4 := elt 1 cv
      have d5 := elt cv 128
      have d7 := elt 0 i
      by_cases h9 : i = 9 ∧ 1 < c.toNat
      · rw [if_pos (by omega)] at hst
        obtain rfl := hnone hst.symm
        have d3 : decide (i = 9) = true := decide_eq_true h9.1
        rw [decide_eq_true (by omega)] at d4
        clear hst hI hnone hsome hbyte eget h9
        cbv
        repeat (first | (simp only [esz]; cbv) | simp only [esz] | (simp only [d1]; cbv) | simp only [d1] | (simp only [d2]; cbv) | simp only [d2] | (refine ⟨p0,_,gg, ?_⟩; cbv) | (simp only [d3]; cbv) | simp only [d3] | (simp only [d4]; cbv) | simp only [d4])
      · rw [if_neg (by omega)] at hst
        obtain ⟨x, si, sh, a', y1, y2, y3, y4, y5, y6, y7, y8⟩ := hbyte a i c hI hc1 (by omega) h9
        rw [hcv] at y1
        obtain ⟨b9, hb9⟩ : ∃ b, decide (i = 9) = b := ⟨_, rfl⟩
        have h94 : b9 = true → E.lti 1 cv = false := fun h => by
          rw [h] at hb9
          have := of_decide_eq_true hb9
          rw [d4]
          exact decide_eq_false (by omega)
        by_cases hc128 : c.toNat < 128
        · rw [if_pos hc128] at hst
          rw [decide_eq_true (by omega)] at d5
          obtain ⟨b0, hb0⟩ : ∃ b, decide (cv = 0) = b := ⟨_, rfl⟩
          by_cases hz : c.toNat = 0 ∧ 0 < i.toNat
          · rw [if_pos hz] at hst
            obtain rfl := hnone hst.symm
            obtain rfl : b0 = true := by rw [← hb0]; exact decide_eq_true (by omega)
            rw [decide_eq_true (by omega)] at d7
            clear hst hI hnone hsome hbyte eget h9 d4
            cases b9
            · cbv
              repeat (first | (simp only [esz]; cbv) | simp only [esz] | (simp only [d1]; cbv) | simp only [d1] | (simp only [d2]; cbv) | simp only [d2] | (refine ⟨p0,_,gg, ?_⟩; cbv) | (simp only [hb9]; cbv) | simp only [hb9] | (simp only [y1]; cbv) | simp only [y1] | (simp only [y2]; cbv) | simp only [y2] | (simp only [y3]; cbv) | simp only [y3] | (refine ⟨y4, ?_⟩; cbv) | (simp only [y5]; cbv) | simp only [y5] | (simp only [y6]; cbv) | simp only [y6] | (simp only [d5]; cbv) | simp only [d5] | (simp only [hb0]; cbv) | simp only [hb0] | (simp only [d7]; cbv) | simp only [d7])
            · replace h94 := h94 rfl
              cbv
              repeat (first | (simp only [esz]; cbv) | simp only [esz] | (simp only [d1]; cbv) | simp only [d1] | (simp only [d2]; cbv) | simp only [d2] | (refine ⟨p0,_,gg, ?_⟩; cbv) | (simp only [hb9]; cbv) | simp only [hb9] | (simp only [h94]; cbv) | simp only [h94] | (simp only [y1]; cbv) | simp only [y1] | (simp only [y2]; cbv) | simp only [y2] | (simp only [y3]; cbv) | simp only [y3] | (refine ⟨y4, ?_⟩; cbv) | (simp only [y5]; cbv) | simp only [y5] | (simp only [y6]; cbv) | simp only [y6] | (simp only [d5]; cbv) | simp only [d5] | (simp only [hb0]; cbv) | simp only [hb0] | (simp only [d7]; cbv) | simp only [d7])
          · rw [if_neg hz] at hst
            obtain rfl := hsome _ _ hst.symm
            have ei := eadd i 1 (by omega) (by omega) (by omega) (by omega)
            have r1 : ((a.toNat + c.toNat * 128 ^ i.toNat : Nat) : Int) = a' := by
              rw [Nat.mod_eq_of_lt hc128] at y8
              omega
            have r2 : ((i.toNat + 1 : Nat) : Int) = E.wadd .i64 i 1 := by rw [ei]; omega
            rw [r1, r2]
            have h07 : b0 = true → E.lti 0 i = false := fun h => by
              rw [h] at hb0
              have := of_decide_eq_true hb0
              rw [d7]
              exact decide_eq_false (by omega)
            clear hst hI hnone hsome hbyte eget h9 d4 d7 r1 r2 ei
            cases b9
            · cases b0
              · cbv
                repeat (first | (simp only [esz]; cbv) | simp only [esz] | (simp only [d1]; cbv) | simp only [d1] | (simp only [d2]; cbv) | simp only [d2] | (refine ⟨p0,_,gg, ?_⟩; cbv) | (simp only [hb9]; cbv) | simp only [hb9] | (simp only [y1]; cbv) | simp only [y1] | (simp only [y2]; cbv) | simp only [y2] | (simp only [y3]; cbv) | simp only [y3] | (refine ⟨y4, ?_⟩; cbv) | (simp only [y5]; cbv) | simp only [y5] | (simp only [y6]; cbv) | simp only [y6] | (simp only [d5]; cbv) | simp only [d5] | (simp only [hb0]; cbv) | simp only [hb0])
              · replace h07 := h07 rfl
                cbv
                repeat (first | (simp only [esz]; cbv) | simp only [esz] | (simp only [d1]; cbv) | simp only [d1] | (simp only [d2]; cbv) | simp only [d2] | (refine ⟨p0,_,gg, ?_⟩; cbv) | (simp only [hb9]; cbv) | simp only [hb9] | (simp only [y1]; cbv) | simp only [y1] | (simp only [y2]; cbv) | simp only [y2] | (simp only [y3]; cbv) | simp only [y3] | (refine ⟨y4, ?_⟩; cbv) | (simp only [y5]; cbv) | simp only [y5] | (simp only [y6]; cbv) | simp only [y6] | (simp only [d5]; cbv) | simp only [d5] | (simp only [hb0]; cbv) | simp only [hb0] | (simp only [h07]; cbv) | simp only [h07])
            · replace h94 := h94 rfl
              cases b0
              · cbv
                repeat (first | (simp only [esz]; cbv) | simp only [esz] | (simp only [d1]; cbv) | simp only [d1] | (simp only [d2]; cbv) | simp only [d2] | (refine ⟨p0,_,gg, ?_⟩; cbv) | (simp only [hb9]; cbv) | simp only [hb9] | (simp only [h94]; cbv) | simp only [h94] | (simp only [y1]; cbv) | simp only [y1] | (simp only [y2]; cbv) | simp only [y2] | (simp only [y3]; cbv) | simp only [y3] | (refine ⟨y4, ?_⟩; cbv) | (simp only [y5]; cbv) | simp only [y5] | (simp only [y6]; cbv) | simp only [y6] | (simp only [d5]; cbv) | simp only [d5] | (simp only [hb0]; cbv) | simp only [hb0])
              · replace h07 := h07 rfl
                cbv
                repeat (first | (simp only [esz]; cbv) | simp only [esz] | (simp only [d1]; cbv) | simp only [d1] | (simp only [d2]; cbv) | simp only [d2] | (refine ⟨p0,_,gg, ?_⟩; cbv) | (simp only [hb9]; cbv) | simp only [hb9] | (simp only [h94]; cbv) | simp only [h94] | (simp only [y1]; cbv) | simp only [y1] | (simp only [y2]; cbv) | simp only [y2] | (simp only [y3]; cbv) | simp only [y3] | (refine ⟨y4, ?_⟩; cbv) | (simp only [y5]; cbv) | simp only [y5] | (simp only [y6]; cbv) | simp only [y6] | (simp only [d5]; cbv) | simp only [d5] | (simp only [hb0]; cbv) | simp only [hb0] | (simp only [h07]; cbv) | simp only [h07])
        · rw [if_neg hc128] at hst
          rw [decide_eq_false (by omega)] at d5
          have ei := eadd i 1 (by omega) (by omega) (by omega) (by omega)
          have hm : c.toNat % 128 = c.toNat - 128 := by omega
          have e1 : (i + 1).toNat = i.toNat + 1 := by omega
          have hI2 : NmI s (a', E.wadd .i64 i 1) := by
            rw [ei]
            refine ⟨by simp only; omega, by simp only; omega, by simp only; omega, y7, ?_, ?_⟩
            · simp only
              rw [e1, y8]
              exact acc_next a1
            · simp only
              rw [e1, hL, y8, hm, hR0]
              exact hst
          have hM2 : μ (E.wadd .i64 i 1) < μ i := by rw [hμ, hμ, ei]; omega
          clear hst hI hnone hsome hbyte eget h9 d4 d7 ei e1
          cases b9
          · cbv
            repeat (first | (simp only [esz]; cbv) | simp only [esz] | (simp only [d1]; cbv) | simp only [d1] | (simp only [d2]; cbv) | simp only [d2] | (refine ⟨p0,_,gg, ?_⟩; cbv) | (simp only [hb9]; cbv) | simp only [hb9] | (simp only [y1]; cbv) | simp only [y1] | (simp only [y2]; cbv) | simp only [y2] | (simp only [y3]; cbv) | simp only [y3] | (refine ⟨y4, ?_⟩; cbv) | (simp only [y5]; cbv) | simp only [y5] | (simp only [y6]; cbv) | simp only [y6] | (simp only [d5]; cbv) | simp only [d5])
            refine .mk (a', E.wadd .i64 i 1) ⟨rfl, rfl, rfl, rfl, rfl⟩ ?_ ?_
            · exact hI2
            · exact hM2
          · replace h94 := h94 rfl
            cbv
            repeat (first | (simp only [esz]; cbv) | simp only [esz] | (simp only [d1]; cbv) | simp only [d1] | (simp only [d2]; cbv) | simp only [d2] | (refine ⟨p0,_,gg, ?_⟩; cbv) | (simp only [hb9]; cbv) | simp only [hb9] | (simp only [h94]; cbv) | simp only [h94] | (simp only [y1]; cbv) | simp only [y1] | (simp only [y2]; cbv) | simp only [y2] | (simp only [y3]; cbv) | simp only [y3] | (refine ⟨y4, ?_⟩; cbv) | (simp only [y5]; cbv) | simp only [y5] | (simp only [y6]; cbv) | simp only [y6] | (simp only [d5]; cbv) | simp only [d5])
            refine .mk (a', E.wadd .i64 i 1) ⟨rfl, rfl, rfl, rfl, rfl⟩ ?_ ?_
            · exact hI2
            · exact hM2
    · rw [decide_eq_false h10] at d2
      have e10 : i.toNat = 10 := by omega
      have hnn : numF i.toNat a.toNat (L.drop i.toNat) = none := by
        cases hd : L.drop i.toNat with
        | nil => rfl
        | cons c r => unfold numF; rw [if_pos (by omega)]
      rw [hnn] at hst
      obtain rfl := hnone hst.symm
      clear hst hI hnone hsome hbyte eget
      cbv
      repeat (first | (simp only [esz]; cbv) | simp only [esz] | (simp only [d1]; cbv) | simp only [d1] | (simp only [d2]; cbv) | simp only [d2])
  · rw [decide_eq_false hi] at d1
    have hnn : numF i.toNat a.toNat (L.drop i.toNat) = none := by
      rw [List.drop_eq_nil_of_le (by omega)]
      rfl
    rw [hnn] at hst
    obtain rfl := hnone hst.symm
    clear hst hI hnone hsome hbyte eget
    cbv
    repeat (first | (simp only [esz]; cbv) | simp only [esz] | (simp only [d1]; cbv) | simp only [d1])
end Go.Proofs.YtlffpgjkhehdmaaDoor

/- Own work: package codec: what a Reader reads. -/
namespace Go.Proofs.YtlffpgjkhehdmaaDoor
open Go.RowKit
set_option maxRecDepth 100000
set_option linter.unusedSimpArgs false

/-- a reader's block -/
def rH (d : ByteArray) (st : RS) : AH := [some (.box [.p (cS d), .p (cI st.at_), .p (cI st.err)] 92 none)]
abbrev rB (d : ByteArray) (a e : Int) (g : Option Nat) : Option ABlk := some (.box [.p (cS d), .p (cI a), .p (cI e)] 92 g)
theorem fail_r (d : ByteArray) (a e e2 : Int) : CM 69 [.own 0 0, .p (cI e2)] [rB d a e none] (.p (.tup [])) [rB d a e2 none] := by
  refine retm_by1 tyT_ok mixed (fun _ => 0) Tryd.func69 rfl (by kernel_rfl) (by kernel_rfl) rfl fun P G E hc hM hE t0 => ?_
  cbv
  all_goals trivial
theorem rest_list (d : ByteArray) (st : RS) : (d.extract st.at_ d.size).data.toList = restL d st := by
  rw [ba_ext]
  unfold restL
  refine List.take_of_length_le ?_
  rw [List.length_drop, ba_len]
  exact Nat.le_refl _
theorem rest_r (d : ByteArray) (st : RS) (hl : st.at_ ≤ d.size) (hd : d.size ≤ 1000000000) : CM 68 [.own 0 0] (rH d st) (.p (cS (d.extract st.at_ d.size))) (rH d st) := by
  unfold rH
  obtain ⟨O, hO⟩ : ∃ O, d.extract st.at_ d.size = O := ⟨_, rfl⟩
  obtain ⟨a, ha⟩ : ∃ a : Int, ((st.at_ : Nat) : Int) = a := ⟨_, rfl⟩
  obtain ⟨n, hn⟩ : ∃ a : Int, ((d.size : Nat) : Int) = a := ⟨_, rfl⟩
  rw [hO, ha]
  refine retm_by1 tyT_ok mixed (fun n => match n with | 1 => 17 | 3 => 9 | _ => 0) Tryd.func68 rfl (by kernel_rfl) (by kernel_rfl) rfl fun P G E hc hM hE t0 => ?_
  have d1 : E.lti a 0 = false := by rw [hE]; exact decide_eq_false (by omega)
  have z1 : E.size d = n := by rw [hE]; exact hn
  have d2 : E.lti n a = false := by rw [hE]; exact decide_eq_false (by omega)
  have p1 : E.ple 0 a := by rw [hE]; show (0 : Int) ≤ a; omega
  have p2 : E.ple a n := by rw [hE]; show a ≤ n; omega
  have p3 : E.ple n n := by rw [hE]; show n ≤ n; omega
  have x1 : E.ext d (E.nat a) (E.nat n) = O := by
    rw [hE]
    show d.extract a.toNat n.toNat = O
    rw [show a.toNat = st.at_ by omega, show n.toNat = d.size by omega, hO]
  clear hO ha hn hE hl hd
  cbv
  repeat (first | (simp only [d1]; cbv) | simp only [d1] | (simp only [z1]; cbv) | simp only [z1] | (simp only [d2]; cbv) | simp only [d2] | (refine ⟨p1,p2,p3, ?_⟩; cbv) | (simp only [x1]; cbv) | simp only [x1])
  all_goals trivial
theorem rUint_le {d : ByteArray} {st : RS} (hl : st.at_ ≤ d.size) : (rUint d st).2.at_ ≤ d.size := by
  rcases Classical.em ((rUint d st).2.err = 0) with h | h
  · exact (rUint_sound hl h).1.le
  · unfold rUint at h ⊢
    split
    · rename_i h0
      rw [if_pos h0] at h
      cases hn : numF 0 0 (restL d st) with
      | none => exact hl
      | some nk => rw [hn] at h; exact absurd rfl h
    · exact hl
theorem numP_rest (d : ByteArray) (st : RS) : pNum (d.extract st.at_ d.size) = .tup [cU (((numF 0 0 (restL d st)).getD (0, 0)).1 : Nat), cI (((numF 0 0 (restL d st)).getD (0, 0)).2 : Nat)] := by
  unfold pNum numP
  rw [rest_list]
theorem numF_k {l : List UInt8} {n k : Nat} (h : numF 0 0 l = some (n, k)) : 0 < k ∧ k ≤ l.length ∧ n < 18446744073709551616 := by
  obtain ⟨m, r, h1, _, h3, h4, _, h6⟩ := numF_sound _ _ _ _ _ h
  have := natB_pos m
  rw [h1, List.length_append]
  omega
set_option maxHeartbeats 1000000 in
theorem uint_rd (d : ByteArray) (st : RS) (hl : st.at_ ≤ d.size) (hd : d.size ≤ 1000000000) : CM 81 [.own 0 0] (rH d st) (.p (cU ((rUint d st).1 : Nat))) (rH d (rUint d st).2) := by
  have r1 := rest_r d st hl hd
  have r2 := number_p (d.extract st.at_ d.size) (by rw [ByteArray.size_extract]; omega)
  rw [numP_rest] at r2
  have r3 := fail_r d st.at_ st.err 3
  have hrl := rest_len d st
  unfold rUint
  obtain ⟨O, hO⟩ : ∃ O, d.extract st.at_ d.size = O := ⟨_, rfl⟩
  rw [hO] at r1 r2
  unfold rH at r1 ⊢
  obtain ⟨a, ha⟩ : ∃ a : Int, ((st.at_ : Nat) : Int) = a := ⟨_, rfl⟩
  rw [ha] at r1 r3 ⊢
  obtain ⟨e, he⟩ : ∃ e : Int, st.err = e := ⟨_, rfl⟩
  rw [he] at r1 r3 ⊢
  by_cases h0 : e = 0
  · subst h0
    rw [if_pos rfl]
    have u0 : decide ((0 : Int) = 0) = true := rfl
    cases hn : numF 0 0 (restL d st) with
    | none =>
      rw [hn] at r2
      simp only [Option.getD_none] at r2 ⊢
      rw [ha]
      refine retm_by1 tyT_ok mixed (fun _ => 0) Tryd.func81 rfl (by kernel_rfl) (by kernel_rfl) rfl fun P G E hc hM hE t0 => ?_
      replace r1 := hM _ _ _ _ _ r1
      replace r2 := hc _ _ _ r2
      replace r3 := hM _ _ _ _ _ r3
      clear hO hn hrl hE
      cbv
      refine .mk _ _ (Wk.refl _ _) [0] _ _ _ _ r1 rfl rfl rfl ?_
      cbv
      repeat (first | (refine ⟨_, r2, ?_⟩; cbv))
      refine .mk _ _ (Wk.refl _ _) [0] _ _ _ _ r3 rfl rfl rfl ?_
      cbv
      all_goals trivial
    | some nk =>
      obtain ⟨n, k⟩ := nk
      obtain ⟨k0, k1, _⟩ := numF_k hn
      rw [hn] at r2
      simp only [Option.getD_some] at r2 ⊢
      obtain ⟨kz, hkz⟩ : ∃ z : Int, ((k : Nat) : Int) = z := ⟨_, rfl⟩
      obtain ⟨nz, hnz⟩ : ∃ z : Int, ((n : Nat) : Int) = z := ⟨_, rfl⟩
      obtain ⟨az, haz⟩ : ∃ z : Int, ((st.at_ + k : Nat) : Int) = z := ⟨_, rfl⟩
      rw [hkz, hnz] at r2
      rw [hnz, haz]
      refine retm_by1 tyT_ok mixed (fun _ => 0) Tryd.func81 rfl (by kernel_rfl) (by kernel_rfl) rfl fun P G E hc hM hE t0 => ?_
      replace r1 := hM _ _ _ _ _ r1
      replace r2 := hc _ _ _ r2
      have z1 : decide (kz = 0) = false := decide_eq_false (by omega)
      have z2 : E.wadd .i64 a kz = az := by rw [hE]; show IntKind.i64.wrap (a + kz) = az; rw [wrap_i64_in (by omega) (by omega)]; omega
      clear hO hn hrl hE r3 ha hkz hnz haz
      cbv
      refine .mk _ _ (Wk.refl _ _) [0] _ _ _ _ r1 rfl rfl rfl ?_
      cbv
      repeat (first | (refine ⟨_, r2, ?_⟩; cbv) | (simp only [z1]; cbv) | simp only [z1] | (simp only [z2]; cbv) | simp only [z2])
      all_goals trivial
  · rw [if_neg h0]
    simp only [he, ha]
    refine retm_by1 tyT_ok mixed (fun _ => 0) Tryd.func81 rfl (by kernel_rfl) (by kernel_rfl) rfl fun P G E hc hM hE t0 => ?_
    have u0 : decide (e = 0) = false := decide_eq_false h0
    clear r1 r2 r3 hO hrl hE
    cbv
    repeat (first | (simp only [u0]; cbv) | simp only [u0])
    all_goals trivial
theorem int_rd (d : ByteArray) (st : RS) (hl : st.at_ ≤ d.size) (hd : d.size ≤ 1000000000) : CM 72 [.own 0 0] (rH d st) (.p (cI (rInt d st).1)) (rH d (rInt d st).2) := by
  have r1 := uint_rd d st hl hd
  have hu : (rUint d st).1 < 18446744073709551616 := by
    unfold rUint
    split
    · cases hn : numF 0 0 (restL d st) with
      | none => simp
      | some nk => exact (numF_k hn).2.2
    · simp
  unfold rInt
  simp only
  obtain ⟨st2, h2⟩ : ∃ x, (rUint d st).2 = x := ⟨_, rfl⟩
  obtain ⟨u, h1⟩ : ∃ x, (rUint d st).1 = x := ⟨_, rfl⟩
  rw [h1, h2] at r1
  rw [h1] at hu
  rw [h1, h2]
  obtain ⟨z, hz⟩ : ∃ z, unzz u = z := ⟨_, rfl⟩
  rw [hz]
  unfold unzz at hz
  obtain ⟨uz, huz⟩ : ∃ x : Int, ((u : Nat) : Int) = x := ⟨_, rfl⟩
  rw [huz] at r1 hz
  unfold rH at r1 ⊢
  generalize ((st.at_ : Nat) : Int) = a1 at *
  generalize ((st2.at_ : Nat) : Int) = a2 at *
  generalize st.err = e1 at *
  generalize st2.err = e2 at *
  refine retm_by1 tyT_ok mixed (fun _ => 0) Tryd.func72 rfl (by kernel_rfl) (by kernel_rfl) rfl fun P G E hc hM hE t0 => ?_
  replace r1 := hM _ _ _ _ _ r1
  have q1 : E.ple 0 1 := by rw [hE]; show (0 : Int) ≤ 1; omega
  have z1 : E.bxor .i64 (E.wrap .i64 (E.shr .u64 uz 1)) (E.wsub .i64 0 (E.wrap .i64 (E.band .u64 uz 1))) = z := by rw [hE]; exact hz
  clear hE hz h1 h2
  cbv
  refine .mk _ _ (Wk.refl _ _) [0] _ _ _ _ r1 rfl rfl rfl ?_
  cbv
  repeat (first | (refine ⟨q1, ?_⟩; cbv) | (simp only [z1]; cbv) | simp only [z1])
  all_goals trivial
theorem next_rd (d : ByteArray) (st : RS) (hl : st.at_ ≤ d.size) (hd : d.size ≤ 1000000000) : CM 71 [.own 0 0] (rH d st) (.p (cI (rInt d st).1)) (rH d (rInt d st).2) := by
  have r1 := int_rd d st hl hd
  generalize (rInt d st).1 = z at *
  generalize (rInt d st).2 = st2 at *
  unfold rH at r1 ⊢
  generalize ((st.at_ : Nat) : Int) = a1 at *
  generalize ((st2.at_ : Nat) : Int) = a2 at *
  generalize st.err = e1 at *
  generalize st2.err = e2 at *
  refine retm_by1 tyT_ok mixed (fun _ => 0) Tryd.func71 rfl (by kernel_rfl) (by kernel_rfl) rfl fun P G E hc hM hE t0 => ?_
  replace r1 := hM _ _ _ _ _ r1
  clear hE
  cbv
  refine .mk _ _ (Wk.refl _ _) [0] _ _ _ _ r1 rfl rfl rfl ?_
  cbv
  all_goals trivial
set_option maxHeartbeats 1000000 in
theorem count_rd (d : ByteArray) (most : Nat) (hmo : most ≤ 1000000000) (st : RS) (hl : st.at_ ≤ d.size) (hd : d.size ≤ 1000000000) : CM 48 [.own 0 0, .p (cI most)] (rH d st) (.p (cI ((rCount d most st).1 : Nat))) (rH d (rCount d most st).2) := by
  have r1 := rest_r d st hl hd
  have r2 := number_p (d.extract st.at_ d.size) (by rw [ByteArray.size_extract]; omega)
  rw [numP_rest] at r2
  have r3 := fail_r d st.at_ st.err 3
  have r5 := fail_r d st.at_ st.err 5
  have hrl := rest_len d st
  unfold rCount
  obtain ⟨O, hO⟩ : ∃ O, d.extract st.at_ d.size = O := ⟨_, rfl⟩
  rw [hO] at r1 r2
  unfold rH at r1 ⊢
  obtain ⟨a, ha⟩ : ∃ a : Int, ((st.at_ : Nat) : Int) = a := ⟨_, rfl⟩
  rw [ha] at r1 r3 r5 ⊢
  obtain ⟨e, he⟩ : ∃ e : Int, st.err = e := ⟨_, rfl⟩
  rw [he] at r1 r3 r5 ⊢
  obtain ⟨mz, hmz⟩ : ∃ e : Int, ((most : Nat) : Int) = e := ⟨_, rfl⟩
  rw [hmz]
  by_cases h0 : e = 0
  · subst h0
    rw [if_pos rfl]
    cases hn : numF 0 0 (restL d st) with
    | none =>
      rw [hn] at r2
      simp only [Option.getD_none] at r2 ⊢
      rw [ha]
      refine retm_by1 tyT_ok mixed (fun _ => 0) Tryd.func48 rfl (by kernel_rfl) (by kernel_rfl) rfl fun P G E hc hM hE t0 => ?_
      replace r1 := hM _ _ _ _ _ r1
      replace r2 := hc _ _ _ r2
      replace r3 := hM _ _ _ _ _ r3
      clear hO hn hrl hE
      cbv
      refine .mk _ _ (Wk.refl _ _) [0] _ _ _ _ r1 rfl rfl rfl ?_
      cbv
      repeat (first | (refine ⟨_, r2, ?_⟩; cbv))
      refine .mk _ _ (Wk.refl _ _) [0] _ _ _ _ r3 rfl rfl rfl ?_
      cbv
      all_goals trivial
    | some nk =>
      obtain ⟨n, k⟩ := nk
      obtain ⟨k0, k1, k2⟩ := numF_k hn
      rw [hn] at r2
      simp only [Option.getD_some] at r2 ⊢
      obtain ⟨kz, hkz⟩ : ∃ z : Int, ((k : Nat) : Int) = z := ⟨_, rfl⟩
      obtain ⟨nz, hnz⟩ : ∃ z : Int, ((n : Nat) : Int) = z := ⟨_, rfl⟩
      rw [hkz, hnz] at r2
      have z1 : decide (kz = 0) = false := decide_eq_false (by omega)
      by_cases hm : most < n
      · rw [if_pos hm]
        simp only [ha]
        refine retm_by1 tyT_ok mixed (fun _ => 0) Tryd.func48 rfl (by kernel_rfl) (by kernel_rfl) rfl fun P G E hc hM hE t0 => ?_
        replace r1 := hM _ _ _ _ _ r1
        replace r2 := hc _ _ _ r2
        replace r5 := hM _ _ _ _ _ r5
        have z2 : E.max mz 0 = mz := by rw [hE]; exact if_neg (by omega)
        have z3 : E.wrap .u64 mz = mz := by rw [hE]; show IntKind.u64.wrap mz = mz; rw [wrap_u64_eq]; omega
        have z4 : E.lti mz nz = true := by rw [hE]; exact decide_eq_true (by omega)
        clear hO hn hrl hE r3 ha hkz hnz hm
        cbv
        refine .mk _ _ (Wk.refl _ _) [0] _ _ _ _ r1 rfl rfl rfl ?_
        cbv
        repeat (first | (refine ⟨_, r2, ?_⟩; cbv) | (simp only [z1]; cbv) | simp only [z1] | (simp only [z2]; cbv) | simp only [z2] | (simp only [z3]; cbv) | simp only [z3] | (simp only [z4]; cbv) | simp only [z4])
        refine .mk _ _ (Wk.refl _ _) [0] _ _ _ _ r5 rfl rfl rfl ?_
        cbv
        all_goals trivial
      · rw [if_neg hm]
        simp only
        obtain ⟨az, haz⟩ : ∃ z : Int, ((st.at_ + k : Nat) : Int) = z := ⟨_, rfl⟩
        rw [hnz, haz]
        refine retm_by1 tyT_ok mixed (fun _ => 0) Tryd.func48 rfl (by kernel_rfl) (by kernel_rfl) rfl fun P G E hc hM hE t0 => ?_
        replace r1 := hM _ _ _ _ _ r1
        replace r2 := hc _ _ _ r2
        have z2 : E.max mz 0 = mz := by rw [hE]; exact if_neg (by omega)
        have z3 : E.wrap .u64 mz = mz := by rw [hE]; show IntKind.u64.wrap mz = mz; rw [wrap_u64_eq]; omega
        have z4 : E.lti mz nz = false := by rw [hE]; exact decide_eq_false (by omega)
        have z5 : E.wadd .i64 a kz = az := by rw [hE]; show IntKind.i64.wrap (a + kz) = az; rw [wrap_i64_in (by omega) (by omega)]; omega
        have z6 : E.wrap .i64 nz = nz := by rw [hE]; exact wrap_i64_in (by omega) (by omega)
        clear hO hn hrl hE r3 r5 ha hkz hnz haz hm
        cbv
        refine .mk _ _ (Wk.refl _ _) [0] _ _ _ _ r1 rfl rfl rfl ?_
        cbv
        repeat (first | (refine ⟨_, r2, ?_⟩; cbv) | (simp only [z1]; cbv) | simp only [z1] | (simp only [z2]; cbv) | simp only [z2] | (simp only [z3]; cbv) | simp only [z3] | (simp only [z4]; cbv) | simp only [z4] | (simp only [z5]; cbv) | simp only [z5] | (simp only [z6]; cbv) | simp only [z6])
        all_goals trivial
  · rw [if_neg h0]
    simp only [he, ha]
    refine retm_by1 tyT_ok mixed (fun _ => 0) Tryd.func48 rfl (by kernel_rfl) (by kernel_rfl) rfl fun P G E hc hM hE t0 => ?_
    have u0 : decide (e = 0) = false := decide_eq_false h0
    clear r1 r2 r3 r5 hO hrl hE
    cbv
    repeat (first | (simp only [u0]; cbv) | simp only [u0])
    all_goals trivial
set_option maxHeartbeats 1000000 in
theorem str_rd (d : ByteArray) (st : RS) (hl : st.at_ ≤ d.size) (hd : d.size ≤ 1000000000) : CM 70 [.own 0 0] (rH d st) (.p (cS (rStr d st).1)) (rH d (rStr d st).2) := by
  have r1 := rest_r d st hl hd
  have r2 := number_p (d.extract st.at_ d.size) (by rw [ByteArray.size_extract]; omega)
  rw [numP_rest] at r2
  have r3 := fail_r d st.at_ st.err 3
  have hrl := rest_len d st
  have hOl := rest_list d st
  unfold rStr
  obtain ⟨O, hO⟩ : ∃ O, d.extract st.at_ d.size = O := ⟨_, rfl⟩
  rw [hO] at r1 r2 hOl
  unfold rH at r1 ⊢
  obtain ⟨a, ha⟩ : ∃ a : Int, ((st.at_ : Nat) : Int) = a := ⟨_, rfl⟩
  rw [ha] at r1 r3 ⊢
  obtain ⟨e, he⟩ : ∃ e : Int, st.err = e := ⟨_, rfl⟩
  rw [he] at r1 r3 ⊢
  obtain ⟨E0, hE0⟩ : ∃ x, ofL [] = x := ⟨_, rfl⟩
  have hE0' : (⟨#[]⟩ : ByteArray) = E0 := hE0
  by_cases h0 : e = 0
  · subst h0
    rw [if_pos rfl]
    cases hn : numF 0 0 (restL d st) with
    | none =>
      rw [hn] at r2
      simp only [Option.getD_none] at r2 ⊢
      rw [ha, hE0, ← hE0']
      refine retm_by1 tyT_ok mixed (fun _ => 0) Tryd.func70 rfl (by kernel_rfl) (by kernel_rfl) rfl fun P G E hc hM hE t0 => ?_
      replace r1 := hM _ _ _ _ _ r1
      replace r2 := hc _ _ _ r2
      replace r3 := hM _ _ _ _ _ r3
      clear hO hn hrl hE hOl
      cbv
      refine .mk _ _ (Wk.refl _ _) [0] _ _ _ _ r1 rfl rfl rfl ?_
      cbv
      repeat (first | (refine ⟨_, r2, ?_⟩; cbv))
      refine .mk _ _ (Wk.refl _ _) [0] _ _ _ _ r3 rfl rfl rfl ?_
      cbv
      all_goals trivial
    | some nk =>
      obtain ⟨n, k⟩ := nk
      obtain ⟨k0, k1, k2⟩ := numF_k hn
      rw [hn] at r2
      simp only [Option.getD_some] at r2 ⊢
      obtain ⟨kz, hkz⟩ : ∃ z : Int, ((k : Nat) : Int) = z := ⟨_, rfl⟩
      obtain ⟨nz, hnz⟩ : ∃ z : Int, ((n : Nat) : Int) = z := ⟨_, rfl⟩
      rw [hkz, hnz] at r2
      have z1 : decide (kz = 0) = false := decide_eq_false (by omega)
      have hOs : O.size = (restL d st).length := by rw [← hOl]; rfl
      obtain ⟨oz, hoz⟩ : ∃ z : Int, ((O.size : Nat) : Int) = z := ⟨_, rfl⟩
      by_cases hm : (restL d st).length - k < n
      · rw [if_pos hm]
        simp only [ha]
        rw [hE0, ← hE0']
        refine retm_by1 tyT_ok mixed (fun _ => 0) Tryd.func70 rfl (by kernel_rfl) (by kernel_rfl) rfl fun P G E hc hM hE t0 => ?_
        replace r1 := hM _ _ _ _ _ r1
        replace r2 := hc _ _ _ r2
        replace r3 := hM _ _ _ _ _ r3
        have z2 : E.size O = oz := by rw [hE]; exact hoz
        have z3 : E.wsub .i64 oz kz = oz - kz := by rw [hE]; show IntKind.i64.wrap (oz - kz) = _; exact wrap_i64_in (by omega) (by omega)
        have z4 : E.wrap .u64 (oz - kz) = oz - kz := by rw [hE]; show IntKind.u64.wrap _ = _; rw [wrap_u64_eq]; omega
        have z5 : E.lti (oz - kz) nz = true := by rw [hE]; exact decide_eq_true (by omega)
        generalize oz - kz = dz at *
        clear hO hn hrl hE ha hkz hnz hm hoz hOs hOl
        cbv
        refine .mk _ _ (Wk.refl _ _) [0] _ _ _ _ r1 rfl rfl rfl ?_
        cbv
        repeat (first | (refine ⟨_, r2, ?_⟩; cbv) | (simp only [z1]; cbv) | simp only [z1] | (simp only [z2]; cbv) | simp only [z2] | (simp only [z3]; cbv) | simp only [z3] | (simp only [z4]; cbv) | simp only [z4] | (simp only [z5]; cbv) | simp only [z5])
        refine .mk _ _ (Wk.refl _ _) [0] _ _ _ _ r3 rfl rfl rfl ?_
        cbv
        all_goals trivial
      · rw [if_neg hm]
        simp only
        obtain ⟨az, haz⟩ : ∃ z : Int, ((st.at_ + (k + n) : Nat) : Int) = z := ⟨_, rfl⟩
        rw [haz]
        obtain ⟨S2, hS2⟩ : ∃ x, ofL (((restL d st).drop k).take n) = x := ⟨_, rfl⟩
        rw [hS2]
        refine retm_by1 tyT_ok mixed (fun _ => 0) Tryd.func70 rfl (by kernel_rfl) (by kernel_rfl) rfl fun P G E hc hM hE t0 => ?_
        replace r1 := hM _ _ _ _ _ r1
        replace r2 := hc _ _ _ r2
        have z2 : E.size O = oz := by rw [hE]; exact hoz
        have z3 : E.wsub .i64 oz kz = oz - kz := by rw [hE]; show IntKind.i64.wrap (oz - kz) = _; exact wrap_i64_in (by omega) (by omega)
        have z4 : E.wrap .u64 (oz - kz) = oz - kz := by rw [hE]; show IntKind.u64.wrap _ = _; rw [wrap_u64_eq]; omega
        have z5 : E.lti (oz - kz) nz = false := by rw [hE]; exact decide_eq_false (by omega)
        have z6 : E.wrap .i64 nz = nz := by rw [hE]; exact wrap_i64_in (by omega) (by omega)
        have z7 : E.wadd .i64 kz nz = kz + nz := by rw [hE]; exact wrap_i64_in (by omega) (by omega)
        have z8 : E.wadd .i64 a (kz + nz) = az := by rw [hE]; show IntKind.i64.wrap _ = az; rw [wrap_i64_in (by omega) (by omega)]; omega
        have q1 : E.ple 0 kz := by rw [hE]; show (0 : Int) ≤ kz; omega
        have q2 : E.ple kz (kz + nz) := by rw [hE]; show kz ≤ kz + nz; omega
        have q3 : E.ple (kz + nz) oz := by rw [hE]; show kz + nz ≤ oz; omega
        have q4 : E.ext O (E.nat kz) (E.nat (kz + nz)) = S2 := by
          rw [hE]
          show O.extract kz.toNat (kz + nz).toNat = S2
          rw [show kz.toNat = k by omega, show (kz + nz).toNat = k + n by omega, ← hS2]
          refine ba_list ?_
          rw [ba_ext, hOl, ofL_list, show k + n - k = n by omega]
        generalize oz - kz = dz at *
        generalize kz + nz = fz at *
        clear hO hn hrl hE ha hkz hnz hm hoz hOs hOl r3 haz hS2
        cbv
        refine .mk _ _ (Wk.refl _ _) [0] _ _ _ _ r1 rfl rfl rfl ?_
        cbv
        repeat (first | (refine ⟨_, r2, ?_⟩; cbv) | (simp only [z1]; cbv) | simp only [z1] | (simp only [z2]; cbv) | simp only [z2] | (simp only [z3]; cbv) | simp only [z3] | (simp only [z4]; cbv) | simp only [z4] | (simp only [z5]; cbv) | simp only [z5] | (simp only [z6]; cbv) | simp only [z6] | (simp only [z7]; cbv) | simp only [z7] | (simp only [z8]; cbv) | simp only [z8] | (refine ⟨q1,q2,q3, ?_⟩; cbv) | (simp only [q4]; cbv) | simp only [q4])
        all_goals trivial
  · rw [if_neg h0]
    simp only [he, ha]
    rw [hE0, ← hE0']
    refine retm_by1 tyT_ok mixed (fun _ => 0) Tryd.func70 rfl (by kernel_rfl) (by kernel_rfl) rfl fun P G E hc hM hE t0 => ?_
    have u0 : decide (e = 0) = false := decide_eq_false h0
    clear r1 r2 r3 hO hrl hE hOl
    cbv
    repeat (first | (simp only [u0]; cbv) | simp only [u0])
    all_goals trivial
theorem done_rd (d : ByteArray) (st : RS) : CM 50 [.own 0 0] (rH d st) (.p (cI (rDone d st))) (rH d st) := by
  unfold rDone rH
  obtain ⟨a, ha⟩ : ∃ a : Int, ((st.at_ : Nat) : Int) = a := ⟨_, rfl⟩
  obtain ⟨n, hn⟩ : ∃ a : Int, ((d.size : Nat) : Int) = a := ⟨_, rfl⟩
  obtain ⟨e, he⟩ : ∃ e : Int, st.err = e := ⟨_, rfl⟩
  rw [ha, he]
  by_cases h0 : e = 0
  · subst h0
    rw [if_pos rfl]
    by_cases hat : st.at_ = d.size
    · rw [if_pos hat]
      refine retm_by1 tyT_ok mixed (fun n => match n with | 3 => 10 | _ => 0) Tryd.func50 rfl (by kernel_rfl) (by kernel_rfl) rfl fun P G E hc hM hE t0 => ?_
      have z1 : E.size d = n := by rw [hE]; exact hn
      have z2 : decide (a = n) = true := decide_eq_true (by omega)
      clear hE
      cbv
      repeat (first | (simp only [z1]; cbv) | simp only [z1] | (simp only [z2]; cbv) | simp only [z2])
      all_goals trivial
    · rw [if_neg hat]
      refine retm_by1 tyT_ok mixed (fun n => match n with | 3 => 10 | _ => 0) Tryd.func50 rfl (by kernel_rfl) (by kernel_rfl) rfl fun P G E hc hM hE t0 => ?_
      have z1 : E.size d = n := by rw [hE]; exact hn
      have z2 : decide (a = n) = false := decide_eq_false (by omega)
      clear hE
      cbv
      repeat (first | (simp only [z1]; cbv) | simp only [z1] | (simp only [z2]; cbv) | simp only [z2])
      all_goals trivial
  · rw [if_neg h0]
    refine retm_by1 tyT_ok mixed (fun n => match n with | 3 => 10 | _ => 0) Tryd.func50 rfl (by kernel_rfl) (by kernel_rfl) rfl fun P G E hc hM hE t0 => ?_
    have u0 : decide (e = 0) = false := decide_eq_false h0
    clear hE
    cbv
    repeat (first | (simp only [u0]; cbv) | simp only [u0])
    all_goals trivial
end Go.Proofs.YtlffpgjkhehdmaaDoor
