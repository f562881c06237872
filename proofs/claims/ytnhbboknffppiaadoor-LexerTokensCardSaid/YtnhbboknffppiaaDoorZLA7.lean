/- Own work: package knapsackref25: point. -/
import Derived.Test.YtnhbboknffppiaaDoorZLA6
namespace Go.Proofs.YtnhbboknffppiaaDoor
open Go.RowKit
set_option maxRecDepth 100000
set_option linter.unusedSimpArgs false

/-- the bytes of a code point -/
def uB (n : Nat) : Bs := (Utf8.encode (n : Int)).data.toList
def bL (l : Bs) : ByteArray := ⟨l.toArray⟩
theorem bL_of (s : ByteArray) : bL s.data.toList = s := rfl
theorem bL_uB (n : Nat) : bL (uB n) = Utf8.encode (n : Int) := bL_of _
theorem hexv_lt (c : UInt8) : (hexv c).getD 0 ≤ 15 := by
  have key := List.all_eq_true.1 (show ((List.range 256).all fun n => decide ((hexv (UInt8.ofNat n)).getD 0 ≤ 15)) = true by decide +kernel) c.toNat (List.mem_range.2 c.toNat_lt)
  rw [UInt8.ofNat_toNat] at key
  exact of_decide_eq_true key
theorem hexN_snoc (u : Bs) (x : UInt8) : hexN (u ++ [x]) = 16 * hexN u + (hexv x).getD 0 := by
  unfold hexN
  rw [List.foldl_append]
  rfl
theorem hexN_lt : ∀ (k : Nat) (u : Bs), u.length ≤ k → hexN u < 16 ^ k := by
  intro k
  induction k with
  | zero =>
    intro u h
    have : u = [] := List.eq_nil_of_length_eq_zero (by omega)
    subst this
    decide
  | succ k ih =>
    intro u h
    rcases List.eq_nil_or_concat u with rfl | ⟨v, x, rfl⟩
    · exact Nat.pow_pos (by decide)
    · have h2 : v.length ≤ k := by
        rw [List.concat_eq_append, List.length_append, List.length_singleton] at h
        omega
      have h3 := ih v h2
      have h4 := hexv_lt x
      rw [List.concat_eq_append, hexN_snoc, Nat.pow_succ]
      omega
theorem hexI_some {c : UInt8} (h : isHex c = true) : hexI c = ((hexv c).getD 0 : Nat) := by
  unfold isHex at h
  unfold hexI
  cases hv : hexv c with
  | none => rw [hv] at h; cases h
  | some n => rfl
theorem hexI_none {c : UInt8} (h : isHex c = false) : hexI c = -1 := by
  unfold isHex at h
  unfold hexI
  cases hv : hexv c with
  | none => rfl
  | some n => rw [hv] at h; cases h
/-- what point returns: a text and a length -/
def ptR (s : ByteArray) (a : Int) : PV := match ptL uB (rst s (a + 1)) with
  | none => .tup [pS ⟨#[]⟩, pI 0]
  | some p => .tup [pS (bL p.1), pI ((s.size : Nat) - (p.2.length : Nat) - a)]
structure PtI (s : ByteArray) (n a : Int) (x : Int × Int) : Prop where
  j0 : a + 2 ≤ x.1
  j1 : x.1 ≤ n
  j2 : x.1 ≤ a + 9
  u : ∃ u : Bs, rst s (a + 2) = u ++ rst s x.1 ∧ (∀ c ∈ u, isHex c = true) ∧ (u.length : Int) = x.1 - a - 2 ∧ x.2 = (hexN u : Nat)
def ptE (u : Bs) : Bs → Option (Bs × Bs)
  | [] => none
  | d :: r' => if d = 125 ∧ 1 ≤ u.length ∧ u.length ≤ 6 ∧ ptOk (hexN u) = true then some (uB (hexN u), r') else none
theorem pt_u {s : ByteArray} {a : Int} {r u : Bs} {c : UInt8} {l : Bs} (h : rst s (a + 1) = 123 :: r) (hr : r = u ++ l) (hu : ∀ c ∈ u, isHex c = true) (hl : l = [] ∨ ∃ l', l = c :: l' ∧ isHex c = false) : ptL uB (rst s (a + 1)) = ptE u l := by
  have h4 := tw_app (p := isHex) u l hu (fun x hx => by
    rcases hl with rfl | ⟨l', rfl, hc⟩
    · cases hx
    · cases hx; exact hc)
  rw [h, ptL, if_pos rfl, hr, h4.1, h4.2]
  cases l <;> rfl
theorem pt_long {s : ByteArray} {a : Int} {r u l : Bs} {c : UInt8} (h : rst s (a + 1) = 123 :: r) (hr : r = u ++ c :: l) (hu : ∀ c ∈ u, isHex c = true) (hl : 7 ≤ u.length) : ptL uB (rst s (a + 1)) = none := by
  have hlen : 7 ≤ (r.takeWhile isHex).length := by
    obtain ⟨h1, h2, h3⟩ := tw_all (p := isHex) (c :: l)
    have h4 := tw_app (p := isHex) (u ++ (c :: l).takeWhile isHex) ((c :: l).dropWhile isHex) (fun x hx => by
      rcases List.mem_append.1 hx with hx | hx
      · exact hu x hx
      · exact h1 x hx) h2
    rw [List.append_assoc, h3, ← hr] at h4
    rw [h4.1, List.length_append]
    omega
  rw [h, ptL, if_pos rfl]
  cases r.dropWhile isHex with
  | nil => rfl
  | cons d r' => exact if_neg (fun h => by omega)
theorem wrap_i32_in {n : Int} (h0 : 0 ≤ n) (h1 : n < 2147483648) : IntKind.i32.wrap n = n := by
  simp [IntKind.wrap, IntKind.bits, IntKind.signed]
  split <;> omega
set_option maxHeartbeats 4000000 in
theorem point_ret (s : ByteArray) (a : Int) (h0 : 0 ≤ a) (h1 : a < (s.size : Nat)) (hs : s.size ≤ 100000000) : V0 67 [pS s, pI a] (ptR s a) := by
  obtain ⟨n, hn⟩ : ∃ n : Int, ((s.size : Nat) : Int) = n := ⟨_, rfl⟩
  rw [hn] at h1
  have hget : ∀ i : Int, 0 ≤ i → i < n → ∃ c, s.data.toList[i.toNat]? = some c := fun i hi0 hi1 => ⟨_, List.getElem?_eq_getElem (by show i.toNat < s.size; omega)⟩
  obtain ⟨a1, ha1⟩ : ∃ x : Int, a + 1 = x := ⟨_, rfl⟩
  rcases Classical.em (n ≤ a1) with hA | hA
  · have hr : ptR s a = .tup [pS ⟨#[]⟩, pI 0] := by
      unfold ptR
      rw [rst_end (by omega)]
      rfl
    rw [hr]
    refine ret_by tyT_ok g0_gr mixed (fun _ => 0) Tryd.func67 rfl (by kernel_rfl) (by kernel_rfl) rfl fun P G E hc hE => ?_
    have z1 : E.size s = n := by rw [hE]; exact hn
    have elt : ∀ a b, E.lti a b = decide (a < b) := fun a b => by rw [hE]; rfl
    have ege : ∀ a b, E.lei a b = decide (a ≤ b) := fun a b => by rw [hE]; rfl
    have eple : ∀ a b, a ≤ b → E.ple a b := fun a b h => by rw [hE]; exact h
    have eget : ∀ (i : Int) (c : UInt8) (z : Int), s.data.toList[i.toNat]? = some c → ((c.toNat : Nat) : Int) = z → E.get s (E.nat i) = some z := fun i c z h hz => by
      rw [hE]
      show (s.data.toList[i.toNat]?).map _ = some z
      rw [h, ← hz]
      rfl
    have eadd : ∀ a b : Int, -1000000000 ≤ a → a ≤ 1000000000 → -1000000 ≤ b → b ≤ 1000000 → E.wadd .i64 a b = a + b := fun a b h0 h1 h2 h3 => by rw [hE]; exact wrap_i64_in (by omega) (by omega)
    have d1 : E.lei n a1 = true := by rw [ege]; exact decide_eq_true hA
    have ei := eadd a 1 (by omega) (by omega) (by omega) (by omega)
    rw [ha1] at ei
    clear hE hc elt ege eple eget eadd hn hget hA hr ha1
    cbv
    repeat (first | (simp only [z1]; cbv) | simp only [z1] | (simp only [ei]; cbv) | simp only [ei] | (simp only [d1]; cbv) | simp only [d1])
  · obtain ⟨c, hci⟩ := hget a1 (by omega) (by omega)
    obtain ⟨z, hz⟩ : ∃ z : Int, ((c.toNat : Nat) : Int) = z := ⟨_, rfl⟩
    have hc0 := rst_cons (by omega) hci
    rcases Classical.em (c = 123) with hB | hB
    · subst hB
      have w1 : decide (z = 123) = true := decide_eq_true (by rw [← hz]; rfl)
      have hc1 : rst s (a + 1) = 123 :: rst s (a + 2) := by
        rw [ha1, hc0, ← ha1, show a + 1 + 1 = a + 2 by omega]
      obtain ⟨a2, ha2⟩ : ∃ x : Int, a + 2 = x := ⟨_, rfl⟩
      obtain ⟨a9, ha9⟩ : ∃ x : Int, a + 9 = x := ⟨_, rfl⟩
      have hx0 : PtI s n a (a2, 0) := ⟨by show a + 2 ≤ a2; omega, by show a2 ≤ n; omega, by show a2 ≤ a + 9; omega, [], by rw [List.nil_append, ← ha2], fun c hc => (by cases hc), by show (0 : Int) = a2 - a - 2; omega, rfl⟩
      obtain ⟨μ, hμ⟩ : ∃ μ : Int × Int → Nat, ∀ x, μ x = 2000000000 - x.1.toNat := ⟨_, fun _ => rfl⟩
      have hhex := fun c : UInt8 => hex_ret c
      obtain ⟨RV, hRV⟩ : ∃ x, ptR s a = x := ⟨_, rfl⟩
      rw [hRV]
      have hnone : ptL uB (rst s (a + 1)) = none → RV = .tup [pS ⟨#[]⟩, pI 0] := fun h => by
        rw [← hRV]; unfold ptR; rw [h]
      have hsome : ∀ t r', ptL uB (rst s (a + 1)) = some (t, r') → RV = .tup [pS (bL t), pI (n - (r'.length : Nat) - a)] := fun t r' h => by
        rw [← hRV]; unfold ptR; rw [h, ← hn]
      refine ret_by tyT_ok g0_gr mixed (fun _ => 0) Tryd.func67 rfl (by kernel_rfl) (by kernel_rfl) rfl fun P G E hc hE => ?_
      replace hhex := fun c : UInt8 => hc _ _ _ (hhex c)
      have z1 : E.size s = n := by rw [hE]; exact hn
      have elt : ∀ a b, E.lti a b = decide (a < b) := fun a b => by rw [hE]; rfl
      have ege : ∀ a b, E.lei a b = decide (a ≤ b) := fun a b => by rw [hE]; rfl
      have eple : ∀ a b, a ≤ b → E.ple a b := fun a b h => by rw [hE]; exact h
      have eget : ∀ (i : Int) (c : UInt8) (z : Int), s.data.toList[i.toNat]? = some c → ((c.toNat : Nat) : Int) = z → E.get s (E.nat i) = some z := fun i c z h hz => by
        rw [hE]
        show (s.data.toList[i.toNat]?).map _ = some z
        rw [h, ← hz]
        rfl
      have eadd : ∀ a b : Int, -1000000000 ≤ a → a ≤ 1000000000 → -1000000 ≤ b → b ≤ 1000000 → E.wadd .i64 a b = a + b := fun a b h0 h1 h2 h3 => by rw [hE]; exact wrap_i64_in (by omega) (by omega)
      have d1 : E.lei n a1 = false := by rw [ege]; exact decide_eq_false hA
      have ei := eadd a 1 (by omega) (by omega) (by omega) (by omega)
      rw [ha1] at ei
      have ei2 := eadd a 2 (by omega) (by omega) (by omega) (by omega)
      rw [ha2] at ei2
      have ei9 := eadd a 9 (by omega) (by omega) (by omega) (by omega)
      rw [ha9] at ei9
      have g1 := eget a1 123 z hci hz
      have p1 := eple 0 a1 (by omega)
      have emul : ∀ x : Int, 0 ≤ x → x ≤ 1000000000 → E.wmul .i64 x 16 = x * 16 := fun x h0 h1 => by rw [hE]; exact wrap_i64_in (by omega) (by omega)
      have esub : ∀ x y : Int, -1000000000 ≤ x → x ≤ 1000000000 → -1000000000 ≤ y → y ≤ 1000000000 → E.wsub .i64 x y = x - y := fun x y h0 h1 h2 h3 => by rw [hE]; exact wrap_i64_in (by omega) (by omega)
      have ewrp : ∀ x : Int, 0 ≤ x → x ≤ 1114111 → E.wrap .i32 x = x := fun x h0 h1 => by rw [hE]; exact wrap_i32_in (by omega) (by omega)
      have eenc0 : ∀ x : Int, E.enc x = Utf8.encode x := fun x => by rw [hE]; rfl
      have eenc : ∀ x : Nat, E.enc (x : Int) = bL (uB x) := fun x => (eenc0 _).trans (bL_uB x).symm
      clear hE hc hci hc0 hRV
      cbv
      repeat (first | (simp only [z1]; cbv) | simp only [z1] | (simp only [ei]; cbv) | simp only [ei] | (simp only [d1]; cbv) | simp only [d1] | (refine ⟨p1,_,g1, ?_⟩; cbv) | (simp only [w1]; cbv) | simp only [w1] | (simp only [ei2]; cbv) | simp only [ei2])
      refine loop_by 90 [0, 1, 6, 7] 0 (fun x : Int × Int => [.p (pS s), .p (pI a), .p (pI x.2), .p (pI x.1)]) (fun _ => []) (PtI s n a) μ (a2, 0) ⟨rfl, rfl, rfl, rfl, rfl⟩ hx0 ?_
      clear hx0 w1 g1 p1 d1 ei ei2
      rintro ⟨j, acc⟩ hI
      obtain ⟨j0, j1, j2, u, hu1, hu2, hu3, hu4⟩ := hI
      simp only at j0 j1 j2 hu1 hu3 hu4
      replace hn : ((s.size : Nat) : Int) = n := hn
      have hsn : n ≤ 100000000 := by omega
      have hu5 : ((u.length : Nat) : Int) = j - a - 2 := hu3
      have hu6 : acc = ((hexN u : Nat) : Int) := hu4
      have hul : u.length ≤ 7 := by omega
      have hacc : hexN u < 268435456 := hexN_lt 7 u hul
      rw [ha1] at hc1
      rw [← ha1] at hc1
      have es1 := esub j a (by omega) (by omega) (by omega) (by omega)
      obtain ⟨c1, hc1'⟩ : ∃ x : Int, j - a = x := ⟨_, rfl⟩
      rw [hc1'] at es1
      have es2 := esub c1 2 (by omega) (by omega) (by omega) (by omega)
      obtain ⟨c2, hc2'⟩ : ∃ x : Int, c1 - 2 = x := ⟨_, rfl⟩
      rw [hc2'] at es2
      rcases Classical.em (j < n) with hlt | hlt
      · have d1 : E.lti j n = true := by rw [elt]; exact decide_eq_true hlt
        have d2 : E.lei n j = false := by rw [ege]; exact decide_eq_false (by omega)
        obtain ⟨x, hx⟩ := hget j (by omega) hlt
        obtain ⟨y, hy⟩ : ∃ y : Int, ((x.toNat : Nat) : Int) = y := ⟨_, rfl⟩
        have g1 := eget j x y hx hy
        have p1 := eple 0 j (by omega)
        have hxr := rst_cons (by omega) hx
        have hh := hhex x
        cases hxh : isHex x with
        | true =>
          rw [hexI_some hxh] at hh
          have hv15 := hexv_lt x
          obtain ⟨v, hv⟩ : ∃ v : Int, (((hexv x).getD 0 : Nat) : Int) = v := ⟨_, rfl⟩
          rw [hv] at hh
          have e1 : E.lei 0 v = true := by rw [ege]; exact decide_eq_true (by omega)
          replace hh : Ret P G _ [.v (.int .u8 ((x.toNat : Nat) : Int))] _ := hh
          rw [hy] at hh
          rcases Classical.em (j < a9) with h9 | h9
          · have d9 : E.lti j a9 = true := by rw [elt]; exact decide_eq_true h9
            have em := emul acc (by omega) (by omega)
            obtain ⟨q, hq⟩ : ∃ q : Int, acc * 16 = q := ⟨_, rfl⟩
            rw [hq] at em
            have hacc6 : hexN u < 16777216 := hexN_lt 6 u (by omega)
            have ea := eadd q v (by omega) (by omega) (by omega) (by omega)
            obtain ⟨w, hw⟩ : ∃ w : Int, q + v = w := ⟨_, rfl⟩
            rw [hw] at ea
            have ej := eadd j 1 (by omega) (by omega) (by omega) (by omega)
            have hI2 : PtI s n a (E.wadd .i64 j 1, w) := by
              rw [ej]
              refine ⟨by show a + 2 ≤ j + 1; omega, by show j + 1 ≤ n; omega, by show j + 1 ≤ a + 9; omega, u ++ [x], ?_, fun c hc => ?_, ?_, ?_⟩
              · rw [hu1, hxr]; simp
              · rcases List.mem_append.1 hc with hc | hc
                · exact hu2 c hc
                · rcases List.mem_singleton.1 hc with rfl
                  exact hxh
              · rw [List.length_append, List.length_singleton]
                show ((u.length + 1 : Nat) : Int) = j + 1 - a - 2
                omega
              · rw [hexN_snoc]
                show w = ((16 * hexN u + (hexv x).getD 0 : Nat) : Int)
                omega
            have hM : μ (E.wadd .i64 j 1, w) < μ (j, acc) := by rw [hμ, hμ]; simp only; rw [ej]; omega
            clear hnone hsome hget hhex elt ege eple eget eadd emul esub ewrp eenc eenc0 hu1 hu2 hu3 hu4 hu5 hu6 hacc hacc6 hul hx hy hxr hv hv15 hq hw ej hn hxh h9 hc1 ha1 ha2 ha9 es1 es2 hc1' hc2'
            cbv
            repeat (first | (simp only [ei9]; cbv) | simp only [ei9] | (simp only [z1]; cbv) | simp only [z1] | (simp only [d1]; cbv) | simp only [d1] | (refine ⟨p1,_,g1, ?_⟩; cbv) | (refine ⟨_, hh, ?_⟩; cbv) | (simp only [e1]; cbv) | simp only [e1] | (simp only [d9]; cbv) | simp only [d9] | (simp only [em]; cbv) | simp only [em] | (simp only [ea]; cbv) | simp only [ea])
            refine .mk (E.wadd .i64 j 1, w) ⟨rfl, rfl, rfl, rfl, rfl⟩ ?_ ?_
            · exact hI2
            · exact hM
          · have d9 : E.lti j a9 = false := by rw [elt]; exact decide_eq_false h9
            have w5 : decide (y = 125) = false := decide_eq_false fun h => by
              have h6 : x = 125 := UInt8.toNat_inj.1 (by show x.toNat = 125; omega)
              rw [h6] at hxh
              revert hxh
              decide
            have hRV := hnone (pt_long hc1 (by rw [hu1, hxr]) hu2 (by omega))
            subst hRV
            clear hnone hsome hget hhex elt ege eple eget eadd emul esub ewrp eenc eenc0 hu1 hu2 hu3 hu4 hu5 hu6 hacc hul hx hy hxr hv hv15 hn hxh h9 hc1 ha1 ha2 ha9 hc1' hc2'
            cbv
            repeat (first | (simp only [ei9]; cbv) | simp only [ei9] | (simp only [z1]; cbv) | simp only [z1] | (simp only [d1]; cbv) | simp only [d1] | (refine ⟨p1,_,g1, ?_⟩; cbv) | (refine ⟨_, hh, ?_⟩; cbv) | (simp only [e1]; cbv) | simp only [e1] | (simp only [d9]; cbv) | simp only [d9] | (simp only [es1]; cbv) | simp only [es1] | (simp only [es2]; cbv) | simp only [es2] | (simp only [d2]; cbv) | simp only [d2] | (simp only [w5]; cbv) | simp only [w5])
        | false =>
          rw [hexI_none hxh] at hh
          replace hh : Ret P G _ [.v (.int .u8 ((x.toNat : Nat) : Int))] _ := hh
          rw [hy] at hh
          have e1 : E.lei 0 (-1) = false := by rw [ege]; rfl
          have hpt := pt_u (c := x) hc1 hu1 hu2 (.inr ⟨_, hxr, hxh⟩)
          rw [hxr] at hpt
          rw [ptE] at hpt
          rcases Classical.em (x = 125) with h5 | h5
          · have w5 : decide (y = 125) = true := decide_eq_true (by rw [← hy, h5]; rfl)
            rcases Classical.em (c2 < 1) with q1 | q1
            · have f1 : E.lti c2 1 = true := by rw [elt]; exact decide_eq_true q1
              rw [if_neg (fun h => by have := h.2.1; omega)] at hpt
              have hRV := hnone hpt
              subst hRV
              clear hnone hsome hget hhex elt ege eple eget eadd emul esub ewrp eenc eenc0 hu1 hu2 hu3 hu4 hu5 hu6 hacc hul hx hy hxr hn hxh hc1 ha1 ha2 ha9 hc1' hc2' hpt
              cbv
              repeat (first | (simp only [ei9]; cbv) | simp only [ei9] | (simp only [z1]; cbv) | simp only [z1] | (simp only [d1]; cbv) | simp only [d1] | (refine ⟨p1,_,g1, ?_⟩; cbv) | (refine ⟨_, hh, ?_⟩; cbv) | (simp only [e1]; cbv) | simp only [e1] | (simp only [es1]; cbv) | simp only [es1] | (simp only [es2]; cbv) | simp only [es2] | (simp only [d2]; cbv) | simp only [d2] | (simp only [w5]; cbv) | simp only [w5] | (simp only [f1]; cbv) | simp only [f1])
            · have f1 : E.lti c2 1 = false := by rw [elt]; exact decide_eq_false q1
              rcases Classical.em (6 < c2) with q2 | q2
              · have f2 : E.lti 6 c2 = true := by rw [elt]; exact decide_eq_true q2
                rw [if_neg (fun h => by have := h.2.2.1; omega)] at hpt
                have hRV := hnone hpt
                subst hRV
                clear hnone hsome hget hhex elt ege eple eget eadd emul esub ewrp eenc eenc0 hu1 hu2 hu3 hu4 hu5 hu6 hacc hul hx hy hxr hn hxh hc1 ha1 ha2 ha9 hc1' hc2' hpt
                cbv
                repeat (first | (simp only [ei9]; cbv) | simp only [ei9] | (simp only [z1]; cbv) | simp only [z1] | (simp only [d1]; cbv) | simp only [d1] | (refine ⟨p1,_,g1, ?_⟩; cbv) | (refine ⟨_, hh, ?_⟩; cbv) | (simp only [e1]; cbv) | simp only [e1] | (simp only [es1]; cbv) | simp only [es1] | (simp only [es2]; cbv) | simp only [es2] | (simp only [d2]; cbv) | simp only [d2] | (simp only [w5]; cbv) | simp only [w5] | (simp only [f1]; cbv) | simp only [f1] | (simp only [f2]; cbv) | simp only [f2])
              · have f2 : E.lti 6 c2 = false := by rw [elt]; exact decide_eq_false q2
                rcases Classical.em (1114111 < acc) with q3 | q3
                · have f3 : E.lti 1114111 acc = true := by rw [elt]; exact decide_eq_true q3
                  have hbad : ptOk (hexN u) = false := by
                    unfold ptOk
                    rw [decide_eq_false (by omega)]
                    rfl
                  rw [if_neg (fun h => by rw [hbad] at h; cases h.2.2.2)] at hpt
                  have hRV := hnone hpt
                  subst hRV
                  clear hnone hsome hget hhex elt ege eple eget eadd emul esub ewrp eenc eenc0 hu1 hu2 hu3 hu4 hu5 hu6 hacc hul hx hy hxr hn hxh hc1 ha1 ha2 ha9 hc1' hc2' hpt hbad
                  cbv
                  repeat (first | (simp only [ei9]; cbv) | simp only [ei9] | (simp only [z1]; cbv) | simp only [z1] | (simp only [d1]; cbv) | simp only [d1] | (refine ⟨p1,_,g1, ?_⟩; cbv) | (refine ⟨_, hh, ?_⟩; cbv) | (simp only [e1]; cbv) | simp only [e1] | (simp only [es1]; cbv) | simp only [es1] | (simp only [es2]; cbv) | simp only [es2] | (simp only [d2]; cbv) | simp only [d2] | (simp only [w5]; cbv) | simp only [w5] | (simp only [f1]; cbv) | simp only [f1] | (simp only [f2]; cbv) | simp only [f2] | (simp only [f3]; cbv) | simp only [f3])
                · have f3 : E.lti 1114111 acc = false := by rw [elt]; exact decide_eq_false q3
                  rcases Classical.em (55296 ≤ acc) with q4 | q4
                  · have f4 : E.lei 55296 acc = true := by rw [ege]; exact decide_eq_true q4
                    rcases Classical.em (acc ≤ 57343) with q5 | q5
                    · have f5 : E.lei acc 57343 = true := by rw [ege]; exact decide_eq_true q5
                      have hbad : ptOk (hexN u) = false := by
                        unfold ptOk
                        rw [decide_eq_true (show 55296 ≤ hexN u by omega), decide_eq_true (show hexN u ≤ 57343 by omega)]
                        simp
                      rw [if_neg (fun h => by rw [hbad] at h; cases h.2.2.2)] at hpt
                      have hRV := hnone hpt
                      subst hRV
                      clear hnone hsome hget hhex elt ege eple eget eadd emul esub ewrp eenc eenc0 hu1 hu2 hu3 hu4 hu5 hu6 hacc hul hx hy hxr hn hxh hc1 ha1 ha2 ha9 hc1' hc2' hpt hbad
                      cbv
                      repeat (first | (simp only [ei9]; cbv) | simp only [ei9] | (simp only [z1]; cbv) | simp only [z1] | (simp only [d1]; cbv) | simp only [d1] | (refine ⟨p1,_,g1, ?_⟩; cbv) | (refine ⟨_, hh, ?_⟩; cbv) | (simp only [e1]; cbv) | simp only [e1] | (simp only [es1]; cbv) | simp only [es1] | (simp only [es2]; cbv) | simp only [es2] | (simp only [d2]; cbv) | simp only [d2] | (simp only [w5]; cbv) | simp only [w5] | (simp only [f1]; cbv) | simp only [f1] | (simp only [f2]; cbv) | simp only [f2] | (simp only [f3]; cbv) | simp only [f3] | (simp only [f4]; cbv) | simp only [f4] | (simp only [f5]; cbv) | simp only [f5])
                    · have f5 : E.lei acc 57343 = false := by rw [ege]; exact decide_eq_false q5
                      have hok : ptOk (hexN u) = true := by
                        unfold ptOk
                        rw [decide_eq_true (show hexN u ≤ 1114111 by omega), decide_eq_false (show ¬ hexN u ≤ 57343 by omega)]
                        simp
                      rw [if_pos ⟨h5, by omega, by omega, hok⟩] at hpt
                      have hRV := hsome _ _ hpt
                      have hrl := rst_len s (j + 1)
                      obtain ⟨O, hO⟩ : ∃ x, bL (uB (hexN u)) = x := ⟨_, rfl⟩
                      obtain ⟨f, hf⟩ : ∃ x : Int, j + 1 = x := ⟨_, rfl⟩
                      obtain ⟨g, hg⟩ : ∃ x : Int, f - a = x := ⟨_, rfl⟩
                      have hg2 : n - ((rst s (j + 1)).length : Nat) - a = g := by omega
                      rw [hg2, hO] at hRV
                      have ej1 := eadd j 1 (by omega) (by omega) (by omega) (by omega)
                      rw [hf] at ej1
                      have es3 := esub f a (by omega) (by omega) (by omega) (by omega)
                      rw [hg] at es3
                      have ew := ewrp acc (by omega) (by omega)
                      have een : E.enc acc = O := by rw [hu6, eenc, hO]
                      subst hRV
                      clear hnone hsome hget hhex elt ege eple eget eadd emul esub ewrp eenc eenc0 hu1 hu2 hu3 hu4 hu5 hu6 hacc hul hx hy hxr hn hxh hc1 ha1 ha2 ha9 hc1' hc2' hpt hrl hO hf hg hg2 hok
                      cbv
                      repeat (first | (simp only [ei9]; cbv) | simp only [ei9] | (simp only [z1]; cbv) | simp only [z1] | (simp only [d1]; cbv) | simp only [d1] | (refine ⟨p1,_,g1, ?_⟩; cbv) | (refine ⟨_, hh, ?_⟩; cbv) | (simp only [e1]; cbv) | simp only [e1] | (simp only [es1]; cbv) | simp only [es1] | (simp only [es2]; cbv) | simp only [es2] | (simp only [d2]; cbv) | simp only [d2] | (simp only [w5]; cbv) | simp only [w5] | (simp only [f1]; cbv) | simp only [f1] | (simp only [f2]; cbv) | simp only [f2] | (simp only [f3]; cbv) | simp only [f3] | (simp only [f4]; cbv) | simp only [f4] | (simp only [f5]; cbv) | simp only [f5] | (simp only [ew]; cbv) | simp only [ew] | (simp only [een]; cbv) | simp only [een] | (simp only [ej1]; cbv) | simp only [ej1] | (simp only [es3]; cbv) | simp only [es3])
                  · have f4 : E.lei 55296 acc = false := by rw [ege]; exact decide_eq_false q4
                    have hok : ptOk (hexN u) = true := by
                      unfold ptOk
                      rw [decide_eq_true (show hexN u ≤ 1114111 by omega), decide_eq_false (show ¬ 55296 ≤ hexN u by omega)]
                      simp
                    rw [if_pos ⟨h5, by omega, by omega, hok⟩] at hpt
                    have hRV := hsome _ _ hpt
                    have hrl := rst_len s (j + 1)
                    obtain ⟨O, hO⟩ : ∃ x, bL (uB (hexN u)) = x := ⟨_, rfl⟩
                    obtain ⟨f, hf⟩ : ∃ x : Int, j + 1 = x := ⟨_, rfl⟩
                    obtain ⟨g, hg⟩ : ∃ x : Int, f - a = x := ⟨_, rfl⟩
                    have hg2 : n - ((rst s (j + 1)).length : Nat) - a = g := by omega
                    rw [hg2, hO] at hRV
                    have ej1 := eadd j 1 (by omega) (by omega) (by omega) (by omega)
                    rw [hf] at ej1
                    have es3 := esub f a (by omega) (by omega) (by omega) (by omega)
                    rw [hg] at es3
                    have ew := ewrp acc (by omega) (by omega)
                    have een : E.enc acc = O := by rw [hu6, eenc, hO]
                    subst hRV
                    clear hnone hsome hget hhex elt ege eple eget eadd emul esub ewrp eenc eenc0 hu1 hu2 hu3 hu4 hu5 hu6 hacc hul hx hy hxr hn hxh hc1 ha1 ha2 ha9 hc1' hc2' hpt hrl hO hf hg hg2 hok
                    cbv
                    repeat (first | (simp only [ei9]; cbv) | simp only [ei9] | (simp only [z1]; cbv) | simp only [z1] | (simp only [d1]; cbv) | simp only [d1] | (refine ⟨p1,_,g1, ?_⟩; cbv) | (refine ⟨_, hh, ?_⟩; cbv) | (simp only [e1]; cbv) | simp only [e1] | (simp only [es1]; cbv) | simp only [es1] | (simp only [es2]; cbv) | simp only [es2] | (simp only [d2]; cbv) | simp only [d2] | (simp only [w5]; cbv) | simp only [w5] | (simp only [f1]; cbv) | simp only [f1] | (simp only [f2]; cbv) | simp only [f2] | (simp only [f3]; cbv) | simp only [f3] | (simp only [f4]; cbv) | simp only [f4] | (simp only [ew]; cbv) | simp only [ew] | (simp only [een]; cbv) | simp only [een] | (simp only [ej1]; cbv) | simp only [ej1] | (simp only [es3]; cbv) | simp only [es3])
          · have w5 : decide (y = 125) = false := decide_eq_false fun h => h5 (UInt8.toNat_inj.1 (by show x.toNat = 125; omega))
            rw [if_neg (fun h => h5 h.1)] at hpt
            have hRV := hnone hpt
            subst hRV
            clear hnone hsome hget hhex elt ege eple eget eadd emul esub ewrp eenc eenc0 hu1 hu2 hu3 hu4 hu5 hu6 hacc hul hx hy hxr hn hxh hc1 ha1 ha2 ha9 hc1' hc2' hpt
            cbv
            repeat (first | (simp only [ei9]; cbv) | simp only [ei9] | (simp only [z1]; cbv) | simp only [z1] | (simp only [d1]; cbv) | simp only [d1] | (refine ⟨p1,_,g1, ?_⟩; cbv) | (refine ⟨_, hh, ?_⟩; cbv) | (simp only [e1]; cbv) | simp only [e1] | (simp only [es1]; cbv) | simp only [es1] | (simp only [es2]; cbv) | simp only [es2] | (simp only [d2]; cbv) | simp only [d2] | (simp only [w5]; cbv) | simp only [w5])
      · have d1 : E.lti j n = false := by rw [elt]; exact decide_eq_false hlt
        have d2 : E.lei n j = true := by rw [ege]; exact decide_eq_true (by omega)
        have hnil : rst s j = [] := rst_end (by omega)
        have hpt := pt_u (c := 0) hc1 hu1 hu2 (.inl hnil)
        rw [hnil] at hpt
        have hRV := hnone hpt
        subst hRV
        clear hnone hsome hget hhex elt ege eple eget eadd emul esub ewrp eenc eenc0 hu1 hu2 hu3 hu4 hu5 hu6 hacc hul hn hc1 ha1 ha2 ha9 hc1' hc2' hpt hnil
        cbv
        repeat (first | (simp only [ei9]; cbv) | simp only [ei9] | (simp only [z1]; cbv) | simp only [z1] | (simp only [d1]; cbv) | simp only [d1] | (simp only [es1]; cbv) | simp only [es1] | (simp only [es2]; cbv) | simp only [es2] | (simp only [d2]; cbv) | simp only [d2])
    · have hr : ptR s a = .tup [pS ⟨#[]⟩, pI 0] := by
        unfold ptR
        rw [ha1, hc0, ptL, if_neg hB]
      rw [hr]
      refine ret_by tyT_ok g0_gr mixed (fun _ => 0) Tryd.func67 rfl (by kernel_rfl) (by kernel_rfl) rfl fun P G E hc hE => ?_
      have z1 : E.size s = n := by rw [hE]; exact hn
      have elt : ∀ a b, E.lti a b = decide (a < b) := fun a b => by rw [hE]; rfl
      have ege : ∀ a b, E.lei a b = decide (a ≤ b) := fun a b => by rw [hE]; rfl
      have eple : ∀ a b, a ≤ b → E.ple a b := fun a b h => by rw [hE]; exact h
      have eget : ∀ (i : Int) (c : UInt8) (z : Int), s.data.toList[i.toNat]? = some c → ((c.toNat : Nat) : Int) = z → E.get s (E.nat i) = some z := fun i c z h hz => by
        rw [hE]
        show (s.data.toList[i.toNat]?).map _ = some z
        rw [h, ← hz]
        rfl
      have eadd : ∀ a b : Int, -1000000000 ≤ a → a ≤ 1000000000 → -1000000 ≤ b → b ≤ 1000000 → E.wadd .i64 a b = a + b := fun a b h0 h1 h2 h3 => by rw [hE]; exact wrap_i64_in (by omega) (by omega)
      have d1 : E.lei n a1 = false := by rw [ege]; exact decide_eq_false hA
      have ei := eadd a 1 (by omega) (by omega) (by omega) (by omega)
      rw [ha1] at ei
      have g1 := eget a1 c z hci hz
      have p1 := eple 0 a1 (by omega)
      have w1 : decide (z = 123) = false := decide_eq_false fun h => hB (UInt8.toNat_inj.1 (by show c.toNat = 123; omega))
      clear hE hc elt ege eple eget eadd hn hget hA hr ha1 hci hz hc0 hB
      cbv
      repeat (first | (simp only [z1]; cbv) | simp only [z1] | (simp only [ei]; cbv) | simp only [ei] | (simp only [d1]; cbv) | simp only [d1] | (refine ⟨p1,_,g1, ?_⟩; cbv) | (simp only [w1]; cbv) | simp only [w1])
end Go.Proofs.YtnhbboknffppiaaDoor
