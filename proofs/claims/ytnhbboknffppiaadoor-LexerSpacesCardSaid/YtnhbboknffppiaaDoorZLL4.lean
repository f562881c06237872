/- Own work: LexerSpaces. -/
import Derived.Test.YtnhbboknffppiaaDoorZLL3
namespace Go.Proofs.YtnhbboknffppiaaDoor
open Go.RowKit
set_option maxRecDepth 100000
set_option linter.unusedSimpArgs false

def gapL : List Bs := [[32], [10], [9, 13, 10], [47, 42, 32, 120, 32, 42, 47], [47, 42, 42, 42, 47], [47, 47, 34, 39, 10]]
def gapRows : List (List PV) := [[pS ⟨#[32]⟩], [pS ⟨#[10]⟩], [pS ⟨#[9, 13, 10]⟩], [pS ⟨#[47, 42, 32, 120, 32, 42, 47]⟩], [pS ⟨#[47, 42, 42, 42, 47]⟩], [pS ⟨#[47, 47, 34, 39, 10]⟩]]
theorem gap_ok : ∀ h : Nat, h < 6 → ∃ g, gapL[h]? = some g ∧ gapRows[h]? = some [pS (bL g)] ∧ (∀ r, skp (32 :: (g ++ r)) = skp r) ∧ lexB g = ([], none) ∧ g.length ≤ 7
  | 0, _ => ⟨[32], rfl, rfl, fun r => by
    rw [skp_ws (by decide)]
    show skp (32 :: r) = _
    rw [skp_ws (by decide)], by kernel_rfl, by decide⟩
  | 1, _ => ⟨[10], rfl, rfl, fun r => by
    rw [skp_ws (by decide)]
    show skp (10 :: r) = _
    rw [skp_ws (by decide)], by kernel_rfl, by decide⟩
  | 2, _ => ⟨[9, 13, 10], rfl, rfl, fun r => by
    rw [skp_ws (by decide)]
    show skp (9 :: 13 :: 10 :: r) = _
    rw [skp_ws (by decide), skp_ws (by decide), skp_ws (by decide)], by kernel_rfl, by decide⟩
  | 3, _ => ⟨[47, 42, 32, 120, 32, 42, 47], rfl, rfl, fun r => by
    rw [skp_ws (by decide)]
    show skp (47 :: (42 :: 32 :: 120 :: 32 :: 42 :: 47 :: r)) = _
    rw [skp_cm (by decide) rfl (r' := r)]
    show dropCm (32 :: 120 :: 32 :: 42 :: 47 :: r) = some r
    rw [dropCm, if_neg (by simp), dropCm, if_neg (by simp), dropCm, if_neg (by simp), dropCm, if_pos (by simp)]
    rfl, by kernel_rfl, by decide⟩
  | 4, _ => ⟨[47, 42, 42, 42, 47], rfl, rfl, fun r => by
    rw [skp_ws (by decide)]
    show skp (47 :: (42 :: 42 :: 42 :: 47 :: r)) = _
    rw [skp_cm (by decide) rfl (r' := r)]
    show dropCm (42 :: 42 :: 47 :: r) = some r
    rw [dropCm, if_neg (by simp), dropCm, if_pos (by simp)]
    rfl, by kernel_rfl, by decide⟩
  | 5, _ => ⟨[47, 47, 34, 39, 10], rfl, rfl, fun r => by
    rw [skp_ws (by decide)]
    show skp (47 :: (47 :: 34 :: 39 :: 10 :: r)) = _
    rw [skp_ln (by decide) rfl]
    show skp (dropLn (34 :: 39 :: 10 :: r)) = _
    rw [dropLn, if_neg (by decide), dropLn, if_neg (by decide), dropLn, if_pos rfl, skp_ws (by decide)], by kernel_rfl, by decide⟩
  | h + 6, hh => by omega
/-- white space put into a text, plain: before a token, or behind all -/
theorem gap_plain (s : ByteArray) (ts : List Tk) (h : lexB s.data.toList = (ts, none)) (g : Bs) (hg : ∀ r, skp (32 :: (g ++ r)) = skp r) (hg2 : lexB g = ([], none)) (w : Nat) (hw : w ≤ ts.length) :
    ∃ p : Nat, p ≤ s.size ∧ (w = ts.length → p = s.size) ∧ (∀ x, ts[w]? = some x → p = s.size - x.rem ∧ x.rem ≤ s.size) ∧
      lexB (s.data.toList.take p ++ ((if w < ts.length then 32 else 10) :: g) ++ s.data.toList.drop p) = ((ts.take w).map (Tk.up (g.length + 1)) ++ ts.drop w, none) := by
  have hsl : s.data.toList.length = s.size := rfl
  by_cases hlt : w < ts.length
  · obtain ⟨a, b, h1, h2, h3⟩ := lex_gap uB repairL hg w s.data.toList ts h hlt
    have hl : s.size = a.length + b.length := by rw [← hsl, h1, List.length_append]
    refine ⟨a.length, by omega, fun e => by omega, fun x hx => ?_, ?_⟩
    · have := h2 x hx
      omega
    · rw [if_pos hlt, h1, List.take_left, List.drop_left]
      have e : a ++ (32 :: g) ++ b = a ++ 32 :: (g ++ b) := by simp
      rw [e]
      exact h3
  · have hwe : w = ts.length := by omega
    refine ⟨s.size, Nat.le_refl _, fun _ => rfl, fun x hx => ?_, ?_⟩
    · rw [hwe] at hx
      simp at hx
    · rw [if_neg hlt, ← hsl, List.take_length, List.drop_length, List.append_nil]
      have := lex_up_none h hg2
      rw [this, hwe, List.take_length, List.drop_length]
structure SpI (n : Int) (i : Int) : Prop where
  i0 : 0 ≤ i
  i1 : i ≤ n
set_option maxHeartbeats 8000000 in
theorem lspaces_ret (s : ByteArray) (wh ho : Int) (hw : 0 ≤ wh ∧ wh ≤ 255) (hh : 0 ≤ ho ∧ ho ≤ 255) : RL 4 [pS s, .v (.int .u8 wh), .v (.int .u8 ho)] (pB true) := by
  have ha := awake_ret
  obtain ⟨n, hn⟩ : ∃ n : Int, ((s.size : Nat) : Int) = n := ⟨_, rfl⟩
  rcases Classical.em (1000 < n) with hbig | hbig
  · refine ret_by tyT_ok gl_gr mixed (fun n => match n with | 14 => 17 | 23 => 13 | _ => 0) Tryd.func4 rfl (by kernel_rfl) (by kernel_rfl) rfl fun P G E hc hE => ?_
    replace ha := hc _ _ _ ha
    have z1 : E.size s = n := by rw [hE]; exact hn
    have d1 : E.lti 1000 n = true := by rw [hE]; exact decide_eq_true hbig
    clear hE hc hn hbig
    cbv
    repeat (first | (refine ⟨_, ha, ?_⟩; cbv) | (simp only [z1]; cbv) | simp only [z1] | (simp only [d1]; cbv) | simp only [d1])
  have hl := lex_ret s (by omega)
  obtain ⟨ts, er, hb⟩ : ∃ a b, lexB s.data.toList = (a, b) := ⟨_, _, rfl⟩
  cases er with
  | some p =>
    obtain ⟨m1, e1⟩ := p
    have he1 : e1 ≠ 0 := lexF_ne _ _ m1 e1 (congrArg Prod.snd hb)
    rw [lexR_bad hb] at hl
    obtain ⟨i, hi⟩ : ∃ x : Int, ((s.size : Nat) : Int) - (m1 : Nat) = x := ⟨_, rfl⟩
    rw [hi] at hl
    have f1 : decide (e1 = 0) = false := decide_eq_false he1
    refine ret_by tyT_ok gl_gr mixed (fun n => match n with | 14 => 17 | 23 => 13 | _ => 0) Tryd.func4 rfl (by kernel_rfl) (by kernel_rfl) rfl fun P G E hc hE => ?_
    replace ha := hc _ _ _ ha
    replace hl := hc _ _ _ hl
    have z1 : E.size s = n := by rw [hE]; exact hn
    have d1 : E.lti 1000 n = false := by rw [hE]; exact decide_eq_false hbig
    clear hE hc hn hbig hb he1 hi
    cbv
    repeat (first | (refine ⟨_, ha, ?_⟩; cbv) | (simp only [z1]; cbv) | simp only [z1] | (simp only [d1]; cbv) | simp only [d1] | (refine ⟨_, hl, ?_⟩; cbv) | (simp only [f1]; cbv) | simp only [f1])
  | none =>
    rw [lexR_ok hb, hn] at hl
    have hcnt := lexF_cnt _ _ (show lexF uB repairL (s.data.toList.length + 1) s.data.toList = _ from hb)
    have hsl : s.data.toList.length = s.size := rfl
    obtain ⟨la, hla0⟩ : ∃ x : Int, ((ts.length : Nat) : Int) = x := ⟨_, rfl⟩
    obtain ⟨la1, hla1⟩ : ∃ x : Int, la + 1 = x := ⟨_, rfl⟩
    obtain ⟨m, hm⟩ : ∃ x : Int, wh.tmod la1 = x := ⟨_, rfl⟩
    obtain ⟨h6, hh6⟩ : ∃ x : Int, ho.tmod 6 = x := ⟨_, rfl⟩
    have hm01 : 0 ≤ m ∧ m ≤ la := by
      rw [Int.tmod_eq_emod_of_nonneg hw.1] at hm
      have h1 := Int.emod_nonneg wh (show la1 ≠ 0 by omega)
      have h2 := Int.emod_lt_of_pos wh (show 0 < la1 by omega)
      omega
    have hh01 : 0 ≤ h6 ∧ h6 < 6 := by
      rw [Int.tmod_eq_emod_of_nonneg hh.1] at hh6
      omega
    obtain ⟨hh0, hh5⟩ := hh01
    obtain ⟨g, _, hg0, hg1, hg2, hg7⟩ := gap_ok h6.toNat (by omega)
    obtain ⟨G0, hG0⟩ : ∃ x, bL g = x := ⟨_, rfl⟩
    rw [hG0] at hg0
    have hG0d : G0.data.toList = g := by rw [← hG0]; exact bL_list _
    have hG0s : G0.size = g.length := by rw [← hG0]; rfl
    obtain ⟨p0, hp1', hpe, hpx, hlx⟩ := gap_plain s ts hb g hg1 hg2 m.toNat (by omega)
    obtain ⟨p, hp⟩ : ∃ x : Int, ((p0 : Nat) : Int) = x := ⟨_, rfl⟩
    have hp0 : 0 ≤ p := by omega
    have hp1 : p ≤ n := by omega
    have hpn : p.toNat = p0 := by omega
    obtain ⟨S1, hS1⟩ : ∃ x, s.extract 0 p.toNat = x := ⟨_, rfl⟩
    obtain ⟨S2, hS2⟩ : ∃ x, s.extract p.toNat n.toNat = x := ⟨_, rfl⟩
    have hS1d : S1.data.toList = s.data.toList.take p0 := by rw [← hS1, bl_ext, hpn]; rfl
    have hS2d : S2.data.toList = s.data.toList.drop p0 := by
      rw [← hS2, bl_ext, hpn]
      exact List.take_of_length_le (by rw [List.length_drop, hsl]; omega)
    have hS1s : S1.size ≤ 1000 := by
      have e5 : S1.data.toList.length = S1.size := rfl
      rw [hS1d, List.length_take, hsl] at e5
      omega
    have hS2s : S2.size ≤ 1000 := by
      have e5 : S2.data.toList.length = S2.size := rfl
      rw [hS2d, List.length_drop, hsl] at e5
      omega
    have hlen2 : (s.data.toList.take p0).length + (s.data.toList.drop p0).length = s.size := by rw [List.length_take, List.length_drop, hsl]; omega
    obtain ⟨A, hA⟩ : ∃ x, tkRows n ts = x := ⟨_, rfl⟩
    rw [hA] at hl
    have hAl : A.length = ts.length := by rw [← hA, tkRows_len]
    have hla : ((A.length : Nat) : Int) = la := by rw [hAl]; exact hla0
    obtain ⟨CC, hCC⟩ : ∃ x : ByteArray, (if m.toNat < ts.length then (⟨#[32]⟩ : ByteArray) else ⟨#[10]⟩) = x := ⟨_, rfl⟩
    have hCCd : CC.data.toList = [if m.toNat < ts.length then 32 else 10] := by rw [← hCC]; split <;> rfl
    have hCCs : CC.size = 1 := by rw [← hCC]; split <;> rfl
    obtain ⟨GP, hGP⟩ : ∃ x, CC ++ G0 = x := ⟨_, rfl⟩
    obtain ⟨Q1, hQ1⟩ : ∃ x, S1 ++ GP = x := ⟨_, rfl⟩
    obtain ⟨X, hX⟩ : ∃ x, Q1 ++ S2 = x := ⟨_, rfl⟩
    have hGPs : GP.size = g.length + 1 := by rw [← hGP, ByteArray.size_append, hCCs, hG0s]; omega
    have hQ1s : Q1.size = S1.size + GP.size := by rw [← hQ1, ByteArray.size_append]
    have hXs : X.size = S1.size + GP.size + S2.size := by rw [← hX, ByteArray.size_append, hQ1s]
    have hXd : X.data.toList = s.data.toList.take p0 ++ ((if m.toNat < ts.length then 32 else 10) :: g) ++ s.data.toList.drop p0 := by
      rw [← hX, ← hQ1, ← hGP, ByteArray.data_append, Array.toList_append, ByteArray.data_append, Array.toList_append, ByteArray.data_append, Array.toList_append, hS1d, hS2d, hG0d, hCCd]
      rfl
    rw [← hXd] at hlx
    have hXn : ((X.size : Nat) : Int) = n + ((g.length + 1 : Nat) : Int) := by
      have e5 : S1.data.toList.length = S1.size := rfl
      have e6 : S2.data.toList.length = S2.size := rfl
      rw [hS1d] at e5
      rw [hS2d] at e6
      omega
    have hx := lex_ret X (by omega)
    rw [lexR_ok hlx] at hx
    obtain ⟨B, hB⟩ : ∃ x, tkRows (X.size : Nat) ((ts.take m.toNat).map (Tk.up (g.length + 1)) ++ ts.drop m.toNat) = x := ⟨_, rfl⟩
    rw [hB] at hx
    have hBl : B.length = ts.length := by
      rw [← hB, tkRows_len, List.length_append, List.length_map, List.length_take, List.length_drop]
      omega
    have hlb : ((B.length : Nat) : Int) = la := by rw [hBl]; exact hla0
    obtain ⟨gl, hgl⟩ : ∃ x : Int, ((GP.size : Nat) : Int) = x := ⟨_, rfl⟩
    have hrem := lexF_rem1 _ _ (show lexF uB repairL (s.data.toList.length + 1) s.data.toList = _ from hb)
    have hrow : ∀ i : Int, 0 ≤ i → i < la → ∃ kk T x1 x2, A[i.toNat]? = some [pI kk, pS T, pI x1] ∧ B[i.toNat]? = some [pI kk, pS T, pI x2] ∧ (m ≤ i → x1 + gl = x2) ∧ (i < m → x1 = x2) ∧ -1000000 ≤ x1 ∧ x1 ≤ 1000000 := fun i h0 h1 => by
      have hxl : i.toNat < ts.length := by omega
      have q1 := tkRows_at (n := n) (List.getElem?_eq_getElem hxl)
      rw [hA] at q1
      have hr := hrem _ (List.getElem_mem hxl)
      by_cases hmi : m ≤ i
      · have q2 : ((ts.take m.toNat).map (Tk.up (g.length + 1)) ++ ts.drop m.toNat)[i.toNat]? = some ts[i.toNat] := by
          rw [List.getElem?_append_right (by rw [List.length_map, List.length_take]; omega), List.length_map, List.length_take, List.getElem?_drop]
          rw [show m.toNat + (i.toNat - min m.toNat ts.length) = i.toNat by omega]
          exact List.getElem?_eq_getElem hxl
        have q3 := tkRows_at (n := (X.size : Nat)) q2
        rw [hB] at q3
        exact ⟨_, _, _, (X.size : Nat) - (ts[i.toNat].rem : Nat), q1, q3, fun _ => by omega, fun h => by omega, by omega, by omega⟩
      · have q2 : ((ts.take m.toNat).map (Tk.up (g.length + 1)) ++ ts.drop m.toNat)[i.toNat]? = some (ts[i.toNat].up (g.length + 1)) := by
          rw [List.getElem?_append_left (by rw [List.length_map, List.length_take]; omega), List.getElem?_map, List.getElem?_take, if_pos (by omega), List.getElem?_eq_getElem hxl]
          rfl
        have q3 := tkRows_at (n := (X.size : Nat)) q2
        rw [hB, tkRow_up n (X.size : Nat) (g.length + 1) hXn] at q3
        exact ⟨_, _, _, n - (ts[i.toNat].rem : Nat), q1, q3, fun h => absurd h hmi, fun _ => rfl, by omega, by omega⟩
    have hsame := upL (same_ret A B false (by omega) (by omega) fun i hi => by
      obtain ⟨kk, T, x1, x2, q1, q2, _⟩ := hrow (i : Nat) (by omega) (by omega)
      exact ⟨kk, T, x1, x2, q1, q2, fun h => (by cases h)⟩)
    have hI0 : SpI la 0 := ⟨Int.le_refl _, by omega⟩
    obtain ⟨μ, hμ⟩ : ∃ μ : Int → Nat, ∀ x, μ x = 2000000000 - x.toNat := ⟨_, fun _ => rfl⟩
    by_cases hlt : m < la
    · have hdm : decide (m = la) = false := decide_eq_false (by omega)
      have hCC2 : CC = ⟨#[32]⟩ := by rw [← hCC, if_pos (by omega)]
      subst hCC2
      obtain ⟨kk, T, x1, _, hrm, _⟩ := hrow m hm01.1 hlt
      have hx1p : x1 = p := by
        have hxl : m.toNat < ts.length := by omega
        have q1 := tkRows_at (n := n) (List.getElem?_eq_getElem hxl)
        rw [hA, hrm] at q1
        have q2 := hpx _ (List.getElem?_eq_getElem hxl)
        have q3 : [pI kk, pS T, pI x1] = tkRow n ts[m.toNat] := Option.some.inj q1
        unfold tkRow at q3
        simp only [List.cons.injEq, PV.v.injEq, Value.int.injEq, true_and, and_true] at q3
        omega
      rw [hx1p] at hrm
      refine ret_by tyT_ok gl_gr mixed (fun n => match n with | 14 => 17 | 23 => 13 | _ => 0) Tryd.func4 rfl (by kernel_rfl) (by kernel_rfl) rfl fun P G E hc hE => ?_
      replace ha := hc _ _ _ ha
      replace hl := hc _ _ _ hl
      replace hx := hc _ _ _ hx
      replace hsame := hc _ _ _ hsame
      have z1 : E.size s = n := by rw [hE]; exact hn
      have d1 : E.lti 1000 n = false := by rw [hE]; exact decide_eq_false (by omega)
      have l1 : E.ofN A.length = la := by rw [hE]; exact hla
      have l2 : E.ofN B.length = la := by rw [hE]; exact hlb
      have w0 : E.wrap .i64 wh = wh := by rw [hE]; exact wrap_i64_in (by omega) (by omega)
      have w1 : E.wadd .i64 la 1 = la1 := by rw [hE, ← hla1]; exact wrap_i64_in (by omega) (by omega)
      have w2 : E.rem wh la1 = m := by rw [hE]; exact hm
      have w3 : E.rem ho 6 = h6 := by rw [hE]; exact hh6
      have hz : la1 = 0 → False := fun e => by omega
      have p1 : E.ple 0 h6 := by rw [hE]; exact hh0
      have p2 : E.plt h6 (E.ofN 6) := by rw [hE]; show h6 < (6 : Int); omega
      have g1 : gapRows[E.addN 0 (E.nat h6)]? = some [pS G0] := by rw [hE]; show gapRows[0 + h6.toNat]? = _; rw [Nat.zero_add]; exact hg0
      have q0 : E.ple 0 0 := by rw [hE]; exact Int.le_refl _
      have q1 : E.ple 0 p := by rw [hE]; exact hp0
      have q2 : E.ple p n := by rw [hE]; exact hp1
      have q3 : E.ple n n := by rw [hE]; exact Int.le_refl _
      have y1 : E.ext s (E.nat 0) (E.nat p) = S1 := by rw [hE]; exact hS1
      have y2 : E.ext s (E.nat p) (E.nat n) = S2 := by rw [hE]; exact hS2
      have c0 : E.cat ⟨#[32]⟩ G0 := by rw [hE]; show ((((⟨#[32]⟩ : ByteArray)).size : Nat) : Int) + ((G0.size : Nat) : Int) ≤ _; rw [hG0s]; show (1 : Int) + _ ≤ _; omega
      have a0 : E.add ⟨#[32]⟩ G0 = GP := by rw [hE]; exact hGP
      have c1 : E.cat S1 GP := by rw [hE]; show ((S1.size : Nat) : Int) + ((GP.size : Nat) : Int) ≤ _; omega
      have a1 : E.add S1 GP = Q1 := by rw [hE]; exact hQ1
      have c2 : E.cat Q1 S2 := by rw [hE]; show ((Q1.size : Nat) : Int) + ((S2.size : Nat) : Int) ≤ _; omega
      have a2 : E.add Q1 S2 = X := by rw [hE]; exact hX
      have z2 : E.size GP = gl := by rw [hE]; exact hgl
      have elt : ∀ a b, E.lti a b = decide (a < b) := fun a b => by rw [hE]; rfl
      have ege : ∀ a b, E.lei a b = decide (a ≤ b) := fun a b => by rw [hE]; rfl
      have eple : ∀ a b, a ≤ b → E.ple a b := fun a b h => by rw [hE]; exact h
      have enat : ∀ i, E.nat i = i.toNat := fun i => by rw [hE]; rfl
      have eadd : ∀ a b : Int, -1000000000 ≤ a → a ≤ 1000000000 → -1000000000 ≤ b → b ≤ 1000000000 → E.wadd .i64 a b = a + b := fun a b h0 h1 h2 h3 => by rw [hE]; exact wrap_i64_in (by omega) (by omega)
      have k0 : decide ((0 : Int) = 0) = true := rfl
      have d2 : E.lti m la = decide (m < la) := elt _ _
      have d3 := hdm
      have hgl8 : 0 ≤ gl ∧ gl ≤ 8 := by omega
      have hla8 : la ≤ 1000 := by omega
      unfold gapRows at g1
      cbv at l1 l2
      rw [decide_eq_true hlt] at d2
      have p5 : E.ple 0 m := by rw [hE]; exact hm01.1
      have g5 : A[E.nat m]? = some [pI kk, pS T, pI p] := by rw [hE]; exact hrm
      clear hE hc hn hbig hb hcnt hsl hla0 hla1 hm hh6 hm01 hh0 hh5 hg0 hg1 hg2 hg7 hG0 hG0d hG0s hp1' hpe hpx hlx hp hp0 hp1 hpn hS1 hS2 hS1d hS2d hS1s hS2s hlen2 hA hAl hla hCC hCCd hCCs hGP hQ1 hX hGPs hQ1s hXs hXd hXn hB hBl hlb hgl hrem hdm hrm hlt hx1p hw hh
      cbv
      repeat (first | (refine ⟨_, ha, ?_⟩; cbv) | (simp only [z1]; cbv) | simp only [z1] | (simp only [d1]; cbv) | simp only [d1] | (refine ⟨_, hl, ?_⟩; cbv) | (simp only [k0]; cbv) | simp only [k0] | (simp only [w0]; cbv) | simp only [w0] | (simp only [l1]; cbv) | simp only [l1] | (simp only [w1]; cbv) | simp only [w1] | (refine ⟨hz, ?_⟩; cbv) | (simp only [w2]; cbv) | simp only [w2] | (simp only [d2]; cbv) | simp only [d2] | (refine ⟨p5,_,g5, ?_⟩; cbv) | (simp only [w3]; cbv) | simp only [w3] | (refine ⟨p1,p2, ?_⟩; cbv) | (refine ⟨_,g1, ?_⟩; cbv) | (simp only [d3]; cbv) | simp only [d3] | (refine ⟨c0, ?_⟩; cbv) | (simp only [a0]; cbv) | simp only [a0] | (refine ⟨q0,q1,q2, ?_⟩; cbv) | (refine ⟨q1,q2, ?_⟩; cbv) | (simp only [y1]; cbv) | simp only [y1] | (refine ⟨q1,q2,q3, ?_⟩; cbv) | (refine ⟨q2,q3, ?_⟩; cbv) | (refine ⟨q3, ?_⟩; cbv) | (simp only [y2]; cbv) | simp only [y2] | (refine ⟨c1, ?_⟩; cbv) | (simp only [a1]; cbv) | simp only [a1] | (refine ⟨c2, ?_⟩; cbv) | (simp only [a2]; cbv) | simp only [a2] | (refine ⟨_, hx, ?_⟩; cbv) | (refine ⟨_, hsame, ?_⟩; cbv))
      refine loop_by 110 [0, 7, 10, 12, 13, 16] 0 (fun x : Int => [.p (pS s), .p (.ro 3 A), .p (pI m), .p (pS GP), .p (.ro 3 B), .p (pI x)]) (fun _ => []) (SpI la) μ 0 ⟨rfl, rfl, rfl, rfl, rfl⟩ hI0 ?_
      clear hI0
      rintro i ⟨i0, i1⟩
      rcases Classical.em (i < la) with hlt | hlt
      · have b1 : E.lti i la = true := by rw [elt]; exact decide_eq_true hlt
        obtain ⟨kk, T, x1, x2, g2, g3, hxa, hxb, hx0, hx1⟩ := hrow i i0 hlt
        rw [← enat] at g2 g3
        have p3 := eple 0 i i0
        have k2 : decide (x2 = x2) = true := decide_eq_true rfl
        have b2 : E.lei m i = decide (m ≤ i) := ege _ _
        obtain ⟨i2, hi2⟩ : ∃ x : Int, i + 1 = x := ⟨_, rfl⟩
        have ei := eadd i 1 (by omega) (by omega) (by omega) (by omega)
        rw [hi2] at ei
        have hI2 : SpI la i2 := ⟨by omega, by omega⟩
        have hM2 : μ i2 < μ i := by rw [hμ, hμ]; omega
        rcases Classical.em (m ≤ i) with hmi | hmi
        · rw [decide_eq_true hmi] at b2
          have v1 := eadd x1 gl (by omega) (by omega) (by omega) (by omega)
          rw [hxa hmi] at v1
          clear hrow elt ege eple enat eadd hμ hi2 hlt i0 i1 hxa hxb hx0 hx1 hmi hgl8 hla8
          cbv
          repeat (first | (simp only [l1]; cbv) | simp only [l1] | (simp only [l2]; cbv) | simp only [l2] | (simp only [b1]; cbv) | simp only [b1] | (simp only [b2]; cbv) | simp only [b2] | (simp only [z2]; cbv) | simp only [z2] | (refine ⟨p3,_,g3, ?_⟩; cbv) | (refine ⟨p3,_,g2, ?_⟩; cbv) | (simp only [v1]; cbv) | simp only [v1] | (simp only [k2]; cbv) | simp only [k2] | (simp only [ei]; cbv) | simp only [ei])
          refine .mk i2 ⟨rfl, rfl, rfl, rfl, rfl⟩ ?_ ?_
          · exact hI2
          · exact hM2
        · rw [decide_eq_false hmi] at b2
          have v1 : E.wadd .i64 x1 0 = x2 := by
            rw [eadd x1 0 (by omega) (by omega) (by omega) (by omega), Int.add_zero]
            exact hxb (by omega)
          clear hrow elt ege eple enat eadd hμ hi2 hlt i0 i1 hxa hxb hx0 hx1 hmi hgl8 hla8
          cbv
          repeat (first | (simp only [l1]; cbv) | simp only [l1] | (simp only [l2]; cbv) | simp only [l2] | (simp only [b1]; cbv) | simp only [b1] | (simp only [b2]; cbv) | simp only [b2] | (simp only [z2]; cbv) | simp only [z2] | (refine ⟨p3,_,g3, ?_⟩; cbv) | (refine ⟨p3,_,g2, ?_⟩; cbv) | (simp only [v1]; cbv) | simp only [v1] | (simp only [k2]; cbv) | simp only [k2] | (simp only [ei]; cbv) | simp only [ei])
          refine .mk i2 ⟨rfl, rfl, rfl, rfl, rfl⟩ ?_ ?_
          · exact hI2
          · exact hM2
      · have b1 : E.lti i la = false := by rw [elt]; exact decide_eq_false hlt
        clear hrow elt ege eple enat eadd hμ hlt i0 i1 hgl8 hla8
        cbv
        repeat (first | (simp only [l1]; cbv) | simp only [l1] | (simp only [l2]; cbv) | simp only [l2] | (simp only [b1]; cbv) | simp only [b1])
    · have hme : m = la := by omega
      have hdm : decide (m = la) = true := decide_eq_true hme
      have hCC2 : CC = ⟨#[10]⟩ := by rw [← hCC, if_neg (by omega)]
      subst hCC2
      have hpn2 : p = n := by
        have := hpe (by omega)
        omega
      refine ret_by tyT_ok gl_gr mixed (fun n => match n with | 14 => 17 | 23 => 13 | _ => 0) Tryd.func4 rfl (by kernel_rfl) (by kernel_rfl) rfl fun P G E hc hE => ?_
      replace ha := hc _ _ _ ha
      replace hl := hc _ _ _ hl
      replace hx := hc _ _ _ hx
      replace hsame := hc _ _ _ hsame
      have z1 : E.size s = n := by rw [hE]; exact hn
      have d1 : E.lti 1000 n = false := by rw [hE]; exact decide_eq_false (by omega)
      have l1 : E.ofN A.length = la := by rw [hE]; exact hla
      have l2 : E.ofN B.length = la := by rw [hE]; exact hlb
      have w0 : E.wrap .i64 wh = wh := by rw [hE]; exact wrap_i64_in (by omega) (by omega)
      have w1 : E.wadd .i64 la 1 = la1 := by rw [hE, ← hla1]; exact wrap_i64_in (by omega) (by omega)
      have w2 : E.rem wh la1 = m := by rw [hE]; exact hm
      have w3 : E.rem ho 6 = h6 := by rw [hE]; exact hh6
      have hz : la1 = 0 → False := fun e => by omega
      have p1 : E.ple 0 h6 := by rw [hE]; exact hh0
      have p2 : E.plt h6 (E.ofN 6) := by rw [hE]; show h6 < (6 : Int); omega
      have g1 : gapRows[E.addN 0 (E.nat h6)]? = some [pS G0] := by rw [hE]; show gapRows[0 + h6.toNat]? = _; rw [Nat.zero_add]; exact hg0
      have q0 : E.ple 0 0 := by rw [hE]; exact Int.le_refl _
      have q1 : E.ple 0 p := by rw [hE]; exact hp0
      have q2 : E.ple p n := by rw [hE]; exact hp1
      have q3 : E.ple n n := by rw [hE]; exact Int.le_refl _
      have y1 : E.ext s (E.nat 0) (E.nat p) = S1 := by rw [hE]; exact hS1
      have y2 : E.ext s (E.nat p) (E.nat n) = S2 := by rw [hE]; exact hS2
      have c0 : E.cat ⟨#[10]⟩ G0 := by rw [hE]; show ((((⟨#[10]⟩ : ByteArray)).size : Nat) : Int) + ((G0.size : Nat) : Int) ≤ _; rw [hG0s]; show (1 : Int) + _ ≤ _; omega
      have a0 : E.add ⟨#[10]⟩ G0 = GP := by rw [hE]; exact hGP
      have c1 : E.cat S1 GP := by rw [hE]; show ((S1.size : Nat) : Int) + ((GP.size : Nat) : Int) ≤ _; omega
      have a1 : E.add S1 GP = Q1 := by rw [hE]; exact hQ1
      have c2 : E.cat Q1 S2 := by rw [hE]; show ((Q1.size : Nat) : Int) + ((S2.size : Nat) : Int) ≤ _; omega
      have a2 : E.add Q1 S2 = X := by rw [hE]; exact hX
      have z2 : E.size GP = gl := by rw [hE]; exact hgl
      have elt : ∀ a b, E.lti a b = decide (a < b) := fun a b => by rw [hE]; rfl
      have ege : ∀ a b, E.lei a b = decide (a ≤ b) := fun a b => by rw [hE]; rfl
      have eple : ∀ a b, a ≤ b → E.ple a b := fun a b h => by rw [hE]; exact h
      have enat : ∀ i, E.nat i = i.toNat := fun i => by rw [hE]; rfl
      have eadd : ∀ a b : Int, -1000000000 ≤ a → a ≤ 1000000000 → -1000000000 ≤ b → b ≤ 1000000000 → E.wadd .i64 a b = a + b := fun a b h0 h1 h2 h3 => by rw [hE]; exact wrap_i64_in (by omega) (by omega)
      have k0 : decide ((0 : Int) = 0) = true := rfl
      have d2 : E.lti m la = decide (m < la) := elt _ _
      have d3 := hdm
      have hgl8 : 0 ≤ gl ∧ gl ≤ 8 := by omega
      have hla8 : la ≤ 1000 := by omega
      unfold gapRows at g1
      cbv at l1 l2
      rw [decide_eq_false hlt] at d2
      rw [hpn2] at q1 q2 y1 y2
      clear hE hc hn hbig hb hcnt hsl hla0 hla1 hm hh6 hm01 hh0 hh5 hg0 hg1 hg2 hg7 hG0 hG0d hG0s hp1' hpe hpx hlx hp hp0 hp1 hpn hS1 hS2 hS1d hS2d hS1s hS2s hlen2 hA hAl hla hCC hCCd hCCs hGP hQ1 hX hGPs hQ1s hXs hXd hXn hB hBl hlb hgl hrem hdm hlt hpn2 hw hh hme
      cbv
      repeat (first | (refine ⟨_, ha, ?_⟩; cbv) | (simp only [z1]; cbv) | simp only [z1] | (simp only [d1]; cbv) | simp only [d1] | (refine ⟨_, hl, ?_⟩; cbv) | (simp only [k0]; cbv) | simp only [k0] | (simp only [w0]; cbv) | simp only [w0] | (simp only [l1]; cbv) | simp only [l1] | (simp only [w1]; cbv) | simp only [w1] | (refine ⟨hz, ?_⟩; cbv) | (simp only [w2]; cbv) | simp only [w2] | (simp only [d2]; cbv) | simp only [d2] | (simp only [w3]; cbv) | simp only [w3] | (refine ⟨p1,p2, ?_⟩; cbv) | (refine ⟨_,g1, ?_⟩; cbv) | (simp only [d3]; cbv) | simp only [d3] | (refine ⟨c0, ?_⟩; cbv) | (simp only [a0]; cbv) | simp only [a0] | (refine ⟨q0,q1,q2, ?_⟩; cbv) | (refine ⟨q1,q2, ?_⟩; cbv) | (simp only [y1]; cbv) | simp only [y1] | (refine ⟨q1,q2,q3, ?_⟩; cbv) | (refine ⟨q2,q3, ?_⟩; cbv) | (refine ⟨q3, ?_⟩; cbv) | (simp only [y2]; cbv) | simp only [y2] | (refine ⟨c1, ?_⟩; cbv) | (simp only [a1]; cbv) | simp only [a1] | (refine ⟨c2, ?_⟩; cbv) | (simp only [a2]; cbv) | simp only [a2] | (refine ⟨_, hx, ?_⟩; cbv) | (refine ⟨_, hsame, ?_⟩; cbv))
      refine loop_by 110 [0, 7, 10, 12, 13, 16] 0 (fun x : Int => [.p (pS s), .p (.ro 3 A), .p (pI m), .p (pS GP), .p (.ro 3 B), .p (pI x)]) (fun _ => []) (SpI la) μ 0 ⟨rfl, rfl, rfl, rfl, rfl⟩ hI0 ?_
      clear hI0
      rintro i ⟨i0, i1⟩
      rcases Classical.em (i < la) with hlt | hlt
      · have b1 : E.lti i la = true := by rw [elt]; exact decide_eq_true hlt
        obtain ⟨kk, T, x1, x2, g2, g3, hxa, hxb, hx0, hx1⟩ := hrow i i0 hlt
        rw [← enat] at g2 g3
        have p3 := eple 0 i i0
        have k2 : decide (x2 = x2) = true := decide_eq_true rfl
        have b2 : E.lei m i = decide (m ≤ i) := ege _ _
        obtain ⟨i2, hi2⟩ : ∃ x : Int, i + 1 = x := ⟨_, rfl⟩
        have ei := eadd i 1 (by omega) (by omega) (by omega) (by omega)
        rw [hi2] at ei
        have hI2 : SpI la i2 := ⟨by omega, by omega⟩
        have hM2 : μ i2 < μ i := by rw [hμ, hμ]; omega
        rcases Classical.em (m ≤ i) with hmi | hmi
        · rw [decide_eq_true hmi] at b2
          have v1 := eadd x1 gl (by omega) (by omega) (by omega) (by omega)
          rw [hxa hmi] at v1
          clear hrow elt ege eple enat eadd hμ hi2 hlt i0 i1 hxa hxb hx0 hx1 hmi hgl8 hla8
          cbv
          repeat (first | (simp only [l1]; cbv) | simp only [l1] | (simp only [l2]; cbv) | simp only [l2] | (simp only [b1]; cbv) | simp only [b1] | (simp only [b2]; cbv) | simp only [b2] | (simp only [z2]; cbv) | simp only [z2] | (refine ⟨p3,_,g3, ?_⟩; cbv) | (refine ⟨p3,_,g2, ?_⟩; cbv) | (simp only [v1]; cbv) | simp only [v1] | (simp only [k2]; cbv) | simp only [k2] | (simp only [ei]; cbv) | simp only [ei])
          refine .mk i2 ⟨rfl, rfl, rfl, rfl, rfl⟩ ?_ ?_
          · exact hI2
          · exact hM2
        · rw [decide_eq_false hmi] at b2
          have v1 : E.wadd .i64 x1 0 = x2 := by
            rw [eadd x1 0 (by omega) (by omega) (by omega) (by omega), Int.add_zero]
            exact hxb (by omega)
          clear hrow elt ege eple enat eadd hμ hi2 hlt i0 i1 hxa hxb hx0 hx1 hmi hgl8 hla8
          cbv
          repeat (first | (simp only [l1]; cbv) | simp only [l1] | (simp only [l2]; cbv) | simp only [l2] | (simp only [b1]; cbv) | simp only [b1] | (simp only [b2]; cbv) | simp only [b2] | (simp only [z2]; cbv) | simp only [z2] | (refine ⟨p3,_,g3, ?_⟩; cbv) | (refine ⟨p3,_,g2, ?_⟩; cbv) | (simp only [v1]; cbv) | simp only [v1] | (simp only [k2]; cbv) | simp only [k2] | (simp only [ei]; cbv) | simp only [ei])
          refine .mk i2 ⟨rfl, rfl, rfl, rfl, rfl⟩ ?_ ?_
          · exact hI2
          · exact hM2
      · have b1 : E.lti i la = false := by rw [elt]; exact decide_eq_false hlt
        clear hrow elt ege eple enat eadd hμ hlt i0 i1 hgl8 hla8
        cbv
        repeat (first | (simp only [l1]; cbv) | simp only [l1] | (simp only [l2]; cbv) | simp only [l2] | (simp only [b1]; cbv) | simp only [b1])
end Go.Proofs.YtnhbboknffppiaaDoor
