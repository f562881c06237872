/- Own work: LexerTwo. -/
import Derived.Test.YtnhbboknffppiaaDoorZLL2
namespace Go.Proofs.YtnhbboknffppiaaDoor
open Go.RowKit
set_option maxRecDepth 100000
set_option linter.unusedSimpArgs false

theorem lbegins_ret (s : ByteArray) (i : Int) (h0 : 0 ≤ i) (h1 : i ≤ (s.size : Nat)) (hs : s.size ≤ 1000000) (h : (rst s i).take 2 = [47, 42]) : V0 15 [pS s, pI i, pS ⟨#[47, 42]⟩] (pB true) := by
  obtain ⟨n, hn⟩ : ∃ n : Int, ((s.size : Nat) : Int) = n := ⟨_, rfl⟩
  have hrl := rst_len s i
  have h2 : 2 ≤ (rst s i).length := by
    have := congrArg List.length h
    rw [List.length_take] at this
    have e : ([47, 42] : Bs).length = 2 := rfl
    omega
  obtain ⟨d, hd⟩ : ∃ d : Int, n - i = d := ⟨_, rfl⟩
  obtain ⟨i2, hi2⟩ : ∃ d : Int, i + 2 = d := ⟨_, rfl⟩
  have hx : s.extract i.toNat i2.toNat = ⟨#[47, 42]⟩ := by
    refine bl_inj ?_
    rw [ext_list, show i2.toNat - i.toNat = 2 by omega, h]
  refine ret_by tyT_ok g0_gr mixed (fun _ => 0) Tryd.func15 rfl (by kernel_rfl) (by kernel_rfl) rfl fun P G E hc hE => ?_
  have z1 : E.size s = n := by rw [hE]; exact hn
  have z2 : E.size ⟨#[47, 42]⟩ = 2 := by rw [hE]; rfl
  have d1 : E.lei 0 i = true := by rw [hE]; exact decide_eq_true h0
  have d2 : E.lei i n = true := by rw [hE]; exact decide_eq_true (by omega)
  have w1 : E.wsub .i64 n i = d := by rw [hE, ← hd]; exact wrap_i64_in (by omega) (by omega)
  have d3 : E.lei 2 d = true := by rw [hE]; exact decide_eq_true (by omega)
  have w2 : E.wadd .i64 i 2 = i2 := by rw [hE, ← hi2]; exact wrap_i64_in (by omega) (by omega)
  have p1 : E.ple 0 i := by rw [hE]; exact h0
  have p2 : E.ple i i2 := by rw [hE]; show i ≤ i2; omega
  have p3 : E.ple i2 n := by rw [hE]; show i2 ≤ n; omega
  have q1 : E.eq (E.ext s (E.nat i) (E.nat i2)) ⟨#[47, 42]⟩ = true := by rw [hE]; exact decide_eq_true hx
  clear hE hc hn hrl h2 hd hi2 hx h
  cbv
  repeat (first | (simp only [z1]; cbv) | simp only [z1] | (simp only [z2]; cbv) | simp only [z2] | (simp only [d1]; cbv) | simp only [d1] | (simp only [d2]; cbv) | simp only [d2] | (simp only [w1]; cbv) | simp only [w1] | (simp only [d3]; cbv) | simp only [d3] | (simp only [w2]; cbv) | simp only [w2] | (refine ⟨p1,p2,p3, ?_⟩; cbv) | (simp only [q1]; cbv) | simp only [q1])
theorem tkRow_up (n m : Int) (d : Nat) (h : m = n + (d : Nat)) (x : Tk) : tkRow m (x.up d) = tkRow n x := by
  unfold tkRow Tk.up
  simp only
  have : m - ((x.rem + d : Nat) : Int) = n - (x.rem : Nat) := by omega
  rw [this]
theorem tkRows_up (n m : Int) (d : Nat) (h : m = n + (d : Nat)) (ts : List Tk) : tkRows m (ts.map (Tk.up d)) = tkRows n ts := by
  unfold tkRows
  rw [List.map_map]
  exact List.map_congr_left fun x _ => tkRow_up n m d h x
theorem lex_up_none {s t : Bs} {a b : List Tk} {e : Option (Nat × Int)} (h : lexB s = (a, none)) (h2 : lexB t = (b, e)) : lexB (s ++ 10 :: t) = (a.map (Tk.up (t.length + 1)) ++ b, e) := by
  have := (lex_two uB repairL t s.length s (Nat.le_refl _)).1 (by show (lexB s).2 = none; rw [h])
  change lexB (s ++ 10 :: t) = ((lexB s).1.map _ ++ (lexB t).1, (lexB t).2) at this
  rw [this, h, h2]
theorem lex_up_some {s : Bs} (t : Bs) {a : List Tk} {m : Nat} {e : Int} (h : lexB s = (a, some (m, e))) : (lexB (s ++ 10 :: t)).2 = some (m + (t.length + 1), e) ∨ ∃ u r, s = u ++ r ∧ r.length = m ∧ r.take 2 = [47, 42] :=
  (lex_two uB repairL t s.length s (Nat.le_refl _)).2 m e (by show (lexB s).2 = _; rw [h])
theorem lexF_rem : ∀ (n : Nat) (l : Bs) (m : Nat) (e : Int), (lexF uB repairL n l).2 = some (m, e) → m ≤ l.length
  | 0, _, _, _, h => by cases h
  | n + 1, l, m, e, h => by
    have hle := skp_le l
    rw [lexF] at h
    split at h
    · cases h; exact hle
    · split at h
      · cases h
      · split at h
        · cases h; exact hle
        · rename_i k t r ht
          have h1 := lexF_rem n r m e h
          have h2 := tok_lt uB repairL ht
          omega
theorem lexF_rem1 : ∀ (n : Nat) (l : Bs) {ts : List Tk} {er : Option (Nat × Int)}, lexF uB repairL n l = (ts, er) → ∀ x ∈ ts, x.rem ≤ l.length
  | 0, _, _, _, h, x, hx => by cases h; cases hx
  | n + 1, l, ts, er, h, x, hx => by
    have hle := skp_le l
    rw [lexF] at h
    split at h
    · cases h; cases hx
    · split at h
      · cases h; cases hx
      · split at h
        · cases h; cases hx
        · rename_i k t r ht
          cases h
          have h2 := tok_lt uB repairL ht
          rcases List.mem_cons.1 hx with rfl | hx
          · exact hle
          · have h1 := lexF_rem1 n r (ts := (lexF uB repairL n r).1) (er := (lexF uB repairL n r).2) rfl x hx
            omega
theorem lexF_cnt : ∀ (n : Nat) (l : Bs) {ts : List Tk} {er : Option (Nat × Int)}, lexF uB repairL n l = (ts, er) → ts.length ≤ l.length
  | 0, _, _, _, h => by cases h; exact Nat.zero_le _
  | n + 1, l, ts, er, h => by
    have hle := skp_le l
    rw [lexF] at h
    split at h
    · cases h; exact Nat.zero_le _
    · split at h
      · cases h; exact Nat.zero_le _
      · split at h
        · cases h; exact Nat.zero_le _
        · rename_i k t r ht
          cases h
          have h2 := tok_lt uB repairL ht
          have h1 := lexF_cnt n r (ts := (lexF uB repairL n r).1) (er := (lexF uB repairL n r).2) rfl
          simp only [List.length_cons]
          omega
structure TwI (n : Int) (i : Int) : Prop where
  i0 : 0 ≤ i
  i1 : i ≤ n
set_option maxHeartbeats 4000000 in
theorem ltwo_ret (s t : ByteArray) : RL 5 [pS s, pS t] (pB true) := by
  have ha := awake_ret
  obtain ⟨n, hn⟩ : ∃ n : Int, ((s.size : Nat) : Int) = n := ⟨_, rfl⟩
  obtain ⟨k, hk⟩ : ∃ n : Int, ((t.size : Nat) : Int) = n := ⟨_, rfl⟩
  rcases Classical.em (800 < n ∨ 800 < k) with hbig | hbig
  · have hb2 : 800 < n ∨ (¬ 800 < n ∧ 800 < k) := by omega
    rcases hb2 with h | ⟨h, h'⟩
    · refine ret_by tyT_ok gl_gr mixed (fun n => match n with | 16 => 32 | _ => 0) Tryd.func5 rfl (by kernel_rfl) (by kernel_rfl) rfl fun P G E hc hE => ?_
      replace ha := hc _ _ _ ha
      have z1 : E.size s = n := by rw [hE]; exact hn
      have d1 : E.lti 800 n = true := by rw [hE]; exact decide_eq_true h
      clear hE hc hn hk hbig h
      cbv
      repeat (first | (refine ⟨_, ha, ?_⟩; cbv) | (simp only [z1]; cbv) | simp only [z1] | (simp only [d1]; cbv) | simp only [d1])
    · refine ret_by tyT_ok gl_gr mixed (fun n => match n with | 16 => 32 | _ => 0) Tryd.func5 rfl (by kernel_rfl) (by kernel_rfl) rfl fun P G E hc hE => ?_
      replace ha := hc _ _ _ ha
      have z1 : E.size s = n := by rw [hE]; exact hn
      have z2 : E.size t = k := by rw [hE]; exact hk
      have d1 : E.lti 800 n = false := by rw [hE]; exact decide_eq_false h
      have d2 : E.lti 800 k = true := by rw [hE]; exact decide_eq_true h'
      clear hE hc hn hk hbig h h'
      cbv
      repeat (first | (refine ⟨_, ha, ?_⟩; cbv) | (simp only [z1]; cbv) | simp only [z1] | (simp only [d1]; cbv) | simp only [d1] | (simp only [z2]; cbv) | simp only [z2] | (simp only [d2]; cbv) | simp only [d2])
  obtain ⟨Y, hY⟩ : ∃ x, s ++ ⟨#[10]⟩ = x := ⟨_, rfl⟩
  obtain ⟨X, hX⟩ : ∃ x, Y ++ t = x := ⟨_, rfl⟩
  have hXd : X.data.toList = s.data.toList ++ 10 :: t.data.toList := by
    rw [← hX, ← hY, ByteArray.data_append, Array.toList_append, ByteArray.data_append, Array.toList_append, List.append_assoc]
    rfl
  have hYs : Y.size = s.size + 1 := by rw [← hY, ByteArray.size_append]; rfl
  have hXs : X.size = s.size + 1 + t.size := by rw [← hX, ByteArray.size_append, hYs]
  have hsl : s.data.toList.length = s.size := rfl
  have htl : t.data.toList.length = t.size := rfl
  have hl := lex_ret s (by omega)
  have hm := lex_ret t (by omega)
  have hx := lex_ret X (by omega)
  obtain ⟨ts1, er1, hb1⟩ : ∃ a b, lexB s.data.toList = (a, b) := ⟨_, _, rfl⟩
  obtain ⟨ts2, er2, hb2⟩ : ∃ a b, lexB t.data.toList = (a, b) := ⟨_, _, rfl⟩
  obtain ⟨tsX, erX, hbX⟩ : ∃ a b, lexB X.data.toList = (a, b) := ⟨_, _, rfl⟩
  cases er1 with
  | some p =>
    obtain ⟨m1, e1_⟩ := p
    have he1 : e1_ ≠ 0 := lexF_ne _ _ m1 e1_ (congrArg Prod.snd hb1)
    have hup := lex_up_some t.data.toList hb1
    rw [← hXd, hbX] at hup
    simp only at hup
    rw [lexR_bad hb1, hn] at hl
    obtain ⟨i, hi⟩ : ∃ x : Int, n - (m1 : Nat) = x := ⟨_, rfl⟩
    rw [hi] at hl
    have f1 : decide (e1_ = 0) = false := decide_eq_false he1
    -- the result of the second text does not matter
    obtain ⟨R2, A2, E2, hR2⟩ : ∃ R2 A2 E2, lexR t = .tup [R2, pI A2, pI E2] := by
      cases er2 with
      | none => exact ⟨_, _, _, lexR_ok hb2⟩
      | some p => exact ⟨_, _, _, lexR_bad hb2⟩
    rw [hR2] at hm
    rcases hup with hup | ⟨u, r, hu1, hu2, hu3⟩
    · subst hup
      rw [lexR_bad hbX] at hx
      have ei : ((X.size : Nat) : Int) - ((m1 + (t.data.toList.length + 1) : Nat) : Int) = i := by omega
      rw [ei] at hx
      refine ret_by tyT_ok gl_gr mixed (fun n => match n with | 16 => 32 | _ => 0) Tryd.func5 rfl (by kernel_rfl) (by kernel_rfl) rfl fun P G E hc hE => ?_
      replace ha := hc _ _ _ ha
      replace hl := hc _ _ _ hl
      replace hm := hc _ _ _ hm
      replace hx := hc _ _ _ hx
      have z1 : E.size s = n := by rw [hE]; exact hn
      have z2 : E.size t = k := by rw [hE]; exact hk
      have d1 : E.lti 800 n = false := by rw [hE]; exact decide_eq_false (by omega)
      have d2 : E.lti 800 k = false := by rw [hE]; exact decide_eq_false (by omega)
      have c1 : E.cat s ⟨#[10]⟩ := by rw [hE]; show ((s.size : Nat) : Int) + 1 ≤ _; omega
      have e1 : E.add s ⟨#[10]⟩ = Y := by rw [hE]; exact hY
      have c2 : E.cat Y t := by rw [hE]; show ((Y.size : Nat) : Int) + ((t.size : Nat) : Int) ≤ _; omega
      have e2 : E.add Y t = X := by rw [hE]; exact hX
      have f2 : decide (e1_ = e1_) = true := decide_eq_true rfl
      have f3 : decide (i = i) = true := decide_eq_true rfl
      clear hE hc hn hk hbig hb1 hb2 hbX he1 hi ei hsl htl hXd hYs hXs hY hX hR2
      cbv
      repeat (first | (refine ⟨_, ha, ?_⟩; cbv) | (simp only [z1]; cbv) | simp only [z1] | (simp only [d1]; cbv) | simp only [d1] | (simp only [z2]; cbv) | simp only [z2] | (simp only [d2]; cbv) | simp only [d2] | (refine ⟨_, hl, ?_⟩; cbv) | (refine ⟨_, hm, ?_⟩; cbv) | (refine ⟨c1, ?_⟩; cbv) | (simp only [e1]; cbv) | simp only [e1] | (refine ⟨c2, ?_⟩; cbv) | (simp only [e2]; cbv) | simp only [e2] | (refine ⟨_, hx, ?_⟩; cbv) | (simp only [f1]; cbv) | simp only [f1] | (simp only [f2]; cbv) | simp only [f2] | (simp only [f3]; cbv) | simp only [f3])
    · have hiu : i = (u.length : Nat) := by
        have := congrArg List.length hu1
        rw [List.length_append] at this
        omega
      have hbeg := upL (lbegins_ret s i (by omega) (by omega) (by omega) (by
        unfold rst
        rw [hiu, Int.toNat_natCast, hu1, List.drop_left]
        exact hu3))
      obtain ⟨RX, AX, EX, hRX⟩ : ∃ R2 A2 E2, lexR X = .tup [R2, pI A2, pI E2] := by
        cases erX with
        | none => exact ⟨_, _, _, lexR_ok hbX⟩
        | some p => exact ⟨_, _, _, lexR_bad hbX⟩
      rw [hRX] at hx
      obtain ⟨b2, f2⟩ : ∃ b, decide (EX = e1_) = b := ⟨_, rfl⟩
      obtain ⟨b3, f3⟩ : ∃ b, decide (AX = i) = b := ⟨_, rfl⟩
      refine ret_by tyT_ok gl_gr mixed (fun n => match n with | 16 => 32 | _ => 0) Tryd.func5 rfl (by kernel_rfl) (by kernel_rfl) rfl fun P G E hc hE => ?_
      replace ha := hc _ _ _ ha
      replace hl := hc _ _ _ hl
      replace hm := hc _ _ _ hm
      replace hx := hc _ _ _ hx
      have z1 : E.size s = n := by rw [hE]; exact hn
      have z2 : E.size t = k := by rw [hE]; exact hk
      have d1 : E.lti 800 n = false := by rw [hE]; exact decide_eq_false (by omega)
      have d2 : E.lti 800 k = false := by rw [hE]; exact decide_eq_false (by omega)
      have c1 : E.cat s ⟨#[10]⟩ := by rw [hE]; show ((s.size : Nat) : Int) + 1 ≤ _; omega
      have e1 : E.add s ⟨#[10]⟩ = Y := by rw [hE]; exact hY
      have c2 : E.cat Y t := by rw [hE]; show ((Y.size : Nat) : Int) + ((t.size : Nat) : Int) ≤ _; omega
      have e2 : E.add Y t = X := by rw [hE]; exact hX
      replace hbeg := hc _ _ _ hbeg
      clear hE hc hn hk hbig hb1 hb2 hbX he1 hi hsl htl hXd hYs hXs hY hX hR2 hRX hu1 hu2 hu3 hiu
      cases b2 <;> cases b3
      all_goals
        cbv
        repeat (first | (refine ⟨_, ha, ?_⟩; cbv) | (simp only [z1]; cbv) | simp only [z1] | (simp only [d1]; cbv) | simp only [d1] | (simp only [z2]; cbv) | simp only [z2] | (simp only [d2]; cbv) | simp only [d2] | (refine ⟨_, hl, ?_⟩; cbv) | (refine ⟨_, hm, ?_⟩; cbv) | (refine ⟨c1, ?_⟩; cbv) | (simp only [e1]; cbv) | simp only [e1] | (refine ⟨c2, ?_⟩; cbv) | (simp only [e2]; cbv) | simp only [e2] | (refine ⟨_, hx, ?_⟩; cbv) | (simp only [f1]; cbv) | simp only [f1] | (simp only [f2]; cbv) | simp only [f2] | (simp only [f3]; cbv) | simp only [f3] | (refine ⟨_, hbeg, ?_⟩; cbv))
  | none =>
    have hup := lex_up_none hb1 hb2
    rw [← hXd] at hup
    rw [lexR_ok hb1, hn] at hl
    have g0 : decide ((0 : Int) = 0) = true := rfl
    cases er2 with
    | some p =>
      obtain ⟨m2, e2_⟩ := p
      have he2 : e2_ ≠ 0 := lexF_ne _ _ m2 e2_ (congrArg Prod.snd hb2)
      rw [lexR_bad hb2, hk] at hm
      rw [lexR_bad hup] at hx
      obtain ⟨i, hi⟩ : ∃ x : Int, k - (m2 : Nat) = x := ⟨_, rfl⟩
      rw [hi] at hm
      obtain ⟨n1, hn1⟩ : ∃ x : Int, n + 1 = x := ⟨_, rfl⟩
      obtain ⟨j, hj⟩ : ∃ x : Int, n1 + i = x := ⟨_, rfl⟩
      have ei : ((X.size : Nat) : Int) - (m2 : Nat) = j := by omega
      rw [ei] at hx
      have hm2 : m2 ≤ t.size ∨ True := .inr trivial
      have f1 : decide (e2_ = 0) = false := decide_eq_false he2
      have f2 : decide (e2_ = e2_) = true := decide_eq_true rfl
      have f3 : decide (j = j) = true := decide_eq_true rfl
      have hib : i ≤ 800 ∧ -1000000000 ≤ i := by
        have := lexF_rem _ _ m2 e2_ (congrArg Prod.snd hb2)
        omega
      refine ret_by tyT_ok gl_gr mixed (fun n => match n with | 16 => 32 | _ => 0) Tryd.func5 rfl (by kernel_rfl) (by kernel_rfl) rfl fun P G E hc hE => ?_
      replace ha := hc _ _ _ ha
      replace hl := hc _ _ _ hl
      replace hm := hc _ _ _ hm
      replace hx := hc _ _ _ hx
      have z1 : E.size s = n := by rw [hE]; exact hn
      have z2 : E.size t = k := by rw [hE]; exact hk
      have d1 : E.lti 800 n = false := by rw [hE]; exact decide_eq_false (by omega)
      have d2 : E.lti 800 k = false := by rw [hE]; exact decide_eq_false (by omega)
      have c1 : E.cat s ⟨#[10]⟩ := by rw [hE]; show ((s.size : Nat) : Int) + 1 ≤ _; omega
      have e1 : E.add s ⟨#[10]⟩ = Y := by rw [hE]; exact hY
      have c2 : E.cat Y t := by rw [hE]; show ((Y.size : Nat) : Int) + ((t.size : Nat) : Int) ≤ _; omega
      have e2 : E.add Y t = X := by rw [hE]; exact hX
      have w1 : E.wadd .i64 n 1 = n1 := by rw [hE, ← hn1]; exact wrap_i64_in (by omega) (by omega)
      have w2 : E.wadd .i64 n1 i = j := by rw [hE, ← hj]; exact wrap_i64_in (by omega) (by omega)
      have o0 : E.ofN 0 = 0 := by rw [hE]; rfl
      clear hE hc hn hk hbig hb1 hb2 hbX he2 hi ei hsl htl hXd hYs hXs hY hX hn1 hj hm2 hib
      cbv
      repeat (first | (refine ⟨_, ha, ?_⟩; cbv) | (simp only [z1]; cbv) | simp only [z1] | (simp only [d1]; cbv) | simp only [d1] | (simp only [z2]; cbv) | simp only [z2] | (simp only [d2]; cbv) | simp only [d2] | (refine ⟨_, hl, ?_⟩; cbv) | (refine ⟨_, hm, ?_⟩; cbv) | (refine ⟨c1, ?_⟩; cbv) | (simp only [e1]; cbv) | simp only [e1] | (refine ⟨c2, ?_⟩; cbv) | (simp only [e2]; cbv) | simp only [e2] | (refine ⟨_, hx, ?_⟩; cbv) | (simp only [g0]; cbv) | simp only [g0] | (simp only [f1]; cbv) | simp only [f1] | (simp only [f2]; cbv) | simp only [f2] | (simp only [w1]; cbv) | simp only [w1] | (simp only [w2]; cbv) | simp only [w2] | (simp only [f3]; cbv) | simp only [f3] | (simp only [o0]; cbv) | simp only [o0])
    | none =>
      rw [lexR_ok hb2, hk] at hm
      rw [lexR_ok hup, tkRows_app, tkRows_up n (X.size : Nat) (t.data.toList.length + 1) (by omega)] at hx
      obtain ⟨A, hA⟩ : ∃ x, tkRows n ts1 = x := ⟨_, rfl⟩
      obtain ⟨B, hB⟩ : ∃ x, tkRows k ts2 = x := ⟨_, rfl⟩
      obtain ⟨B2, hB2⟩ : ∃ x, tkRows (X.size : Nat) ts2 = x := ⟨_, rfl⟩
      obtain ⟨C, hC⟩ : ∃ x, A ++ B2 = x := ⟨_, rfl⟩
      rw [hA] at hl hx
      rw [hB] at hm
      rw [hB2, hC] at hx
      have hal : A.length ≤ 800 := by rw [← hA, tkRows_len]; have := lexF_cnt _ _ (show lexF uB repairL (s.data.toList.length + 1) s.data.toList = _ from hb1); omega
      have hbl : B.length ≤ 800 := by rw [← hB, tkRows_len]; have := lexF_cnt _ _ (show lexF uB repairL (t.data.toList.length + 1) t.data.toList = _ from hb2); omega
      have hb2l : B2.length = B.length := by rw [← hB2, ← hB, tkRows_len, tkRows_len]
      have hcl : C.length = A.length + B.length := by rw [← hC, List.length_append, hb2l]
      obtain ⟨la, hla⟩ : ∃ x : Int, ((A.length : Nat) : Int) = x := ⟨_, rfl⟩
      obtain ⟨lb, hlb⟩ : ∃ x : Int, ((B.length : Nat) : Int) = x := ⟨_, rfl⟩
      obtain ⟨lc, hlc⟩ : ∃ x : Int, ((C.length : Nat) : Int) = x := ⟨_, rfl⟩
      have hsum : la + lb = lc := by omega
      have hcut : (C.take A.length).drop 0 = A := by rw [← hC, List.take_left, List.drop_zero]
      have hsame := upL (same_ret A A true rfl (by omega) fun i hi => by
        have hx : i < ts1.length := by rw [← hA, tkRows_len] at hi; exact hi
        have := tkRows_at (n := n) (List.getElem?_eq_getElem hx)
        rw [hA] at this
        exact ⟨_, _, _, _, this, this, fun _ => rfl⟩)
      have hrow : ∀ j : Int, 0 ≤ j → j < lb → ∃ kk T a a2 b1, B[j.toNat]? = some [pI kk, pS T, pI a] ∧ C[(la + j).toNat]? = some [pI kk, pS T, pI a2] ∧ a + n = b1 ∧ b1 + 1 = a2 ∧ -1000000 ≤ a ∧ a ≤ 1000000 := fun j h0 h1 => by
        have hx : j.toNat < ts2.length := by rw [← hB, tkRows_len] at hlb; omega
        have q1 := tkRows_at (n := k) (List.getElem?_eq_getElem hx)
        have q2 := tkRows_at (n := (X.size : Nat)) (List.getElem?_eq_getElem hx)
        rw [hB] at q1
        rw [hB2] at q2
        have hrem := lexF_rem1 _ _ (show lexF uB repairL (t.data.toList.length + 1) t.data.toList = _ from hb2) _ (List.getElem_mem hx)
        refine ⟨_, _, _, (X.size : Nat) - (ts2[j.toNat].rem : Nat), _, q1, ?_, rfl, ?_, ?_, ?_⟩
        · rw [← hC, List.getElem?_append_right (by omega), show (la + j).toNat - A.length = j.toNat by omega]
          exact q2
        · omega
        · omega
        · omega
      have hI0 : TwI lb 0 := ⟨Int.le_refl _, by omega⟩
      obtain ⟨μ, hμ⟩ : ∃ μ : Int → Nat, ∀ x, μ x = 2000000000 - x.toNat := ⟨_, fun _ => rfl⟩
      refine ret_by tyT_ok gl_gr mixed (fun n => match n with | 16 => 32 | _ => 0) Tryd.func5 rfl (by kernel_rfl) (by kernel_rfl) rfl fun P G E hc hE => ?_
      replace ha := hc _ _ _ ha
      replace hl := hc _ _ _ hl
      replace hm := hc _ _ _ hm
      replace hx := hc _ _ _ hx
      have z1 : E.size s = n := by rw [hE]; exact hn
      have z2 : E.size t = k := by rw [hE]; exact hk
      have d1 : E.lti 800 n = false := by rw [hE]; exact decide_eq_false (by omega)
      have d2 : E.lti 800 k = false := by rw [hE]; exact decide_eq_false (by omega)
      have c1 : E.cat s ⟨#[10]⟩ := by rw [hE]; show ((s.size : Nat) : Int) + 1 ≤ _; omega
      have e1 : E.add s ⟨#[10]⟩ = Y := by rw [hE]; exact hY
      have c2 : E.cat Y t := by rw [hE]; show ((Y.size : Nat) : Int) + ((t.size : Nat) : Int) ≤ _; omega
      have e2 : E.add Y t = X := by rw [hE]; exact hX
      replace hsame := hc _ _ _ hsame
      have l1 : E.ofN A.length = la := by rw [hE]; exact hla
      have l2 : E.ofN B.length = lb := by rw [hE]; exact hlb
      have l3 : E.ofN C.length = lc := by rw [hE]; exact hlc
      have w0 : E.wadd .i64 la lb = lc := by rw [hE, ← hsum]; exact wrap_i64_in (by omega) (by omega)
      have f1 : decide (lc = lc) = true := decide_eq_true rfl
      have p1 : E.ple 0 la := by rw [hE]; show 0 ≤ la; omega
      have p2 : E.ple la lc := by rw [hE]; show la ≤ lc; omega
      have p3 : E.ple 0 0 := by rw [hE]; exact Int.le_refl _
      have p4 : E.ple lc lc := by rw [hE]; exact Int.le_refl _
      have x1 : E.cut C (E.nat 0) (E.nat la) = A := by rw [hE]; show (C.take la.toNat).drop 0 = A; rw [show la.toNat = A.length by omega]; exact hcut
      have elt : ∀ a b, E.lti a b = decide (a < b) := fun a b => by rw [hE]; rfl
      have eple : ∀ a b, a ≤ b → E.ple a b := fun a b h => by rw [hE]; exact h
      have enat : ∀ i, E.nat i = i.toNat := fun i => by rw [hE]; rfl
      have eadd : ∀ a b : Int, -1000000000 ≤ a → a ≤ 1000000000 → -1000000000 ≤ b → b ≤ 1000000000 → E.wadd .i64 a b = a + b := fun a b h0 h1 h2 h3 => by rw [hE]; exact wrap_i64_in (by omega) (by omega)
      have eeq : ∀ a, E.eq a a = true := fun a => by rw [hE]; exact decide_eq_true rfl
      have hnb : n ≤ 800 := by omega
      have hn0 : 0 ≤ n := by omega
      have hlab : la ≤ 800 ∧ 0 ≤ la ∧ lb ≤ 800 := by omega
      clear hE hc hk hbig hb1 hb2 hbX hup hsl htl hXd hYs hXs hY hX hA hB hB2 hC hal hbl hb2l hcl hla hlb hlc hsum hcut hn
      cbv at l1 l2 l3
      cbv
      repeat (first | (refine ⟨_, ha, ?_⟩; cbv) | (simp only [z1]; cbv) | simp only [z1] | (simp only [d1]; cbv) | simp only [d1] | (simp only [z2]; cbv) | simp only [z2] | (simp only [d2]; cbv) | simp only [d2] | (refine ⟨_, hl, ?_⟩; cbv) | (refine ⟨_, hm, ?_⟩; cbv) | (refine ⟨c1, ?_⟩; cbv) | (simp only [e1]; cbv) | simp only [e1] | (refine ⟨c2, ?_⟩; cbv) | (simp only [e2]; cbv) | simp only [e2] | (refine ⟨_, hx, ?_⟩; cbv) | (simp only [g0]; cbv) | simp only [g0] | (simp only [l1]; cbv) | simp only [l1] | (simp only [l2]; cbv) | simp only [l2] | (simp only [l3]; cbv) | simp only [l3] | (simp only [w0]; cbv) | simp only [w0] | (simp only [f1]; cbv) | simp only [f1] | (refine ⟨p3,p1,p2, ?_⟩; cbv) | (refine ⟨p1,p2, ?_⟩; cbv) | (refine ⟨p1,p2,p4, ?_⟩; cbv) | (simp only [x1]; cbv) | simp only [x1] | (refine ⟨_, hsame, ?_⟩; cbv))
      refine loop_by 150 [0, 5, 8, 11, 14] 0 (fun x : Int => [.p (pS s), .p (.ro 3 A), .p (.ro 3 B), .p (.ro 3 C), .p (pI x)]) (fun _ => []) (TwI lb) μ 0 ⟨rfl, rfl, rfl, rfl, rfl⟩ hI0 ?_
      clear hI0 ha d1 d2 hl hm hx hsame c1 c2 e1 e2
      rintro j ⟨j0, j1⟩
      rcases Classical.em (j < lb) with hlt | hlt
      · have d1 : E.lti j lb = true := by rw [elt]; exact decide_eq_true hlt
        obtain ⟨kk, T, a, a2, b1, g1, g2, hb1, hb2, ha0, ha1⟩ := hrow j j0 hlt
        obtain ⟨lj, hlj⟩ : ∃ x : Int, la + j = x := ⟨_, rfl⟩
        rw [hlj] at g2
        have v1 := eadd la j (by omega) (by omega) (by omega) (by omega)
        rw [hlj] at v1
        have v2 := eadd a n (by omega) (by omega) (by omega) (by omega)
        rw [hb1] at v2
        have v3 := eadd b1 1 (by omega) (by omega) (by omega) (by omega)
        rw [hb2] at v3
        rw [← enat] at g1 g2
        have p5 := eple 0 j j0
        have p6 := eple 0 lj (by omega)
        have q1 := eeq T
        have k1 : decide (kk = kk) = true := decide_eq_true rfl
        have k2 : decide (a2 = a2) = true := decide_eq_true rfl
        obtain ⟨i2, hi2⟩ : ∃ x : Int, j + 1 = x := ⟨_, rfl⟩
        have ei := eadd j 1 (by omega) (by omega) (by omega) (by omega)
        rw [hi2] at ei
        have hI2 : TwI lb i2 := ⟨by omega, by omega⟩
        have hM2 : μ i2 < μ j := by rw [hμ, hμ]; omega
        clear hrow elt eple enat eadd eeq hμ hi2 hlt j0 j1 hb1 hb2 ha0 ha1 hlj hnb hn0 hlab
        cbv
        repeat (first | (simp only [l1]; cbv) | simp only [l1] | (simp only [l2]; cbv) | simp only [l2] | (simp only [l3]; cbv) | simp only [l3] | (simp only [d1]; cbv) | simp only [d1] | (simp only [v1]; cbv) | simp only [v1] | (refine ⟨p6,_,g2, ?_⟩; cbv) | (refine ⟨p5,_,g1, ?_⟩; cbv) | (simp only [k1]; cbv) | simp only [k1] | (simp only [q1]; cbv) | simp only [q1] | (simp only [z1]; cbv) | simp only [z1] | (simp only [v2]; cbv) | simp only [v2] | (simp only [v3]; cbv) | simp only [v3] | (simp only [k2]; cbv) | simp only [k2] | (simp only [ei]; cbv) | simp only [ei])
        refine .mk i2 ⟨rfl, rfl, rfl, rfl, rfl⟩ ?_ ?_
        · exact hI2
        · exact hM2
      · have d1 : E.lti j lb = false := by rw [elt]; exact decide_eq_false hlt
        clear hrow elt eple enat eadd eeq hμ hlt j0 j1 hnb hn0 hlab
        cbv
        repeat (first | (simp only [l1]; cbv) | simp only [l1] | (simp only [l2]; cbv) | simp only [l2] | (simp only [l3]; cbv) | simp only [l3] | (simp only [d1]; cbv) | simp only [d1])
end Go.Proofs.YtnhbboknffppiaaDoor
