/- Own work: package knapsackref25: Repair, literal. -/
import Derived.Test.YtnhbboknffppiaaDoorZLA9
import Derived.Test.YtnhbboknffppiaaDoorZGS
import Derived.Laws.Cover4
namespace Go.Proofs.YtnhbboknffppiaaDoor
open Go.RowKit
set_option maxRecDepth 100000
set_option linter.unusedSimpArgs false

theorem escL_4 {l t r : Bs} (h : escL uB l = some (t, r)) : t.length ≤ 4 := by
  have hu : ∀ n : Nat, (uB n).length ≤ 4 := fun n => encL_length (n : Int)
  cases l with
  | nil => cases h
  | cons c l =>
    rw [escL] at h
    cases ht : escT c with
    | some d =>
      rw [ht] at h
      obtain ⟨rfl, rfl⟩ := Prod.mk.inj (Option.some.inj h)
      show (1 : Nat) ≤ 4
      omega
    | none =>
      rw [ht] at h
      simp only at h
      split at h
      · split at h
        · cases h
        · obtain ⟨rfl, rfl⟩ := Prod.mk.inj (Option.some.inj h)
          show (1 : Nat) ≤ 4
          omega
      · split at h
        · match l, h with
          | x :: y :: l, h =>
            rw [hxL] at h
            cases h1 : hexv x with
            | none => rw [h1] at h; cases h
            | some v =>
              cases h2 : hexv y with
              | none => rw [h1, h2] at h; cases h
              | some w =>
                rw [h1, h2] at h
                obtain ⟨rfl, rfl⟩ := Prod.mk.inj (Option.some.inj h)
                exact hu _
        · split at h
          · match l, h with
            | x :: l, h =>
              rw [ptL] at h
              split at h
              · cases hd : l.dropWhile isHex with
                | nil => rw [hd] at h; cases h
                | cons d r2 =>
                  rw [hd] at h
                  simp only at h
                  split at h
                  · obtain ⟨rfl, rfl⟩ := Prod.mk.inj (Option.some.inj h)
                    exact hu _
                  · cases h
              · cases h
          · cases h
structure RpI (s : ByteArray) (x : ByteArray × Nat) : Prop where
  acc : x.1.data.toList ++ repairL (s.data.toList.drop x.2) = repairL s.data.toList
  sz : x.1.size ≤ 4 * x.2
theorem enc_4 (r : Int) : (Utf8.encode r).size ≤ 4 := by
  have h := encL_length r
  have e : (encL r).length = (Utf8.encode r).size := rfl
  omega
theorem repair_at_end (s acc : ByteArray) (pos : Nat) (hp : ¬ pos < s.size) (h : acc.data.toList ++ repairL (s.data.toList.drop pos) = repairL s.data.toList) : acc = repairS s := by
  have hd : s.data.toList.drop pos = [] := List.drop_eq_nil_of_le (by have : s.data.size = s.size := rfl; simp; omega)
  rw [hd, show repairL [] = [] from rfl, List.append_nil] at h
  refine bl_inj ?_
  rw [h]; rfl
set_option maxHeartbeats 1000000 in
theorem rrepair_ret (s : ByteArray) (hs : s.size ≤ 8000000) : V0 22 [pS s] (pS (repairS s)) := by
  obtain ⟨R, hR⟩ : ∃ x, repairS s = x := ⟨_, rfl⟩
  rw [hR]
  obtain ⟨n, hn⟩ : ∃ n : Int, ((s.size : Nat) : Int) = n := ⟨_, rfl⟩
  obtain ⟨μ, hμ⟩ : ∃ μ : ByteArray × Nat → Nat, ∀ x, μ x = s.size - x.2 := ⟨_, fun _ => rfl⟩
  have hI0 : RpI s (⟨#[]⟩, 0) := ⟨rfl, Nat.le_refl _⟩
  refine ret_by tyT_ok g0_gr mixed (fun _ => 0) Tryd.func22 rfl (by kernel_rfl) (by kernel_rfl) rfl fun P G E hc hE => ?_
  have z1 : E.size s = n := by rw [hE]; exact hn
  have elt : ∀ p : Nat, E.lti (E.ofN p) n = decide (p < s.size) := fun p => by
    rw [hE, ← hn]
    show decide (((p : Nat) : Int) < ((s.size : Nat) : Int)) = _
    exact decide_eq_decide.2 (by omega)
  have eadd : ∀ p, E.addN p (E.decW s p) = p + (Utf8.decode s p).2 := fun p => by rw [hE]; rfl
  have ecat : ∀ a b : ByteArray, a.size ≤ 100000000 → b.size ≤ 100000000 → E.cat a b := fun a b h1 h2 => by rw [hE]; show ((a.size : Nat) : Int) + ((b.size : Nat) : Int) ≤ _; omega
  have eenc0 : ∀ x : Int, E.enc x = Utf8.encode x := fun x => by rw [hE]; rfl
  have edec : ∀ p : Nat, E.decR s p = (((Utf8.decode s p).1 : Nat) : Int) := fun p => by rw [hE]; rfl
  have eenc : ∀ p, E.enc (E.decR s p) = Utf8.encode ((Utf8.decode s p).1 : Int) := fun p => by rw [eenc0, edec]
  have eadd0 : ∀ a b, E.add a b = a ++ b := fun a b => by rw [hE]; rfl
  have eapp : ∀ a p, E.add a (E.enc (E.decR s p)) = a ++ Utf8.encode ((Utf8.decode s p).1 : Int) := fun a p => by rw [eenc, eadd0]
  clear hE hc
  cbv
  refine loop_by 16 [0, 3, 7] 1 (fun x : ByteArray × Nat => [.p (pS s), .p (pS x.1), .own 0 0]) (fun x => [some (.iter s x.2)]) (RpI s) μ (⟨#[]⟩, 0) ⟨rfl, rfl, rfl, rfl, rfl⟩ hI0 ?_
  clear hI0
  rintro ⟨acc, pos⟩ ⟨h1, h2⟩
  simp only at h1 h2
  have d1 := elt pos
  rcases Classical.em (pos < s.size) with hp | hp
  · rw [decide_eq_true hp] at d1
    obtain ⟨r, wd, hd⟩ : ∃ r wd, Utf8.decode s pos = (r, wd) := ⟨_, _, rfl⟩
    have hw : 1 ≤ wd := by
      by_cases ha : (s[pos]'hp).toNat < 128
      · have := decode_ascii s pos hp ha
        rw [hd] at this
        have e := congrArg Prod.snd this
        simp only at e
        omega
      · have := (decode_high s pos hp (by omega)).2
        rw [hd] at this
        simp only at this
        omega
    have hst := rep_step s pos r wd acc (repairL s.data.toList) hp hd h1
    have ha4 := enc_4 (r : Int)
    have hx : E.addN pos (E.decW s pos) = pos + wd := by rw [eadd, hd]
    have hy : E.add acc (E.enc (E.decR s pos)) = acc ++ Utf8.encode (r : Int) := by rw [eapp, hd]
    have hz : E.enc (E.decR s pos) = Utf8.encode (r : Int) := by rw [eenc, hd]
    have hc1 : E.cat acc (E.enc (E.decR s pos)) := ecat _ _ (by omega) (by rw [hz]; omega)
    have hI2 : RpI s (E.add acc (E.enc (E.decR s pos)), E.addN pos (E.decW s pos)) := by
      rw [hx, hy]
      refine ⟨hst, ?_⟩
      show (acc ++ Utf8.encode (r : Int)).size ≤ 4 * (pos + wd)
      rw [ByteArray.size_append]
      omega
    have hM : μ (E.add acc (E.enc (E.decR s pos)), E.addN pos (E.decW s pos)) < μ (acc, pos) := by
      rw [hμ, hμ, hx]
      show s.size - (pos + wd) < s.size - pos
      omega
    clear hst ha4 hx hy hz elt eadd ecat eenc eapp eenc0 edec eadd0
    cbv
    repeat (first | (simp only [z1]; cbv) | simp only [z1] | (simp only [d1]; cbv) | simp only [d1] | (refine ⟨hc1, ?_⟩; cbv))
    refine .mk (E.add acc (E.enc (E.decR s pos)), E.addN pos (E.decW s pos)) ⟨rfl, rfl, rfl, rfl, rfl⟩ ?_ ?_
    · exact hI2
    · exact hM
  · rw [decide_eq_false hp] at d1
    have := repair_at_end s acc pos hp h1
    rw [hR] at this
    subst this
    clear elt eadd ecat eenc eapp hR eenc0 edec eadd0
    cbv
    repeat (first | (simp only [z1]; cbv) | simp only [z1] | (simp only [d1]; cbv) | simp only [d1])
/-- what literal returns -/
def litR (s : ByteArray) (a : Int) (q : UInt8) : PV := match lit uB q (rst s (a + 1)) with
  | none => .tup [pS ⟨#[]⟩, pI 0]
  | some p => .tup [pS (repairS (bL p.1)), pI ((s.size : Nat) - (p.2.length : Nat) - a)]
structure LitI (s : ByteArray) (n a : Int) (q : UInt8) (R : Option (Bs × Bs)) (x : Int × ByteArray) : Prop where
  j0 : a + 1 ≤ x.1
  j1 : x.1 ≤ n
  sz : ((x.2.size : Nat) : Int) ≤ 4 * (x.1 - a)
  eq : R = (lit uB q (rst s x.1)).map fun z => (x.2.data.toList ++ z.1, z.2)
set_option maxHeartbeats 4000000 in
theorem rliteral_ret (s : ByteArray) (a : Int) (q : UInt8) (h0 : 0 ≤ a) (hq : s.data.toList[a.toNat]? = some q) (hs : s.size ≤ 1500000) : V0 40 [pS s, pI a] (litR s a q) := by
  obtain ⟨n, hn⟩ : ∃ n : Int, ((s.size : Nat) : Int) = n := ⟨_, rfl⟩
  have h1 : a < n := by
    have := (List.getElem?_eq_some_iff.1 hq).1
    have e : s.data.toList.length = s.size := rfl
    omega
  have hget : ∀ i : Int, 0 ≤ i → i < n → ∃ c, s.data.toList[i.toNat]? = some c := fun i hi0 hi1 => ⟨_, List.getElem?_eq_getElem (by show i.toNat < s.size; omega)⟩
  obtain ⟨a1, ha1⟩ : ∃ x : Int, a + 1 = x := ⟨_, rfl⟩
  obtain ⟨RV, hRV⟩ : ∃ x, litR s a q = x := ⟨_, rfl⟩
  rw [hRV]
  obtain ⟨RL, hRL⟩ : ∃ x, lit uB q (rst s (a + 1)) = x := ⟨_, rfl⟩
  have hnone : RL = none → RV = .tup [pS ⟨#[]⟩, pI 0] := fun h => by
    rw [← hRV]; unfold litR; rw [hRL, h]
  have hsome : ∀ t r', RL = some (t, r') → RV = .tup [pS (repairS (bL t)), pI (n - (r'.length : Nat) - a)] := fun t r' h => by
    rw [← hRV]; unfold litR; rw [hRL, h, ← hn]
  obtain ⟨μ, hμ⟩ : ∃ μ : Int × ByteArray → Nat, ∀ x, μ x = 2000000000 - x.1.toNat := ⟨_, fun _ => rfl⟩
  have hI0 : LitI s n a q RL (a1, ⟨#[]⟩) := ⟨by show a + 1 ≤ a1; omega, by show a1 ≤ n; omega, by show (0 : Int) ≤ 4 * (a1 - a); omega, by
    show RL = (lit uB q (rst s a1)).map fun z => ([] ++ z.1, z.2)
    rw [← ha1, hRL]
    cases RL <;> rfl⟩
  obtain ⟨zq, hzq⟩ : ∃ z : Int, ((q.toNat : Nat) : Int) = z := ⟨_, rfl⟩
  have hesc := fun (i : Int) (h0 : 0 ≤ i) (h1 : i ≤ n) => escape_ret s i h0 (by omega) (by omega)
  have hrep := fun (t : ByteArray) (h : t.size ≤ 8000000) => rrepair_ret t h
  refine ret_by tyT_ok g0_gr mixed (fun _ => 0) Tryd.func40 rfl (by kernel_rfl) (by kernel_rfl) rfl fun P G E hc hE => ?_
  replace hesc := fun (i : Int) (h0 : 0 ≤ i) (h1 : i ≤ n) => hc _ _ _ (hesc i h0 h1)
  replace hrep := fun (t : ByteArray) (h : t.size ≤ 8000000) => hc _ _ _ (hrep t h)
  have z1 : E.size s = n := by rw [hE]; exact hn
  have elt : ∀ a b, E.lti a b = decide (a < b) := fun a b => by rw [hE]; rfl
  have eple : ∀ a b, a ≤ b → E.ple a b := fun a b h => by rw [hE]; exact h
  have eget : ∀ (i : Int) (c : UInt8) (z : Int), s.data.toList[i.toNat]? = some c → ((c.toNat : Nat) : Int) = z → E.get s (E.nat i) = some z := fun i c z h hz => by
    rw [hE]
    show (s.data.toList[i.toNat]?).map _ = some z
    rw [h, ← hz]
    rfl
  have eadd : ∀ a b : Int, -1000000000 ≤ a → a ≤ 1000000000 → -1000000000 ≤ b → b ≤ 1000000000 → E.wadd .i64 a b = a + b := fun a b h0 h1 h2 h3 => by rw [hE]; exact wrap_i64_in (by omega) (by omega)
  have esub : ∀ a b : Int, -1000000000 ≤ a → a ≤ 1000000000 → -1000000000 ≤ b → b ≤ 1000000000 → E.wsub .i64 a b = a - b := fun a b h0 h1 h2 h3 => by rw [hE]; exact wrap_i64_in (by omega) (by omega)
  have ecat : ∀ a b : ByteArray, a.size ≤ 100000000 → b.size ≤ 100000000 → E.cat a b := fun a b h1 h2 => by rw [hE]; show ((a.size : Nat) : Int) + ((b.size : Nat) : Int) ≤ _; omega
  have ejoin : ∀ a b, E.add a b = a ++ b := fun a b => by rw [hE]; rfl
  have eext : ∀ i j : Int, E.ext s (E.nat i) (E.nat j) = s.extract i.toNat j.toNat := fun i j => by rw [hE]; rfl
  have ei := eadd a 1 (by omega) (by omega) (by omega) (by omega)
  rw [ha1] at ei
  have g0 := eget a q zq hq hzq
  have p0 := eple 0 a h0
  clear hE hc
  cbv
  repeat (first | (simp only [z1]; cbv) | simp only [z1] | (refine ⟨p0,_,g0, ?_⟩; cbv) | (simp only [ei]; cbv) | simp only [ei])
  refine loop_by 66 [0, 1, 6, 7, 8] 0 (fun x : Int × ByteArray => [.p (pS s), .p (pI a), .p (.v (.int .u8 zq)), .p (pS x.2), .p (pI x.1)]) (fun _ => []) (LitI s n a q RL) μ (a1, ⟨#[]⟩) ⟨rfl, rfl, rfl, rfl, rfl⟩ hI0 ?_
  clear hI0
  rintro ⟨j, out⟩ ⟨j0, j1, hsz, heq⟩
  simp only at j0 j1 hsz heq
  replace hn : ((s.size : Nat) : Int) = n := hn
  replace hsz : ((out.size : Nat) : Int) ≤ 4 * (j - a) := hsz
  replace hzq : ((q.toNat : Nat) : Int) = zq := hzq
  have hsn : n ≤ 1500000 := by omega
  rcases Classical.em (j < n) with hlt | hlt
  · have d1 : E.lti j n = true := by rw [elt]; exact decide_eq_true hlt
    obtain ⟨c, hci⟩ := hget j (by omega) hlt
    obtain ⟨z, hz⟩ : ∃ z : Int, ((c.toNat : Nat) : Int) = z := ⟨_, rfl⟩
    have g1 := eget j c z hci hz
    have p1 := eple 0 j (by omega)
    have hc0 := rst_cons (by omega) hci
    obtain ⟨j2, hj2⟩ : ∃ x : Int, j + 1 = x := ⟨_, rfl⟩
    have ej := eadd j 1 (by omega) (by omega) (by omega) (by omega)
    rw [hj2] at ej
    rw [hc0, hj2] at heq
    have hrl := rst_len s j2
    rcases Classical.em (c = q) with hcq | hcq
    · -- the end
      rw [hcq, lit_end] at heq
      have hv := hsome _ _ heq
      rw [List.append_nil, bL_of] at hv
      have es := esub j2 a (by omega) (by omega) (by omega) (by omega)
      obtain ⟨g, hg⟩ : ∃ x : Int, j2 - a = x := ⟨_, rfl⟩
      rw [hg] at es
      have hg2 : n - ((rst s j2).length : Nat) - a = g := by omega
      rw [hg2] at hv
      have hr := hrep out (by omega)
      obtain ⟨O, hO⟩ : ∃ x, repairS out = x := ⟨_, rfl⟩
      rw [hO] at hr hv
      have w1 : decide (z = zq) = true := decide_eq_true (by rw [← hz, ← hzq, hcq])
      subst hv
      clear hnone hsome hget hesc hrep elt eple eget eadd esub ecat ejoin eext heq hrl hc0 hci hz hcq hO hg hg2 hRV hRL g0 hzq hq hn hsz
      cbv
      repeat (first | (simp only [z1]; cbv) | simp only [z1] | (simp only [d1]; cbv) | simp only [d1] | (refine ⟨p1,_,g1, ?_⟩; cbv) | (simp only [w1]; cbv) | simp only [w1] | (refine ⟨_, hr, ?_⟩; cbv) | (simp only [ej]; cbv) | simp only [ej] | (simp only [es]; cbv) | simp only [es])
    · have w1 : decide (z = zq) = false := decide_eq_false (by
        rw [← hz, ← hzq]
        intro h
        exact hcq (UInt8.toNat_inj.1 (by omega)))
      have hnl : ∀ k : UInt8, c ≠ k → decide (z = ((k.toNat : Nat) : Int)) = false := fun k h => z_ne hz k h
      rcases Classical.em (c = 10 ∨ c = 13) with hb | hb
      · rw [lit_brk _ _ hcq hb] at heq
        have hv := hnone heq
        subst hv
        rcases Classical.em (c = 10) with h10 | h10
        · have w2 : decide (z = 10) = true := decide_eq_true (by rw [← hz, h10]; rfl)
          clear hnone hsome hget hesc hrep elt eple eget eadd esub ecat ejoin eext heq hrl hc0 hci hz hcq hRV hRL g0 hzq hq hn hsz hnl hb h10
          cbv
          repeat (first | (simp only [z1]; cbv) | simp only [z1] | (simp only [d1]; cbv) | simp only [d1] | (refine ⟨p1,_,g1, ?_⟩; cbv) | (simp only [w1]; cbv) | simp only [w1] | (simp only [w2]; cbv) | simp only [w2])
        · have h13 : c = 13 := hb.resolve_left h10
          have w2 : decide (z = 10) = false := hnl 10 h10
          have w3 : decide (z = 13) = true := decide_eq_true (by rw [← hz, h13]; rfl)
          clear hnone hsome hget hesc hrep elt eple eget eadd esub ecat ejoin eext heq hrl hc0 hci hz hcq hRV hRL g0 hzq hq hn hsz hnl hb h10 h13
          cbv
          repeat (first | (simp only [z1]; cbv) | simp only [z1] | (simp only [d1]; cbv) | simp only [d1] | (refine ⟨p1,_,g1, ?_⟩; cbv) | (simp only [w1]; cbv) | simp only [w1] | (simp only [w2]; cbv) | simp only [w2] | (simp only [w3]; cbv) | simp only [w3])
      · have w2 : decide (z = 10) = false := hnl 10 (fun e => hb (.inl e))
        have w3 : decide (z = 13) = false := hnl 13 (fun e => hb (.inr e))
        rcases Classical.em (c = 92) with h92 | h92
        · have w4 : decide (z = 92) = true := decide_eq_true (by rw [← hz, h92]; rfl)
          have he := hesc j2 (by omega) (by omega)
          cases hes : escL uB (rst s j2) with
          | none =>
            rw [lit_esc0 _ hcq hb h92 hes] at heq
            have hv := hnone heq
            subst hv
            rw [escR_none hes] at he
            clear hnone hsome hget hesc hrep elt eple eget eadd esub ecat ejoin eext heq hrl hc0 hci hz hcq hRV hRL g0 hzq hq hn hsz hnl hb h92 hes
            cbv
            repeat (first | (simp only [z1]; cbv) | simp only [z1] | (simp only [d1]; cbv) | simp only [d1] | (refine ⟨p1,_,g1, ?_⟩; cbv) | (simp only [w1]; cbv) | simp only [w1] | (simp only [w2]; cbv) | simp only [w2] | (simp only [w3]; cbv) | simp only [w3] | (simp only [w4]; cbv) | simp only [w4] | (simp only [ej]; cbv) | simp only [ej] | (refine ⟨_, he, ?_⟩; cbv))
          | some p =>
            obtain ⟨t, r⟩ := p
            rw [escR_some hes, hn] at he
            have hlt2 := escL_lt uB hes
            simp only at hlt2
            obtain ⟨u, hu1, hu2, hu3⟩ := escL_app uB hes
            have h4 := escL_4 hes
            rw [lit_esc _ hcq hb h92 hes] at heq
            simp only at heq
            obtain ⟨m, hm⟩ : ∃ x : Int, n - (r.length : Nat) - j2 = x := ⟨_, rfl⟩
            rw [hm] at he
            have hm0 : 0 < m := by omega
            have w5 : decide (m = 0) = false := decide_eq_false (by omega)
            have hrr : r = rst s (j + (m + 1)) := by
              have e1 : rst s j2 = s.data.toList.drop j2.toNat := rfl
              have e2 : s.data.toList.drop (j + (m + 1)).toNat = (s.data.toList.drop j2.toNat).drop m.toNat := by
                rw [List.drop_drop]
                congr 1
                omega
              show r = s.data.toList.drop (j + (m + 1)).toNat
              rw [e2, ← e1, hu2]
              have e3 : u.length = m.toNat := by
                have := congrArg List.length hu2
                rw [List.length_append] at this
                omega
              rw [← e3, List.drop_left]
            rw [hrr] at heq
            have em := eadd m 1 (by omega) (by omega) (by omega) (by omega)
            obtain ⟨m2, hm2⟩ : ∃ x : Int, m + 1 = x := ⟨_, rfl⟩
            rw [hm2] at em heq hrr
            have ejm := eadd j m2 (by omega) (by omega) (by omega) (by omega)
            obtain ⟨j3, hj3⟩ : ∃ x : Int, j + m2 = x := ⟨_, rfl⟩
            rw [hj3] at ejm heq hrr
            obtain ⟨T, hT⟩ : ∃ x, bL t = x := ⟨_, rfl⟩
            have hTd : T.data.toList = t := by rw [← hT]; unfold bL; simp
            have hTs : T.size ≤ 4 := by
              have : T.data.toList.length = T.size := rfl
              rw [hTd] at this
              omega
            rw [hT] at he
            have p2 := ecat out T (by omega) (by omega)
            have ejo := ejoin out T
            obtain ⟨O, hO⟩ : ∃ x, out ++ T = x := ⟨_, rfl⟩
            rw [hO] at ejo
            have hOd : O.data.toList = out.data.toList ++ t := by rw [← hO, ByteArray.data_append, Array.toList_append, hTd]
            have hOs : O.size = out.size + T.size := by rw [← hO, ByteArray.size_append]
            have hrlen : r.length ≤ s.size := by have := rst_len s j3; rw [← hrr] at this; omega
            have hI2 : LitI s n a q RL (j3, O) := by
              refine ⟨by show a + 1 ≤ j3; omega, by show j3 ≤ n; omega, by show ((O.size : Nat) : Int) ≤ 4 * (j3 - a); omega, ?_⟩
              show RL = (lit uB q (rst s j3)).map fun z => (O.data.toList ++ z.1, z.2)
              rw [heq, hOd, Option.map_map]
              congr 1
              funext z
              simp
            have hM : μ (j3, O) < μ (j, out) := by
              rw [hμ, hμ]
              show 2000000000 - j3.toNat < 2000000000 - j.toNat
              omega
            clear hnone hsome hget hesc hrep elt eple eget eadd esub ecat ejoin eext heq hrl hc0 hci hz hcq hRV hRL g0 hzq hq hn hsz hnl hb h92 hes hlt2 hu1 hu2 hu3 h4 hm hm0 hrr hm2 hj3 hT hTd hTs hO hOd hOs hrlen
            cbv
            repeat (first | (simp only [z1]; cbv) | simp only [z1] | (simp only [d1]; cbv) | simp only [d1] | (refine ⟨p1,_,g1, ?_⟩; cbv) | (simp only [w1]; cbv) | simp only [w1] | (simp only [w2]; cbv) | simp only [w2] | (simp only [w3]; cbv) | simp only [w3] | (simp only [w4]; cbv) | simp only [w4] | (simp only [ej]; cbv) | simp only [ej] | (refine ⟨_, he, ?_⟩; cbv) | (simp only [w5]; cbv) | simp only [w5] | (refine ⟨p2, ?_⟩; cbv) | (simp only [ejo]; cbv) | simp only [ejo] | (simp only [em]; cbv) | simp only [em] | (simp only [ejm]; cbv) | simp only [ejm])
            refine .mk (j3, O) ⟨rfl, rfl, rfl, rfl, rfl⟩ ?_ ?_
            · exact hI2
            · exact hM
        · have w4 : decide (z = 92) = false := hnl 92 h92
          rw [lit_chr _ _ hcq hb h92] at heq
          obtain ⟨T, hT⟩ : ∃ x, s.extract j.toNat j2.toNat = x := ⟨_, rfl⟩
          have hTd : T.data.toList = [c] := by
            rw [← hT, bl_ext]
            have e1 : s.data.toList.drop j.toNat = rst s j := rfl
            rw [e1, hc0, show j2.toNat - j.toNat = 1 by omega]
            rfl
          have hTs : T.size = 1 := by
            have : T.data.toList.length = T.size := rfl
            rw [hTd] at this
            exact this.symm
          have ex := eext j j2
          rw [hT] at ex
          have p2 := ecat out T (by omega) (by omega)
          have ejo := ejoin out T
          obtain ⟨O, hO⟩ : ∃ x, out ++ T = x := ⟨_, rfl⟩
          rw [hO] at ejo
          have hOd : O.data.toList = out.data.toList ++ [c] := by rw [← hO, ByteArray.data_append, Array.toList_append, hTd]
          have hOs : O.size = out.size + T.size := by rw [← hO, ByteArray.size_append]
          have p3 := eple j j2 (by omega)
          have p4 := eple j2 n (by omega)
          have hI2 : LitI s n a q RL (j2, O) := by
            refine ⟨by show a + 1 ≤ j2; omega, by show j2 ≤ n; omega, by show ((O.size : Nat) : Int) ≤ 4 * (j2 - a); omega, ?_⟩
            show RL = (lit uB q (rst s j2)).map fun z => (O.data.toList ++ z.1, z.2)
            rw [heq, hOd, Option.map_map]
            congr 1
            funext z
            simp
          have hM : μ (j2, O) < μ (j, out) := by
            rw [hμ, hμ]
            show 2000000000 - j2.toNat < 2000000000 - j.toNat
            omega
          clear hnone hsome hget hesc hrep elt eple eget eadd esub ecat ejoin eext heq hrl hc0 hci hz hcq hRV hRL g0 hzq hq hn hsz hnl hb h92 hT hTd hTs hO hOd hOs
          cbv
          repeat (first | (simp only [z1]; cbv) | simp only [z1] | (simp only [d1]; cbv) | simp only [d1] | (refine ⟨p1,_,g1, ?_⟩; cbv) | (simp only [w1]; cbv) | simp only [w1] | (simp only [w2]; cbv) | simp only [w2] | (simp only [w3]; cbv) | simp only [w3] | (simp only [w4]; cbv) | simp only [w4] | (simp only [ej]; cbv) | simp only [ej] | (refine ⟨p1,p3,p4, ?_⟩; cbv) | (simp only [ex]; cbv) | simp only [ex] | (refine ⟨p2, ?_⟩; cbv) | (simp only [ejo]; cbv) | simp only [ejo])
          refine .mk (j2, O) ⟨rfl, rfl, rfl, rfl, rfl⟩ ?_ ?_
          · exact hI2
          · exact hM
  · have d1 : E.lti j n = false := by rw [elt]; exact decide_eq_false hlt
    rw [rst_end (by omega), lit_nil] at heq
    have hv := hnone heq
    subst hv
    clear hnone hsome hget hesc hrep elt eple eget eadd esub ecat ejoin eext heq hRV hRL g0 hzq hq hn hsz
    cbv
    repeat (first | (simp only [z1]; cbv) | simp only [z1] | (simp only [d1]; cbv) | simp only [d1])
end Go.Proofs.YtnhbboknffppiaaDoor
