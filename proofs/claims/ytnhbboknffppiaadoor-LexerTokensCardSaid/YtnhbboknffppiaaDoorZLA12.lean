/- Own work: package knapsackref25: token. -/
import Derived.Test.YtnhbboknffppiaaDoorZLA11
import Derived.Test.YtnhbboknffppiaaDoorZLC1
import Derived.Test.YtnhbboknffppiaaDoorZAbsZ2
namespace Go.Proofs.YtnhbboknffppiaaDoor
open Go.RowKit
set_option maxRecDepth 100000
set_option linter.unusedSimpArgs false

/-- what token returns -/
def rtokR (s : ByteArray) (a : Int) : PV := match tokL uB repairL (rst s a) with
  | .bad e => .tup [.agg [pI 0, pS ⟨#[]⟩, pI 0], pI 0, pI e]
  | .ok k t r => .tup [pTk k t a, pI ((s.size : Nat) - (r.length : Nat) - a), pI 0]
theorem rtokR_bad {s : ByteArray} {a e : Int} (h : tokL uB repairL (rst s a) = .bad e) : rtokR s a = .tup [.agg [pI 0, pS ⟨#[]⟩, pI 0], pI 0, pI e] := by unfold rtokR; rw [h]
theorem rtokR_ok {s : ByteArray} {a k : Int} {t r : Bs} (h : tokL uB repairL (rst s a) = .ok k t r) : rtokR s a = .tup [pTk k t a, pI ((s.size : Nat) - (r.length : Nat) - a), pI 0] := by unfold rtokR; rw [h]
theorem rdig_b (c : UInt8) (z : Int) (b : Bool) (hz : ((c.toNat : Nat) : Int) = z) (hb : dgt c = b) : V0 38 [.v (.int .u8 z)] (pB b) := by
  subst hz hb
  exact rdigit_ret c
theorem rlet_b (c : UInt8) (z : Int) (b : Bool) (hz : ((c.toNat : Nat) : Int) = z) (hb : ltr c = b) : V0 37 [.v (.int .u8 z)] (pB b) := by
  subst hz hb
  exact rletter_ret c
/-- the word at a place -/
structure RwS (s : ByteArray) (n a : Int) (q : UInt8) (W D : Bs) (T : ByteArray) (e1 m : Int) : Prop where
  wd : rst s a = W ++ D
  w : (rst s a).takeWhile wrd = W
  d : (rst s a).dropWhile wrd = D
  t : T.data.toList = W
  x : s.extract a.toNat e1.toNat = T
  l : ((T.size : Nat) : Int) = m
  e : a + m = e1
  ae : a ≤ e1
  en : e1 ≤ n
  dn : n - (D.length : Nat) = e1
abbrev rtokEnv (s : ByteArray) (a : Int) : List AV := [pS s, pI a].map .p ++ List.replicate 128 (.p (.v undef))
set_option maxHeartbeats 4000000 in
theorem rtok_head (s : ByteArray) (n a : Int) (q : UInt8) (zq : Int) (W D : Bs) (T : ByteArray) (e1 m : Int) (h0 : 0 ≤ a) (hn : ((s.size : Nat) : Int) = n) (h1 : a < n) (hq : s.data.toList[a.toNat]? = some q) (hzq : ((q.toNat : Nat) : Int) = zq) (hs : s.size ≤ 900000)
    (hR : RwS s n a q W D T e1 m) {Q : Exit → List AV → AH → Prop} (h2 : Seg Tryd.prog G0 (Tryd.f30).ntmps (tailK 5 ((Tryd.f30).body.getD .skip)) Q (spreadE [0, 1, 4, 7, 9] [.p (pS s), .p (pI a), .own 0 0, .p (.v (.int .u8 zq)), .p (pS T)] 130 0) [some bx0]) :
    Seg Tryd.prog G0 (Tryd.f30).ntmps ((Tryd.f30).body.getD .skip) Q (rtokEnv s a) [] := by
  obtain ⟨hWD, hW, hD, hTd, hTx, hTl, hem, hae, hen, hdn⟩ := hR
  have hdig := fun (c : UInt8) (z : Int) (b : Bool) (hz : ((c.toNat : Nat) : Int) = z) (hb : dgt c = b) => rdig_b c z b hz hb
  have hlet := fun (c : UInt8) (z : Int) (b : Bool) (hz : ((c.toNat : Nat) : Int) = z) (hb : ltr c = b) => rlet_b c z b hz hb
  have hfin : ∀ j, WdI s n a j → (∀ c, (rst s j).head? = some c → wrd c = false) → j = e1 := fun j hj h => by
    obtain ⟨j0, j1, u, hu1, hu2, hu3⟩ := hj
    have h5 := tw_app (p := wrd) u (rst s j) hu3 h
    rw [← hu1, hD] at h5
    have h6 := rst_len s j
    rw [← h5.2] at h6
    omega
  have hget : ∀ i : Int, 0 ≤ i → i < n → ∃ c, s.data.toList[i.toNat]? = some c := fun i hi0 hi1 => ⟨_, List.getElem?_eq_getElem (by show i.toNat < s.size; omega)⟩
  obtain ⟨μ, hμ⟩ : ∃ μ : Int → Nat, ∀ x, μ x = 2000000000 - x.toNat := ⟨_, fun _ => rfl⟩
  have hI0 : WdI s n a a := ⟨Int.le_refl _, by omega, [], rfl, by show (0 : Int) = a - a; omega, fun c hc => (by cases hc)⟩
  refine Seg.cutK0 5 130 [0, 1, 4, 7, 9] 1 (fun _ : Unit => [.p (pS s), .p (pI a), .own 0 0, .p (.v (.int .u8 zq)), .p (pS T)]) (fun _ => [some bx0]) (fun _ => True) tyT_ok mixed (fun _ => 0) (by kernel_rfl) ?_ (fun _ _ => h2)
  clear h2
  intro P G E hc hM hE
  replace hdig := fun (c : UInt8) (z : Int) (b : Bool) (hz : ((c.toNat : Nat) : Int) = z) (hb : dgt c = b) => hc _ _ _ (hdig c z b hz hb)
  replace hlet := fun (c : UInt8) (z : Int) (b : Bool) (hz : ((c.toNat : Nat) : Int) = z) (hb : ltr c = b) => hc _ _ _ (hlet c z b hz hb)
  have z1 : E.size s = n := by rw [hE]; exact hn
  have elt : ∀ a b, E.lti a b = decide (a < b) := fun a b => by rw [hE]; rfl
  have eple : ∀ a b, a ≤ b → E.ple a b := fun a b h => by rw [hE]; exact h
  have eget : ∀ (i : Int) (c : UInt8) (z : Int), s.data.toList[i.toNat]? = some c → ((c.toNat : Nat) : Int) = z → E.get s (E.nat i) = some z := fun i c z h hz => by
    rw [hE]
    show (s.data.toList[i.toNat]?).map _ = some z
    rw [h, ← hz]
    rfl
  have eadd : ∀ a b : Int, -1000000000 ≤ a → a ≤ 1000000000 → -1000000000 ≤ b → b ≤ 1000000000 → E.wadd .i64 a b = a + b := fun a b h0 h1 h2 h3 => by rw [hE]; exact wrap_i64_in (by omega) (by omega)
  have x1 : E.ext s (E.nat a) (E.nat e1) = T := by rw [hE]; exact hTx
  have g0 := eget a q zq hq hzq
  have p0 := eple 0 a h0
  have q1 := eple a e1 hae
  have q2 := eple e1 n hen
  clear hE hc hM hWD hW hD hTd hTx hTl hem
  cbv
  repeat (first | (refine ⟨p0,_,g0, ?_⟩; cbv))
  refine loop_by 130 [0, 1, 4, 7, 8] 1 (fun x : Int => [.p (pS s), .p (pI a), .own 0 0, .p (.v (.int .u8 zq)), .p (pI x)]) (fun _ => [some bx0]) (WdI s n a) μ a ⟨rfl, rfl, rfl, rfl, rfl⟩ hI0 ?_
  clear hI0
  intro j hj
  replace hn : ((s.size : Nat) : Int) = n := hn
  have hfj := hfin j hj
  obtain ⟨j0, j1, u, hu1, hu2, hu3⟩ := hj
  replace hu2 : ((u.length : Nat) : Int) = j - a := hu2
  rcases Classical.em (j < n) with hlt | hlt
  · have d1 : E.lti j n = true := by rw [elt]; exact decide_eq_true hlt
    obtain ⟨c, hci⟩ := hget j (by omega) hlt
    obtain ⟨z, hz⟩ : ∃ z : Int, ((c.toNat : Nat) : Int) = z := ⟨_, rfl⟩
    have g1 := eget j c z hci hz
    have p1 := eple 0 j (by omega)
    have hc0 := rst_cons (by omega) hci
    cases hwc : wrd c with
    | true =>
      obtain ⟨j2, hj2⟩ : ∃ x : Int, j + 1 = x := ⟨_, rfl⟩
      have ej := eadd j 1 (by omega) (by omega) (by omega) (by omega)
      rw [hj2] at ej
      have hI2 : WdI s n a j2 := by
        refine ⟨by omega, by omega, u ++ [c], ?_, ?_, ?_⟩
        · rw [hu1, hc0, ← hj2]
          simp
        · show (((u ++ [c]).length : Nat) : Int) = j2 - a
          rw [List.length_append, List.length_singleton]
          omega
        · intro x hx
          rcases List.mem_append.1 hx with hx | hx
          · exact hu3 x hx
          · rw [List.mem_singleton.1 hx]; exact hwc
      have hM2 : μ j2 < μ j := by rw [hμ, hμ]; omega
      cases hlc : ltr c with
      | true =>
        have hk := hlet c z true hz hlc
        clear hget hdig hlet elt eple eget eadd hn hq hzq hu1 hu2 hu3 hs hci hz hc0 hj2 hfin hfj hwc hlc hμ hdn
        cbv
        repeat (first | (simp only [z1]; cbv) | simp only [z1] | (simp only [d1]; cbv) | simp only [d1] | (refine ⟨p1,_,g1, ?_⟩; cbv) | (refine ⟨_, hk, ?_⟩; cbv) | (simp only [ej]; cbv) | simp only [ej])
        refine .mk j2 ⟨rfl, rfl, rfl, rfl, rfl⟩ ?_ ?_
        · exact hI2
        · exact hM2
      | false =>
        have hk := hlet c z false hz hlc
        have hdc : dgt c = true := by unfold wrd at hwc; rw [hlc, Bool.false_or] at hwc; exact hwc
        have hk2 := hdig c z true hz hdc
        clear hget hdig hlet elt eple eget eadd hn hq hzq hu1 hu2 hu3 hs hci hz hc0 hj2 hfin hfj hwc hlc hμ hdn hdc
        cbv
        repeat (first | (simp only [z1]; cbv) | simp only [z1] | (simp only [d1]; cbv) | simp only [d1] | (refine ⟨p1,_,g1, ?_⟩; cbv) | (refine ⟨_, hk, ?_⟩; cbv) | (refine ⟨_, hk2, ?_⟩; cbv) | (simp only [ej]; cbv) | simp only [ej])
        refine .mk j2 ⟨rfl, rfl, rfl, rfl, rfl⟩ ?_ ?_
        · exact hI2
        · exact hM2
    | false =>
      have hje := hfj (fun x hx => by rw [hc0] at hx; cases hx; exact hwc)
      have hwc2 := hwc
      unfold wrd at hwc2
      simp only [Bool.or_eq_false_iff] at hwc2
      have hk := hlet c z false hz hwc2.1
      have hk2 := hdig c z false hz hwc2.2
      subst hje
      clear hget hdig hlet elt eple eget eadd hn hq hzq hu1 hu2 hu3 hs hci hz hc0 hfin hfj hwc hwc2 hμ hdn
      cbv
      repeat (first | (simp only [z1]; cbv) | simp only [z1] | (simp only [d1]; cbv) | simp only [d1] | (refine ⟨p1,_,g1, ?_⟩; cbv) | (refine ⟨_, hk, ?_⟩; cbv) | (refine ⟨_, hk2, ?_⟩; cbv) | (refine ⟨p0,q1,q2, ?_⟩; cbv) | (simp only [x1]; cbv) | simp only [x1])
      exact .mk () ⟨rfl, rfl, rfl, rfl, rfl⟩ trivial
  · have d1 : E.lti j n = false := by rw [elt]; exact decide_eq_false hlt
    have hnil : rst s j = [] := rst_end (by omega)
    have hje := hfj (fun x hx => by rw [hnil] at hx; cases hx)
    subst hje
    clear hget hdig hlet elt eple eget eadd hn hq hzq hu1 hu2 hu3 hs hfin hfj hμ hdn hnil
    cbv
    repeat (first | (simp only [z1]; cbv) | simp only [z1] | (simp only [d1]; cbv) | simp only [d1] | (refine ⟨p0,q1,q2, ?_⟩; cbv) | (simp only [x1]; cbv) | simp only [x1])
    exact .mk () ⟨rfl, rfl, rfl, rfl, rfl⟩ trivial
theorem rw_of (s : ByteArray) (a : Int) (h0 : 0 ≤ a) (h1 : a < (s.size : Nat)) (q : UInt8) : ∃ W D T e1 m, RwS s (s.size : Nat) a q W D T e1 m := by
  have hrl := rst_len s a
  obtain ⟨W, hW⟩ : ∃ x, (rst s a).takeWhile wrd = x := ⟨_, rfl⟩
  obtain ⟨D, hD⟩ : ∃ x, (rst s a).dropWhile wrd = x := ⟨_, rfl⟩
  have hWD : rst s a = W ++ D := by rw [← hW, ← hD]; exact (tw_all (p := wrd) (rst s a)).2.2.symm
  have hlen : (rst s a).length = W.length + D.length := by rw [hWD, List.length_append]
  have hTx : s.extract a.toNat ((s.size : Nat) - (D.length : Nat) : Int).toNat = bL W := by
    refine bl_inj ?_
    rw [show (bL W).data.toList = W by unfold bL; simp, ext_list, hWD, show ((s.size : Nat) - (D.length : Nat) : Int).toNat - a.toNat = W.length by omega, List.take_left]
  exact ⟨W, D, bL W, (s.size : Nat) - (D.length : Nat), (W.length : Nat), hWD, hW, hD, by unfold bL; simp, hTx, rfl, by omega, by omega, by omega, rfl⟩
set_option maxHeartbeats 4000000 in
theorem rtok_word (s : ByteArray) (a : Int) (q : UInt8) (h0 : 0 ≤ a) (hq : s.data.toList[a.toNat]? = some q) (hl : ltr q = true) (hs : s.size ≤ 900000) : V0 30 [pS s, pI a] (rtokR s a) := by
  obtain ⟨n, hn⟩ : ∃ n : Int, ((s.size : Nat) : Int) = n := ⟨_, rfl⟩
  have h1 : a < n := by
    have := (List.getElem?_eq_some_iff.1 hq).1
    have e : s.data.toList.length = s.size := rfl
    omega
  obtain ⟨zq, hzq⟩ : ∃ z : Int, ((q.toNat : Nat) : Int) = z := ⟨_, rfl⟩
  have hau : rst s a = q :: rst s (a + 1) := rst_cons h0 hq
  have hrl := rst_len s a
  obtain ⟨W, D, T, e1, m, hR⟩ := rw_of s a h0 (by omega) q
  rw [hn] at hR
  have hl1 := rlet_b q zq true hzq hl
  have hres : rtokR s a = .tup [.agg [pI (if isKw W then 2 else 1), pS T, pI a], pI m, pI 0] := by
    have hT : T = bL W := bl_inj (by rw [hR.t]; unfold bL; simp)
    have hm : n - (D.length : Nat) - a = m := by have := hR.e; have := hR.dn; omega
    rw [hT, ← hm, ← hn]
    refine rtokR_ok ?_
    have hw := hR.w
    have hd := hR.d
    rw [hau] at hw hd ⊢
    rw [tokL, if_pos hl, hw, hd]
  rw [hres]
  have hkw := riskw_ret T
  rw [hR.t] at hkw
  obtain ⟨kb, hkb⟩ : ∃ x, isKw W = x := ⟨_, rfl⟩
  rw [hkb] at hkw ⊢
  refine ret_cut tyT_ok g0_gr (f := 30) (c := ((Tryd.f30).body.getD .skip)) Tryd.func30 rfl (by kernel_rfl) (of_decide_eq_true (by kernel_rfl)) ?_
  refine rtok_head s n a q zq W D T e1 m h0 hn h1 hq hzq hs hR ?_
  refine Seg.cutK 1 130 [] 0 (fun _ : Unit => []) (fun _ => []) (fun _ => False) tyT_ok mixed (fun _ => 0) (fun E => retQ E tyT (Tryd.f30).results.toList (.tup [.agg [pI (if kb = true then 2 else 1), pS T, pI a], pI m, pI 0])) (by kernel_rfl) ?_ (fun _ h => h.elim)
  intro P G E hc hM hE
  replace hl1 := hc _ _ _ hl1
  replace hkw := hc _ _ _ hkw
  have z2 : E.size T = m := by rw [hE]; exact hR.l
  clear hE hc hM hR hau hres hrl hn hq hzq h1 hkb
  cases kb
  all_goals
    cbv
    repeat (first | (refine ⟨_, hl1, ?_⟩; cbv) | (refine ⟨_, hkw, ?_⟩; cbv) | (simp only [z2]; cbv) | simp only [z2])
structure RdI (m : Int) (W : Bs) (i : Int) : Prop where
  i0 : 0 ≤ i
  i1 : i ≤ m
  d : ∀ k : Nat, (k : Int) < i → ∀ c, W[k]? = some c → dgt c = true
theorem numL_of_word {l W D : Bs} (hW : l.takeWhile wrd = W) (hD : l.dropWhile wrd = D) : (W.all dgt = false → numL l = .bad 4) ∧ (W.all dgt = true → l.takeWhile dgt = W ∧ l.dropWhile dgt = D ∧ D.head?.any ltr = false) := by
  have hl : l = W ++ D := by rw [← hW, ← hD]; exact (tw_all (p := wrd) l).2.2.symm
  have hWw := (tw_all (p := wrd) l).1
  have hDw := (tw_all (p := wrd) l).2.1
  rw [hW] at hWw
  rw [hD] at hDw
  constructor
  · intro h
    obtain ⟨h1, h2, h3⟩ := tw_all (p := dgt) W
    have hne : W.dropWhile dgt ≠ [] := fun e => by
      rw [e, List.append_nil] at h3
      rw [h3] at h1
      rw [List.all_eq_true.2 h1] at h
      cases h
    obtain ⟨x, y, hxy⟩ : ∃ x y, W.dropWhile dgt = x :: y := by
      cases hd : W.dropWhile dgt with
      | nil => exact absurd hd hne
      | cons x y => exact ⟨x, y, rfl⟩
    have hx := h2 x (by rw [hxy]; rfl)
    have hxW : x ∈ W := by rw [← h3, hxy]; simp
    have hlx : ltr x = true := by
      have := hWw x hxW
      unfold wrd at this
      rw [hx, Bool.or_false] at this
      exact this
    have h5 := tw_app (p := dgt) (W.takeWhile dgt) (x :: (y ++ D)) h1 (fun c hc => by cases hc; exact hx)
    have h6 : W.takeWhile dgt ++ x :: (y ++ D) = l := by
      have h7 : W.takeWhile dgt ++ x :: (y ++ D) = (W.takeWhile dgt ++ W.dropWhile dgt) ++ D := by rw [hxy]; simp
      rw [h7, h3, ← hl]
    rw [h6] at h5
    unfold numL
    rw [h5.1, h5.2]
    split
    · rfl
    · rw [if_pos (show (x :: (y ++ D)).head?.any ltr = true from hlx)]
  · intro h
    have hda : ∀ c, D.head? = some c → dgt c = false := fun c hc => by
      have := hDw c hc
      unfold wrd at this
      simp only [Bool.or_eq_false_iff] at this
      exact this.2
    have h5 := tw_app (p := dgt) W D (List.all_eq_true.1 h) hda
    rw [← hl] at h5
    refine ⟨h5.1, h5.2, ?_⟩
    cases hd : D.head? with
    | none => rfl
    | some c =>
      have := hDw c hd
      unfold wrd at this
      simp only [Bool.or_eq_false_iff] at this
      exact this.1
set_option maxHeartbeats 8000000 in
theorem rtok_num (s : ByteArray) (a : Int) (q : UInt8) (h0 : 0 ≤ a) (hq : s.data.toList[a.toNat]? = some q) (hl : ltr q = false) (hd : dgt q = true) (hs : s.size ≤ 900000) : V0 30 [pS s, pI a] (rtokR s a) := by
  obtain ⟨n, hn⟩ : ∃ n : Int, ((s.size : Nat) : Int) = n := ⟨_, rfl⟩
  have h1 : a < n := by
    have := (List.getElem?_eq_some_iff.1 hq).1
    have e : s.data.toList.length = s.size := rfl
    omega
  obtain ⟨zq, hzq⟩ : ∃ z : Int, ((q.toNat : Nat) : Int) = z := ⟨_, rfl⟩
  have hau : rst s a = q :: rst s (a + 1) := rst_cons h0 hq
  have hrl := rst_len s a
  obtain ⟨W, D, T, e1, m, hR⟩ := rw_of s a h0 (by omega) q
  rw [hn] at hR
  have hl1 := rlet_b q zq false hzq hl
  have hd1 := rdig_b q zq true hzq hd
  have htok : tokL uB repairL (rst s a) = numL (rst s a) := by
    rw [hau, tokL, if_neg (by rw [hl]; decide), if_pos hd]
  obtain ⟨hnw1, hnw2⟩ := numL_of_word hR.w hR.d
  have hTd := hR.t
  have hTl := hR.l
  have hem := hR.e
  have hen := hR.en
  have hdn := hR.dn
  have hWs : W.length = T.size := by rw [← hTd]; rfl
  have hWm : ((W.length : Nat) : Int) = m := by omega
  have hhead : W.head? = some q := by
    have h5 := hR.w
    rw [hau, List.takeWhile_cons, show wrd q = true by unfold wrd; rw [hd, Bool.or_true]] at h5
    rw [← h5]
    rfl
  have hdig := fun (c : UInt8) (z : Int) (b : Bool) (hz : ((c.toNat : Nat) : Int) = z) (hb : dgt c = b) => rdig_b c z b hz hb
  obtain ⟨μ, hμ⟩ : ∃ μ : Int → Nat, ∀ x, μ x = 2000000000 - x.toNat := ⟨_, fun _ => rfl⟩
  have hI0 : RdI m W 0 := ⟨Int.le_refl _, by omega, fun k hk => by omega⟩
  have hgr := great_ret T
  obtain ⟨gb, hgb⟩ : ∃ x, greB T = x := ⟨_, rfl⟩
  rw [hgb] at hgr
  obtain ⟨bz, hbz⟩ : ∃ b, decide (zq = 48) = b := ⟨_, rfl⟩
  have hm1 : m ≤ 900000 := by omega
  have hw := hR.w
  have hdd := hR.d
  cases hall : W.all dgt with
  | false =>
    have hbad := hnw1 hall
    rw [rtokR_bad (htok.trans hbad)]
    clear hnw1 hnw2 htok hbad hw hdd
    refine ret_cut tyT_ok g0_gr (f := 30) (c := ((Tryd.f30).body.getD .skip)) Tryd.func30 rfl (by kernel_rfl) (of_decide_eq_true (by kernel_rfl)) ?_
    refine rtok_head s n a q zq W D T e1 m h0 hn h1 hq hzq hs hR ?_
    refine Seg.cutK 2 130 [] 0 (fun _ : Unit => []) (fun _ => []) (fun _ => False) tyT_ok mixed (fun _ => 0) (fun E => retQ E tyT (Tryd.f30).results.toList (.tup [.agg [pI 0, pS ⟨#[]⟩, pI 0], pI 0, pI 4])) (by kernel_rfl) ?_ (fun _ h => h.elim)
    intro P G E hc hM hE
    replace hl1 := hc _ _ _ hl1
    replace hd1 := hc _ _ _ hd1
    replace hgr := hc _ _ _ hgr
    replace hdig := fun (c : UInt8) (z : Int) (b : Bool) (hz : ((c.toNat : Nat) : Int) = z) (hb : dgt c = b) => hc _ _ _ (hdig c z b hz hb)
    have z2 : E.size T = m := by rw [hE]; exact hTl
    have elt : ∀ a b, E.lti a b = decide (a < b) := fun a b => by rw [hE]; rfl
    have eple : ∀ a b, a ≤ b → E.ple a b := fun a b h => by rw [hE]; exact h
    have eget : ∀ (i : Int) (c : UInt8) (z : Int), W[i.toNat]? = some c → ((c.toNat : Nat) : Int) = z → E.get T (E.nat i) = some z := fun i c z h hz => by
      rw [hE]
      show (T.data.toList[i.toNat]?).map _ = some z
      rw [hTd, h, ← hz]
      rfl
    have eadd : ∀ a b : Int, -1000000000 ≤ a → a ≤ 1000000000 → -1000000000 ≤ b → b ≤ 1000000000 → E.wadd .i64 a b = a + b := fun a b h0 h1 h2 h3 => by rw [hE]; exact wrap_i64_in (by omega) (by omega)
    have f48 : decide (zq = 48) = bz := hbz
    have d2 : E.lti 1 m = decide (1 < m) := elt _ _
    clear hE hc hM hR hau hrl hn hq hzq h1 hTd
    cbv
    repeat (first | (refine ⟨_, hl1, ?_⟩; cbv) | (refine ⟨_, hd1, ?_⟩; cbv))
    refine loop_by 130 [0, 1, 4, 7, 9, 10] 1 (fun x : Int => [.p (pS s), .p (pI a), .own 0 0, .p (.v (.int .u8 zq)), .p (pS T), .p (pI x)]) (fun _ => [some bx0]) (RdI m W) μ 0 ⟨rfl, rfl, rfl, rfl, rfl⟩ hI0 ?_
    clear hI0
    rintro i ⟨i0, i1, hd⟩
    replace hWm : ((W.length : Nat) : Int) = m := hWm
    rcases Classical.em (i < m) with hlt | hlt
    · have d1 : E.lti i m = true := by rw [elt]; exact decide_eq_true hlt
      obtain ⟨c, hci⟩ : ∃ c, W[i.toNat]? = some c := ⟨_, List.getElem?_eq_getElem (by omega)⟩
      obtain ⟨z, hz⟩ : ∃ z : Int, ((c.toNat : Nat) : Int) = z := ⟨_, rfl⟩
      have g1 := eget i c z hci hz
      have p1 := eple 0 i i0
      cases hdc : dgt c with
      | true =>
        have hk := hdig c z true hz hdc
        obtain ⟨i2, hi2⟩ : ∃ x : Int, i + 1 = x := ⟨_, rfl⟩
        have ej := eadd i 1 (by omega) (by omega) (by omega) (by omega)
        rw [hi2] at ej
        have hI2 : RdI m W i2 := ⟨by omega, by omega, fun k hk x hx => by
          by_cases h : (k : Int) < i
          · exact hd k h x hx
          · rw [show k = i.toNat by omega, hci] at hx
            cases hx
            exact hdc⟩
        have hM2 : μ i2 < μ i := by rw [hμ, hμ]; omega
        clear hdig elt eple eget eadd hs hci hz hi2 hdc hμ hdn hd hWs hWm hhead hall hgb hbz hTl hem hen hm1
        cbv
        repeat (first | (simp only [z2]; cbv) | simp only [z2] | (simp only [d1]; cbv) | simp only [d1] | (refine ⟨p1,_,g1, ?_⟩; cbv) | (refine ⟨_, hk, ?_⟩; cbv) | (simp only [ej]; cbv) | simp only [ej])
        refine .mk i2 ⟨rfl, rfl, rfl, rfl, rfl⟩ ?_ ?_
        · exact hI2
        · exact hM2
      | false =>
        have hk := hdig c z false hz hdc
        clear hdig elt eple eget eadd hs hci hz hdc hμ hdn hd hWs hWm hhead hall hgb hbz hTl hem hen hm1
        cbv
        repeat (first | (simp only [z2]; cbv) | simp only [z2] | (simp only [d1]; cbv) | simp only [d1] | (refine ⟨p1,_,g1, ?_⟩; cbv) | (refine ⟨_, hk, ?_⟩; cbv))
    · exfalso
      have : W.all dgt = true := List.all_eq_true.2 fun c hc => by
        obtain ⟨k, hk⟩ := List.mem_iff_getElem?.1 hc
        have hkl := (List.getElem?_eq_some_iff.1 hk).1
        exact hd k (by omega) c hk
      rw [hall] at this
      cases this
  | true =>
    obtain ⟨h5, h6, h7⟩ := hnw2 hall
    have hTall : ∀ c ∈ T.data.toList, dgt c = true := by rw [hTd]; exact List.all_eq_true.1 hall
    have hgd : ¬ (W.head? = some 48 ∧ 1 < W.length) → gb = decide (9223372036854775807 < decN W) := fun h => by
      rw [← hgb, great_dec T hTall (by rw [hTd]; exact h), hTd]
    obtain ⟨RV, hRV⟩ : ∃ x, rtokR s a = x := ⟨_, rfl⟩
    have hv1 : (bz = true ∧ 1 < m) → RV = .tup [.agg [pI 0, pS ⟨#[]⟩, pI 0], pI 0, pI 4] := fun ⟨hb, hm2⟩ => by
      rw [← hRV]
      refine rtokR_bad (htok.trans ?_)
      have hq48 : q = 48 := by
        rw [hb] at hbz
        have := of_decide_eq_true hbz
        exact UInt8.toNat_inj.1 (by show q.toNat = 48; omega)
      unfold numL
      rw [h5, h6, if_pos ⟨by rw [hhead, hq48], by omega⟩]
    have hnz : ¬ (bz = true ∧ 1 < m) → ¬ (W.head? = some 48 ∧ 1 < W.length) := fun h ⟨ha, hb⟩ => h ⟨by
      rw [hhead] at ha
      have hq48 := Option.some.inj ha
      rw [← hbz]
      exact decide_eq_true (by rw [← hzq, hq48]; rfl), by omega⟩
    have hv2 : ¬ (bz = true ∧ 1 < m) → gb = true → RV = .tup [.agg [pI 0, pS ⟨#[]⟩, pI 0], pI 0, pI 5] := fun h hg => by
      rw [← hRV]
      refine rtokR_bad (htok.trans ?_)
      have hx := hgd (hnz h)
      rw [hg] at hx
      unfold numL
      rw [h5, h6, if_neg (hnz h), if_neg (by rw [h7]; decide), if_pos (of_decide_eq_true hx.symm)]
    have hv3 : ¬ (bz = true ∧ 1 < m) → gb = false → RV = .tup [.agg [pI 3, pS T, pI a], pI m, pI 0] := fun h hg => by
      have hT : T = bL W := bl_inj (by rw [hTd]; unfold bL; simp)
      have hm : n - (D.length : Nat) - a = m := by omega
      rw [← hRV, hT, ← hm, ← hn]
      refine rtokR_ok (htok.trans ?_)
      have hx := hgd (hnz h)
      rw [hg] at hx
      unfold numL
      rw [h5, h6, if_neg (hnz h), if_neg (by rw [h7]; decide), if_neg (of_decide_eq_false hx.symm)]
    rw [hRV]
    clear hnw1 hnw2 htok hw hdd h5 h6 h7 hTall hgd hnz hRV
    refine ret_cut tyT_ok g0_gr (f := 30) (c := ((Tryd.f30).body.getD .skip)) Tryd.func30 rfl (by kernel_rfl) (of_decide_eq_true (by kernel_rfl)) ?_
    refine rtok_head s n a q zq W D T e1 m h0 hn h1 hq hzq hs hR ?_
    refine Seg.cutK 2 130 [] 0 (fun _ : Unit => []) (fun _ => []) (fun _ => False) tyT_ok mixed (fun _ => 0) (fun E => retQ E tyT (Tryd.f30).results.toList RV) (by kernel_rfl) ?_ (fun _ h => h.elim)
    intro P G E hc hM hE
    replace hl1 := hc _ _ _ hl1
    replace hd1 := hc _ _ _ hd1
    replace hgr := hc _ _ _ hgr
    replace hdig := fun (c : UInt8) (z : Int) (b : Bool) (hz : ((c.toNat : Nat) : Int) = z) (hb : dgt c = b) => hc _ _ _ (hdig c z b hz hb)
    have z2 : E.size T = m := by rw [hE]; exact hTl
    have elt : ∀ a b, E.lti a b = decide (a < b) := fun a b => by rw [hE]; rfl
    have eple : ∀ a b, a ≤ b → E.ple a b := fun a b h => by rw [hE]; exact h
    have eget : ∀ (i : Int) (c : UInt8) (z : Int), W[i.toNat]? = some c → ((c.toNat : Nat) : Int) = z → E.get T (E.nat i) = some z := fun i c z h hz => by
      rw [hE]
      show (T.data.toList[i.toNat]?).map _ = some z
      rw [hTd, h, ← hz]
      rfl
    have eadd : ∀ a b : Int, -1000000000 ≤ a → a ≤ 1000000000 → -1000000000 ≤ b → b ≤ 1000000000 → E.wadd .i64 a b = a + b := fun a b h0 h1 h2 h3 => by rw [hE]; exact wrap_i64_in (by omega) (by omega)
    have f48 : decide (zq = 48) = bz := hbz
    have d2 : E.lti 1 m = decide (1 < m) := elt _ _
    clear hE hc hM hR hau hrl hn hq hzq h1 hTd
    cbv
    repeat (first | (refine ⟨_, hl1, ?_⟩; cbv) | (refine ⟨_, hd1, ?_⟩; cbv))
    refine loop_by 130 [0, 1, 4, 7, 9, 10] 1 (fun x : Int => [.p (pS s), .p (pI a), .own 0 0, .p (.v (.int .u8 zq)), .p (pS T), .p (pI x)]) (fun _ => [some bx0]) (RdI m W) μ 0 ⟨rfl, rfl, rfl, rfl, rfl⟩ hI0 ?_
    clear hI0
    rintro i ⟨i0, i1, hd⟩
    replace hWm : ((W.length : Nat) : Int) = m := hWm
    rcases Classical.em (i < m) with hlt | hlt
    · have d1 : E.lti i m = true := by rw [elt]; exact decide_eq_true hlt
      obtain ⟨c, hci⟩ : ∃ c, W[i.toNat]? = some c := ⟨_, List.getElem?_eq_getElem (by omega)⟩
      obtain ⟨z, hz⟩ : ∃ z : Int, ((c.toNat : Nat) : Int) = z := ⟨_, rfl⟩
      have g1 := eget i c z hci hz
      have p1 := eple 0 i i0
      have hdc : dgt c = true := List.all_eq_true.1 hall c (List.mem_of_getElem? hci)
      have hk := hdig c z true hz hdc
      obtain ⟨i2, hi2⟩ : ∃ x : Int, i + 1 = x := ⟨_, rfl⟩
      have ej := eadd i 1 (by omega) (by omega) (by omega) (by omega)
      rw [hi2] at ej
      have hI2 : RdI m W i2 := ⟨by omega, by omega, fun k hk x hx => List.all_eq_true.1 hall x (List.mem_of_getElem? hx)⟩
      have hM2 : μ i2 < μ i := by rw [hμ, hμ]; omega
      clear hdig elt eple eget eadd hs hci hz hi2 hdc hμ hdn hd hWs hWm hhead hall hgb hbz hTl hem hen hm1 hv1 hv2 hv3
      cbv
      repeat (first | (simp only [z2]; cbv) | simp only [z2] | (simp only [d1]; cbv) | simp only [d1] | (refine ⟨p1,_,g1, ?_⟩; cbv) | (refine ⟨_, hk, ?_⟩; cbv) | (simp only [ej]; cbv) | simp only [ej])
      refine .mk i2 ⟨rfl, rfl, rfl, rfl, rfl⟩ ?_ ?_
      · exact hI2
      · exact hM2
    · have d1 : E.lti i m = false := by rw [elt]; exact decide_eq_false hlt
      rcases Classical.em (bz = true ∧ 1 < m) with hlz | hlz
      · have hv := hv1 hlz
        subst hv
        rw [decide_eq_true hlz.2] at d2
        rw [hlz.1] at f48
        clear hdig elt eple eget eadd hs hμ hdn hd hWs hWm hhead hall hgb hbz hTl hem hen hm1 hv1 hv2 hv3 hlz
        cbv
        repeat (first | (simp only [z2]; cbv) | simp only [z2] | (simp only [d1]; cbv) | simp only [d1] | (simp only [f48]; cbv) | simp only [f48] | (simp only [d2]; cbv) | simp only [d2])
      · have hgo : (bz = false) ∨ (bz = true ∧ E.lti 1 m = false) := by
          cases hb : bz with
          | false => exact .inl rfl
          | true => exact .inr ⟨rfl, by rw [d2]; exact decide_eq_false fun h => hlz ⟨hb, h⟩⟩
        cases hg : gb with
        | true =>
          have hv := hv2 hlz hg
          subst hv
          rw [hg] at hgr
          clear d2
          rcases hgo with hb | ⟨hb, d2⟩
          all_goals
            rw [hb] at f48
            clear hdig elt eple eget eadd hs hμ hdn hd hWs hWm hhead hall hgb hbz hTl hem hen hm1 hv1 hv2 hv3 hlz
            cbv
            repeat (first | (simp only [z2]; cbv) | simp only [z2] | (simp only [d1]; cbv) | simp only [d1] | (simp only [f48]; cbv) | simp only [f48] | (simp only [d2]; cbv) | simp only [d2] | (refine ⟨_, hgr, ?_⟩; cbv))
        | false =>
          have hv := hv3 hlz hg
          subst hv
          rw [hg] at hgr
          clear d2
          rcases hgo with hb | ⟨hb, d2⟩
          all_goals
            rw [hb] at f48
            clear hdig elt eple eget eadd hs hμ hdn hd hWs hWm hhead hall hgb hbz hTl hem hen hm1 hv1 hv2 hv3 hlz
            cbv
            repeat (first | (simp only [z2]; cbv) | simp only [z2] | (simp only [d1]; cbv) | simp only [d1] | (simp only [f48]; cbv) | simp only [f48] | (simp only [d2]; cbv) | simp only [d2] | (refine ⟨_, hgr, ?_⟩; cbv))
set_option maxHeartbeats 4000000 in
theorem rtok_str (s : ByteArray) (a : Int) (q : UInt8) (h0 : 0 ≤ a) (hq : s.data.toList[a.toNat]? = some q) (hqt : q = 34 ∨ q = 39) (hs : s.size ≤ 900000) : V0 30 [pS s, pI a] (rtokR s a) := by
  obtain ⟨n, hn⟩ : ∃ n : Int, ((s.size : Nat) : Int) = n := ⟨_, rfl⟩
  have h1 : a < n := by
    have := (List.getElem?_eq_some_iff.1 hq).1
    have e : s.data.toList.length = s.size := rfl
    omega
  obtain ⟨zq, hzq⟩ : ∃ z : Int, ((q.toNat : Nat) : Int) = z := ⟨_, rfl⟩
  have hau : rst s a = q :: rst s (a + 1) := rst_cons h0 hq
  have hrl := rst_len s a
  obtain ⟨W, D, T, e1, m, hR⟩ := rw_of s a h0 (by omega) q
  rw [hn] at hR
  obtain ⟨hl, hd⟩ := qt_ne hqt
  have hl1 := rlet_b q zq false hzq hl
  have hd1 := rdig_b q zq false hzq hd
  have hli := rliteral_ret s a q h0 hq (by omega)
  have hrl2 := rst_len s (a + 1)
  have htok : tokL uB repairL (rst s a) = match lit uB q (rst s (a + 1)) with
    | none => .bad 4
    | some z => .ok 4 (repairL z.1) z.2 := by
    rw [hau, tokL, if_neg (by rw [hl]; decide), if_neg (by rw [hd]; decide), if_pos hqt]
    cases lit uB q (rst s (a + 1)) <;> rfl
  unfold litR at hli
  have hf : (decide (zq = 34) = true ∧ True) ∨ (decide (zq = 34) = false ∧ decide (zq = 39) = true) := by
    rcases hqt with rfl | rfl
    · exact .inl ⟨decide_eq_true (by rw [← hzq]; rfl), trivial⟩
    · exact .inr ⟨decide_eq_false (by rw [← hzq]; decide), decide_eq_true (by rw [← hzq]; rfl)⟩
  cases hlit : lit uB q (rst s (a + 1)) with
  | none =>
    rw [hlit] at htok hli
    simp only at hli htok
    rw [rtokR_bad htok]
    have f3 : decide ((0 : Int) = 0) = true := rfl
    clear htok hlit hqt hl hd
    refine ret_cut tyT_ok g0_gr (f := 30) (c := ((Tryd.f30).body.getD .skip)) Tryd.func30 rfl (by kernel_rfl) (of_decide_eq_true (by kernel_rfl)) ?_
    refine rtok_head s n a q zq W D T e1 m h0 hn h1 hq hzq hs hR ?_
    refine Seg.cutK 3 130 [] 0 (fun _ : Unit => []) (fun _ => []) (fun _ => False) tyT_ok mixed (fun _ => 0) (fun E => retQ E tyT (Tryd.f30).results.toList (.tup [.agg [pI 0, pS ⟨#[]⟩, pI 0], pI 0, pI 4])) (by kernel_rfl) ?_ (fun _ h => h.elim)
    intro P G E hc hM hE
    replace hl1 := hc _ _ _ hl1
    replace hd1 := hc _ _ _ hd1
    replace hli := hc _ _ _ hli
    clear hE hc hM hR hau hrl hrl2 hn hq hzq h1
    rcases hf with ⟨f1, f2⟩ | ⟨f1, f2⟩
    all_goals
      cbv
      repeat (first | (refine ⟨_, hl1, ?_⟩; cbv) | (refine ⟨_, hd1, ?_⟩; cbv) | (simp only [f1]; cbv) | simp only [f1] | (simp only [f2]; cbv) | simp only [f2] | (refine ⟨_, hli, ?_⟩; cbv) | (simp only [f3]; cbv) | simp only [f3])
  | some p =>
    obtain ⟨t, r⟩ := p
    rw [hlit] at htok hli
    simp only at hli htok
    rw [rtokR_ok htok]
    unfold pTk
    obtain ⟨u, hu1, hu2, _⟩ := lit_app uB q _ _ _ hlit
    have hlen : (rst s (a + 1)).length = u.length + r.length := by rw [hu2, List.length_append]
    obtain ⟨e2, he2⟩ : ∃ x : Int, n - (r.length : Nat) - a = x := ⟨_, rfl⟩
    rw [hn, he2] at hli ⊢
    have f3 : decide (e2 = 0) = false := decide_eq_false (by omega)
    have hbt : (bL t).data.toList = t := by unfold bL; simp
    have hrp : repairS (bL t) = bL (repairL t) := by
      unfold repairS
      rw [hbt]
      rfl
    rw [hrp] at hli
    obtain ⟨X, hX⟩ : ∃ x, bL (repairL t) = x := ⟨_, rfl⟩
    rw [hX] at hli
    rw [hX]
    clear htok hlit hqt hl hd hu1 hu2 hlen he2 hbt hrp hX
    refine ret_cut tyT_ok g0_gr (f := 30) (c := ((Tryd.f30).body.getD .skip)) Tryd.func30 rfl (by kernel_rfl) (of_decide_eq_true (by kernel_rfl)) ?_
    refine rtok_head s n a q zq W D T e1 m h0 hn h1 hq hzq hs hR ?_
    refine Seg.cutK 3 130 [] 0 (fun _ : Unit => []) (fun _ => []) (fun _ => False) tyT_ok mixed (fun _ => 0) (fun E => retQ E tyT (Tryd.f30).results.toList (.tup [.agg [pI 4, pS X, pI a], pI e2, pI 0])) (by kernel_rfl) ?_ (fun _ h => h.elim)
    intro P G E hc hM hE
    replace hl1 := hc _ _ _ hl1
    replace hd1 := hc _ _ _ hd1
    replace hli := hc _ _ _ hli
    clear hE hc hM hR hau hrl hrl2 hn hq hzq h1
    rcases hf with ⟨f1, f2⟩ | ⟨f1, f2⟩
    all_goals
      cbv
      repeat (first | (refine ⟨_, hl1, ?_⟩; cbv) | (refine ⟨_, hd1, ?_⟩; cbv) | (simp only [f1]; cbv) | simp only [f1] | (simp only [f2]; cbv) | simp only [f2] | (refine ⟨_, hli, ?_⟩; cbv) | (simp only [f3]; cbv) | simp only [f3])
end Go.Proofs.YtnhbboknffppiaaDoor
