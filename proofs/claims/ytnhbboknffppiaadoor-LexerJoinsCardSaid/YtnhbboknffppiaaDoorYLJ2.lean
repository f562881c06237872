/- Own work: package knapsackref25: Join. -/
import Derived.Test.YtnhbboknffppiaaDoorYLJ1
namespace Go.Proofs.YtnhbboknffppiaaDoor
open Go.RowKit
set_option maxRecDepth 100000
set_option linter.unusedSimpArgs false

structure RjI (L : List TJ) (n : Int) (st : Int × ByteArray) : Prop where
  i0 : 0 ≤ st.1
  i1 : st.1 ≤ n
  ok : (L.take st.1.toNat).all okT = true
  o : st.2 = bL (joinW (L.take st.1.toNat))
theorem joinW_take {L : List TJ} (h : ∀ x ∈ L, x.t.size ≤ 60) (h60 : L.length ≤ 60) (i : Nat) : (joinW (L.take i)).length ≤ 60060 := by
  have h1 := joinW_len (L := L.take i) fun x hx => h x (List.mem_of_mem_take hx)
  rw [List.length_take] at h1
  omega
/-- what lexing a token's text comes to -/
inductive LxC (x : TJ) : Bool → PV → Prop
  | err (f e : Int) (he : e ≠ 0) : LxC x false (.tup [.v (.slice none 0 0), pI f, pI e])
  | len (R : List (List PV)) (m : Int) (hm : ((R.length : Nat) : Int) = m) (h1 : m ≠ 1) : LxC x false (.tup [.ro 3 R, pI 0, pI 0])
  | one (R : List (List PV)) (k a : Int) (t : ByteArray) (hR : [[pI k, pS t, pI a]] = R) (b : Bool) (hb : (decide (k = x.k) && decide (t = x.t)) = b) : LxC x b (.tup [.ro 3 R, pI 0, pI 0])
theorem lx_cases (x : TJ) : LxC x (okT x) (lexR (wr x)) := by
  unfold okT
  obtain ⟨ts, er, hb⟩ : ∃ ts er, lexB (wr x).data.toList = (ts, er) := ⟨_, _, rfl⟩
  rw [hb]
  cases er with
  | some p =>
    obtain ⟨m, e⟩ := p
    rw [lexR_bad hb]
    cases ts with
    | nil => exact .err _ e (lexF_ne _ _ m e (congrArg Prod.snd hb))
    | cons y ys => cases ys <;> exact .err _ e (lexF_ne _ _ m e (congrArg Prod.snd hb))
  | none =>
    rw [lexR_ok hb]
    match ts with
    | [] => exact .len _ 0 rfl (by decide)
    | [y] => exact .one _ y.k _ (bL y.t) rfl _ rfl
    | y :: z :: ys => exact .len _ _ rfl (by rw [tkRows_len]; simp only [List.length_cons]; omega)
theorem all_take {L : List TJ} {i : Nat} {x : TJ} (h : L[i]? = some x) : (L.take (i + 1)).all okT = ((L.take i).all okT && okT x) := by
  rw [List.take_add_one, h, Option.toList_some, List.all_append]
  simp
theorem all_bad {L : List TJ} {i : Nat} {x : TJ} (h : L[i]? = some x) (hx : okT x = false) : L.all okT = false := by
  cases hc : L.all okT with
  | false => rfl
  | true =>
    rw [List.all_eq_true.1 hc x (List.mem_of_getElem? h)] at hx
    cases hx
set_option maxHeartbeats 4000000 in
theorem rjoin_ret (L : List TJ) (h60 : L.length ≤ 60) (hL : ∀ x ∈ L, x.t.size ≤ 60) : V0 24 [.ro 3 (tjRows L)] (joinR L) := by
  obtain ⟨n, hn⟩ : ∃ n : Int, ((L.length : Nat) : Int) = n := ⟨_, rfl⟩
  have hAl : (((tjRows L).length : Nat) : Int) = n := by rw [tjRows_len]; exact hn
  have hAt : ∀ (i : Int) x, L[i.toNat]? = some x → (tjRows L)[i.toNat]? = some [pI x.k, pS x.t, pI x.a] := fun i x h => tjRows_at h
  obtain ⟨A, hA⟩ : ∃ y, tjRows L = y := ⟨_, rfl⟩
  rw [hA] at hAl hAt ⊢
  have hwr := fun (x : TJ) (h : x.t.size ≤ 60) => written_ret x h
  have hlx := fun (s : ByteArray) (h : s.size ≤ 900000) => rlex_ret s h
  have hget : ∀ i : Int, 0 ≤ i → i < n → ∃ x, L[i.toNat]? = some x := fun i hi0 hi1 => ⟨_, List.getElem?_eq_getElem (by omega)⟩
  have hI0 : RjI L n (0, ⟨#[]⟩) := ⟨Int.le_refl _, by show 0 ≤ n; omega, rfl, rfl⟩
  obtain ⟨μ, hμ⟩ : ∃ μ : Int × ByteArray → Nat, ∀ x, μ x = 2000000000 - x.1.toNat := ⟨_, fun _ => rfl⟩
  obtain ⟨RV, hRV⟩ : ∃ y, joinR L = y := ⟨_, rfl⟩
  have hbadR : L.all okT = false → RV = .tup [pS ⟨#[]⟩, pI 3] := fun h => by rw [← hRV]; unfold joinR; rw [h]; rfl
  have hfin : ∀ out, RjI L n (n, out) → RV = .tup [pS out, pI 0] := fun out h => by
    have h1 := h.ok
    have h2 := h.o
    simp only at h1 h2
    rw [show n.toNat = L.length by omega, List.take_length] at h1 h2
    rw [← hRV, h2]
    unfold joinR
    rw [h1]
    rfl
  have hn60 : n ≤ 60 := by omega
  rw [hRV]
  refine ret_by tyT_ok g0_gr mixed (fun n => match n with | 7 => 29 | _ => 0) Tryd.func24 rfl (by kernel_rfl) (by kernel_rfl) rfl fun P G E hc hE => ?_
  replace hwr := fun (x : TJ) (h : x.t.size ≤ 60) => hc _ _ _ (hwr x h)
  replace hlx := fun (s : ByteArray) (h : s.size ≤ 900000) => hc _ _ _ (hlx s h)
  have l0 : E.ofN A.length = n := by rw [hE]; exact hAl
  have elt : ∀ a b, E.lti a b = decide (a < b) := fun a b => by rw [hE]; rfl
  have eple : ∀ a b, a ≤ b → E.ple a b := fun a b h => by rw [hE]; exact h
  have egA : ∀ (i : Int) x, L[i.toNat]? = some x → A[E.nat i]? = some [pI x.k, pS x.t, pI x.a] := fun i x h => by rw [hE]; exact hAt i x h
  have eadd : ∀ a b : Int, -1000000000 ≤ a → a ≤ 1000000000 → -1000000000 ≤ b → b ≤ 1000000000 → E.wadd .i64 a b = a + b := fun a b h0 h1 h2 h3 => by rw [hE]; exact wrap_i64_in (by omega) (by omega)
  have ecat : ∀ a b : ByteArray, a.size ≤ 100000000 → b.size ≤ 100000000 → E.cat a b := fun a b h1 h2 => by rw [hE]; show ((a.size : Nat) : Int) + ((b.size : Nat) : Int) ≤ _; omega
  have ejoin : ∀ a b, E.add a b = a ++ b := fun a b => by rw [hE]; rfl
  have esz : ∀ a : ByteArray, E.size a = ((a.size : Nat) : Int) := fun a => by rw [hE]; rfl
  have eln : ∀ (R : List (List PV)) (m : Int), ((R.length : Nat) : Int) = m → E.ofN R.length = m := fun R m h => by rw [hE]; exact h
  have enat0 : E.nat 0 = 0 := by rw [hE]; rfl
  have eeq : ∀ a b, E.eq a b = decide (a = b) := fun a b => by rw [hE]; rfl
  clear hE hc hAt
  cbv at l0
  cbv
  repeat (first | (simp only [l0]; cbv) | simp only [l0])
  refine loop_by 69 [0, 4, 5] 0 (fun y : Int × ByteArray => [.p (.ro 3 A), .p (pS y.2), .p (pI y.1)]) (fun _ => []) (RjI L n) μ (0, ⟨#[]⟩) ⟨rfl, rfl, rfl, rfl, rfl⟩ hI0 ?_
  clear hI0
  rintro ⟨i, out⟩ ⟨i0, i1, hok0, hout⟩
  simp only at i0 i1 hok0 hout
  replace hn : ((L.length : Nat) : Int) = n := hn
  have hsz : out.size ≤ 60060 := by rw [hout]; exact joinW_take hL h60 _
  rcases Classical.em (i < n) with hlt | hlt
  · have d1 : E.lti i n = true := by rw [elt]; exact decide_eq_true hlt
    obtain ⟨x, hx⟩ := hget i i0 hlt
    have hxs := hL x (List.mem_of_getElem? hx)
    have g1 := egA i x hx
    have p1 := eple 0 i i0
    have hw1 := hwr x hxs
    have hwz := wr_size hxs
    have hl1 := hlx (wr x) (by omega)
    have hcs := lx_cases x
    have hwj := joinW_next hx
    obtain ⟨W, hW⟩ : ∃ y, wr x = y := ⟨_, rfl⟩
    rw [hW] at hw1 hl1 hwz hwj hcs
    obtain ⟨k, t, a⟩ := x
    simp only at g1 hw1
    obtain ⟨LR, hLR⟩ : ∃ y, lexR W = y := ⟨_, rfl⟩
    rw [hLR] at hl1 hcs
    obtain ⟨bo, hok⟩ : ∃ y, okT ⟨k, t, a⟩ = y := ⟨_, rfl⟩
    rw [hok] at hcs
    clear hW hLR
    cases hcs with
    | err f e he =>
      have hbad := all_bad hx hok
      have hv := hbadR hbad
      subst hv
      have f1 : decide (e = 0) = false := decide_eq_false he
      clear hwr hlx hget hbadR hfin elt eple egA eadd ecat ejoin esz eln eeq hRV hbad hok hx hwj hout hok0 hμ hn
      cbv
      repeat (first | (simp only [l0]; cbv) | simp only [l0] | (simp only [d1]; cbv) | simp only [d1] | (refine ⟨p1,_,g1, ?_⟩; cbv) | (refine ⟨_, hw1, ?_⟩; cbv) | (refine ⟨_, hl1, ?_⟩; cbv) | (simp only [f1]; cbv) | simp only [f1])
    | len R m hm h1 =>
      have hbad := all_bad hx hok
      have hv := hbadR hbad
      subst hv
      have f0 : decide ((0 : Int) = 0) = true := rfl
      have l1 := eln R m hm
      have f1 : decide (m = 1) = false := decide_eq_false h1
      cbv at l1
      clear hwr hlx hget hbadR hfin elt eple egA eadd ecat ejoin esz eln eeq hRV hok hx hwj hout hok0 hμ hn hbad hm h1
      cbv
      repeat (first | (simp only [l0]; cbv) | simp only [l0] | (simp only [d1]; cbv) | simp only [d1] | (refine ⟨p1,_,g1, ?_⟩; cbv) | (refine ⟨_, hw1, ?_⟩; cbv) | (refine ⟨_, hl1, ?_⟩; cbv) | (simp only [f0]; cbv) | simp only [f0] | (simp only [l1]; cbv) | simp only [l1] | (simp only [f1]; cbv) | simp only [f1])
    | one R k2 a2 t2 hR b hb =>
      have f0 : decide ((0 : Int) = 0) = true := rfl
      have l1 := eln R 1 (by rw [← hR]; rfl)
      cbv at l1
      have q0 := eple 0 0 (Int.le_refl _)
      have g2 : R[E.nat 0]? = some [pI k2, pS t2, pI a2] := by rw [enat0, ← hR]; rfl
      by_cases hk : k2 = k
      · have f2 : decide (k2 = k) = true := decide_eq_true hk
        by_cases ht : t2 = t
        · have f3 : E.eq t2 t = true := by rw [eeq]; exact decide_eq_true ht
          have hb1 : bo = true := by rw [← hb, f2, decide_eq_true ht]; rfl
          rw [hb1] at hok
          obtain ⟨i2, hi2⟩ : ∃ y : Int, i + 1 = y := ⟨_, rfl⟩
          have ei := eadd i 1 (by omega) (by omega) (by omega) (by omega)
          rw [hi2] at ei
          have hal : (L.take i2.toNat).all okT = true := by
            rw [show i2.toNat = i.toNat + 1 by omega, all_take hx, hok0, hok]
            rfl
          have c2 := ecat out ⟨#[32]⟩ (by omega) (by decide)
          have hwj2 : joinW (L.take i2.toNat) = if i.toNat = 0 then W.data.toList else joinW (L.take i.toNat) ++ 32 :: W.data.toList := by
            rw [show i2.toNat = i.toNat + 1 by omega]
            exact hwj
          rcases Classical.em (0 < i) with hi | hi
          · have d2 : E.lti 0 i = true := by rw [elt]; exact decide_eq_true hi
            rw [if_neg (by omega)] at hwj2
            obtain ⟨O1, hO1⟩ : ∃ y, out ++ ⟨#[32]⟩ = y := ⟨_, rfl⟩
            obtain ⟨O2, hO2⟩ : ∃ y, O1 ++ W = y := ⟨_, rfl⟩
            have j1 := (ejoin out ⟨#[32]⟩).trans hO1
            have j2 := (ejoin O1 W).trans hO2
            have hO1s : O1.size = out.size + 1 := by rw [← hO1]; exact ByteArray.size_append
            have c3 := ecat O1 W (by omega) (by omega)
            have hI2 : RjI L n (i2, O2) := by
              refine ⟨by show 0 ≤ i2; omega, by show i2 ≤ n; omega, hal, ?_⟩
              show O2 = bL (joinW (L.take i2.toNat))
              rw [hwj2, ← hO2, ← hO1, hout]
              refine bl_inj ?_
              rw [ByteArray.data_append, Array.toList_append, ByteArray.data_append, Array.toList_append]
              unfold bL
              simp
            have hM2 : μ (i2, O2) < μ (i, out) := by
              rw [hμ, hμ]
              show 2000000000 - i2.toNat < 2000000000 - i.toNat
              omega
            clear hwr hlx hget hbadR hfin elt eple egA eadd ecat ejoin esz eln eeq hRV hok hx hwj hout hok0 hμ hn hR hb hal hi hi2 hwj2 hO1 hO2 hO1s hk ht
            cbv
            repeat (first | (simp only [l0]; cbv) | simp only [l0] | (simp only [d1]; cbv) | simp only [d1] | (refine ⟨p1,_,g1, ?_⟩; cbv) | (refine ⟨_, hw1, ?_⟩; cbv) | (refine ⟨_, hl1, ?_⟩; cbv) | (simp only [f0]; cbv) | simp only [f0] | (simp only [l1]; cbv) | simp only [l1] | (refine ⟨q0,_,g2, ?_⟩; cbv) | (refine ⟨p1,_,g1, ?_⟩; cbv) | (simp only [f2]; cbv) | simp only [f2] | (refine ⟨q0,_,g2, ?_⟩; cbv) | (refine ⟨p1,_,g1, ?_⟩; cbv) | (simp only [f3]; cbv) | simp only [f3] | (simp only [d2]; cbv) | simp only [d2] | (refine ⟨c2, ?_⟩; cbv) | (simp only [j1]; cbv) | simp only [j1] | (refine ⟨c3, ?_⟩; cbv) | (simp only [j2]; cbv) | simp only [j2] | (simp only [ei]; cbv) | simp only [ei])
            refine .mk (i2, O2) ⟨rfl, rfl, rfl, rfl, rfl⟩ ?_ ?_
            · exact hI2
            · exact hM2
          · have d2 : E.lti 0 i = false := by rw [elt]; exact decide_eq_false hi
            rw [if_pos (by omega)] at hwj2
            have ho0 : out = ⟨#[]⟩ := by rw [hout, show i.toNat = 0 by omega]; rfl
            obtain ⟨O2, hO2⟩ : ∃ y, out ++ W = y := ⟨_, rfl⟩
            have j2 := (ejoin out W).trans hO2
            have c3 := ecat out W (by omega) (by omega)
            have hI2 : RjI L n (i2, O2) := by
              refine ⟨by show 0 ≤ i2; omega, by show i2 ≤ n; omega, hal, ?_⟩
              show O2 = bL (joinW (L.take i2.toNat))
              rw [hwj2, ← hO2, ho0]
              refine bl_inj ?_
              rw [ByteArray.data_append, Array.toList_append]
              unfold bL
              simp
            have hM2 : μ (i2, O2) < μ (i, out) := by
              rw [hμ, hμ]
              show 2000000000 - i2.toNat < 2000000000 - i.toNat
              omega
            clear hwr hlx hget hbadR hfin elt eple egA eadd ecat ejoin esz eln eeq hRV hok hx hwj hout hok0 hμ hn hR hb hal hi hi2 hwj2 hO2 ho0 hk ht c2
            cbv
            repeat (first | (simp only [l0]; cbv) | simp only [l0] | (simp only [d1]; cbv) | simp only [d1] | (refine ⟨p1,_,g1, ?_⟩; cbv) | (refine ⟨_, hw1, ?_⟩; cbv) | (refine ⟨_, hl1, ?_⟩; cbv) | (simp only [f0]; cbv) | simp only [f0] | (simp only [l1]; cbv) | simp only [l1] | (refine ⟨q0,_,g2, ?_⟩; cbv) | (refine ⟨p1,_,g1, ?_⟩; cbv) | (simp only [f2]; cbv) | simp only [f2] | (refine ⟨q0,_,g2, ?_⟩; cbv) | (refine ⟨p1,_,g1, ?_⟩; cbv) | (simp only [f3]; cbv) | simp only [f3] | (simp only [d2]; cbv) | simp only [d2] | (refine ⟨c3, ?_⟩; cbv) | (simp only [j2]; cbv) | simp only [j2] | (simp only [ei]; cbv) | simp only [ei])
            refine .mk (i2, O2) ⟨rfl, rfl, rfl, rfl, rfl⟩ ?_ ?_
            · exact hI2
            · exact hM2
        · have f3 : E.eq t2 t = false := by rw [eeq]; exact decide_eq_false ht
          have hb1 : bo = false := by rw [← hb, f2, decide_eq_false ht]; rfl
          rw [hb1] at hok
          have hbad := all_bad hx hok
          have hv := hbadR hbad
          subst hv
          clear hwr hlx hget hbadR hfin elt eple egA eadd ecat ejoin esz eln eeq hRV hok hx hwj hout hok0 hμ hn hbad hR hb hk ht
          cbv
          repeat (first | (simp only [l0]; cbv) | simp only [l0] | (simp only [d1]; cbv) | simp only [d1] | (refine ⟨p1,_,g1, ?_⟩; cbv) | (refine ⟨_, hw1, ?_⟩; cbv) | (refine ⟨_, hl1, ?_⟩; cbv) | (simp only [f0]; cbv) | simp only [f0] | (simp only [l1]; cbv) | simp only [l1] | (refine ⟨q0,_,g2, ?_⟩; cbv) | (refine ⟨p1,_,g1, ?_⟩; cbv) | (simp only [f2]; cbv) | simp only [f2] | (refine ⟨q0,_,g2, ?_⟩; cbv) | (refine ⟨p1,_,g1, ?_⟩; cbv) | (simp only [f3]; cbv) | simp only [f3])
      · have f2 : decide (k2 = k) = false := decide_eq_false hk
        have hb1 : bo = false := by rw [← hb, f2]; rfl
        rw [hb1] at hok
        have hbad := all_bad hx hok
        have hv := hbadR hbad
        subst hv
        clear hwr hlx hget hbadR hfin elt eple egA eadd ecat ejoin esz eln eeq hRV hok hx hwj hout hok0 hμ hn hbad hR hb hk
        cbv
        repeat (first | (simp only [l0]; cbv) | simp only [l0] | (simp only [d1]; cbv) | simp only [d1] | (refine ⟨p1,_,g1, ?_⟩; cbv) | (refine ⟨_, hw1, ?_⟩; cbv) | (refine ⟨_, hl1, ?_⟩; cbv) | (simp only [f0]; cbv) | simp only [f0] | (simp only [l1]; cbv) | simp only [l1] | (refine ⟨q0,_,g2, ?_⟩; cbv) | (refine ⟨p1,_,g1, ?_⟩; cbv) | (simp only [f2]; cbv) | simp only [f2])
  · have d1 : E.lti i n = false := by rw [elt]; exact decide_eq_false hlt
    have hin : i = n := by omega
    subst hin
    have hv := hfin out ⟨i0, i1, hok0, hout⟩
    subst hv
    obtain ⟨q, hq⟩ : ∃ q : Int, ((out.size : Nat) : Int) = q := ⟨_, rfl⟩
    have z1 := (esz out).trans hq
    have d2 : E.lti 1048576 q = false := by rw [elt]; exact decide_eq_false (by omega)
    clear hwr hlx hget hbadR hfin elt eple egA eadd ecat ejoin esz eln eeq hRV hout hok0 hμ hn hsz hlt hq
    cbv
    repeat (first | (simp only [l0]; cbv) | simp only [l0] | (simp only [d1]; cbv) | simp only [d1] | (simp only [z1]; cbv) | simp only [z1] | (simp only [d2]; cbv) | simp only [d2])
end Go.Proofs.YtnhbboknffppiaaDoor
