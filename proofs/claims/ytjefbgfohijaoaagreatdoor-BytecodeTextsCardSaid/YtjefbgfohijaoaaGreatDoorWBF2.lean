/- Own work: package knapsackref27: Digits, line (turned from the texts for the package value). -/
import Derived.Test.YtjefbgfohijaoaaGreatDoorWBF1
import Derived.Lib.ItoaLen
namespace Go.Proofs.YtjefbgfohijaoaaGreatDoor
open Go.RowKit
set_option maxRecDepth 100000
set_option linter.unusedSimpArgs false
def preD (m : Nat) : List UInt8 := if m = 0 then [] else Lib.decDigits m
theorem preD_step (m : Nat) (h : 0 < m) (s : List UInt8) : preD (m / 10) ++ (UInt8.ofNat (48 + m % 10) :: s) = preD m ++ s := by
 unfold preD
 rw [if_neg (show ¬ m = 0 by omega)]
 by_cases h1 : m < 10
 ·rw [if_pos (by omega), Lib.decDigits_one h1, Nat.mod_eq_of_lt h1]; simp
 ·rw [if_neg (by omega)]
  conv => rhs; rw [Lib.decDigits, dif_neg h1]
  simp
def digS : ByteArray := ⟨#[48, 49, 50, 51, 52, 53, 54, 55, 56, 57]⟩
theorem digS_ext : ∀ i : Fin 10, digS.extract i.val (i.val + 1) = ⟨#[UInt8.ofNat (48 + i.val)]⟩ := by decide +kernel
theorem tmod_nat (n : Int) (h : 0 <= n) : n.tmod 10 = ((n.toNat % 10 : Nat) : Int) := by
 obtain ⟨m, rfl⟩ := Int.eq_ofNat_of_zero_le h
 exact (Int.ofNat_tmod m 10).symm
theorem tdiv_nat (n : Int) (h : 0 <= n) : n.tdiv 10 = ((n.toNat / 10 : Nat) : Int) := by
 obtain ⟨m, rfl⟩ := Int.eq_ofNat_of_zero_le h
 exact (Int.ofNat_tdiv m 10).symm
structure DigI (L : List UInt8) (x : Int × ByteArray) : Prop where
 h0 : 0 <= x.1
 h1 : x.1 <= 9223372036854775807
 eq : preD x.1.toNat ++ x.2.data.toList = L
 sz : x.2.size <= L.length
set_option maxHeartbeats 1000000 in
theorem rdigits_pos (n : Int) (hn0 : 0 <= n) (hn : n <= 9223372036854775807) : RZ 30 [pI n] (pS ⟨(Lib.decDigits n.toNat).toArray⟩) := by
 have hL : preD (n.toNat / 10) ++ [UInt8.ofNat (48 + n.toNat % 10)] = Lib.decDigits n.toNat := by
  by_cases h0 : n.toNat = 0
  ·rw [h0]; rw [Lib.decDigits_one (by omega)]; rfl
  ·have := preD_step n.toNat (by omega) []
   rw [List.append_nil] at this
   rw [this]; simp [preD, h0]
 have hLl : (Lib.decDigits n.toNat).length <= 21 := by
  have := Lib.itoa_length_le n (by omega) hn
  unfold Lib.itoa at this
  rw [if_neg (by omega)] at this; exact this
 generalize Lib.decDigits n.toNat = L at *
 refine ret_by tyT_ok gz_gr mixed (fun _ => 0) Tryz.func30 rfl (by kernel_rfl) (by kernel_rfl) rfl fun P G E hc hE => ?_
 have e0 : decide (n = -9223372036854775808) = false := decide_eq_false (by omega)
 have e1 : E.lti n 0 = false := by rw [hE]; exact decide_eq_false (by omega)
 have hb : ∀ m : Int, 0 <= m -> m <= 9223372036854775807 -> E.ple 0 (E.rem m 10) /\ E.ple (E.rem m 10) (E.wadd .i64 (E.rem m 10) 1) /\ E.ple (E.wadd .i64 (E.rem m 10) 1) (E.size digS) /\ E.ext digS (E.nat (E.rem m 10)) (E.nat (E.wadd .i64 (E.rem m 10) 1)) = ⟨#[UInt8.ofNat (48 + m.toNat % 10)]⟩ /\ (0 <= E.wquo .i64 m 10 /\ E.wquo .i64 m 10 <= m /\ (E.wquo .i64 m 10).toNat = m.toNat / 10) := fun m h0 h1 => by
  rw [hE]
  simp only [stdE]
  have hd : (0 : Int) <= ((m.toNat / 10 : Nat) : Int) /\ ((m.toNat / 10 : Nat) : Int) <= m := ⟨Int.natCast_nonneg _, by have := Int.ofNat_le.2 (Nat.div_le_self m.toNat 10); rwa [Int.toNat_of_nonneg h0] at this⟩
  rw [tmod_nat m h0, tdiv_nat m h0, wrap_i64_in (by omega) (by omega), wrap_i64_in (by omega) (by omega)]
  have h9 : m.toNat % 10 < 10 := by omega
  refine ⟨by omega, by omega, by have : digS.size = 10 := rfl; omega, ?_, hd.1, hd.2, Int.toNat_natCast _⟩
  have := digS_ext ⟨m.toNat % 10, h9⟩
  rw [<-this]
  congr 1
 have hcat : ∀ k (s : ByteArray), s.size <= L.length -> E.cat (⟨#[k]⟩ : ByteArray) s := fun k s hs => by
  rw [hE]
  show _ <= _
  have : (⟨#[k]⟩ : ByteArray).size = 1 := rfl
  omega
 obtain ⟨b1, b2, b3, b4, b5, b6, b7⟩ := hb n hn0 hn
 cbv
 simp only [e0]
 cbv
 simp only [e1]
 cbv
 refine ⟨b1, b2, b3,?_⟩
 refine loop_by 33 [0, 3] 0 (fun x : Int × ByteArray => [.p (pI x.1), .p (pS x.2)]) (fun _ => []) (DigI L) (fun x => x.1.toNat) (E.wquo .i64 n 10, E.ext digS (E.nat (E.rem n 10)) (E.nat (E.wadd .i64 (E.rem n 10) 1))) ⟨rfl, rfl, rfl, rfl, rfl⟩ ⟨?_, ?_, ?_,?_⟩ ?_
 ·exact b5
 ·exact Int.le_trans b6 hn
 ·simp only [b4, b7]; exact hL
 ·simp only [b4]
  rw [<-hL]
  show 1 <= _
  simp
 rintro ⟨m, s⟩ ⟨h0, h1, h2, h3⟩
 simp only at h0 h1 h2 h3
 obtain ⟨c1, c2, c3, c4, c5, c8, c9⟩ := hb m h0 h1
 have hlt : E.lti 0 m = decide (0 < m) := by rw [hE]; rfl
 by_cases hm : 0 < m
 ·rw [decide_eq_true hm] at hlt
  have hst := preD_step m.toNat (by omega) s.data.toList
  cbv
  simp only [hlt]
  cbv
  refine ⟨c1, c2, c3,?_⟩
  have c6 : E.cat (E.ext digS (E.nat (E.rem m 10)) (E.nat (E.wadd .i64 (E.rem m 10) 1))) s := by rw [c4]; exact hcat _ s h3
  have c7 : E.add (E.ext digS (E.nat (E.rem m 10)) (E.nat (E.wadd .i64 (E.rem m 10) 1))) s = ⟨#[UInt8.ofNat (48 + m.toNat % 10)]⟩ ++ s := by rw [c4, hE]; rfl
  refine ⟨c6,?_⟩
  refine .mk (E.wquo .i64 m 10, E.add (E.ext digS (E.nat (E.rem m 10)) (E.nat (E.wadd .i64 (E.rem m 10) 1))) s) ⟨rfl, rfl, rfl, rfl, rfl⟩ ⟨?_, ?_, ?_,?_⟩ ?_
  ·exact c5
  ·exact Int.le_trans c8 h1
  ·simp only [c9, c7]
   rw [ByteArray.data_append, Array.toList_append]
   rw [<-h2, <- hst]
   rfl
  ·simp only [c7]
   rw [ByteArray.size_append, <- h2, <- hst]
   have : (⟨#[UInt8.ofNat (48 + m.toNat % 10)]⟩ : ByteArray).size = 1 := rfl
   have e3 : s.data.toList.length = s.size := rfl
   simp only [List.length_append, List.length_cons, e3]
   omega
  ·show (E.wquo .i64 m 10).toNat < m.toNat
   rw [c9]
   exact Nat.div_lt_self (by omega) (by omega)
 ·rw [decide_eq_false hm] at hlt
  cbv
  simp only [hlt]
  cbv
  have hz : m.toNat = 0 := by omega
  rw [hz] at h2
  have e2 : s = ⟨L.toArray⟩ := by
   rw [<-h2]
   rfl
  rw [e2]
def minT : ByteArray := ⟨#[45, 57, 50, 50, 51, 51, 55, 50, 48, 51, 54, 56, 53, 52, 55, 55, 53, 56, 48, 56]⟩
theorem itoaS_min : itoaS (-9223372036854775808) = minT := by
 have : Lib.itoa (-9223372036854775808) = minT.data.toList := by
  unfold Lib.itoa
  rw [if_pos (by decide)]
  have e : (-9223372036854775808 : Int).natAbs = 9223372036854775808 := rfl
  rw [e]
  have step : ∀ n : Nat, ¬ n < 10 -> Lib.decDigits n = Lib.decDigits (n / 10) ++ [UInt8.ofNat (48 + n % 10)] := fun n h => by
   conv => lhs; rw [Lib.decDigits, dif_neg h]
  rw [step 9223372036854775808 (by decide), step 922337203685477580 (by decide), step 92233720368547758 (by decide), step 9223372036854775 (by decide), step 922337203685477 (by decide), step 92233720368547 (by decide), step 9223372036854 (by decide), step 922337203685 (by decide), step 92233720368 (by decide), step 9223372036 (by decide), step 922337203 (by decide), step 92233720 (by decide), step 9223372 (by decide), step 922337 (by decide), step 92233 (by decide), step 9223 (by decide), step 922 (by decide), step 92 (by decide), Lib.decDigits_one (i := 9) (by decide)]
  rfl
 unfold itoaS
 rw [this]
theorem rdigits_ret (n : Int) (hz : IZ n) : RZ 30 [pI n] (pS (itoaS n)) := by
 obtain ⟨h0, h1⟩ := hz
 by_cases hn : 0 <= n
 ·have h := rdigits_pos n hn h1
  have e : itoaS n = ⟨(Lib.decDigits n.toNat).toArray⟩ := by unfold itoaS Lib.itoa; rw [if_neg (by omega)]
  rw [e]; exact h
 ·by_cases hm : n = -9223372036854775808
  ·subst hm
   rw [itoaS_min]
   refine ret_by tyT_ok gz_gr mixed (fun _ => 0) Tryz.func30 rfl (by kernel_rfl) (by kernel_rfl) rfl fun P G E hc hE => ?_
   cbv
  ·have h := rdigits_pos (-n) (by omega) (by omega)
   have e : itoaS n = (⟨#[45]⟩ : ByteArray) ++ ⟨(Lib.decDigits (-n).toNat).toArray⟩ := by
    unfold itoaS Lib.itoa
    rw [if_pos (by omega), show n.natAbs = (-n).toNat by omega]
    apply ByteArray.ext
    rw [ByteArray.data_append]
    simp
   rw [e]
   have hl : (Lib.decDigits (-n).toNat).length <= 21 := by
    have := Lib.itoa_length_le (-n) (by omega) (by omega)
    unfold Lib.itoa at this
    rw [if_neg (by omega)] at this; exact this
   generalize Lib.decDigits (-n).toNat = L at *
   generalize hd : (⟨#[45]⟩ : ByteArray) ++ ⟨L.toArray⟩ = D
   generalize hs : (⟨L.toArray⟩ : ByteArray) = s at *
   have hsz : s.size <= 21 := by subst hs; exact hl
   refine ret_by tyT_ok gz_gr mixed (fun _ => 0) Tryz.func30 rfl (by kernel_rfl) (by kernel_rfl) rfl fun P G E hc hE => ?_
   have e0 : decide (n = -9223372036854775808) = false := decide_eq_false hm
   have e1 : E.lti n 0 = true := by rw [hE]; exact decide_eq_true (by omega)
   have e2 : E.wsub .i64 0 n = -n := by rw [hE]; simp only [stdE]; rw [wrap_i64_in (by omega) (by omega)]; omega
   have e3 : E.cat ⟨#[45]⟩ s := by
    rw [hE]; show _ <= _
    have : (⟨#[45]⟩ : ByteArray).size = 1 := rfl
    omega
   have e4 : E.add ⟨#[45]⟩ s = D := by rw [hE]; exact hd
   replace h := hc _ _ _ h
   generalize -n = m at *
   cbv
   simp only [e0]
   cbv
   simp only [e1]
   cbv
   simp only [e2]
   refine ⟨_, h,?_⟩
   cbv
   refine ⟨e3,?_⟩
   simp only [e4]
theorem itoaS_size (n : Int) (h : IZ n) : (itoaS n).size <= 21 := by
 show (Lib.itoa n).length <= 21
 exact Lib.itoa_length_le n h.1 h.2
def pIs (l : List Int) : List (List PV) := l.map fun n => [pI n]
theorem joinB_snoc (w : Bs) : ∀ (l : List Bs), joinB (l ++ [w]) = if l = [] then w else joinB l ++ 32 :: w
 | [] => rfl
 | [x] => rfl
 | x :: y :: l => by
  have ih := joinB_snoc w (y :: l)
  rw [if_neg (List.cons_ne_nil _ _)] at ih ⊢
  show x ++ 32 :: joinB ((y :: l) ++ [w]) = (x ++ 32 :: joinB (y :: l)) ++ 32 :: w
  rw [ih]
  simp
def lnN (s : ByteArray) (ns : List Int) : Bs := lnB (wB (s :: ns.map itoaS))
structure LnI (s : ByteArray) (ns : List Int) (n : Int) (x : Int × ByteArray) : Prop where
 i0 : 0 <= x.1
 i1 : x.1 <= n
 o : x.2 = bL (joinB (wB (s :: (ns.take x.1.toNat).map itoaS)))
 sz : x.2.size <= 1000000 + 22 * x.1.toNat
theorem rline_nil (s : ByteArray) (hs : s.size <= 1000000) : RZ 33 [pS s, .v (.slice none 0 0)] (pS (bL (lnN s []))) := by
 obtain ⟨T, hT⟩ : ∃ y, bL (lnN s []) = y := ⟨_, rfl⟩
 have hsT : s ++ ⟨#[10]⟩ = T := by
  rw [<-hT]
  refine bl_inj ?_
  rw [ByteArray.data_append, Array.toList_append]
  unfold bL lnN lnB wB
  simp [joinB]
 rw [hT]
 obtain ⟨μ, hμ⟩ : ∃ μ : Int -> Nat, ∀ x, μ x = 2000000000 - x.toNat := ⟨_, fun _ => rfl⟩
 refine ret_by tyT_ok gz_gr mixed (fun _ => 0) Tryz.func33 rfl (by kernel_rfl) (by kernel_rfl) rfl fun P G E hc hE => ?_
 have l1 : E.ofN 0 = 0 := by rw [hE]; rfl
 have d1 : E.lti 0 0 = false := by rw [hE]; rfl
 have j1 : E.add s ⟨#[10]⟩ = T := by rw [hE]; exact hsT
 have c1 : E.cat s ⟨#[10]⟩ := by
  rw [hE]
  show ((s.size : Nat) : Int) + 1 <= 9223372036854775807
  omega
 clear hE hc hT hsT hs
 cbv
 repeat (first | (simp only [l1]; cbv) | simp only [l1])
 refine loop_by 22 [0, 1, 5] 0 (fun x : Int => [.p (pS s), .p (.v (.slice none 0 0)), .p (pI x)]) (fun _ => []) (fun i => i = 0) μ 0 ⟨rfl, rfl, rfl, rfl, rfl⟩ rfl ?_
 intro i hi
 subst hi
 clear hμ
 cbv
 repeat (first | (simp only [l1]; cbv) | simp only [l1] | (simp only [d1]; cbv) | simp only [d1] | (refine ⟨c1,?_⟩; cbv) | (simp only [j1]; cbv) | simp only [j1])
set_option maxHeartbeats 1000000 in
theorem rline_ret (s : ByteArray) (ns : List Int) (hs : s.size <= 1000000) (hn9 : ns.length <= 100) (hz : ∀ x ∈ ns, IZ x) : RZ 33 [pS s, .ro 1 (pIs ns)] (pS (bL (lnN s ns))) := by
 obtain ⟨n, hn⟩ : ∃ n : Int, ((ns.length : Nat) : Int) = n := ⟨_, rfl⟩
 have hnn : n <= 100 := by omega
 have hRl : (((pIs ns).length : Nat) : Int) = n := by unfold pIs; rw [List.length_map]; exact hn
 have hg : ∀ i : Int, 0 <= i -> i < n -> ∃ x, ns[i.toNat]? = some x /\ (pIs ns)[i.toNat]? = some [pI x] := fun i h0 h1 => by
  have hl : i.toNat < ns.length := by omega
  refine ⟨_, List.getElem?_eq_getElem hl,?_⟩
  unfold pIs
  rw [List.getElem?_map, List.getElem?_eq_getElem hl]
  rfl
 obtain ⟨R, hR⟩ : ∃ y, pIs ns = y := ⟨_, rfl⟩
 rw [hR] at hRl hg ⊢
 have hI0 : LnI s ns n (0, s) := ⟨Int.le_refl _, by show 0 <= n; omega, by
  refine bl_inj ?_
  show _ = (bL (joinB (wB [s]))).data.toList
  unfold bL wB
  simp [joinB], by show s.size <= _; omega⟩
 have hdg := fun (x : Int) (h : IZ x) => rdigits_ret x h
 obtain ⟨T, hT⟩ : ∃ y, bL (lnN s ns) = y := ⟨_, rfl⟩
 rw [hT]
 obtain ⟨μ, hμ⟩ : ∃ μ : Int × ByteArray -> Nat, ∀ x, μ x = 2000000000 - x.1.toNat := ⟨_, fun _ => rfl⟩
 refine ret_by tyT_ok gz_gr mixed (fun _ => 0) Tryz.func33 rfl (by kernel_rfl) (by kernel_rfl) rfl fun P G E hc hE => ?_
 replace hdg := fun (x : Int) (h : IZ x) => hc _ _ _ (hdg x h)
 have l1 : E.ofN R.length = n := by rw [hE]; exact hRl
 have elt := qLti hE
 have eple := qPle hE
 have enat : ∀ i, E.nat i = i.toNat := fun i => by rw [hE]; rfl
 have eadd := qAdd hE
 have ecat : ∀ a b : ByteArray, a.size <= 100000000 -> b.size <= 100000000 -> E.cat a b := fun a b h1 h2 => by rw [hE]; show ((a.size : Nat) : Int) + ((b.size : Nat) : Int) <= _; omega
 have ejoin : ∀ a b, E.add a b = a ++ b := fun a b => by rw [hE]; rfl
 clear hE hc
 cbv at l1
 cbv
 repeat (first | (simp only [l1]; cbv) | simp only [l1])
 refine loop_by 22 [0, 1, 5] 0 (fun x : Int × ByteArray => [.p (pS x.2), .p (.ro 1 R), .p (pI x.1)]) (fun _ => []) (LnI s ns n) μ (0, s) ⟨rfl, rfl, rfl, rfl, rfl⟩ hI0 ?_
 clear hI0
 rintro ⟨i, out⟩ ⟨i0, i1, ho, hsz⟩
 simp only at i0 i1 ho hsz
 rcases Classical.em (i < n) with hlt | hlt
 ·have d1 : E.lti i n = true := by rw [elt]; exact decide_eq_true hlt
  obtain ⟨x, hx, g1⟩ := hg i i0 hlt
  rw [<-enat] at g1
  have p1 := eple 0 i i0
  have hxz := hz x (List.mem_of_getElem? hx)
  have hd := hdg x hxz
  have hds := itoaS_size x hxz
  obtain ⟨i2, hi2⟩ : ∃ y : Int, i + 1 = y := ⟨_, rfl⟩
  have ei := eadd i 1 (by omega) (by omega) (by omega) (by omega)
  rw [hi2] at ei
  obtain ⟨D, hD⟩ : ∃ y, itoaS x = y := ⟨_, rfl⟩
  rw [hD] at hd hds
  obtain ⟨P1, hP1⟩ : ∃ y, (⟨#[32]⟩ : ByteArray) ++ D = y := ⟨_, rfl⟩
  obtain ⟨O2, hO2⟩ : ∃ y, out ++ P1 = y := ⟨_, rfl⟩
  have j1 := (ejoin ⟨#[32]⟩ D).trans hP1
  have j2 := (ejoin out P1).trans hO2
  have hP1s : P1.size = 1 + D.size := by rw [<-hP1]; exact ByteArray.size_append
  have hO2s : O2.size = out.size + P1.size := by rw [<-hO2]; exact ByteArray.size_append
  have c1 := ecat ⟨#[32]⟩ D (by decide) (by omega)
  have c2 := ecat out P1 (by omega) (by omega)
  have hI2 : LnI s ns n (i2, O2) := by
   refine ⟨by show 0 <= i2; omega, by show i2 <= n; omega, ?_, by show O2.size <= 1000000 + 22 * i2.toNat; omega⟩
   show O2 = _
   rw [<-hO2, <- hP1, ho, show i2.toNat = i.toNat + 1 by omega, List.take_add_one, hx, Option.toList_some, List.map_append]
   refine bl_inj ?_
   have hjs := joinB_snoc D.data.toList (wB (s :: (ns.take i.toNat).map itoaS))
   rw [if_neg (by unfold wB; simp)] at hjs
   have hws : wB (s :: ((ns.take i.toNat).map itoaS ++ [x].map itoaS)) = wB (s :: (ns.take i.toNat).map itoaS) ++ [D.data.toList] := by rw [<-hD]; unfold wB; simp
   rw [hws, hjs, ByteArray.data_append, Array.toList_append, ByteArray.data_append, Array.toList_append]
   unfold bL
   simp
  have hM2 : μ (i2, O2) < μ (i, out) := by
   rw [hμ, hμ]
   show 2000000000 - i2.toNat < 2000000000 - i.toNat
   omega
  clear hdg elt eple enat eadd ecat ejoin hg hz hx hxz hds hi2 hD hP1 hO2 hP1s hO2s hsz ho hμ hlt hT hRl hn
  cbv
  repeat (first | (simp only [l1]; cbv) | simp only [l1] | (simp only [d1]; cbv) | simp only [d1] | (refine ⟨p1,_,g1,?_⟩; cbv) | (refine ⟨_, hd,?_⟩; cbv) | (refine ⟨c1,?_⟩; cbv) | (simp only [j1]; cbv) | simp only [j1] | (refine ⟨c2,?_⟩; cbv) | (simp only [j2]; cbv) | simp only [j2] | (simp only [ei]; cbv) | simp only [ei])
  refine .mk (i2, O2) ⟨rfl, rfl, rfl, rfl, rfl⟩ ?_ ?_
  ·exact hI2
  ·exact hM2
 ·have d1 : E.lti i n = false := by rw [elt]; exact decide_eq_false hlt
  have hin : i = n := by omega
  subst hin
  replace hn : ((ns.length : Nat) : Int) = i := hn
  have hf : out ++ ⟨#[10]⟩ = T := by
   rw [<-hT, ho, show i.toNat = ns.length by omega, List.take_length]
   refine bl_inj ?_
   rw [ByteArray.data_append, Array.toList_append]
   unfold bL lnN lnB
   simp
  have j1 := (ejoin out ⟨#[10]⟩).trans hf
  have c1 := ecat out ⟨#[10]⟩ (by omega) (by decide)
  clear hdg elt eple enat eadd ecat ejoin hg hz hsz ho hμ hlt hT hRl hn hf
  cbv
  repeat (first | (simp only [l1]; cbv) | simp only [l1] | (simp only [d1]; cbv) | simp only [d1] | (refine ⟨c1,?_⟩; cbv) | (simp only [j1]; cbv) | simp only [j1])
end Go.Proofs.YtjefbgfohijaoaaGreatDoor
