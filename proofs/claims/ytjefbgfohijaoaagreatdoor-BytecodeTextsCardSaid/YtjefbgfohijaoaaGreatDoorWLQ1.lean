/- Own work: package knapsackref25: Quote. -/
import Derived.Test.YtjefbgfohijaoaaGreatDoorWGU
import Derived.Test.YtjefbgfohijaoaaGreatDoorWGP
import Derived.Test.YtjefbgfohijaoaaGreatDoorWLB7
namespace Go.Proofs.YtjefbgfohijaoaaGreatDoor
open Go.RowKit
set_option maxRecDepth 100000
set_option linter.unusedSimpArgs false
theorem wrap_u8_q (n : Int) : IntKind.u8.wrap n = n % 256 := by
 have e1 : ((2 : Int) ^ IntKind.u8.bits) = 256 := by decide
 have e3 : IntKind.u8.signed = false := rfl
 simp only [IntKind.wrap, e1, e3, Bool.false_and, Bool.false_eq_true, if_false]
theorem qB_a {c : UInt8} (h : c.toNat = 34 \/ c.toNat = 92) : qB c = [92, c] := by
 unfold qB
 rw [if_pos (h.imp (fun e => UInt8.toNat_inj.1 e) (fun e => UInt8.toNat_inj.1 e))]
theorem qB_k {c : UInt8} (k : UInt8) (h : c.toNat = k.toNat) : qB c = qB k := by rw [UInt8.toNat_inj.1 h]
theorem qB_h {c : UInt8} (h1 : ¬ (c.toNat = 34 \/ c.toNat = 92)) (h2 : c.toNat ≠ 10) (h3 : c.toNat ≠ 9) (h4 : c.toNat ≠ 13) (h5 : c.toNat ≠ 8) : qB c = if c.toNat < 32 \/ c.toNat = 127 then [92, 120, hexd (c.toNat / 16), hexd (c.toNat % 16)] else [c] := by
 unfold qB
 rw [if_neg (fun h => h1 (h.imp (fun e => by rw [e]; rfl) (fun e => by rw [e]; rfl))), if_neg (fun h => h2 (by rw [h]; rfl)), if_neg (fun h => h3 (by rw [h]; rfl)), if_neg (fun h => h4 (by rw [h]; rfl)), if_neg (fun h => h5 (by rw [h]; rfl))]
 have e : (c.toNat < 32 \/ c = 127) ↔ (c.toNat < 32 \/ c.toNat = 127) := ⟨fun h => h.imp id (fun e => by rw [e]; rfl), fun h => h.imp id (fun e => UInt8.toNat_inj.1 e)⟩
 by_cases h : c.toNat < 32 \/ c.toNat = 127
 ·rw [if_pos h, if_pos (e.2 h)]
 ·rw [if_neg h, if_neg fun h' => h (e.1 h')]
theorem qB_len (c : UInt8) : (qB c).length <= 4 := by
 unfold qB
 repeat' split
 all_goals simp
theorem hex_ext (r : Nat) (h : r < 16) : (⟨#[48, 49, 50, 51, 52, 53, 54, 55, 56, 57, 97, 98, 99, 100, 101, 102]⟩ : ByteArray).extract r (r + 1) = bL [hexd r] := by
 have key := List.all_eq_true.1 (show ((List.range 16).all fun r => decide (((⟨#[48, 49, 50, 51, 52, 53, 54, 55, 56, 57, 97, 98, 99, 100, 101, 102]⟩ : ByteArray).extract r (r + 1)).data.toList = [hexd r])) = true by decide +kernel) r (List.mem_range.2 h)
 exact bl_inj (by rw [of_decide_eq_true key]; unfold bL; simp)
theorem bL_app (a b : Bs) : bL a ++ bL b = bL (a ++ b) := bl_inj (by rw [ByteArray.data_append, Array.toList_append]; unfold bL; simp)
structure QuI (x : Bs) (n : Int) (st : Int × ByteArray) : Prop where
 i0 : 0 <= st.1
 i1 : st.1 <= n
 o : st.2 = bL (34 :: (x.take st.1.toNat).flatMap qB)
theorem quI_next {x : Bs} {n i i2 : Int} {c : UInt8} {out : ByteArray} (h : QuI x n (i, out)) (hx : x[i.toNat]? = some c) (h2 : i + 1 = i2) (hlt : i < n) : QuI x n (i2, out ++ bL (qB c)) := by
 obtain ⟨h0, h1, h3⟩ := h
 simp only at h0 h1 h3
 refine ⟨by show 0 <= i2; omega, by show i2 <= n; omega,?_⟩
 show out ++ bL (qB c) = _
 rw [h3, bL_app, show i2.toNat = i.toNat + 1 by omega, List.take_add_one, hx]
 simp
theorem quI_size {x : Bs} {n i : Int} {out : ByteArray} (h : QuI x n (i, out)) : ((out.size : Nat) : Int) <= 4 * i + 1 := by
 obtain ⟨h0, h1, h3⟩ := h
 simp only at h0 h1 h3
 have hlen : ∀ l : Bs, (l.flatMap qB).length <= 4 * l.length := fun l => by
  induction l with
  | nil => exact Nat.le_refl _
  | cons c l ih =>
   have := qB_len c
   rw [List.flatMap_cons, List.length_append, List.length_cons]
   omega
 have h4 := hlen (x.take i.toNat)
 have h5 : (x.take i.toNat).length <= i.toNat := by rw [List.length_take]; omega
 have h6 : out.size = (34 :: (x.take i.toNat).flatMap qB).length := by rw [h3]; rfl
 rw [List.length_cons] at h6
 omega
set_option maxHeartbeats 4000000 in
theorem rquote_ret (s : ByteArray) (hs : s.size <= 1000000) : V0 31 [pS s] (pS (bL (quo (repairL s.data.toList)))) := by
 have hrep := rrepair_ret s (by omega)
 have hX4 := repairS_size s
 have hXd : (repairS s).data.toList = repairL s.data.toList := by unfold repairS; simp
 rw [<-hXd]
 obtain ⟨X, hX⟩ : ∃ x, repairS s = x := ⟨_, rfl⟩
 rw [hX] at hX4 hXd hrep
 rw [hX]
 clear hXd hX
 obtain ⟨n, hn⟩ : ∃ n : Int, ((X.size : Nat) : Int) = n := ⟨_, rfl⟩
 have hn4 : n <= 4000000 := by omega
 obtain ⟨x, hx⟩ : ∃ x, X.data.toList = x := ⟨_, rfl⟩
 have hxl : ((x.length : Nat) : Int) = n := by rw [<-hx]; exact hn
 rw [hx]
 have hget : ∀ i : Int, 0 <= i -> i < n -> ∃ c, x[i.toNat]? = some c := fun i hi0 hi1 => ⟨_, List.getElem?_eq_getElem (by omega)⟩
 have hI0 : QuI x n (0, ⟨#[34]⟩) := ⟨Int.le_refl _, by show 0 <= n; omega, rfl⟩
 obtain ⟨μ, hμ⟩ : ∃ μ : Int × ByteArray -> Nat, ∀ x, μ x = 2000000000 - x.1.toNat := ⟨_, fun _ => rfl⟩
 obtain ⟨RV, hRV⟩ : ∃ y, bL (quo x) = y := ⟨_, rfl⟩
 have hfin : ∀ out, QuI x n (n, out) -> out ++ ⟨#[34]⟩ = RV := fun out h => by
  have h3 := h.o
  simp only at h3
  rw [h3, <- hRV, show n.toNat = x.length by omega, List.take_length]
  show _ ++ bL [34] = _
  rw [bL_app]
  unfold quo
  simp
 rw [hRV]
 refine ret_by tyT_ok g0_gr mixed (fun n => match n with | 19 => 15 | _ => 0) Tryz.func31 rfl (by kernel_rfl) (by kernel_rfl) rfl fun P G E hc hE => ?_
 replace hrep := hc _ _ _ hrep
 have z1 : E.size X = n := by rw [hE]; exact hn
 have elt := qLti hE
 have eple := qPle hE
 have eget : ∀ (i : Int) (c : UInt8) (z : Int), x[i.toNat]? = some c -> ((c.toNat : Nat) : Int) = z -> E.get X (E.nat i) = some z := fun i c z h hz => by
  rw [hE]
  show (X.data.toList[i.toNat]?).map _ = some z
  rw [hx, h, <- hz]
  rfl
 have eadd := qAdd hE
 have ecat : ∀ a b : ByteArray, a.size <= 100000000 -> b.size <= 100000000 -> E.cat a b := fun a b h1 h2 => by rw [hE]; show ((a.size : Nat) : Int) + ((b.size : Nat) : Int) <= _; omega
 have ejoin : ∀ a b, E.add a b = a ++ b := fun a b => by rw [hE]; rfl
 have equo : ∀ a b : Int, 0 <= a -> a <= 255 -> a / 16 = b -> E.wquo .u8 a 16 = b := fun a b h0 h1 h2 => by
  rw [hE]
  show IntKind.u8.wrap (a.tdiv 16) = b
  rw [Int.tdiv_eq_ediv_of_nonneg h0, h2, wrap_u8_q]
  omega
 have erem : ∀ a b : Int, 0 <= a -> a % 16 = b -> E.rem a 16 = b := fun a b h0 h2 => by
  rw [hE]
  show a.tmod 16 = b
  rw [Int.tmod_eq_emod_of_nonneg h0, h2]
 have eadd8 : ∀ a : Int, 0 <= a -> a <= 200 -> E.wadd .u8 a 1 = a + 1 := fun a h0 h1 => by rw [hE]; show IntKind.u8.wrap (a + 1) = a + 1; rw [wrap_u8_q]; omega
 have ehex : ∀ i j : Int, E.ext ⟨#[48, 49, 50, 51, 52, 53, 54, 55, 56, 57, 97, 98, 99, 100, 101, 102]⟩ (E.nat i) (E.nat j) = (⟨#[48, 49, 50, 51, 52, 53, 54, 55, 56, 57, 97, 98, 99, 100, 101, 102]⟩ : ByteArray).extract i.toNat j.toNat := fun i j => by rw [hE]; rfl
 have sz : E.size ⟨#[48, 49, 50, 51, 52, 53, 54, 55, 56, 57, 97, 98, 99, 100, 101, 102]⟩ = 16 := by rw [hE]; rfl
 have eext : ∀ i j : Int, E.ext X (E.nat i) (E.nat j) = X.extract i.toNat j.toNat := fun i j => by rw [hE]; rfl
 clear hE hc
 cbv
 repeat (first | (refine ⟨_, hrep,?_⟩; cbv))
 refine loop_by 84 [0, 3, 4] 0 (fun y : Int × ByteArray => [.p (pS X), .p (pS y.2), .p (pI y.1)]) (fun _ => []) (QuI x n) μ (0, ⟨#[34]⟩) ⟨rfl, rfl, rfl, rfl, rfl⟩ hI0 ?_
 clear hI0 hrep
 rintro ⟨i, out⟩ hI
 have hsz := quI_size hI
 have hIn := fun c i2 => @quI_next x n i i2 c out hI
 have hIf := hfin out
 obtain ⟨i0, i1, hout⟩ := hI
 simp only at i0 i1 hout
 replace hn : ((X.size : Nat) : Int) = n := hn
 replace hsz : ((out.size : Nat) : Int) <= 4 * i + 1 := hsz
 rcases Classical.em (i < n) with hlt | hlt
 ·have d1 : E.lti i n = true := by rw [elt]; exact decide_eq_true hlt
  obtain ⟨c, hci⟩ := hget i i0 hlt
  obtain ⟨z, hz⟩ : ∃ z : Int, ((c.toNat : Nat) : Int) = z := ⟨_, rfl⟩
  have g1 := eget i c z hci hz
  have p1 := eple 0 i i0
  obtain ⟨i2, hi2⟩ : ∃ y : Int, i + 1 = y := ⟨_, rfl⟩
  have ei := eadd i 1 (by omega) (by omega) (by omega) (by omega)
  rw [hi2] at ei
  have p2 := eple i i2 (by omega)
  have p3 := eple i2 n (by omega)
  have x1 : E.ext X (E.nat i) (E.nat i2) = bL [c] := by
   rw [eext]
   refine bl_inj ?_
   rw [bl_ext, hx, show i2.toNat - i.toNat = 1 by omega, List.drop_eq_getElem_cons (List.getElem?_eq_some_iff.1 hci).1, (List.getElem?_eq_some_iff.1 hci).2]
   unfold bL
   simp
  obtain ⟨T, hT⟩ : ∃ y, bL (qB c) = y := ⟨_, rfl⟩
  have hTs : T.size <= 4 := by rw [<-hT]; exact qB_len c
  have hI2 : QuI x n (i2, out ++ T) := hT ▸ hIn c i2 hci hi2 hlt
  have hM2 : μ (i2, out ++ T) < μ (i, out) := by
   rw [hμ, hμ]
   show 2000000000 - i2.toNat < 2000000000 - i.toNat
   omega
  obtain ⟨O2, hO2⟩ : ∃ y, out ++ T = y := ⟨_, rfl⟩
  rw [hO2] at hI2 hM2
  have jo := (ejoin out T).trans hO2
  have co := ecat out T (by omega) (by omega)
  have hc0 := UInt8.toNat_lt c
  clear hIn hIf hout hfin
  rcases Classical.em (z = 34 \/ z = 92) with ha | ha
  ·have hq := qB_a (c := c) (by omega)
   have y1 : E.add ⟨#[92]⟩ (bL [c]) = T := by rw [ejoin, <- hT, hq]; exact bL_app [92] [c]
   have c1 := ecat ⟨#[92]⟩ (bL [c]) (by decide) (by show 1 <= 100000000; decide)
   generalize bL [c] = C at *
   rcases ha with ha | ha
   ·have f1 : decide (z = 34) = true := decide_eq_true ha
    clear hq ha
    clear hget elt eple eget eadd ecat ejoin eext hn hz hci hi2 hsz hμ hlt hT hTs hc0 hO2
    cbv
    repeat (first | (simp only [z1]; cbv) | simp only [z1] | (simp only [d1]; cbv) | simp only [d1] | (refine ⟨p1,_,g1,?_⟩; cbv) | (simp only [f1]; cbv) | simp only [f1] | (simp only [ei]; cbv) | simp only [ei] | (refine ⟨p1,p2,p3,?_⟩; cbv) | (refine ⟨p1,p2,?_⟩; cbv) | (refine ⟨p2,p3,?_⟩; cbv) | (refine ⟨p3,?_⟩; cbv) | (simp only [x1]; cbv) | simp only [x1] | (refine ⟨c1,?_⟩; cbv) | (simp only [y1]; cbv) | simp only [y1] | (refine ⟨co,?_⟩; cbv) | (simp only [jo]; cbv) | simp only [jo])
    refine .mk (i2, O2) ⟨rfl, rfl, rfl, rfl, rfl⟩ ?_ ?_
    ·exact hI2
    ·exact hM2
   ·have f1 : decide (z = 34) = false := decide_eq_false (by omega)
    have f2 : decide (z = 92) = true := decide_eq_true ha
    clear hq ha
    clear hget elt eple eget eadd ecat ejoin eext hn hz hci hi2 hsz hμ hlt hT hTs hc0 hO2
    cbv
    repeat (first | (simp only [z1]; cbv) | simp only [z1] | (simp only [d1]; cbv) | simp only [d1] | (refine ⟨p1,_,g1,?_⟩; cbv) | (simp only [f1]; cbv) | simp only [f1] | (simp only [f2]; cbv) | simp only [f2] | (simp only [ei]; cbv) | simp only [ei] | (refine ⟨p1,p2,p3,?_⟩; cbv) | (refine ⟨p1,p2,?_⟩; cbv) | (refine ⟨p2,p3,?_⟩; cbv) | (refine ⟨p3,?_⟩; cbv) | (simp only [x1]; cbv) | simp only [x1] | (refine ⟨c1,?_⟩; cbv) | (simp only [y1]; cbv) | simp only [y1] | (refine ⟨co,?_⟩; cbv) | (simp only [jo]; cbv) | simp only [jo])
    refine .mk (i2, O2) ⟨rfl, rfl, rfl, rfl, rfl⟩ ?_ ?_
    ·exact hI2
    ·exact hM2
  have f1 : decide (z = 34) = false := decide_eq_false (by omega)
  have f2 : decide (z = 92) = false := decide_eq_false (by omega)
  have one : ∀ (k : UInt8) (P : Bs), ((k.toNat : Nat) : Int) = z -> qB k = P -> bL P = T := fun k P h1 h2 => by
   rw [<-hT, qB_k (c := c) k (by omega), h2]
  rcases Classical.em (z = 10) with h | h3
  ·have jT : out ++ ⟨#[92, 110]⟩ = O2 := (congrArg (out ++ ·) (one 10 [92, 110] (by rw [h]; rfl) rfl)).trans hO2
   have y1 := (ejoin out ⟨#[92, 110]⟩).trans jT
   have c1 := ecat out ⟨#[92, 110]⟩ (by omega) (by decide)
   have f3 : decide (z = 10) = true := decide_eq_true h
   clear one jT h jo co p2 p3 x1 ha
   clear hget elt eple eget eadd ecat ejoin eext hn hz hci hi2 hsz hμ hlt hT hTs hc0 hO2
   cbv
   repeat (first | (simp only [z1]; cbv) | simp only [z1] | (simp only [d1]; cbv) | simp only [d1] | (refine ⟨p1,_,g1,?_⟩; cbv) | (simp only [f1]; cbv) | simp only [f1] | (simp only [f2]; cbv) | simp only [f2] | (simp only [f3]; cbv) | simp only [f3] | (refine ⟨c1,?_⟩; cbv) | (simp only [y1]; cbv) | simp only [y1] | (simp only [ei]; cbv) | simp only [ei])
   refine .mk (i2, O2) ⟨rfl, rfl, rfl, rfl, rfl⟩ ?_ ?_
   ·exact hI2
   ·exact hM2
  have f3 : decide (z = 10) = false := decide_eq_false h3
  rcases Classical.em (z = 9) with h | h4
  ·have jT : out ++ ⟨#[92, 116]⟩ = O2 := (congrArg (out ++ ·) (one 9 [92, 116] (by rw [h]; rfl) rfl)).trans hO2
   have y1 := (ejoin out ⟨#[92, 116]⟩).trans jT
   have c1 := ecat out ⟨#[92, 116]⟩ (by omega) (by decide)
   have f4 : decide (z = 9) = true := decide_eq_true h
   clear one jT h jo co p2 p3 x1 ha h3
   clear hget elt eple eget eadd ecat ejoin eext hn hz hci hi2 hsz hμ hlt hT hTs hc0 hO2
   cbv
   repeat (first | (simp only [z1]; cbv) | simp only [z1] | (simp only [d1]; cbv) | simp only [d1] | (refine ⟨p1,_,g1,?_⟩; cbv) | (simp only [f1]; cbv) | simp only [f1] | (simp only [f2]; cbv) | simp only [f2] | (simp only [f3]; cbv) | simp only [f3] | (simp only [f4]; cbv) | simp only [f4] | (refine ⟨c1,?_⟩; cbv) | (simp only [y1]; cbv) | simp only [y1] | (simp only [ei]; cbv) | simp only [ei])
   refine .mk (i2, O2) ⟨rfl, rfl, rfl, rfl, rfl⟩ ?_ ?_
   ·exact hI2
   ·exact hM2
  have f4 : decide (z = 9) = false := decide_eq_false h4
  rcases Classical.em (z = 13) with h | h5
  ·have jT : out ++ ⟨#[92, 114]⟩ = O2 := (congrArg (out ++ ·) (one 13 [92, 114] (by rw [h]; rfl) rfl)).trans hO2
   have y1 := (ejoin out ⟨#[92, 114]⟩).trans jT
   have c1 := ecat out ⟨#[92, 114]⟩ (by omega) (by decide)
   have f5 : decide (z = 13) = true := decide_eq_true h
   clear one jT h jo co p2 p3 x1 ha h3 h4
   clear hget elt eple eget eadd ecat ejoin eext hn hz hci hi2 hsz hμ hlt hT hTs hc0 hO2
   cbv
   repeat (first | (simp only [z1]; cbv) | simp only [z1] | (simp only [d1]; cbv) | simp only [d1] | (refine ⟨p1,_,g1,?_⟩; cbv) | (simp only [f1]; cbv) | simp only [f1] | (simp only [f2]; cbv) | simp only [f2] | (simp only [f3]; cbv) | simp only [f3] | (simp only [f4]; cbv) | simp only [f4] | (simp only [f5]; cbv) | simp only [f5] | (refine ⟨c1,?_⟩; cbv) | (simp only [y1]; cbv) | simp only [y1] | (simp only [ei]; cbv) | simp only [ei])
   refine .mk (i2, O2) ⟨rfl, rfl, rfl, rfl, rfl⟩ ?_ ?_
   ·exact hI2
   ·exact hM2
  have f5 : decide (z = 13) = false := decide_eq_false h5
  rcases Classical.em (z = 8) with h | h6
  ·have jT : out ++ ⟨#[92, 98]⟩ = O2 := (congrArg (out ++ ·) (one 8 [92, 98] (by rw [h]; rfl) rfl)).trans hO2
   have y1 := (ejoin out ⟨#[92, 98]⟩).trans jT
   have c1 := ecat out ⟨#[92, 98]⟩ (by omega) (by decide)
   have f6 : decide (z = 8) = true := decide_eq_true h
   clear one jT h jo co p2 p3 x1 ha h3 h4 h5
   clear hget elt eple eget eadd ecat ejoin eext hn hz hci hi2 hsz hμ hlt hT hTs hc0 hO2
   cbv
   repeat (first | (simp only [z1]; cbv) | simp only [z1] | (simp only [d1]; cbv) | simp only [d1] | (refine ⟨p1,_,g1,?_⟩; cbv) | (simp only [f1]; cbv) | simp only [f1] | (simp only [f2]; cbv) | simp only [f2] | (simp only [f3]; cbv) | simp only [f3] | (simp only [f4]; cbv) | simp only [f4] | (simp only [f5]; cbv) | simp only [f5] | (simp only [f6]; cbv) | simp only [f6] | (refine ⟨c1,?_⟩; cbv) | (simp only [y1]; cbv) | simp only [y1] | (simp only [ei]; cbv) | simp only [ei])
   refine .mk (i2, O2) ⟨rfl, rfl, rfl, rfl, rfl⟩ ?_ ?_
   ·exact hI2
   ·exact hM2
  have f6 : decide (z = 8) = false := decide_eq_false h6
  clear one
  have hq := qB_h (c := c) (by omega) (by omega) (by omega) (by omega) (by omega)
  rcases Classical.em (z < 32 \/ z = 127) with h7 | h7
  ·rw [if_pos (by omega)] at hq
   rw [hq] at hT
   have f7 : (E.lti z 32 = true) \/ (E.lti z 32 = false /\ decide (z = 127) = true) := by
    rw [elt]
    rcases Classical.em (z < 32) with h | h
    ·exact .inl (decide_eq_true h)
    ·exact .inr ⟨decide_eq_false h, decide_eq_true (by omega)⟩
   obtain ⟨r1, hr1⟩ : ∃ y, c.toNat / 16 = y := ⟨_, rfl⟩
   obtain ⟨r2, hr2⟩ : ∃ y, c.toNat % 16 = y := ⟨_, rfl⟩
   rw [hr1, hr2] at hT
   obtain ⟨a1, ha1⟩ : ∃ y : Int, (r1 : Int) = y := ⟨_, rfl⟩
   obtain ⟨b1, hb1⟩ : ∃ y : Int, (r2 : Int) = y := ⟨_, rfl⟩
   obtain ⟨a2, ha2⟩ : ∃ y : Int, a1 + 1 = y := ⟨_, rfl⟩
   obtain ⟨b2, hb2⟩ : ∃ y : Int, b1 + 1 = y := ⟨_, rfl⟩
   have w1 := equo z a1 (by omega) (by omega) (by omega)
   have w2 := erem z b1 (by omega) (by omega)
   have w3 := eadd8 a1 (by omega) (by omega)
   have w4 := eadd8 b1 (by omega) (by omega)
   rw [ha2] at w3
   rw [hb2] at w4
   have s1 := eple 0 a1 (by omega)
   have s2 := eple a1 a2 (by omega)
   have s3 := eple a2 16 (by omega)
   have s4 := eple 0 b1 (by omega)
   have s5 := eple b1 b2 (by omega)
   have s6 := eple b2 16 (by omega)
   have v1 : E.ext ⟨#[48, 49, 50, 51, 52, 53, 54, 55, 56, 57, 97, 98, 99, 100, 101, 102]⟩ (E.nat a1) (E.nat a2) = bL [hexd r1] := by
    rw [ehex, show a1.toNat = r1 by omega, show a2.toNat = r1 + 1 by omega]
    exact hex_ext r1 (by omega)
   have v2 : E.ext ⟨#[48, 49, 50, 51, 52, 53, 54, 55, 56, 57, 97, 98, 99, 100, 101, 102]⟩ (E.nat b1) (E.nat b2) = bL [hexd r2] := by
    rw [ehex, show b1.toNat = r2 by omega, show b2.toNat = r2 + 1 by omega]
    exact hex_ext r2 (by omega)
   obtain ⟨V1, hV1⟩ : ∃ y, bL [hexd r1] = y := ⟨_, rfl⟩
   obtain ⟨V2, hV2⟩ : ∃ y, bL [hexd r2] = y := ⟨_, rfl⟩
   obtain ⟨V3, hV3⟩ : ∃ y, bL [92, 120, hexd r1] = y := ⟨_, rfl⟩
   have y1 : E.add ⟨#[92, 120]⟩ V1 = V3 := by rw [ejoin, <- hV1, <- hV3]; exact bL_app [92, 120] [hexd r1]
   have y2 : E.add V3 V2 = T := by rw [ejoin, <- hV2, <- hV3, <- hT]; exact bL_app [92, 120, hexd r1] [hexd r2]
   have c1 := ecat ⟨#[92, 120]⟩ V1 (by decide) (by rw [<-hV1]; show 1 <= 100000000; decide)
   have c2 := ecat V3 V2 (by rw [<-hV3]; show 3 <= 100000000; decide) (by rw [<-hV2]; show 1 <= 100000000; decide)
   rw [hV1] at v1
   rw [hV2] at v2
   clear hq ha h3 h4 h5 h6 h7 hr1 hr2 ha1 hb1 ha2 hb2 hV1 hV2 hV3 equo erem eadd8 ehex
   rcases f7 with f7 | ⟨f7, f8⟩
   ·skip
    clear hget elt eple eget eadd ecat ejoin eext hn hz hci hi2 hsz hμ hlt hT hTs hc0 hO2
    cbv
    repeat (first | (simp only [z1]; cbv) | simp only [z1] | (simp only [d1]; cbv) | simp only [d1] | (refine ⟨p1,_,g1,?_⟩; cbv) | (simp only [f1]; cbv) | simp only [f1] | (simp only [f2]; cbv) | simp only [f2] | (simp only [f3]; cbv) | simp only [f3] | (simp only [f4]; cbv) | simp only [f4] | (simp only [f5]; cbv) | simp only [f5] | (simp only [f6]; cbv) | simp only [f6] | (simp only [f7]; cbv) | simp only [f7] | (simp only [w1,w2,w3,w4]; cbv) | simp only [w1,w2,w3,w4] | (simp only [sz]; cbv) | simp only [sz] | (simp only [v1,v2,y1,y2,jo]; cbv) | simp only [v1,v2,y1,y2,jo] | (refine ⟨s1,s2,s3,c1,s4,s5,s6,c2,co,?_⟩; cbv) | (simp only [ei]; cbv) | simp only [ei])
    refine .mk (i2, O2) ⟨rfl, rfl, rfl, rfl, rfl⟩ ?_ ?_
    ·exact hI2
    ·exact hM2
   ·skip
    clear hget elt eple eget eadd ecat ejoin eext hn hz hci hi2 hsz hμ hlt hT hTs hc0 hO2
    cbv
    repeat (first | (simp only [z1]; cbv) | simp only [z1] | (simp only [d1]; cbv) | simp only [d1] | (refine ⟨p1,_,g1,?_⟩; cbv) | (simp only [f1]; cbv) | simp only [f1] | (simp only [f2]; cbv) | simp only [f2] | (simp only [f3]; cbv) | simp only [f3] | (simp only [f4]; cbv) | simp only [f4] | (simp only [f5]; cbv) | simp only [f5] | (simp only [f6]; cbv) | simp only [f6] | (simp only [f7]; cbv) | simp only [f7] | (simp only [f8]; cbv) | simp only [f8] | (simp only [w1,w2,w3,w4]; cbv) | simp only [w1,w2,w3,w4] | (simp only [sz]; cbv) | simp only [sz] | (simp only [v1,v2,y1,y2,jo]; cbv) | simp only [v1,v2,y1,y2,jo] | (refine ⟨s1,s2,s3,c1,s4,s5,s6,c2,co,?_⟩; cbv) | (simp only [ei]; cbv) | simp only [ei])
    refine .mk (i2, O2) ⟨rfl, rfl, rfl, rfl, rfl⟩ ?_ ?_
    ·exact hI2
    ·exact hM2
  ·rw [if_neg (by omega)] at hq
   rw [hq] at hT
   have f7 : E.lti z 32 = false := by rw [elt]; exact decide_eq_false (by omega)
   have f8 : decide (z = 127) = false := decide_eq_false (by omega)
   rw [hT] at x1
   clear hq ha h3 h4 h5 h6 h7
   clear hget elt eple eget eadd ecat ejoin eext hn hz hci hi2 hsz hμ hlt hT hTs hc0 hO2
   cbv
   repeat (first | (simp only [z1]; cbv) | simp only [z1] | (simp only [d1]; cbv) | simp only [d1] | (refine ⟨p1,_,g1,?_⟩; cbv) | (simp only [f1]; cbv) | simp only [f1] | (simp only [f2]; cbv) | simp only [f2] | (simp only [f3]; cbv) | simp only [f3] | (simp only [f4]; cbv) | simp only [f4] | (simp only [f5]; cbv) | simp only [f5] | (simp only [f6]; cbv) | simp only [f6] | (simp only [f7]; cbv) | simp only [f7] | (simp only [f8]; cbv) | simp only [f8] | (simp only [ei]; cbv) | simp only [ei] | (refine ⟨p1,p2,p3,?_⟩; cbv) | (refine ⟨p1,p2,?_⟩; cbv) | (refine ⟨p2,p3,?_⟩; cbv) | (refine ⟨p3,?_⟩; cbv) | (simp only [x1]; cbv) | simp only [x1] | (refine ⟨co,?_⟩; cbv) | (simp only [jo]; cbv) | simp only [jo])
   refine .mk (i2, O2) ⟨rfl, rfl, rfl, rfl, rfl⟩ ?_ ?_
   ·exact hI2
   ·exact hM2
 ·have d1 : E.lti i n = false := by rw [elt]; exact decide_eq_false hlt
  have hin : i = n := by omega
  subst hin
  have y1 := (ejoin out ⟨#[34]⟩).trans (hIf ⟨i0, i1, hout⟩)
  have c1 := ecat out ⟨#[34]⟩ (by omega) (by decide)
  clear hIn hIf hout hfin hget elt eple eget eadd ecat ejoin eext hn hsz hμ hlt
  cbv
  repeat (first | (simp only [z1]; cbv) | simp only [z1] | (simp only [d1]; cbv) | simp only [d1] | (refine ⟨c1,?_⟩; cbv) | (simp only [y1]; cbv) | simp only [y1])
end Go.Proofs.YtjefbgfohijaoaaGreatDoor
