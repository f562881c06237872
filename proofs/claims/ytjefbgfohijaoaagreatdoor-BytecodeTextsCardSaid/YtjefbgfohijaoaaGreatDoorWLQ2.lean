/- Own work: lexer.Quote. -/
import Derived.Test.YtjefbgfohijaoaaGreatDoorWLQ1
namespace Go.Proofs.YtjefbgfohijaoaaGreatDoor
open Go.RowKit
set_option maxRecDepth 100000
set_option linter.unusedSimpArgs false
theorem band15 (x : Int) (h0 : 0 <= x) (h1 : x < 256) : stdE.band .u8 x 15 = x % 16 := by
 have key := List.all_eq_true.1 (show ((List.range 256).all fun n => decide (stdE.band .u8 (n : Int) 15 = ((n % 16 : Nat) : Int))) = true by decide +kernel) x.toNat (List.mem_range.2 (by omega))
 have h2 := of_decide_eq_true key
 rw [show ((x.toNat : Nat) : Int) = x by omega] at h2
 rw [h2]
 omega
theorem hex_get (r : Nat) (h : r < 16) : ((⟨#[48, 49, 50, 51, 52, 53, 54, 55, 56, 57, 97, 98, 99, 100, 101, 102]⟩ : ByteArray).data.toList[((r : Int)).toNat]?).map (fun b => ((b.toNat : Nat) : Int)) = some (((hexd r).toNat : Nat) : Int) := by
 have key := List.all_eq_true.1 (show ((List.range 16).all fun r => decide (((⟨#[48, 49, 50, 51, 52, 53, 54, 55, 56, 57, 97, 98, 99, 100, 101, 102]⟩ : ByteArray).data.toList[((r : Int)).toNat]?).map (fun b => ((b.toNat : Nat) : Int)) = some (((hexd r).toNat : Nat) : Int))) = true by decide +kernel) r (List.mem_range.2 h)
 exact of_decide_eq_true key
structure QlI (x : Bs) (n : Int) (st : Int × Nat × List (List PV)) : Prop where
 i0 : 0 <= st.1
 i1 : st.1 <= n
 o : st.2.2 = lR (34 :: (x.take st.1.toNat).flatMap qB)
 m : st.2.1 = st.2.2.length
theorem qlI_next {x : Bs} {n i i2 : Int} {c : UInt8} {m m2 : Nat} {rs RS2 P : List (List PV)} (h : QlI x n (i, m, rs)) (hx : x[i.toNat]? = some c) (h2 : i + 1 = i2) (hlt : i < n) (hP : P = lR (qB c)) (hR : rs ++ P = RS2) (hm : m + P.length = m2) : QlI x n (i2, m2, RS2) := by
 obtain ⟨h0, h1, h3, h4⟩ := h
 simp only at h0 h1 h3 h4
 refine ⟨by show 0 <= i2; omega, by show i2 <= n; omega, ?_,?_⟩
 ·show RS2 = _
  rw [<-hR, h3, hP, <- lR_app, show i2.toNat = i.toNat + 1 by omega, List.take_add_one, hx]
  congr 1
  simp
 ·show m2 = RS2.length
  rw [<-hR, List.length_append]
  omega
theorem qlI_size {x : Bs} {n i : Int} {m : Nat} {rs : List (List PV)} (h : QlI x n (i, m, rs)) : ((m : Nat) : Int) <= 4 * i + 1 := by
 obtain ⟨h0, h1, h3, h4⟩ := h
 simp only at h0 h1 h3 h4
 have hlen : ∀ l : Bs, (l.flatMap qB).length <= 4 * l.length := fun l => by
  induction l with
  | nil => exact Nat.le_refl _
  | cons c l ih =>
   have := qB_len c
   rw [List.flatMap_cons, List.length_append, List.length_cons]
   omega
 have h5 := hlen (x.take i.toNat)
 have h6 : (x.take i.toNat).length <= i.toNat := by rw [List.length_take]; omega
 rw [h3, lR_len, List.length_cons] at h4
 omega
set_option maxHeartbeats 4000000 in
theorem quote_ret (s : ByteArray) (hs : s.size <= 1000000) : RL 17 [pS s] (pS (bL (quo (repairL s.data.toList)))) := by
 have hrep := repT_ret s (by omega)
 have hX4 := repairS_size s
 have hXd : (repairS s).data.toList = repairL s.data.toList := by unfold repairS; simp
 rw [<-hXd]
 obtain ⟨X, hX⟩ : ∃ x, repairS s = x := ⟨_, rfl⟩
 rw [hX] at hX4 hXd hrep
 rw [hX]
 clear hXd hX
 obtain ⟨n, hn⟩ : ∃ n : Int, ((X.size : Nat) : Int) = n := ⟨_, rfl⟩
 have hn4 : n <= 4000000 := by omega
 obtain ⟨x, hx⟩ : ∃ x, X.data.toList = x := ⟨_, rfl⟩
 have hxl : ((x.length : Nat) : Int) = n := by rw [<-hx]; exact hn
 rw [hx]
 obtain ⟨BR, hBR⟩ : ∃ y, lR x = y := ⟨_, rfl⟩
 have hBl : ((BR.length : Nat) : Int) = n := by rw [<-hBR, lR_len]; exact hxl
 have hget : ∀ i : Int, 0 <= i -> i < n -> ∃ c, x[i.toNat]? = some c := fun i hi0 hi1 => ⟨_, List.getElem?_eq_getElem (by omega)⟩
 have hI0 : QlI x n (0, 1, [[.v (.int .u8 34)]]) := ⟨Int.le_refl _, by show 0 <= n; omega, rfl, rfl⟩
 obtain ⟨μ, hμ⟩ : ∃ μ : Int × Nat × List (List PV) -> Nat, ∀ x, μ x = 2000000000 - x.1.toNat := ⟨_, fun _ => rfl⟩
 obtain ⟨RV, hRV⟩ : ∃ y, bL (quo x) = y := ⟨_, rfl⟩
 have hfin : ∀ m rs, QlI x n (n, m, rs) -> rs ++ [[.v (.int .u8 34)]] = bytesRows RV := fun m rs h => by
  have h3 := h.o
  simp only at h3
  rw [lR_bytes, <- hRV, show (bL (quo x)).data.toList = quo x by unfold bL; simp, h3, show n.toNat = x.length by omega, List.take_length]
  show lR _ ++ lR [34] = _
  rw [<-lR_app]
  rfl
 rw [hRV]
 refine ret_by tyT_ok gl_gr mixed (fun n => match n with | 17 => 8 | _ => 0) Tryz.func17 rfl (by kernel_rfl) (by kernel_rfl) rfl fun P G E hc hE => ?_
 replace hrep := hc _ _ _ hrep
 have l1 : E.ofN BR.length = n := by rw [hE]; exact hBl
 have b1 : E.brows X = BR := by rw [hE]; show bytesRows X = BR; rw [lR_bytes, hx]; exact hBR
 have elt := qLti hE
 have eple := qPle hE
 have eget : ∀ (i : Int) (c : UInt8) (z : Int), x[i.toNat]? = some c -> ((c.toNat : Nat) : Int) = z -> BR[E.nat i]? = some [.v (.int .u8 z)] := fun i c z h hz => by
  rw [hE, <- hBR, <- hz]
  exact lR_get h
 have eadd := qAdd hE
 have eshr8 : ∀ a b : Int, 0 <= a -> a / 16 = b -> E.shr .u8 a 4 = b := fun a b h0 h2 => by rw [hE]; show a.fdiv (2 ^ 4) = b; rw [Int.fdiv_eq_ediv_of_nonneg _ (by decide)]; exact h2
 have eband : ∀ a b : Int, 0 <= a -> a < 256 -> a % 16 = b -> E.band .u8 a 15 = b := fun a b h0 h1 h2 => by rw [hE, band15 a h0 h1]; exact h2
 have ehget : ∀ (r : Nat) (a y : Int), r < 16 -> (r : Int) = a -> (((hexd r).toNat : Nat) : Int) = y -> E.get ⟨#[48, 49, 50, 51, 52, 53, 54, 55, 56, 57, 97, 98, 99, 100, 101, 102]⟩ (E.nat a) = some y := fun r a y h ha hy => by
  rw [hE, <- ha, <- hy]
  exact hex_get r h
 have eroom : ∀ m k : Nat, m <= 200000000 -> k <= 10 -> E.room m k 1 := fun m k h h' => by rw [hE]; exact ⟨by unfold maxLen; omega, by omega⟩
 have eaddN : ∀ m k : Nat, E.addN m k = m + k := fun m k => by rw [hE]; rfl
 have eapp : ∀ (rs : List (List PV)) (m : Nat) P, m = rs.length -> E.app rs m P = rs ++ P := fun rs m P h => by rw [hE]; show rs.take m ++ P = _; rw [h, List.take_length]
 have epre : ∀ (m : Nat) (rs : List (List PV)), m <= rs.length -> E.pre 0 m rs := fun m rs h => by rw [hE]; show 0 + m <= rs.length; omega
 have esub : ∀ (m : Nat) (rs : List (List PV)), m = rs.length -> E.sub rs 0 m = rs := fun m rs h => by rw [hE]; show (rs.drop 0).take m = rs; rw [List.drop_zero, h, List.take_length]
 have ebr : E.brows RV = bytesRows RV := by rw [hE]; rfl
 clear hE hc
 cbv at l1
 cbv
 repeat (first | (refine ⟨_, hrep,?_⟩; cbv) | (simp only [b1]; cbv) | simp only [b1] | (simp only [l1]; cbv) | simp only [l1])
 refine loop_by 75 [3, 9, 10, 11] 1 (fun y : Int × Nat × List (List PV) => [.osl 0 0 y.2.1, .p (.ro 1 BR), .p (pI n), .p (pI y.1)]) (fun y => [some (.rows 1 y.2.2 5)]) (QlI x n) μ (0, 1, [[.v (.int .u8 34)]]) ⟨rfl, rfl, rfl, rfl, rfl⟩ hI0 ?_
 clear hI0 hrep b1
 rintro ⟨i, m, rs⟩ hI
 have hsz := qlI_size hI
 have hnx := fun c i2 m2 RS2 P => @qlI_next x n i i2 c m m2 rs RS2 P hI
 have hIf := hfin m rs
 obtain ⟨i0, i1, hout, hm⟩ := hI
 simp only at i0 i1 hout hm
 replace hn : ((X.size : Nat) : Int) = n := hn
 replace hsz : ((m : Nat) : Int) <= 4 * i + 1 := hsz
 rcases Classical.em (i < n) with hlt | hlt
 ·have d1 : E.lti i n = true := by rw [elt]; exact decide_eq_true hlt
  obtain ⟨c, hci⟩ := hget i i0 hlt
  obtain ⟨z, hz⟩ : ∃ z : Int, ((c.toNat : Nat) : Int) = z := ⟨_, rfl⟩
  have g1 := eget i c z hci hz
  have p1 := eple 0 i i0
  obtain ⟨i2, hi2⟩ : ∃ y : Int, i + 1 = y := ⟨_, rfl⟩
  have ei := eadd i 1 (by omega) (by omega) (by omega) (by omega)
  rw [hi2] at ei
  have hc0 := UInt8.toNat_lt c
  clear hIf hout hfin
  rcases Classical.em (z = 34 \/ z = 92) with ha | ha
  ·have hq := qB_a (c := c) (by omega)
   have hP : [[.v (.int .u8 92)], [.v (.int .u8 z)]] = lR (qB c) := by rw [hq, <- hz]; rfl
   obtain ⟨RS2, hRS2⟩ : ∃ y, rs ++ ([[.v (.int .u8 92)], [.v (.int .u8 z)]]) = y := ⟨_, rfl⟩
   obtain ⟨m2, hm2⟩ : ∃ y, m + 2 = y := ⟨_, rfl⟩
   have a1 := eapp rs m ([[.v (.int .u8 92)], [.v (.int .u8 z)]]) hm
   rw [hRS2] at a1
   have a2 := eaddN m 2
   rw [hm2] at a2
   have a3 := esub 2 ([[.v (.int .u8 92)], [.v (.int .u8 z)]]) rfl
   have p4 := eroom m 2 (by omega) (by decide)
   have p5 := epre 2 ([[.v (.int .u8 92)], [.v (.int .u8 z)]]) (Nat.le_refl 2)
   have p6 := epre m rs (Nat.le_of_eq hm)
   have hI2 : QlI x n (i2, m2, RS2) := hnx c i2 m2 RS2 ([[.v (.int .u8 92)], [.v (.int .u8 z)]]) hci hi2 hlt (hP) hRS2 hm2
   have hM2 : μ (i2, m2, RS2) < μ (i, m, rs) := by
    rw [hμ, hμ]
    show 2000000000 - i2.toNat < 2000000000 - i.toNat
    omega
   clear hRS2 hm2 hm
   rcases ha with ha | ha
   ·have f1 : decide (z = 34) = true := decide_eq_true ha
    clear hq ha hP
    clear hget elt eple eget eadd eroom eaddN eapp epre esub hn hz hci hi2 hsz hμ hlt hc0 hnx
    cbv
    repeat (first | (simp only [d1]; cbv) | simp only [d1] | (refine ⟨p1,_,g1,?_⟩; cbv) | (simp only [f1]; cbv) | simp only [f1] | (refine ⟨p5,p6,p4,?_⟩; cbv) | (simp only [a3,a1,a2]; cbv) | simp only [a3,a1,a2] | (simp only [ei]; cbv) | simp only [ei])
    refine .mk (i2, m2, RS2) ⟨rfl, rfl, rfl, rfl, rfl⟩ ?_ ?_
    ·exact hI2
    ·exact hM2
   ·have f1 : decide (z = 34) = false := decide_eq_false (by omega)
    have f2 : decide (z = 92) = true := decide_eq_true ha
    clear hq ha hP
    clear hget elt eple eget eadd eroom eaddN eapp epre esub hn hz hci hi2 hsz hμ hlt hc0 hnx
    cbv
    repeat (first | (simp only [d1]; cbv) | simp only [d1] | (refine ⟨p1,_,g1,?_⟩; cbv) | (simp only [f1]; cbv) | simp only [f1] | (simp only [f2]; cbv) | simp only [f2] | (refine ⟨p5,p6,p4,?_⟩; cbv) | (simp only [a3,a1,a2]; cbv) | simp only [a3,a1,a2] | (simp only [ei]; cbv) | simp only [ei])
    refine .mk (i2, m2, RS2) ⟨rfl, rfl, rfl, rfl, rfl⟩ ?_ ?_
    ·exact hI2
    ·exact hM2
  have f1 : decide (z = 34) = false := decide_eq_false (by omega)
  have f2 : decide (z = 92) = false := decide_eq_false (by omega)
  rcases Classical.em (z = 10) with h | h3
  ·have hP : [[.v (.int .u8 92)], [.v (.int .u8 110)]] = lR (qB c) := by rw [qB_k (c := c) 10 (by rw [show c.toNat = 10 by omega]; rfl)]; rfl
   obtain ⟨RS2, hRS2⟩ : ∃ y, rs ++ ([[.v (.int .u8 92)], [.v (.int .u8 110)]]) = y := ⟨_, rfl⟩
   obtain ⟨m2, hm2⟩ : ∃ y, m + 2 = y := ⟨_, rfl⟩
   have a1 := eapp rs m ([[.v (.int .u8 92)], [.v (.int .u8 110)]]) hm
   rw [hRS2] at a1
   have a2 := eaddN m 2
   rw [hm2] at a2
   have a3 := esub 2 ([[.v (.int .u8 92)], [.v (.int .u8 110)]]) rfl
   have p4 := eroom m 2 (by omega) (by decide)
   have p5 := epre 2 ([[.v (.int .u8 92)], [.v (.int .u8 110)]]) (Nat.le_refl 2)
   have p6 := epre m rs (Nat.le_of_eq hm)
   have hI2 : QlI x n (i2, m2, RS2) := hnx c i2 m2 RS2 ([[.v (.int .u8 92)], [.v (.int .u8 110)]]) hci hi2 hlt (hP) hRS2 hm2
   have hM2 : μ (i2, m2, RS2) < μ (i, m, rs) := by
    rw [hμ, hμ]
    show 2000000000 - i2.toNat < 2000000000 - i.toNat
    omega
   clear hRS2 hm2 hm
   have f3 : decide (z = 10) = true := decide_eq_true h
   clear h hP ha
   clear hget elt eple eget eadd eroom eaddN eapp epre esub hn hz hci hi2 hsz hμ hlt hc0 hnx
   cbv
   repeat (first | (simp only [d1]; cbv) | simp only [d1] | (refine ⟨p1,_,g1,?_⟩; cbv) | (simp only [f1]; cbv) | simp only [f1] | (simp only [f2]; cbv) | simp only [f2] | (simp only [f3]; cbv) | simp only [f3] | (refine ⟨p5,p6,p4,?_⟩; cbv) | (simp only [a3,a1,a2]; cbv) | simp only [a3,a1,a2] | (simp only [ei]; cbv) | simp only [ei])
   refine .mk (i2, m2, RS2) ⟨rfl, rfl, rfl, rfl, rfl⟩ ?_ ?_
   ·exact hI2
   ·exact hM2
  have f3 : decide (z = 10) = false := decide_eq_false h3
  rcases Classical.em (z = 9) with h | h4
  ·have hP : [[.v (.int .u8 92)], [.v (.int .u8 116)]] = lR (qB c) := by rw [qB_k (c := c) 9 (by rw [show c.toNat = 9 by omega]; rfl)]; rfl
   obtain ⟨RS2, hRS2⟩ : ∃ y, rs ++ ([[.v (.int .u8 92)], [.v (.int .u8 116)]]) = y := ⟨_, rfl⟩
   obtain ⟨m2, hm2⟩ : ∃ y, m + 2 = y := ⟨_, rfl⟩
   have a1 := eapp rs m ([[.v (.int .u8 92)], [.v (.int .u8 116)]]) hm
   rw [hRS2] at a1
   have a2 := eaddN m 2
   rw [hm2] at a2
   have a3 := esub 2 ([[.v (.int .u8 92)], [.v (.int .u8 116)]]) rfl
   have p4 := eroom m 2 (by omega) (by decide)
   have p5 := epre 2 ([[.v (.int .u8 92)], [.v (.int .u8 116)]]) (Nat.le_refl 2)
   have p6 := epre m rs (Nat.le_of_eq hm)
   have hI2 : QlI x n (i2, m2, RS2) := hnx c i2 m2 RS2 ([[.v (.int .u8 92)], [.v (.int .u8 116)]]) hci hi2 hlt (hP) hRS2 hm2
   have hM2 : μ (i2, m2, RS2) < μ (i, m, rs) := by
    rw [hμ, hμ]
    show 2000000000 - i2.toNat < 2000000000 - i.toNat
    omega
   clear hRS2 hm2 hm
   have f4 : decide (z = 9) = true := decide_eq_true h
   clear h hP ha h3
   clear hget elt eple eget eadd eroom eaddN eapp epre esub hn hz hci hi2 hsz hμ hlt hc0 hnx
   cbv
   repeat (first | (simp only [d1]; cbv) | simp only [d1] | (refine ⟨p1,_,g1,?_⟩; cbv) | (simp only [f1]; cbv) | simp only [f1] | (simp only [f2]; cbv) | simp only [f2] | (simp only [f3]; cbv) | simp only [f3] | (simp only [f4]; cbv) | simp only [f4] | (refine ⟨p5,p6,p4,?_⟩; cbv) | (simp only [a3,a1,a2]; cbv) | simp only [a3,a1,a2] | (simp only [ei]; cbv) | simp only [ei])
   refine .mk (i2, m2, RS2) ⟨rfl, rfl, rfl, rfl, rfl⟩ ?_ ?_
   ·exact hI2
   ·exact hM2
  have f4 : decide (z = 9) = false := decide_eq_false h4
  rcases Classical.em (z = 13) with h | h5
  ·have hP : [[.v (.int .u8 92)], [.v (.int .u8 114)]] = lR (qB c) := by rw [qB_k (c := c) 13 (by rw [show c.toNat = 13 by omega]; rfl)]; rfl
   obtain ⟨RS2, hRS2⟩ : ∃ y, rs ++ ([[.v (.int .u8 92)], [.v (.int .u8 114)]]) = y := ⟨_, rfl⟩
   obtain ⟨m2, hm2⟩ : ∃ y, m + 2 = y := ⟨_, rfl⟩
   have a1 := eapp rs m ([[.v (.int .u8 92)], [.v (.int .u8 114)]]) hm
   rw [hRS2] at a1
   have a2 := eaddN m 2
   rw [hm2] at a2
   have a3 := esub 2 ([[.v (.int .u8 92)], [.v (.int .u8 114)]]) rfl
   have p4 := eroom m 2 (by omega) (by decide)
   have p5 := epre 2 ([[.v (.int .u8 92)], [.v (.int .u8 114)]]) (Nat.le_refl 2)
   have p6 := epre m rs (Nat.le_of_eq hm)
   have hI2 : QlI x n (i2, m2, RS2) := hnx c i2 m2 RS2 ([[.v (.int .u8 92)], [.v (.int .u8 114)]]) hci hi2 hlt (hP) hRS2 hm2
   have hM2 : μ (i2, m2, RS2) < μ (i, m, rs) := by
    rw [hμ, hμ]
    show 2000000000 - i2.toNat < 2000000000 - i.toNat
    omega
   clear hRS2 hm2 hm
   have f5 : decide (z = 13) = true := decide_eq_true h
   clear h hP ha h3 h4
   clear hget elt eple eget eadd eroom eaddN eapp epre esub hn hz hci hi2 hsz hμ hlt hc0 hnx
   cbv
   repeat (first | (simp only [d1]; cbv) | simp only [d1] | (refine ⟨p1,_,g1,?_⟩; cbv) | (simp only [f1]; cbv) | simp only [f1] | (simp only [f2]; cbv) | simp only [f2] | (simp only [f3]; cbv) | simp only [f3] | (simp only [f4]; cbv) | simp only [f4] | (simp only [f5]; cbv) | simp only [f5] | (refine ⟨p5,p6,p4,?_⟩; cbv) | (simp only [a3,a1,a2]; cbv) | simp only [a3,a1,a2] | (simp only [ei]; cbv) | simp only [ei])
   refine .mk (i2, m2, RS2) ⟨rfl, rfl, rfl, rfl, rfl⟩ ?_ ?_
   ·exact hI2
   ·exact hM2
  have f5 : decide (z = 13) = false := decide_eq_false h5
  rcases Classical.em (z = 8) with h | h6
  ·have hP : [[.v (.int .u8 92)], [.v (.int .u8 98)]] = lR (qB c) := by rw [qB_k (c := c) 8 (by rw [show c.toNat = 8 by omega]; rfl)]; rfl
   obtain ⟨RS2, hRS2⟩ : ∃ y, rs ++ ([[.v (.int .u8 92)], [.v (.int .u8 98)]]) = y := ⟨_, rfl⟩
   obtain ⟨m2, hm2⟩ : ∃ y, m + 2 = y := ⟨_, rfl⟩
   have a1 := eapp rs m ([[.v (.int .u8 92)], [.v (.int .u8 98)]]) hm
   rw [hRS2] at a1
   have a2 := eaddN m 2
   rw [hm2] at a2
   have a3 := esub 2 ([[.v (.int .u8 92)], [.v (.int .u8 98)]]) rfl
   have p4 := eroom m 2 (by omega) (by decide)
   have p5 := epre 2 ([[.v (.int .u8 92)], [.v (.int .u8 98)]]) (Nat.le_refl 2)
   have p6 := epre m rs (Nat.le_of_eq hm)
   have hI2 : QlI x n (i2, m2, RS2) := hnx c i2 m2 RS2 ([[.v (.int .u8 92)], [.v (.int .u8 98)]]) hci hi2 hlt (hP) hRS2 hm2
   have hM2 : μ (i2, m2, RS2) < μ (i, m, rs) := by
    rw [hμ, hμ]
    show 2000000000 - i2.toNat < 2000000000 - i.toNat
    omega
   clear hRS2 hm2 hm
   have f6 : decide (z = 8) = true := decide_eq_true h
   clear h hP ha h3 h4 h5
   clear hget elt eple eget eadd eroom eaddN eapp epre esub hn hz hci hi2 hsz hμ hlt hc0 hnx
   cbv
   repeat (first | (simp only [d1]; cbv) | simp only [d1] | (refine ⟨p1,_,g1,?_⟩; cbv) | (simp only [f1]; cbv) | simp only [f1] | (simp only [f2]; cbv) | simp only [f2] | (simp only [f3]; cbv) | simp only [f3] | (simp only [f4]; cbv) | simp only [f4] | (simp only [f5]; cbv) | simp only [f5] | (simp only [f6]; cbv) | simp only [f6] | (refine ⟨p5,p6,p4,?_⟩; cbv) | (simp only [a3,a1,a2]; cbv) | simp only [a3,a1,a2] | (simp only [ei]; cbv) | simp only [ei])
   refine .mk (i2, m2, RS2) ⟨rfl, rfl, rfl, rfl, rfl⟩ ?_ ?_
   ·exact hI2
   ·exact hM2
  have f6 : decide (z = 8) = false := decide_eq_false h6
  have hq := qB_h (c := c) (by omega) (by omega) (by omega) (by omega) (by omega)
  rcases Classical.em (z < 32 \/ z = 127) with h7 | h7
  ·rw [if_pos (by omega)] at hq
   have f7 : (E.lti z 32 = true) \/ (E.lti z 32 = false /\ decide (z = 127) = true) := by
    rw [elt]
    rcases Classical.em (z < 32) with h | h
    ·exact .inl (decide_eq_true h)
    ·exact .inr ⟨decide_eq_false h, decide_eq_true (by omega)⟩
   obtain ⟨r1, hr1⟩ : ∃ y, c.toNat / 16 = y := ⟨_, rfl⟩
   obtain ⟨r2, hr2⟩ : ∃ y, c.toNat % 16 = y := ⟨_, rfl⟩
   rw [hr1, hr2] at hq
   obtain ⟨a1', ha1⟩ : ∃ y : Int, (r1 : Int) = y := ⟨_, rfl⟩
   obtain ⟨b1', hb1⟩ : ∃ y : Int, (r2 : Int) = y := ⟨_, rfl⟩
   obtain ⟨y1, hy1⟩ : ∃ y : Int, (((hexd r1).toNat : Nat) : Int) = y := ⟨_, rfl⟩
   obtain ⟨y2, hy2⟩ : ∃ y : Int, (((hexd r2).toNat : Nat) : Int) = y := ⟨_, rfl⟩
   have hP : [[.v (.int .u8 92)], [.v (.int .u8 120)], [.v (.int .u8 y1)], [.v (.int .u8 y2)]] = lR (qB c) := by rw [hq, <- hy1, <- hy2]; rfl
   obtain ⟨RS2, hRS2⟩ : ∃ y, rs ++ ([[.v (.int .u8 92)], [.v (.int .u8 120)], [.v (.int .u8 y1)], [.v (.int .u8 y2)]]) = y := ⟨_, rfl⟩
   obtain ⟨m2, hm2⟩ : ∃ y, m + 4 = y := ⟨_, rfl⟩
   have a1 := eapp rs m ([[.v (.int .u8 92)], [.v (.int .u8 120)], [.v (.int .u8 y1)], [.v (.int .u8 y2)]]) hm
   rw [hRS2] at a1
   have a2 := eaddN m 4
   rw [hm2] at a2
   have a3 := esub 4 ([[.v (.int .u8 92)], [.v (.int .u8 120)], [.v (.int .u8 y1)], [.v (.int .u8 y2)]]) rfl
   have p4 := eroom m 4 (by omega) (by decide)
   have p5 := epre 4 ([[.v (.int .u8 92)], [.v (.int .u8 120)], [.v (.int .u8 y1)], [.v (.int .u8 y2)]]) (Nat.le_refl 4)
   have p6 := epre m rs (Nat.le_of_eq hm)
   have hI2 : QlI x n (i2, m2, RS2) := hnx c i2 m2 RS2 ([[.v (.int .u8 92)], [.v (.int .u8 120)], [.v (.int .u8 y1)], [.v (.int .u8 y2)]]) hci hi2 hlt (hP) hRS2 hm2
   have hM2 : μ (i2, m2, RS2) < μ (i, m, rs) := by
    rw [hμ, hμ]
    show 2000000000 - i2.toNat < 2000000000 - i.toNat
    omega
   clear hRS2 hm2 hm
   have w1 := eshr8 z a1' (by omega) (by omega)
   have w2 := eband z b1' (by omega) (by omega) (by omega)
   have s0 := eple 0 4 (by decide)
   have s1 := eple 0 a1' (by omega)
   have s4 := eple 0 b1' (by omega)
   have v1 := ehget r1 a1' y1 (by omega) ha1 hy1
   have v2 := ehget r2 b1' y2 (by omega) hb1 hy2
   clear hq ha h3 h4 h5 h6 h7 hr1 hr2 ha1 hb1 hy1 hy2 eshr8 eband ehget hP
   rcases f7 with f7 | ⟨f7, f8⟩
   ·skip
    clear hget elt eple eget eadd eroom eaddN eapp epre esub hn hz hci hi2 hsz hμ hlt hc0 hnx
    cbv
    repeat (first | (simp only [d1]; cbv) | simp only [d1] | (refine ⟨p1,_,g1,?_⟩; cbv) | (simp only [f1]; cbv) | simp only [f1] | (simp only [f2]; cbv) | simp only [f2] | (simp only [f3]; cbv) | simp only [f3] | (simp only [f4]; cbv) | simp only [f4] | (simp only [f5]; cbv) | simp only [f5] | (simp only [f6]; cbv) | simp only [f6] | (simp only [f7]; cbv) | simp only [f7] | (simp only [w1,w2]; cbv) | simp only [w1,w2] | (refine ⟨s0,s1,_,v1,?_⟩; cbv) | (refine ⟨s4,_,v2,?_⟩; cbv) | (refine ⟨p5,p6,p4,?_⟩; cbv) | (simp only [a3,a1,a2]; cbv) | simp only [a3,a1,a2] | (simp only [ei]; cbv) | simp only [ei])
    refine .mk (i2, m2, RS2) ⟨rfl, rfl, rfl, rfl, rfl⟩ ?_ ?_
    ·exact hI2
    ·exact hM2
   ·skip
    clear hget elt eple eget eadd eroom eaddN eapp epre esub hn hz hci hi2 hsz hμ hlt hc0 hnx
    cbv
    repeat (first | (simp only [d1]; cbv) | simp only [d1] | (refine ⟨p1,_,g1,?_⟩; cbv) | (simp only [f1]; cbv) | simp only [f1] | (simp only [f2]; cbv) | simp only [f2] | (simp only [f3]; cbv) | simp only [f3] | (simp only [f4]; cbv) | simp only [f4] | (simp only [f5]; cbv) | simp only [f5] | (simp only [f6]; cbv) | simp only [f6] | (simp only [f7]; cbv) | simp only [f7] | (simp only [f8]; cbv) | simp only [f8] | (simp only [w1,w2]; cbv) | simp only [w1,w2] | (refine ⟨s0,s1,_,v1,?_⟩; cbv) | (refine ⟨s4,_,v2,?_⟩; cbv) | (refine ⟨p5,p6,p4,?_⟩; cbv) | (simp only [a3,a1,a2]; cbv) | simp only [a3,a1,a2] | (simp only [ei]; cbv) | simp only [ei])
    refine .mk (i2, m2, RS2) ⟨rfl, rfl, rfl, rfl, rfl⟩ ?_ ?_
    ·exact hI2
    ·exact hM2
  ·rw [if_neg (by omega)] at hq
   have hP : [[.v (.int .u8 z)]] = lR (qB c) := by rw [hq, <- hz]; rfl
   obtain ⟨RS2, hRS2⟩ : ∃ y, rs ++ ([[.v (.int .u8 z)]]) = y := ⟨_, rfl⟩
   obtain ⟨m2, hm2⟩ : ∃ y, m + 1 = y := ⟨_, rfl⟩
   have a1 := eapp rs m ([[.v (.int .u8 z)]]) hm
   rw [hRS2] at a1
   have a2 := eaddN m 1
   rw [hm2] at a2
   have a3 := esub 1 ([[.v (.int .u8 z)]]) rfl
   have p4 := eroom m 1 (by omega) (by decide)
   have p5 := epre 1 ([[.v (.int .u8 z)]]) (Nat.le_refl 1)
   have p6 := epre m rs (Nat.le_of_eq hm)
   have hI2 : QlI x n (i2, m2, RS2) := hnx c i2 m2 RS2 ([[.v (.int .u8 z)]]) hci hi2 hlt (hP) hRS2 hm2
   have hM2 : μ (i2, m2, RS2) < μ (i, m, rs) := by
    rw [hμ, hμ]
    show 2000000000 - i2.toNat < 2000000000 - i.toNat
    omega
   clear hRS2 hm2 hm
   have f7 : E.lti z 32 = false := by rw [elt]; exact decide_eq_false (by omega)
   have f8 : decide (z = 127) = false := decide_eq_false (by omega)
   clear hq ha h3 h4 h5 h6 h7 hP
   clear hget elt eple eget eadd eroom eaddN eapp epre esub hn hz hci hi2 hsz hμ hlt hc0 hnx
   cbv
   repeat (first | (simp only [d1]; cbv) | simp only [d1] | (refine ⟨p1,_,g1,?_⟩; cbv) | (simp only [f1]; cbv) | simp only [f1] | (simp only [f2]; cbv) | simp only [f2] | (simp only [f3]; cbv) | simp only [f3] | (simp only [f4]; cbv) | simp only [f4] | (simp only [f5]; cbv) | simp only [f5] | (simp only [f6]; cbv) | simp only [f6] | (simp only [f7]; cbv) | simp only [f7] | (simp only [f8]; cbv) | simp only [f8] | (refine ⟨p5,p6,p4,?_⟩; cbv) | (simp only [a3,a1,a2]; cbv) | simp only [a3,a1,a2] | (simp only [ei]; cbv) | simp only [ei])
   refine .mk (i2, m2, RS2) ⟨rfl, rfl, rfl, rfl, rfl⟩ ?_ ?_
   ·exact hI2
   ·exact hM2
 ·have d1 : E.lti i n = false := by rw [elt]; exact decide_eq_false hlt
  have hin : i = n := by omega
  subst hin
  obtain ⟨RS2, hRS2⟩ : ∃ y, rs ++ [[.v (.int .u8 34)]] = y := ⟨_, rfl⟩
  obtain ⟨m2, hm2⟩ : ∃ y, m + 1 = y := ⟨_, rfl⟩
  have hl2 : m2 = RS2.length := by rw [<-hRS2, <- hm2, List.length_append, hm]; rfl
  have a1 := eapp rs m [[.v (.int .u8 34)]] hm
  rw [hRS2] at a1
  have a2 := eaddN m 1
  rw [hm2] at a2
  have a3 := esub 1 [[.v (.int .u8 34)]] rfl
  have p4 := eroom m 1 (by omega) (by decide)
  have p5 := epre 1 [[.v (.int .u8 34)]] (Nat.le_refl 1)
  have p6 := epre m rs (Nat.le_of_eq hm)
  have p7 := epre m2 RS2 (Nat.le_of_eq hl2)
  have hb : E.sub RS2 0 m2 = E.brows RV := by rw [esub m2 RS2 hl2, ebr, <- hRS2]; exact hIf ⟨i0, i1, hout, hm⟩
  clear hnx hIf hout hfin hget elt eple eget eadd eroom eaddN eapp epre esub hn hsz hμ hlt hRS2 hm2 hl2 hm
  cbv
  repeat (first | (simp only [d1]; cbv) | simp only [d1] | (refine ⟨p5,p6,p4,?_⟩; cbv) | (simp only [a3,a1,a2]; cbv) | simp only [a3,a1,a2] | (refine ⟨p7,_,hb,?_⟩; cbv))
end Go.Proofs.YtjefbgfohijaoaaGreatDoor
