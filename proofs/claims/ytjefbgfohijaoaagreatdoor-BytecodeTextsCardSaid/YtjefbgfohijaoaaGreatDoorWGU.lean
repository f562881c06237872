/- Own work: package knapsackref25: great. -/
import Derived.Test.YtjefbgfohijaoaaGreatDoorWGR
import Derived.Test.YtjefbgfohijaoaaGreatDoorWGV
import Derived.Laws.Cover4
namespace Go.Proofs.YtjefbgfohijaoaaGreatDoor
open Go.RowKit
set_option maxRecDepth 100000
set_option linter.unusedSimpArgs false
def mostS : ByteArray := ⟨#[57, 50, 50, 51, 51, 55, 50, 48, 51, 54, 56, 53, 52, 55, 55, 53, 56, 48, 55]⟩
def greB (s : ByteArray) : Bool := decide (19 < s.size) || (decide (s.size = 19) && !(Op.bytesLess s.toList mostS.toList || decide (s = mostS)))
end Go.Proofs.YtjefbgfohijaoaaGreatDoor

/- Own work: package knapsackref25: Repair, literal. -/
namespace Go.Proofs.YtjefbgfohijaoaaGreatDoor
open Go.RowKit
set_option maxRecDepth 100000
set_option linter.unusedSimpArgs false
theorem escL_4 {l t r : Bs} (h : escL uB l = some (t, r)) : t.length <= 4 := by
 have hu : ∀ n : Nat, (uB n).length <= 4 := fun n => encL_length (n : Int)
 cases l with
 | nil => cases h
 | cons c l =>
  rw [escL] at h
  cases ht : escT c with
  | some d =>
   rw [ht] at h
   obtain ⟨rfl, rfl⟩ := Prod.mk.inj (Option.some.inj h)
   show (1 : Nat) <= 4
   omega
  | none =>
   rw [ht] at h
   simp only at h
   split at h
   ·split at h
    ·cases h
    ·obtain ⟨rfl, rfl⟩ := Prod.mk.inj (Option.some.inj h)
     show (1 : Nat) <= 4
     omega
   ·split at h
    ·match l, h with
     | x :: y :: l, h =>
      rw [hxL] at h
      cases h1 : hexv x with
      | none => rw [h1] at h; cases h
      | some v =>
       cases h2 : hexv y with
       | none => rw [h1, h2] at h; cases h
       | some w =>
        rw [h1, h2] at h
        obtain ⟨rfl, rfl⟩ := Prod.mk.inj (Option.some.inj h)
        exact hu _
    ·split at h
     ·match l, h with
      | x :: l, h =>
       rw [ptL] at h
       split at h
       ·cases hd : l.dropWhile isHex with
        | nil => rw [hd] at h; cases h
        | cons d r2 =>
         rw [hd] at h
         simp only at h
         split at h
         ·obtain ⟨rfl, rfl⟩ := Prod.mk.inj (Option.some.inj h)
          exact hu _
         ·cases h
       ·cases h
     ·cases h
structure RpI (s : ByteArray) (x : ByteArray × Nat) : Prop where
 acc : x.1.data.toList ++ repairL (s.data.toList.drop x.2) = repairL s.data.toList
 sz : x.1.size <= 4 * x.2
theorem enc_4 (r : Int) : (Utf8.encode r).size <= 4 := by
 have h := encL_length r
 have e : (encL r).length = (Utf8.encode r).size := rfl
 omega
theorem repair_at_end (s acc : ByteArray) (pos : Nat) (hp : ¬ pos < s.size) (h : acc.data.toList ++ repairL (s.data.toList.drop pos) = repairL s.data.toList) : acc = repairS s := by
 have hd : s.data.toList.drop pos = [] := List.drop_eq_nil_of_le (by have : s.data.size = s.size := rfl; simp; omega)
 rw [hd, show repairL [] = [] from rfl, List.append_nil] at h
 refine bl_inj ?_
 rw [h]; rfl
set_option maxHeartbeats 1000000 in
theorem rrepair_ret (s : ByteArray) (hs : s.size <= 8000000) : V0 57 [pS s] (pS (repairS s)) := by
 obtain ⟨R, hR⟩ : ∃ x, repairS s = x := ⟨_, rfl⟩
 rw [hR]
 obtain ⟨n, hn⟩ : ∃ n : Int, ((s.size : Nat) : Int) = n := ⟨_, rfl⟩
 obtain ⟨μ, hμ⟩ : ∃ μ : ByteArray × Nat -> Nat, ∀ x, μ x = s.size - x.2 := ⟨_, fun _ => rfl⟩
 have hI0 : RpI s (⟨#[]⟩, 0) := ⟨rfl, Nat.le_refl _⟩
 refine ret_by tyT_ok g0_gr mixed (fun _ => 0) Tryz.func57 rfl (by kernel_rfl) (by kernel_rfl) rfl fun P G E hc hE => ?_
 have z1 : E.size s = n := by rw [hE]; exact hn
 have elt : ∀ p : Nat, E.lti (E.ofN p) n = decide (p < s.size) := fun p => by
  rw [hE, <- hn]
  show decide (((p : Nat) : Int) < ((s.size : Nat) : Int)) = _
  exact decide_eq_decide.2 (by omega)
 have eadd : ∀ p, E.addN p (E.decW s p) = p + (Utf8.decode s p).2 := fun p => by rw [hE]; rfl
 have ecat : ∀ a b : ByteArray, a.size <= 100000000 -> b.size <= 100000000 -> E.cat a b := fun a b h1 h2 => by rw [hE]; show ((a.size : Nat) : Int) + ((b.size : Nat) : Int) <= _; omega
 have eenc0 : ∀ x : Int, E.enc x = Utf8.encode x := fun x => by rw [hE]; rfl
 have edec : ∀ p : Nat, E.decR s p = (((Utf8.decode s p).1 : Nat) : Int) := fun p => by rw [hE]; rfl
 have eenc : ∀ p, E.enc (E.decR s p) = Utf8.encode ((Utf8.decode s p).1 : Int) := fun p => by rw [eenc0, edec]
 have eadd0 : ∀ a b, E.add a b = a ++ b := fun a b => by rw [hE]; rfl
 have eapp : ∀ a p, E.add a (E.enc (E.decR s p)) = a ++ Utf8.encode ((Utf8.decode s p).1 : Int) := fun a p => by rw [eenc, eadd0]
 clear hE hc
 cbv
 refine loop_by 16 [0, 3, 7] 1 (fun x : ByteArray × Nat => [.p (pS s), .p (pS x.1), .own 0 0]) (fun x => [some (.iter s x.2)]) (RpI s) μ (⟨#[]⟩, 0) ⟨rfl, rfl, rfl, rfl, rfl⟩ hI0 ?_
 clear hI0
 rintro ⟨acc, pos⟩ ⟨h1, h2⟩
 simp only at h1 h2
 have d1 := elt pos
 rcases Classical.em (pos < s.size) with hp | hp
 ·rw [decide_eq_true hp] at d1
  obtain ⟨r, wd, hd⟩ : ∃ r wd, Utf8.decode s pos = (r, wd) := ⟨_, _, rfl⟩
  have hw : 1 <= wd := by
   by_cases ha : (s[pos]'hp).toNat < 128
   ·have := decode_ascii s pos hp ha
    rw [hd] at this
    have e := congrArg Prod.snd this
    simp only at e
    omega
   ·have := (decode_high s pos hp (by omega)).2
    rw [hd] at this
    simp only at this
    omega
  have hst := rep_step s pos r wd acc (repairL s.data.toList) hp hd h1
  have ha4 := enc_4 (r : Int)
  have hx : E.addN pos (E.decW s pos) = pos + wd := by rw [eadd, hd]
  have hy : E.add acc (E.enc (E.decR s pos)) = acc ++ Utf8.encode (r : Int) := by rw [eapp, hd]
  have hz : E.enc (E.decR s pos) = Utf8.encode (r : Int) := by rw [eenc, hd]
  have hc1 : E.cat acc (E.enc (E.decR s pos)) := ecat _ _ (by omega) (by rw [hz]; omega)
  have hI2 : RpI s (E.add acc (E.enc (E.decR s pos)), E.addN pos (E.decW s pos)) := by
   rw [hx, hy]
   refine ⟨hst,?_⟩
   show (acc ++ Utf8.encode (r : Int)).size <= 4 * (pos + wd)
   rw [ByteArray.size_append]
   omega
  have hM : μ (E.add acc (E.enc (E.decR s pos)), E.addN pos (E.decW s pos)) < μ (acc, pos) := by
   rw [hμ, hμ, hx]
   show s.size - (pos + wd) < s.size - pos
   omega
  clear hst ha4 hx hy hz elt eadd ecat eenc eapp eenc0 edec eadd0
  cbv
  repeat (first | (simp only [z1]; cbv) | simp only [z1] | (simp only [d1]; cbv) | simp only [d1] | (refine ⟨hc1,?_⟩; cbv))
  refine .mk (E.add acc (E.enc (E.decR s pos)), E.addN pos (E.decW s pos)) ⟨rfl, rfl, rfl, rfl, rfl⟩ ?_ ?_
  ·exact hI2
  ·exact hM
 ·rw [decide_eq_false hp] at d1
  have := repair_at_end s acc pos hp h1
  rw [hR] at this
  subst this
  clear elt eadd ecat eenc eapp hR eenc0 edec eadd0
  cbv
  repeat (first | (simp only [z1]; cbv) | simp only [z1] | (simp only [d1]; cbv) | simp only [d1])
def litR (s : ByteArray) (a : Int) (q : UInt8) : PV := match lit uB q (rst s (a + 1)) with
 | none => .tup [pS ⟨#[]⟩, pI 0]
 | some p => .tup [pS (repairS (bL p.1)), pI ((s.size : Nat) - (p.2.length : Nat) - a)]
structure LitI (s : ByteArray) (n a : Int) (q : UInt8) (R : Option (Bs × Bs)) (x : Int × ByteArray) : Prop where
 j0 : a + 1 <= x.1
 j1 : x.1 <= n
 sz : ((x.2.size : Nat) : Int) <= 4 * (x.1 - a)
 eq : R = (lit uB q (rst s x.1)).map fun z => (x.2.data.toList ++ z.1, z.2)
end Go.Proofs.YtjefbgfohijaoaaGreatDoor
