/- Own work: bounds, lengths, and text.Slice. -/
import Derived.Test.YtadgpchdlkiinaaDoorVFrame
import Derived.Test.YtadgpchdlkiinaaDoorVRep
import Derived.Test.YtadgpchdlkiinaaDoorUtfS
namespace Go.Proofs.YtadgpchdlkiinaaDoor
open Go.RowKit
set_option maxRecDepth 100000

abbrev RM (f : FuncId) (l : List AV) (H : AH) (r : AV) (K : AH) : Prop := RetM Tryd.prog Good f l H r K
/-- the code points of a text -/
def runesS (s : ByteArray) : List Int := runesB s.size s.data.toList
theorem runesS_vr (s : ByteArray) : VR (runesS s) := runesB_vr _ _
theorem repair_runes (s : ByteArray) : repairS s = enB (runesS s) := repair_enB s
theorem runes_bytes' (s : ByteArray) : ∀ (b i : Nat), runesL s b i = runesB b (s.data.toList.drop i)
  | 0, i => rfl
  | b + 1, i => by
    unfold runesL runesB
    have e : s.data.size = s.size := rfl
    by_cases h : i < s.size
    · have hne : s.data.toList.drop i ≠ [] := fun hh => by
        have := congrArg List.length hh
        simp at this; omega
      rw [if_pos h, if_neg hne, runes_bytes' s b, Go.Lib.decodeL_drop s i, List.drop_drop]
    · have he : s.data.toList.drop i = [] := List.drop_eq_nil_of_le (by simp; omega)
      rw [if_neg h, if_pos he]
theorem runesOf_runes (s : ByteArray) : runesOf s = runesS s := by
  unfold runesOf runesS
  rw [runes_bytes', List.drop_zero]
theorem runesS_enB {L : List Int} (h : VR L) : runesS (enB L) = L := by
  unfold runesS
  rw [enB_list, enB_size]
  exact runes_encs L _ h (Nat.le_refl _)
theorem runesS_len (s : ByteArray) : (runesS s).length ≤ s.size := by
  rw [← runesOf_runes]; exact runesOf_len s
theorem enB_le {L : List Int} {n : Nat} (h : L.length ≤ n) : (enB L).size ≤ 4 * n := by
  rw [enB_size]
  have := encs_le L
  omega
/-- a bound -/
def bndE (i n : Int) : Int :=
  let j := if i < 0 then wr (i + n) else i
  let k := if 0 > j then 0 else j
  if n < k then n else k
theorem bndE_in (i n : Int) (hn : 0 ≤ n) : 0 ≤ bndE i n ∧ bndE i n ≤ n := by
  have : ∀ j : Int, 0 ≤ (if n < (if 0 > j then 0 else j) then n else (if 0 > j then 0 else j)) ∧ (if n < (if 0 > j then 0 else j) then n else (if 0 > j then 0 else j)) ≤ n := fun j => by
    by_cases h : 0 > j
    · rw [if_pos h, if_neg (by omega)]; omega
    · rw [if_neg h]
      by_cases h2 : n < j
      · rw [if_pos h2]; omega
      · rw [if_neg h2]; omega
  exact this _
theorem bound_mem (i n : Int) : RM 59 [.p (pI i), .own 0 0] [some (.box [.p (pI n)] 2 none)] (.p (pI (bndE i n))) [some (.box [.p (pI n)] 2 none)] := by
  obtain ⟨b, hb⟩ : ∃ b, bndE i n = b := ⟨_, rfl⟩
  rw [hb]
  unfold bndE at hb
  simp only at hb
  by_cases h1 : i < 0
  · rw [if_pos h1] at hb
    refine retm_by tyT_ok mixed (fun _ => 0) Tryd.func59 rfl (by kernel_rfl) (by kernel_rfl) rfl fun P G E hc hM hE => ?_
    intro t0
    have c1 : E.lti i 0 = true := by rw [hE]; exact decide_eq_true h1
    have c2 : E.min (E.max (E.wadd .i64 i n) 0) n = b := by rw [hE]; exact hb
    cbv
    repeat (first | (simp only [c1]; cbv) | simp only [c1] | (simp only [c2]; cbv) | simp only [c2])
  · rw [if_neg h1] at hb
    refine retm_by tyT_ok mixed (fun _ => 0) Tryd.func59 rfl (by kernel_rfl) (by kernel_rfl) rfl fun P G E hc hM hE => ?_
    intro t0
    have c1 : E.lti i 0 = false := by rw [hE]; exact decide_eq_false h1
    have c2 : E.min (E.max i 0) n = b := by rw [hE]; exact hb
    cbv
    repeat (first | (simp only [c1]; cbv) | simp only [c1] | (simp only [c2]; cbv) | simp only [c2])
theorem rbound_ret (i n : Int) : R 61 [pI i, pI n] (pI (bndE i n)) := by
  obtain ⟨b, hb⟩ : ∃ b, bndE i n = b := ⟨_, rfl⟩
  rw [hb]
  unfold bndE at hb
  simp only at hb
  by_cases h1 : i < 0
  · rw [if_pos h1] at hb
    refine ret_by tyT_ok good_gr mixed (fun _ => 0) Tryd.func61 rfl (by kernel_rfl) (by kernel_rfl) rfl fun P G E hc hE => ?_
    have c1 : E.lti i 0 = true := by rw [hE]; exact decide_eq_true h1
    have c2 : E.min (E.max (E.wadd .i64 i n) 0) n = b := by rw [hE]; exact hb
    cbv
    repeat (first | (simp only [c1]; cbv) | simp only [c1] | (simp only [c2]; cbv) | simp only [c2])
  · rw [if_neg h1] at hb
    refine ret_by tyT_ok good_gr mixed (fun _ => 0) Tryd.func61 rfl (by kernel_rfl) (by kernel_rfl) rfl fun P G E hc hE => ?_
    have c1 : E.lti i 0 = false := by rw [hE]; exact decide_eq_false h1
    have c2 : E.min (E.max i 0) n = b := by rw [hE]; exact hb
    cbv
    repeat (first | (simp only [c1]; cbv) | simp only [c1] | (simp only [c2]; cbv) | simp only [c2])
/-- the state of text.Slice at the head of its loop -/
structure SlI (L : List Int) (a b : Nat) (x : Int × Int × Int × Nat) : Prop where
  k0 : 0 ≤ x.2.2.1
  k1 : x.2.2.1 ≤ L.length
  k2 : x.2.2.1 ≤ b
  pos : x.2.2.2 = offs L x.2.2.1.toNat
  st : x.1 = if (a : Int) < x.2.2.1 then ((offs L a : Nat) : Int) else (((encs L).length : Nat) : Int)
  en : x.2.1 = (((encs L).length : Nat) : Int)
set_option maxHeartbeats 1000000 in
theorem tslice_lt (L : List Int) (hL : VR L) (hsz : (encs L).length ≤ 2000000) (a b : Nat) (hab : a < b) (hb : b ≤ L.length) (hrep : R 45 [pS (enB L)] (pS (enB L))) : R 60 [pS (enB L), pI a, pI b] (pS (enB ((L.take b).drop a))) := by
  obtain ⟨res, hres⟩ : ∃ r, enB ((L.take b).drop a) = r := ⟨_, rfl⟩
  have hext := enB_ext L a b (by omega)
  have hext' := offs_len (L := L) (n := L.length) (Nat.le_refl _)
  have hmono := offs_mono L (show a ≤ b by omega)
  have hble := offs_le L b
  rw [hres] at hext ⊢
  have hes : (enB L).size = (encs L).length := enB_size L
  have hel : (enB L).data.toList = encs L := enB_list L
  have hll := encs_len L hL
  obtain ⟨s, hs⟩ : ∃ s, enB L = s := ⟨_, rfl⟩
  rw [hs] at hext hes hel hrep ⊢
  obtain ⟨μ, hμ⟩ : ∃ μ : Int → Nat, ∀ i, μ i = L.length - i.toNat := ⟨_, fun _ => rfl⟩
  obtain ⟨A, hA⟩ : ∃ A : Int, (a : Int) = A := ⟨_, rfl⟩
  obtain ⟨B, hB⟩ : ∃ B : Int, (b : Int) = B := ⟨_, rfl⟩
  obtain ⟨Z, hZ⟩ : ∃ Z : Int, (((encs L).length : Nat) : Int) = Z := ⟨_, rfl⟩
  rw [hA, hB]
  refine ret_by tyT_ok good_gr mixed (fun _ => 0) Tryd.func60 rfl (by kernel_rfl) (by kernel_rfl) rfl fun P G E hc hE => ?_
  replace hrep := hc _ _ _ hrep
  have m1 : E.max A 0 = A := by rw [hE]; show (if (0:Int) > A then (0:Int) else A) = A; rw [if_neg (by omega)]
  have m2 : E.lei B A = false := by rw [hE]; exact decide_eq_false (by omega)
  have m3 : E.size s = Z := by rw [hE, ← hZ]; show ((s.size : Nat) : Int) = _; rw [hes]
  have elt : ∀ a b, E.lti a b = decide (a < b) := fun a b => by rw [hE]; rfl
  have eofn : ∀ n, E.ofN n = (n : Int) := fun n => by rw [hE]; rfl
  have enat : ∀ i, E.nat i = i.toNat := fun i => by rw [hE]; rfl
  have eple : ∀ a b, E.ple a b = (a ≤ b) := fun a b => by rw [hE]; rfl
  have eadd : ∀ a b, E.addN a b = a + b := fun a b => by rw [hE]; rfl
  have edec : ∀ p, E.decW s p = (Go.Lib.decodeL ((encs L).drop p)).2 := fun p => by rw [hE, ← hel, Go.Lib.decodeL_drop]; rfl
  have eext : ∀ l h, E.ext s l h = s.extract l h := fun l h => by rw [hE]; rfl
  have ei : ∀ i : Int, 0 ≤ i → i ≤ 3000000 → E.wadd .i64 i 1 = i + 1 := fun i h0 h1 => by rw [hE]; exact wrap_i64_in (by omega) (by omega)
  cbv
  repeat (first | (simp only [m1]; cbv) | simp only [m1] | (simp only [m2]; cbv) | simp only [m2] | (refine ⟨_, hrep, ?_⟩; cbv) | (simp only [m3]; cbv) | simp only [m3])
  refine loop_by 41 [0, 1, 2, 7, 8, 9, 23] 1 (fun x : Int × Int × Int × Nat => [.p (pS s), .p (pI A), .p (pI B), .p (pI x.1), .p (pI x.2.1), .p (pI x.2.2.1), .own 0 0]) (fun x => [some (.iter s x.2.2.2)]) (SlI L a b) (fun x => μ x.2.2.1) (Z, Z, 0, 0) ⟨rfl, rfl, rfl, rfl, rfl⟩ ⟨by simp, by simp, by simp, by simp [offs_zero], by simp only; rw [if_neg (by omega)]; exact hZ.symm, hZ.symm⟩ ?_
  rintro ⟨st, en, n, pos⟩ ⟨h0, h1, h2, hp, hst, hen⟩
  simp only at h0 h1 h2 hp hst hen
  replace hA : (a : Int) = A := hA
  replace hB : (b : Int) = B := hB
  replace hZ : (((encs L).length : Nat) : Int) = Z := hZ
  replace hst : st = if (a : Int) < n then ((offs L a : Nat) : Int) else Z := by rw [← hZ]; exact hst
  replace hen : en = Z := by rw [← hZ]; exact hen
  replace hen := hen.symm
  subst hen
  have hc1 := elt (E.ofN pos) Z
  rw [eofn] at hc1
  by_cases hn : n < (L.length : Int)
  · have hlt : (pos : Int) < Z := by
      have hm := offs_mono L (show n.toNat + 1 ≤ L.length by omega)
      have hs1 := offs_succ L n.toNat _ (List.getElem?_eq_getElem (by omega))
      obtain ⟨q, hq, hqe⟩ := hL _ (List.getElem_mem (show n.toNat < L.length by omega))
      rw [hqe] at hs1
      have := enc_pos q hq
      omega
    rw [decide_eq_true hlt] at hc1
    obtain ⟨r, hr⟩ : ∃ r, L[n.toNat]? = some r := ⟨_, List.getElem?_eq_getElem (by omega)⟩
    obtain ⟨q, rfl, hq⟩ := dec_at hL hr
    have hsuc := offs_succ L n.toNat _ hr
    have hd := edec pos
    rw [hp, hq] at hd
    rw [← hp] at hd
    simp only at hd
    have hnew : E.addN pos (E.decW s pos) = offs L (n + 1).toNat := by
      rw [eadd, hd, show (n + 1).toNat = n.toNat + 1 by omega, hsuc, hp]
    have hni := ei n h0 (by omega)
    rw [← eofn] at hc1
    by_cases hA2 : n = A
    · have hst2 : st = Z := by rw [hst, if_neg (by omega)]
      replace hst2 := hst2.symm
      subst hst2
      have d1 : decide (n = A) = true := decide_eq_true hA2
      have d2 : decide (n = B) = false := decide_eq_false (by omega)
      have hI : SlI L a b (E.ofN pos, Z, E.wadd .i64 n 1, E.addN pos (E.decW s pos)) := by
        rw [hni, hnew, eofn]
        refine ⟨by simp only; omega, by simp only; omega, by simp only; omega, rfl, ?_, hZ.symm⟩
        simp only
        rw [if_pos (by omega), hp, show n.toNat = a by omega]
      have hM : μ (E.wadd .i64 n 1) < μ n := by rw [hμ, hμ, hni]; omega
      clear hr
      cbv
      repeat (first | (simp only [m3]; cbv) | simp only [m3] | (simp only [hc1]; cbv) | simp only [hc1] | (simp only [d1]; cbv) | simp only [d1] | (simp only [d2]; cbv) | simp only [d2])
      refine .mk (E.ofN pos, Z, E.wadd .i64 n 1, E.addN pos (E.decW s pos)) ⟨rfl, rfl, rfl, rfl, rfl⟩ ?_ ?_
      · exact hI
      · exact hM
    · have d1 : decide (n = A) = false := decide_eq_false hA2
      by_cases hB2 : n = B
      · have d2 : decide (n = B) = true := decide_eq_true hB2
        rw [if_pos (by omega)] at hst
        have hpb : pos = offs L b := by rw [hp, show n.toNat = b by omega]
        have p1 : E.ple 0 st ∧ E.ple st (E.ofN pos) ∧ E.ple (E.ofN pos) (E.size s) := by
          have q1 : st = ((offs L a : Nat) : Int) := hst
          have q2 : (pos : Int) = ((offs L b : Nat) : Int) := by rw [hpb]
          have q3 : ((offs L b : Nat) : Int) ≤ Z := by rw [← hZ]; exact Int.ofNat_le.2 hble
          have q4 : ((offs L a : Nat) : Int) ≤ ((offs L b : Nat) : Int) := Int.ofNat_le.2 hmono
          have q5 : (0 : Int) ≤ ((offs L a : Nat) : Int) := Int.natCast_nonneg _
          have q6 : 0 ≤ st ∧ st ≤ (pos : Int) ∧ (pos : Int) ≤ Z := by rw [q1, q2]; exact ⟨q5, q4, q3⟩
          rw [eple, eple, eple, eofn, m3]
          exact q6
        have x1 : E.ext s (E.nat st) (E.nat (E.ofN pos)) = res := by
          rw [eext, enat, enat, eofn, hst, hpb]
          simp only [Int.toNat_natCast]
          exact hext
        clear hr
        rw [m3] at p1
        cbv
        repeat (first | (simp only [m3]; cbv) | simp only [m3] | (simp only [hc1]; cbv) | simp only [hc1] | (simp only [d1]; cbv) | simp only [d1] | (simp only [d2]; cbv) | simp only [d2])
        refine ⟨p1.1, p1.2.1, p1.2.2, ?_⟩
        cbv
        exact congrArg (fun z => PV.v (Value.string z)) x1
      · have d2 : decide (n = B) = false := decide_eq_false hB2
        have hI : SlI L a b (st, Z, E.wadd .i64 n 1, E.addN pos (E.decW s pos)) := by
          rw [hni, hnew]
          refine ⟨by simp only; omega, by simp only; omega, by simp only; omega, rfl, ?_, hZ.symm⟩
          simp only
          rw [hst]
          by_cases h5 : (a : Int) < n
          · rw [if_pos h5, if_pos (by omega)]
          · rw [if_neg h5, if_neg (by omega)]; exact hZ.symm
        have hM : μ (E.wadd .i64 n 1) < μ n := by rw [hμ, hμ, hni]; omega
        clear hr
        cbv
        repeat (first | (simp only [m3]; cbv) | simp only [m3] | (simp only [hc1]; cbv) | simp only [hc1] | (simp only [d1]; cbv) | simp only [d1] | (simp only [d2]; cbv) | simp only [d2])
        refine .mk (st, Z, E.wadd .i64 n 1, E.addN pos (E.decW s pos)) ⟨rfl, rfl, rfl, rfl, rfl⟩ ?_ ?_
        · exact hI
        · exact hM
  · have hbl : b = L.length := by omega
    have hnl : n.toNat = L.length := by omega
    have hlt : ¬ (pos : Int) < Z := by rw [hp, hnl, hext']; omega
    rw [decide_eq_false hlt, ← eofn] at hc1
    rw [if_pos (by omega)] at hst
    have p1 : E.ple 0 st ∧ E.ple st Z ∧ E.ple Z (E.size s) := by
      rw [eple, eple, eple, m3]; omega
    have x1 : E.ext s (E.nat st) (E.nat Z) = res := by
      rw [eext, enat, enat, hst, ← hZ]
      simp only [Int.toNat_natCast]
      rw [← hext', ← hbl]
      exact hext
    rw [m3] at p1
    cbv
    repeat (first | (simp only [m3]; cbv) | simp only [m3] | (simp only [hc1]; cbv) | simp only [hc1])
    refine ⟨p1.1, p1.2.1, p1.2.2, ?_⟩
    cbv
    exact congrArg (fun z => PV.v (Value.string z)) x1
theorem tslice_ge (s : ByteArray) (A B : Int) (h0 : 0 ≤ A) (h : B ≤ A) : R 60 [pS s, pI A, pI B] (pS ⟨#[]⟩) := by
  refine ret_by tyT_ok good_gr mixed (fun _ => 0) Tryd.func60 rfl (by kernel_rfl) (by kernel_rfl) rfl fun P G E hc hE => ?_
  have m1 : E.max A 0 = A := by rw [hE]; show (if (0:Int) > A then (0:Int) else A) = A; rw [if_neg (by omega)]
  have m2 : E.lei B A = true := by rw [hE]; exact decide_eq_true h
  cbv
  repeat (first | (simp only [m1]; cbv) | simp only [m1] | (simp only [m2]; cbv) | simp only [m2])
end Go.Proofs.YtadgpchdlkiinaaDoor
