/- Own work: Len, and Slice of the program and of the reference. -/
import Derived.Test.YtadgpchdlkiinaaDoorVS1
namespace Go.Proofs.YtadgpchdlkiinaaDoor
open Go.RowKit
set_option maxRecDepth 100000

theorem rc_from (s : ByteArray) : ∀ (f pos : Nat), Lib.runeCountFrom s f pos = (runesL s f pos).length
  | 0, _ => rfl
  | f + 1, pos => by
    unfold Lib.runeCountFrom runesL
    split
    · rw [rc_from s f, List.length_cons]; omega
    · rfl
theorem rc_runes (s : ByteArray) : Lib.runeCount s = (runesS s).length := by
  rw [← runesOf_runes]
  exact rc_from s _ _
theorem count_ret (s : ByteArray) (hs : s.size ≤ 9000000) : R 69 [pS s] (pI (((runesS s).length : Nat) : Int)) :=
  ret_v Tryd.func69 (by kernel_rfl) (by kernel_rfl) [.string s] _ fun w hG => (Tryd.utf8_RuneCountInString s w (by omega)).mono fun e w' ⟨h1, pos, h2⟩ => ⟨_, h1, by subst h2; exact gr_iter _ _ _, fun _ => by rw [rc_runes]; exact .v _⟩
theorem len_ret (s : ByteArray) (hs : s.size ≤ 9000000) : R 58 [pS s] (pI (((runesS s).length : Nat) : Int)) := by
  have h := count_ret s hs
  generalize (((runesS s).length : Nat) : Int) = n at *
  refine ret_by tyT_ok good_gr mixed (fun _ => 0) Tryd.func58 rfl (by kernel_rfl) (by kernel_rfl) rfl fun P G E hc hE => ?_
  replace h := hc _ _ _ h
  cbv
  repeat (first | (refine ⟨_, h, ?_⟩; cbv))
def cutE (L : List Int) (i j : Int) : ByteArray := enB ((L.take (bndE j L.length).toNat).drop (bndE i L.length).toNat)
theorem tslice_any (L : List Int) (hL : VR L) (hl : L.length ≤ 10000) (i j : Int) : R 60 [pS (enB L), pI (bndE i L.length), pI (bndE j L.length)] (pS (cutE L i j)) := by
  have b1 := bndE_in i L.length (by omega)
  have b2 := bndE_in j L.length (by omega)
  unfold cutE
  generalize bndE i L.length = a at *
  generalize bndE j L.length = b at *
  by_cases h : b ≤ a
  · have e : (L.take b.toNat).drop a.toNat = [] := List.drop_eq_nil_of_le (by rw [List.length_take]; omega)
    rw [e]
    exact tslice_ge _ _ _ b1.1 h
  · have hs := enB_le hl
    rw [enB_size] at hs
    have hrep := repT_ret (enB L) (by rw [enB_size]; omega)
    rw [repair_runes, runesS_enB hL] at hrep
    have := tslice_lt L hL (by omega) a.toNat b.toNat (by omega) (by omega) hrep
    rwa [Int.toNat_of_nonneg b1.1, Int.toNat_of_nonneg b2.1] at this
set_option maxHeartbeats 1000000 in
theorem slice_ret (s : ByteArray) (i j : Int) (hs : s.size ≤ 2000) : R 35 [pS s, pI i, pI j] (pS (cutE (runesS s) i j)) := by
  have hrep := repT_ret s (by omega)
  rw [repair_runes] at hrep
  have hv := runesS_vr s
  have hl := runesS_len s
  generalize runesS s = L at *
  have hz := enB_le (L := L) (n := 2000) (by omega)
  have hlen := len_ret (enB L) (by omega)
  rw [runesS_enB hv] at hlen
  have hb1 := bound_mem i L.length
  have hb2 := bound_mem j L.length
  have hts := tslice_any L hv (by omega) i j
  generalize cutE L i j = res at *
  generalize bndE i L.length = a at *
  generalize bndE j L.length = b at *
  generalize (L.length : Int) = n at *
  generalize enB L = t at *
  refine ret_bym tyT_ok good_gr mixed (fun _ => 0) Tryd.func35 rfl (by kernel_rfl) (by kernel_rfl) rfl fun P G E hc hM hE => ?_
  replace hrep := hc _ _ _ hrep
  replace hlen := hc _ _ _ hlen
  replace hts := hc _ _ _ hts
  replace hb1 := hM _ _ _ _ _ hb1
  replace hb2 := hM _ _ _ _ _ hb2
  cbv
  repeat (first | (refine ⟨_, hrep, ?_⟩; cbv) | (refine ⟨_, hlen, ?_⟩; cbv))
  refine .mk _ _ (Wk.refl _ _) [0] _ _ _ _ hb1 rfl rfl rfl ?_
  cbv
  refine .mk _ _ (Wk.refl _ _) [0] _ _ _ _ hb2 rfl rfl rfl ?_
  cbv
  repeat (first | (refine ⟨_, hts, ?_⟩; cbv))
theorem foldl_enB : ∀ (L : List Int) (acc : ByteArray), L.foldl (fun r n => r ++ Utf8.encode n) acc = acc ++ enB L
  | [], acc => by
    apply ByteArray.ext
    rw [ByteArray.data_append]
    simp [enB, encs]
  | r :: L, acc => by
    rw [List.foldl_cons, foldl_enB L]
    apply ByteArray.ext
    apply Array.toList_inj.1
    have e : (Utf8.encode r).data.toList = encL r := encL_def r
    have e1 : (enB (r :: L)).data.toList = encL r ++ encs L := by rw [enB_list, encs_cons]
    rw [ByteArray.data_append, ByteArray.data_append, ByteArray.data_append, Array.toList_append, Array.toList_append, Array.toList_append, e, e1, enB_list, List.append_assoc]
theorem runesBytes_enB (L : List Int) : runesBytes L = enB L := by
  have := foldl_enB L ByteArray.empty
  unfold runesBytes
  rw [this]
  apply ByteArray.ext
  rw [ByteArray.data_append]
  simp
set_option maxHeartbeats 1000000 in
theorem rslice_ret (s : ByteArray) (i j : Int) (hs : s.size ≤ 2000) : R 36 [pS s, pI i, pI j] (pS (cutE (runesS s) i j)) := by
  have hl := runesS_len s
  obtain ⟨L, hL⟩ : ∃ L, runesS s = L := ⟨_, rfl⟩
  rw [hL] at hl ⊢
  have b1 := bndE_in i L.length (by omega)
  have b2 := bndE_in j L.length (by omega)
  have hb1 := rbound_ret i L.length
  have hb2 := rbound_ret j L.length
  unfold cutE
  generalize bndE i L.length = a at *
  generalize bndE j L.length = b at *
  obtain ⟨N, hN⟩ : ∃ N : Int, (L.length : Int) = N := ⟨_, rfl⟩
  rw [hN] at hb1 hb2 b1 b2
  have hcut : stdE.cut (pR L) a.toNat b.toNat = pR ((L.take b.toNat).drop a.toNat) := by
    show ((pR L).take b.toNat).drop a.toNat = _
    unfold pR
    rw [← List.map_take, ← List.map_drop]
  have henc := runesBytes_enB ((L.take b.toNat).drop a.toNat)
  by_cases h : b ≤ a
  · have e : (L.take b.toNat).drop a.toNat = [] := List.drop_eq_nil_of_le (by rw [List.length_take]; omega)
    rw [e]
    have e2 : enB [] = ⟨#[]⟩ := rfl
    rw [e2]
    refine ret_by tyT_ok good_gr mixed (fun _ => 0) Tryd.func36 rfl (by kernel_rfl) (by kernel_rfl) rfl fun P G E hc hE => ?_
    replace hb1 := hc _ _ _ hb1
    replace hb2 := hc _ _ _ hb2
    have p1 : E.fits s := by rw [hE]; show _ ≤ _; omega
    have l1 : E.ofN (E.rrows s).length = N := by rw [hE, ← hN, ← hL, ← runesOf_runes]; show (((pR (runesOf s)).length : Nat) : Int) = _; rw [pR]; simp
    have d1 : E.lei b a = true := by rw [hE]; exact decide_eq_true h
    cbv at l1
    cbv
    repeat (first | (refine ⟨p1, ?_⟩; cbv) | (simp only [l1]; cbv) | simp only [l1] | (refine ⟨_, hb1, ?_⟩; cbv) | (refine ⟨_, hb2, ?_⟩; cbv) | (simp only [d1]; cbv) | simp only [d1])
  · generalize hM : (L.take b.toNat).drop a.toNat = M at *
    generalize enB M = res at *
    refine ret_by tyT_ok good_gr mixed (fun _ => 0) Tryd.func36 rfl (by kernel_rfl) (by kernel_rfl) rfl fun P G E hc hE => ?_
    replace hb1 := hc _ _ _ hb1
    replace hb2 := hc _ _ _ hb2
    have p1 : E.fits s := by rw [hE]; show _ ≤ _; omega
    have r1 : E.rrows s = pR L := by rw [hE, ← hL, ← runesOf_runes]; rfl
    have l1 : E.ofN (E.rrows s).length = N := by rw [r1, hE, ← hN]; show (((pR L).length : Nat) : Int) = _; rw [pR]; simp
    have d1 : E.lei b a = false := by rw [hE]; exact decide_eq_false h
    have p2 : E.ple 0 a ∧ E.ple a b ∧ E.ple b N := by rw [hE]; show (0:Int) ≤ a ∧ a ≤ b ∧ b ≤ N; omega
    have c1 : E.cut (E.rrows s) (E.nat a) (E.nat b) = pR M := by rw [r1, hE]; exact hcut
    have c2 : E.encL M = res := by rw [hE]; exact henc
    cbv at l1
    cbv
    repeat (first | (refine ⟨p1, ?_⟩; cbv) | (simp only [l1]; cbv) | simp only [l1] | (refine ⟨_, hb1, ?_⟩; cbv) | (refine ⟨_, hb2, ?_⟩; cbv) | (simp only [d1]; cbv) | simp only [d1] | (refine ⟨p2.1,p2.2.1,p2.2.2, ?_⟩; cbv))
    refine ⟨M, c1, ?_⟩
    cbv
    exact congrArg (fun z => PV.v (Value.string z)) c2
end Go.Proofs.YtadgpchdlkiinaaDoor
