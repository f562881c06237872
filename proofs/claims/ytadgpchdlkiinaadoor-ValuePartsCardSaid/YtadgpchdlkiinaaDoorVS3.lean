/- Own work: Find of the program. -/
import Derived.Test.YtadgpchdlkiinaaDoorVS2
namespace Go.Proofs.YtadgpchdlkiinaaDoor
open Go.RowKit
set_option maxRecDepth 100000

/-- the tables, and the variable that strings.Index reads -/
structure Good3 (w : World) : Prop where
  good : Good w
  ml : ∃ m : Int, w.cell? ⟨Tryd.laysM143_ren.g 1, 0, none⟩ = some (.int .i64 m)
theorem good3_gr : ∀ w w', Gr w w' → Good3 w → Good3 w' := fun w w' hg h => ⟨good_gr w w' hg h.good, h.ml.imp fun _ h => cell_gr hg h⟩
abbrev R3 (f : FuncId) (l : List PV) (r : PV) : Prop := Ret Tryd.prog Good3 f l r
theorem up3 {f : FuncId} {l : List PV} {r : PV} (h : R f l r) : R3 f l r := ⟨h.1, fun w B args hG => h.2 w B args hG.good⟩
theorem index_ret (s t : ByteArray) (hs : s.size < 4294967281) : R3 62 [pS s, pS t] (pI (Lib.index s.data.toList t.data.toList)) :=
  ret_v Tryd.func62 (by kernel_rfl) (by kernel_rfl) [.string s, .string t] _ fun w hG => by
    obtain ⟨m, hm⟩ := hG.ml
    exact (Any.strings_Index { Tryd.laysM143 with } s t m w hs hm).mono fun e w' ⟨h1, h2⟩ => ⟨_, h1, by subst h2; exact Gr.refl _, fun _ => .v _⟩
/-- the first place from a place on -/
def findE (L M : List Int) (i : Int) : Int :=
  let f := if 0 > i then 0 else i
  if L.length < f then -1 else if idxR (L.drop f.toNat) M = -1 then -1 else f + idxR (L.drop f.toNat) M
theorem findE_spec (L M : List Int) (i : Int) : (findE L M i = -1 ∧ ∀ j : Nat, j ≤ L.length → i ≤ j → ¬ M <+: L.drop j) ∨ ∃ j : Nat, findE L M i = j ∧ i ≤ j ∧ j ≤ L.length ∧ M <+: L.drop j ∧ ∀ q : Nat, q < j → i ≤ q → ¬ M <+: L.drop q := by
  unfold findE
  obtain ⟨f, hf⟩ : ∃ f : Nat, (if 0 > i then 0 else i) = (f : Int) := by
    by_cases h : 0 > i
    · exact ⟨0, by rw [if_pos h]; rfl⟩
    · exact ⟨i.toNat, by rw [if_neg h]; omega⟩
  have hfi : ∀ j : Nat, i ≤ j ↔ f ≤ j := fun j => by
    by_cases h : 0 > i
    · rw [if_pos h] at hf; omega
    · rw [if_neg h] at hf; omega
  simp only [hf, Int.toNat_natCast]
  by_cases h1 : (L.length : Int) < f
  · left
    rw [if_pos h1]
    exact ⟨rfl, fun j hj hij => by have := (hfi j).1 hij; omega⟩
  · rw [if_neg h1]
    rcases idxR_spec M (L.drop f) with ⟨h2, h3⟩ | ⟨j, h2, h3, h4, h5⟩
    · left
      rw [if_pos h2]
      refine ⟨rfl, fun j hj hij => ?_⟩
      have hfj := (hfi j).1 hij
      have := h3 (j - f) (by rw [List.length_drop]; omega)
      rwa [List.drop_drop, show f + (j - f) = j by omega] at this
    · right
      rw [List.length_drop] at h3
      refine ⟨f + j, ?_, (hfi _).2 (by omega), by omega, by rwa [List.drop_drop] at h4, fun q hq hiq => ?_⟩
      · rw [h2, if_neg (by omega)]; omega
      · have hfq := (hfi q).1 hiq
        have := h5 (q - f) (by omega)
        rwa [List.drop_drop, show f + (q - f) = q by omega] at this
set_option maxHeartbeats 1000000 in
theorem find_ret (s t : ByteArray) (i : Int) (hs : s.size ≤ 2000) (ht : t.size ≤ 2000) : R3 37 [pS s, pS t, pI i] (pI (findE (runesS s) (runesS t) i)) := by
  have r1 := up3 (repT_ret s (by omega))
  have r2 := up3 (repT_ret t (by omega))
  rw [repair_runes] at r1 r2
  have hL := runesS_vr s
  have hM := runesS_vr t
  have hl := runesS_len s
  have hm := runesS_len t
  generalize runesS s = L at *
  generalize runesS t = M at *
  have hz := enB_le (L := L) (n := 2000) (by omega)
  have hlen := up3 (len_ret (enB L) (by omega))
  rw [runesS_enB hL] at hlen
  obtain ⟨f, hf⟩ : ∃ f : Int, (if 0 > i then 0 else i) = f := ⟨_, rfl⟩
  have hf0 : 0 ≤ f := by
    rw [← hf]
    by_cases h : 0 > i
    · rw [if_pos h]; omega
    · rw [if_neg h]; omega
  obtain ⟨o, ho⟩ : ∃ o, findE L M i = o := ⟨_, rfl⟩
  rw [ho]
  unfold findE at ho
  simp only [hf] at ho
  by_cases h1 : (L.length : Int) < f
  · rw [if_pos h1] at ho
    subst ho
    generalize enB L = u at *
    generalize enB M = v at *
    generalize (L.length : Int) = n at *
    refine ret_by tyT_ok good3_gr mixed (fun _ => 0) Tryd.func37 rfl (by kernel_rfl) (by kernel_rfl) rfl fun P G E hc hE => ?_
    replace r1 := hc _ _ _ r1
    replace r2 := hc _ _ _ r2
    replace hlen := hc _ _ _ hlen
    have m1 : E.max i 0 = f := by rw [hE]; exact hf
    have c1 : E.lti n f = true := by rw [hE]; exact decide_eq_true h1
    cbv
    repeat (first | (refine ⟨_, r1, ?_⟩; cbv) | (refine ⟨_, r2, ?_⟩; cbv) | (refine ⟨_, hlen, ?_⟩; cbv) | (simp only [m1]; cbv) | simp only [m1] | (simp only [c1]; cbv) | simp only [c1])
  · rw [if_neg h1] at ho
    have hsub : R3 60 [pS (enB L), pI f, pI L.length] (pS (enB (L.drop f.toNat))) := up3 (by
      have hs2 := enB_le (L := L) (n := 10000) (by omega)
      rw [enB_size] at hs2
      have hrep := repT_ret (enB L) (by rw [enB_size]; omega)
      rw [repair_runes, runesS_enB hL] at hrep
      by_cases h : (L.length : Int) ≤ f
      · have e : L.drop f.toNat = [] := List.drop_eq_nil_of_le (by omega)
        rw [e]
        exact tslice_ge _ _ _ hf0 h
      · have := tslice_lt L hL (by omega) f.toNat L.length (by omega) (Nat.le_refl _) hrep
        rw [Int.toNat_of_nonneg hf0, List.take_length] at this
        exact this)
    have hRv := vr_drop hL f.toNat
    have hRl : (L.drop f.toNat).length ≤ 2000 := by rw [List.length_drop]; omega
    generalize L.drop f.toNat = Q at *
    have hzq := enB_le hRl
    have hix := index_ret (enB Q) (enB M) (by omega)
    rw [enB_list, enB_list] at hix
    rcases index_encs M hM Q hRv with ⟨h2, h3⟩ | ⟨j, hj, h2, h3⟩
    · rw [if_pos h2] at ho
      subst ho
      rw [h3] at hix
      generalize enB L = u at *
      generalize enB M = v at *
      generalize enB Q = x at *
      generalize (L.length : Int) = n at *
      refine ret_by tyT_ok good3_gr mixed (fun _ => 0) Tryd.func37 rfl (by kernel_rfl) (by kernel_rfl) rfl fun P G E hc hE => ?_
      replace r1 := hc _ _ _ r1
      replace r2 := hc _ _ _ r2
      replace hlen := hc _ _ _ hlen
      replace hsub := hc _ _ _ hsub
      replace hix := hc _ _ _ hix
      have m1 : E.max i 0 = f := by rw [hE]; exact hf
      have c1 : E.lti n f = false := by rw [hE]; exact decide_eq_false h1
      have c2 : E.lti (-1) 0 = true := by rw [hE]; rfl
      cbv
      repeat (first | (refine ⟨_, r1, ?_⟩; cbv) | (refine ⟨_, r2, ?_⟩; cbv) | (refine ⟨_, hlen, ?_⟩; cbv) | (simp only [m1]; cbv) | simp only [m1] | (simp only [c1]; cbv) | simp only [c1] | (refine ⟨_, hsub, ?_⟩; cbv) | (refine ⟨_, hix, ?_⟩; cbv) | (simp only [c2]; cbv) | simp only [c2])
    · rw [h2, if_neg (by omega)] at ho
      have h3' : Lib.index (encs Q) (encs M) = ((offs Q j : Nat) : Int) := h3
      rw [h3'] at hix
      have hcut := enB_ext Q 0 j (by omega)
      rw [offs_zero, List.drop_zero] at hcut
      have hle := offs_le Q j
      rw [← enB_size] at hle
      have hl2 := up3 (len_ret (enB (Q.take j)) (by have := enB_le (L := Q.take j) (n := 2000) (by rw [List.length_take]; omega); omega))
      rw [runesS_enB (vr_take hRv j), List.length_take, Nat.min_eq_left hj] at hl2
      obtain ⟨J, hJ⟩ : ∃ J : Int, ((j : Nat) : Int) = J := ⟨_, rfl⟩
      obtain ⟨K, hK⟩ : ∃ K : Int, ((offs Q j : Nat) : Int) = K := ⟨_, rfl⟩
      have hKt : K.toNat = offs Q j := by rw [← hK]; exact Int.toNat_natCast _
      have hK0 : 0 ≤ K := by rw [← hK]; exact Int.natCast_nonneg _
      have hKz : K ≤ ((enB Q).size : Nat) := by rw [← hK]; exact Int.ofNat_le.2 hle
      have hfJ : IntKind.i64.wrap (f + J) = o := by
        rw [← ho, ← hJ]
        exact wrap_i64_in (by omega) (by omega)
      rw [hJ] at hl2
      rw [hK] at hix
      rw [← hKt] at hcut
      clear hle h3 h3' hK hKt hJ
      generalize enB L = u at *
      generalize enB M = v at *
      generalize enB (Q.take j) = y at *
      generalize enB Q = x at *
      generalize (L.length : Int) = n at *
      refine ret_by tyT_ok good3_gr mixed (fun _ => 0) Tryd.func37 rfl (by kernel_rfl) (by kernel_rfl) rfl fun P G E hc hE => ?_
      replace r1 := hc _ _ _ r1
      replace r2 := hc _ _ _ r2
      replace hlen := hc _ _ _ hlen
      replace hsub := hc _ _ _ hsub
      replace hix := hc _ _ _ hix
      replace hl2 := hc _ _ _ hl2
      have m1 : E.max i 0 = f := by rw [hE]; exact hf
      have c1 : E.lti n f = false := by rw [hE]; exact decide_eq_false h1
      have c2 : E.lti K 0 = false := by rw [hE]; exact decide_eq_false (by omega)
      have p1 : E.ple 0 0 ∧ E.ple 0 K ∧ E.ple K (E.size x) := by rw [hE]; exact ⟨Int.le_refl _, hK0, hKz⟩
      have x1 : E.ext x (E.nat 0) (E.nat K) = y := by rw [hE]; exact hcut
      have w1 : E.wadd .i64 f J = o := by rw [hE]; exact hfJ
      cbv
      repeat (first | (refine ⟨_, r1, ?_⟩; cbv) | (refine ⟨_, r2, ?_⟩; cbv) | (refine ⟨_, hlen, ?_⟩; cbv) | (simp only [m1]; cbv) | simp only [m1] | (simp only [c1]; cbv) | simp only [c1] | (refine ⟨_, hsub, ?_⟩; cbv) | (refine ⟨_, hix, ?_⟩; cbv) | (simp only [c2]; cbv) | simp only [c2] | (refine ⟨p1.1,p1.2.1,p1.2.2, ?_⟩; cbv) | (simp only [x1]; cbv) | simp only [x1] | (refine ⟨_, hl2, ?_⟩; cbv) | (simp only [w1]; cbv) | simp only [w1])
end Go.Proofs.YtadgpchdlkiinaaDoor
