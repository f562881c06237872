/- Own work: the reference's comparison, by code points. -/
import Derived.Test.YtadgpchdlkiinaaDoorV1
import Derived.Test.YtadgpchdlkiinaaDoorUtfO
namespace Go.Proofs.YtadgpchdlkiinaaDoor
open Go.RowKit
set_option maxRecDepth 100000

theorem runes_bytes (s : ByteArray) : ∀ (b i : Nat), runesL s b i = runesB b (s.data.toList.drop i)
  | 0, i => rfl
  | b + 1, i => by
    unfold runesL runesB
    have e : s.data.size = s.size := rfl
    by_cases h : i < s.size
    · have hne : s.data.toList.drop i ≠ [] := fun hh => by
        have := congrArg List.length hh
        simp at this; omega
      rw [if_pos h, if_neg hne, runes_bytes s b, Go.Lib.decodeL_drop s i, List.drop_drop]
    · have he : s.data.toList.drop i = [] := List.drop_eq_nil_of_le (by simp; omega)
      rw [if_neg h, if_pos he]
def ordS (s t : ByteArray) : Int := ordL (runesOf s) (runesOf t)
theorem ordS_valid (s t : ByteArray) (hs : validB s = true) (ht : validB t = true) : (stdE.lt s t = true ∧ stdE.eq s t = false ∧ ordS s t = -1) ∨ (stdE.lt s t = false ∧ stdE.eq s t = true ∧ ordS s t = 0) ∨ (stdE.lt s t = false ∧ stdE.eq s t = false ∧ ordS s t = 1) := by
  have h := ordL_valid s.size t.size s.data.toList t.data.toList (Nat.le_refl _) (Nat.le_refl _) hs ht
  have e1 : runesOf s = runesB s.size s.data.toList := by unfold runesOf; rw [runes_bytes, List.drop_zero]
  have e2 : runesOf t = runesB t.size t.data.toList := by unfold runesOf; rw [runes_bytes, List.drop_zero]
  have hlt : stdE.lt s t = decide (s.data.toList < t.data.toList) := by simp only [stdE, Go.Proofs.bytesLess_eq, Lib.toList_data]
  have heq : stdE.eq s t = decide (s = t) := rfl
  have hext : s = t ↔ s.data.toList = t.data.toList := ⟨fun h => by rw [h], fun h => ByteArray.ext (Array.toList_inj.1 h)⟩
  unfold ordS
  rw [e1, e2, hlt, heq]
  rcases h with ⟨h1, h2⟩ | ⟨h1, h2⟩ | ⟨h1, h2⟩
  · refine .inl ⟨decide_eq_true h1, decide_eq_false fun e => ?_, h2⟩
    rw [hext] at e; rw [e] at h1; exact List.lt_irrefl _ h1
  · exact .inr (.inl ⟨decide_eq_false (by rw [h1]; exact List.lt_irrefl _), decide_eq_true (hext.2 h1), h2⟩)
  · refine .inr (.inr ⟨decide_eq_false fun e => List.lt_irrefl _ (List.lt_trans e h1), decide_eq_false fun e => ?_, h2⟩)
    rw [hext] at e; rw [e] at h1; exact List.lt_irrefl _ h1

structure OrdI (a b : List Int) (o : Int) (i : Int) : Prop where
  h0 : 0 ≤ i
  ha : i ≤ a.length
  hb : i ≤ b.length
  eq : ordL (a.drop i.toNat) (b.drop i.toNat) = o
theorem pR_get {ns : List Int} {i : Nat} {x : Int} (h : ns[i]? = some x) : (pR ns)[i]? = some [.v (.int .i32 x)] := by
  unfold pR; rw [List.getElem?_map, h]; rfl
theorem pR_len (ns : List Int) : (pR ns).length = ns.length := by simp [pR]
theorem drop_some {l : List Int} {i : Nat} {x : Int} (h : l[i]? = some x) : l.drop i = x :: l.drop (i + 1) := by
  obtain ⟨h1, h2⟩ := List.getElem?_eq_some_iff.1 h
  rw [← h2]; exact List.drop_eq_getElem_cons h1
set_option maxHeartbeats 1000000 in
theorem rorder_str (n n' r r' : Int) (s t : ByteArray) (hs : s.size ≤ 70000000) (ht : t.size ≤ 70000000) : R 53 [pV ⟨4, n, s, r⟩, pV ⟨4, n', t, r'⟩] (.tup [pI (ordS s t), pB true]) := by
  unfold ordS
  have hls := runesOf_len s
  have hlt := runesOf_len t
  obtain ⟨μ, hμ⟩ : ∃ μ : Int → Nat, ∀ i, μ i = (runesOf s).length - i.toNat := ⟨_, fun _ => rfl⟩
  refine ret_by tyT_ok good_gr mixed (fun n => match n with | 9 => 7 | 13 => 8 | 15 => 8 | _ => 0) Tryd.func53 rfl (by kernel_rfl) (by kernel_rfl) rfl fun P G E hc hE => ?_
  have r1 : E.rrows s = pR (runesOf s) := by rw [hE]; rfl
  have r2 : E.rrows t = pR (runesOf t) := by rw [hE]; rfl
  have p1 : E.fits s := by rw [hE]; show _ ≤ _; omega
  have p2 : E.fits t := by rw [hE]; show _ ≤ _; omega
  have l1 : E.ofN (E.rrows s).length = ((runesOf s).length : Int) := by rw [r1, pR_len, hE]; rfl
  have l2 : E.ofN (E.rrows t).length = ((runesOf t).length : Int) := by rw [r2, pR_len, hE]; rfl
  have g1 : ∀ (i : Nat) x, (runesOf s)[i]? = some x → (E.rrows s)[i]? = some [.v (.int .i32 x)] := fun i x h => by rw [r1]; exact pR_get h
  have g2 : ∀ (i : Nat) x, (runesOf t)[i]? = some x → (E.rrows t)[i]? = some [.v (.int .i32 x)] := fun i x h => by rw [r2]; exact pR_get h
  clear r1 r2
  have elt : ∀ a b, E.lti a b = decide (a < b) := fun a b => by rw [hE]; rfl
  have enat : ∀ i, E.nat i = i.toNat := fun i => by rw [hE]; rfl
  have eple : ∀ a b, a ≤ b → E.ple a b := fun a b h => by rw [hE]; exact h
  have eadd : ∀ i : Int, 0 ≤ i → i ≤ 70000000 → E.wadd .i64 i 1 = i + 1 := fun i h0 h1 => by rw [hE]; exact wrap_i64_in (by omega) (by omega)
  generalize runesOf s = a at *
  generalize runesOf t = b at *
  generalize hoo : ordL a b = o
  cbv
  refine ⟨p1, ?_⟩
  cbv
  refine ⟨p2, ?_⟩
  cbv
  refine loop_by 81 [6, 7, 8] 0 (fun i : Int => [.p (.ro 1 (E.rrows s)), .p (.ro 1 (E.rrows t)), .p (pI i)]) (fun _ => []) (OrdI a b o) μ 0 ⟨rfl, rfl, rfl, rfl, rfl⟩ ⟨by omega, by omega, by omega, hoo⟩ ?_
  rintro i ⟨h0, ha, hb, ho⟩
  have c1 : E.lti i (E.ofN (E.rrows s).length) = decide (i < a.length) := by rw [elt, l1]
  have c2 : E.lti i (E.ofN (E.rrows t).length) = decide (i < b.length) := by rw [elt, l2]
  have f1 : E.lti (E.ofN (E.rrows s).length) (E.ofN (E.rrows t).length) = decide ((a.length : Int) < b.length) := by rw [elt, l1, l2]
  have f2 : E.lti (E.ofN (E.rrows t).length) (E.ofN (E.rrows s).length) = decide ((b.length : Int) < a.length) := by rw [elt, l1, l2]
  by_cases hin : i < a.length ∧ i < b.length
  · obtain ⟨hia, hib⟩ := hin
    rw [decide_eq_true hia] at c1
    rw [decide_eq_true hib] at c2
    obtain ⟨x, hx⟩ : ∃ x, a[i.toNat]? = some x := ⟨_, List.getElem?_eq_getElem (by omega)⟩
    obtain ⟨y, hy⟩ : ∃ y, b[i.toNat]? = some y := ⟨_, List.getElem?_eq_getElem (by omega)⟩
    have ga := g1 _ _ hx
    have gb := g2 _ _ hy
    rw [← enat] at ga gb
    rw [drop_some hx, drop_some hy] at ho
    unfold ordL at ho
    have d1 := elt x y
    have d2 := elt y x
    have hp := eple 0 i h0
    have hi1 := eadd i h0 (by omega)
    clear hx hy
    cbv at c1
    cbv at c2
    by_cases hxy : x < y
    · rw [decide_eq_true hxy] at d1
      rw [if_pos hxy] at ho
      subst ho
      cbv
      repeat (first | (simp only [c1]; cbv) | simp only [c1] | (simp only [c2]; cbv) | simp only [c2] | (refine ⟨hp, ?_⟩; cbv) | (refine ⟨_, ga, ?_⟩; cbv) | (refine ⟨_, gb, ?_⟩; cbv) | (simp only [d1]; cbv) | simp only [d1])
    · rw [decide_eq_false hxy] at d1
      rw [if_neg hxy] at ho
      by_cases hyx : y < x
      · rw [decide_eq_true hyx] at d2
        rw [if_pos hyx] at ho
        subst ho
        cbv
        repeat (first | (simp only [c1]; cbv) | simp only [c1] | (simp only [c2]; cbv) | simp only [c2] | (refine ⟨hp, ?_⟩; cbv) | (refine ⟨_, ga, ?_⟩; cbv) | (refine ⟨_, gb, ?_⟩; cbv) | (simp only [d1]; cbv) | simp only [d1] | (simp only [d2]; cbv) | simp only [d2])
      · rw [decide_eq_false hyx] at d2
        rw [if_neg hyx] at ho
        have hI : OrdI a b o (E.wadd .i64 i 1) := by
          rw [hi1]
          exact ⟨by omega, Int.add_one_le_iff.mpr hia, Int.add_one_le_iff.mpr hib, by rw [show (i + 1).toNat = i.toNat + 1 by omega]; exact ho⟩
        have hM : μ (E.wadd .i64 i 1) < μ i := by
          have h5 : i.toNat < a.length := by
            have h6 : i < ((a.length : Nat) : Int) := hia
            omega
          rw [hμ, hμ, hi1, show (i + 1).toNat = i.toNat + 1 by omega]
          omega
        cbv
        repeat (first | (simp only [c1]; cbv) | simp only [c1] | (simp only [c2]; cbv) | simp only [c2] | (refine ⟨hp, ?_⟩; cbv) | (refine ⟨_, ga, ?_⟩; cbv) | (refine ⟨_, gb, ?_⟩; cbv) | (simp only [d1]; cbv) | simp only [d1] | (simp only [d2]; cbv) | simp only [d2])
        refine .mk (E.wadd .i64 i 1) ⟨rfl, rfl, rfl, rfl, rfl⟩ ?_ ?_
        · exact hI
        · exact hM
  · have hc : (decide (i < a.length) = false) ∨ (decide (i < a.length) = true ∧ decide (i < b.length) = false) := by
      by_cases h1 : i < a.length
      · exact .inr ⟨decide_eq_true h1, decide_eq_false fun h2 => hin ⟨h1, h2⟩⟩
      · exact .inl (decide_eq_false h1)
    have hres : o = if (a.length : Int) < b.length then -1 else if (b.length : Int) < a.length then 1 else 0 := by
      rw [← ho]
      by_cases h1 : i < a.length
      · have h2 : ¬ i < b.length := fun h2 => hin ⟨h1, h2⟩
        have e2 : b.drop i.toNat = [] := List.drop_eq_nil_of_le (by omega)
        obtain ⟨x, hx⟩ : ∃ x, a[i.toNat]? = some x := ⟨_, List.getElem?_eq_getElem (by omega)⟩
        rw [drop_some hx, e2, if_neg (by omega), if_pos (by omega)]; rfl
      · have e1 : a.drop i.toNat = [] := List.drop_eq_nil_of_le (by omega)
        rw [e1]
        by_cases h2 : i < b.length
        · obtain ⟨y, hy⟩ : ∃ y, b[i.toNat]? = some y := ⟨_, List.getElem?_eq_getElem (by omega)⟩
          rw [drop_some hy, if_pos (by omega)]; rfl
        · have e2 : b.drop i.toNat = [] := List.drop_eq_nil_of_le (by omega)
          rw [e2, if_neg (by omega), if_neg (by omega)]; rfl
    have go : ∀ q1 q2, decide ((a.length : Int) < b.length) = q1 → decide ((b.length : Int) < a.length) = q2 → o = (match q1, q2 with | true, _ => -1 | false, true => 1 | false, false => 0) := fun q1 q2 h1 h2 => by
      rw [hres]
      cases q1
      · have := of_decide_eq_false h1
        rw [if_neg this]
        cases q2
        · have := of_decide_eq_false h2
          rw [if_neg this]
        · have := of_decide_eq_true h2
          rw [if_pos this]
      · have := of_decide_eq_true h1
        rw [if_pos this]
    generalize h1 : decide ((a.length : Int) < b.length) = q1 at *
    generalize h2 : decide ((b.length : Int) < a.length) = q2 at *
    have go := go q1 q2 rfl rfl
    subst go
    rcases hc with hc | ⟨hc, hc'⟩
    · rw [hc] at c1
      cbv at c1
      cases q1
      · cases q2
        · cbv at f1
          cbv at f2
          cbv
          repeat (first | (simp only [c1]; cbv) | simp only [c1] | (simp only [f1]; cbv) | simp only [f1] | (simp only [f2]; cbv) | simp only [f2])
        · cbv at f1
          cbv at f2
          cbv
          repeat (first | (simp only [c1]; cbv) | simp only [c1] | (simp only [f1]; cbv) | simp only [f1] | (simp only [f2]; cbv) | simp only [f2])
      · cbv at f1
        cbv
        repeat (first | (simp only [c1]; cbv) | simp only [c1] | (simp only [f1]; cbv) | simp only [f1])
    · rw [hc] at c1
      rw [hc'] at c2
      cbv at c1
      cbv at c2
      cases q1
      · cases q2
        · cbv at f1
          cbv at f2
          cbv
          repeat (first | (simp only [c1]; cbv) | simp only [c1] | (simp only [c2]; cbv) | simp only [c2] | (simp only [f1]; cbv) | simp only [f1] | (simp only [f2]; cbv) | simp only [f2])
        · cbv at f1
          cbv at f2
          cbv
          repeat (first | (simp only [c1]; cbv) | simp only [c1] | (simp only [c2]; cbv) | simp only [c2] | (simp only [f1]; cbv) | simp only [f1] | (simp only [f2]; cbv) | simp only [f2])
      · cbv at f1
        cbv
        repeat (first | (simp only [c1]; cbv) | simp only [c1] | (simp only [c2]; cbv) | simp only [c2] | (simp only [f1]; cbv) | simp only [f1])
end Go.Proofs.YtadgpchdlkiinaaDoor
