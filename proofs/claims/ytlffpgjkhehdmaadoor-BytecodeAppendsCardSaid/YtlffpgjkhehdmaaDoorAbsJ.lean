/- Own work: a nil slice, seen as a slice of the walk's own without rows. -/
import Derived.Test.YtlffpgjkhehdmaaDoorAbsI
namespace Go.Proofs.YtlffpgjkhehdmaaDoor
open Go.RowKit

theorem LoopA.wk {body : (Exit → List AV → AH → Prop) → List AV → AH → Prop} {Q : Exit → List AV → AH → Prop} {env env1 : List AV} {H H1 : AH} (hw : Wk env H env1 H1) (h : LoopA body Q env1 H1) : LoopA body Q env H := by
  obtain ⟨I, N, ⟨k, e2, H2, hw2, hI⟩, hN, hr⟩ := h
  exact .mk I N ⟨k, e2, H2, hw.trans hw2, hI⟩ hN hr
/-- the nil slice in cell j of box k -/
theorem wk_nil {env : List AV} {H : AH} {k j : Nat} {cs : List AV} {t : TypeId} {g : Option Nat} (s : Nat) (ty : TypeId) (hk : H[k]? = some (some (.box cs t g))) (hj : cs[j]? = some (.p (.v (.slice none 0 0)))) :
    Wk env H env ((H ++ [some (ABlk.rows s [] ty)]).set k (some (.box (cs.set j (.osl H.length 0 0)) t g))) := by
  intro w0 B w ι tmps _ hR hE
  obtain ⟨hg, hkp⟩ := hR.ghost s ty
  have hkl := (List.getElem?_eq_some_iff.1 hk).1
  have hk' : (H ++ [some (ABlk.rows s [] ty)])[k]? = some (some (.box cs t g)) := by rw [List.getElem?_append_left hkl]; exact hk
  obtain ⟨⟨c, sh⟩, hi⟩ : ∃ x, (ι ++ [(none, s, 0)])[k]? = some x := ⟨_, List.getElem?_eq_getElem (by simp [hR.len]; omega)⟩
  obtain ⟨_, hs, c', arr, ec, hcell, hlen, hcs⟩ := hg.blk k _ c sh hk' hi
  subst ec
  have hu := hg.upd hk' hi (b' := .box (cs.set j (.osl H.length 0 0)) t g) (w' := w) rfl rfl rfl rfl (fun _ _ => rfl) (fun R' hq => ⟨hs, c', arr, rfl, hcell, by simp [hlen], fun m a ha => by
    rw [List.getElem?_set] at ha
    split at ha
    · rename_i e
      subst e
      split at ha
      · cases ha
        obtain ⟨v, hv, h1, hr⟩ := hcs j _ hj
        refine ⟨v, hv, h1, ?_⟩
        have := rep_v hr
        subst this
        exact .osl0 _ _
      · cases ha
    · obtain ⟨v, hv, h1, hr⟩ := hcs m a ha
      exact ⟨v, hv, h1, hr.keep0 hq⟩⟩)
  exact ⟨_, hu.1, hE.len, fun q x v hx hv => ((hE.at_ q x v hx hv).keep0 hkp).keep0 hu.2⟩
/-- the nil slice in slot d -/
theorem wk_nilS {env : List AV} {H : AH} {d : Nat} (s : Nat) (ty : TypeId) (hd : env[d]? = some (.p (.v (.slice none 0 0)))) : Wk env H (env.set d (.osl H.length 0 0)) (H ++ [some (ABlk.rows s [] ty)]) := by
  intro w0 B w ι tmps _ hR hE
  obtain ⟨hg, hkp⟩ := hR.ghost s ty
  refine ⟨_, hg, by simp [hE.len], fun q x v hx hv => ?_⟩
  rw [List.getElem?_set] at hx
  split at hx
  · rename_i e
    subst e
    split at hx
    · cases hx
      have := rep_v (hE.at_ d _ v hd hv)
      subst this
      exact .osl0 _ _
    · cases hx
  · exact (hE.at_ q x v hx hv).keep0 hkp
/-- the own slice in cell j of box k is written no more: it becomes data -/
theorem wk_frz {env : List AV} {H : AH} {k j l n : Nat} {cs : List AV} {t : TypeId} {g : Option Nat} {s : Nat} {rs : List (List PV)} {ty : TypeId} (hk : H[k]? = some (some (.box cs t g))) (hj : cs[j]? = some (.osl l 0 n)) (hl : H[l]? = some (some (.rows s rs ty))) (hn : n ≤ rs.length) :
    Wk env H (env.map (AV.scrub (one l))) (((H.map (scrubBlk (one l))).set l none).set k (some (.box ((cs.map (AV.scrub (one l))).set j (.p (.ro s (rs.take n)))) t g))) := by
  intro w0 B w ι tmps hB hR hE
  have hne : l ≠ k := by
    intro e; subst e; rw [hk] at hl; cases hl
  have hkl := (List.getElem?_eq_some_iff.1 hk).1
  have hll := (List.getElem?_eq_some_iff.1 hl).1
  obtain ⟨H', hH'⟩ : ∃ x, ((H.map (scrubBlk (one l))).set l none).set k (some (.box ((cs.map (AV.scrub (one l))).set j (.p (.ro s (rs.take n)))) t g)) = x := ⟨_, rfl⟩
  have hK : H'[k]? = some (some (.box ((cs.map (AV.scrub (one l))).set j (.p (.ro s (rs.take n)))) t g)) := by rw [← hH', List.getElem?_set_self (by simp; exact hkl)]
  have hL : H'[l]? = some none := by rw [← hH', List.getElem?_set_ne (Ne.symm hne), List.getElem?_set_self (by simp; exact hll)]
  have hO : ∀ i, i ≠ k → i ≠ l → H'[i]? = (H.map (scrubBlk (one l)))[i]? := fun i h1 h2 => by rw [← hH', List.getElem?_set_ne (Ne.symm h1), List.getElem?_set_ne (Ne.symm h2)]
  have hback : ∀ i b, H'[i]? = some (some b) → i ≠ l ∧ ∃ b0, H[i]? = some (some b0) := by
    intro i b hi
    refine ⟨(fun e => by subst e; rw [hL] at hi; cases hi), ?_⟩
    by_cases e : i = k
    · subst e; exact ⟨_, hk⟩
    · have e2 : i ≠ l := fun e => by subst e; rw [hL] at hi; cases hi
      rw [hO i e e2] at hi
      obtain ⟨b0, h0, _⟩ := scrub_get hi
      exact ⟨b0, h0⟩
  have hown : ∀ d, Owned ι H' d → Owned ι H d := by
    rintro d ⟨i, b, s', h1, h2⟩
    obtain ⟨_, b0, h0⟩ := hback i b h1
    exact ⟨i, b0, s', h0, h2⟩
  have hkp : Keeps (some (one l)) w ι (Rd B ι H) w ι (Rd B ι H') := ⟨Nat.le_refl _, fun b hb _ => ⟨⟨hb.1, fun ho => hb.2 (hown b ho)⟩, rfl⟩, fun _ _ _ _ h => h⟩
  have hro : ∀ v, Rep w ι (Rd B ι H) (.osl l 0 n) v → RepP w (Rd B ι H') (.ro s (rs.take n)) v := by
    intro v hv
    cases hv with
    | osl0 => exact .ro0 _ _ _
    | osl _ _ _ c cap sz hi hn' hm hz =>
      obtain ⟨es, hrl, hh⟩ := (hR.blk l _ _ sz hl hi).2
      have hge := (hR.blk l _ _ sz hl hi).1 c rfl
      rcases hh with ⟨ec, _⟩ | ⟨c', arr, ec, hb, hz0, hcs⟩
      · cases ec
      cases ec
      have hno : ¬ Owned ι H' c := by
        rintro ⟨i, b, s', h1, h2⟩
        obtain ⟨e, b0, h0⟩ := hback i b h1
        exact e (hR.inj i l b0 _ c s' sz h0 hl h2 hi)
      have hlen : (rs.take n).length = n := by rw [List.length_take]; omega
      have hget : ∀ (q : Nat) (row : List PV), (rs.take n)[q]? = some row → rs[q]? = some row := fun q row hr => by
        have := (List.getElem?_eq_some_iff.1 hr).1
        rw [List.length_take] at this
        rwa [List.getElem?_take_of_lt (by omega)] at hr
      have hcell : ∀ (q j : Nat) (row : List PV) (a : PV), (rs.take n)[q]? = some row → row[j]? = some a → ∃ u, (arr[q * sz.1 + j]?).getD undef = u ∧ w.cell? ⟨c, 0 + (q * s + j), none⟩ = some u ∧ u.oneCell' = true ∧ RepP w (Rd B ι H') a u := by
        intro q j row a hr ha
        obtain ⟨u, hu, h1, hru⟩ := hcs _ j row a (hget q row hr) ha
        exact ⟨u, by rw [hu]; rfl, by rw [aget hb, es, Nat.zero_add]; exact hu, h1, hru.keep hkp.size hkp.read⟩
      have := RepP.ro (w := w) (R := Rd B ι H') s (rs.take n) c 0 cap (fun q j => (arr[q * sz.1 + j]?).getD undef) ⟨hB c hge, hno⟩ (lt_of_heap hb) (by omega) (fun q row hr => by rw [es]; exact hrl _ row (hget q row hr))
        (fun q j row a hr ha => by obtain ⟨u, e1, e2, e3, _⟩ := hcell q j row a hr ha; rw [e1]; exact ⟨e2, e3⟩) (fun q j row a hr ha => by obtain ⟨u, e1, _, _, e4⟩ := hcell q j row a hr ha; rw [e1]; exact e4)
      rw [hlen] at this
      simpa using this
  rw [hH']
  refine ⟨ι, ⟨hR.gr, hR.fut, by rw [← hH']; simp [hR.len], fun i b c1 s1 h1 h2 => ?_, fun i i' b b' c1 s1 s2 h1 h2 h3 h4 => ?_⟩, by simp [hE.len], fun q y u hy hu => ?_⟩
  · by_cases e : i = k
    · subst e
      rw [hK] at h1
      cases h1
      obtain ⟨hg, hs, c', arr, ec, hcell, hlen, hcs⟩ := hR.blk i _ c1 s1 hk h2
      refine ⟨hg, hs, c', arr, ec, hcell, by simp [hlen], fun m a ha => ?_⟩
      rw [List.getElem?_set] at ha
      split at ha
      · rename_i e
        subst e
        split at ha
        · cases ha
          obtain ⟨v, hv, h1, hr⟩ := hcs j _ hj
          exact ⟨v, hv, h1, .p _ _ (hro v hr)⟩
        · cases ha
      · rw [List.getElem?_map] at ha
        cases hm : cs[m]? with
        | none => rw [hm] at ha; cases ha
        | some y =>
          rw [hm] at ha; cases ha
          obtain ⟨v, hv, h1, hr⟩ := hcs m y hm
          exact ⟨v, hv, h1, hr.keep hkp⟩
    · have e2 := (hback i b h1).1
      rw [hO i e e2] at h1
      obtain ⟨b0, h0, rfl⟩ := scrub_get h1
      exact ⟨(hR.blk i b0 c1 s1 h0 h2).1, (hR.blk i b0 c1 s1 h0 h2).2.keep hkp fun c' e => rfl⟩
  · obtain ⟨_, b0, h0⟩ := hback i b h1
    obtain ⟨_, b1, h5⟩ := hback i' b' h2
    exact hR.inj i i' b0 b1 c1 s1 s2 h0 h5 h3 h4
  · rw [List.getElem?_map] at hy
    cases hq : env[q]? with
    | none => rw [hq] at hy; cases hy
    | some z => rw [hq] at hy; cases hy; exact (hE.at_ q z u hq hu).keep hkp
end Go.Proofs.YtlffpgjkhehdmaaDoor
