/- Own work: append onto a row of the walk's own; slice literals; ranging over a string. -/
import Derived.Test.YtlffpgjkhehdmaaDoorAbsW
namespace Go.Proofs.YtlffpgjkhehdmaaDoor
open Go.RowKit

def scrubBlk (p : Nat → Bool) : Option ABlk → Option ABlk
  | some (.box cs t g) => some (.box (cs.map (AV.scrub p)) t g)
  | b => b
theorem scrub_get {H : AH} {p : Nat → Bool} {l : Nat} {b : ABlk} (h : (H.map (scrubBlk p))[l]? = some (some b)) : ∃ b0, H[l]? = some (some b0) ∧ b = scrubA (some p) b0 := by
  rw [List.getElem?_map] at h
  cases hl : H[l]? with
  | none => rw [hl] at h; cases h
  | some ob =>
    rw [hl] at h
    cases ob with
    | none => cases h
    | some b0 =>
      refine ⟨b0, rfl, ?_⟩
      simp only [Option.map_some, Option.some.injEq] at h
      cases b0 <;> simp [scrubBlk] at h <;> exact h.symm
theorem scrub_get' {H : AH} {p : Nat → Bool} {l : Nat} {b0 : ABlk} (h : H[l]? = some (some b0)) : ∃ b, (H.map (scrubBlk p))[l]? = some (some b) := by
  rw [List.getElem?_map, h]
  cases b0 <;> exact ⟨_, rfl⟩

/-- a block is given up for another one -/
theorem Rel.move {w0 : Base} {B : Nat → Prop} {w : World} {ι : Pl} {H : AH} (h : Rel w0 B w ι H) {k : Nat} {c c' : Option Nat} {s s' : Nat × Nat} {b b' : ABlk} (hk : H[k]? = some (some b)) (hi : ι[k]? = some (c, s)) {w' : World}
    (hg : w.grownBy w' c) (hc' : c' = none ∨ c' = c ∨ c' = some w.heap.size)
    (hb : ∀ ι' R', Keeps (some (one k)) w ι (Rd B ι H) w' ι' R' → BlkAt w' ι' R' c' s' b') :
    Rel w0 B w' (ι.set k (c', s')) ((H.map (scrubBlk (one k))).set k (some b')) ∧ Keeps (some (one k)) w ι (Rd B ι H) w' (ι.set k (c', s')) (Rd B (ι.set k (c', s')) ((H.map (scrubBlk (one k))).set k (some b'))) := by
  have hkl : k < H.length := (List.getElem?_eq_some_iff.1 hk).1
  have hil : k < ι.length := (List.getElem?_eq_some_iff.1 hi).1
  have hget : ∀ (l : Nat) (x : ABlk), ((H.map (scrubBlk (one k))).set k (some b'))[l]? = some (some x) → (l = k ∧ x = b') ∨ (l ≠ k ∧ ∃ x0, H[l]? = some (some x0) ∧ x = scrubA (some (one k)) x0) := by
    intro l x hx
    rw [List.getElem?_set] at hx
    split at hx
    · rename_i e
      subst e
      simp [hkl] at hx
      exact .inl ⟨rfl, hx.symm⟩
    · rename_i e
      exact .inr ⟨fun e' => e e'.symm, scrub_get hx⟩
  have hplace : ∀ (l : Nat), l ≠ k → (ι.set k (c', s'))[l]? = ι[l]? := fun l hl => by rw [List.getElem?_set, if_neg (Ne.symm hl)]
  have hplk : (ι.set k (c', s'))[k]? = some (c', s') := by rw [List.getElem?_set]; simp [hil]
  have hown : ∀ d, Owned (ι.set k (c', s')) ((H.map (scrubBlk (one k))).set k (some b')) d → Owned ι H d ∨ d = w.heap.size := by
    rintro d ⟨l, x, s1, h1, h2⟩
    rcases hget l x h1 with ⟨rfl, rfl⟩ | ⟨hne, x0, h3, _⟩
    · rw [hplk] at h2
      rcases hc' with e | e | e
      · rw [e] at h2; cases h2
      · rw [e] at h2
        refine .inl ⟨l, b, s, hk, ?_⟩
        cases h2
        exact hi
      · rw [e] at h2; cases h2; exact .inr rfl
    · rw [hplace l hne] at h2
      exact .inl ⟨l, x0, s1, h3, h2⟩
  have hrow : ∀ d, some d = c → Owned ι H d := fun d e => ⟨k, b, s, hk, by rw [hi, ← e]⟩
  have hkp : Keeps (some (one k)) w ι (Rd B ι H) w' (ι.set k (c', s')) (Rd B (ι.set k (c', s')) ((H.map (scrubBlk (one k))).set k (some b'))) :=
    ⟨hg.size, fun d hd hlt => ⟨⟨hd.1, fun ho => by
      rcases hown d ho with ho | ho
      · exact hd.2 ho
      · omega⟩, hg.block d hlt fun e => hd.2 (hrow d e)⟩, fun l x s2 hl hx => by
      rw [hplace l fun e => by have := hl _ rfl; rw [e, one_self] at this; cases this]; exact hx⟩
  refine ⟨⟨⟨hg.os.trans h.gr.os, hg.tape.trans h.gr.tape, hg.output.trans h.gr.output, Nat.le_trans h.size hg.size, fun d hd hx => ?_⟩, fun b hb => h.fut b (Nat.le_trans hg.size hb), by simp [h.len], fun l x d s1 h1 h2 => ?_, fun l m x y d s1 s2 h1 h2 h3 h4 => ?_⟩, hkp⟩
  · rw [hg.block d (by have := h.size; omega) fun e => by rcases h.ge (hrow d e) with h1 | h1 <;> first | exact hx h1 | omega]
    exact h.gr.block d hd hx
  · rcases hget l x h1 with ⟨rfl, rfl⟩ | ⟨hne, x0, h3, hx⟩
    · rw [hplk] at h2
      cases h2
      refine ⟨fun d e => ?_, hb _ _ hkp⟩
      rcases hc' with e' | e' | e'
      · rw [e'] at e; cases e
      · exact h.ge (hrow d (by rw [← e', e]))
      · rw [e'] at e; cases e; exact .inr h.size
    · rw [hplace l hne] at h2
      refine ⟨(h.blk l x0 d s1 h3 h2).1, ?_⟩
      rw [hx]
      refine (h.blk l x0 d s1 h3 h2).2.keep hkp fun d' e => ?_
      subst e
      refine hg.block d' (h.lt ⟨l, x0, s1, h3, h2⟩) fun e => ?_
      exact hne (h.inj l k x0 b d' s1 s h3 hk h2 (by rw [hi, ← e]))
  · rcases hget l x h1 with ⟨rfl, rfl⟩ | ⟨hne, x0, g1, _⟩
    · rcases hget m y h2 with ⟨rfl, rfl⟩ | ⟨hne', y0, g2, _⟩
      · rfl
      · rw [hplk] at h3
        rw [hplace m hne'] at h4
        have hm := h.lt ⟨m, y0, s2, g2, h4⟩
        rcases hc' with e | e | e
        · rw [e] at h3; cases h3
        · rw [e] at h3
          cases h3
          exact h.inj l m b y0 d s s2 hk g2 hi h4
        · rw [e] at h3
          cases h3
          omega
    · rw [hplace l hne] at h3
      have hm := h.lt ⟨l, x0, s1, g1, h3⟩
      rcases hget m y h2 with ⟨rfl, rfl⟩ | ⟨hne', y0, g2, _⟩
      · rw [hplk] at h4
        rcases hc' with e | e | e
        · rw [e] at h4; cases h4
        · rw [e] at h4
          cases h4
          exact h.inj l m x0 b d s1 s g1 hk h3 hi
        · rw [e] at h4
          cases h4
          omega
      · rw [hplace m hne'] at h4
        exact h.inj l m x0 y0 d s1 s2 g1 g2 h3 h4

/-- the cells of rows, as they lie -/
theorem rows_flat {rows : List (List PV)} {s : Nat} (hs : ∀ (i : Nat) (row : List PV), rows[i]? = some row → row.length = s) {q : Nat} (hq : q < rows.length * s) :
    ∃ row a, rows[q / s]? = some row ∧ row[q % s]? = some a ∧ q / s * s + q % s = q := by
  have hs0 : 0 < s := by
    rcases Nat.eq_zero_or_pos s with h | h
    · subst h; simp at hq
    · exact h
  have h1 : q / s < rows.length := (Nat.div_lt_iff_lt_mul hs0).2 hq
  have h2 : q % s < s := Nat.mod_lt _ hs0
  have hr : rows[q / s]? = some rows[q / s] := List.getElem?_eq_getElem h1
  have hl := hs _ _ hr
  exact ⟨_, _, hr, List.getElem?_eq_getElem (by omega), by rw [Nat.mul_comm]; exact Nat.div_add_mod q s⟩

section
variable {P : Program} {G : World → Prop} {T : TT}
/-- a source of an append: m elements of s cells whose cells are the rows -/
structure SrcAt (w : World) (R : Nat → Prop) (s : Nat) (rows : List (List PV)) (v : Value) : Prop where
  len : ∀ (i : Nat) (row : List PV), rows[i]? = some row → row.length = s
  at_ : (∃ A cap, v = .slice A 0 cap ∧ rows = []) ∨ ∃ (b o cap : Nat) (vs : Nat → Nat → Value), v = .slice (some ⟨b, o, none⟩) rows.length cap ∧
    (∀ (i j : Nat) (row : List PV) (a : PV), rows[i]? = some row → row[j]? = some a → w.cell? ⟨b, o + (i * s + j), none⟩ = some (vs i j) ∧ (vs i j).oneCell' = true ∧ RepP w R a (vs i j))
theorem src_ro {w : World} {R : Nat → Prop} {s : Nat} {rows : List (List PV)} {v : Value} (h : RepP w R (.ro s rows) v) : SrcAt w R s rows v := by
  cases h with
  | ro0 s A cap => exact ⟨fun i row h => by simp at h, .inl ⟨A, cap, rfl, rfl⟩⟩
  | ro s rows b o cap vs hR hb hcap hs hc hr => exact ⟨hs, .inr ⟨b, o, cap, vs, rfl, fun i j row a h1 h2 => ⟨(hc i j row a h1 h2).1, (hc i j row a h1 h2).2, hr i j row a h1 h2⟩⟩⟩

theorem run_append_zero (hT : TOk P T) {t ty e : TypeId} {ti te : TI} (ht : T t = some ti) (hd : ti.desc = .slice e) (he : T e = some te)
    {A A' : Option Addr} {n cap cap' : Nat} (hn : n ≤ cap) (w : World) : (Builtin.append_ #[t, t] ty #[.slice A n cap, .slice A' 0 cap']).run P w = .ok (.slice A n cap) w := by
  cases A' <;> cases A <;> simp [Builtin.append_, t_und hT ht, hd, t_size hT he, Builtin.lenOf, Builtin.firstCells, loadCells, loadCellsFrom, storeCells, hn]

theorem aappend_core (hT : TOk P T) {t e ty : TypeId} {ti te : TI} (ht : T t = some ti) (hd : ti.desc = .slice e) (he : T e = some te)
    (hz : te.zero.cells.size = te.size) (hs0 : 0 < te.size) {H : AH} {k n : Nat} {rs : List (List PV)} (hk : H[k]? = some (some (.rows te.size rs e))) (hn : n ≤ rs.length)
    {rows : List (List PV)} (h63 : n + rows.length ≤ maxLen) (hby : (n + rows.length) * te.bytes ≤ 140737488355328)
    {w0 : Base} {B : Nat → Prop} {w : World} {ι : Pl} (hR : Rel w0 B w ι H) {vx vy : Value} (hx : Rep w ι (Rd B ι H) (.osl k 0 n) vx) (hyv : SrcAt w (Rd B ι H) te.size rows vy) :
    ∃ v' w' ι', (Builtin.append_ #[t, t] ty #[vx, vy]).run P w = .ok v' w' ∧ Rel w0 B w' ι' ((H.map (scrubBlk (one k))).set k (some (.rows te.size (rs.take n ++ rows) e))) ∧
      Keeps (some (one k)) w ι (Rd B ι H) w' ι' (Rd B ι' ((H.map (scrubBlk (one k))).set k (some (.rows te.size (rs.take n ++ rows) e)))) ∧
      Rep w' ι' (Rd B ι' ((H.map (scrubBlk (one k))).set k (some (.rows te.size (rs.take n ++ rows) e)))) (.osl k 0 (n + rows.length)) v' := by
  -- where block k lies
  obtain ⟨⟨cc, sz⟩, hi⟩ : ∃ p, ι[k]? = some p := by
    have hl := (List.getElem?_eq_some_iff.1 hk).1
    exact ⟨_, List.getElem?_eq_getElem (by rw [hR.len]; exact hl)⟩
  obtain ⟨hge, hblk⟩ := hR.blk k _ cc sz hk hi
  obtain ⟨es, hrl, hcells⟩ := hblk
  have htk : ∀ (i : Nat) (row : List PV), (rs.take n)[i]? = some row → rs[i]? = some row ∧ i < n := fun i row h => by
    rw [List.getElem?_take] at h
    split at h
    · rename_i h'; exact ⟨h, h'⟩
    · cases h
  have htl : (rs.take n).length = n := by rw [List.length_take]; omega
  obtain ⟨info, hinfo, hiz, his, hib⟩ := info_parts (hT e te he).1.2
  have hund : P.underlying t = some (.slice e) := by rw [(hT t ti ht).1.1, hd]
  rcases hyv.at_ with ⟨A, cap, rfl, rfl⟩ | ⟨b, off, cap, vs, rfl, hvs⟩
  · -- nothing is appended
    simp only [List.length_nil, Nat.add_zero, List.append_nil] at h63 hby ⊢
    have hcase : ∃ A0 cap0, vx = .slice A0 n cap0 ∧ n ≤ cap0 ∧ ((A0 = none ∧ n = 0 ∧ cap0 = 0) ∨ ∃ c0, cc = some c0 ∧ A0 = some ⟨c0, 0, none⟩ ∧ cap0 ≤ maxLen ∧ sz.2 = (0 + cap0) * sz.1) := by
      cases hx with
      | osl0 => exact ⟨none, 0, rfl, Nat.le_refl _, .inl ⟨rfl, rfl, rfl⟩⟩
      | osl _ _ _ c0 cap0 s hi' hn' hm hz' =>
        rw [hi] at hi'; cases hi'
        exact ⟨some ⟨c0, 0 * sz.1, none⟩, cap0, rfl, hn', .inr ⟨c0, rfl, by simp, hm, hz'⟩⟩
    obtain ⟨A0, cap0, rfl, hn0, hA⟩ := hcase
    have hrz := run_append_zero (P := P) (ty := ty) (A := A0) (A' := A) (cap' := cap) hT ht hd he hn0 w
    have hgb : w.grownBy w cc := ⟨rfl, rfl, rfl, Nat.le_refl _, fun _ _ _ => rfl⟩
    have hmv := hR.move (b' := .rows te.size (rs.take n) e) (s' := sz) (c' := cc) hk hi hgb (.inr (.inl rfl)) (fun ι' R' hkp => by
      refine ⟨es, fun i row hrow => hrl i row (htk i row hrow).1, ?_⟩
      rcases hcells with ⟨e1, e2⟩ | ⟨c0, arr, e1, hb, hz0, hcs⟩
      · refine .inl ⟨e1, ?_⟩
        rw [e2]; simp
      · refine .inr ⟨c0, arr, e1, hb, hz0, fun i j row a h1 h2 => ?_⟩
        obtain ⟨v, hv, h1', hr⟩ := hcs i j row a (htk i row h1).1 h2
        exact ⟨v, hv, h1', hr.keep hkp.size hkp.read⟩)
    refine ⟨_, _, _, hrz, hmv.1, hmv.2, ?_⟩
    have hplk : (ι.set k (cc, sz))[k]? = some (cc, sz) := by
      have hil : k < ι.length := (List.getElem?_eq_some_iff.1 hi).1
      rw [List.getElem?_set]; simp [hil]
    rcases hA with ⟨rfl, rfl, rfl⟩ | ⟨c0, rfl, rfl, hm, hz'⟩
    · exact .osl0 k 0
    · have := Rep.osl (w := w) (ι := ι.set k (some c0, sz)) (R := Rd B (ι.set k (some c0, sz)) ((H.map (scrubBlk (one k))).set k (some (.rows te.size (rs.take n) e)))) k 0 n c0 cap0 sz hplk hn0 hm hz'
      simpa using this
  · -- the cells that are appended
    have hnews : ∀ q, q < rows.length * te.size → ∃ row a, rows[q / te.size]? = some row ∧ row[q % te.size]? = some a ∧ q / te.size * te.size + q % te.size = q := fun q hq => rows_flat hyv.len hq
    have hlen : ((List.range (rows.length * te.size)).map fun q => vs (q / te.size) (q % te.size)).length = rows.length * te.size := by simp
    have hcell : ∀ j u, ((List.range (rows.length * te.size)).map fun q => vs (q / te.size) (q % te.size))[j]? = some u → w.cell? ((⟨b, off, none⟩ : Addr).add j) = some u := by
      intro j u hj
      have hjl : j < rows.length * te.size := by
        have := (List.getElem?_eq_some_iff.1 hj).1
        simpa using this
      rw [List.getElem?_map, List.getElem?_range hjl] at hj
      cases hj
      obtain ⟨row, a, h1, h2, h3⟩ := hnews j hjl
      rw [Addr.add_lit]
      have := (hvs _ _ row a h1 h2).1
      rw [h3] at this; exact this
    have hone : ∀ u ∈ (List.range (rows.length * te.size)).map (fun q => vs (q / te.size) (q % te.size)), u.oneCell' = true := by
      intro u hu
      obtain ⟨q, hq, rfl⟩ := List.mem_map.1 hu
      obtain ⟨row, a, h1, h2, _⟩ := hnews q (List.mem_range.1 hq)
      exact (hvs _ _ row a h1 h2).2.1
    -- the row that is appended to
    have hownx : ∃ xs : List Value, w.ownsRow 0 e te.size vx n xs ∧ (vx.ownBlock = none ∨ vx.ownBlock = cc) ∧
        ∀ (i j : Nat) (row : List PV) (a : PV), (rs.take n)[i]? = some row → row[j]? = some a → ∃ v, xs[i * te.size + j]? = some v ∧ v.oneCell' = true ∧ RepP w (Rd B ι H) a v := by
      cases hx with
      | osl0 =>
        refine ⟨[], World.ownsRow_nil w _ _ _, .inl rfl, fun i j row a h1 _ => ?_⟩
        simp at h1
      | osl _ _ _ c0 cap0 s hi' hn' hm hz' =>
        rw [hi] at hi'; cases hi'
        rcases hcells with ⟨e1, _⟩ | ⟨c1, arr, e1, hb, hz0, hcs⟩
        · cases e1
        cases e1
        refine ⟨arr.toList.take (n * te.size), ⟨?_, .inr ⟨c0, cap0, arr, by simp, Nat.zero_le _, hb, hn', hm, ?_, rfl⟩⟩, ?_, fun i j row a h1 h2 => ?_⟩
        · rw [List.length_take, Array.length_toList, hz0, hz', ← es, Nat.zero_add]
          have : n * te.size ≤ cap0 * te.size := Nat.mul_le_mul_right _ hn'
          omega
        · rw [hz0, hz', ← es, Nat.zero_add]
        · exact .inr rfl
        · obtain ⟨h1', hlt⟩ := htk i row h1
          obtain ⟨v, hv, h3, hr⟩ := hcs i j row a h1' h2
          refine ⟨v, ?_, h3, hr⟩
          have hjl : j < te.size := by
            have := (List.getElem?_eq_some_iff.1 h2).1
            have := hrl i row h1'
            omega
          have hlt2 : i * te.size + j < n * te.size := by
            have : (i + 1) * te.size ≤ n * te.size := Nat.mul_le_mul_right _ hlt
            rw [Nat.succ_mul] at this
            omega
          rw [List.getElem?_take, if_pos hlt2]
          rw [← es] at hv
          simpa using hv
    obtain ⟨xs, hown, hob, hxs⟩ := hownx
    obtain ⟨v', w', hrun, hown', hgrow, hnil, hat⟩ := run_append_own_at (P := P) w 0 t ty e info te.zero te.size te.bytes hund hinfo hiz his hib hz hs0 vx n xs hown ⟨b, off, none⟩ rows.length cap _ hlen hcell hone h63 hby (Nat.zero_le _)
    -- the memory behind it, seen from the place of block k
    have hgb : w.grownBy w' cc := by
      rcases hob with hob | hob
      · exact ⟨hgrow.os, hgrow.tape, hgrow.output, hgrow.size, fun d hd _ => hgrow.block d hd (by rw [hob]; simp)⟩
      · rw [hob] at hgrow; exact hgrow
    have hxl : xs.length = n * te.size := hown.1
    rcases hown'.2 with ⟨rfl, hn0⟩ | ⟨g, cap', cur, rfl, hbg, hg, hnc, hcm, hcs, htake⟩
    · -- nil
      have hr0 : rows.length = 0 := by omega
      have hr1 : rows = [] := List.eq_nil_of_length_eq_zero hr0
      have hn1 : n = 0 := by omega
      subst hr1
      subst hn1
      have hmv := hR.move (b' := .rows te.size (rs.take 0 ++ []) e) (s' := sz) (c' := none) hk hi hgb (.inl rfl) (fun ι' R' hkp => by
        refine ⟨es, fun i row hrow => by simp at hrow, .inl ⟨rfl, by simp⟩⟩)
      exact ⟨_, _, _, hrun, hmv.1, hmv.2, .osl0 k 0⟩
    · have hc' : some g = none ∨ some g = cc ∨ some g = some w.heap.size := by
        rcases hat with h1 | h1
        · change some g = vx.ownBlock at h1
          rcases hob with hob | hob
          · rw [hob] at h1; cases h1
          · rw [hob] at h1; exact .inr (.inl h1)
        · exact .inr (.inr h1)
      have hmv := hR.move (b' := .rows te.size (rs.take n ++ rows) e) (s' := (te.size, cap' * te.size)) (c' := some g) hk hi hgb hc' (fun ι' R' hkp => by
        refine ⟨rfl, fun i row hrow => ?_, .inr ⟨g, cur, rfl, hg, hcs, fun i j row a h1 h2 => ?_⟩⟩
        · rcases Nat.lt_or_ge i n with hlt | hge'
          · rw [List.getElem?_append_left (by omega)] at hrow
            have := hrl i row (htk i row hrow).1
            rw [es]; exact this
          · rw [List.getElem?_append_right (by omega), htl] at hrow
            exact hyv.len _ row hrow
        · have hlook : ∀ q, q < (n + rows.length) * te.size → cur[q]? = (xs ++ (List.range (rows.length * te.size)).map fun q => vs (q / te.size) (q % te.size))[q]? := by
            intro q hq
            rw [← htake, List.getElem?_take, if_pos hq]; simp
          rcases Nat.lt_or_ge i n with hlt | hge'
          · rw [List.getElem?_append_left (by omega)] at h1
            have hrl' := hrl i row (htk i row h1).1
            have hjl : j < te.size := by
              have := (List.getElem?_eq_some_iff.1 h2).1
              rw [es]; omega
            obtain ⟨v, hv, h3, hr⟩ := hxs i j row a h1 h2
            have hq : i * te.size + j < n * te.size := by
              have : (i + 1) * te.size ≤ n * te.size := Nat.mul_le_mul_right _ hlt
              rw [Nat.succ_mul] at this
              omega
            refine ⟨v, ?_, h3, hr.keep hkp.size hkp.read⟩
            show cur[i * te.size + j]? = some v
            rw [hlook _ (by rw [Nat.add_mul]; omega), List.getElem?_append_left (by rw [hxl]; exact hq)]
            exact hv
          · rw [List.getElem?_append_right (by omega), htl] at h1
            have hrl' := hyv.len _ row h1
            have hjl : j < te.size := by
              have := (List.getElem?_eq_some_iff.1 h2).1
              omega
            have hil2 : i - n < rows.length := (List.getElem?_eq_some_iff.1 h1).1
            obtain ⟨_, h3, h4⟩ := hvs _ j row a h1 h2
            have hq : (i - n) * te.size + j < rows.length * te.size := by
              have : (i - n + 1) * te.size ≤ rows.length * te.size := Nat.mul_le_mul_right _ hil2
              rw [Nat.succ_mul] at this
              omega
            have hie : i * te.size = n * te.size + (i - n) * te.size := by
              rw [← Nat.add_mul]; congr 1; omega
            refine ⟨vs (i - n) j, ?_, h3, h4.keep hkp.size hkp.read⟩
            show cur[i * te.size + j]? = some _
            rw [hlook _ (by rw [Nat.add_mul]; omega), List.getElem?_append_right (by rw [hxl]; omega), hxl]
            rw [show i * te.size + j - n * te.size = (i - n) * te.size + j by omega]
            rw [List.getElem?_map, List.getElem?_range hq]
            have hd1 : ((i - n) * te.size + j) / te.size = i - n := by
              rw [Nat.mul_comm, Nat.mul_add_div hs0, Nat.div_eq_of_lt hjl]; rfl
            have hd2 : ((i - n) * te.size + j) % te.size = j := by
              rw [Nat.mul_comm, Nat.mul_add_mod]; exact Nat.mod_eq_of_lt hjl
            simp [hd1, hd2])
      refine ⟨_, _, _, hrun, hmv.1, hmv.2, ?_⟩
      have hil : k < ι.length := (List.getElem?_eq_some_iff.1 hi).1
      have := Rep.osl (w := w') (ι := ι.set k (some g, te.size, cap' * te.size)) (R := Rd B (ι.set k (some g, te.size, cap' * te.size)) ((H.map (scrubBlk (one k))).set k (some (.rows te.size (rs.take n ++ rows) e)))) k 0 (n + rows.length) g cap' (te.size, cap' * te.size) (by rw [List.getElem?_set]; simp [hil]) hnc hcm (by simp)
      simpa using this

theorem run_append_op {o : Oper} {c : Call} {x y : Operand} (ho : o.op = .call c) (hc : c.callee = .builtin .append) (ha : c.args.toList = [x, y]) {t : TypeId} (hat : c.argTypes.toList = [t, t]) {ρ : Operand → Value} {w w' : World} {v : Value}
    (hr : (Builtin.append_ #[t, t] o.type #[ρ x, ρ y]).run P w = .ok v w') : (execOp ρ o).run P w = .ok (.value v) w' := by
  have hargs : c.args = #[x, y] := Array.toList_inj.1 (by simpa using ha)
  have hat' : c.argTypes = #[t, t] := Array.toList_inj.1 (by simpa using hat)
  simp only [execOp, ho, resolve, hc, Sem.run_bind, Sem.run_pure, Result.andThen_ok, invoke, builtin, hargs, hat']
  simp [hr]
theorem mem_append_ops {o : Oper} {c : Call} {x y : Operand} (ho : o.op = .call c) (hc : c.callee = .builtin .append) (ha : c.args.toList = [x, y]) : x ∈ o.op.operands ∧ y ∈ o.op.operands := by
  have hargs : c.args = #[x, y] := Array.toList_inj.1 (by simpa using ha)
  rw [ho]; simp [Op.operands, Call.operands, hc, hargs]

theorem aappend_sound (hT : TOk P T) {o : Oper} {c : Call} {x y : Operand} (ho : o.op = .call c) (hc : c.callee = .builtin .append) (ha : c.args.toList = [x, y]) {t e : TypeId} (hat : c.argTypes.toList = [t, t]) {ti te : TI} (ht : T t = some ti) (hd : ti.desc = .slice e) (he : T e = some te)
    (hz : te.zero.cells.size = te.size) (hs0 : 0 < te.size) {env : List AV} {H : AH} {k n : Nat} {rs : List (List PV)} (ex : aev env x = .osl k 0 n) (hk : H[k]? = some (some (.rows te.size rs e))) (hn : n ≤ rs.length)
    {rows : List (List PV)} (hy : ∀ (w0 : Base) (B : Nat → Prop) (w : World) (ι : Pl) (v : Value), Rel w0 B w ι H → Rep w ι (Rd B ι H) (aev env y) v → SrcAt w (Rd B ι H) te.size rows v)
    (h63 : n + rows.length ≤ maxLen) (hby : (n + rows.length) * te.bytes ≤ 140737488355328) :
    WS P G o env H (.osl k 0 (n + rows.length)) ((H.map (scrubBlk (one k))).set k (some (.rows te.size (rs.take n ++ rows) e))) (some (one k)) := by
  intro w0 B w ι ρ hR hG hρ hf
  have hm := mem_append_ops ho hc ha
  have hx := hρ x hm.1
  rw [ex] at hx
  obtain ⟨v', w', ι', h1, h2, h3, h4⟩ := aappend_core (P := P) (ty := o.type) hT ht hd he hz hs0 hk hn h63 hby hR hx (hy w0 B w ι (ρ y) hR (hρ y hm.2))
  rw [run_append_op ho hc ha hat h1]
  exact ⟨ι', h2, h3, h4⟩

/-- a row without a place -/
theorem Rel.ghost {w0 : Base} {B : Nat → Prop} {w : World} {ι : Pl} {H : AH} (h : Rel w0 B w ι H) (s : Nat) (t : TypeId) :
    Rel w0 B w (ι ++ [(none, s, 0)]) (H ++ [some (.rows s [] t)]) ∧ Keeps none w ι (Rd B ι H) w (ι ++ [(none, s, 0)]) (Rd B (ι ++ [(none, s, 0)]) (H ++ [some (.rows s [] t)])) := by
  have hown : ∀ c, Owned (ι ++ [(none, s, 0)]) (H ++ [some (.rows s [] t)]) c → Owned ι H c := by
    rintro c ⟨k, b', s', h1, h2⟩
    rcases get_snoc h2 with ⟨hl', h2⟩ | ⟨_, e⟩
    · rcases get_snoc h1 with ⟨hl, h1⟩ | ⟨e, _⟩
      · exact ⟨k, b', s', h1, h2⟩
      · rw [h.len] at hl'; omega
    · cases e
  have hk : Keeps none w ι (Rd B ι H) w (ι ++ [(none, s, 0)]) (Rd B (ι ++ [(none, s, 0)]) (H ++ [some (.rows s [] t)])) :=
    ⟨Nat.le_refl _, fun c hc hlt => ⟨⟨hc.1, fun ho => hc.2 (hown c ho)⟩, rfl⟩, fun k c s _ hx => get_snoc_old hx⟩
  refine ⟨⟨h.gr, h.fut, by simp [h.len], fun k b' c s' h1 h2 => ?_, fun k l b1 b2 c s1 s2 h1 h2 h3 h4 => ?_⟩, hk⟩
  · rcases get_snoc h1 with ⟨hl, h1⟩ | ⟨rfl, e⟩
    · rcases get_snoc h2 with ⟨hl', h2⟩ | ⟨e, _⟩
      · exact ⟨(h.blk k b' c s' h1 h2).1, (h.blk k b' c s' h1 h2).2.keep0 hk fun c' e => rfl⟩
      · rw [h.len] at e; omega
    · rw [← h.len, get_snoc_new] at h2
      cases h2
      cases e
      exact ⟨(fun c' e => by cases e), rfl, (fun i row h => by simp at h), .inl ⟨rfl, rfl⟩⟩
  · rcases get_snoc h3 with ⟨hl3, h3⟩ | ⟨_, e⟩
    · rcases get_snoc h4 with ⟨hl4, h4⟩ | ⟨_, e⟩
      · rcases get_snoc h1 with ⟨_, h1⟩ | ⟨e, _⟩
        · rcases get_snoc h2 with ⟨_, h2⟩ | ⟨e, _⟩
          · exact h.inj k l b1 b2 c s1 s2 h1 h2 h3 h4
          · rw [h.len] at hl4; omega
        · rw [h.len] at hl3; omega
      · cases e
    · cases e

theorem SrcAt.keep {w w' : World} {R R' : Nat → Prop} {s : Nat} {rows : List (List PV)} {v : Value} (h : SrcAt w R s rows v) (hw : w' = w) (hR : ∀ b, R b → R' b) : SrcAt w' R' s rows v := by
  subst hw
  refine ⟨h.len, ?_⟩
  rcases h.at_ with h1 | ⟨b, o, cap, vs, e, h1⟩
  · exact .inl h1
  · exact .inr ⟨b, o, cap, vs, e, fun i j row a h2 h3 => ⟨(h1 i j row a h2 h3).1, (h1 i j row a h2 h3).2.1, (h1 i j row a h2 h3).2.2.keep (Nat.le_refl _) fun b hb _ => ⟨hR b hb, rfl⟩⟩⟩

/-- append onto nil -/
theorem aappend_nil (hT : TOk P T) {o : Oper} {c : Call} {x y : Operand} (ho : o.op = .call c) (hc : c.callee = .builtin .append) (ha : c.args.toList = [x, y]) {t e : TypeId} (hat : c.argTypes.toList = [t, t]) {ti te : TI} (ht : T t = some ti) (hd : ti.desc = .slice e) (he : T e = some te)
    (hz : te.zero.cells.size = te.size) (hs0 : 0 < te.size) {env : List AV} {H : AH} (ex : aev env x = .p (.v (.slice none 0 0)))
    {rows : List (List PV)} (hy : ∀ (w0 : Base) (B : Nat → Prop) (w : World) (ι : Pl) (v : Value), Rel w0 B w ι H → Rep w ι (Rd B ι H) (aev env y) v → SrcAt w (Rd B ι H) te.size rows v)
    (h63 : rows.length ≤ maxLen) (hby : rows.length * te.bytes ≤ 140737488355328) :
    WS P G o env H (.osl H.length 0 rows.length) (((H ++ [some (ABlk.rows te.size [] e)]).map (scrubBlk (one H.length))).set H.length (some (ABlk.rows te.size rows e))) none := by
  intro w0 B w ι ρ hR hG hρ hf
  have hm := mem_append_ops ho hc ha
  have hx := hρ x hm.1
  rw [ex] at hx
  have hvx := rep_v hx
  have hg := hR.ghost te.size e
  have hsrc := (hy w0 B w ι (ρ y) hR (hρ y hm.2)).keep (w' := w) (R' := Rd B (ι ++ [(none, te.size, 0)]) (H ++ [some (ABlk.rows te.size [] e)])) rfl (fun b hb => ⟨hb.1, fun ho => hb.2 (by
    obtain ⟨k, b', s', h1, h2⟩ := ho
    rcases get_snoc h2 with ⟨hl', h2⟩ | ⟨_, e⟩
    · rcases get_snoc h1 with ⟨hl, h1⟩ | ⟨e, _⟩
      · exact ⟨k, b', s', h1, h2⟩
      · rw [hR.len] at hl'; omega
    · cases e)⟩)
  have hxo : Rep w (ι ++ [(none, te.size, 0)]) (Rd B (ι ++ [(none, te.size, 0)]) (H ++ [some (ABlk.rows te.size [] e)])) (.osl H.length 0 0) (ρ x) := by rw [hvx]; exact .osl0 _ _
  obtain ⟨v', w', ι', h1, h2, h3, h4⟩ := aappend_core (P := P) (ty := o.type) hT ht hd he hz hs0 (n := 0) (rs := []) (get_snoc_new _ _) (Nat.le_refl _) (by simpa using h63) (by simpa using hby) hg.1 hxo hsrc
  rw [run_append_op ho hc ha hat h1]
  simp only [List.take_nil, List.nil_append, Nat.zero_add] at h2 h3 h4
  refine ⟨ι', h2, ⟨h3.size, fun b hb hlt => ?_, fun k c2 p _ hp => ?_⟩, h4⟩
  · exact h3.read b (hg.2.read b hb hlt).1 hlt
  · refine h3.place k c2 p (fun q e => ?_) (get_snoc_old hp)
    cases e
    have := (List.getElem?_eq_some_iff.1 hp).1
    rw [hR.len] at this
    exact one_ne (by omega)
end
end Go.Proofs.YtlffpgjkhehdmaaDoor
