/- Own work: a call that is lent blocks of the walk's own: seen from the caller. -/
import Derived.Test.YtlffpgjkhehdmaaDoorAbsM
namespace Go.Proofs.YtlffpgjkhehdmaaDoor
open Go.RowKit

/-- the place of a block among the lent ones -/
def posOf : List Nat → Nat → Nat → Option Nat
  | [], _, _ => none
  | x :: xs, l, i => (match Nat.beq x l with
    | true => some i
    | false => posOf xs l (i + 1))
theorem posOf_some {l : Nat} : ∀ {σ : List Nat} {i k : Nat}, posOf σ l i = some k → i ≤ k ∧ σ[k - i]? = some l
  | [], i, k, h => by simp [posOf] at h
  | x :: xs, i, k, h => by
    unfold posOf at h
    split at h
    · rename_i e
      cases h
      rw [Nat.eq_of_beq_eq_true e]; simp
    · obtain ⟨h1, h2⟩ := posOf_some h
      refine ⟨by omega, ?_⟩
      rw [show k - i = (k - (i + 1)) + 1 by omega, List.getElem?_cons_succ]; exact h2
theorem posOf_none {l : Nat} : ∀ {σ : List Nat} {i : Nat}, posOf σ l i = none → ∀ k : Nat, σ[k]? ≠ some l
  | [], i, _, k => by simp
  | x :: xs, i, h, k => by
    unfold posOf at h
    split at h
    · cases h
    · rename_i e
      cases k with
      | zero =>
        intro hx
        simp at hx
        subst hx
        simp at e
      | succ k => simpa using posOf_none h k
/-- the lent blocks are different ones that there are -/
def sigmaB (σ : List Nat) (n : Nat) : Bool := (List.range σ.length).all fun k => (match posOf σ (σ.getD k 0) 0 with
  | some k' => Nat.beq k' k
  | none => false) && Nat.blt (σ.getD k 0) n
theorem sigma_at {σ : List Nat} {n : Nat} (h : sigmaB σ n = true) {k l : Nat} (hk : σ[k]? = some l) : posOf σ l 0 = some k ∧ l < n := by
  have hlt := (List.getElem?_eq_some_iff.1 hk).1
  have := List.all_eq_true.1 h k (List.mem_range.2 hlt)
  rw [List.getD_eq_getElem?_getD, hk] at this
  simp only [Option.getD_some, Bool.and_eq_true] at this
  obtain ⟨h1, h2⟩ := this
  refine ⟨?_, by have := Nat.le_of_ble_eq_true h2; omega⟩
  split at h1
  · rename_i k' e; rw [e, Nat.eq_of_beq_eq_true h1]
  · cases h1
def stripO : Option ABlk → Option ABlk
  | some (.box cs t _) => some (.box cs t none)
  | b => b
/-- what is forgotten of the caller's own: slices of lent blocks -/
def lentP (σ : List Nat) (H Hc' : AH) : Nat → Bool := fun l => match posOf σ l 0 with
  | some k => !(isBox (H.getD l none) && isBox (Hc'.getD k none))
  | none => false
def backL (σ : List Nat) (f : Nat → Nat) (p : Nat → Bool) (Hc' : AH) : Nat → AH → AH
  | _, [] => []
  | l, b :: H => (match posOf σ l 0 with
    | some k => renO f (markOf b) (Hc'.getD k none)
    | none => scrubBlk p b) :: backL σ f p Hc' (l + 1) H
/-- the caller's blocks behind the call -/
def backH (σ : List Nat) (H Hc' : AH) : AH := backL σ (renK σ H.length) (lentP σ H Hc') Hc' 0 H ++ (Hc'.drop σ.length).map (renO (renK σ H.length) none)
def backI (σ : List Nat) (ι' : Pl) : Nat → Pl → Pl
  | _, [] => []
  | l, x :: ι => (match posOf σ l 0 with
    | some k => ι'.getD k (none, 0, 0)
    | none => x) :: backI σ ι' (l + 1) ι
theorem backL_get {σ : List Nat} {f : Nat → Nat} {p : Nat → Bool} {Hc' : AH} : ∀ (l : Nat) (H : AH) (i : Nat), (backL σ f p Hc' l H)[i]? = (H[i]?).map fun b => match posOf σ (l + i) 0 with
    | some k => renO f (markOf b) (Hc'.getD k none)
    | none => scrubBlk p b
  | l, [], i => by simp [backL]
  | l, b :: H, 0 => by simp [backL]
  | l, b :: H, i + 1 => by
    simp only [backL, List.getElem?_cons_succ]
    rw [backL_get (l + 1) H i, show l + 1 + i = l + (i + 1) by omega]
theorem backI_get {σ : List Nat} {ι' : Pl} : ∀ (l : Nat) (ι : Pl) (i : Nat), (backI σ ι' l ι)[i]? = (ι[i]?).map fun x => match posOf σ (l + i) 0 with
    | some k => ι'.getD k (none, 0, 0)
    | none => x
  | l, [], i => by simp [backI]
  | l, x :: ι, 0 => by simp [backI]
  | l, x :: ι, i + 1 => by
    simp only [backI, List.getElem?_cons_succ]
    rw [backI_get (l + 1) ι i, show l + 1 + i = l + (i + 1) by omega]
theorem backL_len {σ : List Nat} {f : Nat → Nat} {p : Nat → Bool} {Hc' : AH} : ∀ (l : Nat) (H : AH), (backL σ f p Hc' l H).length = H.length
  | l, [] => rfl
  | l, b :: H => by simp [backL, backL_len (l + 1) H]
theorem backI_len {σ : List Nat} {ι' : Pl} : ∀ (l : Nat) (ι : Pl), (backI σ ι' l ι).length = ι.length
  | l, [] => rfl
  | l, x :: ι => by simp [backI, backI_len (l + 1) ι]
theorem renO_tag (f : Nat → Nat) (g : Option Nat) (c : Nat) (b : Option ABlk) : renO f g (tagB c b) = renO f g b := by
  cases b with
  | none => rfl
  | some b => cases b <;> rfl
theorem renO_tagH (f : Nat → Nat) (g : Option Nat) (tags : List Nat) (H : AH) (k : Nat) : renO f g ((tagH tags H).getD k none) = renO f g (H.getD k none) := by
  rw [List.getD_eq_getElem?_getD, List.getD_eq_getElem?_getD]
  cases h : (tagH tags H)[k]? with
  | none =>
    have : H[k]? = none := by
      rw [List.getElem?_eq_none_iff] at h ⊢
      rwa [tagH_len] at h
    rw [this]
  | some b =>
    obtain ⟨b0, h0, h1⟩ := tagH_get tags H k b h
    rw [h0]
    simp only [Option.getD_some]
    rcases h1 with ⟨c, _, rfl⟩ | ⟨_, rfl⟩
    · exact renO_tag f g c b0
    · rfl
theorem renO_some {f : Nat → Nat} {g : Option Nat} {b : Option ABlk} {x : ABlk} (h : renO f g b = some x) : ∃ b0, b = some b0 ∧ x = renB f g b0 := by
  cases b with
  | none => cases h
  | some b0 => cases h; exact ⟨b0, rfl, rfl⟩
theorem isBox_tagH {tags : List Nat} {H : AH} {k : Nat} : isBox ((tagH tags H).getD k none) = isBox (H.getD k none) := by
  rw [List.getD_eq_getElem?_getD, List.getD_eq_getElem?_getD]
  cases h : (tagH tags H)[k]? with
  | none =>
    have : H[k]? = none := by
      rw [List.getElem?_eq_none_iff] at h ⊢
      rwa [tagH_len] at h
    rw [this]
  | some b =>
    obtain ⟨b0, h0, h1⟩ := tagH_get tags H k b h
    rw [h0]
    simp only [Option.getD_some]
    rcases h1 with ⟨c, _, rfl⟩ | ⟨_, rfl⟩
    · cases b0 with
      | none => rfl
      | some b0 => cases b0 <;> rfl
    · rfl

section
variable {P : Program} {G : World → Prop} {w0 : Base} {B : Nat → Prop}
set_option maxHeartbeats 1000000 in
theorem mcall_sound {w : World} {ι : Pl} {H : AH} (hR : Rel w0 B w ι H) (hC : Can G w0 B w ι H) {f : FuncId} {as : List AV} {Hc : AH} {r : AV} {Hc' : AH} (h : RetM P G f as Hc r Hc') {σ : List Nat}
    (hσ : sigmaB σ H.length = true) (hlen : σ.length = Hc.length) (hpick : σ.map (fun l => stripO (H.getD l none)) = Hc.map (renO (renK σ H.length) none)) (hlo : hlow σ.length Hc = true) (hla : AV.low.lowL σ.length as = true)
    {args : List Value} (hal : as.length = args.length) (hargs : ∀ (j : Nat) (a : AV) (v : Value), as[j]? = some a → args[j]? = some v → Rep w ι (Rd B ι H) (a.ren (renK σ H.length)) v) :
    Calls P f args.toArray w fun e w' => ∃ ι', Rel w0 B w' ι' (backH σ H Hc') ∧ Keeps (some (lentP σ H Hc')) w ι (Rd B ι H) w' ι' (Rd B ι' (backH σ H Hc')) ∧ EndsA w' ι' (Rd B ι' (backH σ H Hc')) (r.ren (renK σ H.length)) e := by
  -- the places of the lent blocks
  have hιl : ∀ l : Nat, l < H.length → ∃ x, ι[l]? = some x := fun l hl => ⟨_, List.getElem?_eq_getElem (by rw [hR.len]; exact hl)⟩
  generalize hιc : σ.map (fun l => ι.getD l (none, 0, 0)) = ιc
  generalize htg : ιc.map (fun x => x.1.getD 0) = tags
  have hcl : ιc.length = σ.length := by rw [← hιc]; simp
  have htl : tags.length = Hc.length := by rw [← htg]; simp [hcl, hlen]
  have hcat : ∀ (k : Nat) (x : Option Nat × Nat × Nat), ιc[k]? = some x → ∃ l, σ[k]? = some l ∧ ι[l]? = some x := fun k x hx => by
    rw [← hιc, List.getElem?_map] at hx
    cases hk : σ[k]? with
    | none => rw [hk] at hx; cases hx
    | some l =>
      rw [hk] at hx
      obtain ⟨y, hy⟩ := hιl l (sigma_at hσ hk).2
      simp only [Option.map_some, Option.some.injEq, List.getD_eq_getElem?_getD, hy, Option.getD_some] at hx
      subst hx
      exact ⟨l, by first | rfl | exact hk, hy⟩
  have hcof : ∀ (k l : Nat), σ[k]? = some l → ∃ x, ιc[k]? = some x ∧ ι[l]? = some x := fun k l hk => by
    obtain ⟨y, hy⟩ := hιl l (sigma_at hσ hk).2
    refine ⟨y, ?_, hy⟩
    rw [← hιc, List.getElem?_map, hk]
    simp [List.getD_eq_getElem?_getD, hy]
  have htag : ∀ (k : Nat) (x : Option Nat × Nat × Nat), ιc[k]? = some x → tags[k]? = some (x.1.getD 0) := fun k x hx => by
    rw [← htg, List.getElem?_map, hx]; rfl
  -- a lent block, seen from both sides
  have hblk : ∀ (k : Nat) (b : ABlk) (l : Nat), (tagH tags Hc)[k]? = some (some b) → σ[k]? = some l → ∃ (b2 b0 : ABlk), H[l]? = some (some b2) ∧ Hc[k]? = some (some b0) ∧ stripO (some b2) = some (renB (renK σ H.length) none b0) ∧ ∃ c, tags[k]? = some c ∧ some b = tagB c (some b0) := fun k b l hb hk => by
    obtain ⟨b0, h0, h1⟩ := tagH_get tags Hc k _ hb
    have hkl : k < tags.length := by rw [htl, ← hlen]; exact (List.getElem?_eq_some_iff.1 hk).1
    rcases h1 with ⟨c, hc, e⟩ | ⟨hc, _⟩
    · cases b0 with
      | none => cases e
      | some b0 =>
        have hp := congrArg (fun L => L[k]?) hpick
        simp only [List.getElem?_map, hk, h0, Option.map_some, Option.some.injEq, renO] at hp
        rw [List.getD_eq_getElem?_getD] at hp
        cases hH : H[l]? with
        | none => rw [hH] at hp; cases hp
        | some ob =>
          rw [hH] at hp
          cases ob with
          | none => cases hp
          | some b2 => exact ⟨b2, b0, by first | rfl | exact hH, h0, hp, c, hc, e⟩
    · rw [List.getElem?_eq_getElem hkl] at hc; cases hc
  have hlσ : ∀ (k : Nat) (b : Option ABlk), (tagH tags Hc)[k]? = some b → ∃ l, σ[k]? = some l := fun k b hb => by
    have := (List.getElem?_eq_some_iff.1 hb).1
    rw [tagH_len, ← hlen] at this
    exact ⟨_, List.getElem?_eq_getElem this⟩
  have hownc : ∀ c, Owned ιc (tagH tags Hc) c → ∃ (k l : Nat) (b2 : ABlk) (s : Nat × Nat), σ[k]? = some l ∧ H[l]? = some (some b2) ∧ ι[l]? = some (some c, s) := by
    rintro c ⟨k, b, s, h1, h2⟩
    obtain ⟨l, hl, hi⟩ := hcat k _ h2
    obtain ⟨b2, b0, h3, _⟩ := hblk k b l h1 hl
    exact ⟨k, l, b2, s, hl, h3, hi⟩
  have hsub : ∀ c, Owned ιc (tagH tags Hc) c → Owned ι H c := fun c hc => by
    obtain ⟨k, l, b2, s, _, h1, h2⟩ := hownc c hc
    exact ⟨l, b2, s, h1, h2⟩
  -- what the callee may read
  obtain ⟨B', hB'⟩ : ∃ B' : Nat → Prop, ∀ b, B' b ↔ (B b ∧ ¬ ∃ (l : Nat) (b2 : ABlk) (s : Nat × Nat), (∀ k : Nat, σ[k]? ≠ some l) ∧ H[l]? = some (some b2) ∧ ι[l]? = some (some b, s)) := ⟨_, fun _ => Iff.rfl⟩
  have hrd : ∀ b, Rd B ι H b → Rd B' ιc (tagH tags Hc) b := fun b hb => ⟨(hB' b).2 ⟨hb.1, fun ⟨l, b2, s, _, h1, h2⟩ => hb.2 ⟨l, b2, s, h1, h2⟩⟩, fun ho => hb.2 (hsub b ho)⟩
  have hnew : ∀ b, w.heap.size ≤ b → B' b := fun b hb => (hB' b).2 ⟨hR.fut b hb, fun ⟨l, b2, s, _, h1, h2⟩ => by have := hR.lt ⟨l, b2, s, h1, h2⟩; omega⟩
  have hlent : ∀ b, Owned ιc (tagH tags Hc) b → B' b := fun b hb => by
    obtain ⟨k, l, b2, s, hk, h1, h2⟩ := hownc b hb
    refine (hB' b).2 ⟨hC.own b (hR.ge ⟨l, b2, s, h1, h2⟩), fun ⟨l', b3, s', hn, h3, h4⟩ => ?_⟩
    have := hR.inj l l' b2 b3 b s s' h1 h3 h2 h4
    subst this
    exact hn k hk
  have hRc : Rel ⟨w, Owned ιc (tagH tags Hc)⟩ B' w ιc (tagH tags Hc) := by
    refine ⟨⟨rfl, rfl, rfl, Nat.le_refl _, fun _ _ _ => rfl⟩, hnew, by rw [tagH_len, hcl, hlen], fun k b c s h1 h2 => ?_, fun k k' b b' c s s' h1 h2 h3 h4 => ?_⟩
    · refine ⟨fun c' e => .inl ⟨k, b, s, h1, by rw [h2, e]⟩, ?_⟩
      obtain ⟨l, hl, hi⟩ := hcat k _ h2
      obtain ⟨b2, b0, h3, h0, hs, t, ht, hb⟩ := hblk k b l h1 hl
      have hbk := (hR.blk l b2 c s h3 hi).2
      have hlow0 := hlow_get hlo h0
      have hun : ∀ (k' c' : Nat) (s' : Nat × Nat), k' < σ.length → ι[renK σ H.length k']? = some (some c', s') → ιc[k']? = some (some c', s') := fun k' c' s' hk' hx => by
        have hσk : σ[k']? = some σ[k'] := List.getElem?_eq_getElem hk'
        obtain ⟨x, hx1, hx2⟩ := hcof k' _ hσk
        unfold renK at hx
        rw [hσk] at hx
        simp only at hx
        rw [hx2] at hx; cases hx
        exact hx1
      cases b2 with
      | box cs t2 g2 =>
        cases b0 with
        | box cs0 t0 g0 =>
          simp only [stripO, renB, Option.some.injEq, ABlk.box.injEq] at hs
          obtain ⟨rfl, rfl, _⟩ := hs
          simp only [tagB, Option.some.injEq] at hb
          subst hb
          obtain ⟨⟨hs0, hg⟩, c', arr, ec, hh, hsz, hcs⟩ := hbk
          refine ⟨⟨hs0, fun n e => ?_⟩, c', arr, ec, hh, by rw [hsz, renL_len], fun j a ha => ?_⟩
          · have := htag k _ h2
            rw [ht] at this
            cases e
            rw [Option.some.inj this, ec]; rfl
          · obtain ⟨v, hv, h1', hr⟩ := hcs j (a.ren _) (by rw [renL_get, ha]; rfl)
            exact ⟨v, hv, h1', hr.unren hun (fun b hb _ => hrd b hb) a rfl (lowL_get hlow0 ha)⟩
        | rows s0 rs0 t0 => cases hs
        | iter s0 p0 => cases hs
      | rows s2 rs2 t2 =>
        cases b0 with
        | box cs0 t0 g0 => cases hs
        | rows s0 rs0 t0 =>
          cases hs
          cases hb
          obtain ⟨e, hl2, hh⟩ := hbk
          refine ⟨e, hl2, ?_⟩
          rcases hh with hh | ⟨c', arr, ec, hh, hz, hcs⟩
          · exact .inl hh
          · refine .inr ⟨c', arr, ec, hh, hz, fun i j row a g1 g2 => ?_⟩
            obtain ⟨v, hv, h1', hr⟩ := hcs i j row a g1 g2
            exact ⟨v, hv, h1', hr.keep (Nat.le_refl _) fun b hb _ => ⟨hrd b hb, rfl⟩⟩
        | iter s0 p0 => cases hs
      | iter s2 p2 =>
        cases b0 with
        | box cs0 t0 g0 => cases hs
        | rows s0 rs0 t0 => cases hs
        | iter s0 p0 =>
          cases hs
          cases hb
          exact hbk
    · obtain ⟨l, hl, hi⟩ := hcat k _ h3
      obtain ⟨l', hl', hi'⟩ := hcat k' _ h4
      obtain ⟨b2, _, g1, _⟩ := hblk k b l h1 hl
      obtain ⟨b3, _, g2, _⟩ := hblk k' b' l' h2 hl'
      have := hR.inj l l' b2 b3 c s s' g1 g2 hi hi'
      subst this
      have e1 := (sigma_at hσ hl).1
      rw [(sigma_at hσ hl').1] at e1
      exact (Option.some.inj e1).symm
  have hCc : Can G ⟨w, Owned ιc (tagH tags Hc)⟩ B' w ιc (tagH tags Hc) :=
    ⟨fun w' hg => hC.stab w' ⟨hg.os, hg.tape, hg.output, hg.size, fun k hk hx => hg.block k hk fun ho => hx (hsub k ho)⟩, fun b hb => hb.elim (hlent b) (hnew b)⟩
  have hfst : ∀ (k l : Nat), σ[k]? = some l → renK σ H.length k = l := fun k l hk => by unfold renK; rw [hk]
  refine (h.2 B' w ιc args tags htl hCc hRc hal fun j a v ha hv => (hargs j a v ha hv).unren (m := σ.length) (fun k' c' s' hk' hx => ?_) (fun b hb _ => hrd b hb) a rfl (lowL_get hla ha)).mono ?_
  · have hσk : σ[k']? = some σ[k'] := List.getElem?_eq_getElem hk'
    obtain ⟨x, hx1, hx2⟩ := hcof k' _ hσk
    rw [hfst k' _ hσk, hx2] at hx; cases hx
    exact hx1
  rintro e w' ⟨ι', hR', hE⟩
  have hl' : ι'.length = Hc'.length := by rw [hR'.len, tagH_len]
  -- places behind the call
  have hι3 : ∀ (k : Nat) (x : Option Nat × Nat × Nat), ι'[k]? = some x → (backI σ ι' 0 ι ++ ι'.drop σ.length)[renK σ H.length k]? = some x := fun k x hx => by
    cases hk : σ[k]? with
    | some l =>
      rw [hfst k l hk]
      have hll := (sigma_at hσ hk).2
      rw [List.getElem?_append_left (by rw [backI_len, hR.len]; exact hll), backI_get]
      obtain ⟨y, hy⟩ := hιl l hll
      rw [hy]
      simp [(sigma_at hσ hk).1, List.getD_eq_getElem?_getD, hx]
    | none =>
      have hge : σ.length ≤ k := by simpa using hk
      unfold renK
      rw [hk]
      simp only
      rw [List.getElem?_append_right (by rw [backI_len, hR.len]; omega), backI_len, hR.len, List.getElem?_drop, show σ.length + (H.length + (k - σ.length) - H.length) = k by omega]
      exact hx
  have hfree : ∀ (l : Nat) (x : Option Nat × Nat × Nat), (∀ k : Nat, σ[k]? ≠ some l) → ι[l]? = some x → (backI σ ι' 0 ι ++ ι'.drop σ.length)[l]? = some x := fun l x hn hx => by
    have hll : l < ι.length := (List.getElem?_eq_some_iff.1 hx).1
    rw [List.getElem?_append_left (by rw [backI_len]; exact hll), backI_get, hx]
    cases hp : posOf σ l 0 with
    | none => simp [hp]
    | some k => exact absurd (by simpa using (posOf_some hp).2) (hn k)
  generalize hI : backI σ ι' 0 ι ++ ι'.drop σ.length = ι3 at hι3 hfree
  -- blocks behind the call
  have hget : ∀ (l : Nat) (b : ABlk) (c : Option Nat) (s : Nat × Nat), (backH σ H Hc')[l]? = some (some b) → ι3[l]? = some (c, s) →
      ((∀ k : Nat, σ[k]? ≠ some l) ∧ ∃ b0 : ABlk, H[l]? = some (some b0) ∧ b = scrubA (some (lentP σ H Hc')) b0 ∧ ι[l]? = some (c, s)) ∨
      (∃ (k : Nat) (b1 : ABlk) (g : Option Nat), (tagH tags Hc')[k]? = some (some b1) ∧ b = renB (renK σ H.length) g b1 ∧ renK σ H.length k = l ∧ ι'[k]? = some (c, s) ∧ (g = none ∨ ∃ l' : Nat, σ[k]? = some l' ∧ g = markOf (H.getD l' none))) := by
    intro l b c s hb hi
    unfold backH at hb
    rcases Nat.lt_or_ge l H.length with hll | hge
    · rw [List.getElem?_append_left (by rw [backL_len]; exact hll), backL_get] at hb
      have hH : H[l]? = some H[l] := List.getElem?_eq_getElem hll
      rw [hH] at hb
      simp only [Option.map_some, Nat.zero_add, Option.some.injEq] at hb
      cases hp : posOf σ l 0 with
      | none =>
        rw [hp] at hb
        simp only at hb
        have hn := posOf_none hp
        refine .inl ⟨hn, ?_⟩
        obtain ⟨y, hy⟩ := hιl l hll
        have := hfree l y hn hy
        rw [hi] at this; cases this
        obtain ⟨b0, h0, e0⟩ := scrub_get (p := lentP σ H Hc') (l := l) (H := H) (b := b) (by rw [List.getElem?_map, hH]; simpa using hb)
        exact ⟨b0, h0, e0, hy⟩
      | some k =>
        rw [hp] at hb
        simp only at hb
        have hk : σ[k]? = some l := by simpa using (posOf_some hp).2
        rw [← renO_tagH _ _ tags] at hb
        obtain ⟨b1, e1, e2⟩ := renO_some hb
        have hb1 : (tagH tags Hc')[k]? = some (some b1) := by
          rw [List.getD_eq_getElem?_getD] at e1
          cases hx : (tagH tags Hc')[k]? with
          | none => rw [hx] at e1; cases e1
          | some z => rw [hx] at e1; cases e1; rfl
        have hkl : k < ι'.length := by rw [hR'.len]; exact (List.getElem?_eq_some_iff.1 hb1).1
        have := hι3 k _ (List.getElem?_eq_getElem hkl)
        rw [hfst k l hk, hi] at this
        refine .inr ⟨k, b1, _, hb1, e2, hfst k l hk, ?_, .inr ⟨l, hk, by rw [List.getD_eq_getElem?_getD, hH]; rfl⟩⟩
        rw [List.getElem?_eq_getElem hkl]; exact this.symm
    · rw [List.getElem?_append_right (by rw [backL_len]; exact hge), backL_len, List.getElem?_map, List.getElem?_drop] at hb
      obtain ⟨k, hk⟩ : ∃ k, k = σ.length + (l - H.length) := ⟨_, rfl⟩
      rw [← hk] at hb
      have hkn : σ[k]? = none := by simp; omega
      have hkl' : renK σ H.length k = l := by unfold renK; rw [hkn]; simp only; omega
      cases hx : Hc'[k]? with
      | none => rw [hx] at hb; cases hb
      | some ob =>
        rw [hx] at hb
        simp only [Option.map_some, Option.some.injEq] at hb
        have e0 : Hc'.getD k none = ob := by rw [List.getD_eq_getElem?_getD, hx]; rfl
        rw [← e0, ← renO_tagH _ _ tags] at hb
        obtain ⟨b1, e1, e2⟩ := renO_some hb
        have hb1 : (tagH tags Hc')[k]? = some (some b1) := by
          rw [List.getD_eq_getElem?_getD] at e1
          cases hy : (tagH tags Hc')[k]? with
          | none => rw [hy] at e1; cases e1
          | some z => rw [hy] at e1; cases e1; rfl
        have hkl : k < ι'.length := by rw [hR'.len]; exact (List.getElem?_eq_some_iff.1 hb1).1
        have := hι3 k _ (List.getElem?_eq_getElem hkl)
        rw [hkl', hi] at this
        refine .inr ⟨k, b1, none, hb1, e2, hkl', ?_, .inl rfl⟩
        rw [List.getElem?_eq_getElem hkl]; exact this.symm
  have hown3 : ∀ c, Owned ι3 (backH σ H Hc') c → (∃ (l : Nat) (b0 : ABlk) (s : Nat × Nat), (∀ k : Nat, σ[k]? ≠ some l) ∧ H[l]? = some (some b0) ∧ ι[l]? = some (some c, s)) ∨ Owned ι' (tagH tags Hc') c := by
    rintro c ⟨l, b, s, h1, h2⟩
    rcases hget l b _ s h1 h2 with ⟨hn, b0, h0, _, hi⟩ | ⟨k, b1, g, hb1, _, _, hi, _⟩
    · exact .inl ⟨l, b0, s, hn, h0, hi⟩
    · exact .inr ⟨k, b1, s, hb1, hi⟩
  have hrd3 : ∀ b, Rd B' ι' (tagH tags Hc') b → Rd B ι3 (backH σ H Hc') b := fun b hb => ⟨((hB' b).1 hb.1).1, fun ho => by
    rcases hown3 b ho with ⟨l, b0, s, hn, h1, h2⟩ | ho
    · exact ((hB' b).1 hb.1).2 ⟨l, b0, s, hn, h1, h2⟩
    · exact hb.2 ho⟩
  have hgx : ∀ b, b < w.heap.size → ¬ Owned ιc (tagH tags Hc) b → w'.heap[b]? = w.heap[b]? := fun b hb hn => hR'.gr.block b hb hn
  have hsz : w.heap.size ≤ w'.heap.size := hR'.gr.size
  -- a lent block that stays a box stays where it is
  have hstay : ∀ (k l c : Nat) (s : Nat × Nat), σ[k]? = some l → lentP σ H Hc' l = false → ι[l]? = some (some c, s) → ι'[k]? = some (some c, s) := fun k l c s hk hp hi => by
    have hps := (sigma_at hσ hk).1
    unfold lentP at hp
    rw [hps] at hp
    simp only [Bool.not_eq_false', Bool.and_eq_true] at hp
    obtain ⟨hp1, hp2⟩ := hp
    rw [← isBox_tagH (tags := tags) (H := Hc')] at hp2
    have hbox : ∀ (L : AH) (m : Nat), isBox (L.getD m none) = true → ∃ (cs : List AV) (t : TypeId) (g : Option Nat), L[m]? = some (some (.box cs t g)) := fun L m hm => by
      rw [List.getD_eq_getElem?_getD] at hm
      cases hx : L[m]? with
      | none => rw [hx] at hm; cases hm
      | some ob =>
        rw [hx] at hm
        cases ob with
        | none => cases hm
        | some bb =>
          cases bb with
          | box cs t g => exact ⟨cs, t, g, rfl⟩
          | rows a b c => cases hm
          | iter a b => cases hm
    obtain ⟨cs, t, g, hH⟩ := hbox _ _ hp1
    obtain ⟨cs1, t1, g1, hH1⟩ := hbox _ _ hp2
    have hs0 := (hR.blk l _ _ s hH hi).2.1.1
    have hkl : k < ι'.length := by rw [hR'.len]; exact (List.getElem?_eq_some_iff.1 hH1).1
    have hik : ι'[k]? = some ι'[k] := List.getElem?_eq_getElem hkl
    have hb1 := (hR'.blk k _ ι'[k].1 ι'[k].2 hH1 hik).2
    obtain ⟨b0, h0, h1⟩ := tagH_get tags Hc' k _ hH1
    obtain ⟨x, hx1, hx2⟩ := hcof k l hk
    rw [hi] at hx2; cases hx2
    have htk := htag k _ hx1
    rcases h1 with ⟨c0, hc0, e0⟩ | ⟨hc0, _⟩
    · rw [htk] at hc0; cases hc0
      have hg1 : g1 = some c := by
        cases b0 with
        | none => cases e0
        | some b0 => cases b0 <;> simp [tagB] at e0; exact e0.2.2
      have h3 := hb1.1.2 c hg1
      have h4 := hb1.1.1
      rw [hik]
      generalize ι'[k] = y at h3 h4
      obtain ⟨y1, y2⟩ := y
      simp only at h3 h4
      rw [h3, h4, hs0]
    · rw [htk] at hc0; cases hc0
  have hk3 : Keeps (some (lentP σ H Hc')) w ι (Rd B ι H) w' ι3 (Rd B ι3 (backH σ H Hc')) := by
    refine ⟨hsz, fun b hb hlt => ⟨⟨hb.1, fun ho => ?_⟩, hgx b hlt fun ho => hb.2 (hsub b ho)⟩, fun l c s hp hi => ?_⟩
    · rcases hown3 b ho with ⟨l, b0, s, _, h1, h2⟩ | ho
      · exact hb.2 ⟨l, b0, s, h1, h2⟩
      · rcases hR'.ge ho with ho | ho
        · exact hb.2 (hsub b ho)
        · change w.heap.size ≤ b at ho; omega
    · have hp' := hp _ rfl
      cases hps : posOf σ l 0 with
      | none => exact hfree l _ (posOf_none hps) hi
      | some k =>
        have hk : σ[k]? = some l := by simpa using (posOf_some hps).2
        have := hι3 k _ (hstay k l c s hk hp' hi)
        rwa [hfst k l hk] at this
  have hren : ∀ (k c : Nat) (s : Nat × Nat), ι'[k]? = some (some c, s) → ι3[renK σ H.length k]? = some (some c, s) := fun k c s hx => hι3 k _ hx
  have hi3l : ι3.length = (backH σ H Hc').length := by
    rw [← hI]
    simp [backH, backI_len, backL_len, hR.len, hl']
  refine ⟨ι3, ⟨?_, fun b hb => hR.fut b (by omega), hi3l, fun l b c s h1 h2 => ?_, fun l l2 b b2 c s s2 h1 h2 h3 h4 => ?_⟩, hk3, ?_⟩
  · refine ⟨hR'.gr.os.trans hR.gr.os, hR'.gr.tape.trans hR.gr.tape, hR'.gr.output.trans hR.gr.output, Nat.le_trans hR.size hsz, fun d hd hx => ?_⟩
    have := hR.size
    rw [hgx d (by omega) fun ho => ?_]
    · exact hR.gr.block d hd hx
    · rcases hR.ge (hsub d ho) with h | h
      · exact hx h
      · omega
  · rcases hget l b c s h1 h2 with ⟨hn, b0, h0, rfl, hi⟩ | ⟨k, b1, g, hb1, rfl, hkl, hi, hg⟩
    · refine ⟨(hR.blk l b0 c s h0 hi).1, (hR.blk l b0 c s h0 hi).2.keep hk3 fun c' e => ?_⟩
      subst e
      refine hgx c' (hR.lt ⟨l, b0, s, h0, hi⟩) fun ho => ?_
      obtain ⟨k, l', b2, s', hk, g1, g2⟩ := hownc c' ho
      have := hR.inj l l' b0 b2 c' s s' h0 g1 hi g2
      subst this
      exact hn k hk
    · refine ⟨fun c' e => ?_, ?_⟩
      · subst e
        rcases hR'.ge ⟨k, b1, s, hb1, hi⟩ with ho | ho
        · exact hR.ge (hsub c' ho)
        · exact .inr (Nat.le_trans hR.size ho)
      · have hbk := (hR'.blk k b1 c s hb1 hi).2
        cases b1 with
        | box cs t g1 =>
          obtain ⟨⟨hs0, _⟩, c', arr, ec, hh, hz, hcs⟩ := hbk
          refine ⟨⟨hs0, fun n e => ?_⟩, c', arr, ec, hh, by rw [renL_len]; exact hz, fun j a ha => ?_⟩
          · rcases hg with hg | ⟨l', hk, hg⟩
            · rw [hg] at e; cases e
            · have hl'' := hfst k l' hk
              rw [hg] at e
              have hHl : ∃ (cs2 : List AV) (t2 : TypeId), H[l']? = some (some (.box cs2 t2 (some n))) := by
                rw [List.getD_eq_getElem?_getD] at e
                cases hx : H[l']? with
                | none => rw [hx] at e; cases e
                | some ob =>
                  rw [hx] at e
                  cases ob with
                  | none => cases e
                  | some bb =>
                    cases bb with
                    | box cs2 t2 g2 => simp [markOf] at e; subst e; exact ⟨cs2, t2, rfl⟩
                    | rows a b c => cases e
                    | iter a b => cases e
              obtain ⟨cs2, t2, hHl⟩ := hHl
              obtain ⟨y, hy⟩ := hιl l' (sigma_at hσ hk).2
              obtain ⟨y1, y2⟩ := y
              have h5 := (hR.blk l' _ y1 y2 hHl hy).2.1.2 n rfl
              subst h5
              have hlp : lentP σ H Hc' l' = false := by
                unfold lentP
                rw [(sigma_at hσ hk).1]
                simp only
                rw [← isBox_tagH (tags := tags) (H := Hc'), List.getD_eq_getElem?_getD, List.getD_eq_getElem?_getD, hHl, hb1]
                rfl
              have := hstay k l' n y2 hk hlp hy
              rw [hi] at this
              exact (Prod.mk.inj (Option.some.inj this)).1
          · obtain ⟨a0, ha0, rfl⟩ := renL_get_some ha
            obtain ⟨v, hv, h1', hr⟩ := hcs j a0 ha0
            exact ⟨v, hv, h1', hr.ren hren fun b hb _ => hrd3 b hb⟩
        | rows s1 rs t =>
          obtain ⟨e, hl2, hh⟩ := hbk
          refine ⟨e, hl2, ?_⟩
          rcases hh with hh | ⟨c', arr, ec, hh, hz, hcs⟩
          · exact .inl hh
          · refine .inr ⟨c', arr, ec, hh, hz, fun i j row a g1 g2 => ?_⟩
            obtain ⟨v, hv, h1', hr⟩ := hcs i j row a g1 g2
            exact ⟨v, hv, h1', hr.keep (Nat.le_refl _) fun b hb _ => ⟨hrd3 b hb, rfl⟩⟩
        | iter s1 p1 => exact hbk
  · rcases hget l b _ s h1 h3 with ⟨hn, b0, h0, _, hi⟩ | ⟨k, b1, g, hb1, _, hkl, hi, _⟩
    · rcases hget l2 b2 _ s2 h2 h4 with ⟨hn2, b02, h02, _, hi2⟩ | ⟨k2, b12, g2, hb12, _, hkl2, hi2, _⟩
      · exact hR.inj l l2 b0 b02 c s s2 h0 h02 hi hi2
      · exfalso
        rcases hR'.ge ⟨k2, b12, s2, hb12, hi2⟩ with ho | ho
        · obtain ⟨k, l', b3, s', hk, g1, g2⟩ := hownc c ho
          have := hR.inj l l' b0 b3 c s s' h0 g1 hi g2
          subst this
          exact hn k hk
        · have := hR.lt ⟨l, b0, s, h0, hi⟩
          change w.heap.size ≤ c at ho; omega
    · rcases hget l2 b2 _ s2 h2 h4 with ⟨hn2, b02, h02, _, hi2⟩ | ⟨k2, b12, g2, hb12, _, hkl2, hi2, _⟩
      · exfalso
        rcases hR'.ge ⟨k, b1, s, hb1, hi⟩ with ho | ho
        · obtain ⟨k', l', b3, s', hk, g1, g2⟩ := hownc c ho
          have := hR.inj l2 l' b02 b3 c s2 s' h02 g1 hi2 g2
          subst this
          exact hn2 k' hk
        · have := hR.lt ⟨l2, b02, s2, h02, hi2⟩
          change w.heap.size ≤ c at ho; omega
      · have := hR'.inj k k2 b1 b12 c s s2 hb1 hb12 hi hi2
        subst this
        rw [← hkl, ← hkl2]
  · cases hrp : r.isPan with
    | true =>
      cases r with
      | p x =>
        cases x with
        | pan ch => exact hE
        | _ => cases hrp
      | _ => cases hrp
    | false =>
      obtain ⟨v, rfl, hv⟩ := hE.val hrp
      exact .ret (hv.ren hren fun b hb _ => hrd3 b hb)
end
end Go.Proofs.YtlffpgjkhehdmaaDoor
