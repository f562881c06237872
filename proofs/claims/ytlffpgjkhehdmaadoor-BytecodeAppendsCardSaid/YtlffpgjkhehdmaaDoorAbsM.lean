/- Own work: what is forgotten of a state; values that are frozen; a call that is lent blocks of the walk's own. -/
import Derived.Test.YtlffpgjkhehdmaaDoorAbsB
import Derived.Test.YtlffpgjkhehdmaaDoorAbsR
namespace Go.Proofs.YtlffpgjkhehdmaaDoor
open Go.RowKit

/-- the frame -/
structure RepE (w : World) (ι : Pl) (R : Nat → Prop) (env : List AV) (tmps : Array Value) : Prop where
  len : env.length = tmps.size
  at_ : ∀ (t : Nat) (a : AV) (v : Value), env[t]? = some a → tmps[t]? = some v → Rep w ι R a v
/-- one description of a state is weaker than another -/
def Wk (env : List AV) (H : AH) (env' : List AV) (H' : AH) : Prop :=
  ∀ (w0 : Base) (B : Nat → Prop) (w : World) (ι : Pl) (tmps : Array Value), (∀ b, w0.own b → B b) → Rel w0 B w ι H → RepE w ι (Rd B ι H) env tmps → ∃ ι', Rel w0 B w ι' H' ∧ RepE w ι' (Rd B ι' H') env' tmps
theorem Wk.refl (env : List AV) (H : AH) : Wk env H env H := fun _ _ _ ι _ _ hR hE => ⟨ι, hR, hE⟩
theorem Wk.trans {env env1 env2 : List AV} {H H1 H2 : AH} (h : Wk env H env1 H1) (h' : Wk env1 H1 env2 H2) : Wk env H env2 H2 := fun w0 B w ι tmps hB hR hE => by
  obtain ⟨ι1, hR1, hE1⟩ := h w0 B w ι tmps hB hR hE
  exact h' w0 B w ι1 tmps hB hR1 hE1

/-- memory has grown, and other blocks may be read -/
theorem Rel.regrow {w0 : Base} {B B' : Nat → Prop} {w w' : World} {ι : Pl} {H : AH} (h : Rel w0 B w ι H) (hg : Gr w w') (hB : ∀ b, b < w.heap.size → B b → B' b) (hfut : ∀ b, w'.heap.size ≤ b → B' b) :
    Rel w0 B' w' ι H ∧ Keeps none w ι (Rd B ι H) w' ι (Rd B' ι H) := by
  have hk : Keeps none w ι (Rd B ι H) w' ι (Rd B' ι H) := ⟨hg.size, fun b hb hlt => ⟨⟨hB b hlt hb.1, hb.2⟩, hg.block b hlt⟩, fun _ _ _ _ h => h⟩
  exact ⟨⟨h.gr.trans hg, hfut, h.len, fun k b c s h1 h2 => ⟨(h.blk k b c s h1 h2).1, (h.blk k b c s h1 h2).2.keep0 hk fun c' e => by
    subst e
    exact hg.block c' (h.lt ⟨k, b, s, h1, h2⟩)⟩, h.inj⟩, hk⟩

/-- a value names no block from m on -/
def AV.low (m : Nat) : AV → Bool
  | .own k _ => decide (k < m)
  | .orw k _ _ => decide (k < m)
  | .osl k _ _ => decide (k < m)
  | .agg cs => lowL m cs
  | .tup cs => lowL m cs
  | .clo _ fs cs => lowL m fs && lowL m cs
  | _ => true
where lowL (m : Nat) : List AV → Bool
  | [] => true
  | a :: as => a.low m && lowL m as
theorem lowL_get {m : Nat} : ∀ {cs : List AV} {j : Nat} {a : AV}, AV.low.lowL m cs = true → cs[j]? = some a → a.low m = true
  | [], j, a, _, h => by simp at h
  | c :: cs, 0, a, hl, h => by
    simp only [AV.low.lowL, Bool.and_eq_true] at hl
    simp at h; subst h; exact hl.1
  | c :: cs, j + 1, a, hl, h => by
    simp only [AV.low.lowL, Bool.and_eq_true] at hl
    exact lowL_get hl.2 (by simpa using h)
def ABlk.low (m : Nat) : ABlk → Bool
  | .box cs _ _ => AV.low.lowL m cs
  | _ => true
def hlow (m : Nat) : AH → Bool
  | [] => true
  | some b :: r => b.low m && hlow m r
  | none :: r => hlow m r
theorem hlow_get {m : Nat} : ∀ {H : AH} {k : Nat} {b : ABlk}, hlow m H = true → H[k]? = some (some b) → b.low m = true
  | [], k, b, _, h => by simp at h
  | some c :: H, 0, b, hl, h => by
    simp only [hlow, Bool.and_eq_true] at hl
    simp at h; subst h; exact hl.1
  | none :: H, 0, b, hl, h => by simp at h
  | some c :: H, k + 1, b, hl, h => by
    simp only [hlow, Bool.and_eq_true] at hl
    exact hlow_get hl.2 (by simpa using h)
  | none :: H, k + 1, b, hl, h => by
    simp only [hlow] at hl
    exact hlow_get hl (by simpa using h)

theorem take_get {α : Type} {l : List α} {m k : Nat} (h : k < m) : (l.take m)[k]? = l[k]? := by rw [List.getElem?_take, if_pos h]
theorem take_get_some {α : Type} {l : List α} {m k : Nat} {x : α} (h : (l.take m)[k]? = some x) : k < m ∧ l[k]? = some x := by
  rw [List.getElem?_take] at h
  split at h
  · exact ⟨by assumption, h⟩
  · cases h

theorem Rep.trunc {w : World} {ι : Pl} {R R' : Nat → Prop} {m : Nat} (hk : ∀ b, R b → R' b) {a : AV} {v : Value} (h : Rep w ι R a v) (hl : a.low m = true) : Rep w (ι.take m) R' a v := by
  induction h with
  | p x v h => exact .p x v (h.keep (Nat.le_refl _) fun b hb _ => ⟨hk b hb, rfl⟩)
  | own k j c s h => exact .own k j c s (by rw [take_get (of_decide_eq_true hl)]; exact h)
  | orw k i j c s h => exact .orw k i j c s (by rw [take_get (of_decide_eq_true hl)]; exact h)
  | osl0 k i => exact .osl0 k i
  | osl k i n c cap s h hn hm hz => exact .osl k i n c cap s (by rw [take_get (of_decide_eq_true hl)]; exact h) hn hm hz
  | agg cs vs hlen hr ih => exact .agg cs vs hlen fun j a v ha hv => ih j a v ha hv (lowL_get hl ha)
  | tup cs vs hlen hr ih => exact .tup cs vs hlen fun j a v ha hv => ih j a v ha hv (lowL_get hl ha)
  | clo f fs cs us vs h1 hr h2 hr' ih ih' =>
    simp only [AV.low, Bool.and_eq_true] at hl
    exact .clo f fs cs us vs h1 (fun j a v ha hv => ih j a v ha hv (lowL_get hl.1 ha)) h2 (fun j a v ha hv => ih' j a v ha hv (lowL_get hl.2 ha))
  | junk v => exact .junk v
theorem BlkAt.trunc {w : World} {ι : Pl} {R R' : Nat → Prop} {m : Nat} (hk : ∀ b, R b → R' b) {c : Option Nat} {s : Nat × Nat} {b : ABlk} (h : BlkAt w ι R c s b) (hl : b.low m = true) : BlkAt w (ι.take m) R' c s b := by
  cases b with
  | box cs t g =>
    obtain ⟨hg, c', arr, e, h1, h2, h3⟩ := h
    refine ⟨hg, c', arr, e, h1, h2, fun j a ha => ?_⟩
    obtain ⟨v, hv, h1', hr⟩ := h3 j a ha
    exact ⟨v, hv, h1', hr.trunc hk (lowL_get hl ha)⟩
  | rows s' rs t =>
    obtain ⟨e, hlen, h⟩ := h
    refine ⟨e, hlen, ?_⟩
    rcases h with h | ⟨c', arr, e, h1, hz, h3⟩
    · exact .inl h
    · refine .inr ⟨c', arr, e, h1, hz, fun i j row a h4 h5 => ?_⟩
      obtain ⟨v, hv, h1', hr⟩ := h3 i j row a h4 h5
      exact ⟨v, hv, h1', hr.keep (Nat.le_refl _) fun b hb _ => ⟨hk b hb, rfl⟩⟩
  | iter str pos => exact h
theorem owned_take {ι : Pl} {H : AH} {m c : Nat} (h : Owned (ι.take m) (H.take m) c) : Owned ι H c := by
  obtain ⟨k, b, s, h1, h2⟩ := h
  exact ⟨k, b, s, (take_get_some h1).2, (take_get_some h2).2⟩
theorem rd_take {B : Nat → Prop} {ι : Pl} {H : AH} {m : Nat} : ∀ b, Rd B ι H b → Rd B (ι.take m) (H.take m) b := fun _ h => ⟨h.1, fun ho => h.2 (owned_take ho)⟩
theorem Rel.trunc {w0 : Base} {B : Nat → Prop} {w : World} {ι : Pl} {H : AH} {m : Nat} (h : Rel w0 B w ι H) (hl : hlow m (H.take m) = true) : Rel w0 B w (ι.take m) (H.take m) :=
  ⟨h.gr, h.fut, by simp [h.len], fun k b c s h1 h2 => ⟨(h.blk k b c s (take_get_some h1).2 (take_get_some h2).2).1, (h.blk k b c s (take_get_some h1).2 (take_get_some h2).2).2.trunc rd_take (hlow_get hl h1)⟩,
    fun k l b b' c s s' h1 h2 h3 h4 => h.inj k l b b' c s s' (take_get_some h1).2 (take_get_some h2).2 (take_get_some h3).2 (take_get_some h4).2⟩

/-- a value of the walk as data, where the walk is done with its blocks -/
def frz (E : SO) (H : AH) : AV → (PV → Prop) → Prop
  | .p x, K => K x
  | .osl k i n, K => (match H[k]? with
    | some (some (.rows s rs _)) => E.pre i n rs ∧ K (.ro s (E.sub rs i n))
    | _ => False)
  | .agg cs, K => frzL cs fun ps => K (.agg ps)
  | .tup cs, K => frzL cs fun ps => K (.tup ps)
  | _, _ => False
where frzL : List AV → (List PV → Prop) → Prop
  | [], K => K []
  | a :: as, K => frz E H a fun p => frzL as fun ps => K (p :: ps)

section
variable {w0 : Base} {B : Nat → Prop}
theorem repP_rd {w : World} {ι : Pl} {H : AH} {x : PV} {v : Value} (h : RepP w (Rd B ι H) x v) : RepP w B x v := h.keep (Nat.le_refl _) fun _ hb _ => ⟨hb.1, rfl⟩

theorem frz_sound {H : AH} {w : World} {ι : Pl} (hR : Rel w0 B w ι H) (hB : ∀ b, w0.own b → B b) : ∀ (a : AV) (v : Value) (K : PV → Prop), frz stdE H a K → Rep w ι (Rd B ι H) a v → ∃ p, K p ∧ RepP w B p v
  | .p x, v, K, h, hv => by
    cases hv with
    | p _ _ hv => exact ⟨x, h, repP_rd hv⟩
  | .osl k i n, v, K, h, hv => by
    unfold frz at h
    split at h
    · rename_i s rs t hk
      obtain ⟨hle, h⟩ := h
      change i + n ≤ rs.length at hle
      change K (.ro s ((rs.drop i).take n)) at h
      refine ⟨_, h, ?_⟩
      cases hv with
      | osl0 =>
        have e : (rs.drop i).take 0 = [] := by simp
        rw [e]; exact .ro0 _ _ _
      | osl _ _ _ c cap sz hi hn hm hz =>
        obtain ⟨es, hl, hh⟩ := (hR.blk k _ _ sz hk hi).2
        have hge := (hR.blk k _ _ sz hk hi).1 c rfl
        rcases hh with ⟨ec, _⟩ | ⟨c', arr, ec, hb, hz0, hcs⟩
        · cases ec
        cases ec
        have hlen : ((rs.drop i).take n).length = n := by rw [List.length_take, List.length_drop]; omega
        have hget : ∀ (q : Nat) (row : List PV), ((rs.drop i).take n)[q]? = some row → rs[i + q]? = some row := fun q row hr => (get_drop_take hr).1
        have hcell : ∀ (q j : Nat) (row : List PV) (a : PV), ((rs.drop i).take n)[q]? = some row → row[j]? = some a → ∃ u, (arr[(i + q) * sz.1 + j]?).getD undef = u ∧ w.cell? ⟨c, i * sz.1 + (q * s + j), none⟩ = some u ∧ u.oneCell' = true ∧ RepP w B a u := by
          intro q j row a hr ha
          obtain ⟨u, hu, h1, hru⟩ := hcs _ j row a (hget q row hr) ha
          have e2 : i * sz.1 + (q * s + j) = (i + q) * sz.1 + j := by rw [es, Nat.add_mul]; omega
          exact ⟨u, by rw [hu]; rfl, by rw [aget hb, e2]; exact hu, h1, repP_rd hru⟩
        have := RepP.ro (w := w) (R := B) s ((rs.drop i).take n) c (i * sz.1) cap (fun q j => (arr[(i + q) * sz.1 + j]?).getD undef) (hB c hge) (lt_of_heap hb) (by omega) (fun q row hr => by rw [es]; exact hl _ row (hget q row hr))
          (fun q j row a hr ha => by obtain ⟨u, e1, e2, e3, _⟩ := hcell q j row a hr ha; rw [e1]; exact ⟨e2, e3⟩) (fun q j row a hr ha => by obtain ⟨u, e1, _, _, e4⟩ := hcell q j row a hr ha; rw [e1]; exact e4)
        rw [hlen] at this
        exact this
    · cases h
  | .agg cs, v, K, h, hv => by
    unfold frz at h
    cases hv with
    | agg _ vs hl hr =>
      obtain ⟨ps, hK, hpl, hpr⟩ := frzL_sound hR hB cs vs _ hl hr h
      exact ⟨_, hK, .agg ps vs (by omega) hpr⟩
  | .tup cs, v, K, h, hv => by
    unfold frz at h
    cases hv with
    | tup _ vs hl hr =>
      obtain ⟨ps, hK, hpl, hpr⟩ := frzL_sound hR hB cs vs _ hl hr h
      exact ⟨_, hK, .tup ps vs (by omega) hpr⟩
  | .own _ _, _, _, h, _ => h.elim
  | .orw _ _ _, _, _, h, _ => h.elim
  | .junk, _, _, h, _ => h.elim
where frzL_sound {H : AH} {w : World} {ι : Pl} (hR : Rel w0 B w ι H) (hB : ∀ b, w0.own b → B b) : ∀ (as : List AV) (vs : List Value) (K : List PV → Prop), as.length = vs.length → (∀ (j : Nat) (a : AV) (v : Value), as[j]? = some a → vs[j]? = some v → Rep w ι (Rd B ι H) a v) → frz.frzL stdE H as K →
    ∃ ps, K ps ∧ ps.length = as.length ∧ ∀ (j : Nat) (p : PV) (v : Value), ps[j]? = some p → vs[j]? = some v → RepP w B p v
  | [], vs, K, hl, hr, h => ⟨[], h, rfl, fun j p v hp => by simp at hp⟩
  | a :: as, [], K, hl, hr, h => by simp at hl
  | a :: as, v :: vs, K, hl, hr, h => by
    unfold frz.frzL at h
    obtain ⟨p, hp, hpr⟩ := frz_sound hR hB a v _ h (hr 0 a v rfl rfl)
    obtain ⟨ps, hK, hpl, hps⟩ := frzL_sound hR hB as vs _ (by simpa using hl) (fun j b u hb hu => hr (j + 1) b u (by simpa using hb) (by simpa using hu)) hp
    refine ⟨p :: ps, hK, by simp [hpl], fun j q u hq hu => ?_⟩
    cases j with
    | zero => simp at hq hu; subst hq; subst hu; exact hpr
    | succ j => exact hps j q u (by simpa using hq) (by simpa using hu)

end
/-- data without references -/
def PV.flat : PV → Bool
  | .v _ => true
  | .e0 => true
  | .err => true
  | .agg cs => flatL cs
  | .tup cs => flatL cs
  | _ => false
where flatL : List PV → Bool
  | [] => true
  | a :: as => a.flat && flatL as
theorem flatL_get : ∀ {cs : List PV} {j : Nat} {a : PV}, PV.flat.flatL cs = true → cs[j]? = some a → a.flat = true
  | [], j, a, _, h => by simp at h
  | c :: cs, 0, a, hl, h => by
    simp only [PV.flat.flatL, Bool.and_eq_true] at hl
    simp at h; subst h; exact hl.1
  | c :: cs, j + 1, a, hl, h => by
    simp only [PV.flat.flatL, Bool.and_eq_true] at hl
    exact flatL_get hl.2 (by simpa using h)
theorem RepP.free {w w' : World} {R R' : Nat → Prop} {p : PV} {v : Value} (h : RepP w R p v) : p.flat = true → RepP w' R' p v := by
  induction h with
  | v x => exact fun _ => .v x
  | e0 A => exact fun _ => .e0 A
  | ro0 => exact fun h => by cases h
  | ro => exact fun h => by cases h
  | rop => exact fun h => by cases h
  | err t v => exact fun _ => .err t v
  | agg cs vs hl hr ih => exact fun h => .agg cs vs hl fun j a v ha hv => ih j a v ha hv (flatL_get h ha)
  | tup cs vs hl hr ih => exact fun h => .tup cs vs hl fun j a v ha hv => ih j a v ha hv (flatL_get h ha)

/-- blocks under other numbers -/
def AV.ren (f : Nat → Nat) : AV → AV
  | .own k j => .own (f k) j
  | .orw k i j => .orw (f k) i j
  | .osl k i n => .osl (f k) i n
  | .agg cs => .agg (renL f cs)
  | .tup cs => .tup (renL f cs)
  | .clo g fs cs => .clo g (renL f fs) (renL f cs)
  | a => a
where renL (f : Nat → Nat) : List AV → List AV
  | [] => []
  | a :: as => a.ren f :: renL f as
theorem renL_get (f : Nat → Nat) : ∀ (cs : List AV) (j : Nat), (AV.ren.renL f cs)[j]? = (cs[j]?).map (AV.ren f)
  | [], j => by simp [AV.ren.renL]
  | a :: as, 0 => by simp [AV.ren.renL]
  | a :: as, j + 1 => by simpa [AV.ren.renL] using renL_get f as j
theorem renL_len (f : Nat → Nat) : ∀ (cs : List AV), (AV.ren.renL f cs).length = cs.length
  | [] => rfl
  | a :: as => by simp [AV.ren.renL, renL_len f as]
theorem renL_get_some {f : Nat → Nat} {cs : List AV} {j : Nat} {a : AV} (h : (AV.ren.renL f cs)[j]? = some a) : ∃ b, cs[j]? = some b ∧ a = b.ren f := by
  rw [renL_get] at h
  cases hj : cs[j]? with
  | none => rw [hj] at h; cases h
  | some b => rw [hj] at h; cases h; exact ⟨b, rfl, rfl⟩
theorem Rep.ren {w : World} {ι ι2 : Pl} {R R' : Nat → Prop} {f : Nat → Nat} (hp : ∀ k c s, ι[k]? = some (some c, s) → ι2[f k]? = some (some c, s)) (hR : ∀ b, R b → b < w.heap.size → R' b) {a : AV} {v : Value} (h : Rep w ι R a v) : Rep w ι2 R' (a.ren f) v := by
  induction h with
  | p x v h => exact .p x v (h.keep (Nat.le_refl _) fun b hb hl => ⟨hR b hb hl, rfl⟩)
  | own k j c s h => exact .own _ j c s (hp k c s h)
  | orw k i j c s h => exact .orw _ i j c s (hp k c s h)
  | osl0 k i => exact .osl0 _ i
  | osl k i n c cap s h hn hm hz => exact .osl _ i n c cap s (hp k c s h) hn hm hz
  | agg cs vs hl hr ih => exact .agg _ vs (by rw [renL_len]; exact hl) fun j a v ha hv => by obtain ⟨b, hb, rfl⟩ := renL_get_some ha; exact ih j b v hb hv
  | tup cs vs hl hr ih => exact .tup _ vs (by rw [renL_len]; exact hl) fun j a v ha hv => by obtain ⟨b, hb, rfl⟩ := renL_get_some ha; exact ih j b v hb hv
  | clo g fs cs us vs hl hr hl' hr' ih ih' => exact .clo g _ _ us vs (by rw [renL_len]; exact hl) (fun j a v ha hv => by obtain ⟨b, hb, rfl⟩ := renL_get_some ha; exact ih j b v hb hv) (by rw [renL_len]; exact hl') (fun j a v ha hv => by obtain ⟨b, hb, rfl⟩ := renL_get_some ha; exact ih' j b v hb hv)
  | junk v => exact .junk v
theorem Rep.unren {w : World} {ι ι2 : Pl} {R R' : Nat → Prop} {f : Nat → Nat} {m : Nat} (hp : ∀ k c s, k < m → ι2[f k]? = some (some c, s) → ι[k]? = some (some c, s)) (hR : ∀ b, R b → b < w.heap.size → R' b) {b : AV} {v : Value} (h : Rep w ι2 R b v) : ∀ a : AV, b = a.ren f → a.low m = true → Rep w ι R' a v := by
  induction h with
  | p x v h =>
    intro a e hl
    cases a <;> simp [AV.ren] at e
    subst e; exact .p x v (h.keep (Nat.le_refl _) fun b hb hlt => ⟨hR b hb hlt, rfl⟩)
  | own k j c s h =>
    intro a e hl
    cases a <;> simp [AV.ren] at e
    obtain ⟨rfl, rfl⟩ := e
    exact .own _ _ c s (hp _ c s (of_decide_eq_true hl) h)
  | orw k i j c s h =>
    intro a e hl
    cases a <;> simp [AV.ren] at e
    obtain ⟨rfl, rfl, rfl⟩ := e
    exact .orw _ _ _ c s (hp _ c s (of_decide_eq_true hl) h)
  | osl0 k i =>
    intro a e hl
    cases a <;> simp [AV.ren] at e
    obtain ⟨rfl, rfl, rfl⟩ := e
    exact .osl0 _ _
  | osl k i n c cap s h hn hm hz =>
    intro a e hl
    cases a <;> simp [AV.ren] at e
    obtain ⟨rfl, rfl, rfl⟩ := e
    exact .osl _ _ _ c cap s (hp _ c s (of_decide_eq_true hl) h) hn hm hz
  | agg cs vs hl hr ih =>
    intro a e hlow
    cases a <;> simp [AV.ren] at e
    subst e
    exact .agg _ vs (by rw [← hl, renL_len]) fun j a v ha hv => ih j _ v (by rw [renL_get, ha]; rfl) hv a rfl (lowL_get hlow ha)
  | tup cs vs hl hr ih =>
    intro a e hlow
    cases a <;> simp [AV.ren] at e
    subst e
    exact .tup _ vs (by rw [← hl, renL_len]) fun j a v ha hv => ih j _ v (by rw [renL_get, ha]; rfl) hv a rfl (lowL_get hlow ha)
  | clo g fs cs us vs hl hr hl' hr' ih ih' =>
    intro a e hlow
    cases a <;> simp [AV.ren] at e
    obtain ⟨rfl, rfl, rfl⟩ := e
    simp only [AV.low, Bool.and_eq_true] at hlow
    exact .clo _ _ _ us vs (by rw [← hl, renL_len]) (fun j a v ha hv => ih j _ v (by rw [renL_get, ha]; rfl) hv a rfl (lowL_get hlow.1 ha)) (by rw [← hl', renL_len]) (fun j a v ha hv => ih' j _ v (by rw [renL_get, ha]; rfl) hv a rfl (lowL_get hlow.2 ha))
  | junk v =>
    intro a e hl
    cases a <;> simp [AV.ren] at e
    exact .junk v

/-- a block's number, seen from the caller: the lent ones, then new ones -/
def renK (σ : List Nat) (n k : Nat) : Nat := match σ[k]? with
  | some l => l
  | none => n + (k - σ.length)
/-- a block under the caller's numbers, with the caller's mark -/
def renB (f : Nat → Nat) (g : Option Nat) : ABlk → ABlk
  | .box cs t _ => .box (AV.ren.renL f cs) t g
  | b => b
def renO (f : Nat → Nat) (g : Option Nat) : Option ABlk → Option ABlk
  | some b => some (renB f g b)
  | none => none
def markOf : Option ABlk → Option Nat
  | some (.box _ _ g) => g
  | _ => none
def isBox : Option ABlk → Bool
  | some (.box _ _ _) => true
  | _ => false
/-- boxes are marked with their places -/
def tagB (c : Nat) : Option ABlk → Option ABlk
  | some (.box cs t _) => some (.box cs t (some c))
  | b => b
def tagH : List Nat → AH → AH
  | c :: cs, b :: H => tagB c b :: tagH cs H
  | [], H => H
  | _, [] => []
theorem tagH_len : ∀ (tags : List Nat) (H : AH), (tagH tags H).length = H.length
  | [], H => by simp [tagH]
  | c :: cs, [] => by simp [tagH]
  | c :: cs, b :: H => by simp [tagH, tagH_len cs H]
theorem tagH_get : ∀ (tags : List Nat) (H : AH) (k : Nat) (b : Option ABlk), (tagH tags H)[k]? = some b → ∃ b0, H[k]? = some b0 ∧ ((∃ c, tags[k]? = some c ∧ b = tagB c b0) ∨ (tags[k]? = none ∧ b = b0))
  | [], H, k, b, h => ⟨b, by simpa [tagH] using h, .inr ⟨by simp, rfl⟩⟩
  | c :: cs, [], k, b, h => by simp [tagH] at h
  | c :: cs, b0 :: H, 0, b, h => by
    simp [tagH] at h
    exact ⟨b0, rfl, .inl ⟨c, rfl, h.symm⟩⟩
  | c :: cs, b0 :: H, k + 1, b, h => by
    have := tagH_get cs H k b (by simpa [tagH] using h)
    simpa using this

/-- what a call ends with -/
def EndsA (w : World) (ι : Pl) (R : Nat → Prop) : AV → Ending → Prop
  | .p (.pan ch), e => e = .panicked ch
  | r, e => ∃ v, e = .returned v ∧ Rep w ι R r v
def AV.isPan : AV → Bool
  | .p (.pan _) => true
  | _ => false
theorem EndsA.val {w : World} {ι : Pl} {R : Nat → Prop} {r : AV} {e : Ending} (h : EndsA w ι R r e) (hp : r.isPan = false) : ∃ v, e = .returned v ∧ Rep w ι R r v := by
  cases r with
  | p x => cases x <;> first | exact h | cases hp
  | _ => exact h
theorem EndsA.ret {w : World} {ι : Pl} {R : Nat → Prop} {r : AV} {v : Value} (h : Rep w ι R r v) : EndsA w ι R r (.returned v) := by
  cases r with
  | p x =>
    cases x with
    | pan ch => cases h with
      | p _ _ h => cases h
    | _ => exact ⟨_, rfl, h⟩
  | _ => exact ⟨_, rfl, h⟩
/-- what a function does that is lent blocks: their places stand for the walk's own; what else there is, is only read -/
def RetM (P : Program) (G : World → Prop) (f : FuncId) (as : List AV) (H : AH) (r : AV) (H' : AH) : Prop :=
  (∀ (args : Array Value) (w : World), (callFunc f args).run P w = .ok (.enter f args) w) ∧
  ∀ (B : Nat → Prop) (w : World) (ι : Pl) (args : List Value) (tags : List Nat), tags.length = H.length → Can G ⟨w, Owned ι (tagH tags H)⟩ B w ι (tagH tags H) → Rel ⟨w, Owned ι (tagH tags H)⟩ B w ι (tagH tags H) →
    as.length = args.length → (∀ (j : Nat) (a : AV) (v : Value), as[j]? = some a → args[j]? = some v → Rep w ι (Rd B ι (tagH tags H)) a v) →
    Calls P f args.toArray w fun e w' => ∃ ι', Rel ⟨w, Owned ι (tagH tags H)⟩ B w' ι' (tagH tags H') ∧ EndsA w' ι' (Rd B ι' (tagH tags H')) r e
end Go.Proofs.YtlffpgjkhehdmaaDoor
