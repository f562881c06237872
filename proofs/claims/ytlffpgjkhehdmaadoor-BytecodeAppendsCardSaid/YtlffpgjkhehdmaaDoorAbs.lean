/- Own work: what a value in memory reads as, without addresses (PV: data that is only read; AV: a value in a walk, with blocks of the walk's own), and that this lasts. -/
import Derived.Test.YtlffpgjkhehdmaaDoorRg
import Derived.Maps.AppendAt
import Derived.WalkKit
namespace Go.Proofs.YtlffpgjkhehdmaaDoor
open Go.RowKit

/-- data that is only read; pan: what a call comes to that panics; err: some interface value that is not nil -/
inductive PV where
  | v (x : Value)
  | e0
  | ro (s : Nat) (rows : List (List PV))
  | rop (row : List PV)
  | agg (cs : List PV)
  | tup (cs : List PV)
  | pan (ch : List PanicEntry)
  | err

/-- a value in a walk: p: data; own k j: a pointer to cell j of the own box k; orw k i j: to cell j of row i of the own row block k; osl k i n: n rows of block k from row i on; clo: a closure -/
inductive AV where
  | p (x : PV)
  | own (k j : Nat)
  | orw (k i j : Nat)
  | osl (k i n : Nat)
  | agg (cs : List AV)
  | tup (cs : List AV)
  | clo (f : FuncId) (fs cs : List AV)
  | junk

/-- a block of the walk's own; g: the place of a box that was lent -/
inductive ABlk where
  | box (cs : List AV) (t : TypeId) (g : Option Nat)
  | rows (s : Nat) (rs : List (List PV)) (t : TypeId)
  | iter (s : ByteArray) (pos : Nat)
abbrev AH := List (Option ABlk)
/-- where the own blocks lie, how many cells a row has, and how many the block -/
abbrev Pl := List (Option Nat × Nat × Nat)

inductive RepP (w : World) (R : Nat → Prop) : PV → Value → Prop
  | v (x : Value) : RepP w R (.v x) x
  | e0 (A : Option Addr) : RepP w R .e0 (.slice A 0 0)
  | ro0 (s : Nat) (A : Option Addr) (cap : Nat) : RepP w R (.ro s []) (.slice A 0 cap)
  | ro (s : Nat) (rows : List (List PV)) (b o cap : Nat) (vs : Nat → Nat → Value) (hR : R b) (hb : b < w.heap.size) (hcap : rows.length ≤ cap)
      (hs : ∀ (i : Nat) (row : List PV), rows[i]? = some row → row.length = s)
      (hc : ∀ (i j : Nat) (row : List PV) (a : PV), rows[i]? = some row → row[j]? = some a → w.cell? ⟨b, o + (i * s + j), none⟩ = some (vs i j) ∧ (vs i j).oneCell' = true)
      (hr : ∀ (i j : Nat) (row : List PV) (a : PV), rows[i]? = some row → row[j]? = some a → RepP w R a (vs i j)) :
      RepP w R (.ro s rows) (.slice (some ⟨b, o, none⟩) rows.length cap)
  | rop (row : List PV) (b o : Nat) (vs : Nat → Value) (hR : R b) (hb : b < w.heap.size)
      (hc : ∀ (j : Nat) (a : PV), row[j]? = some a → w.cell? ⟨b, o + j, none⟩ = some (vs j) ∧ (vs j).oneCell' = true)
      (hr : ∀ (j : Nat) (a : PV), row[j]? = some a → RepP w R a (vs j)) : RepP w R (.rop row) (.pointer (some ⟨b, o, none⟩))
  | agg (cs : List PV) (vs : List Value) (hl : cs.length = vs.length) (hr : ∀ (j : Nat) (a : PV) (v : Value), cs[j]? = some a → vs[j]? = some v → RepP w R a v) : RepP w R (.agg cs) (.agg vs.toArray)
  | tup (cs : List PV) (vs : List Value) (hl : cs.length = vs.length) (hr : ∀ (j : Nat) (a : PV) (v : Value), cs[j]? = some a → vs[j]? = some v → RepP w R a v) : RepP w R (.tup cs) (.tuple vs.toArray)
  | err (t : TypeId) (v : Value) : RepP w R .err (.iface t v)

theorem cell_same {w w' : World} {b o : Nat} (h : w'.heap[b]? = w.heap[b]?) : w'.cell? ⟨b, o, none⟩ = w.cell? ⟨b, o, none⟩ := World.cell?_of_block h

theorem RepP.keep {w w' : World} {R R' : Nat → Prop} (hsz : w.heap.size ≤ w'.heap.size) (hk : ∀ b, R b → b < w.heap.size → R' b ∧ w'.heap[b]? = w.heap[b]?) {p : PV} {v : Value} (h : RepP w R p v) : RepP w' R' p v := by
  induction h with
  | v x => exact .v x
  | e0 A => exact .e0 A
  | ro0 s A cap => exact .ro0 s A cap
  | ro s rows b o cap vs hR hb hcap hs hc hr ih =>
    have := hk b hR hb
    exact .ro s rows b o cap vs this.1 (by omega) hcap hs (fun i j row a h1 h2 => by rw [cell_same this.2]; exact hc i j row a h1 h2) ih
  | rop row b o vs hR hb hc hr ih =>
    have := hk b hR hb
    exact .rop row b o vs this.1 (by omega) (fun j a h1 => by rw [cell_same this.2]; exact hc j a h1) ih
  | agg cs vs hl hr ih => exact .agg cs vs hl ih
  | tup cs vs hl hr ih => exact .tup cs vs hl ih
  | err t v => exact .err t v

inductive Rep (w : World) (ι : Pl) (R : Nat → Prop) : AV → Value → Prop
  | p (x : PV) (v : Value) (h : RepP w R x v) : Rep w ι R (.p x) v
  | own (k j c : Nat) (s : Nat × Nat) (h : ι[k]? = some (some c, s)) : Rep w ι R (.own k j) (.pointer (some ⟨c, j, none⟩))
  | orw (k i j c : Nat) (s : Nat × Nat) (h : ι[k]? = some (some c, s)) : Rep w ι R (.orw k i j) (.pointer (some ⟨c, i * s.1 + j, none⟩))
  | osl0 (k i : Nat) : Rep w ι R (.osl k i 0) (.slice none 0 0)
  | osl (k i n c cap : Nat) (s : Nat × Nat) (h : ι[k]? = some (some c, s)) (hn : n ≤ cap) (hm : cap ≤ maxLen) (hz : s.2 = (i + cap) * s.1) :
      Rep w ι R (.osl k i n) (.slice (some ⟨c, i * s.1, none⟩) n cap)
  | agg (cs : List AV) (vs : List Value) (hl : cs.length = vs.length) (hr : ∀ (j : Nat) (a : AV) (v : Value), cs[j]? = some a → vs[j]? = some v → Rep w ι R a v) : Rep w ι R (.agg cs) (.agg vs.toArray)
  | tup (cs : List AV) (vs : List Value) (hl : cs.length = vs.length) (hr : ∀ (j : Nat) (a : AV) (v : Value), cs[j]? = some a → vs[j]? = some v → Rep w ι R a v) : Rep w ι R (.tup cs) (.tuple vs.toArray)
  | clo (f : FuncId) (fs cs : List AV) (us vs : List Value) (hl : fs.length = us.length) (hr : ∀ (j : Nat) (a : AV) (v : Value), fs[j]? = some a → us[j]? = some v → Rep w ι R a v)
      (hl' : cs.length = vs.length) (hr' : ∀ (j : Nat) (a : AV) (v : Value), cs[j]? = some a → vs[j]? = some v → Rep w ι R a v) : Rep w ι R (.clo f fs cs) (.func (.func f) us.toArray vs.toArray)
  | junk (v : Value) : Rep w ι R .junk v

/-- the blocks that are k -/
def one (k : Nat) : Nat → Bool := fun l => Nat.beq l k
theorem one_self (k : Nat) : one k k = true := by simp [one]
theorem one_ne {k l : Nat} (h : l ≠ k) : one k l = false := by
  unfold one
  cases hb : Nat.beq l k with
  | true => exact absurd (Nat.eq_of_beq_eq_true hb) h
  | false => rfl
/-- what is forgotten where blocks have been given up -/
def AV.scrub (p : Nat → Bool) : AV → AV
  | .own l j => (match p l with
    | true => .junk
    | false => .own l j)
  | .orw l i j => (match p l with
    | true => .junk
    | false => .orw l i j)
  | .osl l i n => (match p l with
    | true => .junk
    | false => .osl l i n)
  | .agg cs => .agg (scrubL p cs)
  | .tup cs => .tup (scrubL p cs)
  | .clo f fs cs => .clo f (scrubL p fs) (scrubL p cs)
  | a => a
where scrubL (p : Nat → Bool) : List AV → List AV
  | [] => []
  | a :: as => a.scrub p :: scrubL p as
theorem scrubL_get (p : Nat → Bool) : ∀ (cs : List AV) (j : Nat), (AV.scrub.scrubL p cs)[j]? = (cs[j]?).map (AV.scrub p)
  | [], j => by simp [AV.scrub.scrubL]
  | a :: as, 0 => by simp [AV.scrub.scrubL]
  | a :: as, j + 1 => by simpa [AV.scrub.scrubL] using scrubL_get p as j
theorem scrubL_len (p : Nat → Bool) : ∀ (cs : List AV), (AV.scrub.scrubL p cs).length = cs.length
  | [] => rfl
  | a :: as => by simp [AV.scrub.scrubL, scrubL_len p as]
def scrubO (sc : Option (Nat → Bool)) (a : AV) : AV := match sc with
  | some p => a.scrub p
  | none => a

/-- one state follows another; the blocks sc have been given up -/
structure Keeps (sc : Option (Nat → Bool)) (w : World) (ι : Pl) (R : Nat → Prop) (w' : World) (ι' : Pl) (R' : Nat → Prop) : Prop where
  size : w.heap.size ≤ w'.heap.size
  read : ∀ b, R b → b < w.heap.size → R' b ∧ w'.heap[b]? = w.heap[b]?
  place : ∀ (k c : Nat) (s : Nat × Nat), (∀ p, sc = some p → p k = false) → ι[k]? = some (some c, s) → ι'[k]? = some (some c, s)

theorem Rep.keep {sc : Option (Nat → Bool)} {w w' : World} {ι ι' : Pl} {R R' : Nat → Prop} (hk : Keeps sc w ι R w' ι' R') {a : AV} {v : Value} (h : Rep w ι R a v) : Rep w' ι' R' (scrubO sc a) v := by
  cases sc with
  | none =>
    unfold scrubO
    simp only
    induction h with
    | p x v h => exact .p x v (h.keep hk.size hk.read)
    | own k j c s h => exact .own k j c s (hk.place k _ _ (fun p e => by cases e) h)
    | orw k i j c s h => exact .orw k i j c s (hk.place k _ _ (fun p e => by cases e) h)
    | osl0 k i => exact .osl0 k i
    | osl k i n c cap s h hn hm hz => exact .osl k i n c cap s (hk.place k _ _ (fun p e => by cases e) h) hn hm hz
    | agg cs vs hl hr ih => exact .agg cs vs hl ih
    | tup cs vs hl hr ih => exact .tup cs vs hl ih
    | clo f fs cs us vs hl hr hl' hr' ih ih' => exact .clo f fs cs us vs hl ih hl' ih'
    | junk v => exact .junk v
  | some x =>
    unfold scrubO
    simp only
    induction h with
    | p y v h => exact .p y v (h.keep hk.size hk.read)
    | own k j c s h =>
      unfold AV.scrub
      split
      · exact .junk _
      · rename_i hne
        exact .own k j c s (hk.place k _ _ (fun p e => by cases e; exact hne) h)
    | orw k i j c s h =>
      unfold AV.scrub
      split
      · exact .junk _
      · rename_i hne
        exact .orw k i j c s (hk.place k _ _ (fun p e => by cases e; exact hne) h)
    | osl0 k i =>
      unfold AV.scrub
      split
      · exact .junk _
      · exact .osl0 k i
    | osl k i n c cap s h hn hm hz =>
      unfold AV.scrub
      split
      · exact .junk _
      · rename_i hne
        exact .osl k i n c cap s (hk.place k _ _ (fun p e => by cases e; exact hne) h) hn hm hz
    | agg cs vs hl hr ih =>
      unfold AV.scrub
      refine .agg _ vs (by rw [scrubL_len]; exact hl) fun j a v ha hv => ?_
      rw [scrubL_get] at ha
      cases hj : cs[j]? with
      | none => rw [hj] at ha; cases ha
      | some y => rw [hj] at ha; cases ha; exact ih j y v hj hv
    | tup cs vs hl hr ih =>
      unfold AV.scrub
      refine .tup _ vs (by rw [scrubL_len]; exact hl) fun j a v ha hv => ?_
      rw [scrubL_get] at ha
      cases hj : cs[j]? with
      | none => rw [hj] at ha; cases ha
      | some y => rw [hj] at ha; cases ha; exact ih j y v hj hv
    | clo f fs cs us vs hl hr hl' hr' ih ih' =>
      unfold AV.scrub
      refine .clo f _ _ us vs (by rw [scrubL_len]; exact hl) (fun j a v ha hv => ?_) (by rw [scrubL_len]; exact hl') (fun j a v ha hv => ?_)
      · rw [scrubL_get] at ha
        cases hj : fs[j]? with
        | none => rw [hj] at ha; cases ha
        | some y => rw [hj] at ha; cases ha; exact ih j y v hj hv
      · rw [scrubL_get] at ha
        cases hj : cs[j]? with
        | none => rw [hj] at ha; cases ha
        | some y => rw [hj] at ha; cases ha; exact ih' j y v hj hv
    | junk v => exact .junk v
theorem Rep.keep0 {w w' : World} {ι ι' : Pl} {R R' : Nat → Prop} (hk : Keeps none w ι R w' ι' R') {a : AV} {v : Value} (h : Rep w ι R a v) : Rep w' ι' R' a v := h.keep hk

/-- the concrete blocks that are the walk's own -/
def Owned (ι : Pl) (H : AH) (c : Nat) : Prop := ∃ (k : Nat) (b : ABlk) (s : Nat × Nat), H[k]? = some (some b) ∧ ι[k]? = some (some c, s)
/-- the blocks that are only read -/
def Rd (B : Nat → Prop) (ι : Pl) (H : AH) (b : Nat) : Prop := B b ∧ ¬ Owned ι H b

def BlkAt (w : World) (ι : Pl) (R : Nat → Prop) (c : Option Nat) (s : Nat × Nat) : ABlk → Prop
  | .box cs t g => (s = (0, 0) ∧ ∀ n, g = some n → c = some n) ∧ ∃ (c' : Nat) (arr : Array Value), c = some c' ∧ w.heap[c']? = some (.cells arr t (0, 0)) ∧ arr.size = cs.length ∧ ∀ (j : Nat) (a : AV), cs[j]? = some a → ∃ v, arr[j]? = some v ∧ v.oneCell' = true ∧ Rep w ι R a v
  | .rows s' rs t => s' = s.1 ∧ (∀ (i : Nat) (row : List PV), rs[i]? = some row → row.length = s.1) ∧ ((c = none ∧ rs = []) ∨ ∃ (c' : Nat) (arr : Array Value), c = some c' ∧ w.heap[c']? = some (.cells arr t (0, 0)) ∧ arr.size = s.2 ∧
      ∀ (i j : Nat) (row : List PV) (a : PV), rs[i]? = some row → row[j]? = some a → ∃ v, arr[i * s.1 + j]? = some v ∧ v.oneCell' = true ∧ RepP w R a v)
  | .iter str pos => ∃ (c' : Nat), c = some c' ∧ w.heap[c']? = some (.stringIter str pos)

/-- where a walk began, and the blocks that were lent to it -/
structure Base where
  w : World
  X : Nat → Prop
def Base.own (b : Base) (c : Nat) : Prop := b.X c ∨ b.w.heap.size ≤ c
/-- what is not lent is as it was -/
structure GrX (b : Base) (w : World) : Prop where
  os : w.os = b.w.os
  tape : w.tape = b.w.tape
  output : w.output = b.w.output
  size : b.w.heap.size ≤ w.heap.size
  block : ∀ k, k < b.w.heap.size → ¬ b.X k → w.heap[k]? = b.w.heap[k]?
theorem GrX.trans {b : Base} {w w' : World} (h : GrX b w) (hg : Gr w w') : GrX b w' :=
  ⟨hg.os.trans h.os, hg.tape.trans h.tape, hg.output.trans h.output, Nat.le_trans h.size hg.size, fun k hk hx => by
    have := h.size
    rw [hg.block k (by omega)]; exact h.block k hk hx⟩
/-- a walk to which nothing was lent -/
def Base.of (w : World) : Base := ⟨w, fun _ => False⟩
theorem GrX.of {w w' : World} (h : Gr w w') : GrX (Base.of w) w' := ⟨h.os, h.tape, h.output, h.size, fun k hk _ => h.block k hk⟩
theorem GrX.gr {w w' : World} (h : GrX (Base.of w) w') : Gr w w' := ⟨h.os, h.tape, h.output, h.size, fun k hk => h.block k hk id⟩

/-- the memory of a walk that began at w0; B: the blocks that may be read, if they are not the walk's own -/
structure Rel (w0 : Base) (B : Nat → Prop) (w : World) (ι : Pl) (H : AH) : Prop where
  gr : GrX w0 w
  fut : ∀ b, w.heap.size ≤ b → B b
  len : ι.length = H.length
  blk : ∀ (k : Nat) (b : ABlk) (c : Option Nat) (s : Nat × Nat), H[k]? = some (some b) → ι[k]? = some (c, s) → (∀ c', c = some c' → w0.own c') ∧ BlkAt w ι (Rd B ι H) c s b
  inj : ∀ (k l : Nat) (b b' : ABlk) (c : Nat) (s s' : Nat × Nat), H[k]? = some (some b) → H[l]? = some (some b') → ι[k]? = some (some c, s) → ι[l]? = some (some c, s') → k = l

theorem BlkAt.block {w : World} {ι : Pl} {R : Nat → Prop} {c : Nat} {s : Nat × Nat} {b : ABlk} (h : BlkAt w ι R (some c) s b) : ∃ o, w.heap[c]? = some o := by
  cases b with
  | box cs t g => obtain ⟨_, c', arr, e, h1, _⟩ := h; cases e; exact ⟨_, h1⟩
  | rows s' rs t =>
    obtain ⟨_, _, h | ⟨c', arr, e, h1, _⟩⟩ := h
    · cases h.1
    · cases e; exact ⟨_, h1⟩
  | iter str pos => obtain ⟨c', e, h1⟩ := h; cases e; exact ⟨_, h1⟩

theorem lt_of_heap {w : World} {c : Nat} {o : Obj} (h : w.heap[c]? = some o) : c < w.heap.size := (Array.getElem?_eq_some_iff.1 h).1
theorem Rel.lt {w0 : Base} {B : Nat → Prop} {w : World} {ι : Pl} {H : AH} (h : Rel w0 B w ι H) {c : Nat} (ho : Owned ι H c) : c < w.heap.size := by
  obtain ⟨k, b, s, h1, h2⟩ := ho
  obtain ⟨o, ho⟩ := (h.blk k b _ s h1 h2).2.block
  exact lt_of_heap ho
theorem Rel.ge {w0 : Base} {B : Nat → Prop} {w : World} {ι : Pl} {H : AH} (h : Rel w0 B w ι H) {c : Nat} (ho : Owned ι H c) : w0.own c := by
  obtain ⟨k, b, s, h1, h2⟩ := ho
  exact (h.blk k b _ s h1 h2).1 c rfl

/-- a block in which block sc is forgotten -/
def scrubA (sc : Option (Nat → Bool)) : ABlk → ABlk
  | .box cs t g => .box (cs.map (scrubO sc)) t g
  | b => b
/-- a block, carried on -/
theorem BlkAt.keep {sc : Option (Nat → Bool)} {w w' : World} {ι ι' : Pl} {R R' : Nat → Prop} (hk : Keeps sc w ι R w' ι' R') {c : Option Nat} {s : Nat × Nat} {b : ABlk}
    (hb : ∀ c', c = some c' → w'.heap[c']? = w.heap[c']?) (h : BlkAt w ι R c s b) :
    BlkAt w' ι' R' c s (scrubA sc b) := by
  cases b with
  | box cs t g =>
    obtain ⟨hg, c', arr, e, h1, h2, h3⟩ := h
    refine ⟨hg, c', arr, e, by rw [hb c' e]; exact h1, by simpa using h2, fun j a ha => ?_⟩
    rw [List.getElem?_map] at ha
    cases hj : cs[j]? with
    | none => rw [hj] at ha; cases ha
    | some y =>
      rw [hj] at ha; cases ha
      obtain ⟨v, hv, h1', hr⟩ := h3 j y hj
      exact ⟨v, hv, h1', hr.keep hk⟩
  | rows s' rs t =>
    obtain ⟨e, hl, h⟩ := h
    refine ⟨e, hl, ?_⟩
    rcases h with h | ⟨c', arr, e, h1, hz, h3⟩
    · exact .inl h
    · refine .inr ⟨c', arr, e, by rw [hb c' e]; exact h1, hz, fun i j row a h4 h5 => ?_⟩
      obtain ⟨v, hv, h1', hr⟩ := h3 i j row a h4 h5
      exact ⟨v, hv, h1', hr.keep hk.size hk.read⟩
  | iter str pos =>
    obtain ⟨c', e, h1⟩ := h
    exact ⟨c', e, by rw [hb c' e]; exact h1⟩
theorem BlkAt.keep0 {w w' : World} {ι ι' : Pl} {R R' : Nat → Prop} (hk : Keeps none w ι R w' ι' R') {c : Option Nat} {s : Nat × Nat} {b : ABlk}
    (hb : ∀ c', c = some c' → w'.heap[c']? = w.heap[c']?) (h : BlkAt w ι R c s b) : BlkAt w' ι' R' c s b := by
  have := h.keep hk hb
  cases b with
  | box cs t g =>
    have e : cs.map (scrubO none) = cs := by
      have : scrubO none = id := rfl
      rw [this, List.map_id]
    unfold scrubA at this
    simp only [e] at this
    exact this
  | rows s' rs t => exact this
  | iter str pos => exact this

/-- memory has only grown -/
theorem Keeps.gr {B : Nat → Prop} {w w' : World} {ι : Pl} {H : AH} (hg : Gr w w') : Keeps none w ι (Rd B ι H) w' ι (Rd B ι H) :=
  ⟨hg.size, fun b hb hlt => ⟨hb, hg.block b hlt⟩, fun _ _ _ _ h => h⟩
theorem Rel.grow {w0 : Base} {B : Nat → Prop} {w w' : World} {ι : Pl} {H : AH} (h : Rel w0 B w ι H) (hg : Gr w w') : Rel w0 B w' ι H :=
  ⟨h.gr.trans hg, fun b hb => h.fut b (Nat.le_trans hg.size hb), h.len, fun k b c s h1 h2 => ⟨(h.blk k b c s h1 h2).1, (h.blk k b c s h1 h2).2.keep0 (Keeps.gr hg) fun c' e => by
    subst e
    exact hg.block c' (h.lt ⟨k, b, s, h1, h2⟩)⟩, h.inj⟩
theorem Rel.size {w0 : Base} {B : Nat → Prop} {w : World} {ι : Pl} {H : AH} (h : Rel w0 B w ι H) : w0.w.heap.size ≤ w.heap.size := h.gr.size
end Go.Proofs.YtlffpgjkhehdmaaDoor
