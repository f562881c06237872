/- Own work: lists of tokens that come in as arguments are read out of memory. -/
import Derived.Test.YtnhbboknffppiaaDoorYLJ1
import Derived.Test.YtnhbboknffppiaaDoorYLFrame
import Derived.ChangeMaps5
import Derived.Deep.Slices
namespace Go.Proofs.YtnhbboknffppiaaDoor
open Go.ChangeShapes Go.WideShapes Go.ChangeAt Go.RowKit Go.Deep Go.ChangeMaps
set_option linter.unusedVariables false
set_option linter.unusedSimpArgs false
set_option maxRecDepth 100000

def SlAt {α : Type} (w : World) (A : Option Addr) (s : Nat) (cells : α → List Value) (xs : List α) : Prop :=
  ∀ i x, xs[i]? = some x → ∃ b o, A = some ⟨b, o, none⟩ ∧ ∀ j v, (cells x)[j]? = some v → w.cell? ⟨b, o + (i * s + j), none⟩ = some v

theorem SlAt.nil {α : Type} {w : World} {A : Option Addr} {s : Nat} {cells : α → List Value} : SlAt w A s cells ([] : List α) := fun _ _ h => by simp at h

theorem list_of {α : Type} {n : Nat} {Q : Nat → α → Prop} (h : ∀ i, i < n → ∃ x, Q i x) : ∃ xs : List α, xs.length = n ∧ ∀ i x, xs[i]? = some x → Q i x := by
  induction n with
  | zero => exact ⟨[], rfl, fun i x hx => by simp at hx⟩
  | succ n ih =>
    obtain ⟨xs, hl, hx⟩ := ih fun i hi => h i (by omega)
    obtain ⟨y, hy⟩ := h n (by omega)
    refine ⟨xs ++ [y], by simp [hl], fun i x hi => ?_⟩
    by_cases hlt : i < xs.length
    · rw [List.getElem?_append_left hlt] at hi; exact hx i x hi
    · rw [List.getElem?_append_right (by omega)] at hi
      have : i - xs.length = 0 := by
        rcases Nat.eq_zero_or_pos (i - xs.length) with h0 | h0
        · exact h0
        · rw [List.getElem?_eq_none (by simp; omega)] at hi; cases hi
      rw [this] at hi
      obtain rfl : y = x := by simpa using hi
      obtain rfl : i = n := by omega
      exact hy

section
variable {H : Type} {enc : TypeId × Value → H} {w : World} {base : Nat} {spare : Nat → Bool} {held : Bool}

theorem cell_spot_none {w : World} {a : Addr} {v : Value} (h : w.cell? a = some v) : a.spot = none := by
  obtain ⟨b, o, sp⟩ := a
  cases sp with
  | none => rfl
  | some x =>
    unfold World.cell? at h
    split at h <;> simp at h

/-- a slice whose elements are read as α -/
theorem read_rows {α : Type} {t e : TypeId} {s : Nat} {cells : α → List Value} {Q : α → Prop} {fuel : Nat} {cs : List Value} {x : DataW H × List MemPlace} (ht : Tryd.prog.underlying t = some (.slice e)) (hs : Tryd.prog.cellsOf e = s) (hs0 : 0 < s)
    (hlen : ∀ a, (cells a).length = s)
    (hel : ∀ fuel cs x, DataW.trod enc Tryd.prog w base spare held fuel e cs = some x → ∃ a, cs = cells a ∧ Q a) (h : DataW.trod enc Tryd.prog w base spare held fuel t cs = some x) :
    ∃ (A : Option Addr) (xs : List α) (c : Nat), cs = [.slice A xs.length c] ∧ SlAt w A s cells xs ∧ (∀ a ∈ xs, Q a) ∧ xs.length ≤ c ∧ c ≤ maxLen := by
  rcases open_slice ht h with ⟨rfl, _⟩ | ⟨a, len, cap, m, n, D, Pl, rfl, _, hl, hm, hmm, _, hi⟩
  · exact ⟨none, [], 0, rfl, SlAt.nil, fun _ h => by simp at h, Nat.le_refl _, Nat.zero_le _⟩
  have hlm : len ≤ m := by rw [hmm]; split <;> omega
  obtain ⟨xs, hxl, hxs⟩ := list_of (n := len) (Q := fun i (y : α) => Q y ∧ ∀ j v, (cells y)[j]? = some v → w.cell? ((a.add (i * s)).add j) = some v) fun i hi' => by
    obtain ⟨cs', hc, ht'⟩ := hi i (by omega)
    rw [hs] at hc
    obtain ⟨y, rfl, hq⟩ := hel _ _ _ ht'
    obtain ⟨_, hcl, hat⟩ := World.cells?_some hc
    exact ⟨y, hq, fun j v hv => by rw [hat j (by rw [← hcl]; exact (List.getElem?_eq_some_iff.1 hv).1), hv]⟩
  refine ⟨some a, xs, cap, by rw [hxl], fun i y hy => ?_, fun y hy => ?_, by omega, hm⟩
  · have hlt : i < xs.length := (List.getElem?_eq_some_iff.1 hy).1
    have h0 : xs[0]? = some xs[0] := List.getElem?_eq_getElem (by omega)
    have hcs0 : 0 < (cells xs[0]).length := by rw [hlen]; exact hs0
    have hc0 := (hxs 0 _ h0).2 0 _ (List.getElem?_eq_getElem hcs0)
    have hsp : a.spot = none := by
      have := cell_spot_none hc0
      simpa [Addr.add] using this
    obtain ⟨b, o, sp⟩ := a
    simp only at hsp
    subst hsp
    refine ⟨b, o, rfl, fun j v hv => ?_⟩
    have := (hxs i y hy).2 j v hv
    have e : ((⟨b, o, none⟩ : Addr).add (i * s)).add j = ⟨b, o + (i * s + j), none⟩ := by
      unfold Addr.add
      by_cases h1 : i * s = 0 <;> by_cases h2 : j = 0 <;> simp [h1, h2, Nat.add_assoc]
    rw [e] at this
    exact this
  · obtain ⟨i, hi'⟩ := List.getElem?_of_mem hy
    exact (hxs i y hi').1

theorem c_int : Tryd.prog.cellsOf 3 = 1 := by kernel_rfl
theorem c_str : Tryd.prog.cellsOf 9 = 1 := by kernel_rfl
theorem c_tok : Tryd.prog.cellsOf 30 = 3 := by kernel_rfl
theorem len3 {α : Type} {l : List α} (h : l.length = 3) : ∃ a b c, l = [a, b, c] := by
  match l, h with
  | [a, b, c], _ => exact ⟨a, b, c, rfl⟩
def tokCells (x : TJ) : List Value := [.int .i64 x.k, .string x.t, .int .i64 x.a]
theorem tokCells_len (x : TJ) : (tokCells x).length = 3 := rfl
theorem read_tok (fuel : Nat) (cs : List Value) (x : DataW H × List MemPlace) (h : DataW.trod enc Tryd.prog w base spare held fuel 30 cs = some x) : ∃ i : TJ, cs = tokCells i ∧ True := by
  obtain ⟨ys, n, _, _, hcl, hyl, hf⟩ := DataW.trod_struct Tryd.underlying30 h
  rw [c_tok] at hcl
  obtain ⟨c0, c1, c2, rfl⟩ := len3 hcl
  obtain ⟨y0, y1, y2, rfl⟩ := len3 (show ys.length = 3 from hyl)
  have h0 : DataW.trod enc Tryd.prog w base spare held n 3 (([c0, c1, c2].drop 0).take (Tryd.prog.cellsOf 3)) = some y0 := hf 0 _ rfl
  rw [c_int] at h0
  have h1 : DataW.trod enc Tryd.prog w base spare held n 9 (([c0, c1, c2].drop 1).take (Tryd.prog.cellsOf 9)) = some y1 := hf 1 _ rfl
  rw [c_str] at h1
  have h2 : DataW.trod enc Tryd.prog w base spare held n 3 (([c0, c1, c2].drop 2).take (Tryd.prog.cellsOf 3)) = some y2 := hf 2 _ rfl
  rw [c_int] at h2
  obtain ⟨a, e0, _, w0⟩ := DataW.trod_int Tryd.underlying3 h0
  obtain ⟨b, e1, _, w1⟩ := DataW.trod_string Tryd.underlying9 h1
  obtain ⟨c, e2, _, w2⟩ := DataW.trod_int Tryd.underlying3 h2
  simp at e0 e1 e2
  subst e0 e1 e2
  exact ⟨⟨a, b, c⟩, rfl, trivial⟩
end
section
variable {w : World}
theorem rep_sl {α : Type} {s cap : Nat} {A : Option Addr} {cells : α → List Value} {pc : α → List PV} {xs : List α} (hs : ∀ x, (pc x).length = s) (hl : ∀ x, (cells x).length = s) (hpos : 0 < s) (hcap : xs.length ≤ cap) (h : SlAt w A s cells xs)
    (hone : ∀ x ∈ xs, ∀ (j : Nat) (v : Value), (cells x)[j]? = some v → v.oneCell' = true) (hr : ∀ x ∈ xs, ∀ (j : Nat) (a : PV) (v : Value), (pc x)[j]? = some a → (cells x)[j]? = some v → RepP w (fun _ => True) a v) : RepP w (fun _ => True) (.ro s (xs.map pc)) (.slice A xs.length cap) := by
  cases hx : xs with
  | nil => exact .ro0 _ _ _
  | cons x0 xs0 =>
    rw [← hx]
    obtain ⟨b, o, hA, hc0⟩ := h 0 x0 (by rw [hx]; rfl)
    have hat : ∀ (i : Nat) (x : α), xs[i]? = some x → ∀ (j : Nat) (v : Value), (cells x)[j]? = some v → w.cell? ⟨b, o + (i * s + j), none⟩ = some v := fun i x hi j v hv => by
      obtain ⟨b', o', hA', hc⟩ := h i x hi
      rw [hA] at hA'
      cases hA'
      exact hc j v hv
    obtain ⟨v0, hv0⟩ : ∃ v, (cells x0)[0]? = some v := ⟨_, List.getElem?_eq_getElem (by rw [hl]; exact hpos)⟩
    have hb : b < w.heap.size := block_lt_of_cell (hat 0 x0 (by rw [hx]; rfl) 0 v0 hv0)
    obtain ⟨vs, hvs⟩ : ∃ vs : Nat → Nat → Value, ∀ i j x v, xs[i]? = some x → (cells x)[j]? = some v → vs i j = v := ⟨fun i j => ((((xs[i]?).map cells).getD [])[j]?).getD undef, fun i j x v h1 h2 => by simp [h1, h2]⟩
    have key : ∀ (i j : Nat) (row : List PV) (a : PV), (xs.map pc)[i]? = some row → row[j]? = some a → ∃ x v, xs[i]? = some x ∧ (cells x)[j]? = some v ∧ (pc x)[j]? = some a := fun i j row a h1 h2 => by
      rw [List.getElem?_map] at h1
      cases hi : xs[i]? with
      | none => rw [hi] at h1; cases h1
      | some x =>
        rw [hi] at h1; cases h1
        have hj := (List.getElem?_eq_some_iff.1 h2).1
        rw [hs] at hj
        exact ⟨x, _, rfl, List.getElem?_eq_getElem (by rw [hl]; exact hj), h2⟩
    have := RepP.ro (w := w) (R := fun _ => True) s (xs.map pc) b o cap vs trivial hb (by simpa using hcap) (fun i row h1 => by
      rw [List.getElem?_map] at h1
      cases hi : xs[i]? with
      | none => rw [hi] at h1; cases h1
      | some x => rw [hi] at h1; cases h1; exact hs x) (fun i j row a h1 h2 => by
      obtain ⟨x, v, hx, hv, ha⟩ := key i j row a h1 h2
      rw [hvs i j x v hx hv]
      exact ⟨hat i x hx j v hv, hone x (List.mem_of_getElem? hx) j v hv⟩) (fun i j row a h1 h2 => by
      obtain ⟨x, v, hx, hv, ha⟩ := key i j row a h1 h2
      rw [hvs i j x v hx hv]
      exact hr x (List.mem_of_getElem? hx) j a v ha hv)
    rw [hA]
    simpa using this
theorem repV {α : Type} {cells : α → List Value} {pc : α → List PV} (hpc : ∀ x, pc x = (cells x).map .v) (x : α) (j : Nat) (a : PV) (v : Value) (h1 : (pc x)[j]? = some a) (h2 : (cells x)[j]? = some v) : RepP w (fun _ => True) a v := by
  rw [hpc, List.getElem?_map, h2] at h1
  cases h1
  exact .v _
theorem one_tok (x : TJ) (j : Nat) (v : Value) (h : (tokCells x)[j]? = some v) : v.oneCell' = true := by
  match j, h with
  | 0, h => cases h; rfl
  | 1, h => cases h; rfl
  | 2, h => cases h; rfl
  | j + 3, h => simp [tokCells] at h
end
/-- a list of tokens as an argument -/
theorem open_toks {H : Type} {enc : TypeId × Value → H} {w : World} {base : Nat} {spare : Nat → Bool} {held : Bool} {r : Reach} {b0 : Nat} {v : Value} {d : DataW H} {p : List MemPlace} (hv : Value.okWide Tryd.prog w r b0 23 v) (h : DataW.Trod enc Tryd.prog w base spare held 23 v d p) :
    ∃ L : List TJ, RepP w (fun _ => True) (.ro 3 (tjRows L)) v := by
  obtain ⟨A0, n0, c0, rfl⟩ := okWide_slice Tryd.underlying23 hv
  obtain ⟨fuel, hf⟩ := h
  have hf2 : DataW.trod enc Tryd.prog w base spare held fuel 23 [.slice A0 n0 c0] = some (d, p) := by simpa [Value.cells] using hf
  obtain ⟨A, L, c, e, hA, _, la, _⟩ := read_rows (cells := tokCells) (Q := fun _ => True) Tryd.underlying23 c_tok (by decide) tokCells_len read_tok hf2
  cases e
  exact ⟨L, rep_sl (cells := tokCells) (fun _ => rfl) tokCells_len (by decide) la hA (fun x _ => one_tok x) fun x _ => repV (cells := tokCells) (pc := tjRow) (fun _ => rfl) x⟩
end Go.Proofs.YtnhbboknffppiaaDoor
