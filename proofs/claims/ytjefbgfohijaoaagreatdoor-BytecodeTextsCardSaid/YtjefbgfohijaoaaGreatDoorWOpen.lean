/- Own work: programs that come in as arguments are read out of memory. -/
import Derived.Test.YtjefbgfohijaoaaGreatDoorWGF
import Derived.Test.YtjefbgfohijaoaaGreatDoorWBFrame
import Derived.Deep.Slices
namespace Go.Proofs.YtjefbgfohijaoaaGreatDoor
open Go.ChangeShapes Go.WideShapes Go.ChangeAt Go.RowKit Go.Deep
set_option linter.unusedVariables false
set_option linter.unusedSimpArgs false
theorem list_of {α : Type} {n : Nat} {Q : Nat -> α -> Prop} (h : ∀ i, i < n -> ∃ x, Q i x) : ∃ xs : List α, xs.length = n /\ ∀ i x, xs[i]? = some x -> Q i x := by
 induction n with
 | zero => exact ⟨[], rfl, fun i x hx => by simp at hx⟩
 | succ n ih =>
  obtain ⟨xs, hl, hx⟩ := ih fun i hi => h i (by omega)
  obtain ⟨y, hy⟩ := h n (by omega)
  refine ⟨xs ++ [y], by simp [hl], fun i x hi => ?_⟩
  by_cases hlt : i < xs.length
  ·rw [List.getElem?_append_left hlt] at hi; exact hx i x hi
  ·rw [List.getElem?_append_right (by omega)] at hi
   have : i - xs.length = 0 := by
    rcases Nat.eq_zero_or_pos (i - xs.length) with h0 | h0
    ·exact h0
    ·rw [List.getElem?_eq_none (by simp; omega)] at hi; cases hi
   rw [this] at hi
   obtain rfl : y = x := by simpa using hi
   obtain rfl : i = n := by omega
   exact hy
section
variable {H : Type} {enc : TypeId × Value -> H} {w : World} {base : Nat} {spare : Nat -> Bool} {held : Bool}
theorem cell_spot_none {w : World} {a : Addr} {v : Value} (h : w.cell? a = some v) : a.spot = none := by
 obtain ⟨b, o, sp⟩ := a
 cases sp with
 | none => rfl
 | some x =>
  unfold World.cell? at h
  split at h <;> simp at h
theorem read_rows {α : Type} {t e : TypeId} {s : Nat} {cells : α -> List Value} {Q : α -> Prop} {fuel : Nat} {cs : List Value} {x : DataW H × List MemPlace} (ht : Tryz.prog.underlying t = some (.slice e)) (hs : Tryz.prog.cellsOf e = s) (hs0 : 0 < s)
  (hlen : ∀ a, (cells a).length = s)
  (hel : ∀ fuel cs x, DataW.trod enc Tryz.prog w base spare held fuel e cs = some x -> ∃ a, cs = cells a /\ Q a) (h : DataW.trod enc Tryz.prog w base spare held fuel t cs = some x) :
  ∃ (A : Option Addr) (xs : List α) (c : Nat), cs = [.slice A xs.length c] /\ SlAt w A s cells xs /\ (∀ a ∈ xs, Q a) /\ xs.length <= c /\ c <= maxLen := by
 rcases open_slice ht h with ⟨rfl, _⟩ | ⟨a, len, cap, m, n, D, Pl, rfl, _, hl, hm, hmm, _, hi⟩
 ·exact ⟨none, [], 0, rfl, SlAt.nil, fun _ h => by simp at h, Nat.le_refl _, Nat.zero_le _⟩
 have hlm : len <= m := by rw [hmm]; split <;> omega
 obtain ⟨xs, hxl, hxs⟩ := list_of (n := len) (Q := fun i (y : α) => Q y /\ ∀ j v, (cells y)[j]? = some v -> w.cell? ((a.add (i * s)).add j) = some v) fun i hi' => by
  obtain ⟨cs', hc, ht'⟩ := hi i (by omega)
  rw [hs] at hc
  obtain ⟨y, rfl, hq⟩ := hel _ _ _ ht'
  obtain ⟨_, hcl, hat⟩ := World.cells?_some hc
  exact ⟨y, hq, fun j v hv => by rw [hat j (by rw [<-hcl]; exact (List.getElem?_eq_some_iff.1 hv).1), hv]⟩
 refine ⟨some a, xs, cap, by rw [hxl], fun i y hy => ?_, fun y hy => ?_, by omega, hm⟩
 ·have hlt : i < xs.length := (List.getElem?_eq_some_iff.1 hy).1
  have h0 : xs[0]? = some xs[0] := List.getElem?_eq_getElem (by omega)
  have hcs0 : 0 < (cells xs[0]).length := by rw [hlen]; exact hs0
  have hc0 := (hxs 0 _ h0).2 0 _ (List.getElem?_eq_getElem hcs0)
  have hsp : a.spot = none := by
   have := cell_spot_none hc0
   simpa [Addr.add] using this
  obtain ⟨b, o, sp⟩ := a
  simp only at hsp
  subst hsp
  refine ⟨b, o, rfl, fun j v hv => ?_⟩
  have := (hxs i y hy).2 j v hv
  have e : ((⟨b, o, none⟩ : Addr).add (i * s)).add j = ⟨b, o + (i * s + j), none⟩ := by
   unfold Addr.add
   by_cases h1 : i * s = 0 <;> by_cases h2 : j = 0 <;> simp [h1, h2, Nat.add_assoc]
  rw [e] at this
  exact this
 ·obtain ⟨i, hi'⟩ := List.getElem?_of_mem hy
  exact (hxs i y hi').1
theorem c_int : Tryz.prog.cellsOf 3 = 1 := by kernel_rfl
theorem c_int64 : Tryz.prog.cellsOf 2 = 1 := by kernel_rfl
theorem c_str : Tryz.prog.cellsOf 9 = 1 := by kernel_rfl
theorem c_s1 : Tryz.prog.cellsOf 29 = 1 := by kernel_rfl
theorem c_s2 : Tryz.prog.cellsOf 30 = 1 := by kernel_rfl
theorem c_s3 : Tryz.prog.cellsOf 31 = 1 := by kernel_rfl
theorem c_s4 : Tryz.prog.cellsOf 22 = 1 := by kernel_rfl
theorem c_ins : Tryz.prog.cellsOf 41 = 3 := by kernel_rfl
theorem c_cst : Tryz.prog.cellsOf 47 = 3 := by kernel_rfl
theorem c_hdl : Tryz.prog.cellsOf 58 = 5 := by kernel_rfl
theorem c_fn : Tryz.prog.cellsOf 33 = 7 := by kernel_rfl
theorem c_prog : Tryz.prog.cellsOf 24 = 1 := by kernel_rfl
def I64 (n : Int) : Prop := -9223372036854775808 <= n /\ n <= 9223372036854775807
theorem i64_of_wf {n : Int} (h : (Lit.int .i64 n).wf = true) : I64 n := by
 simpa [Lit.wf, IntKind.min, IntKind.max, IntKind.signed, IntKind.bits, I64] using h
structure InsWf (x : Ins) : Prop where
 op : I64 x.op
 a : I64 x.a
 b : I64 x.b
structure CstWf (c : Cst) : Prop where
 kind : I64 c.kind
 int : I64 c.int
 str : c.str.size <= 9223372036854775807
structure HdlWf (h : Hdl) : Prop where
 lo : I64 h.lo
 hi : I64 h.hi
 tg : I64 h.tg
 dp : I64 h.dp
 sc : I64 h.sc
theorem len3 {α : Type} {l : List α} (h : l.length = 3) : ∃ a b c, l = [a, b, c] := by
 match l, h with
 | [a, b, c], _ => exact ⟨a, b, c, rfl⟩
theorem len5 {α : Type} {l : List α} (h : l.length = 5) : ∃ a b c d e, l = [a, b, c, d, e] := by
 match l, h with
 | [a, b, c, d, e], _ => exact ⟨a, b, c, d, e, rfl⟩
theorem len7 {α : Type} {l : List α} (h : l.length = 7) : ∃ a b c d e f g, l = [a, b, c, d, e, f, g] := by
 match l, h with
 | [a, b, c, d, e, f, g], _ => exact ⟨a, b, c, d, e, f, g, rfl⟩
theorem read_ins (fuel : Nat) (cs : List Value) (x : DataW H × List MemPlace) (h : DataW.trod enc Tryz.prog w base spare held fuel 41 cs = some x) : ∃ i : Ins, cs = insCells i /\ InsWf i := by
 obtain ⟨ys, n, _, _, hcl, hyl, hf⟩ := DataW.trod_struct Tryz.underlying41 h
 rw [c_ins] at hcl
 obtain ⟨c0, c1, c2, rfl⟩ := len3 hcl
 obtain ⟨y0, y1, y2, rfl⟩ := len3 (show ys.length = 3 from hyl)
 have h0 : DataW.trod enc Tryz.prog w base spare held n 3 (([c0, c1, c2].drop 0).take (Tryz.prog.cellsOf 3)) = some y0 := hf 0 _ rfl
 rw [c_int] at h0
 have h1 : DataW.trod enc Tryz.prog w base spare held n 3 (([c0, c1, c2].drop 1).take (Tryz.prog.cellsOf 3)) = some y1 := hf 1 _ rfl
 rw [c_int] at h1
 have h2 : DataW.trod enc Tryz.prog w base spare held n 3 (([c0, c1, c2].drop 2).take (Tryz.prog.cellsOf 3)) = some y2 := hf 2 _ rfl
 rw [c_int] at h2
 obtain ⟨a, e0, _, w0⟩ := DataW.trod_int Tryz.underlying3 h0
 obtain ⟨b, e1, _, w1⟩ := DataW.trod_int Tryz.underlying3 h1
 obtain ⟨c, e2, _, w2⟩ := DataW.trod_int Tryz.underlying3 h2
 simp at e0 e1 e2
 subst e0 e1 e2
 exact ⟨⟨a, b, c⟩, rfl, i64_of_wf w0, i64_of_wf w1, i64_of_wf w2⟩
theorem read_cst (fuel : Nat) (cs : List Value) (x : DataW H × List MemPlace) (h : DataW.trod enc Tryz.prog w base spare held fuel 47 cs = some x) : ∃ i : Cst, cs = cstCells i /\ CstWf i := by
 obtain ⟨ys, n, _, _, hcl, hyl, hf⟩ := DataW.trod_struct Tryz.underlying47 h
 rw [c_cst] at hcl
 obtain ⟨c0, c1, c2, rfl⟩ := len3 hcl
 obtain ⟨y0, y1, y2, rfl⟩ := len3 (show ys.length = 3 from hyl)
 have h0 : DataW.trod enc Tryz.prog w base spare held n 3 (([c0, c1, c2].drop 0).take (Tryz.prog.cellsOf 3)) = some y0 := hf 0 _ rfl
 rw [c_int] at h0
 have h1 : DataW.trod enc Tryz.prog w base spare held n 2 (([c0, c1, c2].drop 1).take (Tryz.prog.cellsOf 2)) = some y1 := hf 1 _ rfl
 rw [c_int64] at h1
 have h2 : DataW.trod enc Tryz.prog w base spare held n 9 (([c0, c1, c2].drop 2).take (Tryz.prog.cellsOf 9)) = some y2 := hf 2 _ rfl
 rw [c_str] at h2
 obtain ⟨a, e0, _, w0⟩ := DataW.trod_int Tryz.underlying3 h0
 obtain ⟨b, e1, _, w1⟩ := DataW.trod_int Tryz.underlying2 h1
 obtain ⟨c, e2, _, w2⟩ := DataW.trod_string Tryz.underlying9 h2
 simp at e0 e1 e2
 subst e0 e1 e2
 exact ⟨⟨a, b, c⟩, rfl, i64_of_wf w0, i64_of_wf w1, w2⟩
theorem read_hdl (fuel : Nat) (cs : List Value) (x : DataW H × List MemPlace) (h : DataW.trod enc Tryz.prog w base spare held fuel 58 cs = some x) : ∃ i : Hdl, cs = hdlCells i /\ HdlWf i := by
 obtain ⟨ys, n, _, _, hcl, hyl, hf⟩ := DataW.trod_struct Tryz.underlying58 h
 rw [c_hdl] at hcl
 obtain ⟨c0, c1, c2, c3, c4, rfl⟩ := len5 hcl
 obtain ⟨y0, y1, y2, y3, y4, rfl⟩ := len5 (show ys.length = 5 from hyl)
 have h0 : DataW.trod enc Tryz.prog w base spare held n 3 (([c0, c1, c2, c3, c4].drop 0).take (Tryz.prog.cellsOf 3)) = some y0 := hf 0 _ rfl
 rw [c_int] at h0
 have h1 : DataW.trod enc Tryz.prog w base spare held n 3 (([c0, c1, c2, c3, c4].drop 1).take (Tryz.prog.cellsOf 3)) = some y1 := hf 1 _ rfl
 rw [c_int] at h1
 have h2 : DataW.trod enc Tryz.prog w base spare held n 3 (([c0, c1, c2, c3, c4].drop 2).take (Tryz.prog.cellsOf 3)) = some y2 := hf 2 _ rfl
 rw [c_int] at h2
 have h3 : DataW.trod enc Tryz.prog w base spare held n 3 (([c0, c1, c2, c3, c4].drop 3).take (Tryz.prog.cellsOf 3)) = some y3 := hf 3 _ rfl
 rw [c_int] at h3
 have h4 : DataW.trod enc Tryz.prog w base spare held n 3 (([c0, c1, c2, c3, c4].drop 4).take (Tryz.prog.cellsOf 3)) = some y4 := hf 4 _ rfl
 rw [c_int] at h4
 obtain ⟨a, e0, _, w0⟩ := DataW.trod_int Tryz.underlying3 h0
 obtain ⟨b, e1, _, w1⟩ := DataW.trod_int Tryz.underlying3 h1
 obtain ⟨c, e2, _, w2⟩ := DataW.trod_int Tryz.underlying3 h2
 obtain ⟨d, e3, _, w3⟩ := DataW.trod_int Tryz.underlying3 h3
 obtain ⟨e, e4, _, w4⟩ := DataW.trod_int Tryz.underlying3 h4
 simp at e0 e1 e2 e3 e4
 subst e0 e1 e2 e3 e4
 exact ⟨⟨a, b, c, d, e⟩, rfl, i64_of_wf w0, i64_of_wf w1, i64_of_wf w2, i64_of_wf w3, i64_of_wf w4⟩
structure FnFull (w : World) (r : FnRef) : Prop where
 at_ : FnAt w r.A r.B r.C r.f
 wf : FnWf r
 kind : I64 r.f.kind
 params : I64 r.f.params
 locals : I64 r.f.locals
 code : ∀ x ∈ r.f.code, InsWf x
 consts : ∀ x ∈ r.f.consts, CstWf x
 hdls : ∀ x ∈ r.f.hdls, HdlWf x
 la : r.f.code.length <= r.ca
 lb : r.f.consts.length <= r.cb
 lc : r.f.hdls.length <= r.cc
 ma : r.ca <= maxLen
 mb : r.cb <= maxLen
 mc : r.cc <= maxLen
theorem read_fn (fuel : Nat) (cs : List Value) (x : DataW H × List MemPlace) (h : DataW.trod enc Tryz.prog w base spare held fuel 33 cs = some x) : ∃ r : FnRef, cs = fnCells r /\ FnFull w r := by
 obtain ⟨ys, n, _, _, hcl, hyl, hf⟩ := DataW.trod_struct Tryz.underlying33 h
 rw [c_fn] at hcl
 obtain ⟨c0, c1, c2, c3, c4, c5, c6, rfl⟩ := len7 hcl
 obtain ⟨y0, y1, y2, y3, y4, y5, y6, rfl⟩ := len7 (show ys.length = 7 from hyl)
 have h0 : DataW.trod enc Tryz.prog w base spare held n 9 (([c0, c1, c2, c3, c4, c5, c6].drop 0).take (Tryz.prog.cellsOf 9)) = some y0 := hf 0 _ rfl
 rw [c_str] at h0
 have h1 : DataW.trod enc Tryz.prog w base spare held n 3 (([c0, c1, c2, c3, c4, c5, c6].drop 1).take (Tryz.prog.cellsOf 3)) = some y1 := hf 1 _ rfl
 rw [c_int] at h1
 have h2 : DataW.trod enc Tryz.prog w base spare held n 3 (([c0, c1, c2, c3, c4, c5, c6].drop 2).take (Tryz.prog.cellsOf 3)) = some y2 := hf 2 _ rfl
 rw [c_int] at h2
 have h3 : DataW.trod enc Tryz.prog w base spare held n 3 (([c0, c1, c2, c3, c4, c5, c6].drop 3).take (Tryz.prog.cellsOf 3)) = some y3 := hf 3 _ rfl
 rw [c_int] at h3
 have h4 : DataW.trod enc Tryz.prog w base spare held n 29 (([c0, c1, c2, c3, c4, c5, c6].drop 4).take (Tryz.prog.cellsOf 29)) = some y4 := hf 4 _ rfl
 rw [c_s1] at h4
 have h5 : DataW.trod enc Tryz.prog w base spare held n 30 (([c0, c1, c2, c3, c4, c5, c6].drop 5).take (Tryz.prog.cellsOf 30)) = some y5 := hf 5 _ rfl
 rw [c_s2] at h5
 have h6 : DataW.trod enc Tryz.prog w base spare held n 31 (([c0, c1, c2, c3, c4, c5, c6].drop 6).take (Tryz.prog.cellsOf 31)) = some y6 := hf 6 _ rfl
 rw [c_s3] at h6
 obtain ⟨nm, e0, _, w0⟩ := DataW.trod_string Tryz.underlying9 h0
 obtain ⟨kd, e1, _, w1⟩ := DataW.trod_int Tryz.underlying3 h1
 obtain ⟨pr, e2, _, w2⟩ := DataW.trod_int Tryz.underlying3 h2
 obtain ⟨lo, e3, _, w3⟩ := DataW.trod_int Tryz.underlying3 h3
 obtain ⟨A, code, ca, e4, hA, qA, la, ma⟩ := read_rows (cells := insCells) (Q := InsWf) Tryz.underlying29 c_ins (by decide) insCells_len read_ins h4
 obtain ⟨B, consts, cb, e5, hB, qB, lb, mb⟩ := read_rows (cells := cstCells) (Q := CstWf) Tryz.underlying30 c_cst (by decide) cstCells_len read_cst h5
 obtain ⟨C, hdls, cc, e6, hC, qC, lc, mc⟩ := read_rows (cells := hdlCells) (Q := HdlWf) Tryz.underlying31 c_hdl (by decide) hdlCells_len read_hdl h6
 simp at e0 e1 e2 e3 e4 e5 e6
 subst e0 e1 e2 e3 e4 e5 e6
 have hm : maxLen = 9223372036854775807 := rfl
 refine ⟨⟨⟨nm, kd, pr, lo, code, consts, hdls⟩, A, B, C, ca, cb, cc⟩, rfl, ⟨hA, hB, hC⟩, ⟨w0, ?_, ?_, ?_, fun c hc => (qB c hc).str⟩, i64_of_wf w1, i64_of_wf w2, i64_of_wf w3, qA, qB, qC, la, lb, lc, ma, mb, mc⟩
 ·exact Nat.le_trans la (hm ▸ ma)
 ·exact Nat.le_trans lb (hm ▸ mb)
 ·exact Nat.le_trans lc (hm ▸ mc)
set_option maxRecDepth 100000 in
theorem open_prog {r : Reach} {b0 : Nat} {v : Value} {d : DataW H} {p : List MemPlace} (hv : Value.okWide Tryz.prog w r b0 24 v) (h : DataW.Trod enc Tryz.prog w base spare held 24 v d p) :
  ∃ (A : Option Addr) (rs : List FnRef) (c : Nat), v = .agg #[.slice A rs.length c] /\ ProgAt w A rs /\ (∀ r ∈ rs, FnFull w r) /\ rs.length <= c /\ c <= maxLen := by
 obtain ⟨cs, rfl, hsz⟩ := okWide_struct Tryz.underlying24 hv
 obtain ⟨fuel, hf⟩ := h
 obtain ⟨ys, n, _, _, hcl, hyl, hfs⟩ := DataW.trod_struct Tryz.underlying24 hf
 rw [c_prog] at hcl
 obtain ⟨c0, hc0⟩ := List.length_eq_one_iff.1 hcl
 obtain ⟨y0, rfl⟩ := List.length_eq_one_iff.1 (show ys.length = 1 from hyl)
 rw [hc0] at hfs
 have h0 : DataW.trod enc Tryz.prog w base spare held n 22 (([c0].drop 0).take (Tryz.prog.cellsOf 22)) = some y0 := hfs 0 _ rfl
 rw [c_s4] at h0
 obtain ⟨A, rs, c, e, hA, q, la, ma⟩ := read_rows (cells := fnCells) (Q := FnFull w) Tryz.underlying22 c_fn (by decide) fnCells_len read_fn h0
 simp at e
 subst e
 refine ⟨A, rs, c, ?_, ⟨hA, fun r hr => (q r hr).at_, fun r hr => (q r hr).wf⟩, q, la, ma⟩
 have hc1 : cs.toList = [.slice A rs.length c] := hc0
 rw [<-Array.toArray_toList (xs := cs), hc1]
end
end Go.Proofs.YtjefbgfohijaoaaGreatDoor
