/- Own work: an argument of type api.ValueValue, from what the card hands over to the data of the walk. -/
import Derived.Test.YtadgpchdlkiinaaDoorVFrame
import Derived.Test.YtadgpchdlkiinaaDoorV1
import Derived.Carry
namespace Go.Proofs.YtadgpchdlkiinaaDoor
open Go.ChangeShapes Go.WideShapes Go.ChangeAt Go.RowKit Go.Lib Go.Shelf

set_option maxRecDepth 100000
theorem laid_out : laidOutB Tryd.prog = true := by kernel_rfl
theorem c_val : Tryd.prog.cellsOf 23 = 4 := by kernel_rfl
theorem c_int : Tryd.prog.cellsOf 3 = 1 := by kernel_rfl
theorem c_i64 : Tryd.prog.cellsOf 2 = 1 := by kernel_rfl
theorem c_str : Tryd.prog.cellsOf 9 = 1 := by kernel_rfl
def In64 (n : Int) : Prop := -9223372036854775808 ≤ n ∧ n ≤ 9223372036854775807
structure ValOk (v : Val) : Prop where
  k : In64 v.k
  n : In64 v.n
  r : In64 v.r
  s : v.s.size ≤ maxLen
def Val.cell (v : Val) : Value := .agg #[.int .i64 v.k, .int .i64 v.n, .string v.s, .int .i64 v.r]
section
variable {H : Type} {enc : TypeId × Value → H} {w : World} {base : Nat} {spare : Nat → Bool} {held : Bool}
theorem four {cs : List Value} (h : cs.length = 4) : ∃ a b c d, cs = [a, b, c, d] := by
  match cs, h with
  | [a, b, c, d], _ => exact ⟨a, b, c, d, rfl⟩
theorem open_val {r : Reach} {b0 : Nat} {v : Value} {d : DataW H} {p : List MemPlace} (hv : Value.okWide Tryd.prog w r b0 23 v) (h : DataW.Trod enc Tryd.prog w base spare held 23 v d p) :
    ∃ x : Val, v = x.cell ∧ ValOk x := by
  obtain ⟨cs, rfl, hsz⟩ := okWide_struct Tryd.underlying23 hv
  obtain ⟨fuel, hf⟩ := h
  obtain ⟨ys, n, _, _, hcl, hyl, hfs⟩ := DataW.trod_struct Tryd.underlying23 hf
  rw [c_val] at hcl
  obtain ⟨c0, c1, c2, c3, hc⟩ := four hcl
  have hy : ∀ i, i < 4 → ∃ y, ys[i]? = some y := fun i hi => ⟨ys[i]'(by rw [hyl]; exact hi), List.getElem?_eq_getElem _⟩
  obtain ⟨y0, e0⟩ := hy 0 (by decide)
  obtain ⟨y1, e1⟩ := hy 1 (by decide)
  obtain ⟨y2, e2⟩ := hy 2 (by decide)
  obtain ⟨y3, e3⟩ := hy 3 (by decide)
  rw [hc] at hfs
  have h0 : DataW.trod enc Tryd.prog w base spare held n 3 (([c0, c1, c2, c3].drop 0).take (Tryd.prog.cellsOf 3)) = some y0 := (hfs 0 _ rfl).trans e0
  have h1 : DataW.trod enc Tryd.prog w base spare held n 2 (([c0, c1, c2, c3].drop 1).take (Tryd.prog.cellsOf 2)) = some y1 := (hfs 1 _ rfl).trans e1
  have h2 : DataW.trod enc Tryd.prog w base spare held n 9 (([c0, c1, c2, c3].drop 2).take (Tryd.prog.cellsOf 9)) = some y2 := (hfs 2 _ rfl).trans e2
  have h3 : DataW.trod enc Tryd.prog w base spare held n 3 (([c0, c1, c2, c3].drop 3).take (Tryd.prog.cellsOf 3)) = some y3 := (hfs 3 _ rfl).trans e3
  rw [c_int] at h0 h3
  rw [c_i64] at h1
  rw [c_str] at h2
  obtain ⟨k, ek, _, wk⟩ := DataW.trod_int Tryd.underlying3 h0
  obtain ⟨m, em, _, wm⟩ := DataW.trod_int Tryd.underlying2 h1
  obtain ⟨s, es, _, ws⟩ := DataW.trod_string Tryd.underlying9 h2
  obtain ⟨r, er, _, wr⟩ := DataW.trod_int Tryd.underlying3 h3
  simp at ek em es er
  subst ek em es er
  refine ⟨⟨k, m, s, r⟩, ?_, wf64 wk, wf64 wm, wf64 wr, ws⟩
  have hc1 : cs.toList = [.int .i64 k, .int .i64 m, .string s, .int .i64 r] := hc
  rw [← Array.toArray_toList (xs := cs), hc1]
  rfl
end

/-- the arguments, one by one -/
def Reps (w : World) (B : Nat → Prop) (ps : List PV) (vs : List Value) : Prop := ps.length = vs.length ∧ ∀ (j : Nat) (a : PV) (v : Value), ps[j]? = some a → vs[j]? = some v → RepP w B a v
theorem reps0 {w : World} {B : Nat → Prop} : Reps w B [] [] := ⟨rfl, fun j a v h => by simp at h⟩
theorem repsC {w : World} {B : Nat → Prop} {p : PV} {v : Value} {ps : List PV} {vs : List Value} (h : RepP w B p v) (hr : Reps w B ps vs) : Reps w B (p :: ps) (v :: vs) := by
  refine ⟨by simp [hr.1], fun j a x ha hx => ?_⟩
  cases j with
  | zero => simp at ha hx; subst ha hx; exact h
  | succ j => exact hr.2 j a x (by simpa using ha) (by simpa using hx)
theorem rep_val {w : World} {B : Nat → Prop} (v : Val) : RepP w B (pV v) v.cell :=
  have h : Reps w B [pI v.k, pI v.n, pS v.s, pI v.r] [.int .i64 v.k, .int .i64 v.n, .string v.s, .int .i64 v.r] := repsC (.v _) (repsC (.v _) (repsC (.v _) (repsC (.v _) reps0)))
  RepP.agg _ _ h.1 h.2
theorem ret_true' {f : FuncId} {ps : List PV} {vs : List Value} (h : R f ps (pB true)) {W : World} (hG : Good W) (hr : Reps W (fun _ => True) ps vs) : Calls Tryd.prog f vs.toArray W fun e W' => e = .returned (.bool true) ∧ Gr W W' :=
  (h.2 W (fun _ => True) vs hG hr.1 hr.2).mono fun e w' ⟨h2, v, h1, h3⟩ => ⟨by cases h3; exact h1, h2⟩
end Go.Proofs.YtadgpchdlkiinaaDoor
