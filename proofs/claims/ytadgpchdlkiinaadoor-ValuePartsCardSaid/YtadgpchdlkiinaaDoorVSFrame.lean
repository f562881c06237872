/- Own work: what the rows with strings.Index ask: the world's shape is handed to the walk; an argument of type Cut. -/
import Derived.Test.YtadgpchdlkiinaaDoorVOpen
import Derived.Test.YtadgpchdlkiinaaDoorVS3
import Derived.Handed
namespace Go.Proofs.YtadgpchdlkiinaaDoor
open Go.ChangeShapes Go.WideShapes Go.ChangeAt Go.RowKit Go.Lib Go.Shelf
set_option maxRecDepth 100000

theorem handed_shaped {H : Type} {enc : TypeId × Value → H} {a : Assume} {C : Checked} {os : Os} {f : FuncId} {fn : Func} {s : ChangeSpec} {conds : List PathCond} {apart fresh handsOn again : Bool} {X : World → Array Value → Prop}
    (hX : ∀ (w w' : World) (args : Array Value), w.heap = w'.heap → X w args → X w' args) (own : ownKnob C.prog.godebug = none) (started : os.Started) (noInit : C.prog.inits.idxOf? f = none) (hfn : C.prog.funcs[f]? = some fn)
    (wit : ∃ (w : World) (tape : Tape) (i : Input), w.os = os ∧ (w.forCall tape i).Shaped C.prog ∧ i.vars = [] ∧ Input.okWide C.prog (w.forCall tape i) .any w.heap.size f i ∧
      ((s.pre enc C.prog fn conds apart (w.forCall tape i).memory i.args ∧ X (w.forCall tape i).memory i.args) ∧ sizedMet enc C.prog fn (OpenSpec.ofChange s) apart (w.forCall tape i).memory i.args) ∧ a.holds C.prog (lone (Frame.enter C.prog f i.args .normal) [] (w.forCall tape i)))
    (walk : ∀ (W : World) (base : Nat) (args : Array Value) (ds gs : List (DataW H)) (before : List MemPlace), (∀ (j : Nat) t v, fn.params[j]? = some t → args[j]? = some v → Value.okWide C.prog W .any base t v) →
      DataW.Whole enc C.prog fn.params.toList s.vars apart W args.toList ds gs before → X W args → W.ShapedOpen C.prog →
      Calls C.prog f args W fun e W' => ∃ v, e = .returned v ∧ s.post enc C.prog fn apart fresh handsOn again W args v W') :
    ReturnsInHanded a C os f .any (fun w args => (s.pre enc C.prog fn conds apart w args ∧ X w args) ∧ sizedMet enc C.prog fn (OpenSpec.ofChange s) apart w args) (s.post enc C.prog fn apart fresh handsOn again) := by
  refine returnsInHanded_of_calls own started noInit wit fun w tape i _ hsh _ hok hpre _ => ?_
  obtain ⟨_, _, _, fn', hfn', _, _, _, _, hval⟩ := hok
  cases Option.some.inj (hfn'.symm.trans hfn)
  obtain ⟨⟨⟨ds, gs, before, hw, _⟩, hx⟩, _⟩ := hpre
  refine (walk _ w.heap.size i.args ds gs before hval (DataW.Whole.of_heap (w' := w.forCall tape i) (by rfl) hw) (hX _ _ _ (by rfl) hx) hsh).mono ?_
  rintro e W' ⟨v, rfl, hp⟩
  exact ChangeSpec.post_blind hp
theorem good3_of {W : World} (hL : laidMetH Tryd.prog laid5 W) (hS : W.ShapedOpen Tryd.prog) : Good3 W := ⟨good_of_laid hL, Tryd.laysM143.s1_3 W hS⟩
theorem ret_true3 {f : FuncId} {ps : List PV} {vs : List Value} (h : R3 f ps (pB true)) {W : World} (hG : Good3 W) (hr : Reps W (fun _ => True) ps vs) : Calls Tryd.prog f vs.toArray W fun e W' => e = .returned (.bool true) ∧ Gr W W' :=
  (h.2 W (fun _ => True) vs hG hr.1 hr.2).mono fun e w' ⟨h2, v, h1, h3⟩ => ⟨by cases h3; exact h1, h2⟩
structure CutV where
  s : ByteArray
  t : ByteArray
  i : Int
  j : Int
def CutV.cell (v : CutV) : Value := .agg #[.string v.s, .string v.t, .int .i64 v.i, .int .i64 v.j]
theorem c_cut : Tryd.prog.cellsOf 47 = 4 := by kernel_rfl
section
variable {H : Type} {enc : TypeId × Value → H} {w : World} {base : Nat} {spare : Nat → Bool} {held : Bool}
theorem open_cut {r : Reach} {b0 : Nat} {v : Value} {d : DataW H} {p : List MemPlace} (hv : Value.okWide Tryd.prog w r b0 47 v) (h : DataW.Trod enc Tryd.prog w base spare held 47 v d p) :
    ∃ x : CutV, v = x.cell := by
  obtain ⟨cs, rfl, hsz⟩ := okWide_struct Tryd.underlying47 hv
  obtain ⟨fuel, hf⟩ := h
  obtain ⟨ys, n, _, _, hcl, hyl, hfs⟩ := DataW.trod_struct Tryd.underlying47 hf
  rw [c_cut] at hcl
  obtain ⟨c0, c1, c2, c3, hc⟩ := four hcl
  have hy : ∀ i, i < 4 → ∃ y, ys[i]? = some y := fun i hi => ⟨ys[i]'(by rw [hyl]; exact hi), List.getElem?_eq_getElem _⟩
  obtain ⟨y0, e0⟩ := hy 0 (by decide)
  obtain ⟨y1, e1⟩ := hy 1 (by decide)
  obtain ⟨y2, e2⟩ := hy 2 (by decide)
  obtain ⟨y3, e3⟩ := hy 3 (by decide)
  rw [hc] at hfs
  have h0 : DataW.trod enc Tryd.prog w base spare held n 9 (([c0, c1, c2, c3].drop 0).take (Tryd.prog.cellsOf 9)) = some y0 := (hfs 0 _ rfl).trans e0
  have h1 : DataW.trod enc Tryd.prog w base spare held n 9 (([c0, c1, c2, c3].drop 1).take (Tryd.prog.cellsOf 9)) = some y1 := (hfs 1 _ rfl).trans e1
  have h2 : DataW.trod enc Tryd.prog w base spare held n 2 (([c0, c1, c2, c3].drop 2).take (Tryd.prog.cellsOf 2)) = some y2 := (hfs 2 _ rfl).trans e2
  have h3 : DataW.trod enc Tryd.prog w base spare held n 2 (([c0, c1, c2, c3].drop 3).take (Tryd.prog.cellsOf 2)) = some y3 := (hfs 3 _ rfl).trans e3
  rw [c_str] at h0 h1
  rw [c_i64] at h2 h3
  obtain ⟨s, es, _, ws⟩ := DataW.trod_string Tryd.underlying9 h0
  obtain ⟨t, et, _, wt⟩ := DataW.trod_string Tryd.underlying9 h1
  obtain ⟨m, em, _, wm⟩ := DataW.trod_int Tryd.underlying2 h2
  obtain ⟨k, ek, _, wk⟩ := DataW.trod_int Tryd.underlying2 h3
  simp at es et em ek
  subst es et em ek
  refine ⟨⟨s, t, m, k⟩, ?_⟩
  have hc1 : cs.toList = [.string s, .string t, .int .i64 m, .int .i64 k] := hc
  rw [← Array.toArray_toList (xs := cs), hc1]
  rfl
end
theorem rep_cut {w : World} {B : Nat → Prop} (v : CutV) : RepP w B (.agg [pS v.s, pS v.t, pI v.i, pI v.j]) v.cell :=
  have h : Reps w B [pS v.s, pS v.t, pI v.i, pI v.j] [.string v.s, .string v.t, .int .i64 v.i, .int .i64 v.j] := repsC (.v _) (repsC (.v _) (repsC (.v _) (repsC (.v _) reps0)))
  RepP.agg _ _ h.1 h.2
theorem wf16 {x : Int} (h : (Lit.int .i16 x).wf = true) : -32768 ≤ x ∧ x ≤ 32767 := by
  have e1 : IntKind.i16.min = -32768 := by decide
  have e2 : IntKind.i16.max = 32767 := by decide
  simp only [Lit.wf, e1, e2, Bool.and_eq_true, decide_eq_true_eq] at h
  exact h
end Go.Proofs.YtadgpchdlkiinaaDoor
