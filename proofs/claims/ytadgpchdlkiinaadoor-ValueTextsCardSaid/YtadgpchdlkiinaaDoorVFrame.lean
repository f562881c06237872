/- Own work: what the Value rows of this seat share: the listed tables give what the walks ask of them. -/
import Derived.Test.YtadgpchdlkiinaaDoorRows
import Derived.Test.YtadgpchdlkiinaaDoorVG
import Derived.PinnedBridge
import Derived.Lib.LaidU8T
import Derived.Lib.LaidTab
import Derived.ProofKit
import Derived.Lay
import Derived.LaidMore
import Derived.LaidOnce
import Derived.SevenTiedAt
namespace Go.Proofs.YtadgpchdlkiinaaDoor
open Go.ChangeShapes Go.WideShapes Go.ChangeAt Go.RowKit Go.Lib Go.Shelf

def laid5 : List (String × DataW Unit) := Rows.valueDividesRow.laid
theorem own : ownKnob Tryd.prog.godebug = none := by kernel_rfl
theorem xU : U8Extra Tryd.prog Tryd.laysValid_ren := ⟨by kernel_rfl, by kernel_rfl, by kernel_rfl, by kernel_rfl, by kernel_rfl, by kernel_rfl, by kernel_rfl⟩
theorem accept_eq : (Rows.laid_unicode_utf8_acceptRanges : DataW Unit) = acceptData := by kernel_rfl
theorem pow_eq : (Rows.laid_internal_strconv_uint64pow10 : DataW Unit) = tabData .u64 pow10Tab := by kernel_rfl
theorem tabIs_of_reads {P : Program} {W : World} {name : String} {k : IntKind} {zs : List Int} {g : Nat} {t e : TypeId} {n : Nat}
    (hg : P.globalNamed name = some g) (hty : (P.globals[g]?).map (·.type) = some t) (ht : P.underlying t = some (.array n e)) (he : P.underlying e = some (.int k)) (hce : P.cellsOf e = 1) (hct : P.cellsOf t = n)
    (h : VarReads P W name (tabData k zs)) : TabIs P W name k zs := by
  obtain ⟨g', t', cs, fuel, p, hg', ht', hvar, hd⟩ := h
  obtain rfl := Option.some.inj (hg.symm.trans hg')
  obtain rfl := Option.some.inj (hty.symm.trans ht')
  unfold TabIs
  rw [hvar, ← cells_of_tab ht he hce hct hd]
theorem good_of_laid {W : World} (hL : laidMetH Tryd.prog laid5 W) : Good W := by
  rw [MakeChecks.laidMetH_plain _ _ _ (by kernel_rfl)] at hL
  exact ⟨utf8Tabs_of_readsT (U8Types.of196 Tryd.laysValid) xU (Pinned.utf8First_eq ▸ Lib.laidMet.reads hL (.tail _ (.tail _ (.tail _ (.tail _ (.head _)))))) (accept_eq ▸ Lib.laidMet.reads hL (.tail _ (.tail _ (.tail _ (.head _))))),
    tabIs_of_reads (g := 3) (t := 111) (e := 39) (n := 20) (by kernel_rfl) (by kernel_rfl) (by kernel_rfl) (by kernel_rfl) (by kernel_rfl) (by kernel_rfl) (pow_eq ▸ Lib.laidMet.reads hL (.tail _ (.tail _ (.head _))))⟩
/-- a world that meets the condition -/
theorem laid_met (os : Os) (args : Array Value) : laidMetH Tryd.prog laid5 ((World.laidAll Tryd.prog os laid5).forCall (fun _ _ => 0) ⟨#[], args, []⟩).memory := by
  rw [MakeChecks.laidMetH_plain _ _ _ (by kernel_rfl)]; exact laidMet_laidAll _ (by kernel_rfl) (by kernel_rfl)

theorem wf64 {x : Int} (h : (Lit.int .i64 x).wf = true) : -9223372036854775808 ≤ x ∧ x ≤ 9223372036854775807 := by
  have e1 : IntKind.i64.min = -9223372036854775808 := by decide
  have e2 : IntKind.i64.max = 9223372036854775807 := by decide
  simp only [Lit.wf, e1, e2, Bool.and_eq_true, decide_eq_true_eq] at h
  exact h
/-- a contract that returns true, as the card takes it -/
theorem ret_true {f : FuncId} {vs : List Value} (h : R f (vs.map .v) (pB true)) {W : World} (hG : Good W) : Calls Tryd.prog f vs.toArray W fun e W' => e = .returned (.bool true) ∧ Gr W W' := by
  refine (h.2 W (fun _ => True) vs hG (by simp) fun j a v ha hv => ?_).mono fun e w' ⟨h2, v, h1, h3⟩ => ⟨?_, h2⟩
  · rw [List.getElem?_map, hv] at ha
    cases ha
    exact .v _
  · cases h3
    exact h1
end Go.Proofs.YtadgpchdlkiinaaDoor
