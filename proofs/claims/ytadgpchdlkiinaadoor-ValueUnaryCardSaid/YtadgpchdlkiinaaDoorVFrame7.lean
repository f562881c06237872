/- Own work: what the rows that list the error variables give. -/
import Derived.Test.YtadgpchdlkiinaaDoorVOpen
import Derived.Test.YtadgpchdlkiinaaDoorVNum
namespace Go.Proofs.YtadgpchdlkiinaaDoor
open Go.ChangeShapes Go.WideShapes Go.ChangeAt Go.RowKit Go.Lib Go.Shelf
set_option maxRecDepth 100000

def laid7 : List (String × DataW Unit) := Rows.valueNumbersRow.laid
theorem errVar_of_reads {W : World} {name nm : String} {d : DataW Unit} {g : Nat} {t : TypeId} {ms : Array (String × TypeId)} (hg : Tryd.prog.globalNamed name = some g) (hty : (Tryd.prog.globals[g]?).map (·.type) = some t) (hu : Tryd.prog.underlying t = some (.interface ms))
    (h : VarReads Tryd.prog W name (.iface nm d)) : ErrVar W name := by
  obtain ⟨g', t', cs, fuel, p, hg', hty', hvar, hd⟩ := h
  obtain rfl := Option.some.inj (hg.symm.trans hg')
  obtain rfl := Option.some.inj (hty.symm.trans hty')
  cases fuel with
  | zero => simp [DataW.trod] at hd
  | succ n =>
    rw [DataW.trod_step] at hd
    have hcs : cs = cs.toList.toArray := by simp
    match hl : cs.toList, hd with
    | [], hd => simp [DataW.trodStep, hu] at hd
    | [v], hd =>
      cases v <;> simp [DataW.trodStep, hu] at hd
      rename_i tp v
      rw [hcs, hl] at hvar
      exact ⟨tp, v, hvar⟩
    | _ :: _ :: _, hd => simp [DataW.trodStep, hu] at hd
theorem good2_of_laid {W : World} (hL : laidMetH Tryd.prog laid7 W) : Good2 W := by
  rw [MakeChecks.laidMetH_plain _ _ _ (by kernel_rfl)] at hL
  refine ⟨?_, ?_, ?_⟩
  · exact ⟨utf8Tabs_of_readsT (U8Types.of196 Tryd.laysValid) xU (Pinned.utf8First_eq ▸ Lib.laidMet.reads hL (.tail _ (.tail _ (.tail _ (.tail _ (.tail _ (.tail _ (.head _)))))))) (accept_eq ▸ Lib.laidMet.reads hL (.tail _ (.tail _ (.tail _ (.head _))))),
      tabIs_of_reads (g := 3) (t := 111) (e := 39) (n := 20) (by kernel_rfl) (by kernel_rfl) (by kernel_rfl) (by kernel_rfl) (by kernel_rfl) (by kernel_rfl) (pow_eq ▸ Lib.laidMet.reads hL (.tail _ (.tail _ (.head _))))⟩
  · exact errVar_of_reads (g := 4) (t := 73) (by kernel_rfl) (by kernel_rfl) Tryd.underlying73 (Lib.laidMet.reads hL (.tail _ (.tail _ (.tail _ (.tail _ (.tail _ (.head _)))))))
  · exact errVar_of_reads (g := 5) (t := 73) (by kernel_rfl) (by kernel_rfl) Tryd.underlying73 (Lib.laidMet.reads hL (.tail _ (.tail _ (.tail _ (.tail _ (.head _))))))
theorem laid_met7 (os : Os) (args : Array Value) : laidMetH Tryd.prog laid7 ((World.laidAll Tryd.prog os laid7).forCall (fun _ _ => 0) ⟨#[], args, []⟩).memory := by
  rw [MakeChecks.laidMetH_plain _ _ _ (by kernel_rfl)]; exact laidMet_laidAll _ (by kernel_rfl) (by kernel_rfl)
theorem ret_true2 {f : FuncId} {ps : List PV} {vs : List Value} (h : R2 f ps (pB true)) {W : World} (hG : Good2 W) (hr : Reps W (fun _ => True) ps vs) : Calls Tryd.prog f vs.toArray W fun e W' => e = .returned (.bool true) ∧ Gr W W' :=
  (h.2 W (fun _ => True) vs hG hr.1 hr.2).mono fun e w' ⟨h2, v, h1, h3⟩ => ⟨by cases h3; exact h1, h2⟩
end Go.Proofs.YtadgpchdlkiinaaDoor
