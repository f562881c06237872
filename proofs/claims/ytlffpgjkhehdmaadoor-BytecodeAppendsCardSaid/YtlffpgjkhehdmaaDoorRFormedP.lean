/- Own work: knapsackref27.Formed. -/
import Derived.Test.YtlffpgjkhehdmaaDoorRFormed
import Derived.Test.YtlffpgjkhehdmaaDoorFnsAt
namespace Go.Proofs.YtlffpgjkhehdmaaDoor
open Go.RowKit
set_option linter.unusedVariables false
set_option linter.unusedSimpArgs false

theorem rformed_eq (r : FnRef) (funcs : Int) (w : World) (q : Bool) (hq : formedB r.f funcs = q) (hF : FnAt w r.A r.B r.C r.f) (hW : FnWf r) (hfu : 0 ≤ funcs) (hfu' : funcs ≤ 1000000) :
    Calls Tryd.prog 40 #[.agg #[.string r.f.name, .int .i64 r.f.kind, .int .i64 r.f.params, .int .i64 r.f.locals, .slice r.A r.f.code.length r.ca, .slice r.B r.f.consts.length r.cb, .slice r.C r.f.hdls.length r.cc], .int .i64 funcs] w
      fun e w' => e = .returned (.bool q) ∧ Gr w w' := by
  subst hq; exact rformed_any r.f r.A r.B r.C r.ca r.cb r.cc funcs w hF hfu hfu' hW.cs hW.nm hW.l1 hW.l2 hW.l3

set_option maxHeartbeats 2000000 in
set_option maxRecDepth 100000 in
theorem RFormed_any (A : Option Addr) (c : Nat) (rs : List FnRef) (w : World) (hP : ProgAt w A rs) (hn : rs.length ≤ 1000000) :
    Calls Tryd.prog 21 #[.agg #[.slice A rs.length c]] w fun e w' => e = .returned (.bool (progB rs)) ∧ Gr w w' := by
  have HP := Lib.hid hP
  clear hP
  go_enter Tryd.func21, Tryd.ntmps21
  go_wp2_with fail
  go_loopw [3] (LoopRel w w.heap.size (progBox A rs.length c) rs.length (fun k => (rs.take k).all (fun r => formedB r.f rs.length) = true)) (fun i _ => rs.length - (intOf i).toNat)
  case atStart => exact ⟨0, Nat.zero_le _, rfl, rfl, gr_alloc _ _, heap_alloc_new _ _⟩
  case round =>
    obtain ⟨k, hk, rfl, hall, hgr, hbx⟩ := hrel
    obtain ⟨W1, hw1, hs1, hW⟩ := plug1 hbx
    replace hW := hgr.trans hW
    clear hgr hbx
    unfold progBox at hw1
    subst hw1
    have Hall := Lib.hid hall
    clear hall
    by_cases hlt : k < rs.length
    · obtain ⟨b, o, hB, hcell⟩ := HP.out.sl k rs[k] (List.getElem?_eq_getElem hlt)
      have hx : rs[k]? = some rs[k] := List.getElem?_eq_getElem hlt
      have hm := List.mem_of_getElem? hx
      have HF := Lib.hid (HP.out.fns _ hm)
      have HWf := Lib.hid (HP.out.wf _ hm)
      generalize rs[k] = r at hcell hx hm HF HWf
      have c0 := cell_gr hW (hcell 0 _ rfl)
      have c1 := cell_gr hW (hcell 1 _ rfl)
      have c2 := cell_gr hW (hcell 2 _ rfl)
      have c3 := cell_gr hW (hcell 3 _ rfl)
      have c4 := cell_gr hW (hcell 4 _ rfl)
      have c5 := cell_gr hW (hcell 5 _ rfl)
      have c6 := cell_gr hW (hcell 6 _ rfl)
      have hblt : b < w.heap.size := block_lt_of_cell (hcell 0 _ rfl)
      have hbne : ¬ b = w.heap.size := by omega
      have hblt' : b < W1.heap.size := by omega
      rw [← Nat.add_assoc] at c0 c1 c2 c3 c4 c5 c6
      rw [Nat.add_zero] at c0
      have HX := Lib.hid hx
      clear hcell hx hm
      subst hB
      cases hq : formedB r.f rs.length
      · have HQ := Lib.hid hq
        clear hq
        go_wp2_with fail
        refine wp_region_const 10 6 (fun i => ([.pointer (some ⟨w.heap.size, 0, none⟩), .slice (some ⟨b, o, none⟩) rs.length c, .int .i64 k, .pointer (some ⟨b, o + k * 7, none⟩), .agg #[.string r.f.name, .int .i64 r.f.kind, .int .i64 r.f.params, .int .i64 r.f.locals, .slice r.A r.f.code.length r.ca, .slice r.B r.f.consts.length r.cb, .slice r.C r.f.hdls.length r.cc], .pointer (some ⟨w.heap.size, 0, none⟩), .slice (some ⟨b, o, none⟩) rs.length c, .int .i64 rs.length, .bool false, .bool true] : List Value).getD i undef) (by kernel_rfl) (by kernel_rfl) (by kernel_rfl) (by decide) ?hstep ?hend
        case hstep =>
          intro i hi
          rcases i with _ | i
          · intro op ho ρ w' hC hcst hfun hglo hd hf
            simp only [List.getElem?_toArray, List.getElem?_cons_zero, List.getElem?_cons_succ, Option.some.injEq] at ho
            subst ho
            rw [if_pos (by rfl)]
            have e1 : ρ (.tmp 1) = .pointer (some ⟨w.heap.size, 0, none⟩) := hf 1 (by kernel_rfl)
            clear hd hf
            go_simp
            exact ⟨Gr.refl _, rfl⟩
          rcases i with _ | i
          · intro op ho ρ w' hC hcst hfun hglo hd hf
            simp only [List.getElem?_toArray, List.getElem?_cons_zero, List.getElem?_cons_succ, Option.some.injEq] at ho
            subst ho
            rw [if_pos (by rfl)]
            have e11 : ρ (.tmp 11) = .pointer (some ⟨w.heap.size, 0, none⟩) := hd 0 11 (by kernel_rfl)
            obtain ⟨W2, hw2, hs2, _⟩ := plug1 (heap_gr hC (heap_plug_same _ _ _ hs1))
            clear hd hf hC
            subst hw2
            go_simp
            exact ⟨Gr.refl _, rfl⟩
          rcases i with _ | i
          · intro op ho ρ w' hC hcst hfun hglo hd hf
            simp only [List.getElem?_toArray, List.getElem?_cons_zero, List.getElem?_cons_succ, Option.some.injEq] at ho
            subst ho
            rw [if_pos (by rfl)]
            have e3 : ρ (.tmp 3) = .int .i64 k := hf 3 (by kernel_rfl)
            clear hd hf
            go_simp
            exact ⟨Gr.refl _, rfl⟩
          rcases i with _ | i
          · intro op ho ρ w' hC hcst hfun hglo hd hf
            simp only [List.getElem?_toArray, List.getElem?_cons_zero, List.getElem?_cons_succ, Option.some.injEq] at ho
            subst ho
            rw [if_pos (by rfl)]
            have e12 : ρ (.tmp 12) = .slice (some ⟨b, o, none⟩) rs.length c := hd 1 12 (by kernel_rfl)
            have e13 : ρ (.tmp 13) = .int .i64 k := hd 2 13 (by kernel_rfl)
            clear hd hf
            go_simp
            exact ⟨Gr.refl _, rfl⟩
          rcases i with _ | i
          · intro op ho ρ w' hC hcst hfun hglo hd hf
            simp only [List.getElem?_toArray, List.getElem?_cons_zero, List.getElem?_cons_succ, Option.some.injEq] at ho
            subst ho
            rw [if_pos (by rfl)]
            have e14 : ρ (.tmp 14) = .pointer (some ⟨b, o + k * 7, none⟩) := hd 3 14 (by kernel_rfl)
            have x0 := cell_gr hC (cellp hbne c0)
            have x1 := cell_gr hC (cellp hbne c1)
            have x2 := cell_gr hC (cellp hbne c2)
            have x3 := cell_gr hC (cellp hbne c3)
            have x4 := cell_gr hC (cellp hbne c4)
            have x5 := cell_gr hC (cellp hbne c5)
            have x6 := cell_gr hC (cellp hbne c6)
            clear hd hf hC
            go_simp
            exact ⟨Gr.refl _, rfl⟩
          rcases i with _ | i
          · intro op ho ρ w' hC hcst hfun hglo hd hf
            simp only [List.getElem?_toArray, List.getElem?_cons_zero, List.getElem?_cons_succ, Option.some.injEq] at ho
            subst ho
            rw [if_pos (by rfl)]
            have e1 : ρ (.tmp 1) = .pointer (some ⟨w.heap.size, 0, none⟩) := hf 1 (by kernel_rfl)
            clear hd hf
            go_simp
            exact ⟨Gr.refl _, rfl⟩
          rcases i with _ | i
          · intro op ho ρ w' hC hcst hfun hglo hd hf
            simp only [List.getElem?_toArray, List.getElem?_cons_zero, List.getElem?_cons_succ, Option.some.injEq] at ho
            subst ho
            rw [if_pos (by rfl)]
            have e16 : ρ (.tmp 16) = .pointer (some ⟨w.heap.size, 0, none⟩) := hd 5 16 (by kernel_rfl)
            obtain ⟨W2, hw2, hs2, _⟩ := plug1 (heap_gr hC (heap_plug_same _ _ _ hs1))
            clear hd hf hC
            subst hw2
            go_simp
            exact ⟨Gr.refl _, rfl⟩
          rcases i with _ | i
          · intro op ho ρ w' hC hcst hfun hglo hd hf
            simp only [List.getElem?_toArray, List.getElem?_cons_zero, List.getElem?_cons_succ, Option.some.injEq] at ho
            subst ho
            rw [if_pos (by rfl)]
            have e17 : ρ (.tmp 17) = .slice (some ⟨b, o, none⟩) rs.length c := hd 6 17 (by kernel_rfl)
            clear hd hf
            go_simp
            exact ⟨Gr.refl _, rfl⟩
          rcases i with _ | i
          · intro op ho ρ w' hC hcst hfun hglo hd hf
            simp only [List.getElem?_toArray, List.getElem?_cons_zero, List.getElem?_cons_succ, Option.some.injEq] at ho
            subst ho
            rw [if_pos (by rfl)]
            have e15 : ρ (.tmp 15) = .agg #[.string r.f.name, .int .i64 r.f.kind, .int .i64 r.f.params, .int .i64 r.f.locals, .slice r.A r.f.code.length r.ca, .slice r.B r.f.consts.length r.cb, .slice r.C r.f.hdls.length r.cc] := hd 4 15 (by kernel_rfl)
            have e18 : ρ (.tmp 18) = .int .i64 rs.length := hd 7 18 (by kernel_rfl)
            clear hd hf
            go_simp
            rw [growUpon_enter]
            refine (rformed_eq r _ _ false HQ.out (HF.out.gr (Gr.trans (gr_plug hW (Nat.le_refl _) _) hC)) HWf.out (by omega) (by omega)).mono ?_
            rintro e w1 ⟨rfl, hb1⟩
            exact ⟨_, rfl, hb1, rfl⟩
          rcases i with _ | i
          · intro op ho ρ w' hC hcst hfun hglo hd hf
            simp only [List.getElem?_toArray, List.getElem?_cons_zero, List.getElem?_cons_succ, Option.some.injEq] at ho
            subst ho
            rw [if_pos (by rfl)]
            have e19 : ρ (.tmp 19) = .bool false := hd 8 19 (by kernel_rfl)
            clear hd hf
            go_simp
            exact ⟨Gr.refl _, rfl⟩
          omega
        case hend =>
          intro w1 hb1
          have hW2 : Gr w w1 := Gr.trans (gr_plug hW (Nat.le_refl _) _) hb1
          have hbx2 := heap_gr hb1 (heap_plug_same _ _ _ hs1)
          clear hb1
          simp only [putAll, List.getElem?_toArray, List.getElem?_cons_succ, List.getElem?_cons_zero, Option.bind_some, Act.put, List.setIfInBounds_toArray, List.set_cons_succ, List.set_cons_zero, List.drop_succ_cons, List.drop_zero, List.getD_cons_zero, List.getD_cons_succ]
          go_wp2_with fail
          go_ret
          exact ⟨ret_bool (by unfold progB; rw [all_false_at HX.out HQ.out]; rfl), hW2⟩
      · have HQ := Lib.hid hq
        clear hq
        go_wp2_with fail
        refine wp_region_const 10 6 (fun i => ([.pointer (some ⟨w.heap.size, 0, none⟩), .slice (some ⟨b, o, none⟩) rs.length c, .int .i64 k, .pointer (some ⟨b, o + k * 7, none⟩), .agg #[.string r.f.name, .int .i64 r.f.kind, .int .i64 r.f.params, .int .i64 r.f.locals, .slice r.A r.f.code.length r.ca, .slice r.B r.f.consts.length r.cb, .slice r.C r.f.hdls.length r.cc], .pointer (some ⟨w.heap.size, 0, none⟩), .slice (some ⟨b, o, none⟩) rs.length c, .int .i64 rs.length, .bool true, .bool false] : List Value).getD i undef) (by kernel_rfl) (by kernel_rfl) (by kernel_rfl) (by decide) ?hstep ?hend
        case hstep =>
          intro i hi
          rcases i with _ | i
          · intro op ho ρ w' hC hcst hfun hglo hd hf
            simp only [List.getElem?_toArray, List.getElem?_cons_zero, List.getElem?_cons_succ, Option.some.injEq] at ho
            subst ho
            rw [if_pos (by rfl)]
            have e1 : ρ (.tmp 1) = .pointer (some ⟨w.heap.size, 0, none⟩) := hf 1 (by kernel_rfl)
            clear hd hf
            go_simp
            exact ⟨Gr.refl _, rfl⟩
          rcases i with _ | i
          · intro op ho ρ w' hC hcst hfun hglo hd hf
            simp only [List.getElem?_toArray, List.getElem?_cons_zero, List.getElem?_cons_succ, Option.some.injEq] at ho
            subst ho
            rw [if_pos (by rfl)]
            have e11 : ρ (.tmp 11) = .pointer (some ⟨w.heap.size, 0, none⟩) := hd 0 11 (by kernel_rfl)
            obtain ⟨W2, hw2, hs2, _⟩ := plug1 (heap_gr hC (heap_plug_same _ _ _ hs1))
            clear hd hf hC
            subst hw2
            go_simp
            exact ⟨Gr.refl _, rfl⟩
          rcases i with _ | i
          · intro op ho ρ w' hC hcst hfun hglo hd hf
            simp only [List.getElem?_toArray, List.getElem?_cons_zero, List.getElem?_cons_succ, Option.some.injEq] at ho
            subst ho
            rw [if_pos (by rfl)]
            have e3 : ρ (.tmp 3) = .int .i64 k := hf 3 (by kernel_rfl)
            clear hd hf
            go_simp
            exact ⟨Gr.refl _, rfl⟩
          rcases i with _ | i
          · intro op ho ρ w' hC hcst hfun hglo hd hf
            simp only [List.getElem?_toArray, List.getElem?_cons_zero, List.getElem?_cons_succ, Option.some.injEq] at ho
            subst ho
            rw [if_pos (by rfl)]
            have e12 : ρ (.tmp 12) = .slice (some ⟨b, o, none⟩) rs.length c := hd 1 12 (by kernel_rfl)
            have e13 : ρ (.tmp 13) = .int .i64 k := hd 2 13 (by kernel_rfl)
            clear hd hf
            go_simp
            exact ⟨Gr.refl _, rfl⟩
          rcases i with _ | i
          · intro op ho ρ w' hC hcst hfun hglo hd hf
            simp only [List.getElem?_toArray, List.getElem?_cons_zero, List.getElem?_cons_succ, Option.some.injEq] at ho
            subst ho
            rw [if_pos (by rfl)]
            have e14 : ρ (.tmp 14) = .pointer (some ⟨b, o + k * 7, none⟩) := hd 3 14 (by kernel_rfl)
            have x0 := cell_gr hC (cellp hbne c0)
            have x1 := cell_gr hC (cellp hbne c1)
            have x2 := cell_gr hC (cellp hbne c2)
            have x3 := cell_gr hC (cellp hbne c3)
            have x4 := cell_gr hC (cellp hbne c4)
            have x5 := cell_gr hC (cellp hbne c5)
            have x6 := cell_gr hC (cellp hbne c6)
            clear hd hf hC
            go_simp
            exact ⟨Gr.refl _, rfl⟩
          rcases i with _ | i
          · intro op ho ρ w' hC hcst hfun hglo hd hf
            simp only [List.getElem?_toArray, List.getElem?_cons_zero, List.getElem?_cons_succ, Option.some.injEq] at ho
            subst ho
            rw [if_pos (by rfl)]
            have e1 : ρ (.tmp 1) = .pointer (some ⟨w.heap.size, 0, none⟩) := hf 1 (by kernel_rfl)
            clear hd hf
            go_simp
            exact ⟨Gr.refl _, rfl⟩
          rcases i with _ | i
          · intro op ho ρ w' hC hcst hfun hglo hd hf
            simp only [List.getElem?_toArray, List.getElem?_cons_zero, List.getElem?_cons_succ, Option.some.injEq] at ho
            subst ho
            rw [if_pos (by rfl)]
            have e16 : ρ (.tmp 16) = .pointer (some ⟨w.heap.size, 0, none⟩) := hd 5 16 (by kernel_rfl)
            obtain ⟨W2, hw2, hs2, _⟩ := plug1 (heap_gr hC (heap_plug_same _ _ _ hs1))
            clear hd hf hC
            subst hw2
            go_simp
            exact ⟨Gr.refl _, rfl⟩
          rcases i with _ | i
          · intro op ho ρ w' hC hcst hfun hglo hd hf
            simp only [List.getElem?_toArray, List.getElem?_cons_zero, List.getElem?_cons_succ, Option.some.injEq] at ho
            subst ho
            rw [if_pos (by rfl)]
            have e17 : ρ (.tmp 17) = .slice (some ⟨b, o, none⟩) rs.length c := hd 6 17 (by kernel_rfl)
            clear hd hf
            go_simp
            exact ⟨Gr.refl _, rfl⟩
          rcases i with _ | i
          · intro op ho ρ w' hC hcst hfun hglo hd hf
            simp only [List.getElem?_toArray, List.getElem?_cons_zero, List.getElem?_cons_succ, Option.some.injEq] at ho
            subst ho
            rw [if_pos (by rfl)]
            have e15 : ρ (.tmp 15) = .agg #[.string r.f.name, .int .i64 r.f.kind, .int .i64 r.f.params, .int .i64 r.f.locals, .slice r.A r.f.code.length r.ca, .slice r.B r.f.consts.length r.cb, .slice r.C r.f.hdls.length r.cc] := hd 4 15 (by kernel_rfl)
            have e18 : ρ (.tmp 18) = .int .i64 rs.length := hd 7 18 (by kernel_rfl)
            clear hd hf
            go_simp
            rw [growUpon_enter]
            refine (rformed_eq r _ _ true HQ.out (HF.out.gr (Gr.trans (gr_plug hW (Nat.le_refl _) _) hC)) HWf.out (by omega) (by omega)).mono ?_
            rintro e w1 ⟨rfl, hb1⟩
            exact ⟨_, rfl, hb1, rfl⟩
          rcases i with _ | i
          · intro op ho ρ w' hC hcst hfun hglo hd hf
            simp only [List.getElem?_toArray, List.getElem?_cons_zero, List.getElem?_cons_succ, Option.some.injEq] at ho
            subst ho
            rw [if_pos (by rfl)]
            have e19 : ρ (.tmp 19) = .bool true := hd 8 19 (by kernel_rfl)
            clear hd hf
            go_simp
            exact ⟨Gr.refl _, rfl⟩
          omega
        case hend =>
          intro w1 hb1
          have hW2 : Gr w w1 := Gr.trans (gr_plug hW (Nat.le_refl _) _) hb1
          have hbx2 := heap_gr hb1 (heap_plug_same _ _ _ hs1)
          clear hb1
          simp only [putAll, List.getElem?_toArray, List.getElem?_cons_succ, List.getElem?_cons_zero, Option.bind_some, Act.put, List.setIfInBounds_toArray, List.set_cons_succ, List.set_cons_zero, List.drop_succ_cons, List.drop_zero, List.getD_cons_zero, List.getD_cons_succ]
          go_wp2_with fail
          go_roundw
          case rel => exact ⟨k + 1, by omega, by go_num, all_take_succ Hall.out HX.out HQ.out, hW2, hbx2⟩
          case measure => simp [intOf]; omega
    · go_wp2_with fail
      go_ret
      exact ⟨ret_bool (by unfold progB; rw [all_take_len Hall.out hlt]; rfl), gr_plug hW (Nat.le_refl _) _⟩

theorem RFormed_eq (A : Option Addr) (c : Nat) (rs : List FnRef) (w : World) (q : Bool) (hq : progB rs = q) (hP : ProgAt w A rs) (hn : rs.length ≤ 1000000) :
    Calls Tryd.prog 21 #[.agg #[.slice A rs.length c]] w fun e w' => e = .returned (.bool q) ∧ Gr w w' := by
  subst hq; exact RFormed_any A c rs w hP hn
end Go.Proofs.YtlffpgjkhehdmaaDoor
