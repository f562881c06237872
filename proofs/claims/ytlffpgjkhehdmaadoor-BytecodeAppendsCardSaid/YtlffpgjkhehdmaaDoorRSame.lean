/- Own work: knapsackref27.Same. -/
import Derived.Test.YtlffpgjkhehdmaaDoorSameFunc
namespace Go.Proofs.YtlffpgjkhehdmaaDoor
open Go.RowKit
set_option linter.unusedVariables false
set_option linter.unusedSimpArgs false

def refSame (x y : FnRef) : Bool := fnSame x.f y.f
def progSame (xs ys : List FnRef) : Bool := listEq refSame xs ys

set_option maxHeartbeats 2000000 in
set_option maxRecDepth 100000 in
theorem RSame_any (A B : Option Addr) (c d : Nat) (xs ys : List FnRef) (w : World) (hA : ProgAt w A xs) (hB : ProgAt w B ys) (hx : xs.length ≤ 1000000) (hy : ys.length ≤ 1000000) :
    Calls Tryd.prog 23 #[.agg #[.slice A xs.length c], .agg #[.slice B ys.length d]] w fun e w' => e = .returned (.bool (progSame xs ys)) ∧ Gr w w' := by
  have HA := Lib.hid hA
  have HB := Lib.hid hB
  clear hA hB
  by_cases hn : xs.length = ys.length
  case neg =>
    have hne : ((xs.length : Int) != (ys.length : Int)) = true := by simp; omega
    have hfin : progSame xs ys = false := by simp [progSame, listEq, hn]
    rw [hfin]
    clear hn
    go_enter Tryd.func23, Tryd.ntmps23
    go_wp2_with fail
    go_ret
    exact ⟨rfl, gr_alloc2 _ _ _⟩
  have hne : ((xs.length : Int) != (ys.length : Int)) = false := by simp; omega
  have hfin : progSame xs ys = all2 refSame xs ys := by simp [progSame, listEq, hn]
  rw [hfin]
  have Hn := Lib.hid hn
  clear hfin hn
  go_enter Tryd.func23, Tryd.ntmps23
  go_wp2_with fail
  go_loopw [5] (LoopRel2 w w.heap.size (w.heap.size + 1) (progBox A xs.length c) (progBox B ys.length d) xs.length (fun k => ((xs.zip ys).take k).all (fun q => refSame q.1 q.2) = true)) (fun i _ => xs.length - (intOf i).toNat)
  case atStart => exact ⟨0, Nat.zero_le _, rfl, rfl, gr_alloc2 _ _ _, heap_alloc2_old _ _ _, heap_alloc2_new _ _ _⟩
  case round =>
    obtain ⟨k, hk, rfl, hall, hgr, hbx1, hbx2⟩ := hrel
    obtain ⟨W1, hw1, hs1, hs2, hW⟩ := plug2 hbx1 hbx2
    replace hW := hgr.trans hW
    clear hgr hbx1 hbx2
    unfold progBox at hw1
    subst hw1
    have Hall := Lib.hid hall
    clear hall
    by_cases hlt : k < xs.length
    · have hlt2 : k < ys.length := by rw [← Hn.out]; exact hlt
      obtain ⟨b, o, e1, hc1⟩ := HA.out.sl k xs[k] (List.getElem?_eq_getElem hlt)
      obtain ⟨b2, o2, e2, hc2⟩ := HB.out.sl k ys[k] (List.getElem?_eq_getElem hlt2)
      have hx1 : xs[k]? = some xs[k] := List.getElem?_eq_getElem hlt
      have hy1 : ys[k]? = some ys[k] := List.getElem?_eq_getElem hlt2
      have FU := Lib.hid (HA.out.fns _ (List.mem_of_getElem? hx1))
      have WU := Lib.hid (HA.out.wf _ (List.mem_of_getElem? hx1))
      have FV := Lib.hid (HB.out.fns _ (List.mem_of_getElem? hy1))
      have WV := Lib.hid (HB.out.wf _ (List.mem_of_getElem? hy1))
      have hz := Lib.hid (zip_at hx1 hy1)
      clear hx1 hy1
      generalize xs[k] = u at hc1 hz FU WU
      generalize ys[k] = v at hc2 hz FV WV
      have x0 := cell_gr hW (hc1 0 _ rfl)
      have y0 := cell_gr hW (hc2 0 _ rfl)
      have x1 := cell_gr hW (hc1 1 _ rfl)
      have y1 := cell_gr hW (hc2 1 _ rfl)
      have x2 := cell_gr hW (hc1 2 _ rfl)
      have y2 := cell_gr hW (hc2 2 _ rfl)
      have x3 := cell_gr hW (hc1 3 _ rfl)
      have y3 := cell_gr hW (hc2 3 _ rfl)
      have x4 := cell_gr hW (hc1 4 _ rfl)
      have y4 := cell_gr hW (hc2 4 _ rfl)
      have x5 := cell_gr hW (hc1 5 _ rfl)
      have y5 := cell_gr hW (hc2 5 _ rfl)
      have x6 := cell_gr hW (hc1 6 _ rfl)
      have y6 := cell_gr hW (hc2 6 _ rfl)
      have hbl1 : b < w.heap.size := block_lt_of_cell (hc1 0 _ rfl)
      have hbl2 : b2 < w.heap.size := block_lt_of_cell (hc2 0 _ rfl)
      have hn1 : ¬ b = w.heap.size := by omega
      have hn2 : ¬ b = w.heap.size + 1 := by omega
      have hn3 : ¬ b2 = w.heap.size := by omega
      have hn4 : ¬ b2 = w.heap.size + 1 := by omega
      rw [← Nat.add_assoc] at x0 y0 x1 y1 x2 y2 x3 y3 x4 y4 x5 y5 x6 y6
      rw [Nat.add_zero] at x0 y0
      have E1 := Lib.hid e1
      have E2 := Lib.hid e2
      clear hc1 hc2 e1 e2
      cases hq : fnSame u.f v.f
      · have HQ := Lib.hid hq
        clear hq
        go_wp2_with fail
        refine wp_region_const 12 6 (fun i => ([.pointer (some ⟨w.heap.size, 0, none⟩), .slice A xs.length c, .int .i64 k, .pointer (some ⟨b, o + k * 7, none⟩), .agg #[.string u.f.name, .int .i64 u.f.kind, .int .i64 u.f.params, .int .i64 u.f.locals, .slice u.A u.f.code.length u.ca, .slice u.B u.f.consts.length u.cb, .slice u.C u.f.hdls.length u.cc], .pointer (some ⟨w.heap.size + 1, 0, none⟩), .slice B ys.length d, .int .i64 k, .pointer (some ⟨b2, o2 + k * 7, none⟩), .agg #[.string v.f.name, .int .i64 v.f.kind, .int .i64 v.f.params, .int .i64 v.f.locals, .slice v.A v.f.code.length v.ca, .slice v.B v.f.consts.length v.cb, .slice v.C v.f.hdls.length v.cc], .bool false, .bool true] : List Value).getD i undef) (by kernel_rfl) (by kernel_rfl) (by kernel_rfl) (by decide) ?hstep ?hend
        case hstep =>
          intro i hi
          rcases i with _ | i
          · intro op ho ρ w' hC hcst hfun hglo hd hf
            simp only [List.getElem?_toArray, List.getElem?_cons_zero, List.getElem?_cons_succ, Option.some.injEq] at ho
            subst ho
            rw [if_pos (by rfl)]
            have e2 : ρ (.tmp 2) = .pointer (some ⟨w.heap.size, 0, none⟩) := hf 2 (by kernel_rfl)
            clear hd hf
            go_simp
            exact ⟨Gr.refl _, rfl⟩
          rcases i with _ | i
          · intro op ho ρ w' hC hcst hfun hglo hd hf
            simp only [List.getElem?_toArray, List.getElem?_cons_zero, List.getElem?_cons_succ, Option.some.injEq] at ho
            subst ho
            rw [if_pos (by rfl)]
            have e20 : ρ (.tmp 20) = .pointer (some ⟨w.heap.size, 0, none⟩) := hd 0 20 (by kernel_rfl)
            obtain ⟨W2, hw2, hs3, hs4, _⟩ := plug2 (heap_gr hC (heap_plug2_fst _ _ _ _ _ hs1 (by omega))) (heap_gr hC (heap_plug2_snd _ _ _ _ _ hs2))
            clear hd hf hC
            subst hw2
            go_simp
            exact ⟨Gr.refl _, rfl⟩
          rcases i with _ | i
          · intro op ho ρ w' hC hcst hfun hglo hd hf
            simp only [List.getElem?_toArray, List.getElem?_cons_zero, List.getElem?_cons_succ, Option.some.injEq] at ho
            subst ho
            rw [if_pos (by rfl)]
            have e5 : ρ (.tmp 5) = .int .i64 k := hf 5 (by kernel_rfl)
            clear hd hf
            go_simp
            exact ⟨Gr.refl _, rfl⟩
          rcases i with _ | i
          · intro op ho ρ w' hC hcst hfun hglo hd hf
            simp only [List.getElem?_toArray, List.getElem?_cons_zero, List.getElem?_cons_succ, Option.some.injEq] at ho
            subst ho
            rw [if_pos (by rfl)]
            have e21 : ρ (.tmp 21) = .slice A xs.length c := hd 1 21 (by kernel_rfl)
            have e22 : ρ (.tmp 22) = .int .i64 k := hd 2 22 (by kernel_rfl)
            rw [E1.out] at e21
            clear hd hf
            go_simp
            exact ⟨Gr.refl _, rfl⟩
          rcases i with _ | i
          · intro op ho ρ w' hC hcst hfun hglo hd hf
            simp only [List.getElem?_toArray, List.getElem?_cons_zero, List.getElem?_cons_succ, Option.some.injEq] at ho
            subst ho
            rw [if_pos (by rfl)]
            have e23 : ρ (.tmp 23) = .pointer (some ⟨b, o + k * 7, none⟩) := hd 3 23 (by kernel_rfl)
            have z0 := cell_gr hC (cellp2 hn1 hn2 x0)
            have z1 := cell_gr hC (cellp2 hn1 hn2 x1)
            have z2 := cell_gr hC (cellp2 hn1 hn2 x2)
            have z3 := cell_gr hC (cellp2 hn1 hn2 x3)
            have z4 := cell_gr hC (cellp2 hn1 hn2 x4)
            have z5 := cell_gr hC (cellp2 hn1 hn2 x5)
            have z6 := cell_gr hC (cellp2 hn1 hn2 x6)
            clear hd hf hC
            go_simp
            exact ⟨Gr.refl _, rfl⟩
          rcases i with _ | i
          · intro op ho ρ w' hC hcst hfun hglo hd hf
            simp only [List.getElem?_toArray, List.getElem?_cons_zero, List.getElem?_cons_succ, Option.some.injEq] at ho
            subst ho
            rw [if_pos (by rfl)]
            have e3 : ρ (.tmp 3) = .pointer (some ⟨w.heap.size + 1, 0, none⟩) := hf 3 (by kernel_rfl)
            clear hd hf
            go_simp
            exact ⟨Gr.refl _, rfl⟩
          rcases i with _ | i
          · intro op ho ρ w' hC hcst hfun hglo hd hf
            simp only [List.getElem?_toArray, List.getElem?_cons_zero, List.getElem?_cons_succ, Option.some.injEq] at ho
            subst ho
            rw [if_pos (by rfl)]
            have e25 : ρ (.tmp 25) = .pointer (some ⟨w.heap.size + 1, 0, none⟩) := hd 5 25 (by kernel_rfl)
            obtain ⟨W2, hw2, hs3, hs4, _⟩ := plug2 (heap_gr hC (heap_plug2_fst _ _ _ _ _ hs1 (by omega))) (heap_gr hC (heap_plug2_snd _ _ _ _ _ hs2))
            clear hd hf hC
            subst hw2
            go_simp
            exact ⟨Gr.refl _, rfl⟩
          rcases i with _ | i
          · intro op ho ρ w' hC hcst hfun hglo hd hf
            simp only [List.getElem?_toArray, List.getElem?_cons_zero, List.getElem?_cons_succ, Option.some.injEq] at ho
            subst ho
            rw [if_pos (by rfl)]
            have e5 : ρ (.tmp 5) = .int .i64 k := hf 5 (by kernel_rfl)
            clear hd hf
            go_simp
            exact ⟨Gr.refl _, rfl⟩
          rcases i with _ | i
          · intro op ho ρ w' hC hcst hfun hglo hd hf
            simp only [List.getElem?_toArray, List.getElem?_cons_zero, List.getElem?_cons_succ, Option.some.injEq] at ho
            subst ho
            rw [if_pos (by rfl)]
            have e26 : ρ (.tmp 26) = .slice B ys.length d := hd 6 26 (by kernel_rfl)
            have e27 : ρ (.tmp 27) = .int .i64 k := hd 7 27 (by kernel_rfl)
            rw [E2.out] at e26
            clear hd hf
            go_simp
            exact ⟨Gr.refl _, rfl⟩
          rcases i with _ | i
          · intro op ho ρ w' hC hcst hfun hglo hd hf
            simp only [List.getElem?_toArray, List.getElem?_cons_zero, List.getElem?_cons_succ, Option.some.injEq] at ho
            subst ho
            rw [if_pos (by rfl)]
            have e28 : ρ (.tmp 28) = .pointer (some ⟨b2, o2 + k * 7, none⟩) := hd 8 28 (by kernel_rfl)
            have z0 := cell_gr hC (cellp2 hn3 hn4 y0)
            have z1 := cell_gr hC (cellp2 hn3 hn4 y1)
            have z2 := cell_gr hC (cellp2 hn3 hn4 y2)
            have z3 := cell_gr hC (cellp2 hn3 hn4 y3)
            have z4 := cell_gr hC (cellp2 hn3 hn4 y4)
            have z5 := cell_gr hC (cellp2 hn3 hn4 y5)
            have z6 := cell_gr hC (cellp2 hn3 hn4 y6)
            clear hd hf hC
            go_simp
            exact ⟨Gr.refl _, rfl⟩
          rcases i with _ | i
          · intro op ho ρ w' hC hcst hfun hglo hd hf
            simp only [List.getElem?_toArray, List.getElem?_cons_zero, List.getElem?_cons_succ, Option.some.injEq] at ho
            subst ho
            rw [if_pos (by rfl)]
            have e24 : ρ (.tmp 24) = .agg #[.string u.f.name, .int .i64 u.f.kind, .int .i64 u.f.params, .int .i64 u.f.locals, .slice u.A u.f.code.length u.ca, .slice u.B u.f.consts.length u.cb, .slice u.C u.f.hdls.length u.cc] := hd 4 24 (by kernel_rfl)
            have e29 : ρ (.tmp 29) = .agg #[.string v.f.name, .int .i64 v.f.kind, .int .i64 v.f.params, .int .i64 v.f.locals, .slice v.A v.f.code.length v.ca, .slice v.B v.f.consts.length v.cb, .slice v.C v.f.hdls.length v.cc] := hd 9 29 (by kernel_rfl)
            clear hd hf
            go_simp
            rw [growUpon_enter]
            refine (samefunc_eq u v _ false HQ.out WU.out WV.out (FU.out.gr (Gr.trans (gr_plug2 hW (Nat.le_refl _) (by omega) _ _) hC)) (FV.out.gr (Gr.trans (gr_plug2 hW (Nat.le_refl _) (by omega) _ _) hC))).mono ?_
            rintro e w1 ⟨rfl, hb1⟩
            exact ⟨_, rfl, hb1, rfl⟩
          rcases i with _ | i
          · intro op ho ρ w' hC hcst hfun hglo hd hf
            simp only [List.getElem?_toArray, List.getElem?_cons_zero, List.getElem?_cons_succ, Option.some.injEq] at ho
            subst ho
            rw [if_pos (by rfl)]
            have e30 : ρ (.tmp 30) = .bool false := hd 10 30 (by kernel_rfl)
            clear hd hf
            go_simp
            exact ⟨Gr.refl _, rfl⟩
          omega
        case hend =>
          intro w1 hb1
          have hW2 : Gr w w1 := Gr.trans (gr_plug2 hW (Nat.le_refl _) (by omega) _ _) hb1
          have hbxa := heap_gr hb1 (heap_plug2_fst _ _ _ _ _ hs1 (by omega))
          have hbxb := heap_gr hb1 (heap_plug2_snd _ _ _ _ _ hs2)
          clear hb1
          simp only [putAll, List.getElem?_toArray, List.getElem?_cons_succ, List.getElem?_cons_zero, Option.bind_some, Act.put, List.setIfInBounds_toArray, List.set_cons_succ, List.set_cons_zero, List.drop_succ_cons, List.drop_zero, List.getD_cons_zero, List.getD_cons_succ]
          go_wp2_with fail
          go_ret
          exact ⟨ret_bool (all_false_at hz.out HQ.out).symm, hW2⟩
      · have HQ := Lib.hid hq
        clear hq
        go_wp2_with fail
        refine wp_region_const 12 6 (fun i => ([.pointer (some ⟨w.heap.size, 0, none⟩), .slice A xs.length c, .int .i64 k, .pointer (some ⟨b, o + k * 7, none⟩), .agg #[.string u.f.name, .int .i64 u.f.kind, .int .i64 u.f.params, .int .i64 u.f.locals, .slice u.A u.f.code.length u.ca, .slice u.B u.f.consts.length u.cb, .slice u.C u.f.hdls.length u.cc], .pointer (some ⟨w.heap.size + 1, 0, none⟩), .slice B ys.length d, .int .i64 k, .pointer (some ⟨b2, o2 + k * 7, none⟩), .agg #[.string v.f.name, .int .i64 v.f.kind, .int .i64 v.f.params, .int .i64 v.f.locals, .slice v.A v.f.code.length v.ca, .slice v.B v.f.consts.length v.cb, .slice v.C v.f.hdls.length v.cc], .bool true, .bool false] : List Value).getD i undef) (by kernel_rfl) (by kernel_rfl) (by kernel_rfl) (by decide) ?hstep ?hend
        case hstep =>
          intro i hi
          rcases i with _ | i
          · intro op ho ρ w' hC hcst hfun hglo hd hf
            simp only [List.getElem?_toArray, List.getElem?_cons_zero, List.getElem?_cons_succ, Option.some.injEq] at ho
            subst ho
            rw [if_pos (by rfl)]
            have e2 : ρ (.tmp 2) = .pointer (some ⟨w.heap.size, 0, none⟩) := hf 2 (by kernel_rfl)
            clear hd hf
            go_simp
            exact ⟨Gr.refl _, rfl⟩
          rcases i with _ | i
          · intro op ho ρ w' hC hcst hfun hglo hd hf
            simp only [List.getElem?_toArray, List.getElem?_cons_zero, List.getElem?_cons_succ, Option.some.injEq] at ho
            subst ho
            rw [if_pos (by rfl)]
            have e20 : ρ (.tmp 20) = .pointer (some ⟨w.heap.size, 0, none⟩) := hd 0 20 (by kernel_rfl)
            obtain ⟨W2, hw2, hs3, hs4, _⟩ := plug2 (heap_gr hC (heap_plug2_fst _ _ _ _ _ hs1 (by omega))) (heap_gr hC (heap_plug2_snd _ _ _ _ _ hs2))
            clear hd hf hC
            subst hw2
            go_simp
            exact ⟨Gr.refl _, rfl⟩
          rcases i with _ | i
          · intro op ho ρ w' hC hcst hfun hglo hd hf
            simp only [List.getElem?_toArray, List.getElem?_cons_zero, List.getElem?_cons_succ, Option.some.injEq] at ho
            subst ho
            rw [if_pos (by rfl)]
            have e5 : ρ (.tmp 5) = .int .i64 k := hf 5 (by kernel_rfl)
            clear hd hf
            go_simp
            exact ⟨Gr.refl _, rfl⟩
          rcases i with _ | i
          · intro op ho ρ w' hC hcst hfun hglo hd hf
            simp only [List.getElem?_toArray, List.getElem?_cons_zero, List.getElem?_cons_succ, Option.some.injEq] at ho
            subst ho
            rw [if_pos (by rfl)]
            have e21 : ρ (.tmp 21) = .slice A xs.length c := hd 1 21 (by kernel_rfl)
            have e22 : ρ (.tmp 22) = .int .i64 k := hd 2 22 (by kernel_rfl)
            rw [E1.out] at e21
            clear hd hf
            go_simp
            exact ⟨Gr.refl _, rfl⟩
          rcases i with _ | i
          · intro op ho ρ w' hC hcst hfun hglo hd hf
            simp only [List.getElem?_toArray, List.getElem?_cons_zero, List.getElem?_cons_succ, Option.some.injEq] at ho
            subst ho
            rw [if_pos (by rfl)]
            have e23 : ρ (.tmp 23) = .pointer (some ⟨b, o + k * 7, none⟩) := hd 3 23 (by kernel_rfl)
            have z0 := cell_gr hC (cellp2 hn1 hn2 x0)
            have z1 := cell_gr hC (cellp2 hn1 hn2 x1)
            have z2 := cell_gr hC (cellp2 hn1 hn2 x2)
            have z3 := cell_gr hC (cellp2 hn1 hn2 x3)
            have z4 := cell_gr hC (cellp2 hn1 hn2 x4)
            have z5 := cell_gr hC (cellp2 hn1 hn2 x5)
            have z6 := cell_gr hC (cellp2 hn1 hn2 x6)
            clear hd hf hC
            go_simp
            exact ⟨Gr.refl _, rfl⟩
          rcases i with _ | i
          · intro op ho ρ w' hC hcst hfun hglo hd hf
            simp only [List.getElem?_toArray, List.getElem?_cons_zero, List.getElem?_cons_succ, Option.some.injEq] at ho
            subst ho
            rw [if_pos (by rfl)]
            have e3 : ρ (.tmp 3) = .pointer (some ⟨w.heap.size + 1, 0, none⟩) := hf 3 (by kernel_rfl)
            clear hd hf
            go_simp
            exact ⟨Gr.refl _, rfl⟩
          rcases i with _ | i
          · intro op ho ρ w' hC hcst hfun hglo hd hf
            simp only [List.getElem?_toArray, List.getElem?_cons_zero, List.getElem?_cons_succ, Option.some.injEq] at ho
            subst ho
            rw [if_pos (by rfl)]
            have e25 : ρ (.tmp 25) = .pointer (some ⟨w.heap.size + 1, 0, none⟩) := hd 5 25 (by kernel_rfl)
            obtain ⟨W2, hw2, hs3, hs4, _⟩ := plug2 (heap_gr hC (heap_plug2_fst _ _ _ _ _ hs1 (by omega))) (heap_gr hC (heap_plug2_snd _ _ _ _ _ hs2))
            clear hd hf hC
            subst hw2
            go_simp
            exact ⟨Gr.refl _, rfl⟩
          rcases i with _ | i
          · intro op ho ρ w' hC hcst hfun hglo hd hf
            simp only [List.getElem?_toArray, List.getElem?_cons_zero, List.getElem?_cons_succ, Option.some.injEq] at ho
            subst ho
            rw [if_pos (by rfl)]
            have e5 : ρ (.tmp 5) = .int .i64 k := hf 5 (by kernel_rfl)
            clear hd hf
            go_simp
            exact ⟨Gr.refl _, rfl⟩
          rcases i with _ | i
          · intro op ho ρ w' hC hcst hfun hglo hd hf
            simp only [List.getElem?_toArray, List.getElem?_cons_zero, List.getElem?_cons_succ, Option.some.injEq] at ho
            subst ho
            rw [if_pos (by rfl)]
            have e26 : ρ (.tmp 26) = .slice B ys.length d := hd 6 26 (by kernel_rfl)
            have e27 : ρ (.tmp 27) = .int .i64 k := hd 7 27 (by kernel_rfl)
            rw [E2.out] at e26
            clear hd hf
            go_simp
            exact ⟨Gr.refl _, rfl⟩
          rcases i with _ | i
          · intro op ho ρ w' hC hcst hfun hglo hd hf
            simp only [List.getElem?_toArray, List.getElem?_cons_zero, List.getElem?_cons_succ, Option.some.injEq] at ho
            subst ho
            rw [if_pos (by rfl)]
            have e28 : ρ (.tmp 28) = .pointer (some ⟨b2, o2 + k * 7, none⟩) := hd 8 28 (by kernel_rfl)
            have z0 := cell_gr hC (cellp2 hn3 hn4 y0)
            have z1 := cell_gr hC (cellp2 hn3 hn4 y1)
            have z2 := cell_gr hC (cellp2 hn3 hn4 y2)
            have z3 := cell_gr hC (cellp2 hn3 hn4 y3)
            have z4 := cell_gr hC (cellp2 hn3 hn4 y4)
            have z5 := cell_gr hC (cellp2 hn3 hn4 y5)
            have z6 := cell_gr hC (cellp2 hn3 hn4 y6)
            clear hd hf hC
            go_simp
            exact ⟨Gr.refl _, rfl⟩
          rcases i with _ | i
          · intro op ho ρ w' hC hcst hfun hglo hd hf
            simp only [List.getElem?_toArray, List.getElem?_cons_zero, List.getElem?_cons_succ, Option.some.injEq] at ho
            subst ho
            rw [if_pos (by rfl)]
            have e24 : ρ (.tmp 24) = .agg #[.string u.f.name, .int .i64 u.f.kind, .int .i64 u.f.params, .int .i64 u.f.locals, .slice u.A u.f.code.length u.ca, .slice u.B u.f.consts.length u.cb, .slice u.C u.f.hdls.length u.cc] := hd 4 24 (by kernel_rfl)
            have e29 : ρ (.tmp 29) = .agg #[.string v.f.name, .int .i64 v.f.kind, .int .i64 v.f.params, .int .i64 v.f.locals, .slice v.A v.f.code.length v.ca, .slice v.B v.f.consts.length v.cb, .slice v.C v.f.hdls.length v.cc] := hd 9 29 (by kernel_rfl)
            clear hd hf
            go_simp
            rw [growUpon_enter]
            refine (samefunc_eq u v _ true HQ.out WU.out WV.out (FU.out.gr (Gr.trans (gr_plug2 hW (Nat.le_refl _) (by omega) _ _) hC)) (FV.out.gr (Gr.trans (gr_plug2 hW (Nat.le_refl _) (by omega) _ _) hC))).mono ?_
            rintro e w1 ⟨rfl, hb1⟩
            exact ⟨_, rfl, hb1, rfl⟩
          rcases i with _ | i
          · intro op ho ρ w' hC hcst hfun hglo hd hf
            simp only [List.getElem?_toArray, List.getElem?_cons_zero, List.getElem?_cons_succ, Option.some.injEq] at ho
            subst ho
            rw [if_pos (by rfl)]
            have e30 : ρ (.tmp 30) = .bool true := hd 10 30 (by kernel_rfl)
            clear hd hf
            go_simp
            exact ⟨Gr.refl _, rfl⟩
          omega
        case hend =>
          intro w1 hb1
          have hW2 : Gr w w1 := Gr.trans (gr_plug2 hW (Nat.le_refl _) (by omega) _ _) hb1
          have hbxa := heap_gr hb1 (heap_plug2_fst _ _ _ _ _ hs1 (by omega))
          have hbxb := heap_gr hb1 (heap_plug2_snd _ _ _ _ _ hs2)
          clear hb1
          simp only [putAll, List.getElem?_toArray, List.getElem?_cons_succ, List.getElem?_cons_zero, Option.bind_some, Act.put, List.setIfInBounds_toArray, List.set_cons_succ, List.set_cons_zero, List.drop_succ_cons, List.drop_zero, List.getD_cons_zero, List.getD_cons_succ]
          go_wp2_with fail
          go_roundw
          case rel => exact ⟨k + 1, by omega, by go_num, all_take_succ Hall.out hz.out HQ.out, hW2, hbxa, hbxb⟩
          case measure => simp [intOf]; omega
    · go_wp2_with fail
      go_ret
      exact ⟨ret_bool (all_take_len Hall.out (by rw [List.length_zip, ← Hn.out]; omega)).symm, gr_plug2 hW (Nat.le_refl _) (by omega) _ _⟩
theorem RSame_eq (A B : Option Addr) (c d : Nat) (xs ys : List FnRef) (w : World) (q : Bool) (hq : progSame xs ys = q) (hA : ProgAt w A xs) (hB : ProgAt w B ys) (hx : xs.length ≤ 1000000) (hy : ys.length ≤ 1000000) :
    Calls Tryd.prog 23 #[.agg #[.slice A xs.length c], .agg #[.slice B ys.length d]] w fun e w' => e = .returned (.bool q) ∧ Gr w w' := by
  subst hq; exact RSame_any A B c d xs ys w hA hB hx hy
end Go.Proofs.YtlffpgjkhehdmaaDoor
