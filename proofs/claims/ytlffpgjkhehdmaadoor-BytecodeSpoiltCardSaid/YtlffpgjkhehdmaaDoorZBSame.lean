/- Own work: bytecode.Same. -/
import Derived.Test.YtlffpgjkhehdmaaDoorZGI
namespace Go.Proofs.YtlffpgjkhehdmaaDoor
open Go.RowKit
set_option linter.unusedVariables false
set_option linter.unusedSimpArgs false

def LoopRel4 (w : World) (g1 g2 g3 g4 : Nat) (b1 b2 b3 b4 : Obj) (n : Nat) (P : Nat → Prop) (i : Value) (wr : World) : Prop := ∃ k : Nat, k ≤ n ∧ i = .int .i64 k ∧ P k ∧ Gr w wr ∧ wr.heap[g1]? = some b1 ∧ wr.heap[g2]? = some b2 ∧ wr.heap[g3]? = some b3 ∧ wr.heap[g4]? = some b4
theorem cstEq_ite {β : Type} (u v : Cst) (F T : β) : (if u.kind = v.kind then if u.int = v.int then if u.str.toList = v.str.toList then F else T else T else T) = if cstEq u v = true then F else T := by
  unfold cstEq
  by_cases h1 : u.kind = v.kind <;> by_cases h2 : u.int = v.int <;> by_cases h3 : u.str.toList = v.str.toList <;> simp [h1, h2, h3]
theorem fnSame_f {x y : Fn} (h : headSame x y = false) : fnSame x y = false := by unfold fnSame; rw [h]; rfl
theorem fnSame_b {x y : Fn} (h : bodySame x y = false) : fnSame x y = false := by unfold fnSame; rw [h]; simp
theorem fnSame_len {x y : Fn} (h : listEq insEq x.code y.code = false) : fnSame x y = false := by
  unfold listEq at h
  rcases Bool.and_eq_false_iff.1 h with h | h
  · exact fnSame_f (by unfold headSame; rw [h]; simp)
  · exact fnSame_b (body1 h)
theorem fnSame_len3 {x y : Fn} (h : listEq hdlEq x.hdls y.hdls = false) : fnSame x y = false := by
  unfold listEq at h
  rcases Bool.and_eq_false_iff.1 h with h | h
  · exact fnSame_f (by unfold headSame; rw [h]; simp)
  · exact fnSame_b (body3 h)
theorem fnSame_consts {x y : Fn} (h0 : (x.name.toList == y.name.toList) = true) (h1 : (x.kind == y.kind) = true) (h2 : (x.params == y.params) = true) (h3 : (x.locals == y.locals) = true) (h4 : listEq insEq x.code y.code = true) (h5 : listEq hdlEq x.hdls y.hdls = true) (h6 : x.consts.length = y.consts.length) :
    fnSame x y = all2 cstSame x.consts y.consts := by
  unfold listEq at h4 h5
  rw [Bool.and_eq_true] at h4 h5
  unfold fnSame headSame bodySame
  rw [h0, h1, h2, h3, h4.1, h4.2, h5.1, h5.2, decide_eq_true h6]
  simp

set_option maxHeartbeats 6000000 in
set_option maxRecDepth 100000 in
theorem Same_any (A B : Option Addr) (c d : Nat) (xs ys : List FnRef) (w : World) (hA : ProgAt w A xs) (hB : ProgAt w B ys) (hx : xs.length ≤ 1000000) (hy : ys.length ≤ 1000000) :
    Calls Tryd.prog 25 #[.agg #[.slice A xs.length c], .agg #[.slice B ys.length d]] w fun e w' => e = .returned (.bool (progSame xs ys)) ∧ Gr w w' := by
  have HA := Lib.hid hA
  have HB := Lib.hid hB
  clear hA hB
  by_cases hn : xs.length = ys.length
  case neg =>
    have hne : ((xs.length : Int) != (ys.length : Int)) = true := by simp; omega
    have hfin : progSame xs ys = false := by simp [progSame, listEq, hn]
    rw [hfin]
    clear hn
    go_enter Tryd.func25, Tryd.ntmps25
    go_wp2_with fail
    go_ret
    exact ⟨rfl, gr_alloc2 _ _ _⟩
  have hne : ((xs.length : Int) != (ys.length : Int)) = false := by simp; omega
  have hfin : progSame xs ys = all2 refSame xs ys := by simp [progSame, listEq, hn]
  rw [hfin]
  have Hn := Lib.hid hn
  clear hfin hn
  go_enter Tryd.func25, Tryd.ntmps25
  go_wp2_with fail
  go_loopw [19] (LoopRel2 w w.heap.size (w.heap.size + 1) (progBox A xs.length c) (progBox B ys.length d) xs.length (fun k => ((xs.zip ys).take k).all (fun q => refSame q.1 q.2) = true)) (fun i _ => xs.length - (intOf i).toNat)
  case atStart => exact ⟨0, Nat.zero_le _, rfl, rfl, gr_alloc2 _ _ _, heap_alloc2_old _ _ _, heap_alloc2_new _ _ _⟩
  case round =>
    obtain ⟨k, hk, rfl, hall, hgr, hbx1, hbx2⟩ := hrel
    obtain ⟨W1, hw1, hs1, hs2, hW⟩ := plug2 hbx1 hbx2
    replace hW := hgr.trans hW
    clear hgr hbx1 hbx2
    unfold progBox at hw1
    subst hw1
    have Hall := Lib.hid hall
    clear hall
    by_cases hlt : k < xs.length
    · have hlt2 : k < ys.length := by rw [← Hn.out]; exact hlt
      obtain ⟨b, o, e1, hc1⟩ := HA.out.sl k xs[k] (List.getElem?_eq_getElem hlt)
      obtain ⟨b2, o2, e2, hc2⟩ := HB.out.sl k ys[k] (List.getElem?_eq_getElem hlt2)
      have hx1 : xs[k]? = some xs[k] := List.getElem?_eq_getElem hlt
      have hy1 : ys[k]? = some ys[k] := List.getElem?_eq_getElem hlt2
      have FU := Lib.hid (HA.out.fns _ (List.mem_of_getElem? hx1))
      have WU := Lib.hid (HA.out.wf _ (List.mem_of_getElem? hx1))
      have FV := Lib.hid (HB.out.fns _ (List.mem_of_getElem? hy1))
      have WV := Lib.hid (HB.out.wf _ (List.mem_of_getElem? hy1))
      have hz := Lib.hid (zip_at hx1 hy1)
      clear hx1 hy1
      generalize xs[k] = u at hc1 hz FU WU
      generalize ys[k] = v at hc2 hz FV WV
      have x0 := cell_gr hW (hc1 0 _ rfl)
      have y0 := cell_gr hW (hc2 0 _ rfl)
      have x1 := cell_gr hW (hc1 1 _ rfl)
      have y1 := cell_gr hW (hc2 1 _ rfl)
      have x2 := cell_gr hW (hc1 2 _ rfl)
      have y2 := cell_gr hW (hc2 2 _ rfl)
      have x3 := cell_gr hW (hc1 3 _ rfl)
      have y3 := cell_gr hW (hc2 3 _ rfl)
      have x4 := cell_gr hW (hc1 4 _ rfl)
      have y4 := cell_gr hW (hc2 4 _ rfl)
      have x5 := cell_gr hW (hc1 5 _ rfl)
      have y5 := cell_gr hW (hc2 5 _ rfl)
      have x6 := cell_gr hW (hc1 6 _ rfl)
      have y6 := cell_gr hW (hc2 6 _ rfl)
      have hbl1 : b < w.heap.size := block_lt_of_cell (hc1 0 _ rfl)
      have hbl2 : b2 < w.heap.size := block_lt_of_cell (hc2 0 _ rfl)
      have hn1 : ¬ b = w.heap.size := by omega
      have hn2 : ¬ b = w.heap.size + 1 := by omega
      have hn3 : ¬ b2 = w.heap.size := by omega
      have hn4 : ¬ b2 = w.heap.size + 1 := by omega
      have hn5 : b < W1.heap.size := by omega
      have hn6 : b2 < W1.heap.size := by omega
      have hl1 := WU.out.l2
      have hl2 := WV.out.l2
      rw [← Nat.add_assoc] at x0 y0 x1 y1 x2 y2 x3 y3 x4 y4 x5 y5 x6 y6
      rw [Nat.add_zero] at x0 y0
      clear hc1 hc2
      subst e1 e2
      by_cases h0 : (u.f.name.toList == v.f.name.toList) = true
      case neg =>
        have q0 : (u.f.name.toList == v.f.name.toList) = false := eq_false_of_ne_true h0
        have q0' : (u.f.name.toList != v.f.name.toList) = true := by simp only [bne, q0]; rfl
        have HQ := Lib.hid (show refSame u v = false from fnSame_f (by simp only [headSame, q0, Bool.false_and, Bool.and_false]))
        clear h0
        go_wp2_with fail
        go_ret
        exact ⟨ret_bool (all_false_at hz.out HQ.out).symm, gr_then_alloc (gr_then_alloc (gr_plug2 hW (Nat.le_refl _) (by omega) _ _) _) _⟩
      have q0' : (u.f.name.toList != v.f.name.toList) = false := by simp only [bne, h0]; rfl
      by_cases h1 : (u.f.kind == v.f.kind) = true
      case neg =>
        have q1 : (u.f.kind == v.f.kind) = false := eq_false_of_ne_true h1
        have q1' : (u.f.kind != v.f.kind) = true := by simp only [bne, q1]; rfl
        have HQ := Lib.hid (show refSame u v = false from fnSame_f (by simp only [headSame, q1, Bool.false_and, Bool.and_false]))
        clear h1
        go_wp2_with fail
        go_ret
        exact ⟨ret_bool (all_false_at hz.out HQ.out).symm, gr_then_alloc (gr_then_alloc (gr_plug2 hW (Nat.le_refl _) (by omega) _ _) _) _⟩
      have q1' : (u.f.kind != v.f.kind) = false := by simp only [bne, h1]; rfl
      by_cases h2 : (u.f.params == v.f.params) = true
      case neg =>
        have q2 : (u.f.params == v.f.params) = false := eq_false_of_ne_true h2
        have q2' : (u.f.params != v.f.params) = true := by simp only [bne, q2]; rfl
        have HQ := Lib.hid (show refSame u v = false from fnSame_f (by simp only [headSame, q2, Bool.false_and, Bool.and_false]))
        clear h2
        go_wp2_with fail
        go_ret
        exact ⟨ret_bool (all_false_at hz.out HQ.out).symm, gr_then_alloc (gr_then_alloc (gr_plug2 hW (Nat.le_refl _) (by omega) _ _) _) _⟩
      have q2' : (u.f.params != v.f.params) = false := by simp only [bne, h2]; rfl
      by_cases h3 : (u.f.locals == v.f.locals) = true
      case neg =>
        have q3 : (u.f.locals == v.f.locals) = false := eq_false_of_ne_true h3
        have q3' : (u.f.locals != v.f.locals) = true := by simp only [bne, q3]; rfl
        have HQ := Lib.hid (show refSame u v = false from fnSame_f (by simp only [headSame, q3, Bool.false_and, Bool.and_false]))
        clear h3
        go_wp2_with fail
        go_ret
        exact ⟨ret_bool (all_false_at hz.out HQ.out).symm, gr_then_alloc (gr_then_alloc (gr_plug2 hW (Nat.le_refl _) (by omega) _ _) _) _⟩
      have q3' : (u.f.locals != v.f.locals) = false := by simp only [bne, h3]; rfl
      cases hc4 : listEq insEq u.f.code v.f.code
      · have HQ4 := Lib.hid hc4
        have HQ := Lib.hid (show refSame u v = false from fnSame_len hc4)
        clear hc4
        go_wp2_with fail
        refine (equalI_eq _ _ _ _ _ _ _ false HQ4.out (FU.out.code.gr (gr_then_alloc (gr_then_alloc (gr_plug2 hW (Nat.le_refl _) (by omega) _ _) _) _)) (FV.out.code.gr (gr_then_alloc (gr_then_alloc (gr_plug2 hW (Nat.le_refl _) (by omega) _ _) _) _)) WU.out.l1 WV.out.l1).mono ?_
        rintro e w2 ⟨rfl, hb2⟩
        have hW2 : Gr w w2 := Gr.trans (gr_then_alloc (gr_then_alloc (gr_plug2 hW (Nat.le_refl _) (by omega) _ _) _) _) hb2
        clear hb2
        go_wp2_with fail
        go_ret
        exact ⟨ret_bool (all_false_at hz.out HQ.out).symm, hW2⟩
      have HQ4 := Lib.hid hc4
      clear hc4
      go_wp2_with fail
      refine (equalI_eq _ _ _ _ _ _ _ true HQ4.out (FU.out.code.gr (gr_then_alloc (gr_then_alloc (gr_plug2 hW (Nat.le_refl _) (by omega) _ _) _) _)) (FV.out.code.gr (gr_then_alloc (gr_then_alloc (gr_plug2 hW (Nat.le_refl _) (by omega) _ _) _) _)) WU.out.l1 WV.out.l1).mono ?_
      rintro e w2 ⟨rfl, hb2⟩
      have hW2 : Gr w w2 := Gr.trans (gr_then_alloc (gr_then_alloc (gr_plug2 hW (Nat.le_refl _) (by omega) _ _) _) _) hb2
      have f1 := heap_gr hb2 (heap_gr (gr_alloc2 _ _ _) (heap_plug2_fst _ _ _ _ _ hs1 (by omega)))
      have f2 := heap_gr hb2 (heap_gr (gr_alloc2 _ _ _) (heap_plug2_snd _ _ _ _ _ hs2))
      have f3 := heap_gr hb2 (heap_alloc2_old (plug (plug W1 _ _) _ _) _ _)
      have f4 := heap_gr hb2 (heap_alloc2_new (plug (plug W1 _ _) _ _) _ _)
      simp only [size_plug] at f3 f4
      clear hb2
      obtain ⟨W2, hw2, hs3, hs4, hWb, hWc⟩ := plug2b f3 f4
      subst hw2
      cases hc5 : listEq hdlEq u.f.hdls v.f.hdls
      · have HQ5 := Lib.hid hc5
        have HQ := Lib.hid (show refSame u v = false from fnSame_len3 hc5)
        clear hc5
        go_wp2_with fail
        refine (equalH_eq _ _ _ _ _ _ _ false HQ5.out (FU.out.hdls.gr hW2) (FV.out.hdls.gr hW2) WU.out.l3 WV.out.l3).mono ?_
        rintro e w3 ⟨rfl, hb3⟩
        have hW3 : Gr w w3 := Gr.trans hW2 hb3
        clear hb3
        go_wp2_with fail
        go_ret
        exact ⟨ret_bool (all_false_at hz.out HQ.out).symm, hW3⟩
      have HQ5 := Lib.hid hc5
      clear hc5
      go_wp2_with fail
      refine (equalH_eq _ _ _ _ _ _ _ true HQ5.out (FU.out.hdls.gr hW2) (FV.out.hdls.gr hW2) WU.out.l3 WV.out.l3).mono ?_
      rintro e w3 ⟨rfl, hb3⟩
      have hW3 : Gr w w3 := Gr.trans hW2 hb3
      have g1 := heap_gr hb3 f1
      have g2 := heap_gr hb3 f2
      have g3 := heap_gr hb3 f3
      have g4 := heap_gr hb3 f4
      clear hb3 f1 f2 f3 f4 hWb hWc hW2
      obtain ⟨W3, hw3, hs5, hs6, hWb, hWc⟩ := plug2b g3 g4
      subst hw3
      by_cases h6 : u.f.consts.length = v.f.consts.length
      case neg =>
        have q6 : ((u.f.consts.length : Int) != (v.f.consts.length : Int)) = true := by simp; omega
        have HQ := Lib.hid (show refSame u v = false from fnSame_f (by simp only [headSame, decide_eq_false h6, Bool.false_and, Bool.and_false]))
        clear h6
        go_wp2_with fail
        go_ret
        exact ⟨ret_bool (all_false_at hz.out HQ.out).symm, hW3⟩
      have q6 : ((u.f.consts.length : Int) != (v.f.consts.length : Int)) = false := by simp; omega
      have H6 := Lib.hid h6
      have HB6 := Lib.hid (show refSame u v = all2 cstSame u.f.consts v.f.consts from fnSame_consts h0 h1 h2 h3 HQ4.out HQ5.out h6)
      clear h6
      go_wp2_with fail
      go_loopw [83] (LoopRel4 w w.heap.size (w.heap.size + 1) W1.heap.size (W1.heap.size + 1) (progBox _ xs.length c) (progBox _ ys.length d) (refBox u) (refBox v) u.f.consts.length (fun k => ((u.f.consts.zip v.f.consts).take k).all (fun q => cstSame q.1 q.2) = true)) (fun i _ => u.f.consts.length - (intOf i).toNat)
      case atStart => exact ⟨0, Nat.zero_le _, rfl, rfl, hW3, g1, g2, g3, g4⟩
      case round =>
        clear hW3 g1 g2 g3 g4 hWb hWc hs3 hs4 hs5 hs6
        obtain ⟨j, hj, rfl, hall2, hgr, f1, f2, f3, f4⟩ := hrel
        obtain ⟨W4, hw4, hs3, hs4, hWb⟩ := plug2 f3 f4
        have hW4 : Gr w W4 := hgr.trans hWb
        unfold refBox at hw4
        subst hw4
        have Hall2 := Lib.hid hall2
        clear hall2
        by_cases hlt3 : j < u.f.consts.length
        · have hlt4 : j < v.f.consts.length := by rw [← H6.out]; exact hlt3
          obtain ⟨b3, o3, e3, hc3⟩ := FU.out.consts j u.f.consts[j] (List.getElem?_eq_getElem hlt3)
          obtain ⟨b4, o4, e4, hc4⟩ := FV.out.consts j v.f.consts[j] (List.getElem?_eq_getElem hlt4)
          have hz2 := Lib.hid (zip_at (List.getElem?_eq_getElem hlt3) (List.getElem?_eq_getElem hlt4))
          generalize u.f.consts[j] = m at hc3 hz2
          generalize v.f.consts[j] = n at hc4 hz2
          have p0 := cell_gr hW4 (hc3 0 _ rfl)
          have r0 := cell_gr hW4 (hc4 0 _ rfl)
          have p1 := cell_gr hW4 (hc3 1 _ rfl)
          have r1 := cell_gr hW4 (hc4 1 _ rfl)
          have p2 := cell_gr hW4 (hc3 2 _ rfl)
          have r2 := cell_gr hW4 (hc4 2 _ rfl)
          have hbl3 : b3 < w.heap.size := block_lt_of_cell (hc3 0 _ rfl)
          have hbl4 : b4 < w.heap.size := block_lt_of_cell (hc4 0 _ rfl)
          have hn7 : ¬ b3 = W1.heap.size := by omega
          have hn8 : ¬ b3 = W1.heap.size + 1 := by omega
          have hn9 : ¬ b4 = W1.heap.size := by omega
          have hn10 : ¬ b4 = W1.heap.size + 1 := by omega
          rw [← Nat.add_assoc] at p0 p1 p2 r0 r1 r2
          rw [Nat.add_zero] at p0 r0
          have E3 := Lib.hid e3
          have E4 := Lib.hid e4
          clear hc3 hc4 e3 e4
          cases hq : cstSame m n
          · have HQ := Lib.hid hq
            have HQ2 := Lib.hid ((plain_same m n).trans hq)
            clear hq
            go_wp2_with fail
            refine wp_region_const 13 6 (fun i => ([.pointer (some ⟨W1.heap.size, 5, none⟩), .slice u.B u.f.consts.length u.cb, .int .i64 j, .pointer (some ⟨b3, o3 + j * 3, none⟩), .agg #[.int .i64 m.kind, .int .i64 m.int, .string m.str], .agg #[.int .i64 (plainC m).kind, .int .i64 (plainC m).int, .string (plainC m).str], .pointer (some ⟨W1.heap.size + 1, 5, none⟩), .slice v.B v.f.consts.length v.cb, .int .i64 j, .pointer (some ⟨b4, o4 + j * 3, none⟩), .agg #[.int .i64 n.kind, .int .i64 n.int, .string n.str], .agg #[.int .i64 (plainC n).kind, .int .i64 (plainC n).int, .string (plainC n).str], .bool true] : List Value).getD i undef) (by kernel_rfl) (by kernel_rfl) (by kernel_rfl) (by decide) ?hstep ?hend
            case hstep =>
              intro i hi
              rcases i with _ | i
              · intro op ho ρ w' hC hcst hfun hglo hd hf
                simp only [List.getElem?_toArray, List.getElem?_cons_zero, List.getElem?_cons_succ, Option.some.injEq] at ho
                subst ho
                rw [if_pos (by rfl)]
                have e6 : ρ (.tmp 6) = .pointer (some ⟨W1.heap.size, 0, none⟩) := hf 6 (by kernel_rfl)
                clear hd hf
                go_simp
                exact ⟨Gr.refl _, rfl⟩
              rcases i with _ | i
              · intro op ho ρ w' hC hcst hfun hglo hd hf
                simp only [List.getElem?_toArray, List.getElem?_cons_zero, List.getElem?_cons_succ, Option.some.injEq] at ho
                subst ho
                rw [if_pos (by rfl)]
                have e86 : ρ (.tmp 86) = .pointer (some ⟨W1.heap.size, 5, none⟩) := hd 0 86 (by kernel_rfl)
                obtain ⟨W5, hw5, hs7, hs8, _⟩ := plug2 (heap_gr hC (heap_plug2_fst _ _ _ _ _ hs3 (by omega))) (heap_gr hC (heap_plug2_snd _ _ _ _ _ hs4))
                clear hd hf hC
                subst hw5
                go_simp
                exact ⟨Gr.refl _, rfl⟩
              rcases i with _ | i
              · intro op ho ρ w' hC hcst hfun hglo hd hf
                simp only [List.getElem?_toArray, List.getElem?_cons_zero, List.getElem?_cons_succ, Option.some.injEq] at ho
                subst ho
                rw [if_pos (by rfl)]
                have e8 : ρ (.tmp 8) = .int .i64 j := hf 8 (by kernel_rfl)
                clear hd hf
                go_simp
                exact ⟨Gr.refl _, rfl⟩
              rcases i with _ | i
              · intro op ho ρ w' hC hcst hfun hglo hd hf
                simp only [List.getElem?_toArray, List.getElem?_cons_zero, List.getElem?_cons_succ, Option.some.injEq] at ho
                subst ho
                rw [if_pos (by rfl)]
                have e87 : ρ (.tmp 87) = .slice u.B u.f.consts.length u.cb := hd 1 87 (by kernel_rfl)
                have e88 : ρ (.tmp 88) = .int .i64 j := hd 2 88 (by kernel_rfl)
                rw [E3.out] at e87
                clear hd hf
                go_simp
                exact ⟨Gr.refl _, rfl⟩
              rcases i with _ | i
              · intro op ho ρ w' hC hcst hfun hglo hd hf
                simp only [List.getElem?_toArray, List.getElem?_cons_zero, List.getElem?_cons_succ, Option.some.injEq] at ho
                subst ho
                rw [if_pos (by rfl)]
                have e89 : ρ (.tmp 89) = .pointer (some ⟨b3, o3 + j * 3, none⟩) := hd 3 89 (by kernel_rfl)
                have z0 := cell_gr hC (cellp2 hn7 hn8 p0)
                have z1 := cell_gr hC (cellp2 hn7 hn8 p1)
                have z2 := cell_gr hC (cellp2 hn7 hn8 p2)
                clear hd hf hC
                go_simp
                exact ⟨Gr.refl _, rfl⟩
              rcases i with _ | i
              · intro op ho ρ w' hC hcst hfun hglo hd hf
                simp only [List.getElem?_toArray, List.getElem?_cons_zero, List.getElem?_cons_succ, Option.some.injEq] at ho
                subst ho
                rw [if_pos (by rfl)]
                have e90 : ρ (.tmp 90) = .agg #[.int .i64 m.kind, .int .i64 m.int, .string m.str] := hd 4 90 (by kernel_rfl)
                clear hd hf
                go_simp
                rw [growUpon_enter]
                refine (plain_any m _).mono ?_
                rintro e w1 ⟨rfl, hb1⟩
                exact ⟨_, rfl, hb1, rfl⟩
              rcases i with _ | i
              · intro op ho ρ w' hC hcst hfun hglo hd hf
                simp only [List.getElem?_toArray, List.getElem?_cons_zero, List.getElem?_cons_succ, Option.some.injEq] at ho
                subst ho
                rw [if_pos (by rfl)]
                have e7 : ρ (.tmp 7) = .pointer (some ⟨W1.heap.size + 1, 0, none⟩) := hf 7 (by kernel_rfl)
                clear hd hf
                go_simp
                exact ⟨Gr.refl _, rfl⟩
              rcases i with _ | i
              · intro op ho ρ w' hC hcst hfun hglo hd hf
                simp only [List.getElem?_toArray, List.getElem?_cons_zero, List.getElem?_cons_succ, Option.some.injEq] at ho
                subst ho
                rw [if_pos (by rfl)]
                have e92 : ρ (.tmp 92) = .pointer (some ⟨W1.heap.size + 1, 5, none⟩) := hd 6 92 (by kernel_rfl)
                obtain ⟨W5, hw5, hs7, hs8, _⟩ := plug2 (heap_gr hC (heap_plug2_fst _ _ _ _ _ hs3 (by omega))) (heap_gr hC (heap_plug2_snd _ _ _ _ _ hs4))
                clear hd hf hC
                subst hw5
                go_simp
                exact ⟨Gr.refl _, rfl⟩
              rcases i with _ | i
              · intro op ho ρ w' hC hcst hfun hglo hd hf
                simp only [List.getElem?_toArray, List.getElem?_cons_zero, List.getElem?_cons_succ, Option.some.injEq] at ho
                subst ho
                rw [if_pos (by rfl)]
                have e8 : ρ (.tmp 8) = .int .i64 j := hf 8 (by kernel_rfl)
                clear hd hf
                go_simp
                exact ⟨Gr.refl _, rfl⟩
              rcases i with _ | i
              · intro op ho ρ w' hC hcst hfun hglo hd hf
                simp only [List.getElem?_toArray, List.getElem?_cons_zero, List.getElem?_cons_succ, Option.some.injEq] at ho
                subst ho
                rw [if_pos (by rfl)]
                have e93 : ρ (.tmp 93) = .slice v.B v.f.consts.length v.cb := hd 7 93 (by kernel_rfl)
                have e94 : ρ (.tmp 94) = .int .i64 j := hd 8 94 (by kernel_rfl)
                rw [E4.out] at e93
                clear hd hf
                go_simp
                exact ⟨Gr.refl _, rfl⟩
              rcases i with _ | i
              · intro op ho ρ w' hC hcst hfun hglo hd hf
                simp only [List.getElem?_toArray, List.getElem?_cons_zero, List.getElem?_cons_succ, Option.some.injEq] at ho
                subst ho
                rw [if_pos (by rfl)]
                have e95 : ρ (.tmp 95) = .pointer (some ⟨b4, o4 + j * 3, none⟩) := hd 9 95 (by kernel_rfl)
                have z0 := cell_gr hC (cellp2 hn9 hn10 r0)
                have z1 := cell_gr hC (cellp2 hn9 hn10 r1)
                have z2 := cell_gr hC (cellp2 hn9 hn10 r2)
                clear hd hf hC
                go_simp
                exact ⟨Gr.refl _, rfl⟩
              rcases i with _ | i
              · intro op ho ρ w' hC hcst hfun hglo hd hf
                simp only [List.getElem?_toArray, List.getElem?_cons_zero, List.getElem?_cons_succ, Option.some.injEq] at ho
                subst ho
                rw [if_pos (by rfl)]
                have e96 : ρ (.tmp 96) = .agg #[.int .i64 n.kind, .int .i64 n.int, .string n.str] := hd 10 96 (by kernel_rfl)
                clear hd hf
                go_simp
                rw [growUpon_enter]
                refine (plain_any n _).mono ?_
                rintro e w1 ⟨rfl, hb1⟩
                exact ⟨_, rfl, hb1, rfl⟩
              rcases i with _ | i
              · intro op ho ρ w' hC hcst hfun hglo hd hf
                simp only [List.getElem?_toArray, List.getElem?_cons_zero, List.getElem?_cons_succ, Option.some.injEq] at ho
                subst ho
                rw [if_pos (by rfl)]
                have e91 : ρ (.tmp 91) = .agg #[.int .i64 (plainC m).kind, .int .i64 (plainC m).int, .string (plainC m).str] := hd 5 91 (by kernel_rfl)
                have e97 : ρ (.tmp 97) = .agg #[.int .i64 (plainC n).kind, .int .i64 (plainC n).int, .string (plainC n).str] := hd 11 97 (by kernel_rfl)
                clear hd hf
                generalize plainC m = mm at *
                generalize plainC n = nn at *
                go_simp
                rw [cstEq_ite, HQ2.out]
                exact ⟨Gr.refl _, rfl⟩
              omega
            case hend =>
              intro w1 hb1
              have hW5 : Gr w w1 := Gr.trans hgr hb1
              have g1 := heap_gr hb1 f1
              have g2 := heap_gr hb1 f2
              have g3 := heap_gr hb1 f3
              have g4 := heap_gr hb1 f4
              clear hb1
              simp only [putAll, List.getElem?_toArray, List.getElem?_cons_succ, List.getElem?_cons_zero, Option.bind_some, Act.put, List.setIfInBounds_toArray, List.set_cons_succ, List.set_cons_zero, List.drop_succ_cons, List.drop_zero, List.getD_cons_zero, List.getD_cons_succ]
              go_wp2_with fail
              go_ret
              exact ⟨ret_bool (all_false_at hz.out (HB6.out.trans (all_false_at hz2.out HQ.out))).symm, hW5⟩
          · have HQ := Lib.hid hq
            have HQ2 := Lib.hid ((plain_same m n).trans hq)
            clear hq
            go_wp2_with fail
            refine wp_region_const 13 6 (fun i => ([.pointer (some ⟨W1.heap.size, 5, none⟩), .slice u.B u.f.consts.length u.cb, .int .i64 j, .pointer (some ⟨b3, o3 + j * 3, none⟩), .agg #[.int .i64 m.kind, .int .i64 m.int, .string m.str], .agg #[.int .i64 (plainC m).kind, .int .i64 (plainC m).int, .string (plainC m).str], .pointer (some ⟨W1.heap.size + 1, 5, none⟩), .slice v.B v.f.consts.length v.cb, .int .i64 j, .pointer (some ⟨b4, o4 + j * 3, none⟩), .agg #[.int .i64 n.kind, .int .i64 n.int, .string n.str], .agg #[.int .i64 (plainC n).kind, .int .i64 (plainC n).int, .string (plainC n).str], .bool false] : List Value).getD i undef) (by kernel_rfl) (by kernel_rfl) (by kernel_rfl) (by decide) ?hstep ?hend
            case hstep =>
              intro i hi
              rcases i with _ | i
              · intro op ho ρ w' hC hcst hfun hglo hd hf
                simp only [List.getElem?_toArray, List.getElem?_cons_zero, List.getElem?_cons_succ, Option.some.injEq] at ho
                subst ho
                rw [if_pos (by rfl)]
                have e6 : ρ (.tmp 6) = .pointer (some ⟨W1.heap.size, 0, none⟩) := hf 6 (by kernel_rfl)
                clear hd hf
                go_simp
                exact ⟨Gr.refl _, rfl⟩
              rcases i with _ | i
              · intro op ho ρ w' hC hcst hfun hglo hd hf
                simp only [List.getElem?_toArray, List.getElem?_cons_zero, List.getElem?_cons_succ, Option.some.injEq] at ho
                subst ho
                rw [if_pos (by rfl)]
                have e86 : ρ (.tmp 86) = .pointer (some ⟨W1.heap.size, 5, none⟩) := hd 0 86 (by kernel_rfl)
                obtain ⟨W5, hw5, hs7, hs8, _⟩ := plug2 (heap_gr hC (heap_plug2_fst _ _ _ _ _ hs3 (by omega))) (heap_gr hC (heap_plug2_snd _ _ _ _ _ hs4))
                clear hd hf hC
                subst hw5
                go_simp
                exact ⟨Gr.refl _, rfl⟩
              rcases i with _ | i
              · intro op ho ρ w' hC hcst hfun hglo hd hf
                simp only [List.getElem?_toArray, List.getElem?_cons_zero, List.getElem?_cons_succ, Option.some.injEq] at ho
                subst ho
                rw [if_pos (by rfl)]
                have e8 : ρ (.tmp 8) = .int .i64 j := hf 8 (by kernel_rfl)
                clear hd hf
                go_simp
                exact ⟨Gr.refl _, rfl⟩
              rcases i with _ | i
              · intro op ho ρ w' hC hcst hfun hglo hd hf
                simp only [List.getElem?_toArray, List.getElem?_cons_zero, List.getElem?_cons_succ, Option.some.injEq] at ho
                subst ho
                rw [if_pos (by rfl)]
                have e87 : ρ (.tmp 87) = .slice u.B u.f.consts.length u.cb := hd 1 87 (by kernel_rfl)
                have e88 : ρ (.tmp 88) = .int .i64 j := hd 2 88 (by kernel_rfl)
                rw [E3.out] at e87
                clear hd hf
                go_simp
                exact ⟨Gr.refl _, rfl⟩
              rcases i with _ | i
              · intro op ho ρ w' hC hcst hfun hglo hd hf
                simp only [List.getElem?_toArray, List.getElem?_cons_zero, List.getElem?_cons_succ, Option.some.injEq] at ho
                subst ho
                rw [if_pos (by rfl)]
                have e89 : ρ (.tmp 89) = .pointer (some ⟨b3, o3 + j * 3, none⟩) := hd 3 89 (by kernel_rfl)
                have z0 := cell_gr hC (cellp2 hn7 hn8 p0)
                have z1 := cell_gr hC (cellp2 hn7 hn8 p1)
                have z2 := cell_gr hC (cellp2 hn7 hn8 p2)
                clear hd hf hC
                go_simp
                exact ⟨Gr.refl _, rfl⟩
              rcases i with _ | i
              · intro op ho ρ w' hC hcst hfun hglo hd hf
                simp only [List.getElem?_toArray, List.getElem?_cons_zero, List.getElem?_cons_succ, Option.some.injEq] at ho
                subst ho
                rw [if_pos (by rfl)]
                have e90 : ρ (.tmp 90) = .agg #[.int .i64 m.kind, .int .i64 m.int, .string m.str] := hd 4 90 (by kernel_rfl)
                clear hd hf
                go_simp
                rw [growUpon_enter]
                refine (plain_any m _).mono ?_
                rintro e w1 ⟨rfl, hb1⟩
                exact ⟨_, rfl, hb1, rfl⟩
              rcases i with _ | i
              · intro op ho ρ w' hC hcst hfun hglo hd hf
                simp only [List.getElem?_toArray, List.getElem?_cons_zero, List.getElem?_cons_succ, Option.some.injEq] at ho
                subst ho
                rw [if_pos (by rfl)]
                have e7 : ρ (.tmp 7) = .pointer (some ⟨W1.heap.size + 1, 0, none⟩) := hf 7 (by kernel_rfl)
                clear hd hf
                go_simp
                exact ⟨Gr.refl _, rfl⟩
              rcases i with _ | i
              · intro op ho ρ w' hC hcst hfun hglo hd hf
                simp only [List.getElem?_toArray, List.getElem?_cons_zero, List.getElem?_cons_succ, Option.some.injEq] at ho
                subst ho
                rw [if_pos (by rfl)]
                have e92 : ρ (.tmp 92) = .pointer (some ⟨W1.heap.size + 1, 5, none⟩) := hd 6 92 (by kernel_rfl)
                obtain ⟨W5, hw5, hs7, hs8, _⟩ := plug2 (heap_gr hC (heap_plug2_fst _ _ _ _ _ hs3 (by omega))) (heap_gr hC (heap_plug2_snd _ _ _ _ _ hs4))
                clear hd hf hC
                subst hw5
                go_simp
                exact ⟨Gr.refl _, rfl⟩
              rcases i with _ | i
              · intro op ho ρ w' hC hcst hfun hglo hd hf
                simp only [List.getElem?_toArray, List.getElem?_cons_zero, List.getElem?_cons_succ, Option.some.injEq] at ho
                subst ho
                rw [if_pos (by rfl)]
                have e8 : ρ (.tmp 8) = .int .i64 j := hf 8 (by kernel_rfl)
                clear hd hf
                go_simp
                exact ⟨Gr.refl _, rfl⟩
              rcases i with _ | i
              · intro op ho ρ w' hC hcst hfun hglo hd hf
                simp only [List.getElem?_toArray, List.getElem?_cons_zero, List.getElem?_cons_succ, Option.some.injEq] at ho
                subst ho
                rw [if_pos (by rfl)]
                have e93 : ρ (.tmp 93) = .slice v.B v.f.consts.length v.cb := hd 7 93 (by kernel_rfl)
                have e94 : ρ (.tmp 94) = .int .i64 j := hd 8 94 (by kernel_rfl)
                rw [E4.out] at e93
                clear hd hf
                go_simp
                exact ⟨Gr.refl _, rfl⟩
              rcases i with _ | i
              · intro op ho ρ w' hC hcst hfun hglo hd hf
                simp only [List.getElem?_toArray, List.getElem?_cons_zero, List.getElem?_cons_succ, Option.some.injEq] at ho
                subst ho
                rw [if_pos (by rfl)]
                have e95 : ρ (.tmp 95) = .pointer (some ⟨b4, o4 + j * 3, none⟩) := hd 9 95 (by kernel_rfl)
                have z0 := cell_gr hC (cellp2 hn9 hn10 r0)
                have z1 := cell_gr hC (cellp2 hn9 hn10 r1)
                have z2 := cell_gr hC (cellp2 hn9 hn10 r2)
                clear hd hf hC
                go_simp
                exact ⟨Gr.refl _, rfl⟩
              rcases i with _ | i
              · intro op ho ρ w' hC hcst hfun hglo hd hf
                simp only [List.getElem?_toArray, List.getElem?_cons_zero, List.getElem?_cons_succ, Option.some.injEq] at ho
                subst ho
                rw [if_pos (by rfl)]
                have e96 : ρ (.tmp 96) = .agg #[.int .i64 n.kind, .int .i64 n.int, .string n.str] := hd 10 96 (by kernel_rfl)
                clear hd hf
                go_simp
                rw [growUpon_enter]
                refine (plain_any n _).mono ?_
                rintro e w1 ⟨rfl, hb1⟩
                exact ⟨_, rfl, hb1, rfl⟩
              rcases i with _ | i
              · intro op ho ρ w' hC hcst hfun hglo hd hf
                simp only [List.getElem?_toArray, List.getElem?_cons_zero, List.getElem?_cons_succ, Option.some.injEq] at ho
                subst ho
                rw [if_pos (by rfl)]
                have e91 : ρ (.tmp 91) = .agg #[.int .i64 (plainC m).kind, .int .i64 (plainC m).int, .string (plainC m).str] := hd 5 91 (by kernel_rfl)
                have e97 : ρ (.tmp 97) = .agg #[.int .i64 (plainC n).kind, .int .i64 (plainC n).int, .string (plainC n).str] := hd 11 97 (by kernel_rfl)
                clear hd hf
                generalize plainC m = mm at *
                generalize plainC n = nn at *
                go_simp
                rw [cstEq_ite, HQ2.out]
                exact ⟨Gr.refl _, rfl⟩
              omega
            case hend =>
              intro w1 hb1
              have hW5 : Gr w w1 := Gr.trans hgr hb1
              have g1 := heap_gr hb1 f1
              have g2 := heap_gr hb1 f2
              have g3 := heap_gr hb1 f3
              have g4 := heap_gr hb1 f4
              clear hb1
              simp only [putAll, List.getElem?_toArray, List.getElem?_cons_succ, List.getElem?_cons_zero, Option.bind_some, Act.put, List.setIfInBounds_toArray, List.set_cons_succ, List.set_cons_zero, List.drop_succ_cons, List.drop_zero, List.getD_cons_zero, List.getD_cons_succ]
              go_wp2_with fail
              go_roundw
              case rel => exact ⟨j + 1, by omega, by go_num, all_take_succ Hall2.out hz2.out HQ.out, hW5, g1, g2, g3, g4⟩
              case measure => simp [intOf]; omega
        · have HC := Lib.hid (HB6.out.trans (all_take_len Hall2.out (by rw [List.length_zip, ← H6.out]; omega)))
          clear Hall2
          go_wp2_with fail
          go_roundw
          case rel => exact ⟨k + 1, by omega, by go_num, all_take_succ Hall.out hz.out HC.out, hgr, f1, f2⟩
          case measure => simp [intOf]; omega
    · go_wp2_with fail
      go_ret
      exact ⟨ret_bool (all_take_len Hall.out (by rw [List.length_zip, ← Hn.out]; omega)).symm, gr_plug2 hW (Nat.le_refl _) (by omega) _ _⟩
theorem Same_eq (A B : Option Addr) (c d : Nat) (xs ys : List FnRef) (w : World) (q : Bool) (hq : progSame xs ys = q) (hA : ProgAt w A xs) (hB : ProgAt w B ys) (hx : xs.length ≤ 1000000) (hy : ys.length ≤ 1000000) :
    Calls Tryd.prog 25 #[.agg #[.slice A xs.length c], .agg #[.slice B ys.length d]] w fun e w' => e = .returned (.bool q) ∧ Gr w w' := by
  subst hq; exact Same_any A B c d xs ys w hA hB hx hy
end Go.Proofs.YtlffpgjkhehdmaaDoor
