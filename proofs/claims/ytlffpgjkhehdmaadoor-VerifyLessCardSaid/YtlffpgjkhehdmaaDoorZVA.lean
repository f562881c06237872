/- Own work: knapsacklaw29.awake. -/
import Derived.Test.YtlffpgjkhehdmaaDoorZVC
import Derived.Test.YtlffpgjkhehdmaaDoorZGG
namespace Go.Proofs.YtlffpgjkhehdmaaDoor
open Go.RowKit
set_option linter.unusedVariables false
set_option linter.unusedSimpArgs false
set_option maxRecDepth 100000

def avFn (op : Int) : Fn := ⟨ByteArray.empty, 1, 0, 0, [⟨op, 0, 0⟩, ⟨48, 0, 0⟩], [], []⟩
def avRef (op : Int) (g : Nat) : FnRef := ⟨avFn op, some ⟨g, 0, none⟩, none, none, 2, 0, 0⟩
theorem av_sz (op : Int) : ∀ f ∈ [avFn op], FnSz f := by
  intro f hf
  obtain rfl : f = avFn op := by simpa using hf
  refine ⟨?_, ?_, ?_, ?_, fun c hc => ?_⟩
  · show (0 : Nat) ≤ _; omega
  · show (2 : Nat) ≤ _; omega
  · show (0 : Nat) ≤ _; omega
  · show (0 : Nat) ≤ _; omega
  · simp [avFn] at hc
theorem av_shapes : shapesQ [avFn 2] 0 = .ok [(0, 0), (1, 0)] := by kernel_rfl
theorem av_check : checkP [avFn 7] = 11 := by kernel_rfl
theorem av_at {w : World} {op : Int} {g h : Nat} {t u : TypeId} (hg : w.heap[g]? = some (.cells #[.int .i64 op, .int .i64 0, .int .i64 0, .int .i64 48, .int .i64 0, .int .i64 0] t (0, 0)))
    (hh : w.heap[h]? = some (.cells #[.string ByteArray.empty, .int .i64 1, .int .i64 0, .int .i64 0, .slice (some ⟨g, 0, none⟩) 2 2, .slice none 0 0, .slice none 0 0] u (0, 0))) : ProgAt w (some ⟨h, 0, none⟩) [avRef op g] := by
  refine ⟨SlAt.of_block fnCells_len hh rfl, fun r hr => ?_, fun r hr => ?_⟩
  · obtain rfl : r = avRef op g := by simpa using hr
    exact ⟨SlAt.of_block insCells_len hg rfl, SlAt.nil, SlAt.nil⟩
  · obtain rfl : r = avRef op g := by simpa using hr
    refine ⟨?_, ?_, ?_, ?_, fun c hc => ?_⟩
    · show (0 : Nat) ≤ _; omega
    · show (2 : Nat) ≤ _; omega
    · show (0 : Nat) ≤ _; omega
    · show (0 : Nat) ≤ _; omega
    · simp [avRef, avFn] at hc
theorem av_rep {w : World} {op : Int} {g h : Nat} (hP : ProgAt w (some ⟨h, 0, none⟩) [avRef op g]) : RepP w (fun _ => True) (pProg [avFn op]) (.agg #[.slice (some ⟨h, 0, none⟩) 1 1]) :=
  rep_prog hP (Nat.le_refl _) fun r hr => by
    obtain rfl : r = avRef op g := by simpa using hr
    exact ⟨Nat.le_refl _, Nat.le_refl _, Nat.le_refl _⟩
theorem av_call1 {w : World} {g h : Nat} (hT : Tabs w) (hP : ProgAt w (some ⟨h, 0, none⟩) [avRef 2 g]) : Calls Tryd.prog 29 #[.agg #[.slice (some ⟨h, 0, none⟩) 1 1], .int .i64 0] w fun e w' => ∃ b o cap, e = .returned (.tuple #[.slice (some ⟨b, o, none⟩) 2 cap, .int .i64 0]) ∧ Gr w w' ∧
    w'.cell? ⟨b, o + 1, none⟩ = some (.int .i64 0) ∧ w'.cell? ⟨b, o + 2, none⟩ = some (.int .i64 1) ∧ w'.cell? ⟨b, o + 3, none⟩ = some (.int .i64 0) ∧ b < w'.heap.size := by
  have h := shapesV_ret [avFn 2] (av_sz 2) (by decide) 0
  rw [av_shapes] at h
  refine (h.2 w (fun _ => True) [_, .int .i64 0] hT rfl fun j a v ha hv => ?_).mono fun e w' ⟨h2, hE⟩ => ?_
  · match j, ha, hv with
    | 0, ha, hv => cases ha; cases hv; exact av_rep hP
    | 1, ha, hv => cases ha; cases hv; exact .v _
    | j + 2, ha, hv => simp at ha
  · obtain ⟨v, h1, h3⟩ := hE
    subst h1
    obtain ⟨l, hl⟩ : ∃ l : List PV, [PV.ro 2 (pSh [(0, 0), (1, 0)]), pI 0] = l := ⟨_, rfl⟩
    replace h3 : RepP w' (fun b => True ∨ w.heap.size ≤ b) (.tup [PV.ro 2 (pSh [(0, 0), (1, 0)]), pI 0]) v := h3
    rw [hl] at h3
    cases h3 with
    | tup _ vs hlen hr =>
      subst hl
      match vs, hlen with
      | [v0, v1], _ =>
        have r0 := hr 0 _ v0 rfl rfl
        have r1 := hr 1 _ v1 rfl rfl
        have e1 : v1 = .int .i64 0 := repPv r1
        subst e1
        obtain ⟨rows, hrw⟩ : ∃ rows, pSh [(0, 0), (1, 0)] = rows := ⟨_, rfl⟩
        rw [hrw] at r0
        cases r0 with
        | ro0 _ A cap => cases hrw
        | ro _ _ b o cap vs hR hb hcap hs hc hrr =>
          subst hrw
          have c01 := hc 0 1 _ _ rfl rfl
          have c10 := hc 1 0 _ _ rfl rfl
          have c11 := hc 1 1 _ _ rfl rfl
          have e01 : vs 0 1 = .int .i64 0 := repPv (hrr 0 1 _ _ rfl rfl)
          have e10 : vs 1 0 = .int .i64 1 := repPv (hrr 1 0 _ _ rfl rfl)
          have e11 : vs 1 1 = .int .i64 0 := repPv (hrr 1 1 _ _ rfl rfl)
          rw [e01] at c01
          rw [e10] at c10
          rw [e11] at c11
          exact ⟨b, o, cap, rfl, h2, c01.1, c10.1, c11.1, hb⟩
theorem av_call2 {w : World} {g h : Nat} (hT : Tabs w) (hP : ProgAt w (some ⟨h, 0, none⟩) [avRef 7 g]) : Calls Tryd.prog 27 #[.agg #[.slice (some ⟨h, 0, none⟩) 1 1]] w fun e w' => e = .returned (.int .i64 11) ∧ Gr w w' := by
  have h := check_ret [avFn 7] (av_sz 7) (by decide)
  rw [av_check] at h
  refine (h.2 w (fun _ => True) [_] hT rfl fun j a v ha hv => ?_).mono fun e w' ⟨h2, hE⟩ => ?_
  · match j, ha, hv with
    | 0, ha, hv => cases ha; cases hv; exact av_rep hP
    | j + 1, ha, hv => simp at ha
  · obtain ⟨v, h1, h3⟩ := hE
    subst h1
    have e1 : v = .int .i64 11 := repPv h3
    subst e1
    exact ⟨rfl, h2⟩
set_option maxHeartbeats 1000000 in
theorem awake29 (w : World) (hT : Tabs w) : Calls Tryd.prog 26 #[] w fun e w' => e = .returned (.bool true) ∧ Gr w w' := by
  have HT := Lib.hid hT
  clear hT
  go_enter Tryd.func26, Tryd.ntmps26
  go_wp2_with fail
  have a1 := heap_gr (gr_alloc2 _ (.cells #[.string ByteArray.empty, .int .i64 1, .int .i64 0, .int .i64 0, .slice (some ⟨w.heap.size, 0, none⟩) 2 2, .slice none 0 0, .slice none 0 0] 50) (.cells #[.slice (some ⟨w.heap.size + 1, 0, none⟩) 1 1] 33)) (heap_alloc_new w (.cells #[.int .i64 2, .int .i64 0, .int .i64 0, .int .i64 48, .int .i64 0, .int .i64 0] 54))
  have a2 := heap_gr (gr_alloc _ (.cells #[.slice (some ⟨w.heap.size + 1, 0, none⟩) 1 1] 33)) (heap_alloc_new (w.alloc (.cells #[.int .i64 2, .int .i64 0, .int .i64 0, .int .i64 48, .int .i64 0, .int .i64 0] 54)) (.cells #[.string ByteArray.empty, .int .i64 1, .int .i64 0, .int .i64 0, .slice (some ⟨w.heap.size, 0, none⟩) 2 2, .slice none 0 0, .slice none 0 0] 50))
  simp only [World.size_alloc] at a1 a2
  refine (av_call1 (HT.out.gr (gr_alloc3 _ _ _ _)) (av_at a1 a2)).mono ?_
  rintro e w1 ⟨b, o, cap, rfl, hb1, k1, k2, k3, hbl⟩
  have e1 := heap_gr hb1 a1
  have e2 := heap_gr hb1 a2
  have e3 := heap_gr hb1 (heap_alloc_new ((w.alloc _).alloc _) _)
  simp only [World.size_alloc] at e3
  have hW0 : Gr w w1 := (gr_alloc3 w _ _ _).trans hb1
  have n1 : ¬ b = w.heap.size := by
    rintro rfl
    rw [cell_of_row _ _ _ _ _ _ e1] at k2
    match o, k2 with
    | 0, k2 => cases k2
    | 1, k2 => cases k2
    | 2, k2 => cases k2
    | 3, k2 => cases k2
    | o + 4, k2 => simp at k2
  have n2 : ¬ b = w.heap.size + 1 := by
    rintro rfl
    rw [cell_of_row _ _ _ _ _ _ e2] at k2
    match o, k2 with
    | 0, k2 => cases k2
    | 1, k2 => cases k2
    | 2, k2 => cases k2
    | 3, k2 => cases k2
    | 4, k2 => cases k2
    | o + 5, k2 => simp at k2
  have n3 : ¬ b = w.heap.size + 2 := by
    rintro rfl
    rw [cell_of_row _ _ _ _ _ _ e3] at k2
    simp at k2
  clear a1 a2 hb1
  obtain ⟨W, hw1, s1, s2, s3, hW⟩ := plug3 e1 e2 e3
  have hWW := hW0.trans hW
  clear e1 e2 e3 hW
  subst hw1
  rw [cell_plug_other _ _ _ _ _ n3, cell_plug_other _ _ _ _ _ n2, cell_plug_other _ _ _ _ _ n1] at k1 k2 k3
  clear hbl
  have f01 : (w.heap.size = w.heap.size + 1) = False := eq_false (by omega)
  have f02 : (w.heap.size = w.heap.size + 1 + 1) = False := eq_false (by omega)
  have f03 : (b = w.heap.size) = False := eq_false n1
  have f04 : (b = w.heap.size + 1) = False := eq_false n2
  have f05 : (b = w.heap.size + 1 + 1) = False := eq_false n3
  go_wp2_with fail
  have gw := gr_plug (gr_plug (gr_plug hWW (Nat.le_refl _) (.cells #[.int .i64 7, .int .i64 0, .int .i64 0, .int .i64 48, .int .i64 0, .int .i64 0] 54)) (Nat.le_succ _) (.cells #[.string ByteArray.empty, .int .i64 1, .int .i64 0, .int .i64 0, .slice (some ⟨w.heap.size, 0, none⟩) 2 2, .slice none 0 0, .slice none 0 0] 50)) (show w.heap.size ≤ w.heap.size + 1 + 1 by omega) (.cells #[.slice (some ⟨w.heap.size + 1, 0, none⟩) 1 1] 33)
  have m1 : w.heap.size ≠ w.heap.size + 1 := by omega
  have m2 : w.heap.size ≠ w.heap.size + 1 + 1 := by omega
  have m3 : w.heap.size + 1 ≠ w.heap.size + 1 + 1 := by omega
  refine (av_call2 (HT.out.gr gw) (av_at (op := 7) (g := w.heap.size) (by rw [heap_plug_other _ _ _ _ m2, heap_plug_other _ _ _ _ m1, heap_plug_same _ _ _ s1]) (by rw [heap_plug_other _ _ _ _ m3, heap_plug_same _ _ _ (by rw [size_plug]; exact s2)]))).mono ?_
  rintro e w2 ⟨rfl, hb2⟩
  have hW2 := gw.trans hb2
  clear gw hb2 m1 m2 m3 f01 f02 f03 f04 f05
  go_wp2_with fail
  go_ret
  exact ⟨rfl, hW2⟩
theorem awake29_ret : RT 26 [] (pB true) :=
  ⟨enters Tryd.func26 (by kernel_rfl) (by kernel_rfl), fun w B args hG hl hr => by
    match args, hl with
    | [], _ => exact (awake29 w hG).mono fun e w' ⟨h1, h2⟩ => ⟨h2, by rw [h1]; exact .ret (.v _)⟩⟩
end Go.Proofs.YtlffpgjkhehdmaaDoor
