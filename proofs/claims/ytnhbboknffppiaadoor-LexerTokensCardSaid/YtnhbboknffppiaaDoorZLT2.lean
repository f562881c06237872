/- Own work: knapsacklaw25.LexerTokens returns true. -/
import Derived.Test.YtnhbboknffppiaaDoorZLT1
import Derived.Test.YtnhbboknffppiaaDoorZLT0
import Derived.Maps.AppendAt
namespace Go.Proofs.YtnhbboknffppiaaDoor
open Go.RowKit Go.Shelf
attribute [local go_sem] Oper.semAt_some
set_option linter.unusedSimpArgs false
set_option linter.unusedVariables false

theorem awake_c (W : World) (hG : GL W) : Calls Tryd.prog 11 #[] W fun e W' => e = .returned (.bool true) ∧ Gr W W' :=
  (awake_ret.2 W (fun _ => False) [] hG rfl (fun j a v ha hv => by simp at ha)).mono fun e W' ⟨hg, v, he, hr⟩ => by
    cases hr
    exact ⟨he, hg⟩
theorem tokens_in (s : ByteArray) (w : World) :
    CallsIn Fence.wide 5 Tryd.prog 18 #[.string s] w fun e w' => e = .returned (.func (.func 28) #[] #[.pointer (some ⟨w.heap.size, 0, none⟩)]) ∧ w' = w.alloc (.cells #[.string s] 9) := by
  refine callsIn_of_wp Tryd.func18 rfl trivial ?_ rfl
  simp only [Tryd.ntmps18, List.size_toArray, List.length_cons, List.length_nil, Nat.reduceAdd, Nat.reduceSub, Array.replicate_succ, Array.replicate_zero, List.push_toArray, List.append_toArray, List.nil_append, List.cons_append]
  gi_wp2
  go_ret
  exact ⟨rfl, rfl⟩
def tkC (x : TkV) : List Value := [.int .i64 x.k, .string x.t, .int .i64 x.a]
def GotI (n₀ Bg Bst : Nat) (stop : Int) (w : World) (pre : List TkV) (W : World) : Prop :=
  ((∃ v, Boxed W Bg 23 v ∧ W.ownsRow n₀ 30 3 v pre.length (pre.flatMap tkC) ∧ True) ∧ Boxed W Bst 5 (.int .u8 stop)) ∧ Below n₀ w W
theorem gotI_own {n₀ Bg Bst B : Nat} {stop : Int} {w : World} (hw : n₀ ≤ w.heap.size) (hB : n₀ ≤ B) : OwnFrom B (GotI n₀ Bg Bst stop w) :=
  OwnFrom.and (OwnFrom.and (Own.from (holdsRow_own n₀ Bg _ _ 3 (fun pre : List TkV => pre.length) (fun pre : List TkV => pre.flatMap tkC) (fun _ _ => True)) _) (Own.from (boxed_own Bst _ (fun _ => Value.int .u8 stop)) _)) (ownFrom_below hw hB)
theorem tkC_snoc (pre : List TkV) (x : TkV) : (pre ++ [x]).flatMap tkC = pre.flatMap tkC ++ tkC x := by simp [List.flatMap_append]
theorem flat_get {α : Type} {s : Nat} {cells : α → List Value} (hs : ∀ x, (cells x).length = s) : ∀ (xs : List α) (i : Nat) (x : α) (j : Nat) (v : Value), xs[i]? = some x → (cells x)[j]? = some v → (xs.flatMap cells)[i * s + j]? = some v
  | [], _, _, _, _, h, _ => by simp at h
  | y :: ys, 0, x, j, v, h, hv => by
    have : y = x := by simpa using h
    subst this
    have hj : j < (cells y).length := (List.getElem?_eq_some_iff.1 hv).1
    rw [List.flatMap_cons, Nat.zero_mul, Nat.zero_add, List.getElem?_append_left hj]; exact hv
  | y :: ys, i + 1, x, j, v, h, hv => by
    have ih := flat_get hs ys i x j v (by simpa using h) hv
    have hl := hs y
    rw [List.flatMap_cons, List.getElem?_append_right (by rw [hl, Nat.succ_mul]; omega), hl]
    rw [show (i + 1) * s + j - s = i * s + j by rw [Nat.succ_mul]; omega]; exact ih
/-- an own row as data -/
theorem own_rep {W : World} {n₀ : Nat} {v : Value} {n : Int} {M : List Tk} (h : W.ownsRow n₀ 30 3 v (M.map (tkV n)).length ((M.map (tkV n)).flatMap tkC)) : RepP W (fun _ => True) (.ro 3 (tkRows n M)) v := by
  obtain ⟨hl, h | ⟨g, cap, cur, rfl, _, hg, hn, hm, hs, ht⟩⟩ := h
  · obtain ⟨rfl, h0⟩ := h
    have : M = [] := List.eq_nil_of_length_eq_zero (by rw [← h0, List.length_map])
    subst this
    exact .ro0 _ _ _
  · have hb : g < W.heap.size := (Array.getElem?_eq_some_iff.1 hg).1
    have hlen : (tkRows n M).length = (M.map (tkV n)).length := by rw [tkRows_len, List.length_map]
    have hget : ∀ (i j : Nat) (x : Tk) (u : Value), M[i]? = some x → (tkC (tkV n x))[j]? = some u → W.cell? ⟨g, 0 + (i * 3 + j), none⟩ = some u := fun i j x u hx hu => by
      rw [Nat.zero_add, cell_of_row W g _ _ _ (0, 0) hg]
      have h1 := flat_get (s := 3) (fun _ => rfl) (M.map (tkV n)) i (tkV n x) j u (by rw [List.getElem?_map, hx]; rfl) hu
      rw [← ht] at h1
      have h2 := (List.getElem?_eq_some_iff.1 h1).1
      rw [List.getElem?_take_of_lt (by rw [List.length_take] at h2; omega)] at h1
      simpa using h1
    have key : ∀ (i j : Nat) (row : List PV) (a : PV), (tkRows n M)[i]? = some row → row[j]? = some a → ∃ x u, M[i]? = some x ∧ (tkC (tkV n x))[j]? = some u ∧ a = .v u ∧ u.oneCell' = true := fun i j row a h1 h2 => by
      unfold tkRows at h1
      rw [List.getElem?_map] at h1
      cases hx : M[i]? with
      | none => rw [hx] at h1; cases h1
      | some x =>
        rw [hx] at h1
        cases h1
        match j, h2 with
        | 0, h2 => cases h2; exact ⟨x, _, rfl, rfl, rfl, rfl⟩
        | 1, h2 => cases h2; exact ⟨x, _, rfl, rfl, rfl, rfl⟩
        | 2, h2 => cases h2; exact ⟨x, _, rfl, rfl, rfl, rfl⟩
        | j + 3, h2 => simp [tkRow] at h2
    rw [← hlen] at hn ⊢
    refine .ro 3 (tkRows n M) g 0 cap (fun i j => ((M[i]?).map fun x => ((tkC (tkV n x))[j]?).getD undef).getD undef) trivial hb hn (fun i row h1 => ?_) (fun i j row a h1 h2 => ?_) (fun i j row a h1 h2 => ?_)
    · unfold tkRows at h1
      rw [List.getElem?_map] at h1
      cases hx : M[i]? with
      | none => rw [hx] at h1; cases h1
      | some x => rw [hx] at h1; cases h1; rfl
    · obtain ⟨x, u, hx, hu, _, ho⟩ := key i j row a h1 h2
      simp only [hx, hu, Option.map_some, Option.getD_some]
      exact ⟨hget i j x u hx hu, ho⟩
    · obtain ⟨x, u, hx, hu, rfl, _⟩ := key i j row a h1 h2
      simp only [hx, hu, Option.map_some, Option.getD_some]
      exact .v _
theorem rop_rep {W : World} {b : Nat} {t : TypeId} {v : Value} {p : PV} (h : Boxed W b t v) (ho : v.oneCell' = true) (hp : RepP W (fun _ => True) p v) : RepP W (fun _ => True) (.rop [p]) (.pointer (some ⟨b, 0, none⟩)) := by
  refine .rop [p] b 0 (fun _ => v) trivial h.lt (fun j a hj => ?_) (fun j a hj => ?_)
  · match j, hj with
    | 0, hj => exact ⟨h.cell, ho⟩
    | j + 1, hj => simp at hj
  · match j, hj with
    | 0, hj => cases hj; exact hp
    | j + 1, hj => simp at hj
/-- from the loop's end to the function's -/
theorem tok_end (s : ByteArray) (hs : s.size ≤ 2000) (stop : Int) (hst : 0 ≤ stop ∧ stop ≤ 255) (TS : List Tk) (ER : Option (Nat × Int)) (hL : lexB s.data.toList = (TS, ER)) (M : List Tk) (hM : TS.take (stop.toNat + 1) = M) (w W : World) (Bg : Nat) (a : Act) (D : Nat) (hwD : w.heap.size ≤ D)
    (hGot : GotI w.heap.size Bg w.heap.size stop w (M.map (tkV (s.size : Nat))) W) (hK : W.heap[D]? = some (.deferred (some []))) (hG : GL w) (hBg : w.heap.size < Bg)
    (had : a.defers = [{ target := .collected D, args := #[] }]) (hsz : a.tmps.size = 46) (h0 : a.tmps[0]? = some (.string s)) (h3 : a.tmps[3]? = some (.pointer (some ⟨w.heap.size, 0, none⟩))) (h5 : a.tmps[5]? = some (.pointer (some ⟨Bg, 0, none⟩))) :
    (tailK 4 ((Tryd.f8).body.getD .skip)).wp Tryd.prog (bodyPostM Fence.wide 6 Tryd.prog Tryd.f8 fun e W' => e = .returned (.bool true) ∧ Gr w W') a W := by
  obtain ⟨⟨⟨v, hv, hrow, _⟩, hs5⟩, hB⟩ := hGot
  have ho : v.oneCell' = true := by
    rcases hrow.2 with ⟨rfl, _⟩ | ⟨g, cap, cur, rfl, _⟩ <;> rfl
  subst hM
  refine wp_mono (tok_rest s hs stop hst TS ER hL _ a W (gl_gr w W hB hG) had hsz h0 _ _ h3 h5 (rop_rep hs5 rfl (.v _)) (rop_rep hv ho (own_rep hrow))) ?_
  rintro e a' W' ⟨rfl, hd, h4, hg⟩
  have hK2 : W'.heap[D]? = some (.deferred (some [])) := (hg.block D (Array.getElem?_eq_some_iff.1 hK).1).trans hK
  show LeavesInM _ _ _ _ _ _ a'.defers _ _
  rw [hd]
  refine ⟨by simp, .inl ⟨_, _, rfl, run_takeDeferred hK2, ?_⟩⟩
  refine ⟨_, results_tmp rfl _ _ _, ?_, ?_⟩
  · rw [show a'.tmps.getD 4 undef = .bool true by rw [Array.getD_eq_getD_getElem?, h4]; rfl]
  · exact Below.trans (Gr.trans hB hg) (belowK_b (w := w) (Nat.le_refl _) W' D _ _ hwD hK2 rfl rfl)
theorem A_info : (Tryd.prog.info? 30).map (fun i => (i.zero, i.size, i.bytes)) = some (some (.agg #[.int .i64 0, .string ⟨#[]⟩, .int .i64 0]), 3, 32) := by kernel_rfl
theorem cell_tok_new (w : World) (x y z : Value) (t : TypeId) : ∀ j u, [x, y, z][j]? = some u → (w.alloc (.cells #[x, y, z] t)).cell? ((⟨w.heap.size, 0, none⟩ : Addr).add j) = some u := by
  intro j u hj
  match j, hj with
  | 0, hj => cases hj; simp [Addr.add]
  | 1, hj => cases hj; simp [Addr.add]
  | 2, hj => cases hj; simp [Addr.add]
  | j + 3, hj => simp at hj
set_option maxRecDepth 100000 in
set_option maxHeartbeats 4000000 in
theorem ltokens_c (s : ByteArray) (stop : Int) (hst : 0 ≤ stop ∧ stop ≤ 255) (w : World) (hG : GL w) : CallsIn Fence.wide 6 Tryd.prog 8 #[.string s, .int .u8 stop] w fun e W' => e = .returned (.bool true) ∧ Gr w W' := by
  have ha : ∀ W, Gr w W → Calls Tryd.prog 11 #[] W fun e W' => e = .returned (.bool true) ∧ Gr W W' := fun W h => awake_c W (gl_gr _ _ h hG)
  have hg0 := gr_alloc w (Obj.cells #[Value.int IntKind.u8 stop] 5)
  refine callsIn_of_wp_marks Tryd.func8 rfl trivial ?_ rfl
  simp only [Tryd.ntmps8, List.size_toArray, List.length_cons, List.length_nil, Nat.reduceAdd, Nat.reduceSub, Array.replicate_succ, Array.replicate_zero, List.push_toArray, List.append_toArray, List.nil_append, List.cons_append]
  by_cases hbig : 2000 < ((s.size : Nat) : Int)
  · gi_wp2_with (first
      | (refine ⟨trivial, ?_⟩; gi_at_call 11; refine (callsIn_wide.2 (ha _ hg0)).mono ?_; rintro e w1 ⟨rfl, hg1⟩)
      | (refine ⟨trivial, ?_⟩; gi_at_call 11; refine (callsIn_wide.2 (ha _ (hg0.trans hg1))).mono ?_; rintro e w2 ⟨rfl, hg2⟩))
    exact ⟨_, results_tmp rfl _ _ _, rfl, (hg0.trans hg1).trans hg2⟩
  · obtain ⟨TS, ER, hL⟩ : ∃ a b, lexB s.data.toList = (a, b) := ⟨_, _, rfl⟩
    have hs2 : s.size ≤ 2000 := by omega
    have hTl : TS.length ≤ 2000 := by
      have := lexF_cnt _ _ (show lexF uB repairL (s.data.toList.length + 1) s.data.toList = (TS, ER) from hL)
      have e : s.data.toList.length = s.size := rfl
      omega
    gi_wp2_with (first
      | (refine ⟨trivial, ?_⟩; gi_at_call 11; refine (callsIn_wide.2 (ha _ hg0)).mono ?_; rintro e w1 ⟨rfl, hg1⟩)
      | (refine ⟨trivial, ?_⟩; gi_at_call 18; refine (tokens_in s _).mono ?_; rintro e w2 ⟨rfl, rfl⟩))
    rename_i K a0
    have hgw1 := hg0.trans hg1
    have hw1 : w.heap.size < w1.heap.size := by have := hg1.size; simp at this; omega
    have bG := Boxed.new w1 23 (.slice none 0 0)
    have bS0 : Boxed w1 w.heap.size 5 (.int .u8 stop) := (hg1.block _ (by simp)).trans (Boxed.new w _ _)
    have bT := Boxed.new (w1.alloc (.cells #[.slice none 0 0] 23)) 9 (.string s)
    rw [World.size_alloc] at bT
    have hB0 : Below w.heap.size w ((w1.alloc (.cells #[.slice none 0 0] 23)).alloc (.cells #[.string s] 9)) := (Below.alloc (Below.alloc hgw1 (by omega) _) (by simp; omega) _)
    obtain ⟨i0, hi, hz0, hz1, hz2⟩ := info_parts A_info
    refine wpIn_rangeFunc_ownH rfl (by decide) (gf := 28) (lb := #[.pointer (some ⟨w1.heap.size + 1, 0, none⟩)]) rfl trivial (enters Tryd.func28 (by kernel_rfl) (by kernel_rfl))
      (tokens_y w.heap.size s (by omega) TS ER hL w _ hG rfl hB0 (by simp; omega) (w1.heap.size + 1) (by simp) bT.cell) belowK_t (belowK_b (by simp; omega)) (Below.refl _ _) (fun _ => rfl)
      (fun pre W => GotI w.heap.size w1.heap.size w.heap.size stop w pre W ∧ (pre.length : Int) ≤ stop)
      (fun c pre W => GotI w.heap.size w1.heap.size w.heap.size stop w pre W ∧ (c = .exit 0 ∧ (pre.length : Int) = stop + 1))
      (OwnFrom.and (gotI_own (Nat.le_refl _) (by simp; omega)) (fun _ _ _ _ h _ _ => h))
      (fun c => OwnFrom.and (gotI_own (Nat.le_refl _) (by simp; omega)) (fun _ _ _ _ h _ _ => h))
      ⟨⟨⟨⟨_, bG.alloc _, World.ownsRow_nil _ _ _ _, trivial⟩, (bS0.alloc _).alloc _⟩, hB0⟩, by simpa using hst.1⟩
      (fun x a' W => ∃ Bx, w1.heap.size < Bx ∧ W.heap[Bx]? = some (.cells #[.int .i64 x.k, .string x.t, .int .i64 x.a] 30 (0, 0)) ∧ a' = { defers := [], tmps := #[Value.string s, Value.int IntKind.u8 stop, undef, Value.pointer (some ⟨w.heap.size, 0, none⟩),
          Value.bool false, Value.pointer (some ⟨w1.heap.size, 0, none⟩), Value.pointer (some ⟨Bx, 0, none⟩), undef, undef, undef,
          Value.bool true, Value.bool false, Value.bool false, Value.string s, Value.int IntKind.i64 ((s.size : Nat) : Int),
          Value.bool (decide (2000 < ((s.size : Nat) : Int))), Value.bool (decide (2000 < ((s.size : Nat) : Int))), undef, Value.string s,
          Value.func (Fn.func 28) #[] #[Value.pointer (some ⟨w1.heap.size + 1, 0, none⟩)], Value.agg #[.int .i64 x.k, .string x.t, .int .i64 x.a], undef,
          undef, undef, undef, undef, undef, undef, undef, undef, undef, undef, undef, undef, undef, undef, undef,
          undef, undef, undef, undef, undef, undef, undef, undef, undef] })
      (fun x a' _ X Y row hs hg hr => by
        obtain ⟨Bx, h1, h2, h3⟩ := hs
        refine ⟨Bx, h1, (hg.block Bx (Array.getElem?_eq_some_iff.1 h2).1 fun e' => ?_).trans h2, h3⟩
        obtain ⟨_, o, ho, hc⟩ := hr Bx e'.symm
        rw [h2] at ho
        cases ho
        cases hc)
      ?assign ?body ?done ?stop
    case assign =>
      rintro l pre ⟨k, t, b⟩ W K ⟨⟨⟨⟨v, hv, hrow, _⟩, hs5⟩, hB⟩, hpl⟩ hK
      simp only [tkE]
      gi_wp2
      exact hK _ _ ((KeepsOthers.alloc _ _).from _) ((Below.refl _ W).alloc hB.size _) ⟨⟨⟨⟨v, hv.alloc _, hrow.alloc _, trivial⟩, hs5.alloc _⟩, hB.alloc hB.size _⟩, hpl⟩ ⟨W.heap.size, hv.lt, World.alloc_heap_new W _, rfl⟩
    case body =>
      rintro l pre ⟨k, t, b⟩ a' W hl ⟨r, hr⟩ ⟨⟨⟨⟨v, hv, hrow, _⟩, hs5⟩, hB⟩, hpl⟩ ⟨Bx, hBx, hX, rfl⟩ hlt
      have hc := hv.cell
      have hcs := hs5.cell
      have x0 : W.cell? ⟨Bx, 0, none⟩ = some (.int .i64 k) := (cell_of_row W Bx 0 _ _ (0, 0) hX).trans rfl
      have x1 : W.cell? ⟨Bx, 1, none⟩ = some (.string t) := (cell_of_row W Bx 1 _ _ (0, 0) hX).trans rfl
      have x2 : W.cell? ⟨Bx, 2, none⟩ = some (.int .i64 b) := (cell_of_row W Bx 2 _ _ (0, 0) hX).trans rfl
      gi_wp2_with (gi_at_builtin; refine wpListIn_append_own _ rfl _ _ 23 rfl w.heap.size 30 i0 (.agg #[.int .i64 0, .string ⟨#[]⟩, .int .i64 0]) 3 32 Tryd.underlying23 hi hz0 hz1 hz2 rfl (by decide) _ _ _ rfl (hrow.alloc _) ⟨W.heap.size, 0, none⟩ 1 1 [.int .i64 k, .string t, .int .i64 b] rfl rfl (cell_tok_new _ _ _ _ _) (by simp [Value.oneCell']) (by unfold maxLen; omega) (by omega) (by have := hB.size; simp; omega) ?_; intro v' w3 hown' hgrow _; obtain ⟨g', cap', rfl⟩ := ownsRow_succ hown'; obtain ⟨hv1, hv2, hr2, hk2, hb2⟩ := hv.appended (by decide) hrow hB.size (by omega) hown' hgrow; have hc1 := hv1.cell; have hf1 := hv1.frozen; have hs6 := (((hs5.alloc _).kept hgrow (hs5.not_row (by decide) hrow)).other (show w.heap.size ≠ w1.heap.size by omega) (.slice (some ⟨g', 0, none⟩) (pre.length + 1) cap')); have hc6 := hs6.cell)
      · exact ⟨hk2.from _, ⟨⟨⟨_, hv2, by rw [List.length_append, tkC_snoc]; exact hr2, trivial⟩, hs6⟩, hB.trans hb2⟩, rfl, by simp; omega⟩
      · exact ⟨hk2.from _, hb2, ⟨⟨⟨_, hv2, by rw [List.length_append, tkC_snoc]; exact hr2, trivial⟩, hs6⟩, hB.trans hb2⟩, by simp; omega⟩
    case done =>
      rintro D ys W hD rfl ⟨hGot, hpl⟩ hK
      rw [List.length_map] at hpl
      refine a0 _ _ (wpIn_wide.2 ?_)
      have hM : TS.take (stop.toNat + 1) = TS := List.take_of_length_le (by omega)
      exact tok_end s hs2 stop hst TS ER hL TS hM w W _ _ D (by simp at hD; omega) hGot hK hG (by omega) rfl rfl rfl rfl rfl
    case stop =>
      rintro D c pre W hD hpre ⟨hGot, rfl, hpl⟩ hK
      refine wpIn_exit ?_
      refine a0 _ _ (wpIn_wide.2 ?_)
      obtain ⟨M, hM, rfl⟩ : ∃ M : List Tk, TS.take (stop.toNat + 1) = M ∧ pre = M.map (tkV (s.size : Nat)) := by
        rw [List.prefix_iff_eq_take] at hpre
        refine ⟨_, rfl, ?_⟩
        rw [List.map_take, show stop.toNat + 1 = pre.length by omega]
        exact hpre
      exact tok_end s hs2 stop hst TS ER hL M hM w W _ _ D (by simp at hD; omega) hGot hK hG (by omega) rfl rfl rfl rfl rfl
theorem ltokens_ret (s : ByteArray) (x : Int) (hx : 0 ≤ x ∧ x ≤ 255) : RL 8 [pS s, .v (.int .u8 x)] (pB true) :=
  ret_v Tryd.func8 (by kernel_rfl) (by kernel_rfl) [.string s, .int .u8 x] _ fun w hG => (callsIn_wide.1 (ltokens_c s x hx w hG)).mono fun e w' ⟨h1, h2⟩ => ⟨_, h1, h2, fun _ => .v _⟩
end Go.Proofs.YtnhbboknffppiaaDoor
