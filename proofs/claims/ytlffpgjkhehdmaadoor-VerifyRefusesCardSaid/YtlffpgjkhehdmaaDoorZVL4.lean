/- Own work: knapsacklaw29.VerifyRefuses returns true. -/
import Derived.Test.YtlffpgjkhehdmaaDoorZVA
import Derived.Test.YtlffpgjkhehdmaaDoorZGB
namespace Go.Proofs.YtlffpgjkhehdmaaDoor
open Go.RowKit
set_option maxRecDepth 100000

/-- all own slices become data, and no own block is told any more -/
def frzA (H : AH) : AV → AV
  | .p x => .p x
  | .osl k i n => (match H[k]? with
    | some (some (.rows s rs _)) => (match Nat.ble (i + n) rs.length with
      | true => .p (.ro s ((rs.drop i).take n))
      | false => .junk)
    | _ => .junk)
  | _ => .junk
theorem wk_all {env : List AV} {H : AH} : Wk env H (env.map (frzA H)) (H.map fun _ => none) := by
  intro w0 B w ι tmps hB hR hE
  have hno : ∀ (k : Nat) (b : ABlk), (H.map fun _ => (none : Option ABlk))[k]? ≠ some (some b) := fun k b h => by
    rw [List.getElem?_map] at h
    cases hk : H[k]? with
    | none => rw [hk] at h; cases h
    | some x => rw [hk] at h; cases h
  have hrd : ∀ b, B b → Rd B ι (H.map fun _ => (none : Option ABlk)) b := fun b hb => ⟨hb, fun ⟨k, b', _, h, _⟩ => hno k b' h⟩
  refine ⟨ι, ⟨hR.gr, hR.fut, by simp [hR.len], fun k b c s h1 => absurd h1 (hno k b), fun k l b b' c s s' h1 => absurd h1 (hno k b)⟩, by simp [hE.len], fun q y u hy hu => ?_⟩
  rw [List.getElem?_map] at hy
  cases hq : env[q]? with
  | none => rw [hq] at hy; cases hy
  | some a =>
    rw [hq] at hy
    cases hy
    have hr := hE.at_ q a u hq hu
    cases a with
    | p x =>
      cases hr with
      | p _ _ h => exact .p _ _ ((repP_rd h).keep (Nat.le_refl _) fun b hb _ => ⟨hrd b hb, rfl⟩)
    | osl k i n =>
      simp only [frzA]
      split
      · rename_i s rs t hk
        split
        · rename_i hle
          have hle := Nat.le_of_ble_eq_true hle
          obtain ⟨p, rfl, hp⟩ := frz_sound hR hB (.osl k i n) u (fun p => p = .ro s ((rs.drop i).take n)) (by
            unfold frz
            rw [hk]
            exact ⟨hle, rfl⟩) hr
          exact .p _ _ (hp.keep (Nat.le_refl _) fun b hb _ => ⟨hrd b hb, rfl⟩)
        · exact .junk _
      · exact .junk _
    | own _ _ => exact .junk _
    | orw _ _ _ => exact .junk _
    | agg _ => exact .junk _
    | tup _ => exact .junk _
    | clo _ _ _ => exact .junk _
    | junk => exact .junk _
def rfCodes : List (List Ins) := [[⟨2, 0, 0⟩, ⟨40, 0, 0⟩], [⟨7, 0, 0⟩, ⟨2, 0, 0⟩, ⟨48, 0, 0⟩], [⟨20, 0, 0⟩, ⟨2, 0, 0⟩, ⟨48, 0, 0⟩], [⟨21, 0, 0⟩, ⟨2, 0, 0⟩, ⟨48, 0, 0⟩], [⟨2, 0, 0⟩],
  [⟨4, 0, 0⟩, ⟨42, 3, 0⟩, ⟨2, 0, 0⟩, ⟨2, 0, 0⟩, ⟨48, 0, 0⟩], [⟨2, 0, 0⟩, ⟨46, 0, 0⟩, ⟨48, 0, 0⟩], [⟨51, 1, 0⟩, ⟨2, 0, 0⟩, ⟨48, 0, 0⟩], [⟨19, 0, 0⟩, ⟨40, 0, 0⟩]]
def rfFn (k : Int) (c : List Ins) : Fn := ⟨ByteArray.empty, k, 0, 0, c, [], []⟩
theorem rf_all : (rfCodes.all fun c => ([1, 2, 3, 4, 5] : List Int).all fun k => decide (checkP [rfFn k c] = 11) && decide (c.length ≤ 5)) = true := by kernel_rfl
theorem rf_at {j : Nat} (hj : j < 9) {k : Int} (h0 : 1 ≤ k) (h1 : k ≤ 5) : ∃ c, rfCodes[j]? = some c ∧ checkP [rfFn k c] = 11 ∧ c.length ≤ 5 := by
  have hl : rfCodes.length = 9 := rfl
  refine ⟨rfCodes[j], List.getElem?_eq_getElem (by omega), ?_⟩
  have h := List.all_eq_true.1 rf_all rfCodes[j] (List.getElem_mem (by omega))
  have h2 := List.all_eq_true.1 h k (by
    simp only [List.mem_cons, List.not_mem_nil, or_false]
    omega)
  simpa using h2
theorem rf_sz (k : Int) (c : List Ins) (h : c.length ≤ 5) : ∀ f ∈ [rfFn k c], FnSz f := by
  intro f hf
  obtain rfl : f = rfFn k c := by simpa using hf
  refine ⟨?_, ?_, ?_, ?_, fun c hc => ?_⟩
  · show (0 : Nat) ≤ _; omega
  · show c.length ≤ _; omega
  · show (0 : Nat) ≤ _; omega
  · show (0 : Nat) ≤ _; omega
  · simp [rfFn] at hc
abbrev pU4 (n : Int) : PV := .v (.int .u8 n)
theorem wfu8r {x : Int} (h : (Lit.int .u8 x).wf = true) : 0 ≤ x ∧ x ≤ 255 := by
  have e1 : IntKind.u8.min = 0 := by decide
  have e2 : IntKind.u8.max = 255 := by decide
  simp only [Lit.wf, e1, e2, Bool.and_eq_true, decide_eq_true_eq] at h
  exact h
set_option maxHeartbeats 4000000 in
theorem lrefuses_ret (w k : Int) (hw : 0 ≤ w ∧ w ≤ 255) (hk : 0 ≤ k ∧ k ≤ 255) : RT 9 [pU4 w, pU4 k] (pB true) := by
  have ha := awake29_ret
  obtain ⟨k5, hk5⟩ : ∃ a, k.tmod 5 = a := ⟨_, rfl⟩
  obtain ⟨j, hj⟩ : ∃ a, w.tmod 9 = a := ⟨_, rfl⟩
  have hk0 : 0 ≤ k5 ∧ k5 < 5 := by
    rw [← hk5, Int.tmod_eq_emod_of_nonneg hk.1]
    omega
  have hj0 : 0 ≤ j ∧ j < 9 := by
    rw [← hj, Int.tmod_eq_emod_of_nonneg hw.1]
    omega
  obtain ⟨kk, hkk⟩ : ∃ a, 1 + k5 = a := ⟨_, rfl⟩
  obtain ⟨c, hc1, hc2, hc3⟩ := rf_at (j := j.toNat) (by omega) (k := kk) (by omega) (by omega)
  have hs := check_ret [rfFn kk c] (rf_sz kk c hc3) (by simp)
  rw [hc2] at hs
  have hrow : (rfCodes.map fun c => [PV.ro 3 (pCode c)])[j.toNat]? = some [.ro 3 (pCode c)] := by rw [List.getElem?_map, hc1]; rfl
  obtain ⟨CD, hCD⟩ : ∃ x, pCode c = x := ⟨_, rfl⟩
  replace hs : RT 27 [.agg [.ro 7 [[pS ⟨#[]⟩, pI kk, pI 0, pI 0, .ro 3 CD, .ro 3 [], .ro 5 []]]]] (pI 11) := by rw [← hCD]; exact hs
  rw [hCD] at hrow
  obtain ⟨RW, hRW⟩ : ∃ x, (rfCodes.map fun c => [PV.ro 3 (pCode c)]) = x := ⟨_, rfl⟩
  rw [hRW] at hrow
  have hrl : RW.length = 9 := by rw [← hRW]; rfl
  replace hRW : [[PV.ro 3 [[pI 2, pI 0, pI 0], [pI 40, pI 0, pI 0]]], [PV.ro 3 [[pI 7, pI 0, pI 0], [pI 2, pI 0, pI 0], [pI 48, pI 0, pI 0]]], [PV.ro 3 [[pI 20, pI 0, pI 0], [pI 2, pI 0, pI 0], [pI 48, pI 0, pI 0]]], [PV.ro 3 [[pI 21, pI 0, pI 0], [pI 2, pI 0, pI 0], [pI 48, pI 0, pI 0]]], [PV.ro 3 [[pI 2, pI 0, pI 0]]],
    [PV.ro 3 [[pI 4, pI 0, pI 0], [pI 42, pI 3, pI 0], [pI 2, pI 0, pI 0], [pI 2, pI 0, pI 0], [pI 48, pI 0, pI 0]]], [PV.ro 3 [[pI 2, pI 0, pI 0], [pI 46, pI 0, pI 0], [pI 48, pI 0, pI 0]]], [PV.ro 3 [[pI 51, pI 1, pI 0], [pI 2, pI 0, pI 0], [pI 48, pI 0, pI 0]]], [PV.ro 3 [[pI 19, pI 0, pI 0], [pI 40, pI 0, pI 0]]]] = RW := hRW
  refine ret_cut tyT_ok tabs_gr (f := 9) Tryd.func9 rfl (by kernel_rfl) (of_decide_eq_true (by kernel_rfl)) ?_
  refine Seg.cutK 2 62 [0, 1] 0 (fun _ : Unit => [.p (pU4 w), .p (pU4 k)]) (fun _ => []) (fun _ => True) tyT_ok mixed (fun _ => 0) (fun E => retQ E tyT Tryd.f9.results.toList (pB true)) (by kernel_rfl) ?_ ?_
  · intro P G E hc hMM hE
    replace ha := hc _ _ _ ha
    cbv
    repeat (first | (refine ⟨_, ha, ?_⟩; cbv))
    exact .mk () ⟨rfl, rfl, rfl, rfl, rfl⟩ trivial
  intro _ _
  refine Seg.cut 62 [0, 1, 5] 1 (fun _ : Unit => [.p (pU4 w), .p (pU4 k), .osl 0 0 9]) (fun _ => [some (.rows 1 RW 46)]) (fun _ => True) ?_ ?_
  · refine Seg.cutOps 34 62 [0, 1, 11, 15, 19, 23, 25, 31, 35, 39, 42] 0 (fun _ : Unit => [.p (pU4 w), .p (pU4 k), .p (.ro 3 [[pI 2, pI 0, pI 0], [pI 40, pI 0, pI 0]]), .p (.ro 3 [[pI 7, pI 0, pI 0], [pI 2, pI 0, pI 0], [pI 48, pI 0, pI 0]]), .p (.ro 3 [[pI 20, pI 0, pI 0], [pI 2, pI 0, pI 0], [pI 48, pI 0, pI 0]]), .p (.ro 3 [[pI 21, pI 0, pI 0], [pI 2, pI 0, pI 0], [pI 48, pI 0, pI 0]]), .p (.ro 3 [[pI 2, pI 0, pI 0]]),
      .p (.ro 3 [[pI 4, pI 0, pI 0], [pI 42, pI 3, pI 0], [pI 2, pI 0, pI 0], [pI 2, pI 0, pI 0], [pI 48, pI 0, pI 0]]), .p (.ro 3 [[pI 2, pI 0, pI 0], [pI 46, pI 0, pI 0], [pI 48, pI 0, pI 0]]), .p (.ro 3 [[pI 51, pI 1, pI 0], [pI 2, pI 0, pI 0], [pI 48, pI 0, pI 0]]), .p (.ro 3 [[pI 19, pI 0, pI 0], [pI 40, pI 0, pI 0]])]) (fun _ => []) (fun _ => True) tyT_ok
      (fun E => thenA (CutIs 62 [0, 1, 5] 1 (fun _ : Unit => [.p (pU4 w), .p (pU4 k), .osl 0 0 9]) (fun _ => [some (.rows 1 RW 46)]) (fun _ => True)) (retQ E tyT Tryd.f9.results.toList (pB true))) ?_ ?_
    · intro P G E hc hMM hE
      clear hs hrow hRW hrl
      cbv
      exact .wk () _ _ wk_all ⟨rfl, rfl, rfl, rfl, rfl⟩ trivial
    · intro _ _ P G E hc hMM hE
      clear hs hrow hrl
      subst hRW
      cbv
      exact .mk () ⟨rfl, rfl, rfl, rfl, rfl⟩ trivial
  intro _ _
  clear hRW
  refine Seg.cutK 1 62 [6] 2 (fun _ : Unit => [.own 1 0]) (fun _ => [some (.rows 1 RW 46), some (.box [.p (pS ⟨#[]⟩), .p (pI kk), .p (pI 0), .p (pI 0), .p (.ro 3 CD), .p (.ro 3 []), .p (.ro 5 [])] 50 none)]) (fun _ => True) tyT_ok mixed (fun _ => 0) (fun E => retQ E tyT Tryd.f9.results.toList (pB true)) (by kernel_rfl) ?_ ?_
  · intro P G E hc hMM hE
    have eofn : ∀ n : Nat, E.ofN n = (n : Int) := fun n => by rw [hE]; rfl
    have ewr : ∀ a : Int, -1000000 ≤ a → a ≤ 1000000 → E.wrap .i64 a = a := fun a h0 h1 => by rw [hE]; exact wrap_i64_in (by omega) (by omega)
    have w1 : E.rem k 5 = k5 := by rw [hE]; exact hk5
    have w2 : E.wrap .i64 k5 = k5 := ewr k5 (by omega) (by omega)
    have w3 : E.wadd .i64 1 k5 = kk := by rw [hE]; exact (wrap_i64_in (by omega) (by omega)).trans hkk
    have w4 : E.wrap .i64 w = w := ewr w (by omega) (by omega)
    have w5 : E.rem w (E.ofN 9) = j := by rw [eofn, hE]; exact hj
    have hz : E.ofN 9 = 0 → False := by rw [eofn]; decide
    have p1 : E.ple 0 j := by rw [hE]; exact hj0.1
    have p2 : E.plt j (E.ofN 9) := by rw [hE]; exact hj0.2
    have r1 : RW[E.addN 0 (E.nat j)]? = some [.ro 3 CD] := by rw [hE, show stdE.addN 0 (stdE.nat j) = j.toNat from Nat.zero_add _]; exact hrow
    clear hs hrow hrl hc1 hc2 hc3 hCD
    cbv
    repeat (first | (simp only [w1]; cbv) | simp only [w1] | (simp only [w2]; cbv) | simp only [w2] | (simp only [w3]; cbv) | simp only [w3] | (simp only [w4]; cbv) | simp only [w4] | (simp only [w5]; cbv) | simp only [w5] | (refine ⟨hz,p1,p2,_,r1, ?_⟩; cbv))
    exact .wk () _ _ ((wk_cell (k := 1) (j := 5) rfl rfl (nil_ro 3)).trans (wk_cell (k := 1) (j := 6) rfl rfl (nil_ro 5))) ⟨rfl, rfl, rfl, rfl, rfl⟩ trivial
  · intro _ _
    refine Seg.of tyT_ok mixed (fun _ => 0) (by kernel_rfl) (fun E => retQ E tyT Tryd.f9.results.toList (pB true)) fun P G E hc hMM hE => ?_
    replace hs := hc _ _ _ hs
    have z0 : E.pre 0 1 [[pS ⟨#[]⟩, pI kk, pI 0, pI 0, .ro 3 CD, .ro 3 [], .ro 5 []]] := by rw [hE]; show 0 + 1 ≤ 1; omega
    have z1 : E.sub [[pS ⟨#[]⟩, pI kk, pI 0, pI 0, .ro 3 CD, .ro 3 [], .ro 5 []]] 0 1 = [[pS ⟨#[]⟩, pI kk, pI 0, pI 0, .ro 3 CD, .ro 3 [], .ro 5 []]] := by rw [hE]; rfl
    rw [← z1] at hs
    clear hrow hrl hc1 hc2 hc3 hCD
    cbv
    refine .inl ⟨z0, _, hs, ?_⟩
    cbv
end Go.Proofs.YtlffpgjkhehdmaaDoor
