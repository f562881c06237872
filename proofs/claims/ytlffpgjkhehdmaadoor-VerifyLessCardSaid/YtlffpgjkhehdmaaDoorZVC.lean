/- Own work: verify.Check, verify.Shapes and verify.Deepest as plain functions. -/
import Derived.Test.YtlffpgjkhehdmaaDoorZShW
import Derived.Test.YtlffpgjkhehdmaaDoorZGI
import Derived.Test.YtlffpgjkhehdmaaDoorZGJ
namespace Go.Proofs.YtlffpgjkhehdmaaDoor
open Go.RowKit
set_option maxRecDepth 100000

theorem up0 {f : FuncId} {l : List PV} {r : PV} (h : V0 f l r) : RT f l r := ⟨h.1, fun w B args _ => h.2 w B args trivial⟩
/-- a well-formed function keeps the rules of visit -/
theorem fnV_of {f : Fn} {n : Int} (h : formedB f n = true) (hn : n ≤ 4096) : FnV f := by
  unfold formedB headB sizeB partsB betw at h
  simp only [Bool.and_eq_true, List.all_eq_true, decide_eq_true_eq] at h
  obtain ⟨⟨_, _, _, _, hloc⟩, ⟨h1, h2, h3⟩, h4, h5, h6⟩ := h
  refine ⟨fun x hx => ?_, fun y hy => ?_, by omega, by omega, by omega⟩
  · have hx := h5 x hx
    unfold fitsB argOk betw at hx
    simp only [Bool.and_eq_true, decide_eq_true_eq] at hx
    obtain ⟨⟨ho, _⟩, ha⟩ := hx
    refine ⟨ho, ?_⟩
    generalize operandOf x.op = k at ha
    repeat' split at ha
    all_goals simp only [Bool.and_eq_true, decide_eq_true_eq, beq_iff_eq] at ha
    all_goals omega
  · obtain ⟨x, hx, rfl⟩ := List.mem_map.1 hy
    have hx := h6 x hx
    unfold hdlOk betw at hx
    simp only [Bool.and_eq_true, decide_eq_true_eq] at hx
    exact ⟨hx.2.2.2.1.1, hx.2.2.2.2.1.1, hx.2.2.2.2.1.2⟩
theorem progF_fnV {fs : List Fn} (h : progF fs = true) : ∀ f ∈ fs, FnV f := by
  unfold progF at h
  simp only [Bool.and_eq_true, List.all_eq_true, decide_eq_true_eq] at h
  exact fun f hf => fnV_of (h.1 f hf) h.2
def checkP (fs : List Fn) : Int := if progF fs then (if fs.all (fun f => (shapesP f).isSome) then 0 else 11) else 3
def shapesQ (fs : List Fn) (i : Int) : Except Int (List Shp) :=
  if progF fs then (if 0 ≤ i ∧ i < fs.length then (match (fs[i.toNat]?).bind shapesP with
    | some l => .ok l
    | none => .error 11) else .error 2) else .error 3
def pSR : Except Int (List Shp) → PV
  | .ok l => .tup [.ro 2 (pSh l), pI 0]
  | .error e => .tup [.v (.slice none 0 0), pI e]
def deepP (l : List Shp) : Int := l.foldl (fun m s => if m < s.1 then s.1 else m) 0
def pDR : Except Int (List Shp) → PV
  | .ok l => .tup [pI (deepP l), pI 0]
  | .error e => .tup [pI 0, pI e]
theorem pFns_get {l : List Fn} {i : Nat} {x : Fn} (h : l[i]? = some x) : (pFns l)[i]? = some (pFn x) := by
  unfold pFns; rw [List.getElem?_map, h]; rfl
structure AllI (fs : List Fn) (p : Fn → Bool) (i : Int) : Prop where
  i0 : 0 ≤ i
  i1 : i ≤ fs.length
  ok : (fs.take i.toNat).all p = true
theorem check_ret (fs : List Fn) (hw : ∀ f ∈ fs, FnSz f) (hn : fs.length ≤ 1000000) : RT 27 [pProg fs] (pI (checkP fs)) := by
  have hf := formed_ret fs hw hn
  obtain ⟨μ, hμ⟩ : ∃ μ : Int → Nat, ∀ i, μ i = 1000002 - i.toNat := ⟨_, fun _ => rfl⟩
  obtain ⟨q, hq⟩ : ∃ q, checkP fs = q := ⟨_, rfl⟩
  cases hp : progF fs
  · rw [hp] at hf
    obtain rfl : q = 3 := by rw [← hq]; unfold checkP; rw [hp]; rfl
    rw [hq]
    unfold pProg at hf ⊢
    generalize pFns fs = F at *
    refine ret_by tyT_ok tabs_gr mixed (fun _ => 0) Tryd.func27 rfl (by kernel_rfl) (by kernel_rfl) rfl fun P G E hc hE => ?_
    replace hf := hc _ _ _ hf
    cbv
    repeat (first | (refine ⟨_, hf, ?_⟩; cbv))
  · rw [hp] at hf
    have hv := progF_fnV hp
    have hq' : q = if fs.all (fun f => (shapesP f).isSome) then 0 else 11 := by rw [← hq]; unfold checkP; rw [hp]; rfl
    rw [hq]
    have hg : ∀ (k : Nat) x, fs[k]? = some x → (pFns fs)[k]? = some (pFn x) := fun k x h => pFns_get h
    have hl : (pFns fs).length = fs.length := by simp [pFns]
    have hsr : ∀ f ∈ fs, RT 46 [.agg (pFn f)] (shR (shapesP f)) := fun f hf => up0 (shapes_ret f (hv f hf))
    obtain ⟨n, hnn⟩ : ∃ n, fs.length = n := ⟨_, rfl⟩
    rw [hnn] at hl
    unfold pProg at hf ⊢
    generalize pFns fs = F at *
    refine ret_by tyT_ok tabs_gr mixed (fun _ => 0) Tryd.func27 rfl (by kernel_rfl) (by kernel_rfl) rfl fun P G E hc hE => ?_
    replace hf := hc _ _ _ hf
    have elt : ∀ a b, E.lti a b = decide (a < b) := fun a b => by rw [hE]; rfl
    have eofn : ∀ n, E.ofN n = (n : Int) := fun n => by rw [hE]; rfl
    have enat : ∀ i, E.nat i = i.toNat := fun i => by rw [hE]; rfl
    have eple : ∀ a b, a ≤ b → E.ple a b := fun a b h => by rw [hE]; exact h
    have eadd : ∀ a b : Int, -1000000 ≤ a → a ≤ 1000000 → -1000000 ≤ b → b ≤ 1000000 → E.wadd .i64 a b = a + b := fun a b h0 h1 h2 h3 => by rw [hE]; exact wrap_i64_in (by omega) (by omega)
    have hx0 : AllI fs (fun f => (shapesP f).isSome) 0 := ⟨Int.le_refl _, Int.natCast_nonneg _, rfl⟩
    cbv at hl
    cbv
    repeat (first | (refine ⟨_, hf, ?_⟩; cbv))
    simp only [hl]
    refine loop_by 25 [11, 12, 13] 0 (fun i : Int => [.p (.ro 7 F), .p (pI (E.ofN n)), .p (pI i)]) (fun _ => []) (AllI fs fun f => (shapesP f).isSome) μ 0 ⟨rfl, rfl, rfl, rfl, rfl⟩ hx0 ?_
    intro i hI
    obtain ⟨i0, i1, hok⟩ := hI
    replace hnn : fs.length = n := hnn
    replace hn : fs.length ≤ 1000000 := hn
    replace eofn : ∀ n : Nat, E.ofN n = (n : Int) := eofn
    replace hμ : ∀ i : Int, μ i = 1000002 - i.toNat := hμ
    have dd : E.lti i (E.ofN n) = decide (i < (n : Int)) := by rw [eofn, elt]
    by_cases hi : i < (n : Int)
    · rw [decide_eq_true hi] at dd
      obtain ⟨x, hx⟩ : ∃ x, fs[i.toNat]? = some x := ⟨_, List.getElem?_eq_getElem (by omega)⟩
      have gr := hg _ _ hx
      rw [← enat] at gr
      have hs := hc _ _ _ (hsr x (List.mem_of_getElem? hx))
      have htk : (fs.take (i.toNat + 1)).all (fun f => (shapesP f).isSome) = (shapesP x).isSome := by
        rw [List.take_add_one, hx, List.all_append, hok]
        simp
      have p3 := eple 0 i i0
      have ei := eadd i 1 (by omega) (by omega) (by omega) (by omega)
      have hM2 : μ (E.wadd .i64 i 1) < μ i := by rw [hμ, hμ, ei]; omega
      cases hsx : shapesP x with
      | none =>
        obtain rfl : q = 11 := by
          rw [hq', if_neg]
          intro hall
          have := List.all_eq_true.1 hall x (List.mem_of_getElem? hx)
          rw [hsx] at this
          cases this
        rw [hsx] at hs
        unfold pFn at gr hs
        generalize pCode x.code = c1 at *
        generalize pCons x.consts = c2 at *
        generalize pHdls x.hdls = c3 at *
        clear htk hsr hg hsx hx
        cbv
        repeat (first | (simp only [dd]; cbv) | simp only [dd] | (refine ⟨p3,_,gr, ?_⟩; cbv) | (refine ⟨_, hs, ?_⟩; cbv))
      | some l =>
        have hI2 : AllI fs (fun f => (shapesP f).isSome) (E.wadd .i64 i 1) := ⟨by rw [ei]; omega, by rw [ei]; omega, by rw [ei, show (i + 1).toNat = i.toNat + 1 by omega, htk, hsx]; rfl⟩
        rw [hsx] at hs
        unfold pFn at gr hs
        simp only [shR] at hs
        generalize pSh l = sl at *
        generalize pCode x.code = c1 at *
        generalize pCons x.consts = c2 at *
        generalize pHdls x.hdls = c3 at *
        clear htk hsr hg hsx hx
        cbv
        repeat (first | (simp only [dd]; cbv) | simp only [dd] | (refine ⟨p3,_,gr, ?_⟩; cbv) | (refine ⟨_, hs, ?_⟩; cbv))
        refine .mk (E.wadd .i64 i 1) ⟨rfl, rfl, rfl, rfl, rfl⟩ ?_ ?_
        · exact hI2
        · exact hM2
    · rw [decide_eq_false hi] at dd
      obtain rfl : q = 0 := by
        rw [hq', if_pos]
        rw [List.take_of_length_le (by omega)] at hok
        exact hok
      clear hsr hg
      cbv
      repeat (first | (simp only [dd]; cbv) | simp only [dd])
theorem shapesV_ret (fs : List Fn) (hw : ∀ f ∈ fs, FnSz f) (hn : fs.length ≤ 1000000) (i : Int) : RT 29 [pProg fs, pI i] (pSR (shapesQ fs i)) := by
  have hf := formed_ret fs hw hn
  obtain ⟨q, hq⟩ : ∃ q, pSR (shapesQ fs i) = q := ⟨_, rfl⟩
  cases hp : progF fs
  · rw [hp] at hf
    obtain rfl : q = .tup [.v (.slice none 0 0), pI 3] := by rw [← hq]; unfold shapesQ; rw [hp]; rfl
    rw [hq]
    unfold pProg at hf ⊢
    generalize pFns fs = F at *
    refine ret_by tyT_ok tabs_gr mixed (fun _ => 0) Tryd.func29 rfl (by kernel_rfl) (by kernel_rfl) rfl fun P G E hc hE => ?_
    replace hf := hc _ _ _ hf
    cbv
    repeat (first | (refine ⟨_, hf, ?_⟩; cbv))
  · rw [hp] at hf
    have hv := progF_fnV hp
    have hl : (pFns fs).length = fs.length := by simp [pFns]
    obtain ⟨n, hnn⟩ : ∃ n, fs.length = n := ⟨_, rfl⟩
    by_cases h0 : 0 ≤ i
    · by_cases h1 : i < (n : Int)
      · obtain ⟨x, hx⟩ : ∃ x, fs[i.toNat]? = some x := ⟨_, List.getElem?_eq_getElem (by omega)⟩
        have gr := pFns_get hx
        have hs := up0 (shapes_ret x (hv x (List.mem_of_getElem? hx)))
        have hq2 : q = pSR (match shapesP x with
          | some l => .ok l
          | none => .error 11) := by
          rw [← hq]; unfold shapesQ; rw [hp, if_pos rfl, if_pos (by omega), hx]; rfl
        rw [hq]
        unfold pProg at hf ⊢
        unfold pFn at gr hs
        generalize pFns fs = F at *
        generalize pCode x.code = c1 at *
        generalize pCons x.consts = c2 at *
        generalize pHdls x.hdls = c3 at *
        rw [hnn] at hl
        cases hsx : shapesP x with
        | none =>
          rw [hsx] at hs hq2
          obtain rfl : q = .tup [.v (.slice none 0 0), pI 11] := hq2
          refine ret_by tyT_ok tabs_gr mixed (fun _ => 0) Tryd.func29 rfl (by kernel_rfl) (by kernel_rfl) rfl fun P G E hc hE => ?_
          replace hf := hc _ _ _ hf
          replace hs := hc _ _ _ hs
          have d1 : E.lti i 0 = false := by rw [hE]; exact decide_eq_false (by omega)
          have d2 : E.lei (E.ofN n) i = false := by rw [hE]; exact decide_eq_false (show ¬ (n : Int) ≤ i by omega)
          have p3 : E.ple 0 i := by rw [hE]; exact h0
          have g2 : F[E.nat i]? = some [pS x.name, pI x.kind, pI x.params, pI x.locals, .ro 3 c1, .ro 3 c2, .ro 5 c3] := by rw [hE]; exact gr
          clear gr hq hsx hx hv hp hnn
          cbv at hl
          cbv
          repeat (first | (refine ⟨_, hf, ?_⟩; cbv) | (simp only [hl]; cbv) | simp only [hl] | (simp only [d1]; cbv) | simp only [d1] | (simp only [d2]; cbv) | simp only [d2] | (refine ⟨p3,_,g2, ?_⟩; cbv) | (refine ⟨_, hs, ?_⟩; cbv))
        | some l =>
          rw [hsx] at hs hq2
          obtain rfl : q = .tup [.ro 2 (pSh l), pI 0] := hq2
          simp only [shR] at hs
          generalize pSh l = sl at *
          refine ret_by tyT_ok tabs_gr mixed (fun _ => 0) Tryd.func29 rfl (by kernel_rfl) (by kernel_rfl) rfl fun P G E hc hE => ?_
          replace hf := hc _ _ _ hf
          replace hs := hc _ _ _ hs
          have d1 : E.lti i 0 = false := by rw [hE]; exact decide_eq_false (by omega)
          have d2 : E.lei (E.ofN n) i = false := by rw [hE]; exact decide_eq_false (show ¬ (n : Int) ≤ i by omega)
          have p3 : E.ple 0 i := by rw [hE]; exact h0
          have g2 : F[E.nat i]? = some [pS x.name, pI x.kind, pI x.params, pI x.locals, .ro 3 c1, .ro 3 c2, .ro 5 c3] := by rw [hE]; exact gr
          clear gr hq hsx hx hv hp hnn
          cbv at hl
          cbv
          repeat (first | (refine ⟨_, hf, ?_⟩; cbv) | (simp only [hl]; cbv) | simp only [hl] | (simp only [d1]; cbv) | simp only [d1] | (simp only [d2]; cbv) | simp only [d2] | (refine ⟨p3,_,g2, ?_⟩; cbv) | (refine ⟨_, hs, ?_⟩; cbv))
      · obtain rfl : q = .tup [.v (.slice none 0 0), pI 2] := by rw [← hq]; unfold shapesQ; rw [hp, if_pos rfl, if_neg (by omega)]; rfl
        rw [hq]
        unfold pProg at hf ⊢
        generalize pFns fs = F at *
        rw [hnn] at hl
        refine ret_by tyT_ok tabs_gr mixed (fun _ => 0) Tryd.func29 rfl (by kernel_rfl) (by kernel_rfl) rfl fun P G E hc hE => ?_
        replace hf := hc _ _ _ hf
        have d1 : E.lti i 0 = false := by rw [hE]; exact decide_eq_false (by omega)
        have d2 : E.lei (E.ofN n) i = true := by rw [hE]; exact decide_eq_true (show (n : Int) ≤ i by omega)
        clear hq hv hp hnn
        cbv at hl
        cbv
        repeat (first | (refine ⟨_, hf, ?_⟩; cbv) | (simp only [hl]; cbv) | simp only [hl] | (simp only [d1]; cbv) | simp only [d1] | (simp only [d2]; cbv) | simp only [d2])
    · obtain rfl : q = .tup [.v (.slice none 0 0), pI 2] := by rw [← hq]; unfold shapesQ; rw [hp, if_pos rfl, if_neg (by omega)]; rfl
      rw [hq]
      unfold pProg at hf ⊢
      generalize pFns fs = F at *
      refine ret_by tyT_ok tabs_gr mixed (fun _ => 0) Tryd.func29 rfl (by kernel_rfl) (by kernel_rfl) rfl fun P G E hc hE => ?_
      replace hf := hc _ _ _ hf
      have d1 : E.lti i 0 = true := by rw [hE]; exact decide_eq_true (by omega)
      clear hq hv hp hnn
      cbv
      repeat (first | (refine ⟨_, hf, ?_⟩; cbv) | (simp only [d1]; cbv) | simp only [d1])
structure DpI (l : List Shp) (y : Int × Int) : Prop where
  i0 : 0 ≤ y.1
  i1 : y.1 ≤ l.length
  d : y.2 = deepP (l.take y.1.toNat)
theorem shapesQ_len {fs : List Fn} {i : Int} {l : List Shp} (h : shapesQ fs i = .ok l) : l.length ≤ 65536 := by
  unfold shapesQ at h
  split at h
  · rename_i hp
    split at h
    · cases hx : fs[i.toNat]? with
      | none => rw [hx] at h; cases h
      | some x =>
        rw [hx] at h
        simp only [Option.bind_some] at h
        cases hs : shapesP x with
        | none => rw [hs] at h; cases h
        | some l' =>
          rw [hs] at h
          cases h
          have hf := progF_fnV hp x (List.mem_of_getElem? hx)
          have h1 := ((shapesP_spec hf).1 l hs).2.len
          have h2 := hf.l1
          omega
    · cases h
  · cases h
theorem deepest_ret (fs : List Fn) (hw : ∀ f ∈ fs, FnSz f) (hn : fs.length ≤ 1000000) (i : Int) : RT 31 [pProg fs, pI i] (pDR (shapesQ fs i)) := by
  have hs := shapesV_ret fs hw hn i
  unfold pProg at hs ⊢
  cases hq : shapesQ fs i with
  | error e =>
    rw [hq] at hs
    simp only [pSR, pDR] at hs ⊢
    generalize pFns fs = F at *
    refine ret_by tyT_ok tabs_gr mixed (fun _ => 0) Tryd.func31 rfl (by kernel_rfl) (by kernel_rfl) rfl fun P G E hc hE => ?_
    replace hs := hc _ _ _ hs
    have d1 : E.lti 0 (E.ofN 0) = false := by rw [hE]; rfl
    cbv
    repeat (first | (refine ⟨_, hs, ?_⟩; cbv))
    refine loop_by 30 [7, 8, 18, 19] 0 (fun _ : Unit => [.p (pI e), .p (pI 0), .p (pI (E.ofN 0)), .p (pI 0)]) (fun _ => []) (fun _ => True) (fun _ => 0) () ⟨rfl, rfl, rfl, rfl, rfl⟩ trivial ?_
    intro _ _
    cbv
    repeat (first | (simp only [d1]; cbv) | simp only [d1])
  | ok l =>
    have hll := shapesQ_len hq
    rw [hq] at hs
    obtain ⟨μ, hμ⟩ : ∃ μ : Int × Int → Nat, ∀ y, μ y = 70000 - y.1.toNat := ⟨_, fun _ => rfl⟩
    have hg : ∀ (k : Nat) p, l[k]? = some p → (pSh l)[k]? = some [pI p.1, pI p.2] := fun k p h => pSh_get h
    have hl : (pSh l).length = l.length := by simp [pSh]
    obtain ⟨n, hnn⟩ : ∃ n, l.length = n := ⟨_, rfl⟩
    rw [hnn] at hl
    simp only [pSR, pDR] at hs ⊢
    obtain ⟨dp, hdp⟩ : ∃ d, deepP l = d := ⟨_, rfl⟩
    rw [hdp]
    generalize pSh l = sl at *
    generalize pFns fs = F at *
    refine ret_by tyT_ok tabs_gr mixed (fun _ => 0) Tryd.func31 rfl (by kernel_rfl) (by kernel_rfl) rfl fun P G E hc hE => ?_
    replace hs := hc _ _ _ hs
    have elt : ∀ a b, E.lti a b = decide (a < b) := fun a b => by rw [hE]; rfl
    have emx : ∀ a b, E.max a b = if a < b then b else a := fun a b => by rw [hE]; rfl
    have eofn : ∀ n, E.ofN n = (n : Int) := fun n => by rw [hE]; rfl
    have enat : ∀ i, E.nat i = i.toNat := fun i => by rw [hE]; rfl
    have eple : ∀ a b, a ≤ b → E.ple a b := fun a b h => by rw [hE]; exact h
    have eadd : ∀ a b : Int, -1000000 ≤ a → a ≤ 1000000 → -1000000 ≤ b → b ≤ 1000000 → E.wadd .i64 a b = a + b := fun a b h0 h1 h2 h3 => by rw [hE]; exact wrap_i64_in (by omega) (by omega)
    have hx0 : DpI l (0, 0) := ⟨Int.le_refl _, Int.natCast_nonneg _, rfl⟩
    cbv at hl
    cbv
    repeat (first | (refine ⟨_, hs, ?_⟩; cbv))
    simp only [hl]
    refine loop_by 30 [7, 8, 17, 18, 19] 0 (fun y : Int × Int => [.p (pI 0), .p (pI y.2), .p (.ro 2 sl), .p (pI (E.ofN n)), .p (pI y.1)]) (fun _ => []) (DpI l) μ (0, 0) ⟨rfl, rfl, rfl, rfl, rfl⟩ hx0 ?_
    rintro ⟨j, d⟩ hI
    obtain ⟨i0, i1, hd⟩ := hI
    simp only at i0 i1 hd
    replace hnn : l.length = n := hnn
    replace hll : l.length ≤ 65536 := hll
    replace eofn : ∀ n : Nat, E.ofN n = (n : Int) := eofn
    have dd : E.lti j (E.ofN n) = decide (j < (n : Int)) := by rw [eofn, elt]
    by_cases hj : j < (n : Int)
    · rw [decide_eq_true hj] at dd
      obtain ⟨p, hp⟩ : ∃ p, l[j.toNat]? = some p := ⟨_, List.getElem?_eq_getElem (by omega)⟩
      have gr := hg _ _ hp
      rw [← enat] at gr
      have p3 := eple 0 j i0
      have ej := eadd j 1 (by omega) (by omega) (by omega) (by omega)
      have hM2 : μ (E.wadd .i64 j 1, E.max d p.1) < μ (j, d) := by rw [hμ, hμ]; simp only [ej]; omega
      have hI2 : DpI l (E.wadd .i64 j 1, E.max d p.1) := by
        refine ⟨by simp only [ej]; omega, by simp only [ej]; omega, ?_⟩
        simp only [ej, emx]
        rw [show (j + 1).toNat = j.toNat + 1 by omega, List.take_add_one, hp, hd]
        unfold deepP
        rw [List.foldl_append]
        rfl
      obtain ⟨a, b⟩ := p
      simp only at gr hI2 hM2
      clear hp hg
      cbv
      repeat (first | (simp only [dd]; cbv) | simp only [dd] | (refine ⟨p3,_,gr, ?_⟩; cbv))
      refine .mk (E.wadd .i64 j 1, E.max d a) ⟨rfl, rfl, rfl, rfl, rfl⟩ ?_ ?_
      · exact hI2
      · exact hM2
    · rw [decide_eq_false hj] at dd
      obtain rfl : d = dp := by
        rw [hd, ← hdp, List.take_of_length_le (by omega)]
      clear hg hd hdp
      cbv
      repeat (first | (simp only [dd]; cbv) | simp only [dd])
end Go.Proofs.YtlffpgjkhehdmaaDoor
