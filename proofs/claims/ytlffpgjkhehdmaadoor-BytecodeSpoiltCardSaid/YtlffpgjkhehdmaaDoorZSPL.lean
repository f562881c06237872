/- Own work: knapsacklaw27.BytecodeSpoilt returns true. -/
import Derived.Test.YtlffpgjkhehdmaaDoorZCL2
import Derived.Test.YtlffpgjkhehdmaaDoorZSPW
namespace Go.Proofs.YtlffpgjkhehdmaaDoor
open Go.RowKit
set_option maxRecDepth 100000
set_option linter.unusedSimpArgs false

theorem all2_flat {α : Type} {p : α → α → Bool} {enc : α → List UInt8} (h : ∀ x y, p x y = true → enc x = enc y) : ∀ (xs ys : List α), xs.length = ys.length → all2 p xs ys = true → xs.flatMap enc = ys.flatMap enc
  | [], [], _, _ => rfl
  | [], _ :: _, hl, _ => by simp at hl
  | _ :: _, [], hl, _ => by simp at hl
  | x :: xs, y :: ys, hl, ha => by
    simp only [all2, List.zip_cons_cons, List.all_cons, Bool.and_eq_true] at ha
    rw [List.flatMap_cons, List.flatMap_cons, h x y ha.1, all2_flat h xs ys (by simpa using hl) ha.2]
theorem str_same {a b : ByteArray} (h : a.toList = b.toList) : a = b := by
  rw [ByteArray.toList_eq, ByteArray.toList_eq] at h
  exact ba_list h
theorem ins_same (x y : Ins) (h : insEq x y = true) : insB x = insB y := by
  simp only [insEq, Bool.and_eq_true, beq_iff_eq] at h
  unfold insB
  rw [h.1, h.2.1, h.2.2]
theorem hdl_same (x y : Hdl) (h : hdlEq x y = true) : hdlB x = hdlB y := by
  simp only [hdlEq, Bool.and_eq_true, beq_iff_eq] at h
  unfold hdlB
  rw [h.1, h.2.1, h.2.2.1, h.2.2.2.1, h.2.2.2.2]
theorem cst_same (x y : Cst) (h : cstSame x y = true) : cstB x = cstB y := by
  simp only [cstSame, Bool.and_eq_true, Bool.or_eq_true, beq_iff_eq] at h
  obtain ⟨h1, h2, h3⟩ := h
  unfold cstB
  rw [h1]
  by_cases hk : y.kind = 2
  · rw [if_pos hk, if_pos hk]
    rcases h3 with h3 | h3
    · omega
    · rw [str_same h3]
  · rw [if_neg hk, if_neg hk]
    rcases h2 with h2 | h2
    · omega
    · rw [h2]
theorem fn_same (x y : Fn) (h : fnSame x y = true) : fnB x = fnB y := by
  simp only [fnSame, headSame, bodySame, Bool.and_eq_true, beq_iff_eq, decide_eq_true_eq] at h
  obtain ⟨⟨h1, h2, h3, h4, h5, h6, h7⟩, h8, h9, h10⟩ := h
  unfold fnB
  rw [str_same h1, h2, h3, h4, h5, h6, h7, all2_flat ins_same _ _ h5 h8, all2_flat cst_same _ _ h6 h9, all2_flat hdl_same _ _ h7 h10]
theorem same_by {xs ys : List Fn} (h : sameP xs ys = true) : progBy xs = progBy ys := by
  simp only [sameP, listEq, Bool.and_eq_true, decide_eq_true_eq] at h
  unfold progBy
  rw [h.1, all2_flat fn_same _ _ h.1 h.2]
/-- a changed text is no text of the same program -/
theorem spoilt_law {fs : List Fn} {k : Nat} {y : UInt8} (hk : k < (progBy fs).length) (hy : (progBy fs)[k]? ≠ some y) (hz : (progBy fs).length ≤ 1000000) (hd : decOk (ofL ((progBy fs).set k y)) = true) : sameP fs (rProg (ofL ((progBy fs).set k y))).1 = false := by
  have h1 := dec_ok hd (by rw [ofL_size, List.length_set]; omega)
  cases hs : sameP fs (rProg (ofL ((progBy fs).set k y))).1 with
  | false => rfl
  | true =>
    have h2 := same_by hs
    have h3 := h1.2.1
    rw [← h2] at h3
    have h4 : progBy fs = (progBy fs).set k y := congrArg (fun b : ByteArray => b.data.toList) h3
    refine absurd ?_ hy
    have h5 := congrArg (fun l => l[k]?) h4
    rw [List.getElem?_set_self hk] at h5
    exact h5
theorem fewP_all {fs : List Fn} {n : Int} (h : fewP fs n = true) : ∀ f ∈ fs, fewFn f = true := by
  unfold fewP at h
  simp only [Bool.and_eq_true, List.all_eq_true, decide_eq_true_eq] at h
  exact h.2
theorem u8_ofI {x : Int} (h : 0 ≤ x ∧ x ≤ 255) : ∃ y : UInt8, x = (y.toNat : Nat) := ⟨UInt8.ofNat x.toNat, by
  have : (UInt8.ofNat x.toNat).toNat = x.toNat := by
    rw [UInt8.toNat_ofNat']
    omega
  omega⟩
theorem wfu8p {x : Int} (h : (Lit.int .u8 x).wf = true) : 0 ≤ x ∧ x ≤ 255 := by
  simpa [Lit.wf, IntKind.min, IntKind.max, IntKind.signed, IntKind.bits] using h
theorem wfu16p {x : Int} (h : (Lit.int .u16 x).wf = true) : 0 ≤ x ∧ x ≤ 65535 := by
  simpa [Lit.wf, IntKind.min, IntKind.max, IntKind.signed, IntKind.bits] using h
set_option maxHeartbeats 2000000 in
theorem lspoilt_ret (fs : List Fn) (hw : ∀ f ∈ fs, FnSz f) (at_ by_ : Int) (hat : 0 ≤ at_ ∧ at_ ≤ 65535) (hby : 0 ≤ by_ ∧ by_ ≤ 255) : RT 16 [pProg fs, .v (.int .u16 at_), .v (.int .u8 by_)] (pB true) := by
  have ha := awake_ret
  have hfew := few_ret fs hw 4 (by omega)
  cases hp : fewP fs 4 with
  | false =>
    rw [hp] at hfew
    unfold pProg at hfew ⊢
    generalize pFns fs = F at *
    refine ret_cut tyT_ok tabs_gr (f := 16) Tryd.func16 rfl (by kernel_rfl) (of_decide_eq_true (by kernel_rfl)) ?_
    refine Seg.cutK 4 73 [1, 2, 3, 7] 1 (fun _ : Unit => []) (fun _ => []) (fun _ => False) tyT_ok mixed (fun _ => 0) (fun E => retQ E tyT Tryd.f16.results.toList (pB true)) (by kernel_rfl) ?_ (fun _ h => h.elim)
    intro P G E hc hM hE
    replace ha := hc _ _ _ ha
    replace hfew := hc _ _ _ hfew
    clear hE hw hp
    cbv
    repeat (first | (refine ⟨_, ha, ?_⟩; cbv) | (refine ⟨_, hfew, ?_⟩; cbv))
  | true =>
    rw [hp] at hfew
    have hlen := fewP_len hp
    have hn : fs.length ≤ 1000000 := by omega
    have hz := few_en hp (by omega)
    have hf := rformed_ret fs hw hn
    cases hpf : progF fs with
    | false =>
      rw [hpf] at hf
      unfold pProg at *
      generalize pFns fs = F at *
      refine ret_cut tyT_ok tabs_gr (f := 16) Tryd.func16 rfl (by kernel_rfl) (of_decide_eq_true (by kernel_rfl)) ?_
      refine Seg.cutK 4 73 [1, 2, 3, 7] 1 (fun _ : Unit => []) (fun _ => []) (fun _ => False) tyT_ok mixed (fun _ => 0) (fun E => retQ E tyT Tryd.f16.results.toList (pB true)) (by kernel_rfl) ?_ (fun _ h => h.elim)
      intro P G E hc hM hE
      replace ha := hc _ _ _ ha
      replace hfew := hc _ _ _ hfew
      replace hf := hc _ _ _ hf
      clear hE hw hlen hn hz hpf hp
      cbv
      repeat (first | (refine ⟨_, ha, ?_⟩; cbv) | (refine ⟨_, hfew, ?_⟩; cbv) | (refine ⟨_, hf, ?_⟩; cbv))
    | true =>
      rw [hpf] at hf
      have he := encode_ret fs hw hz hpf
      obtain ⟨y, rfl⟩ := u8_ofI hby
      have htot : (progBy fs).length ≤ 100000 := by
        unfold progBy
        rw [List.length_append]
        have h1 := natB_10 (n := fs.length) (by omega)
        have h2 := flat_le (enc := fnB) (b := 20000) fs fun f hf => (fewFn_len (fewP_all hp f hf)).1
        omega
      obtain ⟨L, hL⟩ : ∃ L, progBy fs = L := ⟨_, rfl⟩
      have hL0 : 0 < L.length := by
        rw [← hL]; unfold progBy
        rw [List.length_append]
        have := natB_pos fs.length
        omega
      have hLl : (L.length : Nat) ≤ 100000 := by rw [← hL]; exact htot
      obtain ⟨n, hnn⟩ : ∃ n, L.length = n := ⟨_, rfl⟩
      obtain ⟨k, hk⟩ : ∃ k : Int, at_ % (n : Int) = k := ⟨_, rfl⟩
      have hk0 : 0 ≤ k := by rw [← hk]; exact Int.emod_nonneg _ (by omega)
      have hk1 : k < n := by rw [← hk]; exact Int.emod_lt_of_pos _ (by omega)
      have hkl : k.toNat < L.length := by omega
      obtain ⟨z, hz2⟩ : ∃ z, L[k.toNat]? = some z := ⟨_, List.getElem?_eq_getElem hkl⟩
      have hlaw := spoilt_law (fs := fs) (k := k.toNat) (y := y) (by rw [hL]; exact hkl) 
      rw [hL] at he hlaw
      have hd := decode_ret (ofL (L.set k.toNat y)) (by rw [ofL_size, List.length_set]; omega)
      have hbr : bytesRows (ofL L) = L.map fun b => [.v (.int .u8 (b.toNat : Nat))] := rfl
      have g0 : (bytesRows (ofL L))[k.toNat]? = some [.v (.int .u8 (z.toNat : Nat))] := by rw [hbr, List.getElem?_map, hz2]; rfl
      have hbl : (bytesRows (ofL L)).length = n := by rw [hbr, List.length_map]; exact hnn
      have hfsz := hw
      unfold pProg at *
      obtain ⟨F, hF⟩ : ∃ F, pFns fs = F := ⟨_, rfl⟩
      rw [hF] at hfew hf he ⊢
      obtain ⟨O, hO⟩ : ∃ O, ofL L = O := ⟨_, rfl⟩
      rw [hO] at he g0 hbl
      have hOs : O.size = n := by rw [← hO, ofL_size]; exact hnn
      refine ret_cut tyT_ok tabs_gr (f := 16) Tryd.func16 rfl (by kernel_rfl) (of_decide_eq_true (by kernel_rfl)) ?_
      refine Seg.cutK 4 73 [1, 2, 3, 7] 1 (fun _ : Unit => [.p (.v (.int .u16 at_)), .p (.v (.int .u8 (y.toNat : Nat))), .own 0 0, .p (pS O)]) (fun _ => [some (.box [.p (.ro 7 F)] 33 none)]) (fun _ => True) tyT_ok mixed (fun _ => 0) (fun E => retQ E tyT Tryd.f16.results.toList (pB true)) (by kernel_rfl) ?_ ?_
      · intro P G E hc hM hE
        replace ha := hc _ _ _ ha
        replace hfew := hc _ _ _ hfew
        replace hf := hc _ _ _ hf
        replace he := hc _ _ _ he
        have z1 : decide (E.size O = 0) = false := decide_eq_false (by rw [hE]; show ((O.size : Nat) : Int) ≠ 0; omega)
        clear hE hw hlen hn hz hpf hp hlaw hd hbr g0 hbl hfsz hF hO hOs hz2 hk hk1 hkl hLl hL0 hnn htot hL
        cbv
        repeat (first | (refine ⟨_, ha, ?_⟩; cbv) | (refine ⟨_, hfew, ?_⟩; cbv) | (refine ⟨_, hf, ?_⟩; cbv) | (refine ⟨_, he, ?_⟩; cbv) | (simp only [z1]; cbv) | simp only [z1])
        exact .mk () ⟨rfl, rfl, rfl, rfl, rfl⟩ trivial
      intro _ _
      clear ha hfew hf he
      refine spoil_rule (i6 := 6) (i10 := 10) (Q := fun E => retQ E tyT Tryd.f16.results.toList (pB true)) (M := z ≠ y) (k := k) rfl rfl rfl rfl rfl rfl rfl rfl rfl rfl rfl rfl rfl rfl rfl rfl rfl rfl rfl rfl rfl rfl rfl rfl (by kernel_rfl) (by kernel_rfl) (by kernel_rfl) (by kernel_rfl) hk0 (by rw [hOs]; omega) ?_ ?_
      · intro P' G' E hE
        have y1 : E.wrap .i64 at_ = at_ := by rw [hE]; exact wrap_i64_in (by omega) (by omega)
        have z2 : E.ofN n = 0 → False := fun h => by rw [hE] at h; change (n : Int) = 0 at h; omega
        have z4 : E.rem at_ (E.ofN n) = k := by rw [hE]; show at_.tmod (n : Int) = k; rw [Int.tmod_eq_emod_of_nonneg hat.1]; exact hk
        have p1 : E.ple 0 k := by rw [hE]; exact hk0
        have g1 : (bytesRows O)[E.nat k]? = some [.v (.int .u8 (z.toNat : Nat))] := by rw [hE]; exact g0
        obtain ⟨BR, hBR⟩ : ∃ x, bytesRows O = x := ⟨_, rfl⟩
        rw [hBR] at g1 hbl ⊢
        obtain ⟨zi, hzi⟩ : ∃ x : Int, ((z.toNat : Nat) : Int) = x := ⟨_, rfl⟩
        obtain ⟨yi, hyi⟩ : ∃ x : Int, ((y.toNat : Nat) : Int) = x := ⟨_, rfl⟩
        rw [hzi] at g1
        rw [hyi]
        rcases Classical.em (z = y) with e | e
        · have w1 : decide (zi = yi) = true := decide_eq_true (by rw [← hzi, ← hyi, e])
          clear hE hw hlen hn hz hpf hp hlaw hd hbr g0 hfsz hF hO hOs hz2 hk hk1 hkl hLl hL0 hnn htot hL hBR hzi hyi
          cbv at hbl
          cbv
          repeat (first | (simp only [y1]; cbv) | simp only [y1] | (simp only [hbl]; cbv) | simp only [hbl] | (refine ⟨z2, ?_⟩; cbv) | (simp only [z4]; cbv) | simp only [z4] | (refine ⟨p1,_,g1, ?_⟩; cbv) | (simp only [w1]; cbv) | simp only [w1])
        · have w1 : decide (zi = yi) = false := decide_eq_false fun h => e (UInt8.toNat_inj.1 (by omega))
          clear hE hw hlen hn hz hpf hp hlaw hd hbr g0 hfsz hF hO hOs hz2 hk hk1 hkl hLl hL0 hnn htot hL hBR hzi hyi
          cbv at hbl
          cbv
          repeat (first | (simp only [y1]; cbv) | simp only [y1] | (simp only [hbl]; cbv) | simp only [hbl] | (refine ⟨z2, ?_⟩; cbv) | (simp only [z4]; cbv) | simp only [z4] | (refine ⟨p1,_,g1, ?_⟩; cbv) | (simp only [w1]; cbv) | simp only [w1])
          exact ⟨e, trivial⟩
      · intro hne
        have hOl : O.data.toList = L := by rw [← hO]; rfl
        rw [hOl]
        obtain ⟨O2, hO2⟩ : ∃ x, ofL (L.set k.toNat y) = x := ⟨_, rfl⟩
        rw [hO2] at hd hlaw ⊢
        have h2s : O2.size ≤ 1000000 := by rw [← hO2, ofL_size, List.length_set]; omega
        unfold pDec at hd
        cases hok : decOk O2 with
        | false =>
          rw [hok] at hd
          simp only [Bool.false_eq_true, if_false] at hd
          unfold pZero at hd
          refine Seg.of tyT_ok mixed (fun _ => 0) (by kernel_rfl) (fun E => retQ E tyT Tryd.f16.results.toList (pB true)) fun P G E hc hM hE => ?_
          replace hd := hc _ _ _ hd
          have b1 : bytesRows O2 = E.brows O2 := by rw [hE]; rfl
          obtain ⟨BR, hBR⟩ : ∃ x, bytesRows O2 = x := ⟨_, rfl⟩
          rw [hBR] at b1 ⊢
          clear hE hw hlen hn hz hpf hp hlaw hbr g0 hfsz hF hO hOs hz2 hk hk1 hkl hLl hL0 hnn htot hL hbl hOl hO2 h2s hBR hok
          cbv
          repeat (first | (refine ⟨O2,b1, ?_⟩; cbv) | (refine ⟨_, hd, ?_⟩; cbv))
        | true =>
          have hsm := hlaw (by rw [hz2]; exact fun h => hne (Option.some.inj h)) (by omega) hok
          rw [hok] at hd
          simp only [if_true] at hd
          have hs := bsame_ret fs (rProg O2).1 hw (rProg_sz O2 (by omega)) hn (by have := rProg_len O2; omega)
          rw [hsm] at hs
          unfold pProg at hs hd
          rw [hF] at hs
          generalize pFns (rProg O2).1 = F2 at *
          refine Seg.of tyT_ok mixed (fun _ => 0) (by kernel_rfl) (fun E => retQ E tyT Tryd.f16.results.toList (pB true)) fun P G E hc hM hE => ?_
          replace hd := hc _ _ _ hd
          replace hs := hc _ _ _ hs
          have b1 : bytesRows O2 = E.brows O2 := by rw [hE]; rfl
          obtain ⟨BR, hBR⟩ : ∃ x, bytesRows O2 = x := ⟨_, rfl⟩
          rw [hBR] at b1 ⊢
          clear hE hw hlen hn hz hpf hp hlaw hbr g0 hfsz hF hO hOs hz2 hk hk1 hkl hLl hL0 hnn htot hL hbl hOl hO2 h2s hBR hok hsm
          cbv
          repeat (first | (refine ⟨O2,b1, ?_⟩; cbv) | (refine ⟨_, hd, ?_⟩; cbv) | (refine ⟨_, hs, ?_⟩; cbv))
end Go.Proofs.YtlffpgjkhehdmaaDoor
