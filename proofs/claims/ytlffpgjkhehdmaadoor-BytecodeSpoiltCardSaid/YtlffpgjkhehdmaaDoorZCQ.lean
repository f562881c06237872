/- Own work: the reference of layer 27: the bytes of a program. -/
import Derived.Test.YtlffpgjkhehdmaaDoorZCR
import Derived.Test.YtlffpgjkhehdmaaDoorZGM
namespace Go.Proofs.YtlffpgjkhehdmaaDoor
open Go.RowKit
set_option maxRecDepth 100000
set_option linter.unusedSimpArgs false

/-- at the head of a loop that lengthens a text -/
structure WsI {α : Type} (l : List UInt8) (enc : α → List UInt8) (xs : List α) (y : Int × ByteArray) : Prop where
  i0 : 0 ≤ y.1
  i1 : y.1 ≤ xs.length
  st : y.2 = ofL (l ++ (xs.take y.1.toNat).flatMap enc)
theorem WsI.zero {α : Type} (l : List UInt8) (enc : α → List UInt8) (xs : List α) : WsI l enc xs (0, ofL l) := ⟨Int.le_refl _, Int.natCast_nonneg _, by simp⟩
theorem WsI.next {α : Type} {l : List UInt8} {enc : α → List UInt8} {xs : List α} {i : Int} {s : ByteArray} {x : α} (h : WsI l enc xs (i, s)) (hx : xs[i.toNat]? = some x) :
    WsI l enc xs (i + 1, ofL ((l ++ (xs.take i.toNat).flatMap enc) ++ enc x)) := by
  have h0 := h.i0
  have hlt := (List.getElem?_eq_some_iff.1 hx).1
  simp only at h0
  refine ⟨by simp only; omega, by simp only; omega, ?_⟩
  simp only; rw [take_flat h0 hx, List.append_assoc]
theorem WsI.last {α : Type} {l : List UInt8} {enc : α → List UInt8} {xs : List α} {i : Int} {s : ByteArray} (h : WsI l enc xs (i, s)) (hi : ¬ i < xs.length) : s = ofL (l ++ xs.flatMap enc) := by
  have h1 := h.st
  simp only at h1
  rw [List.take_of_length_le (by omega)] at h1
  exact h1
/-- a function's integers are those of the language, its constants are of the two kinds -/
structure FnR (f : Fn) : Prop where
  i : FnI f
  nm : f.name.size ≤ 1000000
  cs : ∀ c ∈ f.consts, c.str.size ≤ 1000000
  k : ∀ c ∈ f.consts, c.kind = 1 ∨ c.kind = 2
set_option maxHeartbeats 8000000 in
theorem rencode_r (fs : List Fn) (hz : (progBy fs).length ≤ 800000000) (hn4 : fs.length ≤ 4096) (hr : ∀ f ∈ fs, FnR f) : CV 34 [pProg fs] (cS (ofL (progBy fs))) := by
  obtain ⟨OUT, eo⟩ : ∃ x, ofL (progBy fs) = x := ⟨_, rfl⟩
  rw [eo]
  have hl : (pFns fs).length = fs.length := by simp [pFns]
  have hg : ∀ (k : Nat) x, fs[k]? = some x → (pFns fs)[k]? = some (pFn x) := fun k x h => pFns_at h
  have c0 := natural_r fs.length (Int.natCast_nonneg _) (by omega)
  rw [show ((fs.length : Nat) : Int).toNat = fs.length by omega] at c0
  have hpb : progBy fs = natB fs.length ++ fs.flatMap fnB := rfl
  rw [hpb] at hz eo
  have hx0 := WsI.zero (natB fs.length) fnB fs
  obtain ⟨l1, hl1⟩ : ∃ x, natB fs.length = x := ⟨_, rfl⟩
  rw [hl1] at c0 hz eo hx0
  obtain ⟨s1, es1⟩ : ∃ x, ofL l1 = x := ⟨_, rfl⟩
  rw [es1] at c0 hx0
  obtain ⟨n, hnn⟩ : ∃ n, fs.length = n := ⟨_, rfl⟩
  rw [hnn] at hl c0 hn4
  obtain ⟨nz, hnz⟩ : ∃ x : Int, ((n : Nat) : Int) = x := ⟨_, rfl⟩
  rw [hnz] at c0
  have hprefix : ∀ (i : Int) x, 0 ≤ i → fs[i.toNat]? = some x → ((l1 ++ (fs.take i.toNat).flatMap fnB) ++ fnB x).length ≤ 800000000 := fun i x i0 hx => by
    have h1 := take_le (enc := fnB) fs (i + 1).toNat
    rw [take_flat i0 hx] at h1
    rw [List.length_append] at hz h1
    rw [List.length_append, List.length_append]
    omega
  obtain ⟨μ, hμ⟩ : ∃ μ : Int → Nat, ∀ i, μ i = 200000 - i.toNat := ⟨_, fun _ => rfl⟩
  unfold pProg
  obtain ⟨F, hF⟩ : ∃ x, pFns fs = x := ⟨_, rfl⟩
  rw [hF] at hl hg ⊢
  refine ret_by tyT_ok c0_gr mixed (fun n => match n with | 6 => 20 | 10 => 22 | _ => 0) Tryd.func34 rfl (by kernel_rfl) (by kernel_rfl) rfl fun P G E hc hE => ?_
  replace c0 := hc _ _ _ c0
  have elt : ∀ a b, E.lti a b = decide (a < b) := fun a b => by rw [hE]; rfl
  have eofn : ∀ n, E.ofN n = (n : Int) := fun n => by rw [hE]; rfl
  have enat : ∀ i, E.nat i = i.toNat := fun i => by rw [hE]; rfl
  have eple : ∀ a b, a ≤ b → E.ple a b := fun a b h => by rw [hE]; exact h
  have eadd : ∀ a b : Int, -1000000 ≤ a → a ≤ 1000000 → -1000000 ≤ b → b ≤ 1000000 → E.wadd .i64 a b = a + b := fun a b h0 h1 h2 h3 => by rw [hE]; exact wrap_i64_in (by omega) (by omega)
  have ewr : ∀ n : Int, 0 ≤ n → n < 18446744073709551616 → E.wrap .u64 n = n := fun n h h' => by rw [hE]; show IntKind.u64.wrap n = n; rw [wrap_u64_eq]; omega
  have ecat : ∀ a b : ByteArray, a.size ≤ 1000000000 → b.size ≤ 1000000000 → E.cat a b := fun a b h1 h2 => by rw [hE]; show ((a.size : Nat) : Int) + ((b.size : Nat) : Int) ≤ 9223372036854775807; omega
  have eaddS : ∀ a b : ByteArray, E.add a b = a ++ b := fun a b => by rw [hE]; rfl
  -- joining two texts
  have join : ∀ a b : List UInt8, a.length ≤ 1000000000 → b.length ≤ 1000000000 → E.cat (ofL a) (ofL b) ∧ E.add (ofL a) (ofL b) = ofL (a ++ b) := fun a b h1 h2 => ⟨ecat _ _ (by rw [ofL_size]; exact h1) (by rw [ofL_size]; exact h2), by rw [eaddS, ofL_app]⟩
  have epre5 : ∀ a b c d e : PV, E.pre 0 5 [[a], [b], [c], [d], [e]] := fun a b c d e => by rw [hE]; show 0 + 5 ≤ 5; omega
  have esub5 : ∀ a b c d e : PV, E.sub [[a], [b], [c], [d], [e]] 0 5 = [[a], [b], [c], [d], [e]] := fun a b c d e => by rw [hE]; rfl
  have epre1 : ∀ a : PV, E.pre 0 1 [[a]] := fun a => by rw [hE]; show 0 + 1 ≤ 1; omega
  have esub1 : ∀ a : PV, E.sub [[a]] 0 1 = [[a]] := fun a => by rw [hE]; rfl
  clear hE ecat eaddS
  have v1 : E.ofN n = nz := (eofn n).trans hnz
  have v2 := ewr nz (by omega) (by omega)
  cbv at hl
  cbv
  repeat (first | (simp only [hl]; cbv) | simp only [hl] | (simp only [v1]; cbv) | simp only [v1] | (simp only [v2]; cbv) | simp only [v2] | (refine ⟨_, c0, ?_⟩; cbv))
  refine loop_by 159 [1, 3, 4] 1 (fun y : Int × ByteArray => [.own 0 0, .p (cS y.2), .p (cI y.1)]) (fun _ => [some (.box [.p (.ro 7 F)] 33 none)]) (WsI l1 fnB fs) (fun y => μ y.1) (0, s1) ⟨rfl, rfl, rfl, rfl, rfl⟩ hx0 ?_
  clear hx0
  rintro ⟨i, s⟩ hI
  obtain ⟨i0, i1, hs⟩ := id hI
  simp only at i0 i1 hs
  replace hnn : fs.length = n := hnn
  replace hn4 : n ≤ 4096 := hn4
  replace hnz : ((n : Nat) : Int) = nz := hnz
  replace eofn : ∀ n : Nat, E.ofN n = (n : Int) := eofn
  replace hprefix : ∀ (i : Int) x, 0 ≤ i → fs[i.toNat]? = some x → ((l1 ++ (fs.take i.toNat).flatMap fnB) ++ fnB x).length ≤ 800000000 := hprefix
  replace join : ∀ a b : List UInt8, a.length ≤ 1000000000 → b.length ≤ 1000000000 → E.cat (ofL a) (ofL b) ∧ E.add (ofL a) (ofL b) = ofL (a ++ b) := join
  have dd := elt i nz
  by_cases hi : i < nz
  · rw [decide_eq_true hi] at dd
    obtain ⟨x, hx⟩ : ∃ x, fs[i.toNat]? = some x := ⟨_, List.getElem?_eq_getElem (by omega)⟩
    have hR := hr x (List.mem_of_getElem? hx)
    have gr := hg _ _ hx
    rw [← enat] at gr
    have p3 := eple 0 i i0
    have ei := eadd i 1 (by omega) (by omega) (by omega) (by omega)
    have hM2 : μ (E.wadd .i64 i 1) < μ i := by rw [hμ, hμ, ei]; omega
    have hI2 := hI.next hx
    rw [← ei] at hI2
    have hlen := hprefix i x i0 hx
    obtain ⟨L, hL⟩ : ∃ y, l1 ++ (fs.take i.toNat).flatMap fnB = y := ⟨_, rfl⟩
    rw [hL] at hs hlen hI2
    have hfl : L ++ fnB x = ((((((L ++ ((strB x.name ++ [x.kind, x.params, x.locals].flatMap zb) ++ natB x.code.length)) ++ x.code.flatMap insB) ++ natB x.consts.length) ++ x.consts.flatMap cstB) ++ natB x.hdls.length) ++ x.hdls.flatMap hdlB) := by
      unfold fnB
      simp only [List.append_assoc, List.flatMap_cons, List.flatMap_nil, List.append_nil]
    rw [hfl] at hlen hI2
    clear hI hfl hL hx hg hprefix hr
    have g0 := hc _ _ _ (str_r x.name (by have := hR.nm; omega))
    have g1 := hc _ _ _ (numbers_r [x.kind, x.params, x.locals] (by simp) (fun n hn => by
      simp only [List.mem_cons, List.not_mem_nil, or_false] at hn
      rcases hn with rfl | rfl | rfl
      · exact hR.i.kd
      · exact hR.i.pa
      · exact hR.i.lo))
    replace g1 : Ret P G 53 [.ro 1 [[cI x.kind], [cI x.params], [cI x.locals]]] (cS (ofL ([x.kind, x.params, x.locals].flatMap zb))) := g1
    have q1 := hR.i.l1
    have q2 := hR.i.l2
    have q3 := hR.i.l3
    have q0 := hR.nm
    have g2 := hc _ _ _ (natural_r x.code.length (Int.natCast_nonneg _) (by omega))
    have g3 := hc _ _ _ (natural_r x.consts.length (Int.natCast_nonneg _) (by omega))
    have g4 := hc _ _ _ (natural_r x.hdls.length (Int.natCast_nonneg _) (by omega))
    rw [show ((x.code.length : Nat) : Int).toNat = x.code.length by omega] at g2
    rw [show ((x.consts.length : Nat) : Int).toNat = x.consts.length by omega] at g3
    rw [show ((x.hdls.length : Nat) : Int).toNat = x.hdls.length by omega] at g4
    have ci := hR.i.c1
    have cc := hR.i.c2
    have ch := hR.i.c3
    have ck := hR.k
    have cz := hR.cs
    clear hR
    obtain ⟨nm, kd, pa, lo, code, consts, hdls⟩ := x
    simp only at *
    unfold pFn at gr
    simp only at gr
    have f1 : ∀ (k : Nat) x, code[k]? = some x → (pCode code)[k]? = some [cI x.op, cI x.a, cI x.b] := fun k x h => by unfold pCode; rw [List.getElem?_map, h]; rfl
    have f2 : ∀ (k : Nat) x, consts[k]? = some x → (pCons consts)[k]? = some [cI x.kind, cI x.int, cS x.str] := fun k x h => by unfold pCons; rw [List.getElem?_map, h]; rfl
    have f3 : ∀ (k : Nat) x, hdls[k]? = some x → (pHdls hdls)[k]? = some [cI x.lo, cI x.hi, cI x.tg, cI x.dp, cI x.sc] := fun k x h => by unfold pHdls; rw [List.getElem?_map, h]; rfl
    have k1 : (pCode code).length = code.length := by simp [pCode]
    have k2 : (pCons consts).length = consts.length := by simp [pCons]
    have k3 : (pHdls hdls).length = hdls.length := by simp [pHdls]
    obtain ⟨CD, hCD⟩ : ∃ x, pCode code = x := ⟨_, rfl⟩
    obtain ⟨CS, hCS⟩ : ∃ x, pCons consts = x := ⟨_, rfl⟩
    obtain ⟨HR, hHR⟩ : ∃ x, pHdls hdls = x := ⟨_, rfl⟩
    rw [hCD] at k1 f1 gr
    rw [hCS] at k2 f2 gr
    rw [hHR] at k3 f3 gr
    obtain ⟨n1, hn1⟩ : ∃ x, code.length = x := ⟨_, rfl⟩
    obtain ⟨n2, hn2⟩ : ∃ x, consts.length = x := ⟨_, rfl⟩
    obtain ⟨n3, hn3⟩ : ∃ x, hdls.length = x := ⟨_, rfl⟩
    obtain ⟨z1, hz1⟩ : ∃ x : Int, ((n1 : Nat) : Int) = x := ⟨_, rfl⟩
    obtain ⟨z2, hz2⟩ : ∃ x : Int, ((n2 : Nat) : Int) = x := ⟨_, rfl⟩
    obtain ⟨z3, hz3⟩ : ∃ x : Int, ((n3 : Nat) : Int) = x := ⟨_, rfl⟩
    rw [hn1] at k1 q1 g2 hlen hI2
    rw [hn2] at k2 q2 g3 hlen hI2
    rw [hn3] at k3 q3 g4 hlen hI2
    rw [hz1] at g2
    rw [hz2] at g3
    rw [hz3] at g4
    have u1 : E.ofN n1 = z1 := (eofn n1).trans hz1
    have u2 : E.ofN n2 = z2 := (eofn n2).trans hz2
    have u3 : E.ofN n3 = z3 := (eofn n3).trans hz3
    have u4 := ewr z1 (by omega) (by omega)
    have u5 := ewr z2 (by omega) (by omega)
    have u6 := ewr z3 (by omega) (by omega)
    obtain ⟨H1, hH1⟩ : ∃ y, strB nm = y := ⟨_, rfl⟩
    obtain ⟨H2, hH2⟩ : ∃ y, [kd, pa, lo].flatMap zb = y := ⟨_, rfl⟩
    obtain ⟨B1, hB1⟩ : ∃ y, natB n1 = y := ⟨_, rfl⟩
    obtain ⟨B2, hB2⟩ : ∃ y, natB n2 = y := ⟨_, rfl⟩
    obtain ⟨B3, hB3⟩ : ∃ y, natB n3 = y := ⟨_, rfl⟩
    rw [hH1] at g0 hlen hI2
    rw [hH2] at g1 hlen hI2
    rw [hB1] at g2 hlen hI2
    rw [hB2] at g3 hlen hI2
    rw [hB3] at g4 hlen hI2
    obtain ⟨M1, hM1⟩ : ∃ y, L ++ ((H1 ++ H2) ++ B1) = y := ⟨_, rfl⟩
    rw [hM1] at hlen hI2
    obtain ⟨M2, hM2'⟩ : ∃ y, M1 ++ code.flatMap insB = y := ⟨_, rfl⟩
    rw [hM2'] at hlen hI2
    obtain ⟨M3, hM3⟩ : ∃ y, M2 ++ B2 = y := ⟨_, rfl⟩
    rw [hM3] at hlen hI2
    obtain ⟨M4, hM4⟩ : ∃ y, M3 ++ consts.flatMap cstB = y := ⟨_, rfl⟩
    rw [hM4] at hlen hI2
    obtain ⟨M5, hM5⟩ : ∃ y, M4 ++ B3 = y := ⟨_, rfl⟩
    rw [hM5] at hlen hI2
    obtain ⟨M6, hM6⟩ : ∃ y, M5 ++ hdls.flatMap hdlB = y := ⟨_, rfl⟩
    rw [hM6] at hlen hI2
    have b5 : M5.length + (hdls.flatMap hdlB).length ≤ 800000000 := by rw [← hM6, List.length_append] at hlen; exact hlen
    have b4 : M4.length + B3.length ≤ 800000000 := by rw [← hM5, List.length_append] at b5; omega
    have b3 : M3.length + (consts.flatMap cstB).length ≤ 800000000 := by rw [← hM4, List.length_append] at b4; omega
    have b2 : M2.length + B2.length ≤ 800000000 := by rw [← hM3, List.length_append] at b3; omega
    have b1 : M1.length + (code.flatMap insB).length ≤ 800000000 := by rw [← hM2', List.length_append] at b2; omega
    have b0 : L.length + ((H1.length + H2.length) + B1.length) ≤ 800000000 := by
      rw [← hM1, List.length_append, List.length_append, List.length_append] at b1; omega
    obtain ⟨j1, j2⟩ := join H1 H2 (by omega) (by omega)
    obtain ⟨j3, j4⟩ := join (H1 ++ H2) B1 (by rw [List.length_append]; omega) (by omega)
    obtain ⟨j5, j6⟩ := join L ((H1 ++ H2) ++ B1) (by omega) (by rw [List.length_append, List.length_append]; omega)
    obtain ⟨j7, j8⟩ := join M2 B2 (by omega) (by omega)
    obtain ⟨j9, j10⟩ := join M4 B3 (by omega) (by omega)
    rw [← hs, hM1] at j6
    rw [← hs] at j5
    rw [hM3] at j8
    rw [hM5] at j10
    have w1 := WsI.zero M1 insB code
    have w3 := WsI.zero M3 cstB consts
    have w5 := WsI.zero M5 hdlB hdls
    obtain ⟨t1, ht1⟩ : ∃ y, ofL M1 = y := ⟨_, rfl⟩
    obtain ⟨t2, ht2⟩ : ∃ y, ofL M2 = y := ⟨_, rfl⟩
    obtain ⟨t3, ht3⟩ : ∃ y, ofL M3 = y := ⟨_, rfl⟩
    obtain ⟨t4, ht4⟩ : ∃ y, ofL M4 = y := ⟨_, rfl⟩
    obtain ⟨t5, ht5⟩ : ∃ y, ofL M5 = y := ⟨_, rfl⟩
    obtain ⟨t6, ht6⟩ : ∃ y, ofL M6 = y := ⟨_, rfl⟩
    obtain ⟨a1, ha1⟩ : ∃ y, ofL H1 = y := ⟨_, rfl⟩
    obtain ⟨a2, ha2⟩ : ∃ y, ofL H2 = y := ⟨_, rfl⟩
    obtain ⟨a3, ha3⟩ : ∃ y, ofL (H1 ++ H2) = y := ⟨_, rfl⟩
    obtain ⟨a4, ha4⟩ : ∃ y, ofL B1 = y := ⟨_, rfl⟩
    obtain ⟨a5, ha5⟩ : ∃ y, ofL ((H1 ++ H2) ++ B1) = y := ⟨_, rfl⟩
    obtain ⟨a6, ha6⟩ : ∃ y, ofL B2 = y := ⟨_, rfl⟩
    obtain ⟨a7, ha7⟩ : ∃ y, ofL B3 = y := ⟨_, rfl⟩
    rw [ha1] at g0
    rw [ha2] at g1
    rw [ha4] at g2
    rw [ha6] at g3
    rw [ha7] at g4
    rw [ha1, ha2] at j1
    rw [ha1, ha2, ha3] at j2
    rw [ha3, ha4] at j3
    rw [ha3, ha4, ha5] at j4
    rw [ha5] at j5
    rw [ha5, ht1] at j6
    rw [ht2, ha6] at j7
    rw [ht2, ha6, ht3] at j8
    rw [ht4, ha7] at j9
    rw [ht4, ha7, ht5] at j10
    rw [ht1] at w1
    rw [ht3] at w3
    rw [ht5] at w5
    rw [ht6] at hI2
    clear hH1 hH2 hB1 hB2 hB3 hM1 hM3 hM5 ha1 ha2 ha3 ha4 ha5 ha6 ha7 hs hCD hCS hHR hlen eo hz
    cbv at k1 k2 k3
    cbv
    repeat (first | (simp only [hl]; cbv) | simp only [hl] | (simp only [v1]; cbv) | simp only [v1] | (simp only [dd]; cbv) | simp only [dd] | (refine ⟨p3,_,gr, ?_⟩; cbv) | (refine ⟨_, g0, ?_⟩; cbv) | (refine ⟨_, g1, ?_⟩; cbv) | (refine ⟨j1, ?_⟩; cbv) | (simp only [j2]; cbv) | simp only [j2] | (simp only [k1]; cbv) | simp only [k1] | (simp only [u1]; cbv) | simp only [u1] | (simp only [u4]; cbv) | simp only [u4] | (refine ⟨_, g2, ?_⟩; cbv) | (refine ⟨j3, ?_⟩; cbv) | (simp only [j4]; cbv) | simp only [j4] | (refine ⟨j5, ?_⟩; cbv) | (simp only [j6]; cbv) | simp only [j6])
    refine loop_by 159 [1, 3, 4, 5, 6] 2 (fun y : Int × ByteArray => [.own 0 0, .p (cS y.2), .p (cI i), .own 1 0, .p (cI y.1)]) (fun _ => [some (.box [.p (.ro 7 F)] 33 none), some (.box [.p (cS nm), .p (cI kd), .p (cI pa), .p (cI lo), .p (.ro 3 CD), .p (.ro 3 CS), .p (.ro 5 HR)] 50 none)]) (WsI M1 insB code) (fun y => μ y.1) (0, t1) ⟨rfl, rfl, rfl, rfl, rfl⟩ w1 ?_
    rintro ⟨j, sj⟩ hJ
    obtain ⟨j0, j1', hsj⟩ := id hJ
    simp only at j0 j1' hsj
    replace hn1 : code.length = n1 := hn1
    replace hz1 : ((n1 : Nat) : Int) = z1 := hz1
    have ddj := elt j z1
    rcases Classical.em (j < z1) with hj | hj
    · rw [decide_eq_true hj] at ddj
      obtain ⟨y, hy⟩ : ∃ y, code[j.toNat]? = some y := ⟨_, List.getElem?_eq_getElem (by omega)⟩
      have gj := f1 _ _ hy
      rw [← enat] at gj
      have pj := eple 0 j j0
      have ej := eadd j 1 (by omega) (by omega) (by omega) (by omega)
      have hMj : μ (E.wadd .i64 j 1) < μ j := by rw [hμ, hμ, ej]; omega
      have hJ2 := hJ.next hy
      rw [← ej] at hJ2
      have hlj : (M1 ++ (code.take j.toNat).flatMap insB).length ≤ 800000000 := by
        have := take_le (enc := insB) code j.toNat
        rw [List.length_append]
        omega
      obtain ⟨l', hl'⟩ : ∃ y, M1 ++ (code.take j.toNat).flatMap insB = y := ⟨_, rfl⟩
      rw [hl'] at hsj hlj hJ2
      have hci := ci y (List.mem_of_getElem? hy)
      have rc := hc _ _ _ (numbers_r [y.op, y.a, y.b] (by simp) (fun n hn => by
        simp only [List.mem_cons, List.not_mem_nil, or_false] at hn
        rcases hn with rfl | rfl | rfl
        · exact hci.op
        · exact hci.a
        · exact hci.b))
      have hib : [y.op, y.a, y.b].flatMap zb = insB y := by simp only [List.flatMap_cons, List.flatMap_nil, List.append_nil]; rfl
      rw [hib] at rc
      replace rc : Ret P G 53 [.ro 1 [[cI y.op], [cI y.a], [cI y.b]]] (cS (ofL (insB y))) := rc
      have hyl : (insB y).length ≤ 30 := by
        have := zb_len y.op
        have := zb_len y.a
        have := zb_len y.b
        simp only [insB, List.length_append]
        omega
      obtain ⟨e1, e2⟩ := join l' (insB y) (by omega) (by omega)
      rw [← hsj] at e1 e2
      obtain ⟨bs, hbs⟩ : ∃ x, ofL (insB y) = x := ⟨_, rfl⟩
      obtain ⟨sx, hsx⟩ : ∃ x, ofL (l' ++ insB y) = x := ⟨_, rfl⟩
      rw [hbs] at rc e1 e2
      rw [hsx] at e2 hJ2
      obtain ⟨op, a, b⟩ := y
      simp only at gj rc
      clear hy hci hib hyl hbs hsx hl' hlj hsj hJ f1 f2 f3 g0 g1 g2 g3 g4
      cbv
      repeat (first | (simp only [k1]; cbv) | simp only [k1] | (simp only [u1]; cbv) | simp only [u1] | (simp only [ddj]; cbv) | simp only [ddj] | (refine ⟨pj,_,gj, ?_⟩; cbv) | (refine ⟨_, rc, ?_⟩; cbv) | (refine ⟨e1, ?_⟩; cbv) | (simp only [e2]; cbv) | simp only [e2])
      refine .mk (E.wadd .i64 j 1, sx) ⟨rfl, rfl, rfl, rfl, rfl⟩ ?_ ?_
      · exact hJ2
      · exact hMj
    · rw [decide_eq_false hj] at ddj
      have hlast := hJ.last (by omega)
      rw [hM2', ht2] at hlast
      subst hlast
      clear hJ hsj
      cbv
      repeat (first | (simp only [k1]; cbv) | simp only [k1] | (simp only [u1]; cbv) | simp only [u1] | (simp only [ddj]; cbv) | simp only [ddj] | (refine ⟨j7, ?_⟩; cbv) | (simp only [j8]; cbv) | simp only [j8] | (simp only [k2]; cbv) | simp only [k2] | (simp only [u2]; cbv) | simp only [u2] | (simp only [u5]; cbv) | simp only [u5] | (refine ⟨_, g3, ?_⟩; cbv))
      refine loop_by 159 [1, 3, 4, 5, 7] 2 (fun y : Int × ByteArray => [.own 0 0, .p (cS y.2), .p (cI i), .own 1 0, .p (cI y.1)]) (fun _ => [some (.box [.p (.ro 7 F)] 33 none), some (.box [.p (cS nm), .p (cI kd), .p (cI pa), .p (cI lo), .p (.ro 3 CD), .p (.ro 3 CS), .p (.ro 5 HR)] 50 none)]) (WsI M3 cstB consts) (fun y => μ y.1) (0, t3) ⟨rfl, rfl, rfl, rfl, rfl⟩ w3 ?_
      rintro ⟨j, sj⟩ hJ
      obtain ⟨j0, j1', hsj⟩ := id hJ
      simp only at j0 j1' hsj
      replace hn2 : consts.length = n2 := hn2
      replace hz2 : ((n2 : Nat) : Int) = z2 := hz2
      have ddj := elt j z2
      rcases Classical.em (j < z2) with hj | hj
      · rw [decide_eq_true hj] at ddj
        obtain ⟨y, hy⟩ : ∃ y, consts[j.toNat]? = some y := ⟨_, List.getElem?_eq_getElem (by omega)⟩
        have gj := f2 _ _ hy
        rw [← enat] at gj
        have pj := eple 0 j j0
        have ej := eadd j 1 (by omega) (by omega) (by omega) (by omega)
        have hMj : μ (E.wadd .i64 j 1) < μ j := by rw [hμ, hμ, ej]; omega
        have hJ2 := hJ.next hy
        rw [← ej] at hJ2
        have hlj : (M3 ++ (consts.take j.toNat).flatMap cstB).length ≤ 800000000 := by
          have := take_le (enc := cstB) consts j.toNat
          rw [List.length_append]
          omega
        obtain ⟨l', hl'⟩ : ∃ y, M3 ++ (consts.take j.toNat).flatMap cstB = y := ⟨_, rfl⟩
        rw [hl'] at hsj hlj hJ2
        have hk := ck y (List.mem_of_getElem? hy)
        have hci := cc y (List.mem_of_getElem? hy)
        have hsz := cz y (List.mem_of_getElem? hy)
        have rc := hc _ _ _ (numbers_r [y.kind] (by simp) (fun n hn => by
          simp only [List.mem_cons, List.not_mem_nil, or_false] at hn
          rcases hn with rfl
          exact hci.k))
        have hib : [y.kind].flatMap zb = zb y.kind := by simp only [List.flatMap_cons, List.flatMap_nil, List.append_nil]
        rw [hib] at rc
        replace rc : Ret P G 53 [.ro 1 [[cI y.kind]]] (cS (ofL (zb y.kind))) := rc
        have hyl := zb_len y.kind
        obtain ⟨e1, e2⟩ := join l' (zb y.kind) (by omega) (by omega)
        rw [← hsj] at e1 e2
        have fz := epre1 (cI y.kind)
        have fs2 := esub1 (cI y.kind)
        rcases hk with hk | hk
        · have hce : l' ++ cstB y = (l' ++ zb y.kind) ++ zb y.int := by unfold cstB; rw [if_neg (by omega), List.append_assoc]
          have hyl2 := zb_len y.int
          have rc2 := hc _ _ _ (number_r y.int hci.i.1 hci.i.2)
          obtain ⟨e3, e4⟩ := join (l' ++ zb y.kind) (zb y.int) (by rw [List.length_append]; omega) (by omega)
          have uk : decide (y.kind = 1) = true := decide_eq_true hk
          rw [hce] at hJ2
          obtain ⟨bs, hbs⟩ : ∃ x, ofL (zb y.kind) = x := ⟨_, rfl⟩
          obtain ⟨sm, hsm⟩ : ∃ x, ofL (l' ++ zb y.kind) = x := ⟨_, rfl⟩
          obtain ⟨bt, hbt⟩ : ∃ x, ofL (zb y.int) = x := ⟨_, rfl⟩
          obtain ⟨sx, hsx⟩ : ∃ x, ofL ((l' ++ zb y.kind) ++ zb y.int) = x := ⟨_, rfl⟩
          rw [hbs] at rc e1 e2
          rw [hsm] at e2 e3 e4
          rw [hbt] at rc2 e3 e4
          rw [hsx] at e4 hJ2
          obtain ⟨k9, i9, s9⟩ := y
          simp only at gj rc rc2 uk fz fs2
          clear hy hci hib hyl hbs hsx hl' hlj hsj hJ f1 f2 f3 g0 g1 g2 g3 g4 hce hyl2 hk hsz hsm hbt
          cbv
          repeat (first | (simp only [k2]; cbv) | simp only [k2] | (simp only [u2]; cbv) | simp only [u2] | (simp only [ddj]; cbv) | simp only [ddj] | (refine ⟨pj,_,gj, ?_⟩; cbv))
          simp only [fs2]
          refine .inl ⟨fz, _, rc, ?_⟩
          cbv
          repeat (first | (refine ⟨e1, ?_⟩; cbv) | (simp only [e2]; cbv) | simp only [e2] | (refine ⟨pj,_,gj, ?_⟩; cbv) | (simp only [uk]; cbv) | simp only [uk] | (refine ⟨_, rc2, ?_⟩; cbv) | (refine ⟨e3, ?_⟩; cbv) | (simp only [e4]; cbv) | simp only [e4])
          refine .mk (E.wadd .i64 j 1, sx) ⟨rfl, rfl, rfl, rfl, rfl⟩ ?_ ?_
          · exact hJ2
          · exact hMj
        · have hce : l' ++ cstB y = (l' ++ zb y.kind) ++ strB y.str := by unfold cstB; rw [if_pos hk, List.append_assoc]
          have hyl2 : (strB y.str).length ≤ 1000010 := by
            have := natB_10 (n := y.str.size) (by omega)
            unfold strB
            rw [List.length_append, ba_len]
            omega
          have rc2 := hc _ _ _ (str_r y.str (by omega))
          obtain ⟨e3, e4⟩ := join (l' ++ zb y.kind) (strB y.str) (by rw [List.length_append]; omega) (by omega)
          have uk : decide (y.kind = 1) = false := decide_eq_false (by omega)
          rw [hce] at hJ2
          obtain ⟨bs, hbs⟩ : ∃ x, ofL (zb y.kind) = x := ⟨_, rfl⟩
          obtain ⟨sm, hsm⟩ : ∃ x, ofL (l' ++ zb y.kind) = x := ⟨_, rfl⟩
          obtain ⟨bt, hbt⟩ : ∃ x, ofL (strB y.str) = x := ⟨_, rfl⟩
          obtain ⟨sx, hsx⟩ : ∃ x, ofL ((l' ++ zb y.kind) ++ strB y.str) = x := ⟨_, rfl⟩
          rw [hbs] at rc e1 e2
          rw [hsm] at e2 e3 e4
          rw [hbt] at rc2 e3 e4
          rw [hsx] at e4 hJ2
          obtain ⟨k9, i9, s9⟩ := y
          simp only at gj rc rc2 uk fz fs2
          clear hy hci hib hyl hbs hsx hl' hlj hsj hJ f1 f2 f3 g0 g1 g2 g3 g4 hce hyl2 hk hsz hsm hbt
          cbv
          repeat (first | (simp only [k2]; cbv) | simp only [k2] | (simp only [u2]; cbv) | simp only [u2] | (simp only [ddj]; cbv) | simp only [ddj] | (refine ⟨pj,_,gj, ?_⟩; cbv))
          simp only [fs2]
          refine .inl ⟨fz, _, rc, ?_⟩
          cbv
          repeat (first | (refine ⟨e1, ?_⟩; cbv) | (simp only [e2]; cbv) | simp only [e2] | (refine ⟨pj,_,gj, ?_⟩; cbv) | (simp only [uk]; cbv) | simp only [uk] | (refine ⟨_, rc2, ?_⟩; cbv) | (refine ⟨e3, ?_⟩; cbv) | (simp only [e4]; cbv) | simp only [e4])
          refine .mk (E.wadd .i64 j 1, sx) ⟨rfl, rfl, rfl, rfl, rfl⟩ ?_ ?_
          · exact hJ2
          · exact hMj
      · rw [decide_eq_false hj] at ddj
        have hlast := hJ.last (by omega)
        rw [hM4, ht4] at hlast
        subst hlast
        clear hJ hsj
        cbv
        repeat (first | (simp only [k2]; cbv) | simp only [k2] | (simp only [u2]; cbv) | simp only [u2] | (simp only [ddj]; cbv) | simp only [ddj] | (refine ⟨j9, ?_⟩; cbv) | (simp only [j10]; cbv) | simp only [j10] | (simp only [k3]; cbv) | simp only [k3] | (simp only [u3]; cbv) | simp only [u3] | (simp only [u6]; cbv) | simp only [u6] | (refine ⟨_, g4, ?_⟩; cbv))
        refine loop_by 159 [1, 3, 4, 5, 8] 2 (fun y : Int × ByteArray => [.own 0 0, .p (cS y.2), .p (cI i), .own 1 0, .p (cI y.1)]) (fun _ => [some (.box [.p (.ro 7 F)] 33 none), some (.box [.p (cS nm), .p (cI kd), .p (cI pa), .p (cI lo), .p (.ro 3 CD), .p (.ro 3 CS), .p (.ro 5 HR)] 50 none)]) (WsI M5 hdlB hdls) (fun y => μ y.1) (0, t5) ⟨rfl, rfl, rfl, rfl, rfl⟩ w5 ?_
        rintro ⟨j, sj⟩ hJ
        obtain ⟨j0, j1', hsj⟩ := id hJ
        simp only at j0 j1' hsj
        replace hn3 : hdls.length = n3 := hn3
        replace hz3 : ((n3 : Nat) : Int) = z3 := hz3
        have ddj := elt j z3
        rcases Classical.em (j < z3) with hj | hj
        · rw [decide_eq_true hj] at ddj
          obtain ⟨y, hy⟩ : ∃ y, hdls[j.toNat]? = some y := ⟨_, List.getElem?_eq_getElem (by omega)⟩
          have gj := f3 _ _ hy
          rw [← enat] at gj
          have pj := eple 0 j j0
          have ej := eadd j 1 (by omega) (by omega) (by omega) (by omega)
          have hMj : μ (E.wadd .i64 j 1) < μ j := by rw [hμ, hμ, ej]; omega
          have hJ2 := hJ.next hy
          rw [← ej] at hJ2
          have hlj : (M5 ++ (hdls.take j.toNat).flatMap hdlB).length ≤ 800000000 := by
            have := take_le (enc := hdlB) hdls j.toNat
            rw [List.length_append]
            omega
          obtain ⟨l', hl'⟩ : ∃ y, M5 ++ (hdls.take j.toNat).flatMap hdlB = y := ⟨_, rfl⟩
          rw [hl'] at hsj hlj hJ2
          have hci := ch y (List.mem_of_getElem? hy)
          have rc := hc _ _ _ (numbers_r [y.lo, y.hi, y.tg, y.dp, y.sc] (by simp) (fun n hn => by
            simp only [List.mem_cons, List.not_mem_nil, or_false] at hn
            rcases hn with rfl | rfl | rfl | rfl | rfl
            · exact hci.lo
            · exact hci.hi
            · exact hci.tg
            · exact hci.dp
            · exact hci.sc))
          have hib : [y.lo, y.hi, y.tg, y.dp, y.sc].flatMap zb = hdlB y := by simp only [List.flatMap_cons, List.flatMap_nil, List.append_nil]; rfl
          rw [hib] at rc
          replace rc : Ret P G 53 [.ro 1 [[cI y.lo], [cI y.hi], [cI y.tg], [cI y.dp], [cI y.sc]]] (cS (ofL (hdlB y))) := rc
          have hyl : (hdlB y).length ≤ 50 := by
            have := zb_len y.lo
            have := zb_len y.hi
            have := zb_len y.tg
            have := zb_len y.dp
            have := zb_len y.sc
            simp only [hdlB, List.length_append]
            omega
          obtain ⟨e1, e2⟩ := join l' (hdlB y) (by omega) (by omega)
          rw [← hsj] at e1 e2
          obtain ⟨bs, hbs⟩ : ∃ x, ofL (hdlB y) = x := ⟨_, rfl⟩
          obtain ⟨sx, hsx⟩ : ∃ x, ofL (l' ++ hdlB y) = x := ⟨_, rfl⟩
          rw [hbs] at rc e1 e2
          rw [hsx] at e2 hJ2
          obtain ⟨lo1, hi1, tg1, dp1, sc1⟩ := y
          simp only at gj rc
          have fz : E.pre 0 5 [[cI lo1], [cI hi1], [cI tg1], [cI dp1], [cI sc1]] := epre5 _ _ _ _ _
          have fs2 := esub5 (cI lo1) (cI hi1) (cI tg1) (cI dp1) (cI sc1)
          clear hy hci hib hyl hbs hsx hl' hlj hsj hJ f1 f2 f3 g0 g1 g2 g3 g4
          cbv
          repeat (first | (simp only [k3]; cbv) | simp only [k3] | (simp only [u3]; cbv) | simp only [u3] | (simp only [ddj]; cbv) | simp only [ddj] | (refine ⟨pj,_,gj, ?_⟩; cbv))
          simp only [fs2]
          refine .inl ⟨fz, _, rc, ?_⟩
          cbv
          repeat (first | (refine ⟨e1, ?_⟩; cbv) | (simp only [e2]; cbv) | simp only [e2])
          refine .mk (E.wadd .i64 j 1, sx) ⟨rfl, rfl, rfl, rfl, rfl⟩ ?_ ?_
          · exact hJ2
          · exact hMj
        · rw [decide_eq_false hj] at ddj
          have hlast := hJ.last (by omega)
          rw [hM6, ht6] at hlast
          subst hlast
          clear hJ hsj
          cbv
          repeat (first | (simp only [k3]; cbv) | simp only [k3] | (simp only [u3]; cbv) | simp only [u3] | (simp only [ddj]; cbv) | simp only [ddj])
          refine .mk (E.wadd .i64 i 1, sj) ⟨rfl, rfl, rfl, rfl, rfl⟩ ?_ ?_
          · exact hI2
          · exact hM2
  · rw [decide_eq_false hi] at dd
    have hlast := hI.last (by omega)
    rw [eo] at hlast
    subst hlast
    clear hI hs hg hprefix hr
    cbv
    repeat (first | (simp only [hl]; cbv) | simp only [hl] | (simp only [v1]; cbv) | simp only [v1] | (simp only [dd]; cbv) | simp only [dd])
end Go.Proofs.YtlffpgjkhehdmaaDoor
