/- Own work: verify's shapes answers as the plain function. -/
import Derived.Test.YtlffpgjkhehdmaaDoorZGJ
import Derived.Test.YtlffpgjkhehdmaaDoorZW3E
namespace Go.Proofs.YtlffpgjkhehdmaaDoor
open Go.RowKit
set_option maxRecDepth 100000

/-- own rows, of which the last are not told -/
theorem wk_take {env : List AV} {H : AH} {k s : Nat} {rs : List (List PV)} {t : TypeId} (n : Nat) (hk : H[k]? = some (some (.rows s rs t))) : Wk env H env (H.set k (some (.rows s (rs.take n) t))) := by
  intro w0 B w ι tmps _ hR hE
  obtain ⟨⟨c, sh⟩, hi⟩ : ∃ x, ι[k]? = some x := ⟨_, List.getElem?_eq_getElem (by rw [hR.len]; exact (List.getElem?_eq_some_iff.1 hk).1)⟩
  obtain ⟨_, hs, hl, hc⟩ := hR.blk k _ c sh hk hi
  have hget : ∀ (q : Nat) (row : List PV), (rs.take n)[q]? = some row → rs[q]? = some row := fun q row hr => by
    have := (List.getElem?_eq_some_iff.1 hr).1
    rw [List.length_take] at this
    rwa [List.getElem?_take_of_lt (by omega)] at hr
  cases c with
  | none =>
    have hn : rs = [] := by
      rcases hc with ⟨_, h⟩ | ⟨c', arr, e, _⟩
      · exact h
      · cases e
    subst hn
    rw [List.take_nil]
    have e : H.set k (some (.rows s [] t)) = H := by
      apply List.ext_getElem?
      intro j
      by_cases hj : k = j
      · subst hj; rw [List.getElem?_set_self (List.getElem?_eq_some_iff.1 hk).1, hk]
      · rw [List.getElem?_set_ne hj]
    rw [e]
    exact ⟨ι, hR, hE⟩
  | some c =>
    have hu := hR.upd hk hi (b' := .rows s (rs.take n) t) (w' := w) rfl rfl rfl rfl (fun _ _ => rfl) (fun R' hq => by
      refine ⟨hs, fun i row hrow => hl i row (hget i row hrow), ?_⟩
      rcases hc with ⟨e, _⟩ | ⟨c', arr, e, h1, h2, h3⟩
      · cases e
      · exact .inr ⟨c', arr, e, h1, h2, fun i j row a hrow ha => by
          obtain ⟨v, hv, hv1, hr⟩ := h3 i j row a (hget i row hrow) ha
          exact ⟨v, hv, hv1, hr.keep hq.size hq.read⟩⟩)
    exact ⟨_, hu.1, hE.len, fun q x v hx hv => (hE.at_ q x v hx hv).keep0 hu.2⟩
/-- what shapes answers -/
def shR : Option (List Shp) → PV
  | some l => .tup [.ro 2 (pSh l), pB true]
  | none => .tup [.v (.slice none 0 0), pB false]
def wfOf (f : Fn) : WF := ⟨pS f.name, pI f.kind, pI f.params, pI f.locals, .ro 3 (pCons f.consts), .ro 5 (pHdls f.hdls), pCode f.code⟩
theorem pCode_get {l : List Ins} {i : Nat} {x : Ins} (h : l[i]? = some x) : (pCode l)[i]? = some [pI x.op, pI x.a, pI x.b] := by
  unfold pCode; rw [List.getElem?_map, h]; rfl
/-- visit, for a function that keeps the rules -/
theorem visit_at (f : Fn) (hf : FnV f) (st : WS2) (hk : WOk f.code.length st) (i : Int) (p : Shp) (hi : 0 ≤ i) (hp : st.sh[i.toNat]? = some p) (hp0 : 0 ≤ p.1) :
    VM 65 [.own 0 0, .p (pI i)] (walkS (wfOf f) st) (resR (visitAt f st i)) (resH (wfOf f) (visitAt f st i)) := by
  have hil : i.toNat < f.code.length := by have := (List.getElem?_eq_some_iff.1 hp).1; rw [hk.len] at this; exact this
  obtain ⟨x, hx⟩ : ∃ x, f.code[i.toNat]? = some x := ⟨_, List.getElem?_eq_getElem hil⟩
  have hv : visitAt f st i = visitP (f.hdls.map hdOf) i x.op x.a p.1 p.2 st := by unfold visitAt; rw [hx, hp]
  rw [hv]
  have hxv := hf.code x (List.mem_of_getElem? hx)
  have hpv := (hk.shp p (List.mem_of_getElem? hp)).resolve_left (by omega)
  have hl1 := hf.l1
  have hl2 := hf.l2
  have hc := hk.cnt
  exact visit_ret (wfOf f) (f.hdls.map hdOf) st (by rw [pHds_of]; rfl) (by simpa using hl2) hf.hdl (by simp [wfOf, pCode, hk.len]) (by omega) i x.op x.a x.b p.1 p.2 hi (by omega) (pCode_get hx) hp hxv.1.1 hxv.1.2 hxv.2.1 hxv.2.2 hpv.1.1 hpv.1.2 hpv.2.1 hpv.2.2
/-- at the head of the loop that lays the shapes -/
structure LayI (f : Fn) (y : Int × List (List PV) × Nat) : Prop where
  i0 : 0 ≤ y.1
  i1 : y.1 ≤ f.code.length
  sh : y.2.1 = pSh (List.replicate y.1.toNat (-1, 0))
  n : y.2.2 = y.1.toNat
  ok : (f.code.take y.1.toNat).all (kindOk f.kind) = true
/-- at the head of the loop that visits -/
structure RunI (f : Fn) (o : Option (List Shp)) (y : List (List PV) × List (List PV) × Nat × Nat) : Prop where
  st : ∃ st : WS2, y.1 = pSh st.sh ∧ y.2.1 = pOp st.op ∧ y.2.2.1 = st.op.length ∧ WOk f.code.length st ∧ wm st < y.2.2.2 ∧ runP f y.2.2.2 st = o
set_option maxHeartbeats 4000000 in
theorem shapes_ret (f : Fn) (hf : FnV f) : V0 46 [.agg (pFn f)] (shR (shapesP f)) := by
  have dt := demand_true
  have df := demand_false
  obtain ⟨r, hr⟩ : ∃ r, shR (shapesP f) = r := ⟨_, rfl⟩
  rw [hr]
  obtain ⟨μ, hμ⟩ : ∃ μ : Int × List (List PV) × Nat → Nat, ∀ y, μ y = 70000 - y.1.toNat := ⟨_, fun _ => rfl⟩
  obtain ⟨ν, hν⟩ : ∃ ν : List (List PV) × List (List PV) × Nat × Nat → Nat, ∀ y, ν y = y.2.2.2 := ⟨_, fun _ => rfl⟩
  have hcl : (pCode f.code).length = f.code.length := by simp [pCode]
  have hcg : ∀ (k : Nat) x, f.code[k]? = some x → (pCode f.code)[k]? = some [pI x.op, pI x.a, pI x.b] := fun k x h => pCode_get h
  unfold pFn
  obtain ⟨CD, hCD⟩ : ∃ x, pCode f.code = x := ⟨_, rfl⟩
  obtain ⟨CS, hCS⟩ : ∃ x, pCons f.consts = x := ⟨_, rfl⟩
  obtain ⟨HD, hHD⟩ : ∃ x, pHdls f.hdls = x := ⟨_, rfl⟩
  obtain ⟨n, hn⟩ : ∃ x, f.code.length = x := ⟨_, rfl⟩
  obtain ⟨nm, hnm⟩ : ∃ x, f.name = x := ⟨_, rfl⟩
  obtain ⟨kd, hkd⟩ : ∃ x, f.kind = x := ⟨_, rfl⟩
  obtain ⟨pa, hpa⟩ : ∃ x, f.params = x := ⟨_, rfl⟩
  obtain ⟨lo, hlo⟩ : ∃ x, f.locals = x := ⟨_, rfl⟩
  have hl1 := hf.l1
  have hl0 := hf.l0
  rw [hCD, hn] at hcl
  rw [hCD] at hcg
  rw [hCD, hCS, hHD, hnm, hkd, hpa, hlo]
  refine shapes_rule (fun _ => 0) rfl rfl rfl rfl rfl rfl rfl (by kernel_rfl) (by kernel_rfl) (cs := [.p (pS nm), .p (pI kd), .p (pI pa), .p (pI lo), .p (.ro 3 CD), .p (.ro 3 CS), .p (.ro 5 HD)]) ?_ ?_
  · intro P G E
    cbv
  · intro P G E hc hM hE t1 t2
    replace dt := hc _ _ _ dt
    replace df := hc _ _ _ df
    have elt : ∀ a b, E.lti a b = decide (a < b) := fun a b => by rw [hE]; rfl
    have eofn : ∀ n, E.ofN n = (n : Int) := fun n => by rw [hE]; rfl
    have enat : ∀ i, E.nat i = i.toNat := fun i => by rw [hE]; rfl
    have eple : ∀ a b, a ≤ b → E.ple a b := fun a b h => by rw [hE]; exact h
    have eadd : ∀ a b : Int, -1000000 ≤ a → a ≤ 1000000 → -1000000 ≤ b → b ≤ 1000000 → E.wadd .i64 a b = a + b := fun a b h0 h1 h2 h3 => by rw [hE]; exact wrap_i64_in (by omega) (by omega)
    have esb : ∀ a b : Int, -1000000 ≤ a → a ≤ 1000000 → -1000000 ≤ b → b ≤ 1000000 → E.wsub .i64 a b = a - b := fun a b h0 h1 h2 h3 => by rw [hE]; exact wrap_i64_in (by omega) (by omega)
    obtain ⟨b3, hb3⟩ : ∃ b, decide (kd = 3) = b := ⟨_, rfl⟩
    obtain ⟨b4, hb4⟩ : ∃ b, decide (kd = 4) = b := ⟨_, rfl⟩
    obtain ⟨b5, hb5⟩ : ∃ b, decide (kd = 5) = b := ⟨_, rfl⟩
    have hkx : ∀ x : Ins, kindOk kd x = ((!decide (x.op = 52) || b3) && (!decide (x.op = 53) || (b4 || b5))) := fun x => by rw [← hb3, ← hb4, ← hb5]; rfl
    have hx0 : LayI f (0, [], 0) := ⟨Int.le_refl _, Int.natCast_nonneg _, rfl, rfl, rfl⟩
    cbv at hcl
    cbv
    simp only [hcl]
    refine LoopA.wk (wk_nil (k := 3) (j := 7) 2 52 rfl rfl) ?_
    refine LoopA.wk (wk_nil (k := 3) (j := 8) 1 3 rfl rfl) ?_
    refine loop_by 73 [1, 2, 3, 4, 13, 14, 15] 6 (fun y : Int × List (List PV) × Nat => [.own 0 0, .own 1 0, .own 2 0, .own 3 0, .p (.ro 3 CD), .p (pI (E.ofN n)), .p (pI y.1)])
      (fun y => [some (.box [.p (pS nm), .p (pI kd), .p (pI pa), .p (pI lo), .p (.ro 3 CD), .p (.ro 3 CS), .p (.ro 5 HD)] 50 none), some (.box [.p (.v (.slice none 0 0))] 43 (some t1)), some (.box [.p (pB false)] 4 (some t2)),
        some (.box [.p (pS nm), .p (pI kd), .p (pI pa), .p (pI lo), .p (.ro 3 CD), .p (.ro 3 CS), .p (.ro 5 HD), .osl 4 0 y.2.2, .osl 5 0 0] 115 none), some (.rows 2 y.2.1 52), some (.rows 1 [] 3)])
      (LayI f) μ (0, [], 0) ⟨rfl, rfl, rfl, rfl, rfl⟩ hx0 ?_
    clear hx0
    rintro ⟨i, sh, k⟩ hI
    obtain ⟨i0, i1, hs1, hs2, hs3⟩ := hI
    simp only at i0 i1 hs1 hs2 hs3
    replace hn : f.code.length = n := hn
    replace hl1 : f.code.length ≤ 65536 := hl1
    replace hl0 : 1 ≤ f.code.length := hl0
    have dd : E.lti i (E.ofN n) = decide (i < (n : Int)) := by rw [eofn, elt]
    by_cases hi : i < (n : Int)
    · rw [decide_eq_true hi] at dd
      obtain ⟨x, hx⟩ : ∃ x, f.code[i.toNat]? = some x := ⟨_, List.getElem?_eq_getElem (by omega)⟩
      have gr := hcg _ _ hx
      rw [← enat] at gr
      have hkx2 := hkx x
      have htk : (f.code.take (i.toNat + 1)).all (kindOk kd) = kindOk kd x := by
        rw [List.take_add_one, hx, List.all_append, ← hkd, hs3]
        simp
      obtain ⟨op, a, b⟩ := x
      simp only at gr hkx2
      have p3 := eple 0 i i0
      have ei := eadd i 1 (by omega) (by omega) (by omega) (by omega)
      have hM2 : μ (E.wadd .i64 i 1, pSh (List.replicate (i + 1).toNat (-1, 0)), (i + 1).toNat) < μ (i, sh, k) := by rw [hμ, hμ]; simp only [ei]; omega
      have hkl : sh.length = k := by rw [hs1, hs2]; simp [pSh]
      have e1 : (i + 1).toNat = k + 1 := by omega
      have e2 : pSh (List.replicate (i + 1).toNat (-1, 0)) = sh ++ [[pI (-1), pI 0]] := by
        rw [hs1, e1, hs2]
        unfold pSh
        rw [List.map_replicate, List.map_replicate, List.replicate_succ']
      rw [e2, e1] at hM2
      obtain ⟨sh', hsh'⟩ : ∃ x, sh ++ [[pI (-1), pI 0]] = x := ⟨_, rfl⟩
      obtain ⟨k', hk'⟩ : ∃ x, k + 1 = x := ⟨_, rfl⟩
      rw [hsh', hk'] at hM2
      have a2 : E.addN k 1 = k' := by rw [hE]; exact hk'
      have p5 : E.pre 0 k sh := by rw [hE]; show 0 + k ≤ sh.length; omega
      have p4 : E.room k 1 16 := by rw [hE]; exact ⟨by unfold maxLen; omega, by omega⟩
      have r0 : E.sub [[pI (-1), pI 0]] 0 1 = [[pI (-1), pI 0]] := by rw [hE]; rfl
      have p0 : E.pre 0 1 [[pI (-1), pI 0]] := by rw [hE]; show 0 + 1 ≤ 1; omega
      have r3 : E.app sh k [[pI (-1), pI 0]] = sh' := by rw [hE]; show sh.take k ++ _ = _; rw [← hkl, List.take_length]; exact hsh'
      have hI2 : kindOk kd ⟨op, a, b⟩ = true → LayI f (E.wadd .i64 i 1, sh', k') := fun h => by
        refine ⟨by simp only [ei]; omega, by simp only [ei]; omega, ?_, ?_, ?_⟩
        · simp only [ei]; rw [e2]; exact hsh'.symm
        · simp only [ei]; omega
        · simp only [ei]
          rw [show (i + 1).toNat = i.toNat + 1 by omega, hkd, htk]
          exact h
      have hbad : kindOk kd ⟨op, a, b⟩ = false → r = .tup [.v (.slice none 0 0), pB false] := fun h => by
        rw [← hr]
        unfold shapesP
        rw [if_neg]
        · rfl
        · intro hall
          have := List.all_eq_true.1 hall _ (List.mem_of_getElem? hx)
          rw [hkd, h] at this
          cases this
      rw [hkx2] at hI2 hbad
      obtain ⟨b52, h52⟩ : ∃ b, decide (op = 52) = b := ⟨_, rfl⟩
      obtain ⟨b53, h53⟩ : ∃ b, decide (op = 53) = b := ⟨_, rfl⟩
      rw [h52, h53] at hI2 hbad
      clear hkx2 htk hx hs3 hkx hcg hsh' hs1 hs2 e2 hkl
      cases b52
      · cases b53
        · skip
          replace hI2 := hI2 rfl
          clear hbad
          cbv
          simp only [dd]
          cbv
          refine ⟨p3, _, gr, ?_⟩
          cbv
          refine ⟨p0, p5, p4, ?_⟩
          simp only [r0, r3, a2]
          cbv
          repeat (first | (simp only [h52]; cbv) | simp only [h52] | (simp only [h53]; cbv) | simp only [h53] | (simp only [hb3]; cbv) | simp only [hb3] | (simp only [hb4]; cbv) | simp only [hb4] | (simp only [hb5]; cbv) | simp only [hb5] | (refine ⟨_, dt, ?_⟩; cbv) | (refine ⟨_, df, ?_⟩; cbv))
          refine .mk (E.wadd .i64 i 1, sh', k') ⟨rfl, rfl, rfl, rfl, rfl⟩ ?_ ?_
          · exact hI2
          · exact hM2
        · cases b4
          · cases b5
            · skip
              obtain rfl := hbad rfl
              clear hI2
              cbv
              simp only [dd]
              cbv
              refine ⟨p3, _, gr, ?_⟩
              cbv
              refine ⟨p0, p5, p4, ?_⟩
              simp only [r0, r3, a2]
              cbv
              repeat (first | (simp only [h52]; cbv) | simp only [h52] | (simp only [h53]; cbv) | simp only [h53] | (simp only [hb3]; cbv) | simp only [hb3] | (simp only [hb4]; cbv) | simp only [hb4] | (simp only [hb5]; cbv) | simp only [hb5] | (refine ⟨_, dt, ?_⟩; cbv) | (refine ⟨_, df, ?_⟩; cbv))
            · skip
              replace hI2 := hI2 rfl
              clear hbad
              cbv
              simp only [dd]
              cbv
              refine ⟨p3, _, gr, ?_⟩
              cbv
              refine ⟨p0, p5, p4, ?_⟩
              simp only [r0, r3, a2]
              cbv
              repeat (first | (simp only [h52]; cbv) | simp only [h52] | (simp only [h53]; cbv) | simp only [h53] | (simp only [hb3]; cbv) | simp only [hb3] | (simp only [hb4]; cbv) | simp only [hb4] | (simp only [hb5]; cbv) | simp only [hb5] | (refine ⟨_, dt, ?_⟩; cbv) | (refine ⟨_, df, ?_⟩; cbv))
              refine .mk (E.wadd .i64 i 1, sh', k') ⟨rfl, rfl, rfl, rfl, rfl⟩ ?_ ?_
              · exact hI2
              · exact hM2
          · skip
            replace hI2 := hI2 rfl
            clear hbad
            cbv
            simp only [dd]
            cbv
            refine ⟨p3, _, gr, ?_⟩
            cbv
            refine ⟨p0, p5, p4, ?_⟩
            simp only [r0, r3, a2]
            cbv
            repeat (first | (simp only [h52]; cbv) | simp only [h52] | (simp only [h53]; cbv) | simp only [h53] | (simp only [hb3]; cbv) | simp only [hb3] | (simp only [hb4]; cbv) | simp only [hb4] | (simp only [hb5]; cbv) | simp only [hb5] | (refine ⟨_, dt, ?_⟩; cbv) | (refine ⟨_, df, ?_⟩; cbv))
            refine .mk (E.wadd .i64 i 1, sh', k') ⟨rfl, rfl, rfl, rfl, rfl⟩ ?_ ?_
            · exact hI2
            · exact hM2
      · cases b3
        · skip
          obtain rfl := hbad rfl
          clear hI2
          cbv
          simp only [dd]
          cbv
          refine ⟨p3, _, gr, ?_⟩
          cbv
          refine ⟨p0, p5, p4, ?_⟩
          simp only [r0, r3, a2]
          cbv
          repeat (first | (simp only [h52]; cbv) | simp only [h52] | (simp only [h53]; cbv) | simp only [h53] | (simp only [hb3]; cbv) | simp only [hb3] | (simp only [hb4]; cbv) | simp only [hb4] | (simp only [hb5]; cbv) | simp only [hb5] | (refine ⟨_, dt, ?_⟩; cbv) | (refine ⟨_, df, ?_⟩; cbv))
        · cases b53
          · skip
            replace hI2 := hI2 rfl
            clear hbad
            cbv
            simp only [dd]
            cbv
            refine ⟨p3, _, gr, ?_⟩
            cbv
            refine ⟨p0, p5, p4, ?_⟩
            simp only [r0, r3, a2]
            cbv
            repeat (first | (simp only [h52]; cbv) | simp only [h52] | (simp only [h53]; cbv) | simp only [h53] | (simp only [hb3]; cbv) | simp only [hb3] | (simp only [hb4]; cbv) | simp only [hb4] | (simp only [hb5]; cbv) | simp only [hb5] | (refine ⟨_, dt, ?_⟩; cbv) | (refine ⟨_, df, ?_⟩; cbv))
            refine .mk (E.wadd .i64 i 1, sh', k') ⟨rfl, rfl, rfl, rfl, rfl⟩ ?_ ?_
            · exact hI2
            · exact hM2
          · cases b4
            · cases b5
              · skip
                obtain rfl := hbad rfl
                clear hI2
                cbv
                simp only [dd]
                cbv
                refine ⟨p3, _, gr, ?_⟩
                cbv
                refine ⟨p0, p5, p4, ?_⟩
                simp only [r0, r3, a2]
                cbv
                repeat (first | (simp only [h52]; cbv) | simp only [h52] | (simp only [h53]; cbv) | simp only [h53] | (simp only [hb3]; cbv) | simp only [hb3] | (simp only [hb4]; cbv) | simp only [hb4] | (simp only [hb5]; cbv) | simp only [hb5] | (refine ⟨_, dt, ?_⟩; cbv) | (refine ⟨_, df, ?_⟩; cbv))
              · skip
                replace hI2 := hI2 rfl
                clear hbad
                cbv
                simp only [dd]
                cbv
                refine ⟨p3, _, gr, ?_⟩
                cbv
                refine ⟨p0, p5, p4, ?_⟩
                simp only [r0, r3, a2]
                cbv
                repeat (first | (simp only [h52]; cbv) | simp only [h52] | (simp only [h53]; cbv) | simp only [h53] | (simp only [hb3]; cbv) | simp only [hb3] | (simp only [hb4]; cbv) | simp only [hb4] | (simp only [hb5]; cbv) | simp only [hb5] | (refine ⟨_, dt, ?_⟩; cbv) | (refine ⟨_, df, ?_⟩; cbv))
                refine .mk (E.wadd .i64 i 1, sh', k') ⟨rfl, rfl, rfl, rfl, rfl⟩ ?_ ?_
                · exact hI2
                · exact hM2
            · skip
              replace hI2 := hI2 rfl
              clear hbad
              cbv
              simp only [dd]
              cbv
              refine ⟨p3, _, gr, ?_⟩
              cbv
              refine ⟨p0, p5, p4, ?_⟩
              simp only [r0, r3, a2]
              cbv
              repeat (first | (simp only [h52]; cbv) | simp only [h52] | (simp only [h53]; cbv) | simp only [h53] | (simp only [hb3]; cbv) | simp only [hb3] | (simp only [hb4]; cbv) | simp only [hb4] | (simp only [hb5]; cbv) | simp only [hb5] | (refine ⟨_, dt, ?_⟩; cbv) | (refine ⟨_, df, ?_⟩; cbv))
              refine .mk (E.wadd .i64 i 1, sh', k') ⟨rfl, rfl, rfl, rfl, rfl⟩ ?_ ?_
              · exact hI2
              · exact hM2
    · rw [decide_eq_false hi] at dd
      have hin : i = (n : Int) := by omega
      have hall : f.code.all (kindOk f.kind) = true := by
        have h := hs3
        rw [List.take_of_length_le (by omega)] at h
        exact h
      obtain ⟨st0, hst0⟩ := startP_some (n := n) (by omega)
      have hso := start_ok hst0
      have hrun : shR (runP f (3 * n + 3) st0) = r := by
        rw [← hr]
        unfold shapesP
        rw [if_pos hall, hn, hst0]
        rfl
      obtain ⟨o, ho⟩ : ∃ o, runP f (3 * n + 3) st0 = o := ⟨_, rfl⟩
      rw [ho] at hrun
      have rc := hM _ _ _ _ _ (reach_some (f := wfOf f) hst0 (by simp [wfOf, pCode, hn]) (by simp) (Int.le_refl 0))
      have hso1 : st0.sh.length = n := hso.1.len
      have hkn : n = k := by omega
      have hsn : pSh (List.replicate n (-1, 0)) = sh := by rw [hs1]; congr 2; omega
      unfold walkS walkH wfOf at rc
      simp only [List.length_replicate, List.length_nil] at rc
      rw [hCD, hCS, hHD, hnm, hkd, hpa, hlo, hsn, hso1] at rc
      have hy0 : RunI f o (pSh st0.sh, pOp st0.op, st0.op.length, 3 * n + 3) := ⟨st0, rfl, rfl, rfl, by rw [hn]; exact hso.1, by simp only; omega, ho⟩
      generalize hfu : 3 * n + 3 = fu at hy0
      obtain ⟨shr, hshr⟩ : ∃ x, pSh st0.sh = x := ⟨_, rfl⟩
      obtain ⟨opr, hopr⟩ : ∃ x, pOp st0.op = x := ⟨_, rfl⟩
      obtain ⟨m, hm⟩ : ∃ x, st0.op.length = x := ⟨_, rfl⟩
      rw [hshr, hopr, hm] at rc hy0
      subst hkn
      clear hs1 hs2 hs3 hst0 hso hsn hso1 hshr hopr hm ho hall hcg hkx
      cbv
      simp only [dd]
      cbv
      refine .mk _ _ (Wk.refl _ _) [3, 4, 5] _ _ _ _ rc rfl rfl rfl ?_
      cbv
      refine loop_by 73 [2, 3, 4] 6 (fun _ : List (List PV) × List (List PV) × Nat × Nat => [.own 1 0, .own 2 0, .own 3 0])
        (fun y => [some (.box [.p (pS nm), .p (pI kd), .p (pI pa), .p (pI lo), .p (.ro 3 CD), .p (.ro 3 CS), .p (.ro 5 HD)] 50 none), some (.box [.p (.v (.slice none 0 0))] 43 (some t1)), some (.box [.p (pB false)] 4 (some t2)),
          some (.box [.p (pS nm), .p (pI kd), .p (pI pa), .p (pI lo), .p (.ro 3 CD), .p (.ro 3 CS), .p (.ro 5 HD), .osl 4 0 n, .osl 5 0 y.2.2.1] 115 none), some (.rows 2 y.1 52), some (.rows 1 y.2.1 3)])
        (RunI f o) ν (shr, opr, m, fu) ⟨rfl, rfl, rfl, rfl, rfl⟩ hy0 ?_
      clear hy0 rc
      rintro ⟨sh2, op2, m2, fu2⟩ ⟨st, hs1, hs2, hs3, hs4, hs5, hs6⟩
      simp only at hs1 hs2 hs3 hs5 hs6
      replace hn : f.code.length = n := hn
      replace eofn : ∀ n : Nat, E.ofN n = (n : Int) := eofn
      replace elt : ∀ a b : Int, E.lti a b = decide (a < b) := elt
      replace enat : ∀ i : Int, E.nat i = i.toNat := enat
      replace eple : ∀ a b : Int, a ≤ b → E.ple a b := eple
      replace esb : ∀ a b : Int, -1000000 ≤ a → a ≤ 1000000 → -1000000 ≤ b → b ≤ 1000000 → E.wsub .i64 a b = a - b := esb
      have hsn : sh2.length = n := by rw [hs1, ← hn, ← hs4.len]; simp [pSh]
      have hmn : m2 ≤ 65536 := by
        have := hs4.cnt
        have h1 := hf.l1
        omega
      have dd2 : E.lti 0 (E.ofN m2) = decide ((0 : Int) < (m2 : Int)) := by rw [eofn, elt]
      by_cases hm0 : (0 : Int) < (m2 : Int)
      · rw [decide_eq_true hm0] at dd2
        obtain ⟨fu3, rfl⟩ : ∃ q, fu2 = q + 1 := ⟨fu2 - 1, by omega⟩
        have hne : st.op ≠ [] := fun e => by rw [e] at hs3; simp at hs3; omega
        obtain ⟨j, hj⟩ : ∃ j, st.op.getLast? = some j := by
          cases h : st.op.getLast? with
          | none => exact absurd (List.getLast?_eq_none_iff.1 h) hne
          | some j => exact ⟨j, rfl⟩
        obtain ⟨hk1, hk2, hjm⟩ := pop_ok hs4 hj
        obtain ⟨hj0, p, hp, hp0⟩ := hs4.opn j hjm
        have hstep : (visitAt f ⟨st.sh, st.op.dropLast⟩ j).bind (runP f fu3) = o := by
          rw [← hs6]
          conv => rhs; unfold runP
          rw [hj]
        have rc := visit_at f hf ⟨st.sh, st.op.dropLast⟩ hk1 j p hj0 hp hp0
        obtain ⟨L, hL⟩ : ∃ L : Int, (m2 : Int) - 1 = L := ⟨_, rfl⟩
        obtain ⟨m3, hm3⟩ : ∃ x, E.nat L = x := ⟨_, rfl⟩
        have hm3' : m3 = m2 - 1 := by rw [← hm3, enat]; omega
        have hdl : st.op.dropLast.length = m3 := by rw [List.length_dropLast]; omega
        have hrow : op2[E.addN 0 m3]? = some [pI j] := by
          have e : E.addN 0 m3 = m3 := by rw [hE]; exact Nat.zero_add _
          rw [e, hs2]
          unfold pOp
          rw [List.getElem?_map]
          have h1 : st.op[m3]? = some j := by
            rw [List.getLast?_eq_getElem?] at hj
            rw [hm3', hs3]; exact hj
          rw [h1]; rfl
        have htake : op2.take m3 = pOp st.op.dropLast := by
          rw [hs2, List.dropLast_eq_take]
          unfold pOp
          rw [List.map_take]
          congr 1
          omega
        have es : E.wsub .i64 (E.ofN m2) 1 = L := by rw [eofn, esb _ _ (by omega) (by omega) (by omega) (by omega)]; exact hL
        have p6 := eple 0 L (by omega)
        have p7 : E.plt L (E.ofN m2) := by rw [hE]; show L < (m2 : Int); omega
        have p8 : E.ple L (E.ofN m2) := by rw [hE]; show L ≤ (m2 : Int); omega
        unfold walkS walkH wfOf at rc
        simp only at rc
        rw [hCD, hCS, hHD, hnm, hkd, hpa, hlo, hdl, ← htake, ← hs1, show st.sh.length = n by rw [← hn]; exact hs4.len] at rc
        cases hv : visitAt f ⟨st.sh, st.op.dropLast⟩ j with
        | none =>
          rw [hv] at hstep rc
          obtain rfl : r = .tup [.v (.slice none 0 0), pB false] := by rw [← hrun, ← hstep]; rfl
          replace rc := hM _ _ _ _ _ rc
          clear hrun hstep hv hs1 hs2 hs3 hs4 hs5 hs6 hk1 hk2 hp hj htake
          cbv
          simp only [dd2]
          cbv
          repeat (first | (simp only [es]; cbv) | simp only [es] | (refine ⟨p6,p7, ?_⟩; cbv) | (simp only [hm3]; cbv) | simp only [hm3] | (refine ⟨_,hrow, ?_⟩; cbv) | (refine ⟨p6,p8, ?_⟩; cbv))
          refine .mk _ _ (wk_take m3 (k := 5) rfl) [3, 4, 5] _ _ _ _ rc rfl rfl rfl ?_
          cbv
        | some st2 =>
          rw [hv] at hstep rc
          have hok := visitAt_ok hf hk1 hj0 hv
          have hok1 := hok.1.len
          unfold resH walkS walkH at rc
          simp only at rc
          rw [show st2.sh.length = n by rw [← hn]; exact hok1] at rc
          replace rc := hM _ _ _ _ _ rc
          have hI2 : RunI f o (pSh st2.sh, pOp st2.op, st2.op.length, fu3) := ⟨st2, rfl, rfl, rfl, hok.1, by simp only; omega, hstep⟩
          obtain ⟨sh4, hsh4⟩ : ∃ x, pSh st2.sh = x := ⟨_, rfl⟩
          obtain ⟨op4, hop4⟩ : ∃ x, pOp st2.op = x := ⟨_, rfl⟩
          obtain ⟨m4, hm4⟩ : ∃ x, st2.op.length = x := ⟨_, rfl⟩
          rw [hsh4, hop4, hm4] at rc hI2
          have hN : ν (sh4, op4, m4, fu3) < ν (sh2, op2, m2, fu3 + 1) := by rw [hν, hν]; simp only; omega
          clear hrun hstep hv hs1 hs2 hs3 hs4 hs5 hs6 hk1 hk2 hp hj htake hok hok1
          cbv
          simp only [dd2]
          cbv
          repeat (first | (simp only [es]; cbv) | simp only [es] | (refine ⟨p6,p7, ?_⟩; cbv) | (simp only [hm3]; cbv) | simp only [hm3] | (refine ⟨_,hrow, ?_⟩; cbv) | (refine ⟨p6,p8, ?_⟩; cbv))
          refine .mk _ _ (wk_take m3 (k := 5) rfl) [3, 4, 5] _ _ _ _ rc rfl rfl rfl ?_
          cbv
          refine .mk (sh4, op4, m4, fu3) ⟨rfl, rfl, rfl, rfl, rfl⟩ ?_ ?_
          · exact hI2
          · exact hN
      · rw [decide_eq_false hm0] at dd2
        have hop : st.op = [] := List.length_eq_zero_iff.1 (by omega)
        have ho2 : o = some st.sh := by
          obtain ⟨q, rfl⟩ : ∃ q, fu2 = q + 1 := ⟨fu2 - 1, by omega⟩
          rw [← hs6]
          unfold runP
          rw [hop]
          rfl
        obtain rfl : r = .tup [.ro 2 sh2, pB true] := by rw [← hrun, ho2, hs1]; rfl
        have p1 : E.pre 0 n sh2 := by rw [hE]; show 0 + n ≤ sh2.length; omega
        have r1 : E.sub sh2 0 n = sh2 := by rw [hE]; show (sh2.drop 0).take n = sh2; rw [List.drop_zero, ← hsn, List.take_length]
        clear hrun ho2 hs1 hs2 hs3 hs4 hs5 hs6 hop
        cbv
        simp only [dd2]
        cbv
        refine ⟨p1, ?_⟩
        simp only [r1]
end Go.Proofs.YtlffpgjkhehdmaaDoor
