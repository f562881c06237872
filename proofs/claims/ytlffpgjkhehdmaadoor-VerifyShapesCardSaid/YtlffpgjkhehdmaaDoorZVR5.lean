/- Own work: the reference of layer 29: Shapes and Safe answer as verify's shapes. -/
import Derived.Test.YtlffpgjkhehdmaaDoorZVR3A
import Derived.Test.YtlffpgjkhehdmaaDoorZVR3B
import Derived.Test.YtlffpgjkhehdmaaDoorZVR4
namespace Go.Proofs.YtlffpgjkhehdmaaDoor
open Go.RowKit
set_option maxRecDepth 100000
set_option linter.unusedSimpArgs false

def pBl (l : List Bool) : List (List PV) := l.map fun b => [pB b]
theorem pBl_get {l : List Bool} {i : Nat} {b : Bool} (h : l[i]? = some b) : (pBl l)[i]? = some [pB b] := by
  unfold pBl; rw [List.getElem?_map, h]; rfl
theorem pBl_set (l : List Bool) (i : Nat) : (pBl l).set i [pB true] = pBl (l.set i true) := by unfold pBl; rw [List.map_set]
/-- spread, for an instruction that has been reached: it goes on -/
theorem spread_at1 (f : Fn) (hf : FnV f) (hfs : ∀ h ∈ f.hdls.map hdOf, 0 ≤ h.sc) (l : List Shp) (dn : List Bool) (h : RI f l dn) (n : Nat) (hn : f.code.length = n) (i : Int) (hi : 0 ≤ i) (p : Shp) (hp : l[i.toNat]? = some p) (hp0 : 0 ≤ p.1) (x : Ins) (hx : f.code[i.toNat]? = some x) (st' : WS2) (ho : spreadP (f.hdls.map hdOf) i x.op x.a p.1 p.2 ⟨l, []⟩ = some st') :
    RetK Tryd.prog G0 47 [.agg [.p (pS f.name), .p (pI f.kind), .p (pI f.params), .p (pI f.locals), .p (.ro 3 (pCode f.code)), .p (.ro 3 (pCons f.consts)), .p (.ro 5 (pHdls f.hdls))], .osl 0 0 n, .p (pI i)] [shB (pSh l)] (.p (pB true)) [shB (pSh st'.sh)] (fun k => [((1 : Nat), (0 : Nat), n)].any fun x => x.2.1 == k) := by
  have hb := (h.shp p (List.mem_of_getElem? hp)).resolve_left (by omega)
  have hc := hf.code x (List.mem_of_getElem? hx)
  obtain ⟨d, s⟩ := p
  obtain ⟨op, a, b⟩ := x
  have hg : gfail (takesP op a) d (decide (operandOf op = 7)) (decide (op = 40)) = false := by
    cases hg : gfail (takesP op a) d (decide (operandOf op = 7)) (decide (op = 40)) with
    | false => rfl
    | true =>
      have hv : spreadP (f.hdls.map hdOf) i op a d s ⟨l, []⟩ = none := if_neg fun h => by
        rw [(gfail_iff _ _ _ _).2 h] at hg
        cases hg
      rw [hv] at ho
      cases ho
  have key := spread_fin f hf hfs ⟨l, []⟩ n (by rw [← hn]; exact h.len) hn i hi op a b d s hx hp hc.1.1 hc.1.2 hc.2.1 hc.2.2 hb.1.1 hb.1.2 hb.2.1 hb.2.2 hg st' ho
  refine key.args rfl fun j a a' h1 h2 => ?_
  match j, h1, h2 with
  | 0, h1, h2 => cases h1; cases h2; exact .inr ⟨_, rfl, rfl⟩
  | 1, h1, h2 => cases h1; cases h2; exact .inl rfl
  | 2, h1, h2 => cases h1; cases h2; exact .inl rfl
  | j + 3, h1, h2 => simp at h1
/-- the same: it fails -/
theorem spread_at0 (f : Fn) (hf : FnV f) (hfs : ∀ h ∈ f.hdls.map hdOf, 0 ≤ h.sc) (l : List Shp) (dn : List Bool) (h : RI f l dn) (n : Nat) (hn : f.code.length = n) (i : Int) (hi : 0 ≤ i) (p : Shp) (hp : l[i.toNat]? = some p) (hp0 : 0 ≤ p.1) (x : Ins) (hx : f.code[i.toNat]? = some x) (ho : spreadP (f.hdls.map hdOf) i x.op x.a p.1 p.2 ⟨l, []⟩ = none) :
    VM 47 [.agg [.p (pS f.name), .p (pI f.kind), .p (pI f.params), .p (pI f.locals), .p (.ro 3 (pCode f.code)), .p (.ro 3 (pCons f.consts)), .p (.ro 5 (pHdls f.hdls))], .osl 0 0 n, .p (pI i)] [shB (pSh l)] (.p (pB false)) [none] := by
  have hb := (h.shp p (List.mem_of_getElem? hp)).resolve_left (by omega)
  have hc := hf.code x (List.mem_of_getElem? hx)
  obtain ⟨d, s⟩ := p
  obtain ⟨op, a, b⟩ := x
  have hil : i.toNat < n := by have := (List.getElem?_eq_some_iff.1 hx).1; omega
  have key : VM 47 [.p (.agg (pFn f)), .osl 0 0 n, .p (pI i)] [shB (pSh l)] (.p (pB false)) [none] := by
    cases hg : gfail (takesP op a) d (decide (operandOf op = 7)) (decide (op = 40)) with
    | false => exact spread_die f hf hfs ⟨l, []⟩ n (by rw [← hn]; exact h.len) hn i hi op a b d s hx hp hc.1.1 hc.1.2 hc.2.1 hc.2.2 hb.1.1 hb.1.2 hb.2.1 hb.2.2 hg ho
    | true => exact spread_stop f (pSh l) n i op a b d s hi (by omega) hx (pSh_get hp) hc.1.1 hc.1.2 hc.2.1 hc.2.2 hb.1.1 hb.1.2 hg
  refine key.args rfl fun j a a' h1 h2 => ?_
  match j, h1, h2 with
  | 0, h1, h2 => cases h1; cases h2; exact .inr ⟨_, rfl, rfl⟩
  | 1, h1, h2 => cases h1; cases h2; exact .inl rfl
  | 2, h1, h2 => cases h1; cases h2; exact .inl rfl
  | j + 3, h1, h2 => simp at h1
/-- at the head of the loop that lays the shapes -/
structure LayR (f : Fn) (y : Int × List (List PV) × List (List PV) × Nat) : Prop where
  i0 : 0 ≤ y.1
  i1 : y.1 ≤ f.code.length
  sh : y.2.1 = pSh (List.replicate y.1.toNat (-1, 0))
  dn : y.2.2.1 = pBl (List.replicate y.1.toNat false)
  n : y.2.2.2 = y.1.toNat
  ok : (f.code.take y.1.toNat).all (kindOk f.kind) = true
structure LaidR (f : Fn) (y : List (List PV) × List (List PV)) : Prop where
  sh : y.1 = pSh (List.replicate f.code.length (-1, 0))
  dn : y.2 = pBl (List.replicate f.code.length false)
  ok : f.code.all (kindOk f.kind) = true
/-- at the head of the loop while something changes -/
structure OutI (f : Fn) (y : List (List PV) × List (List PV) × Bool × Nat) : Prop where
  st : ∃ (l : List Shp) (dl : List Bool), y.1 = pSh l ∧ y.2.1 = pBl dl ∧ RI f l dl ∧ (y.2.2.1 = false → ∀ (k : Nat) p, l[k]? = some p → 0 ≤ p.1 → dl[k]? = some true) ∧ y.2.2.2 = 2 * undone dl + (if y.2.2.1 then 1 else 0)
/-- at the head of the loop over the instructions -/
structure InI (f : Fn) (c0 : Nat) (y : Int × List (List PV) × List (List PV) × Bool) : Prop where
  j0 : 0 ≤ y.1
  j1 : y.1 ≤ f.code.length
  st : ∃ (l : List Shp) (dl : List Bool), y.2.1 = pSh l ∧ y.2.2.1 = pBl dl ∧ RI f l dl ∧ (y.2.2.2 = true → undone dl < c0) ∧ (y.2.2.2 = false → undone dl ≤ c0 ∧ ∀ (k : Nat) p, (k : Int) < y.1 → l[k]? = some p → 0 ≤ p.1 → dl[k]? = some true)
set_option maxHeartbeats 4000000 in
theorem rshapes_ret (f : Fn) (hf : FnV f) (hfs : ∀ h ∈ f.hdls.map hdOf, 0 ≤ h.sc) : V0 32 [.agg (pFn f)] (shR (shapesP f)) := by
  obtain ⟨r, hr⟩ : ∃ r, shR (shapesP f) = r := ⟨_, rfl⟩
  rw [hr]
  obtain ⟨μ, hμ⟩ : ∃ μ : Int → Nat, ∀ y, μ y = 70000 - y.toNat := ⟨_, fun _ => rfl⟩
  obtain ⟨ν, hν⟩ : ∃ ν : Nat → Nat, ∀ y, ν y = y := ⟨_, fun _ => rfl⟩
  have hcl : (pCode f.code).length = f.code.length := by simp [pCode]
  have hcg : ∀ (k : Nat) x, f.code[k]? = some x → (pCode f.code)[k]? = some [pI x.op, pI x.a, pI x.b] := fun k x h => pCode_get h
  obtain ⟨n, hn⟩ : ∃ x, f.code.length = x := ⟨_, rfl⟩
  have hsp := fun l dn h i hi p hp hp0 x hx st' ho => spread_at1 f hf hfs l dn h n hn i hi p hp hp0 x hx st' ho
  have hsq := fun l dn h i hi p hp hp0 x hx ho => spread_at0 f hf hfs l dn h n hn i hi p hp hp0 x hx ho
  unfold pFn
  obtain ⟨CD, hCD⟩ : ∃ x, pCode f.code = x := ⟨_, rfl⟩
  obtain ⟨CS, hCS⟩ : ∃ x, pCons f.consts = x := ⟨_, rfl⟩
  obtain ⟨HD, hHD⟩ : ∃ x, pHdls f.hdls = x := ⟨_, rfl⟩
  obtain ⟨nm, hnm⟩ : ∃ x, f.name = x := ⟨_, rfl⟩
  obtain ⟨kd, hkd⟩ : ∃ x, f.kind = x := ⟨_, rfl⟩
  obtain ⟨pa, hpa⟩ : ∃ x, f.params = x := ⟨_, rfl⟩
  obtain ⟨lo, hlo⟩ : ∃ x, f.locals = x := ⟨_, rfl⟩
  have hl1 := hf.l1
  have hl0 := hf.l0
  rw [hCD, hn] at hcl
  rw [hCD] at hcg
  rw [hCD, hCS, hHD, hnm, hkd, hpa, hlo] at hsp hsq ⊢
  clear hCS hHD hnm hpa hlo
  refine ret_cut tyT_ok g0_gr (f := 32) Tryd.func32 rfl (by kernel_rfl) (of_decide_eq_true (by kernel_rfl)) ?_
  refine Seg.cutK 4 82 [1, 4, 5] 3 (fun _ : List (List PV) × List (List PV) => [.own 0 0, .osl 1 0 n, .osl 2 0 n]) (fun y => [some (.box [.p (pS nm), .p (pI kd), .p (pI pa), .p (pI lo), .p (.ro 3 CD), .p (.ro 3 CS), .p (.ro 5 HD)] 50 none), shB y.1, some (.rows 1 y.2 4)]) (LaidR f) tyT_ok mixed (fun _ => 0) (fun E => retQ E tyT Tryd.f32.results.toList r) (by kernel_rfl) ?_ ?_
  · intro P G E hc hM hE
    clear hsp hsq hM hc
    have elt : ∀ a b, E.lti a b = decide (a < b) := fun a b => by rw [hE]; rfl
    have eofn : ∀ n, E.ofN n = (n : Int) := fun n => by rw [hE]; rfl
    have enat : ∀ i, E.nat i = i.toNat := fun i => by rw [hE]; rfl
    have eple : ∀ a b, a ≤ b → E.ple a b := fun a b h => by rw [hE]; exact h
    have eadd : ∀ a b : Int, -1000000 ≤ a → a ≤ 1000000 → -1000000 ≤ b → b ≤ 1000000 → E.wadd .i64 a b = a + b := fun a b h0 h1 h2 h3 => by rw [hE]; exact wrap_i64_in (by omega) (by omega)
    obtain ⟨b3, hb3⟩ : ∃ b, decide (kd = 3) = b := ⟨_, rfl⟩
    obtain ⟨b4, hb4⟩ : ∃ b, decide (kd = 4) = b := ⟨_, rfl⟩
    obtain ⟨b5, hb5⟩ : ∃ b, decide (kd = 5) = b := ⟨_, rfl⟩
    have hkx : ∀ x : Ins, kindOk kd x = ((!decide (x.op = 52) || b3) && (!decide (x.op = 53) || (b4 || b5))) := fun x => by rw [← hb3, ← hb4, ← hb5]; rfl
    have hx0 : LayR f (0, [], [], 0) := ⟨Int.le_refl _, Int.natCast_nonneg _, rfl, rfl, rfl, rfl⟩
    cbv at hcl
    cbv
    refine LoopA.wk (wk_nilS (d := 4) 2 52 rfl) ?_
    refine LoopA.wk (wk_nilS (d := 5) 1 4 rfl) ?_
    refine loop_by 82 [1, 4, 5, 6] 3 (fun y : Int × List (List PV) × List (List PV) × Nat => [.own 0 0, .osl 1 0 y.2.2.2, .osl 2 0 y.2.2.2, .p (pI y.1)])
      (fun y => [some (.box [.p (pS nm), .p (pI kd), .p (pI pa), .p (pI lo), .p (.ro 3 CD), .p (.ro 3 CS), .p (.ro 5 HD)] 50 none), shB y.2.1, some (.rows 1 y.2.2.1 4)]) (LayR f) (fun y => μ y.1) (0, [], [], 0) ⟨rfl, rfl, rfl, rfl, rfl⟩ hx0 ?_
    clear hx0
    rintro ⟨i, sh, dn, k⟩ hI
    obtain ⟨i0, i1, hs1, hs4, hs2, hs3⟩ := hI
    simp only at i0 i1 hs1 hs2 hs3 hs4
    replace hn : f.code.length = n := hn
    replace hl1 : f.code.length ≤ 65536 := hl1
    replace hl0 : 1 ≤ f.code.length := hl0
    have dd : E.lti i (E.ofN n) = decide (i < (n : Int)) := by rw [eofn, elt]
    by_cases hi : i < (n : Int)
    · rw [decide_eq_true hi] at dd
      obtain ⟨x, hx⟩ : ∃ x, f.code[i.toNat]? = some x := ⟨_, List.getElem?_eq_getElem (by omega)⟩
      have gr := hcg _ _ hx
      rw [← enat] at gr
      have hkx2 := hkx x
      have htk : (f.code.take (i.toNat + 1)).all (kindOk kd) = kindOk kd x := by
        rw [List.take_add_one, hx, List.all_append, ← hkd, hs3]
        simp
      obtain ⟨op, a, b⟩ := x
      simp only at gr hkx2
      have p3 := eple 0 i i0
      have ei := eadd i 1 (by omega) (by omega) (by omega) (by omega)
      have hM2 : μ (E.wadd .i64 i 1) < μ i := by rw [hμ, hμ]; simp only [ei]; omega
      have hkl : sh.length = k := by rw [hs1, hs2]; simp [pSh]
      have hkl2 : dn.length = k := by rw [hs4, hs2]; simp [pBl]
      have e1 : (i + 1).toNat = k + 1 := by omega
      have e2 : pSh (List.replicate (i + 1).toNat (-1, 0)) = sh ++ [[pI (-1), pI 0]] := by
        rw [hs1, e1, hs2]
        unfold pSh
        rw [List.map_replicate, List.map_replicate, List.replicate_succ']
      have e3 : pBl (List.replicate (i + 1).toNat false) = dn ++ [[pB false]] := by
        rw [hs4, e1, hs2]
        unfold pBl
        rw [List.map_replicate, List.map_replicate, List.replicate_succ']
      obtain ⟨sh', hsh'⟩ : ∃ x, sh ++ [[pI (-1), pI 0]] = x := ⟨_, rfl⟩
      obtain ⟨dn', hdn'⟩ : ∃ x, dn ++ [[pB false]] = x := ⟨_, rfl⟩
      obtain ⟨k', hk'⟩ : ∃ x, k + 1 = x := ⟨_, rfl⟩
      have a2 : E.addN k 1 = k' := by rw [hE]; exact hk'
      have p5 : E.pre 0 k sh := by rw [hE]; show 0 + k ≤ sh.length; omega
      have p4 : E.room k 1 16 := by rw [hE]; exact ⟨by unfold maxLen; omega, by omega⟩
      have r0 : E.sub [[pI (-1), pI 0]] 0 1 = [[pI (-1), pI 0]] := by rw [hE]; rfl
      have p0 : E.pre 0 1 [[pI (-1), pI 0]] := by rw [hE]; show 0 + 1 ≤ 1; omega
      have r3 : E.app sh k [[pI (-1), pI 0]] = sh' := by rw [hE]; show sh.take k ++ _ = _; rw [← hkl, List.take_length]; exact hsh'
      have q5 : E.pre 0 k dn := by rw [hE]; show 0 + k ≤ dn.length; omega
      have q4 : E.room k 1 1 := by rw [hE]; exact ⟨by unfold maxLen; omega, by omega⟩
      have s0 : E.sub [[pB false]] 0 1 = [[pB false]] := by rw [hE]; rfl
      have q0 : E.pre 0 1 [[pB false]] := by rw [hE]; show 0 + 1 ≤ 1; omega
      have s3 : E.app dn k [[pB false]] = dn' := by rw [hE]; show dn.take k ++ _ = _; rw [← hkl2, List.take_length]; exact hdn'
      have hI2 : kindOk kd ⟨op, a, b⟩ = true → LayR f (E.wadd .i64 i 1, sh', dn', k') := fun h => by
        refine ⟨by simp only [ei]; omega, by simp only [ei]; omega, ?_, ?_, ?_, ?_⟩
        · simp only [ei]; rw [e2]; exact hsh'.symm
        · simp only [ei]; rw [e3]; exact hdn'.symm
        · simp only [ei]; omega
        · simp only [ei]
          rw [show (i + 1).toNat = i.toNat + 1 by omega, hkd, htk]
          exact h
      have hbad : kindOk kd ⟨op, a, b⟩ = false → r = .tup [.v (.slice none 0 0), pB false] := fun h => by
        rw [← hr]
        unfold shapesP
        rw [if_neg]
        · rfl
        · intro hall
          have := List.all_eq_true.1 hall _ (List.mem_of_getElem? hx)
          rw [hkd, h] at this
          cases this
      rw [hkx2] at hI2 hbad
      obtain ⟨b52, h52⟩ : ∃ b, decide (op = 52) = b := ⟨_, rfl⟩
      obtain ⟨b53, h53⟩ : ∃ b, decide (op = 53) = b := ⟨_, rfl⟩
      rw [h52, h53] at hI2 hbad
      clear hkx2 htk hx hs3 hkx hcg hsh' hs1 hs2 e2 hkl hs4 e3 hkl2 hdn'
      cases b52
      · cases b53
        · skip
          replace hI2 := hI2 rfl
          clear hbad
          cbv
          repeat (first | (simp only [hcl]; cbv) | simp only [hcl] | (simp only [dd]; cbv) | simp only [dd] | (refine ⟨p0,p5,p4, ?_⟩; cbv) | (simp only [r0,r3,a2]; cbv) | simp only [r0,r3,a2] | (refine ⟨q0,q5,q4, ?_⟩; cbv) | (simp only [s0,s3,a2]; cbv) | simp only [s0,s3,a2] | (refine ⟨p3,_,gr, ?_⟩; cbv) | (simp only [h52]; cbv) | simp only [h52] | (simp only [h53]; cbv) | simp only [h53] | (simp only [hb3]; cbv) | simp only [hb3] | (simp only [hb4]; cbv) | simp only [hb4] | (simp only [hb5]; cbv) | simp only [hb5])
          refine .mk (E.wadd .i64 i 1, sh', dn', k') ⟨rfl, rfl, rfl, rfl, rfl⟩ ?_ ?_
          · exact hI2
          · exact hM2
        · cases b4
          · cases b5
            · skip
              obtain rfl := hbad rfl
              clear hI2
              cbv
              repeat (first | (simp only [hcl]; cbv) | simp only [hcl] | (simp only [dd]; cbv) | simp only [dd] | (refine ⟨p0,p5,p4, ?_⟩; cbv) | (simp only [r0,r3,a2]; cbv) | simp only [r0,r3,a2] | (refine ⟨q0,q5,q4, ?_⟩; cbv) | (simp only [s0,s3,a2]; cbv) | simp only [s0,s3,a2] | (refine ⟨p3,_,gr, ?_⟩; cbv) | (simp only [h52]; cbv) | simp only [h52] | (simp only [h53]; cbv) | simp only [h53] | (simp only [hb3]; cbv) | simp only [hb3] | (simp only [hb4]; cbv) | simp only [hb4] | (simp only [hb5]; cbv) | simp only [hb5])
              all_goals trivial
            · skip
              replace hI2 := hI2 rfl
              clear hbad
              cbv
              repeat (first | (simp only [hcl]; cbv) | simp only [hcl] | (simp only [dd]; cbv) | simp only [dd] | (refine ⟨p0,p5,p4, ?_⟩; cbv) | (simp only [r0,r3,a2]; cbv) | simp only [r0,r3,a2] | (refine ⟨q0,q5,q4, ?_⟩; cbv) | (simp only [s0,s3,a2]; cbv) | simp only [s0,s3,a2] | (refine ⟨p3,_,gr, ?_⟩; cbv) | (simp only [h52]; cbv) | simp only [h52] | (simp only [h53]; cbv) | simp only [h53] | (simp only [hb3]; cbv) | simp only [hb3] | (simp only [hb4]; cbv) | simp only [hb4] | (simp only [hb5]; cbv) | simp only [hb5])
              refine .mk (E.wadd .i64 i 1, sh', dn', k') ⟨rfl, rfl, rfl, rfl, rfl⟩ ?_ ?_
              · exact hI2
              · exact hM2
          · skip
            replace hI2 := hI2 rfl
            clear hbad
            cbv
            repeat (first | (simp only [hcl]; cbv) | simp only [hcl] | (simp only [dd]; cbv) | simp only [dd] | (refine ⟨p0,p5,p4, ?_⟩; cbv) | (simp only [r0,r3,a2]; cbv) | simp only [r0,r3,a2] | (refine ⟨q0,q5,q4, ?_⟩; cbv) | (simp only [s0,s3,a2]; cbv) | simp only [s0,s3,a2] | (refine ⟨p3,_,gr, ?_⟩; cbv) | (simp only [h52]; cbv) | simp only [h52] | (simp only [h53]; cbv) | simp only [h53] | (simp only [hb3]; cbv) | simp only [hb3] | (simp only [hb4]; cbv) | simp only [hb4] | (simp only [hb5]; cbv) | simp only [hb5])
            refine .mk (E.wadd .i64 i 1, sh', dn', k') ⟨rfl, rfl, rfl, rfl, rfl⟩ ?_ ?_
            · exact hI2
            · exact hM2
      · cases b3
        · skip
          obtain rfl := hbad rfl
          clear hI2
          cbv
          repeat (first | (simp only [hcl]; cbv) | simp only [hcl] | (simp only [dd]; cbv) | simp only [dd] | (refine ⟨p0,p5,p4, ?_⟩; cbv) | (simp only [r0,r3,a2]; cbv) | simp only [r0,r3,a2] | (refine ⟨q0,q5,q4, ?_⟩; cbv) | (simp only [s0,s3,a2]; cbv) | simp only [s0,s3,a2] | (refine ⟨p3,_,gr, ?_⟩; cbv) | (simp only [h52]; cbv) | simp only [h52] | (simp only [h53]; cbv) | simp only [h53] | (simp only [hb3]; cbv) | simp only [hb3] | (simp only [hb4]; cbv) | simp only [hb4] | (simp only [hb5]; cbv) | simp only [hb5])
          all_goals trivial
        · cases b53
          · skip
            replace hI2 := hI2 rfl
            clear hbad
            cbv
            repeat (first | (simp only [hcl]; cbv) | simp only [hcl] | (simp only [dd]; cbv) | simp only [dd] | (refine ⟨p0,p5,p4, ?_⟩; cbv) | (simp only [r0,r3,a2]; cbv) | simp only [r0,r3,a2] | (refine ⟨q0,q5,q4, ?_⟩; cbv) | (simp only [s0,s3,a2]; cbv) | simp only [s0,s3,a2] | (refine ⟨p3,_,gr, ?_⟩; cbv) | (simp only [h52]; cbv) | simp only [h52] | (simp only [h53]; cbv) | simp only [h53] | (simp only [hb3]; cbv) | simp only [hb3] | (simp only [hb4]; cbv) | simp only [hb4] | (simp only [hb5]; cbv) | simp only [hb5])
            refine .mk (E.wadd .i64 i 1, sh', dn', k') ⟨rfl, rfl, rfl, rfl, rfl⟩ ?_ ?_
            · exact hI2
            · exact hM2
          · cases b4
            · cases b5
              · skip
                obtain rfl := hbad rfl
                clear hI2
                cbv
                repeat (first | (simp only [hcl]; cbv) | simp only [hcl] | (simp only [dd]; cbv) | simp only [dd] | (refine ⟨p0,p5,p4, ?_⟩; cbv) | (simp only [r0,r3,a2]; cbv) | simp only [r0,r3,a2] | (refine ⟨q0,q5,q4, ?_⟩; cbv) | (simp only [s0,s3,a2]; cbv) | simp only [s0,s3,a2] | (refine ⟨p3,_,gr, ?_⟩; cbv) | (simp only [h52]; cbv) | simp only [h52] | (simp only [h53]; cbv) | simp only [h53] | (simp only [hb3]; cbv) | simp only [hb3] | (simp only [hb4]; cbv) | simp only [hb4] | (simp only [hb5]; cbv) | simp only [hb5])
                all_goals trivial
              · skip
                replace hI2 := hI2 rfl
                clear hbad
                cbv
                repeat (first | (simp only [hcl]; cbv) | simp only [hcl] | (simp only [dd]; cbv) | simp only [dd] | (refine ⟨p0,p5,p4, ?_⟩; cbv) | (simp only [r0,r3,a2]; cbv) | simp only [r0,r3,a2] | (refine ⟨q0,q5,q4, ?_⟩; cbv) | (simp only [s0,s3,a2]; cbv) | simp only [s0,s3,a2] | (refine ⟨p3,_,gr, ?_⟩; cbv) | (simp only [h52]; cbv) | simp only [h52] | (simp only [h53]; cbv) | simp only [h53] | (simp only [hb3]; cbv) | simp only [hb3] | (simp only [hb4]; cbv) | simp only [hb4] | (simp only [hb5]; cbv) | simp only [hb5])
                refine .mk (E.wadd .i64 i 1, sh', dn', k') ⟨rfl, rfl, rfl, rfl, rfl⟩ ?_ ?_
                · exact hI2
                · exact hM2
            · skip
              replace hI2 := hI2 rfl
              clear hbad
              cbv
              repeat (first | (simp only [hcl]; cbv) | simp only [hcl] | (simp only [dd]; cbv) | simp only [dd] | (refine ⟨p0,p5,p4, ?_⟩; cbv) | (simp only [r0,r3,a2]; cbv) | simp only [r0,r3,a2] | (refine ⟨q0,q5,q4, ?_⟩; cbv) | (simp only [s0,s3,a2]; cbv) | simp only [s0,s3,a2] | (refine ⟨p3,_,gr, ?_⟩; cbv) | (simp only [h52]; cbv) | simp only [h52] | (simp only [h53]; cbv) | simp only [h53] | (simp only [hb3]; cbv) | simp only [hb3] | (simp only [hb4]; cbv) | simp only [hb4] | (simp only [hb5]; cbv) | simp only [hb5])
              refine .mk (E.wadd .i64 i 1, sh', dn', k') ⟨rfl, rfl, rfl, rfl, rfl⟩ ?_ ?_
              · exact hI2
              · exact hM2
    · rw [decide_eq_false hi] at dd
      have hin : i = (n : Int) := by omega
      have hall : f.code.all (kindOk f.kind) = true := by
        have h := hs3
        rw [List.take_of_length_le (by omega)] at h
        exact h
      have hkn : n = k := by omega
      have hI3 : LaidR f (sh, dn) := ⟨by simp only; rw [hs1, hn, hin]; congr 2, by simp only; rw [hs4, hn, hin]; congr 2, hall⟩
      clear hs1 hs2 hs3 hs4 hall hcg hkx
      subst hkn
      cbv
      repeat (first | (simp only [hcl]; cbv) | simp only [hcl] | (simp only [dd]; cbv) | simp only [dd])
      exact .mk (sh, dn) ⟨rfl, rfl, rfl, rfl, rfl⟩ hI3
  · intro y hy
    obtain ⟨sh, dn⟩ := y
    have hs1 := hy.sh
    have hs2 := hy.dn
    have hall := hy.ok
    simp only at hs1 hs2
    have hst := RI.start hf
    rw [hn] at hs1 hs2 hst
    have h1n : 1 ≤ n := by omega
    clear hy hcl hCD
    obtain ⟨sh0, hsh0⟩ : ∃ x, sh.set 0 [pI 0, pI 0] = x := ⟨_, rfl⟩
    have hsh1 : sh0 = pSh ((List.replicate n ((-1 : Int), (0 : Int))).set 0 (0, 0)) := by
      rw [← hsh0, hs1]
      unfold pSh
      rw [List.map_set]
    obtain ⟨m0, hm0⟩ : ∃ x, 2 * undone (List.replicate n false) + 1 = x := ⟨_, rfl⟩
    have hx0 : OutI f (sh0, dn, true, m0) := ⟨_, _, hsh1, hs2, hst, (fun h => by cases h), hm0.symm⟩
    have hlen : sh.length = n := by rw [hs1]; simp [pSh]
    refine Seg.ofK tyT_ok mixed (fun _ => 0) (by kernel_rfl) (fun E => retQ E tyT Tryd.f32.results.toList r) fun P G E hc hM hK hE => ?_
    have elt : ∀ a b, E.lti a b = decide (a < b) := fun a b => by rw [hE]; rfl
    have eofn : ∀ n, E.ofN n = (n : Int) := fun n => by rw [hE]; rfl
    have enat : ∀ i, E.nat i = i.toNat := fun i => by rw [hE]; rfl
    have eple : ∀ a b, a ≤ b → E.ple a b := fun a b h => by rw [hE]; exact h
    have eadd : ∀ a b : Int, -1000000 ≤ a → a ≤ 1000000 → -1000000 ≤ b → b ≤ 1000000 → E.wadd .i64 a b = a + b := fun a b h0 h1 h2 h3 => by rw [hE]; exact wrap_i64_in (by omega) (by omega)
    have eplt : ∀ a : Int, a < (n : Int) → E.plt a (E.ofN n) := fun a h => by rw [hE]; exact h
    have ea0 : ∀ a : Int, E.addN 0 (E.nat a) = a.toNat := fun a => by rw [hE]; exact Nat.zero_add _
    have eput : ∀ (r : List (List PV)) k x, E.put r k x = r.set k x := fun r k x => by rw [hE]; rfl
    have epre : ∀ r : List (List PV), r.length = n → E.pre 0 n r := fun r h => by rw [hE]; show 0 + n ≤ r.length; omega
    have esub : ∀ r : List (List PV), r.length = n → E.sub r 0 n = r := fun r h => by rw [hE]; show (r.drop 0).take n = r; rw [List.drop_zero, ← h, List.take_length]
    have z1 := eple 0 0 (Int.le_refl 0)
    have z2 := eplt 0 (by omega)
    have r0 : sh[E.addN 0 (E.nat 0)]? = some [pI (-1), pI 0] := by
      rw [ea0, hs1]
      refine pSh_get (p := (-1, 0)) ?_
      rw [List.getElem?_replicate, if_pos (by show 0 < n; omega)]
    have r1 : E.put sh (E.addN 0 (E.nat 0)) [pI 0, pI 0] = sh0 := by rw [ea0, eput]; exact hsh0
    clear hst hs1 hs2 hsh0 hsh1 hm0
    cbv
    repeat (first | (refine ⟨z1,z2, ?_⟩; cbv) | (refine ⟨_,r0, ?_⟩; cbv) | (simp only [r1]; cbv) | simp only [r1])
    refine loop_by 82 [1, 4, 5, 8] 3 (fun y : List (List PV) × List (List PV) × Bool × Nat => [.own 0 0, .osl 1 0 n, .osl 2 0 n, .p (pB y.2.2.1)]) (fun y => [some (.box [.p (pS nm), .p (pI kd), .p (pI pa), .p (pI lo), .p (.ro 3 CD), .p (.ro 3 CS), .p (.ro 5 HD)] 50 none), shB y.1, some (.rows 1 y.2.1 4)]) (OutI f) (fun y => ν y.2.2.2) (sh0, dn, true, m0) ⟨rfl, rfl, rfl, rfl, rfl⟩ hx0 ?_
    clear hx0 hlen r1 z1 z2
    rintro ⟨sh1, dn1, ch, m⟩ ⟨l, dl, hs1, hs2, hri, hch, hm⟩
    simp only at hs1 hs2 hch hm
    replace hn : f.code.length = n := hn
    replace hl1 : f.code.length ≤ 65536 := hl1
    have hn1 : sh1.length = n := by rw [hs1, ← hn, ← hri.len]; simp [pSh]
    cases ch
    · have hfin := hri.fin hf (hch rfl) hall
      obtain rfl : r = .tup [.ro 2 sh1, pB true] := by rw [← hr, hfin, hs1]; rfl
      have p1 := epre sh1 hn1
      have r1 := esub sh1 hn1
      clear hr hs1 hs2 hri hch hm hfin
      cbv
      refine ⟨p1, ?_⟩
      simp only [r1]
    · obtain ⟨u0, hu0⟩ : ∃ x, undone dl = x := ⟨_, rfl⟩
      have hy0 : InI f (u0) (0, sh1, dn1, false) := ⟨Int.le_refl _, Int.natCast_nonneg _, l, dl, hs1, hs2, hri, (fun h => by cases h), fun _ => ⟨Nat.le_of_eq hu0, fun k p hk => by simp only at hk; omega⟩⟩
      replace hm : m = 2 * u0 + 1 := by rw [← hu0]; exact hm
      clear hch hs1 hs2 hri hn1
      cbv
      refine loop_by 82 [1, 4, 5, 8, 9] 3 (fun y : Int × List (List PV) × List (List PV) × Bool => [.own 0 0, .osl 1 0 n, .osl 2 0 n, .p (pB y.2.2.2), .p (pI y.1)]) (fun y => [some (.box [.p (pS nm), .p (pI kd), .p (pI pa), .p (pI lo), .p (.ro 3 CD), .p (.ro 3 CS), .p (.ro 5 HD)] 50 none), shB y.2.1, some (.rows 1 y.2.2.1 4)]) (InI f (u0)) (fun y => μ y.1) (0, sh1, dn1, false) ⟨rfl, rfl, rfl, rfl, rfl⟩ hy0 ?_
      clear hy0
      rintro ⟨j, sh2, dn2, ch2⟩ ⟨j0, j1, l2, dl2, hs1, hs2, hri, hc1, hc2⟩
      simp only at j0 j1 hs1 hs2 hc1 hc2
      replace hn : f.code.length = n := hn
      replace hl1 : f.code.length ≤ 65536 := hl1
      have dd : E.lti j (E.ofN n) = decide (j < (n : Int)) := by rw [eofn, elt]
      have hle : undone dl2 ≤ u0 := by
        cases ch2
        · exact (hc2 rfl).1
        · exact Nat.le_of_lt (hc1 rfl)
      by_cases hj : j < (n : Int)
      · rw [decide_eq_true hj] at dd
        have hrl := hri.len
        have hdl := hri.dlen
        obtain ⟨p, hp⟩ : ∃ p, l2[j.toNat]? = some p := ⟨_, List.getElem?_eq_getElem (by omega)⟩
        obtain ⟨b, hb⟩ : ∃ b, dl2[j.toNat]? = some b := ⟨_, List.getElem?_eq_getElem (by omega)⟩
        obtain ⟨x, hx⟩ : ∃ x, f.code[j.toNat]? = some x := ⟨_, List.getElem?_eq_getElem (by omega)⟩
        have p1 := eple 0 j j0
        have p2 := eplt j hj
        have r2 : sh2[E.addN 0 (E.nat j)]? = some [pI p.1, pI p.2] := by rw [ea0, hs1]; exact pSh_get hp
        have r3 : dn2[E.addN 0 (E.nat j)]? = some [pB b] := by rw [ea0, hs2]; exact pBl_get hb
        have ej := eadd j 1 (by omega) (by omega) (by omega) (by omega)
        have hM2 : μ (E.wadd .i64 j 1) < μ j := by rw [hμ, hμ, ej]; omega
        have q1 := elt p.1 0
        have hskip : (0 ≤ p.1 → b = true) → InI f (u0) (E.wadd .i64 j 1, sh2, dn2, ch2) := fun hsk => by
          rw [ej]
          refine ⟨by simp only; omega, by simp only; omega, l2, dl2, hs1, hs2, hri, hc1, fun h => ⟨(hc2 h).1, fun k q hk hq hq0 => ?_⟩⟩
          simp only at hk
          by_cases e : (k : Int) < j
          · exact (hc2 h).2 k q e hq hq0
          · have e2 : k = j.toNat := by omega
            subst e2
            rw [hp] at hq
            cases hq
            rw [hb, hsk hq0]
        by_cases hneg : p.1 < 0
        · rw [decide_eq_true hneg] at q1
          have hI2 := hskip fun h => by omega
          obtain ⟨d, s⟩ := p
          simp only at r2 q1
          clear hskip hp hb hx hs1 hs2 hri hc1 hc2 hle hr hsp hsq
          cbv
          repeat (first | (simp only [dd]; cbv) | simp only [dd] | (refine ⟨p1,p2, ?_⟩; cbv) | (refine ⟨_,r2, ?_⟩; cbv) | (simp only [q1]; cbv) | simp only [q1])
          refine .mk (E.wadd .i64 j 1, sh2, dn2, ch2) ⟨rfl, rfl, rfl, rfl, rfl⟩ ?_ ?_
          · exact hI2
          · exact hM2
        · rw [decide_eq_false hneg] at q1
          cases b
          · obtain ⟨o, ho⟩ : ∃ o, spreadP (f.hdls.map hdOf) j x.op x.a p.1 p.2 ⟨l2, []⟩ = o := ⟨_, rfl⟩
            obtain ⟨dn3, hdn3⟩ : ∃ x, dn2.set j.toNat [pB true] = x := ⟨_, rfl⟩
            have r4 : E.put dn2 (E.addN 0 (E.nat j)) [pB true] = dn3 := by rw [ea0, eput]; exact hdn3
            have hj2 : ((j.toNat : Nat) : Int) = j := by omega
            cases o with
            | none =>
              have hbad := hri.bad hf hp (by omega) hx (by rw [hj2]; exact ho)
              obtain rfl : r = .tup [.v (.slice none 0 0), pB false] := by rw [← hr, hbad]; rfl
              have rc := hsq l2 dl2 hri j j0 p hp (by omega) x hx ho
              rw [← hs1] at rc
              replace rc := hM _ _ _ _ _ rc
              obtain ⟨d, s⟩ := p
              simp only at r2 q1
              clear hskip hp hb hx hs1 hs2 hri hc1 hc2 hle hr hsp hsq ho hbad
              cbv
              repeat (first | (simp only [dd]; cbv) | simp only [dd] | (refine ⟨p1,p2, ?_⟩; cbv) | (refine ⟨_,r2, ?_⟩; cbv) | (simp only [q1]; cbv) | simp only [q1] | (refine ⟨_,r3, ?_⟩; cbv) | (simp only [r4]; cbv) | simp only [r4])
              refine .inr (.mk _ _ (Wk.refl _ _) [1] _ _ _ _ rc rfl rfl rfl ?_)
              cbv
              all_goals trivial
            | some st' =>
              have hri2 := hri.step hf hp (by omega) hx (by rw [hj2]; exact ho)
              have hun := undone_set hb
              have hI2 : InI f (u0) (E.wadd .i64 j 1, pSh st'.sh, dn3, true) := by
                rw [ej]
                refine ⟨by simp only; omega, by simp only; omega, st'.sh, dl2.set j.toNat true, rfl, ?_, hri2, fun _ => by omega, fun h => by cases h⟩
                rw [← pBl_set, ← hs2]
                exact hdn3.symm
              have rc := hsp l2 dl2 hri j j0 p hp (by omega) x hx st' ho
              rw [← hs1] at rc
              replace rc := hK _ _ _ _ _ _ rc
              obtain ⟨sh3, hsh3⟩ : ∃ x, pSh st'.sh = x := ⟨_, rfl⟩
              rw [hsh3] at rc hI2
              obtain ⟨d, s⟩ := p
              simp only at r2 q1
              clear hskip hp hb hx hs1 hs2 hri hc1 hc2 hle hr hsp hsq ho hri2 hun
              cbv
              repeat (first | (simp only [dd]; cbv) | simp only [dd] | (refine ⟨p1,p2, ?_⟩; cbv) | (refine ⟨_,r2, ?_⟩; cbv) | (simp only [q1]; cbv) | simp only [q1] | (refine ⟨_,r3, ?_⟩; cbv) | (simp only [r4]; cbv) | simp only [r4])
              refine .inr (.mkK _ _ _ (Wk.refl _ _) [1] _ _ _ _ rc rfl rfl rfl ?_)
              cbv
              refine .mk (E.wadd .i64 j 1, sh3, dn3, true) ⟨rfl, rfl, rfl, rfl, rfl⟩ ?_ ?_
              · exact hI2
              · exact hM2
          · have hI2 := hskip fun _ => rfl
            obtain ⟨d, s⟩ := p
            simp only at r2 q1
            clear hskip hp hb hx hs1 hs2 hri hc1 hc2 hle hr hsp hsq
            cbv
            repeat (first | (simp only [dd]; cbv) | simp only [dd] | (refine ⟨p1,p2, ?_⟩; cbv) | (refine ⟨_,r2, ?_⟩; cbv) | (simp only [q1]; cbv) | simp only [q1] | (refine ⟨_,r3, ?_⟩; cbv))
            refine .mk (E.wadd .i64 j 1, sh2, dn2, ch2) ⟨rfl, rfl, rfl, rfl, rfl⟩ ?_ ?_
            · exact hI2
            · exact hM2
      · rw [decide_eq_false hj] at dd
        obtain ⟨m2, hm2⟩ : ∃ x, 2 * undone dl2 + (if ch2 then 1 else 0) = x := ⟨_, rfl⟩
        have hO : OutI f (sh2, dn2, ch2, m2) := ⟨l2, dl2, hs1, hs2, hri, fun h k p hk hp0 => (hc2 h).2 k p (by
          have := (List.getElem?_eq_some_iff.1 hk).1
          have := hri.len
          omega) hk hp0, hm2.symm⟩
        have hMO : ν m2 < ν m := by
          rw [hν, hν, hm, ← hm2]
          cases ch2
          · have := (hc2 rfl).1
            simp only [Bool.false_eq_true, if_false]
            omega
          · have := hc1 rfl
            simp only [if_true]
            omega
        clear hs1 hs2 hri hc1 hc2 hle hr hsp hsq
        cbv
        repeat (first | (simp only [dd]; cbv) | simp only [dd])
        refine .mk (sh2, dn2, ch2, m2) ⟨rfl, rfl, rfl, rfl, rfl⟩ ?_ ?_
        · exact hO
        · exact hMO
end Go.Proofs.YtlffpgjkhehdmaaDoor
