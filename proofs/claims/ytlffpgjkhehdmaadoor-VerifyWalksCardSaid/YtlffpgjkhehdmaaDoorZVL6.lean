/- Own work: knapsacklaw29.VerifyWalks returns true. -/
import Derived.Test.YtlffpgjkhehdmaaDoorZVL5
namespace Go.Proofs.YtlffpgjkhehdmaaDoor
open Go.RowKit
set_option maxRecDepth 100000

abbrev pU6 (n : Int) : PV := .v (.int .u8 n)
theorem wfu8w {x : Int} (h : (Lit.int .u8 x).wf = true) : 0 ≤ x ∧ x ≤ 255 := by
  have e1 : IntKind.u8.min = 0 := by decide
  have e2 : IntKind.u8.max = 255 := by decide
  simp only [Lit.wf, e1, e2, Bool.and_eq_true, decide_eq_true_eq] at h
  exact h
def pW (ws : List Int) : List (List PV) := ws.map fun b => [pU6 b]
theorem fewP_len6 {fs : List Fn} {n : Int} (h : fewP fs n = true) : (fs.length : Int) ≤ n := by
  unfold fewP at h
  simp only [Bool.and_eq_true, decide_eq_true_eq] at h
  exact h.1
theorem shapesQ_err {fs : List Fn} {i : Int} {e : Int} (h : shapesQ fs i = .error e) : e ≠ 0 := by
  unfold shapesQ at h
  split at h
  · split at h
    · split at h <;> cases h
      decide
    · cases h
      decide
  · cases h
    decide
theorem shapesQ_ok {fs : List Fn} {i : Int} {l : List Shp} (h : shapesQ fs i = .ok l) : progF fs = true ∧ ∃ f, fs[i.toNat]? = some f ∧ shapesP f = some l := by
  unfold shapesQ at h
  split at h
  · rename_i hp
    split at h
    · cases hx : fs[i.toNat]? with
      | none => rw [hx] at h; cases h
      | some x =>
        rw [hx] at h
        simp only [Option.bind_some] at h
        cases hs : shapesP x with
        | none => rw [hs] at h; cases h
        | some l' =>
          rw [hs] at h
          cases h
          exact ⟨hp, x, rfl, hs⟩
    · cases h
  · cases h
/-- at the head of the loop over the way -/
structure WkI (f : Fn) (nW : Nat) (y : Int × Int × Int × Int) : Prop where
  j0 : 0 ≤ y.1
  j1 : y.1 ≤ nW
  r : Rch f y.2.1 (y.2.2.1, y.2.2.2)
set_option maxHeartbeats 8000000 in
/-- the loop, for a function that is safe -/
theorem walks_loop (F : List (List PV)) (f : Fn) (hf : FnV f) (hs : SafeF f) (l : List Shp) (ht : TabOf f l) (ws : List Int) (hws : ∀ b ∈ ws, 0 ≤ b ∧ b ≤ 255) (nW : Nat) (hnW : ws.length = nW) (hw2 : nW ≤ 200) :
    Seg Tryd.prog Tabs 201 (tailK 7 (Tryd.f7.body.getD .skip)) (retQ stdE tyT Tryd.f7.results.toList (pB true))
      (spreadE [2, 8, 10, 11, 12] [.p (.ro 1 (pW ws)), .p (.ro 2 (pSh l)), .own 1 0, .p (pI 0), .own 2 0] 201 0) [some (.box [.p (.ro 7 F)] 33 none), some (.box [.p (pS f.name), .p (pI f.kind), .p (pI f.params), .p (pI f.locals), .p (.ro 3 (pCode f.code)), .p (.ro 3 (pCons f.consts)), .p (.ro 5 (pHdls f.hdls))] 50 none), some (.box [.p (pI 0), .p (pI 0)] 52 none)] := by
  have hdr : ∀ op, 1 ≤ op → op ≤ 53 → RT 18 [pI op] (.tup [pInfo op, pI 0]) := fun op h0 h1 => up0 (describe_ret op h0 h1)
  have hth := fun p c h0 h1 => thrown_ret f hf.l2 p c h0 h1
  have hl1 := hf.l1
  have hl2 := hf.l2
  have hfc := hf.code
  have hfh := hf.hdl
  have hfit := hs.fit
  have hfree := hs.free
  have hone := hs.one
  have hlat := ht.at_
  have hll := ht.len
  have hcl : (pCode f.code).length = f.code.length := by simp [pCode]
  have hcg : ∀ (k : Nat) x, f.code[k]? = some x → (pCode f.code)[k]? = some [pI x.op, pI x.a, pI x.b] := fun k x h => pCode_get h
  have hwl : (pW ws).length = ws.length := by simp [pW]
  have hwg : ∀ (k : Nat) b, ws[k]? = some b → (pW ws)[k]? = some [pU6 b] := fun k b h => by unfold pW; rw [List.getElem?_map, h]; rfl
  have hlg : ∀ (k : Nat) p, l[k]? = some p → (pSh l)[k]? = some [pI p.1, pI p.2] := fun k p h => pSh_get h
  obtain ⟨n, hn⟩ : ∃ x, f.code.length = x := ⟨_, rfl⟩
  have hx0 : WkI f nW (0, 0, 0, 0) := ⟨Int.le_refl _, Int.natCast_nonneg _, .start⟩
  unfold pFn at hth
  generalize pCode f.code = CD at *
  generalize pCons f.consts = CS at *
  obtain ⟨HR, hHR⟩ : ∃ x, pHdls f.hdls = x := ⟨_, rfl⟩
  rw [hHR] at hth ⊢
  generalize f.name = fnm at *
  generalize f.kind = fkd at *
  generalize f.params = fpa at *
  generalize f.locals = flo at *
  generalize pW ws = WS at *
  generalize pSh l = LS at *
  rw [hn] at hcl
  rw [hnW] at hwl
  obtain ⟨μ, hμ⟩ : ∃ μ : Int → Nat, ∀ i, μ i = 20000 - i.toNat := ⟨_, fun _ => rfl⟩
  refine Seg.of tyT_ok mixed (fun n => match n with | 12 => 13 | 21 => 14 | _ => 0) (by kernel_rfl) (fun E => retQ E tyT Tryd.f7.results.toList (pB true)) fun P G E hc hMM hE => ?_
  have elt : ∀ a b, E.lti a b = decide (a < b) := fun a b => by rw [hE]; rfl
  have ele : ∀ a b, E.lei a b = decide (a ≤ b) := fun a b => by rw [hE]; rfl
  have eofn : ∀ n, E.ofN n = (n : Int) := fun n => by rw [hE]; rfl
  have enat : ∀ i, E.nat i = i.toNat := fun i => by rw [hE]; rfl
  have eple : ∀ a b, a ≤ b → E.ple a b := fun a b h => by rw [hE]; exact h
  have eadd : ∀ a b : Int, -1000000 ≤ a → a ≤ 1000000 → -1000000 ≤ b → b ≤ 1000000 → E.wadd .i64 a b = a + b := fun a b h0 h1 h2 h3 => by rw [hE]; exact wrap_i64_in (by omega) (by omega)
  have esb : ∀ a b : Int, -1000000 ≤ a → a ≤ 1000000 → -1000000 ≤ b → b ≤ 1000000 → E.wsub .i64 a b = a - b := fun a b h0 h1 h2 h3 => by rw [hE]; exact wrap_i64_in (by omega) (by omega)
  have ewr : ∀ a : Int, -1000000 ≤ a → a ≤ 1000000 → E.wrap .i64 a = a := fun a h0 h1 => by rw [hE]; exact wrap_i64_in (by omega) (by omega)
  have erem : ∀ a b, E.rem a b = a.tmod b := fun a b => by rw [hE]; rfl
  clear hf hs ht
  cbv at hcl hwl
  cbv
  refine loop_by 201 [2, 8, 10, 11, 12, 13] 3 (fun y : Int × Int × Int × Int => [.p (.ro 1 WS), .p (.ro 2 LS), .own 1 0, .p (pI y.2.1), .own 2 0, .p (pI y.1)]) (fun y => [some (.box [.p (.ro 7 F)] 33 none), some (.box [.p (pS fnm), .p (pI fkd), .p (pI fpa), .p (pI flo), .p (.ro 3 CD), .p (.ro 3 CS), .p (.ro 5 HR)] 50 none), some (.box [.p (pI y.2.2.1), .p (pI y.2.2.2)] 52 none)]) (WkI f nW) (fun y => μ y.1) (0, 0, 0, 0) ⟨rfl, rfl, rfl, rfl, rfl⟩ hx0 ?_
  clear hx0
  rintro ⟨j, at', d, s⟩ ⟨j0, j1, hr⟩
  simp only at j0 j1 hr
  replace hn : f.code.length = n := hn
  replace hnW : ws.length = nW := hnW
  replace hl1 : f.code.length ≤ 65536 := hl1
  replace hll : l.length = f.code.length := hll
  replace eofn : ∀ n : Nat, E.ofN n = (n : Int) := eofn
  replace hfit : ∀ i p, Rch f i p → ShOk f.code.length i p := hfit
  replace hws : ∀ b ∈ ws, 0 ≤ b ∧ b ≤ 255 := hws
  replace hlat : ∀ (k : Nat) p, l[k]? = some p → Rch f (k : Int) p ∨ (p = (-1, 0) ∧ ∀ q, ¬ Rch f (k : Int) q) := hlat
  have dd : E.lti j (E.ofN nW) = decide (j < (nW : Int)) := by rw [eofn, elt]
  by_cases hj : j < (nW : Int)
  · rw [decide_eq_true hj] at dd
    obtain ⟨⟨f1, f2⟩, ⟨f3, f4⟩, f5, f6⟩ := hfit _ _ hr
    simp only at f3 f4 f5 f6
    obtain ⟨x, hx, ⟨ht1, ht7⟩, ⟨sc, hsc⟩, hth1⟩ := hfree _ _ hr
    simp only at ht1 ht7 hsc hth1
    obtain ⟨b, hb⟩ : ∃ b, ws[j.toNat]? = some b := ⟨_, List.getElem?_eq_getElem (by omega)⟩
    have hb0 := hws b (List.mem_of_getElem? hb)
    have hxc := hfc x (List.mem_of_getElem? hx)
    obtain ⟨p, hp⟩ : ∃ p, l[at'.toNat]? = some p := ⟨_, List.getElem?_eq_getElem (by omega)⟩
    have hpe : p = (d, s) := by
      rcases hlat _ p hp with h | ⟨_, h⟩
      · rw [show ((at'.toNat : Nat) : Int) = at' by omega] at h
        exact hone _ _ _ h hr
      · rw [show ((at'.toNat : Nat) : Int) = at' by omega] at h
        exact absurd hr (h _)
    subst hpe
    have g1 := hcg _ _ hx
    have g2 := hlg _ _ hp
    have g3 := hwg _ _ hb
    rw [← enat] at g1 g2 g3
    simp only at g2
    have v1 : E.lei (E.ofN n) at' = false := by rw [eofn, ele]; exact decide_eq_false (by omega)
    have p1 := eple 0 at' f1
    have p2 := eple 0 j j0
    have ej := eadd j 1 (by omega) (by omega) (by omega) (by omega)
    have hM2 : μ (E.wadd .i64 j 1) < μ j := by rw [hμ, hμ, ej]; omega
    have u1 : decide (d = d) = true := decide_eq_true rfl
    have u2 : decide (s = s) = true := decide_eq_true rfl
    have wb := ewr b (by omega) (by omega)
    obtain ⟨op, a, bb⟩ := x
    simp only at g1 hxc ht1 ht7 hsc hth1
    have dr := hc _ _ _ (hdr op hxc.1.1 hxc.1.2)
    have th := hc _ _ _ (hth at' b hb0.1 hb0.2)
    have hp0 := pops_bnd op
    have hpu0 := pushes_bnd op
    have hjp0 := jmp_bnd op
    have hI : ∀ at2 d2 s2, Rch f at2 (d2, s2) → WkI f nW (E.wadd .i64 j 1, at2, d2, s2) := fun at2 d2 s2 h => ⟨by rw [ej]; simp only; omega, by rw [ej]; simp only; omega, h⟩
    have htk0 : takesP op a = if cntOf op then popsOf op + a else popsOf op := rfl
    have hend : ∀ sc', scopeP op s = some sc' → endsOf op = false → Rch f (at' + 1) (d - takesP op a + pushesOf op, sc') := fun sc' h1 h2 => hr.step ⟨_, hx, .inr (.inl ⟨h2, rfl, sc', h1, rfl⟩)⟩
    have hjmp : operandOf op = 7 → Rch f a (d + jmpOf op, s) := fun h => hr.step ⟨_, hx, .inr (.inr ⟨h, rfl, rfl⟩)⟩
    have hthr : ∀ h, thrownP f.hdls at' b = some h → (h.dp ≤ d - takesP op a ∧ h.sc ≤ s) ∧ Rch f h.tg (h.dp + 1, h.sc) ∧ h.dp ≤ 10000 ∧ 0 ≤ h.dp := fun h e => by
      obtain ⟨m1, m2⟩ := thrown_mem e
      have m3 : hdOf h ∈ f.hdls.map hdOf := List.mem_map_of_mem m1
      have m4 := hfh _ m3
      exact ⟨hth1 _ m3 m2, hr.step ⟨_, hx, .inl ⟨_, m3, m2, rfl, rfl⟩⟩, m4.dp1, m4.dp0⟩
    have hcnj := cnt_no_jump op
    unfold pInfo at dr
    have hen : endsOf op = (decide (op = 48) || (decide (op = 49) || decide (op = 40))) := by
      unfold endsOf
      simp only [Bool.or_assoc]
      rfl
    obtain ⟨tk, htk⟩ : ∃ x, takesP op a = x := ⟨_, rfl⟩
    rw [htk] at htk0 ht1 hthr hend
    obtain ⟨o, ho⟩ : ∃ o, thrownP f.hdls at' b = o := ⟨_, rfl⟩
    rw [ho] at th hthr
    obtain ⟨od, hod⟩ : ∃ x, operandOf op = x := ⟨_, rfl⟩
    rw [hod] at dr ht7 hjmp
    generalize nameOf op = nm at *
    generalize popsOf op = pp at *
    generalize pushesOf op = pu at *
    generalize jmpOf op = jp at *
    obtain ⟨en, hen1⟩ : ∃ x, endsOf op = x := ⟨_, rfl⟩
    rw [hen1] at dr hen hend
    obtain ⟨cn, hcn⟩ : ∃ x, cntOf op = x := ⟨_, rfl⟩
    rw [hcn] at dr htk0
    have w1 : cn = true → E.wadd .i64 pp a = tk := fun h => by rw [h] at htk0; rw [eadd pp a (by omega) (by omega) (by omega) (by omega)]; exact htk0.symm
    have w2 : cn = false → pp = tk := fun h => by rw [h] at htk0; exact htk0.symm
    have tb : 0 ≤ tk := by rw [htk0]; split <;> omega
    have w3 : E.wsub .i64 d tk = d - tk := esb d tk (by omega) (by omega) (by omega) (by omega)
    have v2 : E.lti d tk = false := by rw [elt]; exact decide_eq_false (by omega)
    clear hcg hlg hwg hlat hone hfree hfit hws hfc hfh hth hdr hx hp hb hth1 htk0 hr hHR
    cases cn
    · obtain rfl := w2 rfl
      clear w1 w2
      cases o with
      | some h =>
        obtain ⟨⟨m1, m2⟩, m3, m4, m5⟩ := hthr h rfl
        obtain ⟨lo, hi', tg, dp, sc'⟩ := h
        simp only at m1 m2 m3 m4 m5
        unfold thR at th
        simp only at th
        have q3 : E.lti (d - pp) dp = false := by rw [elt]; exact decide_eq_false (by omega)
        have q4 : E.lti s sc' = false := by rw [elt]; exact decide_eq_false (by omega)
        have ew := eadd dp 1 (by omega) (by omega) (by omega) (by omega)
        have hI2 := hI _ _ _ m3
        clear hend hjmp hthr hI hen hcnj
        generalize dp + 1 = dq at *
        generalize d - pp = lim at *
        cbv
        repeat (first | (simp only [hwl]; cbv) | simp only [hwl] | (simp only [dd]; cbv) | simp only [dd] | (simp only [hcl]; cbv) | simp only [hcl] | (simp only [v1]; cbv) | simp only [v1] | (refine ⟨p1,_,g2, ?_⟩; cbv) | (simp only [u1]; cbv) | simp only [u1] | (simp only [u2]; cbv) | simp only [u2] | (simp only [u1,u2]; cbv) | simp only [u1,u2] | (refine ⟨p1,_,g1, ?_⟩; cbv) | (refine ⟨_, dr, ?_⟩; cbv) | (simp only [v2]; cbv) | simp only [v2] | (refine ⟨p2,_,g3, ?_⟩; cbv) | (simp only [wb]; cbv) | simp only [wb] | (refine ⟨_, th, ?_⟩; cbv))
        repeat (first | (simp only [w3]; cbv) | simp only [w3] | (simp only [q3]; cbv) | simp only [q3] | (simp only [q4]; cbv) | simp only [q4] | (simp only [ew]; cbv) | simp only [ew])
        refine .mk (E.wadd .i64 j 1, tg, dq, sc') ⟨rfl, rfl, rfl, rfl, rfl⟩ ?_ ?_
        · exact hI2
        · exact hM2
      | none =>
        unfold thR at th
        simp only at th
        have wpt : E.wsub .i64 pu pp = pu - pp := esb pu pp (by omega) (by omega) (by omega) (by omega)
        have wn : E.wadd .i64 d (pu - pp) = d - pp + pu := by rw [eadd d (pu - pp) (by omega) (by omega) (by omega) (by omega)]; omega
        have wat : E.wadd .i64 at' 1 = at' + 1 := eadd at' 1 (by omega) (by omega) (by omega) (by omega)
        have ws1 : E.wadd .i64 s 1 = s + 1 := eadd s 1 (by omega) (by omega) (by omega) (by omega)
        have ws2 : E.wsub .i64 s 1 = s - 1 := esb s 1 (by omega) (by omega) (by omega) (by omega)
        have lsp : E.lti (s + 1) 0 = false := by rw [elt]; exact decide_eq_false (by omega)
        have ls0 : E.lti s 0 = false := by rw [elt]; exact decide_eq_false (by omega)
        have lsm0 : 1 ≤ s → E.lti (s - 1) 0 = false := fun h => by rw [elt]; exact decide_eq_false (by omega)
        have hsp : scopeP op s = if op = 19 then some (s + 1) else if op = 20 then (if 1 ≤ s then some (s - 1) else none) else if op = 21 then (if 1 ≤ s then some s else none) else some s := rfl
        have hen2 : op ≠ 48 → op ≠ 49 → op ≠ 40 → en = false := fun h1 h2 h => by rw [hen, decide_eq_false h1, decide_eq_false h2, decide_eq_false h]; rfl
        generalize hnd : d - pp + pu = nd at *
        generalize hpt : pu - pp = pt at *
        generalize hat1 : at' + 1 = at1 at *
        have wj : E.wadd .i64 d jp = d + jp := eadd d jp (by omega) (by omega) (by omega) (by omega)
        obtain ⟨r2, hr2⟩ : ∃ x, b.tmod 2 = x := ⟨_, rfl⟩
        have wr2 : E.rem b 2 = r2 := by rw [erem]; exact hr2
        cbv
        repeat (first | (simp only [hwl]; cbv) | simp only [hwl] | (simp only [dd]; cbv) | simp only [dd] | (simp only [hcl]; cbv) | simp only [hcl] | (simp only [v1]; cbv) | simp only [v1] | (refine ⟨p1,_,g2, ?_⟩; cbv) | (simp only [u1]; cbv) | simp only [u1] | (simp only [u2]; cbv) | simp only [u2] | (simp only [u1,u2]; cbv) | simp only [u1,u2] | (refine ⟨p1,_,g1, ?_⟩; cbv) | (refine ⟨_, dr, ?_⟩; cbv) | (simp only [v2]; cbv) | simp only [v2] | (refine ⟨p2,_,g3, ?_⟩; cbv) | (simp only [wb]; cbv) | simp only [wb] | (refine ⟨_, th, ?_⟩; cbv))
        rcases Classical.em (op = 48) with e48 | e48
        · have g48 : decide (op = 48) = true := decide_eq_true e48
          clear hend hjmp hthr hI hen hcnj hen2
          repeat (first | (simp only [g48]; cbv) | simp only [g48])
        have g48 : decide (op = 48) = false := decide_eq_false e48
        rcases Classical.em (op = 49) with e49 | e49
        · have g49 : decide (op = 49) = true := decide_eq_true e49
          clear hend hjmp hthr hI hen hcnj hen2
          repeat (first | (simp only [g48]; cbv) | simp only [g48] | (simp only [g49]; cbv) | simp only [g49])
        have g49 : decide (op = 49) = false := decide_eq_false e49
        have hen1' := hen2 e48 e49
        rcases Classical.em (od = 7) with e7 | e7
        · have hjm : decide (od = 7) = true := decide_eq_true e7
          have hI3 := hI _ _ _ (hjmp e7)
          generalize d + jp = dj at *
          rcases Classical.em (op = 40) with e40 | e40
          · have g40 : decide (op = 40) = true := decide_eq_true e40
            clear hend hjmp hthr hI hen hcnj hen1' hen2
            have hI2 := hI3
            repeat (first | (simp only [g48]; cbv) | simp only [g48] | (simp only [g49]; cbv) | simp only [g49] | (simp only [hjm]; cbv) | simp only [hjm] | (simp only [g40]; cbv) | simp only [g40] | (simp only [wj]; cbv) | simp only [wj])
            refine .mk (E.wadd .i64 j 1, a, dj, s) ⟨rfl, rfl, rfl, rfl, rfl⟩ ?_ ?_
            · exact hI2
            · exact hM2
          have g40 : decide (op = 40) = false := decide_eq_false e40
          rcases Classical.em (r2 = 1) with e2 | e2
          · have gr2 : decide (r2 = 1) = true := decide_eq_true e2
            clear hend hjmp hthr hI hen hcnj hen1' hen2
            have hI2 := hI3
            repeat (first | (simp only [g48]; cbv) | simp only [g48] | (simp only [g49]; cbv) | simp only [g49] | (simp only [hjm]; cbv) | simp only [hjm] | (simp only [g40]; cbv) | simp only [g40] | (refine ⟨p2,_,g3, ?_⟩; cbv) | (simp only [wr2]; cbv) | simp only [wr2] | (simp only [gr2]; cbv) | simp only [gr2] | (simp only [wj]; cbv) | simp only [wj])
            refine .mk (E.wadd .i64 j 1, a, dj, s) ⟨rfl, rfl, rfl, rfl, rfl⟩ ?_ ?_
            · exact hI2
            · exact hM2
          have gr2 : decide (r2 = 1) = false := decide_eq_false e2
          have hE2 := hend sc hsc (hen1' e40)
          have hI2 := hI _ _ _ hE2
          clear hend hjmp hthr hI hen hcnj hen1' hen2 hI3 hE2
          rcases Classical.em (op = 19) with e19 | e19
          · have g19 : decide (op = 19) = true := decide_eq_true e19
            have g20 : decide (op = 20) = false := decide_eq_false (by omega)
            rw [hsp, if_pos e19] at hsc
            cases hsc
            generalize s + 1 = s1 at *
            repeat (first | (simp only [g48]; cbv) | simp only [g48] | (simp only [g49]; cbv) | simp only [g49] | (simp only [hjm]; cbv) | simp only [hjm] | (simp only [g40]; cbv) | simp only [g40] | (refine ⟨p2,_,g3, ?_⟩; cbv) | (simp only [wr2]; cbv) | simp only [wr2] | (simp only [gr2]; cbv) | simp only [gr2] | (simp only [wpt]; cbv) | simp only [wpt] | (simp only [wn]; cbv) | simp only [wn] | (simp only [g19]; cbv) | simp only [g19] | (simp only [ws1]; cbv) | simp only [ws1] | (simp only [g20]; cbv) | simp only [g20] | (simp only [lsp]; cbv) | simp only [lsp] | (simp only [wat]; cbv) | simp only [wat])
            refine .mk (E.wadd .i64 j 1, at1, nd, s1) ⟨rfl, rfl, rfl, rfl, rfl⟩ ?_ ?_
            · exact hI2
            · exact hM2
          have g19 : decide (op = 19) = false := decide_eq_false e19
          rcases Classical.em (op = 20) with e20 | e20
          · have g20 : decide (op = 20) = true := decide_eq_true e20
            rw [hsp, if_neg e19, if_pos e20] at hsc
            split at hsc
            · rename_i h1s
              have lsm := lsm0 h1s
              cases hsc
              clear lsm0
              generalize s - 1 = s1 at *
              repeat (first | (simp only [g48]; cbv) | simp only [g48] | (simp only [g49]; cbv) | simp only [g49] | (simp only [hjm]; cbv) | simp only [hjm] | (simp only [g40]; cbv) | simp only [g40] | (refine ⟨p2,_,g3, ?_⟩; cbv) | (simp only [wr2]; cbv) | simp only [wr2] | (simp only [gr2]; cbv) | simp only [gr2] | (simp only [wpt]; cbv) | simp only [wpt] | (simp only [wn]; cbv) | simp only [wn] | (simp only [g19]; cbv) | simp only [g19] | (simp only [g20]; cbv) | simp only [g20] | (simp only [ws2]; cbv) | simp only [ws2] | (simp only [lsm]; cbv) | simp only [lsm] | (simp only [wat]; cbv) | simp only [wat])
              refine .mk (E.wadd .i64 j 1, at1, nd, s1) ⟨rfl, rfl, rfl, rfl, rfl⟩ ?_ ?_
              · exact hI2
              · exact hM2
            · cases hsc
          have g20 : decide (op = 20) = false := decide_eq_false e20
          have hsc2 : s = sc := by
            rw [hsp, if_neg e19, if_neg e20] at hsc
            split at hsc
            · split at hsc
              · cases hsc; rfl
              · cases hsc
            · cases hsc; rfl
          rw [← hsc2] at hI2
          repeat (first | (simp only [g48]; cbv) | simp only [g48] | (simp only [g49]; cbv) | simp only [g49] | (simp only [hjm]; cbv) | simp only [hjm] | (simp only [g40]; cbv) | simp only [g40] | (refine ⟨p2,_,g3, ?_⟩; cbv) | (simp only [wr2]; cbv) | simp only [wr2] | (simp only [gr2]; cbv) | simp only [gr2] | (simp only [wpt]; cbv) | simp only [wpt] | (simp only [wn]; cbv) | simp only [wn] | (simp only [g19]; cbv) | simp only [g19] | (simp only [g20]; cbv) | simp only [g20] | (simp only [ls0]; cbv) | simp only [ls0] | (simp only [wat]; cbv) | simp only [wat])
          refine .mk (E.wadd .i64 j 1, at1, nd, s) ⟨rfl, rfl, rfl, rfl, rfl⟩ ?_ ?_
          · exact hI2
          · exact hM2
        · have hjm : decide (od = 7) = false := decide_eq_false e7
          have e40 : op ≠ 40 := fun h => e7 (by rw [← hod, h]; rfl)
          have hE2 := hend sc hsc (hen1' e40)
          have hI2 := hI _ _ _ hE2
          clear hend hjmp hthr hI hen hcnj hen1' hen2 hE2
          rcases Classical.em (op = 19) with e19 | e19
          · have g19 : decide (op = 19) = true := decide_eq_true e19
            have g20 : decide (op = 20) = false := decide_eq_false (by omega)
            rw [hsp, if_pos e19] at hsc
            cases hsc
            generalize s + 1 = s1 at *
            repeat (first | (simp only [g48]; cbv) | simp only [g48] | (simp only [g49]; cbv) | simp only [g49] | (simp only [hjm]; cbv) | simp only [hjm] | (simp only [wpt]; cbv) | simp only [wpt] | (simp only [wn]; cbv) | simp only [wn] | (simp only [g19]; cbv) | simp only [g19] | (simp only [ws1]; cbv) | simp only [ws1] | (simp only [g20]; cbv) | simp only [g20] | (simp only [lsp]; cbv) | simp only [lsp] | (simp only [wat]; cbv) | simp only [wat])
            refine .mk (E.wadd .i64 j 1, at1, nd, s1) ⟨rfl, rfl, rfl, rfl, rfl⟩ ?_ ?_
            · exact hI2
            · exact hM2
          have g19 : decide (op = 19) = false := decide_eq_false e19
          rcases Classical.em (op = 20) with e20 | e20
          · have g20 : decide (op = 20) = true := decide_eq_true e20
            rw [hsp, if_neg e19, if_pos e20] at hsc
            split at hsc
            · rename_i h1s
              have lsm := lsm0 h1s
              cases hsc
              clear lsm0
              generalize s - 1 = s1 at *
              repeat (first | (simp only [g48]; cbv) | simp only [g48] | (simp only [g49]; cbv) | simp only [g49] | (simp only [hjm]; cbv) | simp only [hjm] | (simp only [wpt]; cbv) | simp only [wpt] | (simp only [wn]; cbv) | simp only [wn] | (simp only [g19]; cbv) | simp only [g19] | (simp only [g20]; cbv) | simp only [g20] | (simp only [ws2]; cbv) | simp only [ws2] | (simp only [lsm]; cbv) | simp only [lsm] | (simp only [wat]; cbv) | simp only [wat])
              refine .mk (E.wadd .i64 j 1, at1, nd, s1) ⟨rfl, rfl, rfl, rfl, rfl⟩ ?_ ?_
              · exact hI2
              · exact hM2
            · cases hsc
          have g20 : decide (op = 20) = false := decide_eq_false e20
          have hsc2 : s = sc := by
            rw [hsp, if_neg e19, if_neg e20] at hsc
            split at hsc
            · split at hsc
              · cases hsc; rfl
              · cases hsc
            · cases hsc; rfl
          rw [← hsc2] at hI2
          repeat (first | (simp only [g48]; cbv) | simp only [g48] | (simp only [g49]; cbv) | simp only [g49] | (simp only [hjm]; cbv) | simp only [hjm] | (simp only [wpt]; cbv) | simp only [wpt] | (simp only [wn]; cbv) | simp only [wn] | (simp only [g19]; cbv) | simp only [g19] | (simp only [g20]; cbv) | simp only [g20] | (simp only [ls0]; cbv) | simp only [ls0] | (simp only [wat]; cbv) | simp only [wat])
          refine .mk (E.wadd .i64 j 1, at1, nd, s) ⟨rfl, rfl, rfl, rfl, rfl⟩ ?_ ?_
          · exact hI2
          · exact hM2
    · replace w1 := w1 rfl
      clear w2
      cases o with
      | some h =>
        obtain ⟨⟨m1, m2⟩, m3, m4, m5⟩ := hthr h rfl
        obtain ⟨lo, hi', tg, dp, sc'⟩ := h
        simp only at m1 m2 m3 m4 m5
        unfold thR at th
        simp only at th
        have q3 : E.lti (d - tk) dp = false := by rw [elt]; exact decide_eq_false (by omega)
        have q4 : E.lti s sc' = false := by rw [elt]; exact decide_eq_false (by omega)
        have ew := eadd dp 1 (by omega) (by omega) (by omega) (by omega)
        have hI2 := hI _ _ _ m3
        clear hend hjmp hthr hI hen hcnj
        generalize dp + 1 = dq at *
        generalize d - tk = lim at *
        cbv
        repeat (first | (simp only [hwl]; cbv) | simp only [hwl] | (simp only [dd]; cbv) | simp only [dd] | (simp only [hcl]; cbv) | simp only [hcl] | (simp only [v1]; cbv) | simp only [v1] | (refine ⟨p1,_,g2, ?_⟩; cbv) | (simp only [u1]; cbv) | simp only [u1] | (simp only [u2]; cbv) | simp only [u2] | (simp only [u1,u2]; cbv) | simp only [u1,u2] | (refine ⟨p1,_,g1, ?_⟩; cbv) | (refine ⟨_, dr, ?_⟩; cbv) | (simp only [w1]; cbv) | simp only [w1] | (simp only [v2]; cbv) | simp only [v2] | (refine ⟨p2,_,g3, ?_⟩; cbv) | (simp only [wb]; cbv) | simp only [wb] | (refine ⟨_, th, ?_⟩; cbv))
        repeat (first | (simp only [w3]; cbv) | simp only [w3] | (simp only [q3]; cbv) | simp only [q3] | (simp only [q4]; cbv) | simp only [q4] | (simp only [ew]; cbv) | simp only [ew])
        refine .mk (E.wadd .i64 j 1, tg, dq, sc') ⟨rfl, rfl, rfl, rfl, rfl⟩ ?_ ?_
        · exact hI2
        · exact hM2
      | none =>
        unfold thR at th
        simp only at th
        have wpt : E.wsub .i64 pu tk = pu - tk := esb pu tk (by omega) (by omega) (by omega) (by omega)
        have wn : E.wadd .i64 d (pu - tk) = d - tk + pu := by rw [eadd d (pu - tk) (by omega) (by omega) (by omega) (by omega)]; omega
        have wat : E.wadd .i64 at' 1 = at' + 1 := eadd at' 1 (by omega) (by omega) (by omega) (by omega)
        have ws1 : E.wadd .i64 s 1 = s + 1 := eadd s 1 (by omega) (by omega) (by omega) (by omega)
        have ws2 : E.wsub .i64 s 1 = s - 1 := esb s 1 (by omega) (by omega) (by omega) (by omega)
        have lsp : E.lti (s + 1) 0 = false := by rw [elt]; exact decide_eq_false (by omega)
        have ls0 : E.lti s 0 = false := by rw [elt]; exact decide_eq_false (by omega)
        have lsm0 : 1 ≤ s → E.lti (s - 1) 0 = false := fun h => by rw [elt]; exact decide_eq_false (by omega)
        have hsp : scopeP op s = if op = 19 then some (s + 1) else if op = 20 then (if 1 ≤ s then some (s - 1) else none) else if op = 21 then (if 1 ≤ s then some s else none) else some s := rfl
        have hen2 : op ≠ 48 → op ≠ 49 → op ≠ 40 → en = false := fun h1 h2 h => by rw [hen, decide_eq_false h1, decide_eq_false h2, decide_eq_false h]; rfl
        generalize hnd : d - tk + pu = nd at *
        generalize hpt : pu - tk = pt at *
        generalize hat1 : at' + 1 = at1 at *
        have wj : E.wadd .i64 d jp = d + jp := eadd d jp (by omega) (by omega) (by omega) (by omega)
        obtain ⟨r2, hr2⟩ : ∃ x, b.tmod 2 = x := ⟨_, rfl⟩
        have wr2 : E.rem b 2 = r2 := by rw [erem]; exact hr2
        cbv
        repeat (first | (simp only [hwl]; cbv) | simp only [hwl] | (simp only [dd]; cbv) | simp only [dd] | (simp only [hcl]; cbv) | simp only [hcl] | (simp only [v1]; cbv) | simp only [v1] | (refine ⟨p1,_,g2, ?_⟩; cbv) | (simp only [u1]; cbv) | simp only [u1] | (simp only [u2]; cbv) | simp only [u2] | (simp only [u1,u2]; cbv) | simp only [u1,u2] | (refine ⟨p1,_,g1, ?_⟩; cbv) | (refine ⟨_, dr, ?_⟩; cbv) | (simp only [w1]; cbv) | simp only [w1] | (simp only [v2]; cbv) | simp only [v2] | (refine ⟨p2,_,g3, ?_⟩; cbv) | (simp only [wb]; cbv) | simp only [wb] | (refine ⟨_, th, ?_⟩; cbv))
        rcases Classical.em (op = 48) with e48 | e48
        · have g48 : decide (op = 48) = true := decide_eq_true e48
          clear hend hjmp hthr hI hen hcnj hen2
          repeat (first | (simp only [g48]; cbv) | simp only [g48])
        have g48 : decide (op = 48) = false := decide_eq_false e48
        rcases Classical.em (op = 49) with e49 | e49
        · have g49 : decide (op = 49) = true := decide_eq_true e49
          clear hend hjmp hthr hI hen hcnj hen2
          repeat (first | (simp only [g48]; cbv) | simp only [g48] | (simp only [g49]; cbv) | simp only [g49])
        have g49 : decide (op = 49) = false := decide_eq_false e49
        have hen1' := hen2 e48 e49
        rcases Classical.em (od = 7) with e7 | e7
        · have hjm : decide (od = 7) = true := decide_eq_true e7
          have hI3 := hI _ _ _ (hjmp e7)
          generalize d + jp = dj at *
          rcases Classical.em (op = 40) with e40 | e40
          · have g40 : decide (op = 40) = true := decide_eq_true e40
            clear hend hjmp hthr hI hen hcnj hen1' hen2
            have hI2 := hI3
            repeat (first | (simp only [g48]; cbv) | simp only [g48] | (simp only [g49]; cbv) | simp only [g49] | (simp only [hjm]; cbv) | simp only [hjm] | (simp only [g40]; cbv) | simp only [g40] | (simp only [wj]; cbv) | simp only [wj])
            refine .mk (E.wadd .i64 j 1, a, dj, s) ⟨rfl, rfl, rfl, rfl, rfl⟩ ?_ ?_
            · exact hI2
            · exact hM2
          have g40 : decide (op = 40) = false := decide_eq_false e40
          rcases Classical.em (r2 = 1) with e2 | e2
          · have gr2 : decide (r2 = 1) = true := decide_eq_true e2
            clear hend hjmp hthr hI hen hcnj hen1' hen2
            have hI2 := hI3
            repeat (first | (simp only [g48]; cbv) | simp only [g48] | (simp only [g49]; cbv) | simp only [g49] | (simp only [hjm]; cbv) | simp only [hjm] | (simp only [g40]; cbv) | simp only [g40] | (refine ⟨p2,_,g3, ?_⟩; cbv) | (simp only [wr2]; cbv) | simp only [wr2] | (simp only [gr2]; cbv) | simp only [gr2] | (simp only [wj]; cbv) | simp only [wj])
            refine .mk (E.wadd .i64 j 1, a, dj, s) ⟨rfl, rfl, rfl, rfl, rfl⟩ ?_ ?_
            · exact hI2
            · exact hM2
          have gr2 : decide (r2 = 1) = false := decide_eq_false e2
          have hE2 := hend sc hsc (hen1' e40)
          have hI2 := hI _ _ _ hE2
          clear hend hjmp hthr hI hen hcnj hen1' hen2 hI3 hE2
          rcases Classical.em (op = 19) with e19 | e19
          · have g19 : decide (op = 19) = true := decide_eq_true e19
            have g20 : decide (op = 20) = false := decide_eq_false (by omega)
            rw [hsp, if_pos e19] at hsc
            cases hsc
            generalize s + 1 = s1 at *
            repeat (first | (simp only [g48]; cbv) | simp only [g48] | (simp only [g49]; cbv) | simp only [g49] | (simp only [hjm]; cbv) | simp only [hjm] | (simp only [g40]; cbv) | simp only [g40] | (refine ⟨p2,_,g3, ?_⟩; cbv) | (simp only [wr2]; cbv) | simp only [wr2] | (simp only [gr2]; cbv) | simp only [gr2] | (simp only [wpt]; cbv) | simp only [wpt] | (simp only [wn]; cbv) | simp only [wn] | (simp only [g19]; cbv) | simp only [g19] | (simp only [ws1]; cbv) | simp only [ws1] | (simp only [g20]; cbv) | simp only [g20] | (simp only [lsp]; cbv) | simp only [lsp] | (simp only [wat]; cbv) | simp only [wat])
            refine .mk (E.wadd .i64 j 1, at1, nd, s1) ⟨rfl, rfl, rfl, rfl, rfl⟩ ?_ ?_
            · exact hI2
            · exact hM2
          have g19 : decide (op = 19) = false := decide_eq_false e19
          rcases Classical.em (op = 20) with e20 | e20
          · have g20 : decide (op = 20) = true := decide_eq_true e20
            rw [hsp, if_neg e19, if_pos e20] at hsc
            split at hsc
            · rename_i h1s
              have lsm := lsm0 h1s
              cases hsc
              clear lsm0
              generalize s - 1 = s1 at *
              repeat (first | (simp only [g48]; cbv) | simp only [g48] | (simp only [g49]; cbv) | simp only [g49] | (simp only [hjm]; cbv) | simp only [hjm] | (simp only [g40]; cbv) | simp only [g40] | (refine ⟨p2,_,g3, ?_⟩; cbv) | (simp only [wr2]; cbv) | simp only [wr2] | (simp only [gr2]; cbv) | simp only [gr2] | (simp only [wpt]; cbv) | simp only [wpt] | (simp only [wn]; cbv) | simp only [wn] | (simp only [g19]; cbv) | simp only [g19] | (simp only [g20]; cbv) | simp only [g20] | (simp only [ws2]; cbv) | simp only [ws2] | (simp only [lsm]; cbv) | simp only [lsm] | (simp only [wat]; cbv) | simp only [wat])
              refine .mk (E.wadd .i64 j 1, at1, nd, s1) ⟨rfl, rfl, rfl, rfl, rfl⟩ ?_ ?_
              · exact hI2
              · exact hM2
            · cases hsc
          have g20 : decide (op = 20) = false := decide_eq_false e20
          have hsc2 : s = sc := by
            rw [hsp, if_neg e19, if_neg e20] at hsc
            split at hsc
            · split at hsc
              · cases hsc; rfl
              · cases hsc
            · cases hsc; rfl
          rw [← hsc2] at hI2
          repeat (first | (simp only [g48]; cbv) | simp only [g48] | (simp only [g49]; cbv) | simp only [g49] | (simp only [hjm]; cbv) | simp only [hjm] | (simp only [g40]; cbv) | simp only [g40] | (refine ⟨p2,_,g3, ?_⟩; cbv) | (simp only [wr2]; cbv) | simp only [wr2] | (simp only [gr2]; cbv) | simp only [gr2] | (simp only [wpt]; cbv) | simp only [wpt] | (simp only [wn]; cbv) | simp only [wn] | (simp only [g19]; cbv) | simp only [g19] | (simp only [g20]; cbv) | simp only [g20] | (simp only [ls0]; cbv) | simp only [ls0] | (simp only [wat]; cbv) | simp only [wat])
          refine .mk (E.wadd .i64 j 1, at1, nd, s) ⟨rfl, rfl, rfl, rfl, rfl⟩ ?_ ?_
          · exact hI2
          · exact hM2
        · have hjm : decide (od = 7) = false := decide_eq_false e7
          have e40 : op ≠ 40 := fun h => e7 (by rw [← hod, h]; rfl)
          have hE2 := hend sc hsc (hen1' e40)
          have hI2 := hI _ _ _ hE2
          clear hend hjmp hthr hI hen hcnj hen1' hen2 hE2
          rcases Classical.em (op = 19) with e19 | e19
          · have g19 : decide (op = 19) = true := decide_eq_true e19
            have g20 : decide (op = 20) = false := decide_eq_false (by omega)
            rw [hsp, if_pos e19] at hsc
            cases hsc
            generalize s + 1 = s1 at *
            repeat (first | (simp only [g48]; cbv) | simp only [g48] | (simp only [g49]; cbv) | simp only [g49] | (simp only [hjm]; cbv) | simp only [hjm] | (simp only [wpt]; cbv) | simp only [wpt] | (simp only [wn]; cbv) | simp only [wn] | (simp only [g19]; cbv) | simp only [g19] | (simp only [ws1]; cbv) | simp only [ws1] | (simp only [g20]; cbv) | simp only [g20] | (simp only [lsp]; cbv) | simp only [lsp] | (simp only [wat]; cbv) | simp only [wat])
            refine .mk (E.wadd .i64 j 1, at1, nd, s1) ⟨rfl, rfl, rfl, rfl, rfl⟩ ?_ ?_
            · exact hI2
            · exact hM2
          have g19 : decide (op = 19) = false := decide_eq_false e19
          rcases Classical.em (op = 20) with e20 | e20
          · have g20 : decide (op = 20) = true := decide_eq_true e20
            rw [hsp, if_neg e19, if_pos e20] at hsc
            split at hsc
            · rename_i h1s
              have lsm := lsm0 h1s
              cases hsc
              clear lsm0
              generalize s - 1 = s1 at *
              repeat (first | (simp only [g48]; cbv) | simp only [g48] | (simp only [g49]; cbv) | simp only [g49] | (simp only [hjm]; cbv) | simp only [hjm] | (simp only [wpt]; cbv) | simp only [wpt] | (simp only [wn]; cbv) | simp only [wn] | (simp only [g19]; cbv) | simp only [g19] | (simp only [g20]; cbv) | simp only [g20] | (simp only [ws2]; cbv) | simp only [ws2] | (simp only [lsm]; cbv) | simp only [lsm] | (simp only [wat]; cbv) | simp only [wat])
              refine .mk (E.wadd .i64 j 1, at1, nd, s1) ⟨rfl, rfl, rfl, rfl, rfl⟩ ?_ ?_
              · exact hI2
              · exact hM2
            · cases hsc
          have g20 : decide (op = 20) = false := decide_eq_false e20
          have hsc2 : s = sc := by
            rw [hsp, if_neg e19, if_neg e20] at hsc
            split at hsc
            · split at hsc
              · cases hsc; rfl
              · cases hsc
            · cases hsc; rfl
          rw [← hsc2] at hI2
          repeat (first | (simp only [g48]; cbv) | simp only [g48] | (simp only [g49]; cbv) | simp only [g49] | (simp only [hjm]; cbv) | simp only [hjm] | (simp only [wpt]; cbv) | simp only [wpt] | (simp only [wn]; cbv) | simp only [wn] | (simp only [g19]; cbv) | simp only [g19] | (simp only [g20]; cbv) | simp only [g20] | (simp only [ls0]; cbv) | simp only [ls0] | (simp only [wat]; cbv) | simp only [wat])
          refine .mk (E.wadd .i64 j 1, at1, nd, s) ⟨rfl, rfl, rfl, rfl, rfl⟩ ?_ ?_
          · exact hI2
          · exact hM2
  · rw [decide_eq_false hj] at dd
    clear hcg hlg hwg hlat hone hfree hfit hws hfc hfh hth hdr hHR
    cbv
    repeat (first | (simp only [hwl]; cbv) | simp only [hwl] | (simp only [dd]; cbv) | simp only [dd])
end Go.Proofs.YtlffpgjkhehdmaaDoor
