/- Own work: the reference of layer 29: spread, where an instruction can be followed: it fails. -/
import Derived.Test.YtlffpgjkhehdmaaDoorZVR2
namespace Go.Proofs.YtlffpgjkhehdmaaDoor
open Go.RowKit
set_option maxRecDepth 100000

set_option maxHeartbeats 16000000 in
theorem spread_die (f : Fn) (hf : FnV f) (hfs : ∀ h ∈ f.hdls.map hdOf, 0 ≤ h.sc) (st : WS2) (n : Nat) (hn : st.sh.length = n) (hnc : f.code.length = n) (i : Int) (hi : 0 ≤ i) (op a b d s : Int) (hrow : f.code[i.toNat]? = some ⟨op, a, b⟩) (hrow2 : st.sh[i.toNat]? = some (d, s))
    (h0 : 1 ≤ op) (h1 : op ≤ 53) (ha0 : 0 ≤ a) (ha1 : a ≤ 100000) (hd0 : 0 ≤ d) (hd1 : d ≤ 10000) (hs0 : 0 ≤ s) (hs1 : s ≤ 1000) (hg : gfail (takesP op a) d (decide (operandOf op = 7)) (decide (op = 40)) = false) (hgo : spreadP (f.hdls.map hdOf) i op a d s st = none) :
    VM 47 [.p (.agg (pFn f)), .osl 0 0 n, .p (pI i)] [shB (pSh st.sh)] (.p (pB false)) [none] := by
  have hg7 := (gfail_iff _ _ _ _).1 hg
  have hv : spreadP (f.hdls.map hdOf) i op a d s st = (restP i op a d s st).bind fun st => hdlsP i (d - takesP op a) s st (f.hdls.map hdOf) := if_pos hg7
  rw [hv] at hgo
  have hl1 := hf.l1
  have hl2 := hf.l2
  have hh := hf.hdl
  have dr := rdesc_ret op h0 h1
  have hp0 := pops_bnd op
  have hpu0 := pushes_bnd op
  have hpun := pushes_nn op
  have hjp0 := jmp_bnd op
  have hjn : operandOf op = 7 → 0 ≤ d + jmpOf op := fun h => jmp_40 (hg7.2.resolve_left fun h2 => h2 h) hd0
  have hil : i.toNat < n := by have := (List.getElem?_eq_some_iff.1 hrow).1; omega
  replace hrow := pCode_get hrow
  replace hrow2 := pSh_get hrow2
  have hHl : (pHdls f.hdls).length = f.hdls.length := by simp [pHdls]
  have hHg : ∀ (k : Nat) h, (f.hdls.map hdOf)[k]? = some h → (pHdls f.hdls)[k]? = some (pHd h) := fun k h e => by rw [← pHds_of, pHds, List.getElem?_map, e]; rfl
  rw [show f.hdls.length = (f.hdls.map hdOf).length by simp] at hHl hl2
  unfold pInfo at dr
  have htk0 : takesP op a = if cntOf op then popsOf op + a else popsOf op := rfl
  unfold pFn
  have hrst : restP i op a d s st = (scopeP op s).bind fun sc => (if endsOf op then some st else reachP st (i + 1) (d - takesP op a + pushesOf op, sc)).bind fun st => if decide (operandOf op = 7) then reachP st a (d + jmpOf op, s) else some st := by
    unfold restP
    congr 1
    funext sc
    congr 1
    funext st1
    by_cases h : operandOf op = 7 <;> simp [h]
  rw [hrst] at hgo
  obtain ⟨tk, htk⟩ : ∃ x, takesP op a = x := ⟨_, rfl⟩
  obtain ⟨jm, hjm⟩ : ∃ x, decide (operandOf op = 7) = x := ⟨_, rfl⟩
  obtain ⟨b40, hb40⟩ : ∃ x, decide (op = 40) = x := ⟨_, rfl⟩
  rw [hjm, hb40, htk] at hg
  rw [htk] at htk0 hg7
  rw [htk, hjm] at hgo
  replace hjn : jm = true → 0 ≤ d + jmpOf op := fun h => hjn (of_decide_eq_true (by rw [hjm]; exact h))
  obtain ⟨od, hod⟩ : ∃ x, operandOf op = x := ⟨_, rfl⟩
  rw [hod] at dr hjm
  clear hv hrst htk hod hg7
  generalize nameOf op = nm at *
  generalize popsOf op = pp at *
  generalize pushesOf op = pu at *
  generalize jmpOf op = jp at *
  generalize endsOf op = en at *
  generalize cntOf op = cn at *
  generalize pCode f.code = CD at *
  generalize pCons f.consts = CS at *
  generalize pHdls f.hdls = HR at *
  generalize f.hdls.map hdOf = hs at *
  generalize f.name = fnm at *
  generalize f.kind = fkd at *
  generalize f.params = fpa at *
  generalize f.locals = flo at *
  clear hf
  obtain ⟨lim, hlim⟩ : ∃ x, d - tk = x := ⟨_, rfl⟩
  rw [hlim] at hgo
  obtain ⟨nd, hnd⟩ : ∃ x, lim + pu = x := ⟨_, rfl⟩
  rw [hnd] at hgo
  obtain ⟨o, hoo⟩ : ∃ x, (none : Option WS2) = x := ⟨_, rfl⟩
  rw [hoo] at hgo
  have ho := hgo
  clear hgo
  have hn0 : 0 < n := by omega
  obtain ⟨shr, hshr⟩ : ∃ x, pSh st.sh = x := ⟨_, rfl⟩
  rw [hshr] at hrow2 ⊢
  obtain ⟨nH, hnH⟩ : ∃ x, hs.length = x := ⟨_, rfl⟩
  rw [hnH] at hHl
  have tb : 0 ≤ tk ∧ tk ≤ 110010 := by rw [htk0]; split <;> omega
  have lb : 0 ≤ lim := by
    unfold gfail at hg
    split at hg
    · have := of_decide_eq_false hg
      split at this <;> omega
    · have := of_decide_eq_false hg
      omega
  have nb : 0 ≤ nd ∧ nd ≤ 10100 := by omega
  refine retm_cutD tyT_ok (f := 47) Tryd.func47 rfl (by kernel_rfl) (of_decide_eq_true (by kernel_rfl)) fun tags htl => ?_
  match tags, htl with
  | [t0], _ =>
    -- the head
    refine Seg.cutKK 9 168 [1, 2, 3, 7, 8, 9, 11] 5 (fun _ : Unit => [.osl 0 0 n, .p (pI i), .own 1 0, .own 2 0, .own 3 0, .own 4 0, .p (pI lim)]) (fun _ => [shB shr, some (.box [.p (pS fnm), .p (pI fkd), .p (pI fpa), .p (pI flo), .p (.ro 3 CD), .p (.ro 3 CS), .p (.ro 5 HR)] 50 none), some (.box [.p (pI op), .p (pI a), .p (pI b)] 54 none), some (.box [.p (.v (.string nm)), .p (pI od), .p (pI pp), .p (pI pu), .p (pB cn), .p (pI jp), .p (pB en)] 28 none), some (.box [.p (pI d), .p (pI s)] 52 none)]) (fun _ => True) tyT_ok mixed (fun _ => 0) (fun E => retQD E tyT Tryd.f47.results.toList [t0] (.p (pB false)) [none]) (by kernel_rfl) ?_ ?_
    · have w2 : cn = false → pp = tk := fun h => by rw [h] at htk0; exact htk0.symm
      have w1' : cn = true → pp + a = tk := fun h => by rw [h] at htk0; exact htk0.symm
      unfold gfail at hg
      generalize hmk : (if tk < 1 then (1 : Int) else tk) = mk at *
      have g1' : jm = true → b40 = false → decide (d < mk) = false := fun h1 h2 => by rw [h1, h2] at hg; exact hg
      have g2' : (jm = false ∨ b40 = true) → decide (d < tk) = false := fun h => by
        rcases h with h | h
        · rw [h] at hg; exact hg
        · rw [h] at hg
          cases jm <;> exact hg
      clear htk0 hg ho hh hfs hHg hHl hnH hl1 hl2 hshr
      cases cn
      · obtain rfl := w2 rfl
        clear w1' w2
        cases jm
        · replace g2' := g2' (.inl rfl)
          intro P G E hc hM hK hE
          replace dr := hc _ _ _ dr
          have elt : ∀ a b, E.lti a b = decide (a < b) := fun a b => by rw [hE]; rfl
          have ele : ∀ a b, E.lei a b = decide (a ≤ b) := fun a b => by rw [hE]; rfl
          have eofn : ∀ n, E.ofN n = (n : Int) := fun n => by rw [hE]; rfl
          have enat : ∀ i, E.nat i = i.toNat := fun i => by rw [hE]; rfl
          have eple : ∀ a b, a ≤ b → E.ple a b := fun a b h => by rw [hE]; exact h
          have eadd : ∀ a b : Int, -1000000 ≤ a → a ≤ 1000000 → -1000000 ≤ b → b ≤ 1000000 → E.wadd .i64 a b = a + b := fun a b h0 h1 h2 h3 => by rw [hE]; exact wrap_i64_in (by omega) (by omega)
          have esb : ∀ a b : Int, -1000000 ≤ a → a ≤ 1000000 → -1000000 ≤ b → b ≤ 1000000 → E.wsub .i64 a b = a - b := fun a b h0 h1 h2 h3 => by rw [hE]; exact wrap_i64_in (by omega) (by omega)
          have emx : ∀ a b, E.max a b = if a < b then b else a := fun a b => by rw [hE]; rfl
          have p1 := eple 0 i hi
          have p2 : E.plt i (E.ofN n) := by rw [hE]; show i < (n : Int); omega
          have e1 : E.addN 0 (E.nat i) = i.toNat := by rw [hE]; exact Nat.zero_add _
          have r1 : CD[E.nat i]? = some [pI op, pI a, pI b] := by rw [enat]; exact hrow
          have r2 : shr[E.addN 0 (E.nat i)]? = some [pI d, pI s] := by rw [e1]; exact hrow2
          skip
          have w3 := esb d pp (by omega) (by omega) (by omega) (by omega)
          rw [hlim] at w3
          have g2 : E.lti d pp = false := by rw [elt]; exact g2'
          clear hrow hrow2 elt ele eofn enat eple eadd esb emx tb
          cbv
          repeat (first | (refine ⟨p1,_,r1, ?_⟩; cbv) | (refine ⟨_, dr, ?_⟩; cbv) | (refine ⟨p1,p2, ?_⟩; cbv) | (refine ⟨_,r2, ?_⟩; cbv) | (simp only [w3]; cbv) | simp only [w3] | (simp only [hjm]; cbv) | simp only [hjm] | (simp only [g2]; cbv) | simp only [g2])
          exact .mk () ⟨rfl, rfl, rfl, rfl, rfl⟩ trivial
        · cases b40
          · replace g1' := g1' rfl rfl
            intro P G E hc hM hK hE
            replace dr := hc _ _ _ dr
            have elt : ∀ a b, E.lti a b = decide (a < b) := fun a b => by rw [hE]; rfl
            have ele : ∀ a b, E.lei a b = decide (a ≤ b) := fun a b => by rw [hE]; rfl
            have eofn : ∀ n, E.ofN n = (n : Int) := fun n => by rw [hE]; rfl
            have enat : ∀ i, E.nat i = i.toNat := fun i => by rw [hE]; rfl
            have eple : ∀ a b, a ≤ b → E.ple a b := fun a b h => by rw [hE]; exact h
            have eadd : ∀ a b : Int, -1000000 ≤ a → a ≤ 1000000 → -1000000 ≤ b → b ≤ 1000000 → E.wadd .i64 a b = a + b := fun a b h0 h1 h2 h3 => by rw [hE]; exact wrap_i64_in (by omega) (by omega)
            have esb : ∀ a b : Int, -1000000 ≤ a → a ≤ 1000000 → -1000000 ≤ b → b ≤ 1000000 → E.wsub .i64 a b = a - b := fun a b h0 h1 h2 h3 => by rw [hE]; exact wrap_i64_in (by omega) (by omega)
            have emx : ∀ a b, E.max a b = if a < b then b else a := fun a b => by rw [hE]; rfl
            have p1 := eple 0 i hi
            have p2 : E.plt i (E.ofN n) := by rw [hE]; show i < (n : Int); omega
            have e1 : E.addN 0 (E.nat i) = i.toNat := by rw [hE]; exact Nat.zero_add _
            have r1 : CD[E.nat i]? = some [pI op, pI a, pI b] := by rw [enat]; exact hrow
            have r2 : shr[E.addN 0 (E.nat i)]? = some [pI d, pI s] := by rw [e1]; exact hrow2
            skip
            have w3 := esb d pp (by omega) (by omega) (by omega) (by omega)
            rw [hlim] at w3
            have g1 : E.lti d mk = false := by rw [elt]; exact g1'
            have w4 : E.max pp 1 = mk := by rw [emx]; exact hmk
            clear hrow hrow2 elt ele eofn enat eple eadd esb emx tb
            cbv
            repeat (first | (refine ⟨p1,_,r1, ?_⟩; cbv) | (refine ⟨_, dr, ?_⟩; cbv) | (refine ⟨p1,p2, ?_⟩; cbv) | (refine ⟨_,r2, ?_⟩; cbv) | (simp only [w3]; cbv) | simp only [w3] | (simp only [hjm]; cbv) | simp only [hjm] | (simp only [hb40]; cbv) | simp only [hb40] | (simp only [w4]; cbv) | simp only [w4] | (simp only [g1]; cbv) | simp only [g1])
            exact .mk () ⟨rfl, rfl, rfl, rfl, rfl⟩ trivial
          · replace g2' := g2' (.inr rfl)
            intro P G E hc hM hK hE
            replace dr := hc _ _ _ dr
            have elt : ∀ a b, E.lti a b = decide (a < b) := fun a b => by rw [hE]; rfl
            have ele : ∀ a b, E.lei a b = decide (a ≤ b) := fun a b => by rw [hE]; rfl
            have eofn : ∀ n, E.ofN n = (n : Int) := fun n => by rw [hE]; rfl
            have enat : ∀ i, E.nat i = i.toNat := fun i => by rw [hE]; rfl
            have eple : ∀ a b, a ≤ b → E.ple a b := fun a b h => by rw [hE]; exact h
            have eadd : ∀ a b : Int, -1000000 ≤ a → a ≤ 1000000 → -1000000 ≤ b → b ≤ 1000000 → E.wadd .i64 a b = a + b := fun a b h0 h1 h2 h3 => by rw [hE]; exact wrap_i64_in (by omega) (by omega)
            have esb : ∀ a b : Int, -1000000 ≤ a → a ≤ 1000000 → -1000000 ≤ b → b ≤ 1000000 → E.wsub .i64 a b = a - b := fun a b h0 h1 h2 h3 => by rw [hE]; exact wrap_i64_in (by omega) (by omega)
            have emx : ∀ a b, E.max a b = if a < b then b else a := fun a b => by rw [hE]; rfl
            have p1 := eple 0 i hi
            have p2 : E.plt i (E.ofN n) := by rw [hE]; show i < (n : Int); omega
            have e1 : E.addN 0 (E.nat i) = i.toNat := by rw [hE]; exact Nat.zero_add _
            have r1 : CD[E.nat i]? = some [pI op, pI a, pI b] := by rw [enat]; exact hrow
            have r2 : shr[E.addN 0 (E.nat i)]? = some [pI d, pI s] := by rw [e1]; exact hrow2
            skip
            have w3 := esb d pp (by omega) (by omega) (by omega) (by omega)
            rw [hlim] at w3
            have g2 : E.lti d pp = false := by rw [elt]; exact g2'
            clear hrow hrow2 elt ele eofn enat eple eadd esb emx tb
            cbv
            repeat (first | (refine ⟨p1,_,r1, ?_⟩; cbv) | (refine ⟨_, dr, ?_⟩; cbv) | (refine ⟨p1,p2, ?_⟩; cbv) | (refine ⟨_,r2, ?_⟩; cbv) | (simp only [w3]; cbv) | simp only [w3] | (simp only [hjm]; cbv) | simp only [hjm] | (simp only [hb40]; cbv) | simp only [hb40] | (simp only [g2]; cbv) | simp only [g2])
            exact .mk () ⟨rfl, rfl, rfl, rfl, rfl⟩ trivial
      · replace w1' := w1' rfl
        clear w2
        cases jm
        · replace g2' := g2' (.inl rfl)
          intro P G E hc hM hK hE
          replace dr := hc _ _ _ dr
          have elt : ∀ a b, E.lti a b = decide (a < b) := fun a b => by rw [hE]; rfl
          have ele : ∀ a b, E.lei a b = decide (a ≤ b) := fun a b => by rw [hE]; rfl
          have eofn : ∀ n, E.ofN n = (n : Int) := fun n => by rw [hE]; rfl
          have enat : ∀ i, E.nat i = i.toNat := fun i => by rw [hE]; rfl
          have eple : ∀ a b, a ≤ b → E.ple a b := fun a b h => by rw [hE]; exact h
          have eadd : ∀ a b : Int, -1000000 ≤ a → a ≤ 1000000 → -1000000 ≤ b → b ≤ 1000000 → E.wadd .i64 a b = a + b := fun a b h0 h1 h2 h3 => by rw [hE]; exact wrap_i64_in (by omega) (by omega)
          have esb : ∀ a b : Int, -1000000 ≤ a → a ≤ 1000000 → -1000000 ≤ b → b ≤ 1000000 → E.wsub .i64 a b = a - b := fun a b h0 h1 h2 h3 => by rw [hE]; exact wrap_i64_in (by omega) (by omega)
          have emx : ∀ a b, E.max a b = if a < b then b else a := fun a b => by rw [hE]; rfl
          have p1 := eple 0 i hi
          have p2 : E.plt i (E.ofN n) := by rw [hE]; show i < (n : Int); omega
          have e1 : E.addN 0 (E.nat i) = i.toNat := by rw [hE]; exact Nat.zero_add _
          have r1 : CD[E.nat i]? = some [pI op, pI a, pI b] := by rw [enat]; exact hrow
          have r2 : shr[E.addN 0 (E.nat i)]? = some [pI d, pI s] := by rw [e1]; exact hrow2
          have w1 : E.wadd .i64 pp a = tk := by rw [eadd pp a (by omega) (by omega) (by omega) (by omega)]; exact w1'
          have w3 := esb d tk (by omega) (by omega) (by omega) (by omega)
          rw [hlim] at w3
          have g2 : E.lti d tk = false := by rw [elt]; exact g2'
          clear hrow hrow2 elt ele eofn enat eple eadd esb emx tb
          cbv
          repeat (first | (refine ⟨p1,_,r1, ?_⟩; cbv) | (refine ⟨_, dr, ?_⟩; cbv) | (refine ⟨p1,p2, ?_⟩; cbv) | (refine ⟨_,r2, ?_⟩; cbv) | (simp only [w3]; cbv) | simp only [w3] | (simp only [w1]; cbv) | simp only [w1] | (simp only [w3]; cbv) | simp only [w3] | (simp only [hjm]; cbv) | simp only [hjm] | (simp only [g2]; cbv) | simp only [g2])
          exact .mk () ⟨rfl, rfl, rfl, rfl, rfl⟩ trivial
        · cases b40
          · replace g1' := g1' rfl rfl
            intro P G E hc hM hK hE
            replace dr := hc _ _ _ dr
            have elt : ∀ a b, E.lti a b = decide (a < b) := fun a b => by rw [hE]; rfl
            have ele : ∀ a b, E.lei a b = decide (a ≤ b) := fun a b => by rw [hE]; rfl
            have eofn : ∀ n, E.ofN n = (n : Int) := fun n => by rw [hE]; rfl
            have enat : ∀ i, E.nat i = i.toNat := fun i => by rw [hE]; rfl
            have eple : ∀ a b, a ≤ b → E.ple a b := fun a b h => by rw [hE]; exact h
            have eadd : ∀ a b : Int, -1000000 ≤ a → a ≤ 1000000 → -1000000 ≤ b → b ≤ 1000000 → E.wadd .i64 a b = a + b := fun a b h0 h1 h2 h3 => by rw [hE]; exact wrap_i64_in (by omega) (by omega)
            have esb : ∀ a b : Int, -1000000 ≤ a → a ≤ 1000000 → -1000000 ≤ b → b ≤ 1000000 → E.wsub .i64 a b = a - b := fun a b h0 h1 h2 h3 => by rw [hE]; exact wrap_i64_in (by omega) (by omega)
            have emx : ∀ a b, E.max a b = if a < b then b else a := fun a b => by rw [hE]; rfl
            have p1 := eple 0 i hi
            have p2 : E.plt i (E.ofN n) := by rw [hE]; show i < (n : Int); omega
            have e1 : E.addN 0 (E.nat i) = i.toNat := by rw [hE]; exact Nat.zero_add _
            have r1 : CD[E.nat i]? = some [pI op, pI a, pI b] := by rw [enat]; exact hrow
            have r2 : shr[E.addN 0 (E.nat i)]? = some [pI d, pI s] := by rw [e1]; exact hrow2
            have w1 : E.wadd .i64 pp a = tk := by rw [eadd pp a (by omega) (by omega) (by omega) (by omega)]; exact w1'
            have w3 := esb d tk (by omega) (by omega) (by omega) (by omega)
            rw [hlim] at w3
            have g1 : E.lti d mk = false := by rw [elt]; exact g1'
            have w4 : E.max tk 1 = mk := by rw [emx]; exact hmk
            clear hrow hrow2 elt ele eofn enat eple eadd esb emx tb
            cbv
            repeat (first | (refine ⟨p1,_,r1, ?_⟩; cbv) | (refine ⟨_, dr, ?_⟩; cbv) | (refine ⟨p1,p2, ?_⟩; cbv) | (refine ⟨_,r2, ?_⟩; cbv) | (simp only [w3]; cbv) | simp only [w3] | (simp only [w1]; cbv) | simp only [w1] | (simp only [w3]; cbv) | simp only [w3] | (simp only [hjm]; cbv) | simp only [hjm] | (simp only [hb40]; cbv) | simp only [hb40] | (simp only [w4]; cbv) | simp only [w4] | (simp only [g1]; cbv) | simp only [g1])
            exact .mk () ⟨rfl, rfl, rfl, rfl, rfl⟩ trivial
          · replace g2' := g2' (.inr rfl)
            intro P G E hc hM hK hE
            replace dr := hc _ _ _ dr
            have elt : ∀ a b, E.lti a b = decide (a < b) := fun a b => by rw [hE]; rfl
            have ele : ∀ a b, E.lei a b = decide (a ≤ b) := fun a b => by rw [hE]; rfl
            have eofn : ∀ n, E.ofN n = (n : Int) := fun n => by rw [hE]; rfl
            have enat : ∀ i, E.nat i = i.toNat := fun i => by rw [hE]; rfl
            have eple : ∀ a b, a ≤ b → E.ple a b := fun a b h => by rw [hE]; exact h
            have eadd : ∀ a b : Int, -1000000 ≤ a → a ≤ 1000000 → -1000000 ≤ b → b ≤ 1000000 → E.wadd .i64 a b = a + b := fun a b h0 h1 h2 h3 => by rw [hE]; exact wrap_i64_in (by omega) (by omega)
            have esb : ∀ a b : Int, -1000000 ≤ a → a ≤ 1000000 → -1000000 ≤ b → b ≤ 1000000 → E.wsub .i64 a b = a - b := fun a b h0 h1 h2 h3 => by rw [hE]; exact wrap_i64_in (by omega) (by omega)
            have emx : ∀ a b, E.max a b = if a < b then b else a := fun a b => by rw [hE]; rfl
            have p1 := eple 0 i hi
            have p2 : E.plt i (E.ofN n) := by rw [hE]; show i < (n : Int); omega
            have e1 : E.addN 0 (E.nat i) = i.toNat := by rw [hE]; exact Nat.zero_add _
            have r1 : CD[E.nat i]? = some [pI op, pI a, pI b] := by rw [enat]; exact hrow
            have r2 : shr[E.addN 0 (E.nat i)]? = some [pI d, pI s] := by rw [e1]; exact hrow2
            have w1 : E.wadd .i64 pp a = tk := by rw [eadd pp a (by omega) (by omega) (by omega) (by omega)]; exact w1'
            have w3 := esb d tk (by omega) (by omega) (by omega) (by omega)
            rw [hlim] at w3
            have g2 : E.lti d tk = false := by rw [elt]; exact g2'
            clear hrow hrow2 elt ele eofn enat eple eadd esb emx tb
            cbv
            repeat (first | (refine ⟨p1,_,r1, ?_⟩; cbv) | (refine ⟨_, dr, ?_⟩; cbv) | (refine ⟨p1,p2, ?_⟩; cbv) | (refine ⟨_,r2, ?_⟩; cbv) | (simp only [w3]; cbv) | simp only [w3] | (simp only [w1]; cbv) | simp only [w1] | (simp only [w3]; cbv) | simp only [w3] | (simp only [hjm]; cbv) | simp only [hjm] | (simp only [hb40]; cbv) | simp only [hb40] | (simp only [g2]; cbv) | simp only [g2])
            exact .mk () ⟨rfl, rfl, rfl, rfl, rfl⟩ trivial
    intro _ _
    clear hrow hrow2 dr hg
    -- the shape behind
    refine Seg.cutKK 4 168 [1, 2, 3, 7, 8, 9, 11, 12] 6 (fun _ : Int => [.osl 0 0 n, .p (pI i), .own 1 0, .own 2 0, .own 3 0, .own 4 0, .p (pI lim), .own 5 0]) (fun sc => [shB shr, some (.box [.p (pS fnm), .p (pI fkd), .p (pI fpa), .p (pI flo), .p (.ro 3 CD), .p (.ro 3 CS), .p (.ro 5 HR)] 50 none), some (.box [.p (pI op), .p (pI a), .p (pI b)] 54 none), some (.box [.p (.v (.string nm)), .p (pI od), .p (pI pp), .p (pI pu), .p (pB cn), .p (pI jp), .p (pB en)] 28 none), some (.box [.p (pI d), .p (pI s)] 52 none)] ++ [some (.box [.p (pI nd), .p (pI sc)] 52 none)]) (fun sc => scopeP op s = some sc) tyT_ok mixed (fun _ => 0) (fun E => retQD E tyT Tryd.f47.results.toList [t0] (.p (pB false)) [none]) (by kernel_rfl) ?_ ?_
    · have w4 : cn = true → d - pp + pu - a = nd := fun h => by rw [h] at htk0; replace htk0 : tk = pp + a := htk0; omega
      have w5 : cn = false → d - pp + pu = nd := fun h => by rw [h] at htk0; replace htk0 : tk = pp := htk0; omega
      have hsp : scopeP op s = if op = 19 then some (s + 1) else if op = 20 then (if 1 ≤ s then some (s - 1) else none) else if op = 21 then (if 1 ≤ s then some s else none) else some s := rfl
      clear htk0 ho hh hfs hHg hHl hnH hl1 hl2 hshr
      generalize scopeP op s = scp at *
      generalize hv1 : d - pp = v1 at *
      generalize hv2 : v1 + pu = v2 at *
      generalize hs1' : s + 1 = s1 at *
      generalize hs2' : s - 1 = s2 at *
      rcases Classical.em (op = 19) with e19 | e19
      · have g19 : decide (op = 19) = true := decide_eq_true e19
        rw [if_pos e19] at hsp
        cases cn
        · replace w5 := w5 rfl
          subst w5
          intro P G E hc hM hK hE
          have elt : ∀ a b, E.lti a b = decide (a < b) := fun a b => by rw [hE]; rfl
          have ele : ∀ a b, E.lei a b = decide (a ≤ b) := fun a b => by rw [hE]; rfl
          have eofn : ∀ n, E.ofN n = (n : Int) := fun n => by rw [hE]; rfl
          have enat : ∀ i, E.nat i = i.toNat := fun i => by rw [hE]; rfl
          have eple : ∀ a b, a ≤ b → E.ple a b := fun a b h => by rw [hE]; exact h
          have eadd : ∀ a b : Int, -1000000 ≤ a → a ≤ 1000000 → -1000000 ≤ b → b ≤ 1000000 → E.wadd .i64 a b = a + b := fun a b h0 h1 h2 h3 => by rw [hE]; exact wrap_i64_in (by omega) (by omega)
          have esb : ∀ a b : Int, -1000000 ≤ a → a ≤ 1000000 → -1000000 ≤ b → b ≤ 1000000 → E.wsub .i64 a b = a - b := fun a b h0 h1 h2 h3 => by rw [hE]; exact wrap_i64_in (by omega) (by omega)
          have emx : ∀ a b, E.max a b = if a < b then b else a := fun a b => by rw [hE]; rfl
          have w1 : E.wsub .i64 d pp = v1 := by rw [esb d pp (by omega) (by omega) (by omega) (by omega)]; exact hv1
          have w2 : E.wadd .i64 v1 pu = v2 := by rw [eadd v1 pu (by omega) (by omega) (by omega) (by omega)]; exact hv2
          have ws1 : E.wadd .i64 s 1 = s1 := by rw [eadd s 1 (by omega) (by omega) (by omega) (by omega)]; exact hs1'
          have ws2 : E.wsub .i64 s 1 = s2 := by rw [esb s 1 (by omega) (by omega) (by omega) (by omega)]; exact hs2'
          skip
          clear elt ele eofn enat eple eadd esb emx tb
          cbv
          repeat (first | (simp only [w1]; cbv) | simp only [w1] | (simp only [w2]; cbv) | simp only [w2] | (simp only [g19]; cbv) | simp only [g19] | (simp only [ws1]; cbv) | simp only [ws1])
          exact .mk s1 ⟨rfl, rfl, rfl, rfl, rfl⟩ hsp
        · replace w4 := w4 rfl
          intro P G E hc hM hK hE
          have elt : ∀ a b, E.lti a b = decide (a < b) := fun a b => by rw [hE]; rfl
          have ele : ∀ a b, E.lei a b = decide (a ≤ b) := fun a b => by rw [hE]; rfl
          have eofn : ∀ n, E.ofN n = (n : Int) := fun n => by rw [hE]; rfl
          have enat : ∀ i, E.nat i = i.toNat := fun i => by rw [hE]; rfl
          have eple : ∀ a b, a ≤ b → E.ple a b := fun a b h => by rw [hE]; exact h
          have eadd : ∀ a b : Int, -1000000 ≤ a → a ≤ 1000000 → -1000000 ≤ b → b ≤ 1000000 → E.wadd .i64 a b = a + b := fun a b h0 h1 h2 h3 => by rw [hE]; exact wrap_i64_in (by omega) (by omega)
          have esb : ∀ a b : Int, -1000000 ≤ a → a ≤ 1000000 → -1000000 ≤ b → b ≤ 1000000 → E.wsub .i64 a b = a - b := fun a b h0 h1 h2 h3 => by rw [hE]; exact wrap_i64_in (by omega) (by omega)
          have emx : ∀ a b, E.max a b = if a < b then b else a := fun a b => by rw [hE]; rfl
          have w1 : E.wsub .i64 d pp = v1 := by rw [esb d pp (by omega) (by omega) (by omega) (by omega)]; exact hv1
          have w2 : E.wadd .i64 v1 pu = v2 := by rw [eadd v1 pu (by omega) (by omega) (by omega) (by omega)]; exact hv2
          have ws1 : E.wadd .i64 s 1 = s1 := by rw [eadd s 1 (by omega) (by omega) (by omega) (by omega)]; exact hs1'
          have ws2 : E.wsub .i64 s 1 = s2 := by rw [esb s 1 (by omega) (by omega) (by omega) (by omega)]; exact hs2'
          have w3 : E.wsub .i64 v2 a = nd := by rw [esb v2 a (by omega) (by omega) (by omega) (by omega)]; exact w4
          clear elt ele eofn enat eple eadd esb emx tb
          cbv
          repeat (first | (simp only [w1]; cbv) | simp only [w1] | (simp only [w2]; cbv) | simp only [w2] | (simp only [w3]; cbv) | simp only [w3] | (simp only [g19]; cbv) | simp only [g19] | (simp only [ws1]; cbv) | simp only [ws1])
          exact .mk s1 ⟨rfl, rfl, rfl, rfl, rfl⟩ hsp
      have g19 : decide (op = 19) = false := decide_eq_false e19
      rw [if_neg e19] at hsp
      rcases Classical.em (op = 20) with e20 | e20
      · have g20 : decide (op = 20) = true := decide_eq_true e20
        rw [if_pos e20] at hsp
        rcases Classical.em (1 ≤ s) with h1s | h1s
        · rw [if_pos h1s] at hsp
          have ls' : decide (s < 1) = false := decide_eq_false (by omega)
          cases cn
          · replace w5 := w5 rfl
            subst w5
            intro P G E hc hM hK hE
            have elt : ∀ a b, E.lti a b = decide (a < b) := fun a b => by rw [hE]; rfl
            have ele : ∀ a b, E.lei a b = decide (a ≤ b) := fun a b => by rw [hE]; rfl
            have eofn : ∀ n, E.ofN n = (n : Int) := fun n => by rw [hE]; rfl
            have enat : ∀ i, E.nat i = i.toNat := fun i => by rw [hE]; rfl
            have eple : ∀ a b, a ≤ b → E.ple a b := fun a b h => by rw [hE]; exact h
            have eadd : ∀ a b : Int, -1000000 ≤ a → a ≤ 1000000 → -1000000 ≤ b → b ≤ 1000000 → E.wadd .i64 a b = a + b := fun a b h0 h1 h2 h3 => by rw [hE]; exact wrap_i64_in (by omega) (by omega)
            have esb : ∀ a b : Int, -1000000 ≤ a → a ≤ 1000000 → -1000000 ≤ b → b ≤ 1000000 → E.wsub .i64 a b = a - b := fun a b h0 h1 h2 h3 => by rw [hE]; exact wrap_i64_in (by omega) (by omega)
            have emx : ∀ a b, E.max a b = if a < b then b else a := fun a b => by rw [hE]; rfl
            have w1 : E.wsub .i64 d pp = v1 := by rw [esb d pp (by omega) (by omega) (by omega) (by omega)]; exact hv1
            have w2 : E.wadd .i64 v1 pu = v2 := by rw [eadd v1 pu (by omega) (by omega) (by omega) (by omega)]; exact hv2
            have ws1 : E.wadd .i64 s 1 = s1 := by rw [eadd s 1 (by omega) (by omega) (by omega) (by omega)]; exact hs1'
            have ws2 : E.wsub .i64 s 1 = s2 := by rw [esb s 1 (by omega) (by omega) (by omega) (by omega)]; exact hs2'
            have ls : E.lti s 1 = false := by rw [elt]; exact ls'
            clear elt ele eofn enat eple eadd esb emx tb
            cbv
            repeat (first | (simp only [w1]; cbv) | simp only [w1] | (simp only [w2]; cbv) | simp only [w2] | (simp only [g19]; cbv) | simp only [g19] | (simp only [g20]; cbv) | simp only [g20] | (simp only [ls]; cbv) | simp only [ls] | (simp only [ws2]; cbv) | simp only [ws2])
            exact .mk s2 ⟨rfl, rfl, rfl, rfl, rfl⟩ hsp
          · replace w4 := w4 rfl
            intro P G E hc hM hK hE
            have elt : ∀ a b, E.lti a b = decide (a < b) := fun a b => by rw [hE]; rfl
            have ele : ∀ a b, E.lei a b = decide (a ≤ b) := fun a b => by rw [hE]; rfl
            have eofn : ∀ n, E.ofN n = (n : Int) := fun n => by rw [hE]; rfl
            have enat : ∀ i, E.nat i = i.toNat := fun i => by rw [hE]; rfl
            have eple : ∀ a b, a ≤ b → E.ple a b := fun a b h => by rw [hE]; exact h
            have eadd : ∀ a b : Int, -1000000 ≤ a → a ≤ 1000000 → -1000000 ≤ b → b ≤ 1000000 → E.wadd .i64 a b = a + b := fun a b h0 h1 h2 h3 => by rw [hE]; exact wrap_i64_in (by omega) (by omega)
            have esb : ∀ a b : Int, -1000000 ≤ a → a ≤ 1000000 → -1000000 ≤ b → b ≤ 1000000 → E.wsub .i64 a b = a - b := fun a b h0 h1 h2 h3 => by rw [hE]; exact wrap_i64_in (by omega) (by omega)
            have emx : ∀ a b, E.max a b = if a < b then b else a := fun a b => by rw [hE]; rfl
            have w1 : E.wsub .i64 d pp = v1 := by rw [esb d pp (by omega) (by omega) (by omega) (by omega)]; exact hv1
            have w2 : E.wadd .i64 v1 pu = v2 := by rw [eadd v1 pu (by omega) (by omega) (by omega) (by omega)]; exact hv2
            have ws1 : E.wadd .i64 s 1 = s1 := by rw [eadd s 1 (by omega) (by omega) (by omega) (by omega)]; exact hs1'
            have ws2 : E.wsub .i64 s 1 = s2 := by rw [esb s 1 (by omega) (by omega) (by omega) (by omega)]; exact hs2'
            have w3 : E.wsub .i64 v2 a = nd := by rw [esb v2 a (by omega) (by omega) (by omega) (by omega)]; exact w4
            have ls : E.lti s 1 = false := by rw [elt]; exact ls'
            clear elt ele eofn enat eple eadd esb emx tb
            cbv
            repeat (first | (simp only [w1]; cbv) | simp only [w1] | (simp only [w2]; cbv) | simp only [w2] | (simp only [w3]; cbv) | simp only [w3] | (simp only [g19]; cbv) | simp only [g19] | (simp only [g20]; cbv) | simp only [g20] | (simp only [ls]; cbv) | simp only [ls] | (simp only [ws2]; cbv) | simp only [ws2])
            exact .mk s2 ⟨rfl, rfl, rfl, rfl, rfl⟩ hsp
        · rw [if_neg h1s] at hsp
          have ls' : decide (s < 1) = true := decide_eq_true (by omega)
          cases cn
          · replace w5 := w5 rfl
            subst w5
            intro P G E hc hM hK hE
            have elt : ∀ a b, E.lti a b = decide (a < b) := fun a b => by rw [hE]; rfl
            have ele : ∀ a b, E.lei a b = decide (a ≤ b) := fun a b => by rw [hE]; rfl
            have eofn : ∀ n, E.ofN n = (n : Int) := fun n => by rw [hE]; rfl
            have enat : ∀ i, E.nat i = i.toNat := fun i => by rw [hE]; rfl
            have eple : ∀ a b, a ≤ b → E.ple a b := fun a b h => by rw [hE]; exact h
            have eadd : ∀ a b : Int, -1000000 ≤ a → a ≤ 1000000 → -1000000 ≤ b → b ≤ 1000000 → E.wadd .i64 a b = a + b := fun a b h0 h1 h2 h3 => by rw [hE]; exact wrap_i64_in (by omega) (by omega)
            have esb : ∀ a b : Int, -1000000 ≤ a → a ≤ 1000000 → -1000000 ≤ b → b ≤ 1000000 → E.wsub .i64 a b = a - b := fun a b h0 h1 h2 h3 => by rw [hE]; exact wrap_i64_in (by omega) (by omega)
            have emx : ∀ a b, E.max a b = if a < b then b else a := fun a b => by rw [hE]; rfl
            have w1 : E.wsub .i64 d pp = v1 := by rw [esb d pp (by omega) (by omega) (by omega) (by omega)]; exact hv1
            have w2 : E.wadd .i64 v1 pu = v2 := by rw [eadd v1 pu (by omega) (by omega) (by omega) (by omega)]; exact hv2
            have ws1 : E.wadd .i64 s 1 = s1 := by rw [eadd s 1 (by omega) (by omega) (by omega) (by omega)]; exact hs1'
            have ws2 : E.wsub .i64 s 1 = s2 := by rw [esb s 1 (by omega) (by omega) (by omega) (by omega)]; exact hs2'
            have ls : E.lti s 1 = true := by rw [elt]; exact ls'
            clear elt ele eofn enat eple eadd esb emx tb
            cbv
            repeat (first | (simp only [w1]; cbv) | simp only [w1] | (simp only [w2]; cbv) | simp only [w2] | (simp only [g19]; cbv) | simp only [g19] | (simp only [g20]; cbv) | simp only [g20] | (simp only [ls]; cbv) | simp only [ls])
            all_goals trivial
          · replace w4 := w4 rfl
            intro P G E hc hM hK hE
            have elt : ∀ a b, E.lti a b = decide (a < b) := fun a b => by rw [hE]; rfl
            have ele : ∀ a b, E.lei a b = decide (a ≤ b) := fun a b => by rw [hE]; rfl
            have eofn : ∀ n, E.ofN n = (n : Int) := fun n => by rw [hE]; rfl
            have enat : ∀ i, E.nat i = i.toNat := fun i => by rw [hE]; rfl
            have eple : ∀ a b, a ≤ b → E.ple a b := fun a b h => by rw [hE]; exact h
            have eadd : ∀ a b : Int, -1000000 ≤ a → a ≤ 1000000 → -1000000 ≤ b → b ≤ 1000000 → E.wadd .i64 a b = a + b := fun a b h0 h1 h2 h3 => by rw [hE]; exact wrap_i64_in (by omega) (by omega)
            have esb : ∀ a b : Int, -1000000 ≤ a → a ≤ 1000000 → -1000000 ≤ b → b ≤ 1000000 → E.wsub .i64 a b = a - b := fun a b h0 h1 h2 h3 => by rw [hE]; exact wrap_i64_in (by omega) (by omega)
            have emx : ∀ a b, E.max a b = if a < b then b else a := fun a b => by rw [hE]; rfl
            have w1 : E.wsub .i64 d pp = v1 := by rw [esb d pp (by omega) (by omega) (by omega) (by omega)]; exact hv1
            have w2 : E.wadd .i64 v1 pu = v2 := by rw [eadd v1 pu (by omega) (by omega) (by omega) (by omega)]; exact hv2
            have ws1 : E.wadd .i64 s 1 = s1 := by rw [eadd s 1 (by omega) (by omega) (by omega) (by omega)]; exact hs1'
            have ws2 : E.wsub .i64 s 1 = s2 := by rw [esb s 1 (by omega) (by omega) (by omega) (by omega)]; exact hs2'
            have w3 : E.wsub .i64 v2 a = nd := by rw [esb v2 a (by omega) (by omega) (by omega) (by omega)]; exact w4
            have ls : E.lti s 1 = true := by rw [elt]; exact ls'
            clear elt ele eofn enat eple eadd esb emx tb
            cbv
            repeat (first | (simp only [w1]; cbv) | simp only [w1] | (simp only [w2]; cbv) | simp only [w2] | (simp only [w3]; cbv) | simp only [w3] | (simp only [g19]; cbv) | simp only [g19] | (simp only [g20]; cbv) | simp only [g20] | (simp only [ls]; cbv) | simp only [ls])
            all_goals trivial
      have g20 : decide (op = 20) = false := decide_eq_false e20
      rw [if_neg e20] at hsp
      rcases Classical.em (op = 21) with e21 | e21
      · have g21 : decide (op = 21) = true := decide_eq_true e21
        rw [if_pos e21] at hsp
        rcases Classical.em (1 ≤ s) with h1s | h1s
        · rw [if_pos h1s] at hsp
          have ls' : decide (s < 1) = false := decide_eq_false (by omega)
          cases cn
          · replace w5 := w5 rfl
            subst w5
            intro P G E hc hM hK hE
            have elt : ∀ a b, E.lti a b = decide (a < b) := fun a b => by rw [hE]; rfl
            have ele : ∀ a b, E.lei a b = decide (a ≤ b) := fun a b => by rw [hE]; rfl
            have eofn : ∀ n, E.ofN n = (n : Int) := fun n => by rw [hE]; rfl
            have enat : ∀ i, E.nat i = i.toNat := fun i => by rw [hE]; rfl
            have eple : ∀ a b, a ≤ b → E.ple a b := fun a b h => by rw [hE]; exact h
            have eadd : ∀ a b : Int, -1000000 ≤ a → a ≤ 1000000 → -1000000 ≤ b → b ≤ 1000000 → E.wadd .i64 a b = a + b := fun a b h0 h1 h2 h3 => by rw [hE]; exact wrap_i64_in (by omega) (by omega)
            have esb : ∀ a b : Int, -1000000 ≤ a → a ≤ 1000000 → -1000000 ≤ b → b ≤ 1000000 → E.wsub .i64 a b = a - b := fun a b h0 h1 h2 h3 => by rw [hE]; exact wrap_i64_in (by omega) (by omega)
            have emx : ∀ a b, E.max a b = if a < b then b else a := fun a b => by rw [hE]; rfl
            have w1 : E.wsub .i64 d pp = v1 := by rw [esb d pp (by omega) (by omega) (by omega) (by omega)]; exact hv1
            have w2 : E.wadd .i64 v1 pu = v2 := by rw [eadd v1 pu (by omega) (by omega) (by omega) (by omega)]; exact hv2
            have ws1 : E.wadd .i64 s 1 = s1 := by rw [eadd s 1 (by omega) (by omega) (by omega) (by omega)]; exact hs1'
            have ws2 : E.wsub .i64 s 1 = s2 := by rw [esb s 1 (by omega) (by omega) (by omega) (by omega)]; exact hs2'
            have ls : E.lti s 1 = false := by rw [elt]; exact ls'
            clear elt ele eofn enat eple eadd esb emx tb
            cbv
            repeat (first | (simp only [w1]; cbv) | simp only [w1] | (simp only [w2]; cbv) | simp only [w2] | (simp only [g19]; cbv) | simp only [g19] | (simp only [g20]; cbv) | simp only [g20] | (simp only [g21]; cbv) | simp only [g21] | (simp only [ls]; cbv) | simp only [ls])
            exact .mk s ⟨rfl, rfl, rfl, rfl, rfl⟩ hsp
          · replace w4 := w4 rfl
            intro P G E hc hM hK hE
            have elt : ∀ a b, E.lti a b = decide (a < b) := fun a b => by rw [hE]; rfl
            have ele : ∀ a b, E.lei a b = decide (a ≤ b) := fun a b => by rw [hE]; rfl
            have eofn : ∀ n, E.ofN n = (n : Int) := fun n => by rw [hE]; rfl
            have enat : ∀ i, E.nat i = i.toNat := fun i => by rw [hE]; rfl
            have eple : ∀ a b, a ≤ b → E.ple a b := fun a b h => by rw [hE]; exact h
            have eadd : ∀ a b : Int, -1000000 ≤ a → a ≤ 1000000 → -1000000 ≤ b → b ≤ 1000000 → E.wadd .i64 a b = a + b := fun a b h0 h1 h2 h3 => by rw [hE]; exact wrap_i64_in (by omega) (by omega)
            have esb : ∀ a b : Int, -1000000 ≤ a → a ≤ 1000000 → -1000000 ≤ b → b ≤ 1000000 → E.wsub .i64 a b = a - b := fun a b h0 h1 h2 h3 => by rw [hE]; exact wrap_i64_in (by omega) (by omega)
            have emx : ∀ a b, E.max a b = if a < b then b else a := fun a b => by rw [hE]; rfl
            have w1 : E.wsub .i64 d pp = v1 := by rw [esb d pp (by omega) (by omega) (by omega) (by omega)]; exact hv1
            have w2 : E.wadd .i64 v1 pu = v2 := by rw [eadd v1 pu (by omega) (by omega) (by omega) (by omega)]; exact hv2
            have ws1 : E.wadd .i64 s 1 = s1 := by rw [eadd s 1 (by omega) (by omega) (by omega) (by omega)]; exact hs1'
            have ws2 : E.wsub .i64 s 1 = s2 := by rw [esb s 1 (by omega) (by omega) (by omega) (by omega)]; exact hs2'
            have w3 : E.wsub .i64 v2 a = nd := by rw [esb v2 a (by omega) (by omega) (by omega) (by omega)]; exact w4
            have ls : E.lti s 1 = false := by rw [elt]; exact ls'
            clear elt ele eofn enat eple eadd esb emx tb
            cbv
            repeat (first | (simp only [w1]; cbv) | simp only [w1] | (simp only [w2]; cbv) | simp only [w2] | (simp only [w3]; cbv) | simp only [w3] | (simp only [g19]; cbv) | simp only [g19] | (simp only [g20]; cbv) | simp only [g20] | (simp only [g21]; cbv) | simp only [g21] | (simp only [ls]; cbv) | simp only [ls])
            exact .mk s ⟨rfl, rfl, rfl, rfl, rfl⟩ hsp
        · rw [if_neg h1s] at hsp
          have ls' : decide (s < 1) = true := decide_eq_true (by omega)
          cases cn
          · replace w5 := w5 rfl
            subst w5
            intro P G E hc hM hK hE
            have elt : ∀ a b, E.lti a b = decide (a < b) := fun a b => by rw [hE]; rfl
            have ele : ∀ a b, E.lei a b = decide (a ≤ b) := fun a b => by rw [hE]; rfl
            have eofn : ∀ n, E.ofN n = (n : Int) := fun n => by rw [hE]; rfl
            have enat : ∀ i, E.nat i = i.toNat := fun i => by rw [hE]; rfl
            have eple : ∀ a b, a ≤ b → E.ple a b := fun a b h => by rw [hE]; exact h
            have eadd : ∀ a b : Int, -1000000 ≤ a → a ≤ 1000000 → -1000000 ≤ b → b ≤ 1000000 → E.wadd .i64 a b = a + b := fun a b h0 h1 h2 h3 => by rw [hE]; exact wrap_i64_in (by omega) (by omega)
            have esb : ∀ a b : Int, -1000000 ≤ a → a ≤ 1000000 → -1000000 ≤ b → b ≤ 1000000 → E.wsub .i64 a b = a - b := fun a b h0 h1 h2 h3 => by rw [hE]; exact wrap_i64_in (by omega) (by omega)
            have emx : ∀ a b, E.max a b = if a < b then b else a := fun a b => by rw [hE]; rfl
            have w1 : E.wsub .i64 d pp = v1 := by rw [esb d pp (by omega) (by omega) (by omega) (by omega)]; exact hv1
            have w2 : E.wadd .i64 v1 pu = v2 := by rw [eadd v1 pu (by omega) (by omega) (by omega) (by omega)]; exact hv2
            have ws1 : E.wadd .i64 s 1 = s1 := by rw [eadd s 1 (by omega) (by omega) (by omega) (by omega)]; exact hs1'
            have ws2 : E.wsub .i64 s 1 = s2 := by rw [esb s 1 (by omega) (by omega) (by omega) (by omega)]; exact hs2'
            have ls : E.lti s 1 = true := by rw [elt]; exact ls'
            clear elt ele eofn enat eple eadd esb emx tb
            cbv
            repeat (first | (simp only [w1]; cbv) | simp only [w1] | (simp only [w2]; cbv) | simp only [w2] | (simp only [g19]; cbv) | simp only [g19] | (simp only [g20]; cbv) | simp only [g20] | (simp only [g21]; cbv) | simp only [g21] | (simp only [ls]; cbv) | simp only [ls])
            all_goals trivial
          · replace w4 := w4 rfl
            intro P G E hc hM hK hE
            have elt : ∀ a b, E.lti a b = decide (a < b) := fun a b => by rw [hE]; rfl
            have ele : ∀ a b, E.lei a b = decide (a ≤ b) := fun a b => by rw [hE]; rfl
            have eofn : ∀ n, E.ofN n = (n : Int) := fun n => by rw [hE]; rfl
            have enat : ∀ i, E.nat i = i.toNat := fun i => by rw [hE]; rfl
            have eple : ∀ a b, a ≤ b → E.ple a b := fun a b h => by rw [hE]; exact h
            have eadd : ∀ a b : Int, -1000000 ≤ a → a ≤ 1000000 → -1000000 ≤ b → b ≤ 1000000 → E.wadd .i64 a b = a + b := fun a b h0 h1 h2 h3 => by rw [hE]; exact wrap_i64_in (by omega) (by omega)
            have esb : ∀ a b : Int, -1000000 ≤ a → a ≤ 1000000 → -1000000 ≤ b → b ≤ 1000000 → E.wsub .i64 a b = a - b := fun a b h0 h1 h2 h3 => by rw [hE]; exact wrap_i64_in (by omega) (by omega)
            have emx : ∀ a b, E.max a b = if a < b then b else a := fun a b => by rw [hE]; rfl
            have w1 : E.wsub .i64 d pp = v1 := by rw [esb d pp (by omega) (by omega) (by omega) (by omega)]; exact hv1
            have w2 : E.wadd .i64 v1 pu = v2 := by rw [eadd v1 pu (by omega) (by omega) (by omega) (by omega)]; exact hv2
            have ws1 : E.wadd .i64 s 1 = s1 := by rw [eadd s 1 (by omega) (by omega) (by omega) (by omega)]; exact hs1'
            have ws2 : E.wsub .i64 s 1 = s2 := by rw [esb s 1 (by omega) (by omega) (by omega) (by omega)]; exact hs2'
            have w3 : E.wsub .i64 v2 a = nd := by rw [esb v2 a (by omega) (by omega) (by omega) (by omega)]; exact w4
            have ls : E.lti s 1 = true := by rw [elt]; exact ls'
            clear elt ele eofn enat eple eadd esb emx tb
            cbv
            repeat (first | (simp only [w1]; cbv) | simp only [w1] | (simp only [w2]; cbv) | simp only [w2] | (simp only [w3]; cbv) | simp only [w3] | (simp only [g19]; cbv) | simp only [g19] | (simp only [g20]; cbv) | simp only [g20] | (simp only [g21]; cbv) | simp only [g21] | (simp only [ls]; cbv) | simp only [ls])
            all_goals trivial
      have g21 : decide (op = 21) = false := decide_eq_false e21
      rw [if_neg e21] at hsp
      cases cn
      · replace w5 := w5 rfl
        subst w5
        intro P G E hc hM hK hE
        have elt : ∀ a b, E.lti a b = decide (a < b) := fun a b => by rw [hE]; rfl
        have ele : ∀ a b, E.lei a b = decide (a ≤ b) := fun a b => by rw [hE]; rfl
        have eofn : ∀ n, E.ofN n = (n : Int) := fun n => by rw [hE]; rfl
        have enat : ∀ i, E.nat i = i.toNat := fun i => by rw [hE]; rfl
        have eple : ∀ a b, a ≤ b → E.ple a b := fun a b h => by rw [hE]; exact h
        have eadd : ∀ a b : Int, -1000000 ≤ a → a ≤ 1000000 → -1000000 ≤ b → b ≤ 1000000 → E.wadd .i64 a b = a + b := fun a b h0 h1 h2 h3 => by rw [hE]; exact wrap_i64_in (by omega) (by omega)
        have esb : ∀ a b : Int, -1000000 ≤ a → a ≤ 1000000 → -1000000 ≤ b → b ≤ 1000000 → E.wsub .i64 a b = a - b := fun a b h0 h1 h2 h3 => by rw [hE]; exact wrap_i64_in (by omega) (by omega)
        have emx : ∀ a b, E.max a b = if a < b then b else a := fun a b => by rw [hE]; rfl
        have w1 : E.wsub .i64 d pp = v1 := by rw [esb d pp (by omega) (by omega) (by omega) (by omega)]; exact hv1
        have w2 : E.wadd .i64 v1 pu = v2 := by rw [eadd v1 pu (by omega) (by omega) (by omega) (by omega)]; exact hv2
        have ws1 : E.wadd .i64 s 1 = s1 := by rw [eadd s 1 (by omega) (by omega) (by omega) (by omega)]; exact hs1'
        have ws2 : E.wsub .i64 s 1 = s2 := by rw [esb s 1 (by omega) (by omega) (by omega) (by omega)]; exact hs2'
        skip
        clear elt ele eofn enat eple eadd esb emx tb
        cbv
        repeat (first | (simp only [w1]; cbv) | simp only [w1] | (simp only [w2]; cbv) | simp only [w2] | (simp only [g19]; cbv) | simp only [g19] | (simp only [g20]; cbv) | simp only [g20] | (simp only [g21]; cbv) | simp only [g21])
        exact .mk s ⟨rfl, rfl, rfl, rfl, rfl⟩ hsp
      · replace w4 := w4 rfl
        intro P G E hc hM hK hE
        have elt : ∀ a b, E.lti a b = decide (a < b) := fun a b => by rw [hE]; rfl
        have ele : ∀ a b, E.lei a b = decide (a ≤ b) := fun a b => by rw [hE]; rfl
        have eofn : ∀ n, E.ofN n = (n : Int) := fun n => by rw [hE]; rfl
        have enat : ∀ i, E.nat i = i.toNat := fun i => by rw [hE]; rfl
        have eple : ∀ a b, a ≤ b → E.ple a b := fun a b h => by rw [hE]; exact h
        have eadd : ∀ a b : Int, -1000000 ≤ a → a ≤ 1000000 → -1000000 ≤ b → b ≤ 1000000 → E.wadd .i64 a b = a + b := fun a b h0 h1 h2 h3 => by rw [hE]; exact wrap_i64_in (by omega) (by omega)
        have esb : ∀ a b : Int, -1000000 ≤ a → a ≤ 1000000 → -1000000 ≤ b → b ≤ 1000000 → E.wsub .i64 a b = a - b := fun a b h0 h1 h2 h3 => by rw [hE]; exact wrap_i64_in (by omega) (by omega)
        have emx : ∀ a b, E.max a b = if a < b then b else a := fun a b => by rw [hE]; rfl
        have w1 : E.wsub .i64 d pp = v1 := by rw [esb d pp (by omega) (by omega) (by omega) (by omega)]; exact hv1
        have w2 : E.wadd .i64 v1 pu = v2 := by rw [eadd v1 pu (by omega) (by omega) (by omega) (by omega)]; exact hv2
        have ws1 : E.wadd .i64 s 1 = s1 := by rw [eadd s 1 (by omega) (by omega) (by omega) (by omega)]; exact hs1'
        have ws2 : E.wsub .i64 s 1 = s2 := by rw [esb s 1 (by omega) (by omega) (by omega) (by omega)]; exact hs2'
        have w3 : E.wsub .i64 v2 a = nd := by rw [esb v2 a (by omega) (by omega) (by omega) (by omega)]; exact w4
        clear elt ele eofn enat eple eadd esb emx tb
        cbv
        repeat (first | (simp only [w1]; cbv) | simp only [w1] | (simp only [w2]; cbv) | simp only [w2] | (simp only [w3]; cbv) | simp only [w3] | (simp only [g19]; cbv) | simp only [g19] | (simp only [g20]; cbv) | simp only [g20] | (simp only [g21]; cbv) | simp only [g21])
        exact .mk s ⟨rfl, rfl, rfl, rfl, rfl⟩ hsp
    intro sc hsc
    rw [hsc, Option.bind_some] at ho
    have hsc0 : 0 ≤ sc := by
      unfold scopeP at hsc
      repeat' split at hsc
      all_goals (first | (cases hsc; done) | (injection hsc with hsc; omega))
    clear htk0 hsc
    -- the next instruction
    refine Seg.cutKK 1 168 [1, 2, 3, 7, 8, 9, 11] 5 (fun _ : List (List PV) => [.osl 0 0 n, .p (pI i), .own 1 0, .own 2 0, .own 3 0, .own 4 0, .p (pI lim)]) (fun sh1 => [shB sh1, some (.box [.p (pS fnm), .p (pI fkd), .p (pI fpa), .p (pI flo), .p (.ro 3 CD), .p (.ro 3 CS), .p (.ro 5 HR)] 50 none), some (.box [.p (pI op), .p (pI a), .p (pI b)] 54 none), some (.box [.p (.v (.string nm)), .p (pI od), .p (pI pp), .p (pI pu), .p (pB cn), .p (pI jp), .p (pB en)] 28 none), some (.box [.p (pI d), .p (pI s)] 52 none)]) (fun sh1 => ShI n sh1 (if en then some st else reachP st (i + 1) (nd, sc))) tyT_ok mixed (fun _ => 0) (fun E => retQD E tyT Tryd.f47.results.toList [t0] (.p (pB false)) [none]) (by kernel_rfl) ?_ ?_
    · intro P G E hc hM hK hE
      have wi : E.wadd .i64 i 1 = i + 1 := by rw [hE]; exact wrap_i64_in (by omega) (by omega)
      cases en
      · simp only [Bool.false_eq_true, if_false] at ho ⊢
        cases hR : reachP st (i + 1) (nd, sc) with
        | none =>
          have rc := hK _ _ _ _ _ _ (set_none hR (by omega) (by omega) nb.1 hsc0)
          rw [hn, hshr] at rc
          clear ho hh hfs hHg hHl hnH hl1 hl2 hshr hR
          generalize i + 1 = ii at *
          cbv
          repeat (first | (simp only [wi]; cbv) | simp only [wi])
          refine .inr (.mkK _ _ _ (Wk.refl _ _) [0] _ _ _ _ rc rfl rfl rfl ?_)
          cbv
          all_goals trivial
        | some st1 =>
          have rc := hK _ _ _ _ _ _ (set_some hR (by omega) (by omega) nb.1 hsc0)
          rw [hn, hshr] at rc
          have hI : ShI n (pSh st1.sh) (some st1) := ⟨st1, rfl, by rw [(reach_len hR).1]; exact hn, rfl⟩
          generalize pSh st1.sh = sh1 at *
          clear ho hh hfs hHg hHl hnH hl1 hl2 hshr hR
          generalize i + 1 = ii at *
          cbv
          repeat (first | (simp only [wi]; cbv) | simp only [wi])
          refine .inr (.mkK _ _ _ (Wk.refl _ _) [0] _ _ _ _ rc rfl rfl rfl ?_)
          cbv
          exact .mk sh1 ⟨rfl, rfl, rfl, rfl, rfl⟩ hI
      · have hI : ShI n shr (some st) := ⟨st, hshr.symm, hn, rfl⟩
        clear ho hh hfs hHg hHl hnH hl1 hl2 hshr
        cbv
        exact .mk shr ⟨rfl, rfl, rfl, rfl, rfl⟩ hI
    intro sh1 hI1
    obtain ⟨st1, hsh1, hn1, hst1⟩ := hI1
    rw [hst1, Option.bind_some] at ho
    clear hst1 hn hshr
    -- the target
    refine Seg.cutKK 1 168 [1, 2, 3, 7, 8, 9, 11] 5 (fun _ : List (List PV) => [.osl 0 0 n, .p (pI i), .own 1 0, .own 2 0, .own 3 0, .own 4 0, .p (pI lim)]) (fun sh2 => [shB sh2, some (.box [.p (pS fnm), .p (pI fkd), .p (pI fpa), .p (pI flo), .p (.ro 3 CD), .p (.ro 3 CS), .p (.ro 5 HR)] 50 none), some (.box [.p (pI op), .p (pI a), .p (pI b)] 54 none), some (.box [.p (.v (.string nm)), .p (pI od), .p (pI pp), .p (pI pu), .p (pB cn), .p (pI jp), .p (pB en)] 28 none), some (.box [.p (pI d), .p (pI s)] 52 none)]) (fun sh2 => ShI n sh2 (if jm then reachP st1 a (d + jp, s) else some st1)) tyT_ok mixed (fun _ => 0) (fun E => retQD E tyT Tryd.f47.results.toList [t0] (.p (pB false)) [none]) (by kernel_rfl) ?_ ?_
    · intro P G E hc hM hK hE
      have wi : E.wadd .i64 d jp = d + jp := by rw [hE]; exact wrap_i64_in (by omega) (by omega)
      cases jm
      · have hI : ShI n sh1 (some st1) := ⟨st1, hsh1, hn1, rfl⟩
        clear ho hh hfs hHg hHl hnH hl1 hl2
        cbv
        repeat (first | (simp only [hjm]; cbv) | simp only [hjm])
        exact .mk sh1 ⟨rfl, rfl, rfl, rfl, rfl⟩ hI
      · simp only [if_true] at ho ⊢
        replace hjn := hjn rfl
        cases hR : reachP st1 a (d + jp, s) with
        | none =>
          have rc := hK _ _ _ _ _ _ (set_none hR ha0 (by omega) hjn hs0)
          rw [hn1, ← hsh1] at rc
          clear ho hh hfs hHg hHl hnH hl1 hl2 hR
          generalize d + jp = dj at *
          cbv
          repeat (first | (simp only [hjm]; cbv) | simp only [hjm] | (simp only [wi]; cbv) | simp only [wi])
          refine .inr (.mkK _ _ _ (Wk.refl _ _) [0] _ _ _ _ rc rfl rfl rfl ?_)
          cbv
          all_goals trivial
        | some st2 =>
          have rc := hK _ _ _ _ _ _ (set_some hR ha0 (by omega) hjn hs0)
          rw [hn1, ← hsh1] at rc
          have hI : ShI n (pSh st2.sh) (some st2) := ⟨st2, rfl, by rw [(reach_len hR).1]; exact hn1, rfl⟩
          generalize pSh st2.sh = sh2 at *
          clear ho hh hfs hHg hHl hnH hl1 hl2 hR
          generalize d + jp = dj at *
          cbv
          repeat (first | (simp only [hjm]; cbv) | simp only [hjm] | (simp only [wi]; cbv) | simp only [wi])
          refine .inr (.mkK _ _ _ (Wk.refl _ _) [0] _ _ _ _ rc rfl rfl rfl ?_)
          cbv
          exact .mk sh2 ⟨rfl, rfl, rfl, rfl, rfl⟩ hI
    intro sh2 hI2
    obtain ⟨st2, hsh2, hn2, hst2⟩ := hI2
    rw [hst2, Option.bind_some] at ho
    clear hst2 hn1 hsh1
    -- the handlers
    obtain ⟨μ, hμ⟩ : ∃ μ : Int → Nat, ∀ i, μ i = 20000 - i.toNat := ⟨_, fun _ => rfl⟩
    have hx0 : SpI hs n i lim s o (0, sh2) := ⟨Int.le_refl _, Int.natCast_nonneg _, st2, hsh2, hn2, ho⟩
    refine Seg.ofK tyT_ok mixed (fun _ => 0) (by kernel_rfl) (fun E => retQD E tyT Tryd.f47.results.toList [t0] (.p (pB false)) [none]) fun P G E hc hM hK hE => ?_
    have elt : ∀ a b, E.lti a b = decide (a < b) := fun a b => by rw [hE]; rfl
    have ele : ∀ a b, E.lei a b = decide (a ≤ b) := fun a b => by rw [hE]; rfl
    have eofn : ∀ n, E.ofN n = (n : Int) := fun n => by rw [hE]; rfl
    have enat : ∀ i, E.nat i = i.toNat := fun i => by rw [hE]; rfl
    have eple : ∀ a b, a ≤ b → E.ple a b := fun a b h => by rw [hE]; exact h
    have eadd : ∀ a b : Int, -1000000 ≤ a → a ≤ 1000000 → -1000000 ≤ b → b ≤ 1000000 → E.wadd .i64 a b = a + b := fun a b h0 h1 h2 h3 => by rw [hE]; exact wrap_i64_in (by omega) (by omega)
    have esb : ∀ a b : Int, -1000000 ≤ a → a ≤ 1000000 → -1000000 ≤ b → b ≤ 1000000 → E.wsub .i64 a b = a - b := fun a b h0 h1 h2 h3 => by rw [hE]; exact wrap_i64_in (by omega) (by omega)
    have emx : ∀ a b, E.max a b = if a < b then b else a := fun a b => by rw [hE]; rfl
    cbv at hHl
    cbv
    refine loop_by 168 [1, 2, 3, 9, 11, 13] 5 (fun y : Int × List (List PV) => [.osl 0 0 n, .p (pI i), .own 1 0, .own 4 0, .p (pI lim), .p (pI y.1)]) (fun y => [shB y.2, some (.box [.p (pS fnm), .p (pI fkd), .p (pI fpa), .p (pI flo), .p (.ro 3 CD), .p (.ro 3 CS), .p (.ro 5 HR)] 50 none), some (.box [.p (pI op), .p (pI a), .p (pI b)] 54 none), some (.box [.p (.v (.string nm)), .p (pI od), .p (pI pp), .p (pI pu), .p (pB cn), .p (pI jp), .p (pB en)] 28 none), some (.box [.p (pI d), .p (pI s)] 52 none)]) (SpI hs n i lim s o) (fun y => μ y.1) (0, sh2) ⟨rfl, rfl, rfl, rfl, rfl⟩ hx0 ?_
    clear hx0 hsh2 hn2 ho
    rintro ⟨j, sh3⟩ ⟨j0, j1, st3, hsh3, hn3, ho⟩
    simp only at j0 j1 hsh3 ho
    replace hnH : hs.length = nH := hnH
    replace hl2 : hs.length ≤ 10000 := hl2
    have dd : E.lti j (E.ofN nH) = decide (j < (nH : Int)) := by rw [eofn, elt]
    by_cases hj : j < (nH : Int)
    · rw [decide_eq_true hj] at dd
      obtain ⟨hd, hdx⟩ : ∃ h, hs[j.toNat]? = some h := ⟨_, List.getElem?_eq_getElem (by omega)⟩
      have hok := hh hd (List.mem_of_getElem? hdx)
      have hos := hfs hd (List.mem_of_getElem? hdx)
      have gr := hHg _ _ hdx
      rw [← enat] at gr
      obtain ⟨lo, hi', tg, dp, sc'⟩ := hd
      replace gr : HR[E.nat j]? = some [pI lo, pI hi', pI tg, pI dp, pI sc'] := gr
      have p3 := eple 0 j j0
      have ej := eadd j 1 (by omega) (by omega) (by omega) (by omega)
      have hM2 : μ (E.wadd .i64 j 1) < μ j := by rw [hμ, hμ, ej]; omega
      obtain ⟨k1, k2⟩ := List.getElem?_eq_some_iff.1 hdx
      rw [List.drop_eq_getElem_cons k1, k2] at ho
      have ej2 : (j + 1).toNat = j.toNat + 1 := by omega
      have hnext : ∀ st4 : WS2, hdlP i lim s st3 ⟨lo, hi', tg, dp, sc'⟩ = some st4 → st4.sh.length = n → SpI hs n i lim s o (E.wadd .i64 j 1, pSh st4.sh) := fun st4 h1 h2 => by
        rw [ej]
        refine ⟨by simp only; omega, by simp only; omega, st4, rfl, h2, ?_⟩
        simp only [ej2]
        rw [← ho]
        simp only [hdlsP, h1, Option.bind_some]
      have q1 := elt i lo
      have q2 := ele hi' i
      have htg := hok.tg
      have hdp0 := hok.dp0
      have hdp1 := hok.dp1
      simp only at htg hdp0 hdp1 hos
      clear hdx k2 hok
      by_cases hr1 : lo ≤ i ∧ i < hi'
      · rw [decide_eq_false (by omega)] at q1
        rw [decide_eq_false (by omega)] at q2
        have q3 := elt lim dp
        have q4 := elt s sc'
        by_cases hr2 : dp ≤ lim ∧ sc' ≤ s
        · rw [decide_eq_false (by omega)] at q3
          rw [decide_eq_false (by omega)] at q4
          have hP : hdlP i lim s st3 ⟨lo, hi', tg, dp, sc'⟩ = reachP st3 tg (dp + 1, sc') := by
            unfold hdlP
            rw [if_pos hr1, if_pos hr2]
          have ew := eadd dp 1 (by omega) (by omega) (by omega) (by omega)
          cases hR : reachP st3 tg (dp + 1, sc') with
          | none =>
            have rc := hK _ _ _ _ _ _ (set_none hR htg (by omega) (show 0 ≤ dp + 1 by omega) hos)
            rw [hn3, ← hsh3] at rc
            clear hnext ho hsh3 hh hfs hHg hR hP
            generalize dp + 1 = dq at *
            cbv
            repeat (first | (simp only [hHl]; cbv) | simp only [hHl] | (simp only [dd]; cbv) | simp only [dd] | (refine ⟨p3,_,gr, ?_⟩; cbv) | (simp only [q1]; cbv) | simp only [q1] | (simp only [q2]; cbv) | simp only [q2] | (simp only [q3]; cbv) | simp only [q3] | (simp only [q4]; cbv) | simp only [q4] | (simp only [ew]; cbv) | simp only [ew])
            refine .inr (.mkK _ _ _ (Wk.refl _ _) [0] _ _ _ _ rc rfl rfl rfl ?_)
            cbv
            all_goals trivial
          | some st4 =>
            have hI2 := hnext st4 (hP.trans hR) (by rw [(reach_len hR).1]; exact hn3)
            have rc := hK _ _ _ _ _ _ (set_some hR htg (by omega) (show 0 ≤ dp + 1 by omega) hos)
            rw [hn3, ← hsh3] at rc
            obtain ⟨sh4, hsh4⟩ : ∃ x, pSh st4.sh = x := ⟨_, rfl⟩
            rw [hsh4] at rc hI2
            clear hnext ho hsh3 hh hfs hHg hR hP
            generalize dp + 1 = dq at *
            cbv
            repeat (first | (simp only [hHl]; cbv) | simp only [hHl] | (simp only [dd]; cbv) | simp only [dd] | (refine ⟨p3,_,gr, ?_⟩; cbv) | (simp only [q1]; cbv) | simp only [q1] | (simp only [q2]; cbv) | simp only [q2] | (simp only [q3]; cbv) | simp only [q3] | (simp only [q4]; cbv) | simp only [q4] | (simp only [ew]; cbv) | simp only [ew])
            refine .inr (.mkK _ _ _ (Wk.refl _ _) [0] _ _ _ _ rc rfl rfl rfl ?_)
            cbv
            refine .mk (E.wadd .i64 j 1, sh4) ⟨rfl, rfl, rfl, rfl, rfl⟩ ?_ ?_
            · exact hI2
            · exact hM2
        · have hP : hdlP i lim s st3 ⟨lo, hi', tg, dp, sc'⟩ = none := by
            unfold hdlP
            rw [if_pos hr1, if_neg hr2]
          clear hnext ho hsh3 hh hfs hHg hP
          by_cases hr3 : dp ≤ lim
          · rw [decide_eq_false (by omega)] at q3
            rw [decide_eq_true (by omega)] at q4
            cbv
            repeat (first | (simp only [hHl]; cbv) | simp only [hHl] | (simp only [dd]; cbv) | simp only [dd] | (refine ⟨p3,_,gr, ?_⟩; cbv) | (simp only [q1]; cbv) | simp only [q1] | (simp only [q2]; cbv) | simp only [q2] | (simp only [q3]; cbv) | simp only [q3] | (simp only [q4]; cbv) | simp only [q4])
            all_goals trivial
          · rw [decide_eq_true (by omega)] at q3
            cbv
            repeat (first | (simp only [hHl]; cbv) | simp only [hHl] | (simp only [dd]; cbv) | simp only [dd] | (refine ⟨p3,_,gr, ?_⟩; cbv) | (simp only [q1]; cbv) | simp only [q1] | (simp only [q2]; cbv) | simp only [q2] | (simp only [q3]; cbv) | simp only [q3])
            all_goals trivial
      · have hP : hdlP i lim s st3 ⟨lo, hi', tg, dp, sc'⟩ = some st3 := by
          unfold hdlP
          rw [if_neg hr1]
        have hI2 := hnext st3 hP hn3
        rw [← hsh3] at hI2
        clear hnext ho hsh3 hh hfs hHg hP
        by_cases hr3 : lo ≤ i
        · rw [decide_eq_false (by omega)] at q1
          rw [decide_eq_true (by omega)] at q2
          cbv
          repeat (first | (simp only [hHl]; cbv) | simp only [hHl] | (simp only [dd]; cbv) | simp only [dd] | (refine ⟨p3,_,gr, ?_⟩; cbv) | (simp only [q1]; cbv) | simp only [q1] | (simp only [q2]; cbv) | simp only [q2])
          refine .mk (E.wadd .i64 j 1, sh3) ⟨rfl, rfl, rfl, rfl, rfl⟩ ?_ ?_
          · exact hI2
          · exact hM2
        · rw [decide_eq_true (by omega)] at q1
          cbv
          repeat (first | (simp only [hHl]; cbv) | simp only [hHl] | (simp only [dd]; cbv) | simp only [dd] | (refine ⟨p3,_,gr, ?_⟩; cbv) | (simp only [q1]; cbv) | simp only [q1])
          refine .mk (E.wadd .i64 j 1, sh3) ⟨rfl, rfl, rfl, rfl, rfl⟩ ?_ ?_
          · exact hI2
          · exact hM2
    · rw [decide_eq_false hj] at dd
      rw [List.drop_eq_nil_of_le (by omega)] at ho
      simp only [hdlsP] at ho
      rw [← ho] at hoo
      cases hoo
end Go.Proofs.YtlffpgjkhehdmaaDoor
