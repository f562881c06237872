/- Own work: the reference of layer 29: spread. -/
import Derived.Test.YtlffpgjkhehdmaaDoorZVR1
import Derived.Test.YtlffpgjkhehdmaaDoorZRefDesc
import Derived.Test.YtlffpgjkhehdmaaDoorZW3E
import Derived.Test.YtlffpgjkhehdmaaDoorZGJ
import Derived.Test.YtlffpgjkhehdmaaDoorZShW
namespace Go.Proofs.YtlffpgjkhehdmaaDoor
open Go.RowKit
set_option maxRecDepth 100000

theorem rdesc_ret (op : Int) (h0 : 1 ≤ op) (h1 : op ≤ 53) : V0 19 [pI op] (pInfo op) :=
  ret_v Tryd.func19 (by kernel_rfl) (by kernel_rfl) [.int .i64 op] _ fun w _ => (rdesc_in op w h0 h1).mono fun e w' ⟨h1, h2⟩ => ⟨_, h1, h2, fun R => repP_aggv [.string (nameOf op), .int .i64 (operandOf op), .int .i64 (popsOf op), .int .i64 (pushesOf op), .bool (cntOf op), .int .i64 (jmpOf op), .bool (endsOf op)]⟩
theorem pushes_nn (op : Int) : 0 ≤ pushesOf op := by
  unfold pushesOf
  repeat' split
  all_goals omega
theorem jmp_40 {op d : Int} (h7 : op = 40 ∨ 1 ≤ d) (hd : 0 ≤ d) : 0 ≤ d + jmpOf op := by
  unfold jmpOf
  split
  · omega
  · omega
/-- what spread leaves: the shapes, or nothing that is told -/
def resX : Option WS2 → AH
  | some st => [shB (pSh st.sh)]
  | none => [none]
/-- the state at the head of the loop over the handlers -/
structure SpI (hs : List Hd) (n : Nat) (i lim s : Int) (o : Option WS2) (y : Int × List (List PV)) : Prop where
  j0 : 0 ≤ y.1
  j1 : y.1 ≤ hs.length
  st : ∃ st : WS2, y.2 = pSh st.sh ∧ st.sh.length = n ∧ hdlsP i lim s st (hs.drop y.1.toNat) = o
structure ShI (n : Nat) (sh : List (List PV)) (o : Option WS2) : Prop where
  st : ∃ st : WS2, sh = pSh st.sh ∧ st.sh.length = n ∧ o = some st
/-- a header that ends with false -/
def gfail (tk d : Int) (jm b40 : Bool) : Bool := if jm && !b40 then decide (d < (if tk < 1 then 1 else tk)) else decide (d < tk)
theorem gfail_iff (tk d od op : Int) : gfail tk d (decide (od = 7)) (decide (op = 40)) = false ↔ (tk ≤ d ∧ (od ≠ 7 ∨ op = 40 ∨ 1 ≤ d)) := by
  unfold gfail
  by_cases h7 : od = 7 <;> by_cases h4 : op = 40 <;> simp [h7, h4]
  split <;> omega
set_option maxHeartbeats 4000000 in
theorem spread_stop (f : Fn) (sh : List (List PV)) (n : Nat) (i op a b d s : Int) (hi : 0 ≤ i) (hin : i < n) (hrow : f.code[i.toNat]? = some ⟨op, a, b⟩) (hrow2 : sh[i.toNat]? = some [pI d, pI s])
    (h0 : 1 ≤ op) (h1 : op ≤ 53) (ha0 : 0 ≤ a) (ha1 : a ≤ 100000) (hd0 : 0 ≤ d) (hd1 : d ≤ 10000) (hg : gfail (takesP op a) d (decide (operandOf op = 7)) (decide (op = 40)) = true) :
    VM 47 [.p (.agg (pFn f)), .osl 0 0 n, .p (pI i)] [shB sh] (.p (pB false)) [none] := by
  have dr := rdesc_ret op h0 h1
  have hp0 := pops_bnd op
  replace hrow := pCode_get hrow
  unfold pInfo at dr
  unfold takesP at hg
  unfold pFn
  generalize nameOf op = nm at *
  generalize operandOf op = od at *
  generalize popsOf op = pp at *
  generalize pushesOf op = pu at *
  generalize jmpOf op = jp at *
  generalize endsOf op = en at *
  generalize cntOf op = cn at *
  generalize pCode f.code = CD at *
  generalize pCons f.consts = CS at *
  generalize pHdls f.hdls = HD at *
  obtain ⟨jm, hjm⟩ : ∃ x, decide (od = 7) = x := ⟨_, rfl⟩
  obtain ⟨b40, hb40⟩ : ∃ x, decide (op = 40) = x := ⟨_, rfl⟩
  obtain ⟨tk, htk⟩ : ∃ x, (if cn then pp + a else pp) = x := ⟨_, rfl⟩
  rw [hjm, hb40, htk] at hg
  refine retm_cutD tyT_ok (f := 47) Tryd.func47 rfl (by kernel_rfl) (of_decide_eq_true (by kernel_rfl)) fun tags htl => ?_
  match tags, htl with
  | [t0], _ =>
    refine Seg.of tyT_ok mixed (fun _ => 0) (by kernel_rfl) (fun E => retQD E tyT Tryd.f47.results.toList [t0] (.p (pB false)) [none]) fun P G E hc hM hE => ?_
    replace dr := hc _ _ _ dr
    have elt : ∀ a b, E.lti a b = decide (a < b) := fun a b => by rw [hE]; rfl
    have ele : ∀ a b, E.lei a b = decide (a ≤ b) := fun a b => by rw [hE]; rfl
    have eofn : ∀ n, E.ofN n = (n : Int) := fun n => by rw [hE]; rfl
    have enat : ∀ i, E.nat i = i.toNat := fun i => by rw [hE]; rfl
    have eple : ∀ a b, a ≤ b → E.ple a b := fun a b h => by rw [hE]; exact h
    have eadd : ∀ a b : Int, -1000000 ≤ a → a ≤ 1000000 → -1000000 ≤ b → b ≤ 1000000 → E.wadd .i64 a b = a + b := fun a b h0 h1 h2 h3 => by rw [hE]; exact wrap_i64_in (by omega) (by omega)
    have esb : ∀ a b : Int, -1000000 ≤ a → a ≤ 1000000 → -1000000 ≤ b → b ≤ 1000000 → E.wsub .i64 a b = a - b := fun a b h0 h1 h2 h3 => by rw [hE]; exact wrap_i64_in (by omega) (by omega)
    have emx : ∀ a b, E.max a b = if a < b then b else a := fun a b => by rw [hE]; rfl
    have p1 := eple 0 i hi
    have p2 : E.plt i (E.ofN n) := by rw [hE]; show i < (n : Int); omega
    have e1 : E.addN 0 (E.nat i) = i.toNat := by rw [hE]; exact Nat.zero_add _
    have r1 : CD[E.nat i]? = some [pI op, pI a, pI b] := by rw [enat]; exact hrow
    have r2 : sh[E.addN 0 (E.nat i)]? = some [pI d, pI s] := by rw [e1]; exact hrow2
    have w1 : cn = true → E.wadd .i64 pp a = tk := fun h => by rw [h] at htk; rw [eadd pp a (by omega) (by omega) (by omega) (by omega)]; exact htk
    have w2 : cn = false → pp = tk := fun h => by rw [h] at htk; exact htk
    have tb : 0 ≤ tk ∧ tk ≤ 110010 := by rw [← htk]; split <;> omega
    have w3 := esb d tk (by omega) (by omega) (by omega) (by omega)
    have w4 : E.max tk 1 = if tk < 1 then 1 else tk := emx tk 1
    unfold gfail at hg
    generalize (if tk < 1 then (1 : Int) else tk) = mk at *
    have g1 : jm = true → b40 = false → E.lti d mk = true := fun h1 h2 => by rw [h1, h2] at hg; rw [elt]; exact hg
    have g2 : (jm = false ∨ b40 = true) → E.lti d tk = true := fun h => by
      rw [elt]
      rcases h with h | h
      · rw [h] at hg; exact hg
      · rw [h] at hg
        cases jm <;> exact hg
    clear htk hg hrow hrow2 elt ele eofn enat eple eadd esb emx tb
    generalize d - tk = lim at *
    cases cn
    · obtain rfl := w2 rfl
      cases jm
      · replace g2 := g2 (.inl rfl)
        cbv
        repeat (first | (refine ⟨p1,_,r1, ?_⟩; cbv) | (refine ⟨_, dr, ?_⟩; cbv) | (refine ⟨p1,p2, ?_⟩; cbv) | (refine ⟨_,r2, ?_⟩; cbv) | (simp only [w3]; cbv) | simp only [w3] | (simp only [hjm]; cbv) | simp only [hjm] | (simp only [g2]; cbv) | simp only [g2])
        all_goals trivial
      · cases b40
        · replace g1 := g1 rfl rfl
          cbv
          repeat (first | (refine ⟨p1,_,r1, ?_⟩; cbv) | (refine ⟨_, dr, ?_⟩; cbv) | (refine ⟨p1,p2, ?_⟩; cbv) | (refine ⟨_,r2, ?_⟩; cbv) | (simp only [w3]; cbv) | simp only [w3] | (simp only [hjm]; cbv) | simp only [hjm] | (simp only [hb40]; cbv) | simp only [hb40] | (simp only [w4]; cbv) | simp only [w4] | (simp only [g1]; cbv) | simp only [g1])
          all_goals trivial
        · replace g2 := g2 (.inr rfl)
          cbv
          repeat (first | (refine ⟨p1,_,r1, ?_⟩; cbv) | (refine ⟨_, dr, ?_⟩; cbv) | (refine ⟨p1,p2, ?_⟩; cbv) | (refine ⟨_,r2, ?_⟩; cbv) | (simp only [w3]; cbv) | simp only [w3] | (simp only [hjm]; cbv) | simp only [hjm] | (simp only [hb40]; cbv) | simp only [hb40] | (simp only [g2]; cbv) | simp only [g2])
          all_goals trivial
    · replace w1 := w1 rfl
      cases jm
      · replace g2 := g2 (.inl rfl)
        cbv
        repeat (first | (refine ⟨p1,_,r1, ?_⟩; cbv) | (refine ⟨_, dr, ?_⟩; cbv) | (refine ⟨p1,p2, ?_⟩; cbv) | (refine ⟨_,r2, ?_⟩; cbv) | (simp only [w1]; cbv) | simp only [w1] | (simp only [w3]; cbv) | simp only [w3] | (simp only [hjm]; cbv) | simp only [hjm] | (simp only [g2]; cbv) | simp only [g2])
        all_goals trivial
      · cases b40
        · replace g1 := g1 rfl rfl
          cbv
          repeat (first | (refine ⟨p1,_,r1, ?_⟩; cbv) | (refine ⟨_, dr, ?_⟩; cbv) | (refine ⟨p1,p2, ?_⟩; cbv) | (refine ⟨_,r2, ?_⟩; cbv) | (simp only [w1]; cbv) | simp only [w1] | (simp only [w3]; cbv) | simp only [w3] | (simp only [hjm]; cbv) | simp only [hjm] | (simp only [hb40]; cbv) | simp only [hb40] | (simp only [w4]; cbv) | simp only [w4] | (simp only [g1]; cbv) | simp only [g1])
          all_goals trivial
        · replace g2 := g2 (.inr rfl)
          cbv
          repeat (first | (refine ⟨p1,_,r1, ?_⟩; cbv) | (refine ⟨_, dr, ?_⟩; cbv) | (refine ⟨p1,p2, ?_⟩; cbv) | (refine ⟨_,r2, ?_⟩; cbv) | (simp only [w1]; cbv) | simp only [w1] | (simp only [w3]; cbv) | simp only [w3] | (simp only [hjm]; cbv) | simp only [hjm] | (simp only [hb40]; cbv) | simp only [hb40] | (simp only [g2]; cbv) | simp only [g2])
          all_goals trivial
end Go.Proofs.YtlffpgjkhehdmaaDoor
