/- Own work: package verify: visit, for every instruction that can be. -/
import Derived.Test.YtlffpgjkhehdmaaDoorZW3A
import Derived.Test.YtlffpgjkhehdmaaDoorZW3B
import Derived.Test.YtlffpgjkhehdmaaDoorZW3C
import Derived.Test.YtlffpgjkhehdmaaDoorZW3D
namespace Go.Proofs.YtlffpgjkhehdmaaDoor
open Go.RowKit
set_option maxRecDepth 100000

theorem pops_bnd (op : Int) : 0 ≤ popsOf op ∧ popsOf op ≤ 10 := by
  unfold popsOf
  repeat' split
  all_goals omega
theorem pushes_bnd (op : Int) : -100 ≤ pushesOf op ∧ pushesOf op ≤ 100 := by
  unfold pushesOf
  repeat' split
  all_goals omega
theorem jmp_bnd (op : Int) : -100 ≤ jmpOf op ∧ jmpOf op ≤ 100 := by
  unfold jmpOf
  split <;> omega
theorem cnt_no_jump (op : Int) (h : cntOf op = true) : operandOf op = 6 := by
  unfold cntOf at h
  simp only [Bool.or_eq_true, beq_iff_eq] at h
  rcases h with rfl | rfl <;> rfl
set_option maxHeartbeats 2000000 in
theorem visit_few (f : WF) (hs : List Hd) (st : WS2) (hq : f.q6 = .ro 5 (pHds hs)) (hl : f.code.length = st.sh.length) (i op a b d s : Int) (hi : 0 ≤ i) (hrow : f.code[i.toNat]? = some [pI op, pI a, pI b]) (hsh : st.sh[i.toNat]? = some (d, s))
    (h0 : 1 ≤ op) (h1 : op ≤ 53) (ha0 : 0 ≤ a) (ha1 : a ≤ 100000) (_hd1 : d ≤ 10000) (ht : ¬ takesP op a ≤ d) :
    VM 65 [.own 0 0, .p (pI i)] (walkS f st) (.p (.pan unsafeCh)) panH := by
  have dr := describe_ret op h0 h1
  have df := demand_false
  have hrow2 := pSh_get hsh
  have hp0 := pops_bnd op
  have hil : i.toNat < f.code.length := (List.getElem?_eq_some_iff.1 hrow).1
  unfold pInfo at dr
  unfold takesP at ht
  generalize nameOf op = nm at *
  generalize operandOf op = od at *
  generalize popsOf op = pp at *
  generalize pushesOf op = pu at *
  generalize jmpOf op = jp at *
  generalize endsOf op = en at *
  unfold walkS walkH panH
  rw [hq]
  generalize pHds hs = HR at *
  generalize pSh st.sh = shr at *
  generalize hn : st.sh.length = n at *
  generalize pOp st.op = opr at *
  generalize st.op.length = m at *
  cases hcn : cntOf op
  · rw [hcn] at dr ht
    replace ht : ¬ pp ≤ d := ht
    refine retm_by3 tyT_ok mixed (fun n => match n with | 0 => 19 | _ => 0) Tryd.func65 rfl (by kernel_rfl) (by kernel_rfl) rfl fun P G E hc hM hE t0 t1 t2 => ?_
    replace df := hc _ _ _ df
    replace dr := hc _ _ _ dr
    have p1 : E.ple 0 i := by rw [hE]; exact hi
    have p2 : E.plt i (E.ofN n) := by rw [hE]; show i < (n : Int); omega
    have e1 : E.addN 0 (E.nat i) = i.toNat := by rw [hE]; exact Nat.zero_add _
    have e2 : E.nat i = i.toNat := by rw [hE]; rfl
    have r1 : f.code[E.nat i]? = some [pI op, pI a, pI b] := by rw [e2]; exact hrow
    have r2 : shr[E.addN 0 (E.nat i)]? = some [pI d, pI s] := by rw [e1]; exact hrow2
    have c1 : E.lei pp d = false := by rw [hE]; exact decide_eq_false ht
    cbv
    repeat (first | (refine ⟨p1, _, r1, ?_⟩; cbv) | (refine ⟨p1, p2, ?_⟩; cbv) | (refine ⟨_, r2, ?_⟩; cbv) | (refine ⟨_, dr, ?_⟩; cbv) | (simp only [c1]; cbv) | (refine ⟨_, df, ?_⟩; cbv))
  · rw [hcn] at dr ht
    replace ht : ¬ pp + a ≤ d := ht
    refine retm_by3 tyT_ok mixed (fun n => match n with | 0 => 19 | _ => 0) Tryd.func65 rfl (by kernel_rfl) (by kernel_rfl) rfl fun P G E hc hM hE t0 t1 t2 => ?_
    replace df := hc _ _ _ df
    replace dr := hc _ _ _ dr
    have p1 : E.ple 0 i := by rw [hE]; exact hi
    have p2 : E.plt i (E.ofN n) := by rw [hE]; show i < (n : Int); omega
    have e1 : E.addN 0 (E.nat i) = i.toNat := by rw [hE]; exact Nat.zero_add _
    have e2 : E.nat i = i.toNat := by rw [hE]; rfl
    have r1 : f.code[E.nat i]? = some [pI op, pI a, pI b] := by rw [e2]; exact hrow
    have r2 : shr[E.addN 0 (E.nat i)]? = some [pI d, pI s] := by rw [e1]; exact hrow2
    have w1 : E.wadd .i64 pp a = pp + a := by rw [hE]; exact wrap_i64_in (by omega) (by omega)
    have c1 : E.lei (pp + a) d = false := by rw [hE]; exact decide_eq_false ht
    generalize pp + a = tk at *
    cbv
    repeat (first | (refine ⟨p1, _, r1, ?_⟩; cbv) | (refine ⟨p1, p2, ?_⟩; cbv) | (refine ⟨_, r2, ?_⟩; cbv) | (refine ⟨_, dr, ?_⟩; cbv) | (simp only [w1]; cbv) | (simp only [c1]; cbv) | (refine ⟨_, df, ?_⟩; cbv))
set_option maxHeartbeats 2000000 in
theorem visit_nojump (f : WF) (hs : List Hd) (st : WS2) (hq : f.q6 = .ro 5 (pHds hs)) (hl : f.code.length = st.sh.length) (i op a b d s : Int) (hi : 0 ≤ i) (hrow : f.code[i.toNat]? = some [pI op, pI a, pI b]) (hsh : st.sh[i.toNat]? = some (d, s))
    (h0 : 1 ≤ op) (h1 : op ≤ 53) (ht : takesP op a ≤ d) (h7 : operandOf op = 7) (h40 : op ≠ 40) (h1d : ¬ 1 ≤ d) :
    VM 65 [.own 0 0, .p (pI i)] (walkS f st) (.p (.pan unsafeCh)) panH := by
  have dr := describe_ret op h0 h1
  have df := demand_false
  have dt := demand_true
  have hrow2 := pSh_get hsh
  have hcn : cntOf op = false := by
    cases h : cntOf op
    · rfl
    · have := cnt_no_jump op h
      omega
  have hil : i.toNat < f.code.length := (List.getElem?_eq_some_iff.1 hrow).1
  unfold pInfo at dr
  unfold takesP at ht
  rw [hcn] at dr ht
  replace ht : popsOf op ≤ d := ht
  rw [h7] at dr
  generalize nameOf op = nm at *
  generalize popsOf op = pp at *
  generalize pushesOf op = pu at *
  generalize jmpOf op = jp at *
  generalize endsOf op = en at *
  unfold walkS walkH panH
  rw [hq]
  generalize pHds hs = HR at *
  generalize pSh st.sh = shr at *
  generalize hn : st.sh.length = n at *
  generalize pOp st.op = opr at *
  generalize st.op.length = m at *
  refine retm_by3 tyT_ok mixed (fun n => match n with | 0 => 19 | _ => 0) Tryd.func65 rfl (by kernel_rfl) (by kernel_rfl) rfl fun P G E hc hM hE t0 t1 t2 => ?_
  replace df := hc _ _ _ df
  replace dt := hc _ _ _ dt
  replace dr := hc _ _ _ dr
  have p1 : E.ple 0 i := by rw [hE]; exact hi
  have p2 : E.plt i (E.ofN n) := by rw [hE]; show i < (n : Int); omega
  have e1 : E.addN 0 (E.nat i) = i.toNat := by rw [hE]; exact Nat.zero_add _
  have e2 : E.nat i = i.toNat := by rw [hE]; rfl
  have r1 : f.code[E.nat i]? = some [pI op, pI a, pI b] := by rw [e2]; exact hrow
  have r2 : shr[E.addN 0 (E.nat i)]? = some [pI d, pI s] := by rw [e1]; exact hrow2
  have c1 : E.lei pp d = true := by rw [hE]; exact decide_eq_true ht
  have c2 : E.lei 1 d = false := by rw [hE]; exact decide_eq_false h1d
  have g40 : decide (op = 40) = false := decide_eq_false h40
  cbv
  repeat (first | (refine ⟨p1, _, r1, ?_⟩; cbv) | (refine ⟨p1, p2, ?_⟩; cbv) | (refine ⟨_, r2, ?_⟩; cbv) | (refine ⟨_, dr, ?_⟩; cbv) | (simp only [c1]; cbv) | (refine ⟨_, dt, ?_⟩; cbv) | (simp only [g40]; cbv) | (simp only [c2]; cbv) | (refine ⟨_, df, ?_⟩; cbv))
/-- visit -/
theorem visit_ret (f : WF) (hs : List Hd) (st : WS2) (hq : f.q6 = .ro 5 (pHds hs)) (hhs : hs.length ≤ 10000) (hh : ∀ h ∈ hs, HdOk h) (hl : f.code.length = st.sh.length) (hst : st.op.length ≤ 80000) (i op a b d s : Int) (hi : 0 ≤ i) (hi2 : i ≤ 100000) (hrow : f.code[i.toNat]? = some [pI op, pI a, pI b]) (hsh : st.sh[i.toNat]? = some (d, s))
    (h0 : 1 ≤ op) (h1 : op ≤ 53) (ha0 : 0 ≤ a) (ha1 : a ≤ 100000) (hd0 : 0 ≤ d) (hd1 : d ≤ 10000) (hs0 : 0 ≤ s) (hs1 : s ≤ 1000) :
    VM 65 [.own 0 0, .p (pI i)] (walkS f st) (resR (visitP hs i op a d s st)) (resH f (visitP hs i op a d s st)) := by
  have b1 := pops_bnd op
  have b2 := pushes_bnd op
  have b3 := jmp_bnd op
  by_cases ht : takesP op a ≤ d
  · by_cases h7 : operandOf op = 7
    · have hcn : cntOf op = false := by
        cases h : cntOf op
        · rfl
        · have := cnt_no_jump op h
          omega
      by_cases h40 : op = 40
      · exact visit_t40 f hs st hq hhs hh hl hst i op a b d s hi hi2 hrow hsh h0 h1 ha0 ha1 hd0 hd1 hs0 hs1 b1 b2 b3 hcn (decide_eq_true h7) ht (.inr (.inl h40)) h40
      · by_cases h1d : 1 ≤ d
        · exact visit_tn f hs st hq hhs hh hl hst i op a b d s hi hi2 hrow hsh h0 h1 ha0 ha1 hd0 hd1 hs0 hs1 b1 b2 b3 hcn (decide_eq_true h7) ht (.inr (.inr h1d)) h40
        · have hv : visitP hs i op a d s st = none := if_neg fun h => by
            rcases h.2 with h | h | h
            · exact h h7
            · exact h40 h
            · exact h1d h
          rw [hv]
          exact visit_nojump f hs st hq hl i op a b d s hi hrow hsh h0 h1 ht h7 h40 h1d
    · cases hcn : cntOf op
      · exact visit_ff f hs st hq hhs hh hl hst i op a b d s hi hi2 hrow hsh h0 h1 ha0 ha1 hd0 hd1 hs0 hs1 b1 b2 b3 hcn (decide_eq_false h7) ht (.inl rfl)
      · exact visit_cf f hs st hq hhs hh hl hst i op a b d s hi hi2 hrow hsh h0 h1 ha0 ha1 hd0 hd1 hs0 hs1 b1 b2 b3 hcn (decide_eq_false h7) ht (.inl rfl)
  · have hv : visitP hs i op a d s st = none := if_neg fun h => ht h.1
    rw [hv]
    exact visit_few f hs st hq hl i op a b d s hi hrow hsh h0 h1 ha0 ha1 hd1 ht
end Go.Proofs.YtlffpgjkhehdmaaDoor
