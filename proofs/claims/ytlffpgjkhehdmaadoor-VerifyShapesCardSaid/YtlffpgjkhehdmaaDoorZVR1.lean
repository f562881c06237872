/- Own work: the reference of layer 29: set. -/
import Derived.Test.YtlffpgjkhehdmaaDoorZGJ
import Derived.Test.YtlffpgjkhehdmaaDoorZGB
namespace Go.Proofs.YtlffpgjkhehdmaaDoor
open Go.RowKit
set_option maxRecDepth 100000

abbrev VK (f : FuncId) (l : List AV) (H : AH) (r : AV) (K : AH) (n : Nat) : Prop := RetK Tryd.prog G0 f l H r K fun k => [((0 : Nat), (0 : Nat), n)].any fun x => x.2.1 == k
abbrev shB (sh : List (List PV)) : Option ABlk := some (.rows 2 sh 52)
set_option maxHeartbeats 1000000 in
theorem set_new (sh : List (List PV)) (n : Nat) (i d s d0 s0 : Int) (hi : 0 ≤ i) (hn0 : 0 < n) (hin : i < n) (_hn : sh.length = n) (hd : d ≤ 10000) (hs : s ≤ 1000) (hrow : sh[i.toNat]? = some [pI d0, pI s0]) (hneg : d0 < 0) :
    VK 66 [.osl 0 0 n, .p (pI i), .p (.agg [pI d, pI s])] [shB sh] (.p (pB true)) [shB (sh.set i.toNat [pI d, pI s])] n := by
  obtain ⟨sh', hsh⟩ : ∃ x, sh.set i.toNat [pI d, pI s] = x := ⟨_, rfl⟩
  rw [hsh]
  refine retk_cut tyT_ok (f := 66) Tryd.func66 rfl (by kernel_rfl) (of_decide_eq_true (by kernel_rfl)) [(0, 0, n)] (by kernel_rfl) (fun x hx => by
      obtain rfl : x = (0, 0, n) := by simpa using hx
      exact ⟨rfl, hn0, _, _, _, _, _, rfl, rfl⟩) fun tags htl => ?_
  obtain ⟨t0, rfl⟩ : ∃ t0, tags = [t0] := List.length_eq_one_iff.1 htl
  refine Seg.of tyT_ok mixed (fun n => match n with | 4 => 7 | _ => 0) (by kernel_rfl) (fun E => retQK E tyT Tryd.f66.results.toList [t0] (.p (pB true)) [shB sh'] [(0, 0, n)]) fun P G E hc hM hE => ?_
  have c1 : E.lti i 0 = false := by rw [hE]; exact decide_eq_false (by omega)
  have c2 : E.lei (E.ofN n) i = false := by rw [hE]; exact decide_eq_false (show ¬ (n : Int) ≤ i by omega)
  have c3 : E.lti 10000 d = false := by rw [hE]; exact decide_eq_false (by omega)
  have c4 : E.lti 1000 s = false := by rw [hE]; exact decide_eq_false (by omega)
  have c6 : E.lei 0 d0 = false := by rw [hE]; exact decide_eq_false (by omega)
  have p1 : E.ple 0 i := by rw [hE]; exact hi
  have p2 : E.plt i (E.ofN n) := by rw [hE]; show i < (n : Int); omega
  have a1 : E.addN 0 (E.nat i) = i.toNat := by rw [hE]; exact Nat.zero_add _
  have r1 : sh[E.addN 0 (E.nat i)]? = some [pI d0, pI s0] := by rw [a1]; exact hrow
  have r2 : E.put sh (E.addN 0 (E.nat i)) [pI d, pI s] = sh' := by rw [a1, hE]; exact hsh
  cbv
  repeat (first | (simp only [c1]; cbv) | simp only [c1] | (simp only [c2]; cbv) | simp only [c2] | (simp only [c3]; cbv) | simp only [c3] | (simp only [c4]; cbv) | simp only [c4] | (refine ⟨p1,p2, ?_⟩; cbv) | (refine ⟨_, r1, ?_⟩; cbv) | (simp only [c6]; cbv) | simp only [c6] | (simp only [r2]; cbv) | simp only [r2])
  all_goals (simp only [r2]; trivial)
set_option maxHeartbeats 1000000 in
theorem set_old (sh : List (List PV)) (n : Nat) (i d s d0 s0 : Int) (hi : 0 ≤ i) (hn0 : 0 < n) (hin : i < n) (_hn : sh.length = n) (hd : d ≤ 10000) (hs : s ≤ 1000) (hrow : sh[i.toNat]? = some [pI d0, pI s0]) (hneg : ¬ d0 < 0) (x y : Bool) (hx : decide (d0 = d) = x) (hy : decide (s0 = s) = y) :
    VK 66 [.osl 0 0 n, .p (pI i), .p (.agg [pI d, pI s])] [shB sh] (.p (pB (x && y))) [shB sh] n := by
  cases x <;> cases y
  all_goals (
    simp only [Bool.and_true, Bool.and_false]
    refine retk_cut tyT_ok (f := 66) Tryd.func66 rfl (by kernel_rfl) (of_decide_eq_true (by kernel_rfl)) [(0, 0, n)] (by kernel_rfl) (fun x hx => by
        obtain rfl : x = (0, 0, n) := by simpa using hx
        exact ⟨rfl, hn0, _, _, _, _, _, rfl, rfl⟩) fun tags htl => ?_
    obtain ⟨t0, rfl⟩ : ∃ t0, tags = [t0] := List.length_eq_one_iff.1 htl
    refine Seg.of tyT_ok mixed (fun n => match n with | 4 => 7 | _ => 0) (by kernel_rfl) (fun E => retQK E tyT Tryd.f66.results.toList [t0] (.p (pB _)) [shB sh] [(0, 0, n)]) fun P G E hc hM hE => ?_
    have c1 : E.lti i 0 = false := by rw [hE]; exact decide_eq_false (by omega)
    have c2 : E.lei (E.ofN n) i = false := by rw [hE]; exact decide_eq_false (show ¬ (n : Int) ≤ i by omega)
    have c3 : E.lti 10000 d = false := by rw [hE]; exact decide_eq_false (by omega)
    have c4 : E.lti 1000 s = false := by rw [hE]; exact decide_eq_false (by omega)
    have c6 : E.lei 0 d0 = true := by rw [hE]; exact decide_eq_true (by omega)
    have p1 : E.ple 0 i := by rw [hE]; exact hi
    have p2 : E.plt i (E.ofN n) := by rw [hE]; show i < (n : Int); omega
    have a1 : E.addN 0 (E.nat i) = i.toNat := by rw [hE]; exact Nat.zero_add _
    have r1 : sh[E.addN 0 (E.nat i)]? = some [pI d0, pI s0] := by rw [a1]; exact hrow
    cbv
    repeat (first | (simp only [c1]; cbv) | (simp only [c2]; cbv) | (simp only [c3]; cbv) | (simp only [c4]; cbv) | (refine ⟨p1, p2, ?_⟩; cbv) | (refine ⟨_, r1, ?_⟩; cbv) | (simp only [c6]; cbv) | (simp only [hx]; cbv) | (simp only [hy]; cbv) | (simp only [hx, hy]; cbv))
    all_goals trivial)
set_option maxHeartbeats 1000000 in
theorem set_out (sh : List (List PV)) (n : Nat) (i d s : Int) (_hi : 0 ≤ i) (hn0 : 0 < n) (hbad : ¬ (i < n ∧ d ≤ 10000 ∧ s ≤ 1000)) :
    VK 66 [.osl 0 0 n, .p (pI i), .p (.agg [pI d, pI s])] [shB sh] (.p (pB false)) [shB sh] n := by
  have hcase : (i < (n : Int) ∧ d ≤ 10000 ∧ ¬ s ≤ 1000) ∨ (i < (n : Int) ∧ ¬ d ≤ 10000) ∨ ¬ i < (n : Int) := by omega
  clear hbad
  rcases hcase with ⟨h1, h2, h3⟩ | ⟨h1, h2⟩ | h1
  · refine retk_cut tyT_ok (f := 66) Tryd.func66 rfl (by kernel_rfl) (of_decide_eq_true (by kernel_rfl)) [(0, 0, n)] (by kernel_rfl) (fun x hx => by
        obtain rfl : x = (0, 0, n) := by simpa using hx
        exact ⟨rfl, hn0, _, _, _, _, _, rfl, rfl⟩) fun tags htl => ?_
    obtain ⟨t0, rfl⟩ : ∃ t0, tags = [t0] := List.length_eq_one_iff.1 htl
    refine Seg.of tyT_ok mixed (fun n => match n with | 4 => 7 | _ => 0) (by kernel_rfl) (fun E => retQK E tyT Tryd.f66.results.toList [t0] (.p (pB false)) [shB sh] [(0, 0, n)]) fun P G E hc hM hE => ?_
    have c1 : E.lti i 0 = false := by rw [hE]; exact decide_eq_false (by omega)
    have c2 : E.lei (E.ofN n) i = false := by rw [hE]; exact decide_eq_false (show ¬ (n : Int) ≤ i by omega)
    have c3 : E.lti 10000 d = false := by rw [hE]; exact decide_eq_false (by omega)
    have c4 : E.lti 1000 s = true := by rw [hE]; exact decide_eq_true (by omega)
    cbv
    repeat (first | (simp only [c1]; cbv) | simp only [c1] | (simp only [c2]; cbv) | simp only [c2] | (simp only [c3]; cbv) | simp only [c3] | (simp only [c4]; cbv) | simp only [c4])
    all_goals trivial
  · refine retk_cut tyT_ok (f := 66) Tryd.func66 rfl (by kernel_rfl) (of_decide_eq_true (by kernel_rfl)) [(0, 0, n)] (by kernel_rfl) (fun x hx => by
        obtain rfl : x = (0, 0, n) := by simpa using hx
        exact ⟨rfl, hn0, _, _, _, _, _, rfl, rfl⟩) fun tags htl => ?_
    obtain ⟨t0, rfl⟩ : ∃ t0, tags = [t0] := List.length_eq_one_iff.1 htl
    refine Seg.of tyT_ok mixed (fun n => match n with | 4 => 7 | _ => 0) (by kernel_rfl) (fun E => retQK E tyT Tryd.f66.results.toList [t0] (.p (pB false)) [shB sh] [(0, 0, n)]) fun P G E hc hM hE => ?_
    have c1 : E.lti i 0 = false := by rw [hE]; exact decide_eq_false (by omega)
    have c2 : E.lei (E.ofN n) i = false := by rw [hE]; exact decide_eq_false (show ¬ (n : Int) ≤ i by omega)
    have c3 : E.lti 10000 d = true := by rw [hE]; exact decide_eq_true (by omega)
    cbv
    repeat (first | (simp only [c1]; cbv) | simp only [c1] | (simp only [c2]; cbv) | simp only [c2] | (simp only [c3]; cbv) | simp only [c3])
    all_goals trivial
  · refine retk_cut tyT_ok (f := 66) Tryd.func66 rfl (by kernel_rfl) (of_decide_eq_true (by kernel_rfl)) [(0, 0, n)] (by kernel_rfl) (fun x hx => by
        obtain rfl : x = (0, 0, n) := by simpa using hx
        exact ⟨rfl, hn0, _, _, _, _, _, rfl, rfl⟩) fun tags htl => ?_
    obtain ⟨t0, rfl⟩ : ∃ t0, tags = [t0] := List.length_eq_one_iff.1 htl
    refine Seg.of tyT_ok mixed (fun n => match n with | 4 => 7 | _ => 0) (by kernel_rfl) (fun E => retQK E tyT Tryd.f66.results.toList [t0] (.p (pB false)) [shB sh] [(0, 0, n)]) fun P G E hc hM hE => ?_
    have c1 : E.lti i 0 = false := by rw [hE]; exact decide_eq_false (by omega)
    have c2 : E.lei (E.ofN n) i = true := by rw [hE]; exact decide_eq_true (show (n : Int) ≤ i by omega)
    cbv
    repeat (first | (simp only [c1]; cbv) | simp only [c1] | (simp only [c2]; cbv) | simp only [c2])
    all_goals trivial
theorem agg_args3 {f : FuncId} {n : Nat} {i p q : Int} {H : AH} {r : AV} {H' : AH} {m : Nat} (h : VK f [.osl 0 0 n, .p (pI i), .p (.agg [pI p, pI q])] H r H' m) : VK f [.osl 0 0 n, .p (pI i), .agg [.p (pI p), .p (pI q)]] H r H' m := by
  refine h.args rfl fun j a a' h1 h2 => ?_
  match j, h1, h2 with
  | 0, h1, h2 => cases h1; cases h2; exact .inl rfl
  | 1, h1, h2 => cases h1; cases h2; exact .inl rfl
  | 2, h1, h2 => cases h1; cases h2; exact .inr ⟨_, rfl, rfl⟩
  | j + 3, h1, h2 => simp at h1
theorem set_any (st : WS2) (i : Int) (p : Shp) (hi : 0 ≤ i) (hn0 : 0 < st.sh.length) (hp : 0 ≤ p.1) (hq : 0 ≤ p.2) :
    VK 66 [.osl 0 0 st.sh.length, .p (pI i), .agg [.p (pI p.1), .p (pI p.2)]] [shB (pSh st.sh)] (.p (pB (reachP st i p).isSome)) [shB (pSh (match reachP st i p with | some st' => st'.sh | none => st.sh))] st.sh.length := by
  obtain ⟨sh, op⟩ := st
  obtain ⟨d, s⟩ := p
  refine agg_args3 ?_
  simp only at hp hq hn0 ⊢
  unfold reachP
  simp only
  by_cases hok : i < (sh.length : Int) ∧ (0 ≤ d ∧ d ≤ 10000) ∧ 0 ≤ s ∧ s ≤ 1000
  · rw [if_pos hok]
    have hil : i.toNat < sh.length := by omega
    obtain ⟨q, hq⟩ : ∃ q, sh[i.toNat]? = some q := ⟨_, List.getElem?_eq_getElem hil⟩
    obtain ⟨d0, s0⟩ := q
    have hrow := pSh_get hq
    simp only [hq]
    by_cases hneg : d0 < 0
    · rw [if_pos hneg]
      have h := set_new (pSh sh) sh.length i d s d0 s0 hi hn0 hok.1 (by simp [pSh]) hok.2.1.2 hok.2.2.2 hrow hneg
      have e1 : (pSh sh).set i.toNat [pI d, pI s] = pSh (sh.set i.toNat (d, s)) := by unfold pSh; rw [List.map_set]
      rw [e1] at h
      exact h
    · rw [if_neg hneg]
      have h := set_old (pSh sh) sh.length i d s d0 s0 hi hn0 hok.1 (by simp [pSh]) hok.2.1.2 hok.2.2.2 hrow hneg (decide (d0 = d)) (decide (s0 = s)) rfl rfl
      by_cases he : (d0, s0) = (d, s)
      · rw [if_pos he]
        obtain ⟨rfl, rfl⟩ := Prod.mk.inj he
        simpa using h
      · rw [if_neg he]
        have : (decide (d0 = d) && decide (s0 = s)) = false := by
          simp only [Prod.mk.injEq] at he
          simpa using he
        rw [this] at h
        exact h
  · rw [if_neg hok]
    exact set_out (pSh sh) sh.length i d s hi hn0 (by omega)
theorem set_some {st st' : WS2} {i : Int} {p : Shp} (h : reachP st i p = some st') (hi : 0 ≤ i) (hn0 : 0 < st.sh.length) (hp : 0 ≤ p.1) (hq : 0 ≤ p.2) :
    VK 66 [.osl 0 0 st.sh.length, .p (pI i), .agg [.p (pI p.1), .p (pI p.2)]] [shB (pSh st.sh)] (.p (pB true)) [shB (pSh st'.sh)] st.sh.length := by
  have := set_any st i p hi hn0 hp hq
  rw [h] at this
  exact this
theorem set_none {st : WS2} {i : Int} {p : Shp} (h : reachP st i p = none) (hi : 0 ≤ i) (hn0 : 0 < st.sh.length) (hp : 0 ≤ p.1) (hq : 0 ≤ p.2) :
    VK 66 [.osl 0 0 st.sh.length, .p (pI i), .agg [.p (pI p.1), .p (pI p.2)]] [shB (pSh st.sh)] (.p (pB false)) [shB (pSh st.sh)] st.sh.length := by
  have := set_any st i p hi hn0 hp hq
  rw [h] at this
  exact this
end Go.Proofs.YtlffpgjkhehdmaaDoor
