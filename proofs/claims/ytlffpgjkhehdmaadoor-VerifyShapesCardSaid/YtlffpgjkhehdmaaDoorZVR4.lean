/- Own work: the reference of layer 29: a round of spreading, as plain law. -/
import Derived.Test.YtlffpgjkhehdmaaDoorZGJ
namespace Go.Proofs.YtlffpgjkhehdmaaDoor
open Go.RowKit

theorem spreadP_ok {f : Fn} (hf : FnV f) {n : Nat} {i : Int} {x : Ins} {d s : Int} {st st' : WS2} (hk : WOk n st) (hi : 0 ≤ i) (ha : 0 ≤ x.a) (hr : spreadP (f.hdls.map hdOf) i x.op x.a d s st = some st') : WOk n st' := by
  unfold spreadP at hr
  split at hr
  · cases h1 : restP i x.op x.a d s st with
    | none => rw [h1] at hr; cases hr
    | some st1 =>
      rw [h1, Option.bind_some] at hr
      exact (hdls_ok _ (rest_ok hk hi ha h1).1 hf.hdl hr).1
  · cases hr
/-- between two rounds -/
structure RI (f : Fn) (l : List Shp) (dn : List Bool) : Prop where
  len : l.length = f.code.length
  dlen : dn.length = f.code.length
  wi : WI f ⟨l, []⟩ (fun k => dn[k]? = some false)
  shp : ∀ p ∈ l, p.1 < 0 ∨ ((0 ≤ p.1 ∧ p.1 ≤ 10000) ∧ 0 ≤ p.2 ∧ p.2 ≤ 1000)
  lab : ∀ k : Nat, dn[k]? = some true → ∃ p, l[k]? = some p ∧ 0 ≤ p.1
theorem RI.wok {f : Fn} {l : List Shp} {dn : List Bool} (h : RI f l dn) : WOk f.code.length ⟨l, []⟩ :=
  ⟨h.len, h.shp, fun i hi => by simp at hi, by
    have : unr l ≤ l.length := List.countP_le_length
    have := h.len
    simp only [List.length_nil]
    omega⟩
theorem wi_sh {f : Fn} {st : WS2} {pend : Nat → Prop} (h : WI f st pend) : WI f ⟨st.sh, []⟩ pend :=
  ⟨⟨h.kn.len, h.kn.at_⟩, fun k p h1 h2 => (h.done k p h1 h2).imp id fun hw => ⟨hw.1, fun j q hn => hw.2 j q hn⟩, h.zero⟩
theorem RI.rch {f : Fn} {l : List Shp} {dn : List Bool} (h : RI f l dn) {i : Nat} {p : Shp} (hp : l[i]? = some p) (hp0 : 0 ≤ p.1) : Rch f i p := by
  rcases h.wi.kn.at_ i p hp with ⟨_, h⟩ | h
  · exact h
  · rw [h] at hp0
    exact absurd hp0 (by decide)
theorem RI.step {f : Fn} (hf : FnV f) {l : List Shp} {dn : List Bool} (h : RI f l dn) {i : Nat} {p : Shp} (hp : l[i]? = some p) (hp0 : 0 ≤ p.1) {x : Ins} (hx : f.code[i]? = some x) {st' : WS2}
    (hs : spreadP (f.hdls.map hdOf) i x.op x.a p.1 p.2 ⟨l, []⟩ = some st') : RI f st'.sh (dn.set i true) := by
  have hrc := h.rch hp hp0
  obtain ⟨hg, hw⟩ := spread_gw hf h.wi.kn (Int.natCast_nonneg i) (x := x) (by simpa using hx) hrc hs
  have hok := spreadP_ok hf h.wok (Int.natCast_nonneg i) (hf.code x (List.mem_of_getElem? hx)).2.1 hs
  have hil : i < dn.length := by rw [h.dlen]; have := (List.getElem?_eq_some_iff.1 hx).1; exact this
  refine ⟨hok.len, by simpa using h.dlen, wi_sh (WI.step h.wi hg hw hp (fun k hk => ?_) fun k q hk hq hr hm => ?_), hok.shp, fun k hk => ?_⟩
  · by_cases e : i = k
    · exact .inl e.symm
    · refine .inr ?_
      rw [List.getElem?_set_ne e]
      exact hk
  · obtain ⟨r, h1, h2⟩ := hr
    have e : i ≠ k := by
      rintro rfl
      rw [hp] at h1
      cases h1
      omega
    rw [List.getElem?_set_ne e]
    have hkl : k < dn.length := by rw [h.dlen, ← h.len]; exact (List.getElem?_eq_some_iff.1 h1).1
    cases hd : dn[k]? with
    | none => rw [List.getElem?_eq_none_iff] at hd; omega
    | some b =>
      cases b
      · rfl
      · obtain ⟨q', h3, h4⟩ := h.lab k hd
        have h3 : l[k]? = some q' := h3
        have h1 : l[k]? = some r := h1
        rw [h3] at h1
        cases h1
        omega
  · by_cases e : i = k
    · subst e
      exact ⟨p, hg.keep i p hp hp0, hp0⟩
    · rw [List.getElem?_set_ne e] at hk
      obtain ⟨q, h1, h2⟩ := h.lab k hk
      exact ⟨q, hg.keep k q h1 h2, h2⟩
theorem RI.bad {f : Fn} (hf : FnV f) {l : List Shp} {dn : List Bool} (h : RI f l dn) {i : Nat} {p : Shp} (hp : l[i]? = some p) (hp0 : 0 ≤ p.1) {x : Ins} (hx : f.code[i]? = some x)
    (hs : spreadP (f.hdls.map hdOf) i x.op x.a p.1 p.2 ⟨l, []⟩ = none) : shapesP f = none :=
  shapesP_none hf (spread_bad hf h.wi.kn (Int.natCast_nonneg i) (x := x) (by simpa using hx) (h.rch hp hp0) hs)
theorem RI.start {f : Fn} (hf : FnV f) : RI f ((List.replicate f.code.length ((-1 : Int), (0 : Int))).set 0 (0, 0)) (List.replicate f.code.length false) := by
  obtain ⟨m, hm⟩ : ∃ m, f.code.length = m + 1 := ⟨f.code.length - 1, by have := hf.l0; omega⟩
  have hst : startP f.code.length = some ⟨(List.replicate f.code.length ((-1 : Int), (0 : Int))).set 0 (0, 0), [0]⟩ := by
    rw [hm]
    unfold startP reachP
    rw [if_pos (by simp)]
    rfl
  have hw := start_wi hst
  have ho := (start_ok hst).1
  refine ⟨ho.len, by simp, ?_, ho.shp, fun k hk => ?_⟩
  · have := wi_sh hw
    refine ⟨this.kn, fun k p h1 h2 => .inl ?_, this.zero⟩
    have hkl := (List.getElem?_eq_some_iff.1 h1).1
    rw [List.getElem?_replicate, if_pos (by simpa using hkl)]
  · rw [List.getElem?_replicate] at hk
    split at hk <;> cases hk
theorem RI.fin {f : Fn} (hf : FnV f) {l : List Shp} {dn : List Bool} (h : RI f l dn) (hno : ∀ (k : Nat) p, l[k]? = some p → 0 ≤ p.1 → dn[k]? = some true) (hk : f.code.all (kindOk f.kind) = true) : shapesP f = some l := by
  have := h.wi.fin (fun k p h1 h2 h3 => by rw [hno k p h1 h2] at h3; cases h3) hk
  exact shapesP_some hf this.1 this.2
/-- what has not been followed yet -/
def undone (dn : List Bool) : Nat := dn.countP fun b => !b
theorem undone_set {dn : List Bool} {i : Nat} (h : dn[i]? = some false) : undone (dn.set i true) + 1 = undone dn := by
  obtain ⟨hi, e⟩ := List.getElem?_eq_some_iff.1 h
  unfold undone
  rw [List.countP_set hi]
  have h1 : (!dn[i]) = true := by rw [e]; rfl
  rw [h1]
  have : 0 < dn.countP fun b => !b := List.countP_pos_iff.2 ⟨dn[i], List.getElem_mem hi, h1⟩
  simp
  omega
end Go.Proofs.YtlffpgjkhehdmaaDoor
