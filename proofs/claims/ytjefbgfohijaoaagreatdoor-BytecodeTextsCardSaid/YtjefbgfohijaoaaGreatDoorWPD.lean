/- Own work: programs as data. -/
import Derived.Test.YtjefbgfohijaoaaGreatDoorWGQ
import Derived.Test.YtjefbgfohijaoaaGreatDoorWGF
namespace Go.Proofs.YtjefbgfohijaoaaGreatDoor
open Go.RowKit
set_option maxRecDepth 100000
abbrev RT (f : FuncId) (l : List PV) (r : PV) : Prop := Ret Tryz.prog Tabs f l r
def pIns (i : Ins) : List PV := [pI i.op, pI i.a, pI i.b]
def pCst (c : Cst) : List PV := [pI c.kind, pI c.int, pS c.str]
def pHdl (h : Hdl) : List PV := [pI h.lo, pI h.hi, pI h.tg, pI h.dp, pI h.sc]
def pCode (l : List Ins) : List (List PV) := l.map pIns
def pCons (l : List Cst) : List (List PV) := l.map pCst
def pHdls (l : List Hdl) : List (List PV) := l.map pHdl
def pFn (f : Fn) : List PV := [pS f.name, pI f.kind, pI f.params, pI f.locals, .ro 3 (pCode f.code), .ro 3 (pCons f.consts), .ro 5 (pHdls f.hdls)]
def pFns (fs : List Fn) : List (List PV) := fs.map pFn
abbrev pProg (fs : List Fn) : PV := .agg [.ro 7 (pFns fs)]
structure FnSz (f : Fn) : Prop where
 nm : f.name.size <= 9223372036854775807
 l1 : f.code.length <= 9223372036854775807
 l2 : f.consts.length <= 9223372036854775807
 l3 : f.hdls.length <= 9223372036854775807
 cs : ∀ c ∈ f.consts, c.str.size <= 9223372036854775807
section
variable {w : World} {R : Nat -> Prop}
theorem repPv {x v : Value} (h : RepP w R (.v x) v) : v = x := by cases h; rfl
theorem sl_of {α : Type} {s : Nat} {cells : α -> List Value} {pc : α -> List PV} (hpc : ∀ x, pc x = (cells x).map .v) {xs : List α} {v : Value} (h : RepP w R (.ro s (xs.map pc)) v) :
  ∃ A c, v = .slice A xs.length c /\ SlAt w A s cells xs := by
 obtain ⟨rows, hr⟩ : ∃ rows, xs.map pc = rows := ⟨_, rfl⟩
 have hl : rows.length = xs.length := by rw [<-hr]; simp
 rw [hr] at h
 cases h with
 | ro0 _ A cap =>
  have : xs = [] := List.length_eq_zero_iff.1 (by simpa using hl.symm)
  subst this
  exact ⟨A, cap, rfl, SlAt.nil⟩
 | ro _ _ b o cap vs hR hb hcap hs hc hrr =>
  refine ⟨some ⟨b, o, none⟩, cap, by rw [hl], fun i x hx => ⟨b, o, rfl, fun j v hv => ?_⟩⟩
  have h1 : rows[i]? = some (pc x) := by rw [<-hr, List.getElem?_map, hx]; rfl
  have h2 : (pc x)[j]? = some (.v v) := by rw [hpc, List.getElem?_map, hv]; rfl
  have h3 := hrr i j _ _ h1 h2
  have h4 := (hc i j _ _ h1 h2).1
  cases h3
  exact h4
theorem pIns_v (x : Ins) : pIns x = (insCells x).map .v := rfl
theorem pCst_v (x : Cst) : pCst x = (cstCells x).map .v := rfl
theorem pHdl_v (x : Hdl) : pHdl x = (hdlCells x).map .v := rfl
theorem lists_of {α : Type} {n : Nat} {Q : Nat -> α -> Prop} (h : ∀ i, i < n -> ∃ x, Q i x) : ∃ xs : List α, xs.length = n /\ ∀ i x, xs[i]? = some x -> Q i x := by
 induction n with
 | zero => exact ⟨[], rfl, fun i x hx => by simp at hx⟩
 | succ n ih =>
  obtain ⟨xs, hl, hx⟩ := ih fun i hi => h i (by omega)
  obtain ⟨y, hy⟩ := h n (by omega)
  refine ⟨xs ++ [y], by simp [hl], fun i x hi => ?_⟩
  by_cases hlt : i < xs.length
  ·rw [List.getElem?_append_left hlt] at hi; exact hx i x hi
  ·rw [List.getElem?_append_right (by omega)] at hi
   have hb := (List.getElem?_eq_some_iff.1 hi).1
   have e0 : i = n := by simp at hb; omega
   have e1 : i - xs.length = 0 := by omega
   rw [e1] at hi
   cases hi
   rw [e0]; exact hy
theorem prog_of {fs : List Fn} {v : Value} (h : RepP w R (pProg fs) v) (hw : ∀ f ∈ fs, FnSz f) : ∃ A c rs, v = .agg #[.slice A rs.length c] /\ rs.map (·.f) = fs /\ ProgAt w A rs := by
 obtain ⟨l, hl⟩ : ∃ l : List PV, [PV.ro 7 (pFns fs)] = l := ⟨_, rfl⟩
 unfold pProg at h
 rw [hl] at h
 cases h with
 | agg _ vs hlen hr =>
  subst hl
  match vs, hlen with
  | [v], _ =>
   have h := hr 0 _ v rfl rfl
   obtain ⟨rows, hrw⟩ : ∃ rows, pFns fs = rows := ⟨_, rfl⟩
   have hl : rows.length = fs.length := by rw [<-hrw]; simp [pFns]
   rw [hrw] at h
   cases h with
   | ro0 _ A cap =>
    have : fs = [] := List.length_eq_zero_iff.1 (by simpa using hl.symm)
    subst this
    exact ⟨A, cap, [], rfl, rfl, SlAt.nil, fun r hr => by simp at hr, fun r hr => by simp at hr⟩
   | ro _ _ b o cap vs hR hb hcap hs hc hrr =>
    obtain ⟨rs, hrl, hrs⟩ := lists_of (n := fs.length) (Q := fun i (r : FnRef) => fs[i]? = some r.f /\ FnAt w r.A r.B r.C r.f /\ ∀ j v, (fnCells r)[j]? = some v -> w.cell? ⟨b, o + (i * 7 + j), none⟩ = some v) fun i hi => by
     obtain ⟨f, hf⟩ : ∃ f, fs[i]? = some f := ⟨_, List.getElem?_eq_getElem hi⟩
     have h1 : rows[i]? = some (pFn f) := by rw [<-hrw, pFns, List.getElem?_map, hf]; rfl
     have g : ∀ j a, (pFn f)[j]? = some a -> w.cell? ⟨b, o + (i * 7 + j), none⟩ = some (vs i j) /\ RepP w R a (vs i j) := fun j a ha => ⟨(hc i j _ a h1 ha).1, hrr i j _ a h1 ha⟩
     obtain ⟨c0, r0⟩ := g 0 _ rfl
     obtain ⟨c1, r1⟩ := g 1 _ rfl
     obtain ⟨c2, r2⟩ := g 2 _ rfl
     obtain ⟨c3, r3⟩ := g 3 _ rfl
     obtain ⟨c4, r4⟩ := g 4 _ rfl
     obtain ⟨c5, r5⟩ := g 5 _ rfl
     obtain ⟨c6, r6⟩ := g 6 _ rfl
     have v0 : vs i 0 = .string f.name := repPv r0
     have v1 : vs i 1 = .int .i64 f.kind := repPv r1
     have v2 : vs i 2 = .int .i64 f.params := repPv r2
     have v3 : vs i 3 = .int .i64 f.locals := repPv r3
     obtain ⟨A4, k4, e4, s4⟩ := sl_of pIns_v r4
     obtain ⟨A5, k5, e5, s5⟩ := sl_of pCst_v r5
     obtain ⟨A6, k6, e6, s6⟩ := sl_of pHdl_v r6
     rw [v0] at c0
     rw [v1] at c1
     rw [v2] at c2
     rw [v3] at c3
     rw [e4] at c4
     rw [e5] at c5
     rw [e6] at c6
     refine ⟨⟨f, A4, A5, A6, k4, k5, k6⟩, hf, ⟨s4, s5, s6⟩, fun j v hv => ?_⟩
     match j, hv with
     | 0, hv => cases hv; exact c0
     | 1, hv => cases hv; exact c1
     | 2, hv => cases hv; exact c2
     | 3, hv => cases hv; exact c3
     | 4, hv => cases hv; exact c4
     | 5, hv => cases hv; exact c5
     | 6, hv => cases hv; exact c6
     | j + 7, hv => simp [fnCells] at hv
    have hmap : rs.map (·.f) = fs := by
     apply List.ext_getElem?
     intro i
     rw [List.getElem?_map]
     cases hri : rs[i]? with
     | none =>
      have := List.getElem?_eq_none_iff.1 hri
      rw [List.getElem?_eq_none (by omega)]; rfl
     | some r => exact (hrs i r hri).1.symm
    have hmem : ∀ r ∈ rs, r.f ∈ fs := fun r hr => by rw [<-hmap]; exact List.mem_map_of_mem hr
    refine ⟨some ⟨b, o, none⟩, cap, rs, by rw [hrl, <- hl], hmap, fun i r hr => ⟨b, o, rfl, (hrs i r hr).2.2⟩, fun r hr => ?_, fun r hr => ?_⟩
    ·obtain ⟨i, hi⟩ := List.getElem?_of_mem hr
     exact (hrs i r hi).2.1
    ·have := hw _ (hmem r hr)
     exact ⟨this.nm, this.l1, this.l2, this.l3, this.cs⟩
end
end Go.Proofs.YtjefbgfohijaoaaGreatDoor
