/- Own work: a program in memory, as data. -/
import Derived.Test.YtjefbgfohijaoaaGreatDoorWPD
import Derived.Test.YtjefbgfohijaoaaGreatDoorWOpen
namespace Go.Proofs.YtjefbgfohijaoaaGreatDoor
open Go.RowKit
set_option maxRecDepth 100000
section
variable {w : World}
theorem rep_sl {α : Type} {s cap : Nat} {A : Option Addr} {cells : α -> List Value} {pc : α -> List PV} {xs : List α} (hs : ∀ x, (pc x).length = s) (hl : ∀ x, (cells x).length = s) (hpos : 0 < s) (hcap : xs.length <= cap) (h : SlAt w A s cells xs)
  (hone : ∀ x ∈ xs, ∀ (j : Nat) (v : Value), (cells x)[j]? = some v -> v.oneCell' = true) (hr : ∀ x ∈ xs, ∀ (j : Nat) (a : PV) (v : Value), (pc x)[j]? = some a -> (cells x)[j]? = some v -> RepP w (fun _ => True) a v) : RepP w (fun _ => True) (.ro s (xs.map pc)) (.slice A xs.length cap) := by
 cases hx : xs with
 | nil => exact .ro0 _ _ _
 | cons x0 xs0 =>
  rw [<-hx]
  obtain ⟨b, o, hA, hc0⟩ := h 0 x0 (by rw [hx]; rfl)
  have hat : ∀ (i : Nat) (x : α), xs[i]? = some x -> ∀ (j : Nat) (v : Value), (cells x)[j]? = some v -> w.cell? ⟨b, o + (i * s + j), none⟩ = some v := fun i x hi j v hv => by
   obtain ⟨b', o', hA', hc⟩ := h i x hi
   rw [hA] at hA'
   cases hA'
   exact hc j v hv
  obtain ⟨v0, hv0⟩ : ∃ v, (cells x0)[0]? = some v := ⟨_, List.getElem?_eq_getElem (by rw [hl]; exact hpos)⟩
  have hb : b < w.heap.size := block_lt_of_cell (hat 0 x0 (by rw [hx]; rfl) 0 v0 hv0)
  obtain ⟨vs, hvs⟩ : ∃ vs : Nat -> Nat -> Value, ∀ i j x v, xs[i]? = some x -> (cells x)[j]? = some v -> vs i j = v := ⟨fun i j => ((((xs[i]?).map cells).getD [])[j]?).getD undef, fun i j x v h1 h2 => by simp [h1, h2]⟩
  have key : ∀ (i j : Nat) (row : List PV) (a : PV), (xs.map pc)[i]? = some row -> row[j]? = some a -> ∃ x v, xs[i]? = some x /\ (cells x)[j]? = some v /\ (pc x)[j]? = some a := fun i j row a h1 h2 => by
   rw [List.getElem?_map] at h1
   cases hi : xs[i]? with
   | none => rw [hi] at h1; cases h1
   | some x =>
    rw [hi] at h1; cases h1
    have hj := (List.getElem?_eq_some_iff.1 h2).1
    rw [hs] at hj
    exact ⟨x, _, rfl, List.getElem?_eq_getElem (by rw [hl]; exact hj), h2⟩
  have := RepP.ro (w := w) (R := fun _ => True) s (xs.map pc) b o cap vs trivial hb (by simpa using hcap) (fun i row h1 => by
   rw [List.getElem?_map] at h1
   cases hi : xs[i]? with
   | none => rw [hi] at h1; cases h1
   | some x => rw [hi] at h1; cases h1; exact hs x) (fun i j row a h1 h2 => by
   obtain ⟨x, v, hx, hv, ha⟩ := key i j row a h1 h2
   rw [hvs i j x v hx hv]
   exact ⟨hat i x hx j v hv, hone x (List.mem_of_getElem? hx) j v hv⟩) (fun i j row a h1 h2 => by
   obtain ⟨x, v, hx, hv, ha⟩ := key i j row a h1 h2
   rw [hvs i j x v hx hv]
   exact hr x (List.mem_of_getElem? hx) j a v ha hv)
  rw [hA]
  simpa using this
theorem repV {α : Type} {cells : α -> List Value} {pc : α -> List PV} (hpc : ∀ x, pc x = (cells x).map .v) (x : α) (j : Nat) (a : PV) (v : Value) (h1 : (pc x)[j]? = some a) (h2 : (cells x)[j]? = some v) : RepP w (fun _ => True) a v := by
 rw [hpc, List.getElem?_map, h2] at h1
 cases h1
 exact .v _
structure FnCap (r : FnRef) : Prop where
 a : r.f.code.length <= r.ca
 b : r.f.consts.length <= r.cb
 c : r.f.hdls.length <= r.cc
theorem one_ins (x : Ins) (j : Nat) (v : Value) (h : (insCells x)[j]? = some v) : v.oneCell' = true := by
 match j, h with
 | 0, h => cases h; rfl
 | 1, h => cases h; rfl
 | 2, h => cases h; rfl
 | j + 3, h => simp [insCells] at h
theorem one_cst (x : Cst) (j : Nat) (v : Value) (h : (cstCells x)[j]? = some v) : v.oneCell' = true := by
 match j, h with
 | 0, h => cases h; rfl
 | 1, h => cases h; rfl
 | 2, h => cases h; rfl
 | j + 3, h => simp [cstCells] at h
theorem one_hdl (x : Hdl) (j : Nat) (v : Value) (h : (hdlCells x)[j]? = some v) : v.oneCell' = true := by
 match j, h with
 | 0, h => cases h; rfl
 | 1, h => cases h; rfl
 | 2, h => cases h; rfl
 | 3, h => cases h; rfl
 | 4, h => cases h; rfl
 | j + 5, h => simp [hdlCells] at h
theorem one_fn (x : FnRef) (j : Nat) (v : Value) (h : (fnCells x)[j]? = some v) : v.oneCell' = true := by
 match j, h with
 | 0, h => cases h; rfl
 | 1, h => cases h; rfl
 | 2, h => cases h; rfl
 | 3, h => cases h; rfl
 | 4, h => cases h; rfl
 | 5, h => cases h; rfl
 | 6, h => cases h; rfl
 | j + 7, h => simp [fnCells] at h
theorem rep_prog {A : Option Addr} {rs : List FnRef} {c : Nat} (h : ProgAt w A rs) (hc : rs.length <= c) (hf : ∀ r ∈ rs, FnCap r) : RepP w (fun _ => True) (pProg (rs.map (·.f))) (.agg #[.slice A rs.length c]) := by
 have h1 : RepP w (fun _ => True) (.ro 7 (rs.map fun r => pFn r.f)) (.slice A rs.length c) := by
  refine rep_sl (cells := fnCells) (fun r => rfl) fnCells_len (by decide) hc h.sl (fun x _ => one_fn x) fun r hr j a v ha hv => ?_
  have hF := h.fns r hr
  have hC := hf r hr
  match j, ha, hv with
  | 0, ha, hv => cases ha; cases hv; exact .v _
  | 1, ha, hv => cases ha; cases hv; exact .v _
  | 2, ha, hv => cases ha; cases hv; exact .v _
  | 3, ha, hv => cases ha; cases hv; exact .v _
  | 4, ha, hv => cases ha; cases hv; exact rep_sl (cells := insCells) (fun _ => rfl) insCells_len (by decide) hC.a hF.code (fun x _ => one_ins x) fun x _ => repV pIns_v x
  | 5, ha, hv => cases ha; cases hv; exact rep_sl (cells := cstCells) (fun _ => rfl) cstCells_len (by decide) hC.b hF.consts (fun x _ => one_cst x) fun x _ => repV pCst_v x
  | 6, ha, hv => cases ha; cases hv; exact rep_sl (cells := hdlCells) (fun _ => rfl) hdlCells_len (by decide) hC.c hF.hdls (fun x _ => one_hdl x) fun x _ => repV pHdl_v x
  | j + 7, ha, hv => simp [fnCells] at hv
 have h2 : pFns (rs.map (·.f)) = rs.map fun r => pFn r.f := by rw [pFns, List.map_map]; rfl
 unfold pProg
 rw [h2]
 refine .agg [_] [_] rfl fun j a v ha hv => ?_
 match j, ha, hv with
 | 0, ha, hv => cases ha; cases hv; exact h1
 | j + 1, ha, hv => simp at hv
theorem fnCap_of {r : FnRef} (h : FnFull w r) : FnCap r := ⟨h.la, h.lb, h.lc⟩
theorem fnSz_of {rs : List FnRef} {A : Option Addr} (h : ProgAt w A rs) : ∀ f ∈ rs.map (·.f), FnSz f := by
 intro f hf
 obtain ⟨r, hr, rfl⟩ := List.mem_map.1 hf
 have := h.wf r hr
 exact ⟨this.nm, this.l1, this.l2, this.l3, this.cs⟩
end
end Go.Proofs.YtjefbgfohijaoaaGreatDoor
