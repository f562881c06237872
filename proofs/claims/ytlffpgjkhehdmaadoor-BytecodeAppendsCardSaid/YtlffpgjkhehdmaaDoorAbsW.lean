/- Own work: operations that make or write memory of the walk's own, over values as data. -/
import Derived.Test.YtlffpgjkhehdmaaDoorAbsQT
import Derived.Laws.NewBlocks
namespace Go.Proofs.YtlffpgjkhehdmaaDoor
open Go.RowKit

/-- what a call may lean on: the laid tables stand, whatever becomes of the walk's own blocks; lent and new blocks may be read once they are given up -/
structure Can (G : World → Prop) (w0 : Base) (B : Nat → Prop) (w : World) (ι : Pl) (H : AH) : Prop where
  stab : ∀ w', GrX ⟨w, Owned ι H⟩ w' → G w'
  own : ∀ b, w0.own b → B b
theorem Can.now {G : World → Prop} {w0 : Base} {B : Nat → Prop} {w : World} {ι : Pl} {H : AH} (h : Can G w0 B w ι H) : G w := h.stab w ⟨rfl, rfl, rfl, Nat.le_refl _, fun _ _ _ => rfl⟩
def WS (P : Program) (G : World → Prop) (o : Oper) (env : List AV) (H : AH) (a : AV) (H' : AH) (sc : Option (Nat → Bool)) : Prop :=
  ∀ (w0 : Base) (B : Nat → Prop) (w : World) (ι : Pl) (ρ : Operand → Value), Rel w0 B w ι H → Can G w0 B w ι H → (∀ x, x ∈ o.op.operands → Rep w ι (Rd B ι H) (aev env x) (ρ x)) → (∀ f, ρ (.func f) = .func (.func f) #[] #[]) →
    growUpon P (fun v w' => ∃ ι', Rel w0 B w' ι' H' ∧ Keeps sc w ι (Rd B ι H) w' ι' (Rd B ι' H') ∧ Rep w' ι' (Rd B ι' H') a v) ((execOp ρ o).run P w)

theorem get_snoc {α : Type} {l : List α} {x y : α} {k : Nat} (h : (l ++ [x])[k]? = some y) : (k < l.length ∧ l[k]? = some y) ∨ (k = l.length ∧ y = x) := by
  rcases Nat.lt_trichotomy k l.length with h' | h' | h'
  · rw [List.getElem?_append_left h'] at h; exact .inl ⟨h', h⟩
  · subst h'
    rw [List.getElem?_append_right (Nat.le_refl _)] at h
    simp at h; exact .inr ⟨rfl, h.symm⟩
  · rw [List.getElem?_append_right (by omega)] at h
    rw [List.getElem?_eq_none (by simp; omega)] at h; cases h
theorem get_snoc_old {α : Type} {l : List α} {x y : α} {k : Nat} (h : l[k]? = some y) : (l ++ [x])[k]? = some y := by
  rw [List.getElem?_append_left (List.getElem?_eq_some_iff.1 h).1]; exact h
theorem get_snoc_new {α : Type} (l : List α) (x : α) : (l ++ [x])[l.length]? = some x := by simp

/-- a new block -/
theorem Rel.push {w0 : Base} {B : Nat → Prop} {w : World} {ι : Pl} {H : AH} (h : Rel w0 B w ι H) (o : Obj) (b : ABlk) (s : Nat × Nat)
    (hb : ∀ (ι' : Pl) (R' : Nat → Prop), Keeps none w ι (Rd B ι H) (w.alloc o) ι' R' → (w.alloc o).heap[w.heap.size]? = some o → BlkAt (w.alloc o) ι' R' (some w.heap.size) s b) :
    Rel w0 B (w.alloc o) (ι ++ [(some w.heap.size, s)]) (H ++ [some b]) ∧ Keeps none w ι (Rd B ι H) (w.alloc o) (ι ++ [(some w.heap.size, s)]) (Rd B (ι ++ [(some w.heap.size, s)]) (H ++ [some b])) := by
  have hown : ∀ c, Owned (ι ++ [(some w.heap.size, s)]) (H ++ [some b]) c → Owned ι H c ∨ c = w.heap.size := by
    rintro c ⟨k, b', s', h1, h2⟩
    rcases get_snoc h1 with ⟨hl, h1⟩ | ⟨rfl, e⟩
    · rcases get_snoc h2 with ⟨hl', h2⟩ | ⟨e, _⟩
      · exact .inl ⟨k, b', s', h1, h2⟩
      · rw [h.len] at e; omega
    · rw [← h.len] at h2
      rw [get_snoc_new] at h2
      cases h2; exact .inr rfl
  have hk : Keeps none w ι (Rd B ι H) (w.alloc o) (ι ++ [(some w.heap.size, s)]) (Rd B (ι ++ [(some w.heap.size, s)]) (H ++ [some b])) :=
    ⟨by simp, fun c hc hlt => ⟨⟨hc.1, fun ho => by
      rcases hown c ho with ho | ho
      · exact hc.2 ho
      · omega⟩, heap_alloc_old w o hlt⟩, fun k c s _ hx => get_snoc_old hx⟩
  refine ⟨⟨h.gr.trans ((Below.refl _ _).alloc (Nat.le_refl _) _), fun b hb => h.fut b (by simp at hb; omega), by simp [h.len], fun k b' c s' h1 h2 => ?_, fun k l b1 b2 c s1 s2 h1 h2 h3 h4 => ?_⟩, hk⟩
  · rcases get_snoc h1 with ⟨hl, h1⟩ | ⟨rfl, e⟩
    · rcases get_snoc h2 with ⟨hl', h2⟩ | ⟨e, _⟩
      · refine ⟨(h.blk k b' c s' h1 h2).1, (h.blk k b' c s' h1 h2).2.keep0 hk fun c' e => ?_⟩
        subst e
        exact heap_alloc_old w o (h.lt ⟨k, b', s', h1, h2⟩)
      · rw [h.len] at e; omega
    · rw [← h.len, get_snoc_new] at h2
      cases h2
      cases e
      exact ⟨fun c' e => by cases e; exact .inr h.size, hb _ _ hk (heap_alloc_new w o)⟩
  · rcases get_snoc h1 with ⟨hl, h1⟩ | ⟨rfl, e⟩
    · rcases get_snoc h3 with ⟨_, h3⟩ | ⟨e, _⟩
      · rcases get_snoc h2 with ⟨hl2, h2⟩ | ⟨rfl, e⟩
        · rcases get_snoc h4 with ⟨_, h4⟩ | ⟨e, _⟩
          · exact h.inj k l b1 b2 c s1 s2 h1 h2 h3 h4
          · rw [h.len] at e; omega
        · rw [← h.len, get_snoc_new] at h4
          cases h4
          have := h.lt ⟨k, b1, s1, h1, h3⟩
          omega
      · rw [h.len] at e; omega
    · rw [← h.len, get_snoc_new] at h3
      cases h3
      rcases get_snoc h2 with ⟨hl2, h2⟩ | ⟨rfl, e⟩
      · rcases get_snoc h4 with ⟨_, h4⟩ | ⟨e, _⟩
        · have := h.lt ⟨l, b2, s2, h2, h4⟩
          omega
        · rw [h.len] at e; omega
      · rfl

theorem owned_set {ι : Pl} {H : AH} {k : Nat} {b b' : ABlk} (hk : H[k]? = some (some b)) (c : Nat) : Owned ι (H.set k (some b')) c ↔ Owned ι H c := by
  have hlt := (List.getElem?_eq_some_iff.1 hk).1
  constructor
  · rintro ⟨l, b1, s, h1, h2⟩
    rw [List.getElem?_set] at h1
    split at h1
    · rename_i e; subst e; exact ⟨k, b, s, hk, h2⟩
    · exact ⟨l, b1, s, h1, h2⟩
  · rintro ⟨l, b1, s, h1, h2⟩
    by_cases e : k = l
    · subst e; exact ⟨k, b', s, by rw [List.getElem?_set]; simp [hlt], h2⟩
    · exact ⟨l, b1, s, by rw [List.getElem?_set, if_neg e]; exact h1, h2⟩

/-- a block is changed in place -/
theorem Rel.upd {w0 : Base} {B : Nat → Prop} {w : World} {ι : Pl} {H : AH} (h : Rel w0 B w ι H) {k c : Nat} {s : Nat × Nat} {b b' : ABlk} (hk : H[k]? = some (some b)) (hi : ι[k]? = some (some c, s)) {w' : World}
    (hos : w'.os = w.os) (htape : w'.tape = w.tape) (hout : w'.output = w.output) (hsz : w'.heap.size = w.heap.size) (hoth : ∀ d, d ≠ c → w'.heap[d]? = w.heap[d]?)
    (hb : ∀ R', Keeps none w ι (Rd B ι H) w' ι R' → BlkAt w' ι R' (some c) s b') :
    Rel w0 B w' ι (H.set k (some b')) ∧ Keeps none w ι (Rd B ι H) w' ι (Rd B ι (H.set k (some b'))) := by
  have hlt := (List.getElem?_eq_some_iff.1 hk).1
  have hkp : Keeps none w ι (Rd B ι H) w' ι (Rd B ι (H.set k (some b'))) :=
    ⟨by omega, fun d hd hdl => ⟨⟨hd.1, fun ho => hd.2 ((owned_set hk d).1 ho)⟩, hoth d fun e => hd.2 (e ▸ ⟨k, b, s, hk, hi⟩)⟩, fun _ _ _ _ h => h⟩
  have hc := h.ge ⟨k, b, s, hk, hi⟩
  refine ⟨⟨⟨hos.trans h.gr.os, htape.trans h.gr.tape, hout.trans h.gr.output, by have := h.size; omega, fun d hd hx => ?_⟩, fun b hb => h.fut b (by omega), by simp [h.len], fun l b1 c1 s1 h1 h2 => ?_, fun l m b1 b2 c1 s1 s2 h1 h2 h3 h4 => ?_⟩, hkp⟩
  · rw [hoth d (fun e => by subst e; rcases hc with h1 | h1 <;> first | exact hx h1 | omega)]; exact h.gr.block d hd hx
  · rw [List.getElem?_set] at h1
    split at h1
    · rename_i e
      subst e
      rw [hi] at h2
      cases h2
      simp at h1
      subst h1
      exact ⟨fun c' e => by cases e; exact hc, hb _ hkp⟩
    · rename_i e
      refine ⟨(h.blk l b1 c1 s1 h1 h2).1, (h.blk l b1 c1 s1 h1 h2).2.keep0 hkp fun c' e' => ?_⟩
      subst e'
      refine hoth c' fun ec => ?_
      subst ec
      exact e (h.inj k l b b1 _ s s1 hk h1 hi h2)
  · have g : ∀ (n : Nat) (x : ABlk), (H.set k (some b'))[n]? = some (some x) → ∃ y, H[n]? = some (some y) := fun n x hn => by
      rw [List.getElem?_set] at hn
      split at hn
      · rename_i e; subst e; exact ⟨b, hk⟩
      · exact ⟨x, hn⟩
    obtain ⟨y1, g1⟩ := g l b1 h1
    obtain ⟨y2, g2⟩ := g m b2 h2
    exact h.inj l m y1 y2 c1 s1 s2 g1 g2 h3 h4

theorem run_newObj {P : Program} (o : Obj) (w : World) : (newObj o).run P w = .ok w.heap.size (w.alloc o) := rfl
section
variable {P : Program} {G : World → Prop} {T : TT}

theorem aalloc_sound (hT : TOk P T) {o : Oper} {t : TypeId} (ho : o.op = .alloc t) {i : TI} (ht : T t = some i) (h1 : i.zero.cells.toList.all (·.oneCell') = true) {env : List AV} {H : AH} :
    WS P G o env H (.own H.length 0) (H ++ [some (.box (i.zero.cells.toList.map fun x => .p (.v x)) t none)]) none := by
  intro w0 B w ι ρ hR hG hρ hf
  have hrun : (execOp ρ o).run P w = .ok (.value (.pointer (some ⟨w.heap.size, 0, none⟩))) (w.alloc (.cells i.zero.cells t)) := by
    simp only [execOp, ho, Instr.alloc, Sem.run_bind, t_zero hT ht, Result.andThen_ok, newVar, newRow, run_newObj, Sem.run_pure]
  rw [hrun]
  have := hR.push (.cells i.zero.cells t) (.box (i.zero.cells.toList.map fun x => .p (.v x)) t none) (0, 0) (fun ι' R' hk hn => by
    refine ⟨⟨rfl, fun n e => by cases e⟩, _, _, rfl, hn, by simp, fun j a ha => ?_⟩
    rw [List.getElem?_map] at ha
    cases hz : i.zero.cells.toList[j]? with
    | none => rw [hz] at ha; cases ha
    | some z =>
      rw [hz] at ha; cases ha
      exact ⟨z, by simpa using hz, by have := List.all_eq_true.1 h1 z (List.mem_of_getElem? hz); simpa using this, .p _ _ (.v _)⟩)
  exact ⟨_, this.1, this.2, by rw [← hR.len]; exact .own _ 0 _ (0, 0) (get_snoc_new _ _)⟩

/-- a value of one cell -/
def okOne : AV → Bool
  | .p (.v x) => x.oneCell'
  | .p .e0 => true
  | .p (.ro _ _) => true
  | .p (.rop _) => true
  | .own _ _ => true
  | .orw _ _ _ => true
  | .osl _ _ _ => true
  | _ => false
theorem rep_one {w : World} {ι : Pl} {R : Nat → Prop} {a : AV} {v : Value} (h : Rep w ι R a v) (ho : okOne a = true) : v.oneCell' = true := by
  cases h with
  | p x v h => cases h <;> first | rfl | exact ho | (simp [okOne] at ho)
  | _ => first | rfl | (simp [okOne] at ho)
theorem ok_of_one {a : AV} (h : okOne a = true) : okCell a = true := by
  unfold okOne at h; unfold okCell
  split at h <;> first | exact h | rfl | cases h
/-- the cells of a value, one by one -/
def okCells (a : AV) : Bool := okCell a && (avCells a).all okOne
theorem rep_cells_one {w : World} {ι : Pl} {R : Nat → Prop} {a : AV} {v : Value} (h : Rep w ι R a v) (hok : okCells a = true) :
    (avCells a).length = v.cells.size ∧ ∀ (j : Nat) (c : AV), (avCells a)[j]? = some c → ∃ u, v.cells[j]? = some u ∧ u.oneCell' = true ∧ Rep w ι R c u := by
  unfold okCells at hok
  rw [Bool.and_eq_true] at hok
  have h1 := rep_cells h hok.1
  refine ⟨h1.1, fun j c hc => ?_⟩
  obtain ⟨u, hu, hr⟩ := h1.2 j c hc
  exact ⟨u, hu, rep_one hr (List.all_eq_true.1 hok.2 c (List.mem_of_getElem? hc)), hr⟩

theorem abox_sound {o : Oper} {t : TypeId} {x : Operand} (ho : o.op = .box t x) {env : List AV} (hok : okCells (aev env x) = true) {H : AH} :
    WS P G o env H (.own H.length 0) (H ++ [some (.box (avCells (aev env x)) t none)]) none := by
  intro w0 B w ι ρ hR hG hρ hf
  have hv := hρ x (by rw [ho]; simp [Op.operands])
  have hrun : (execOp ρ o).run P w = .ok (.value (.pointer (some ⟨w.heap.size, 0, none⟩))) (w.alloc (.cells (ρ x).cells t)) := by
    simp only [execOp, ho, Instr.box, Sem.run_bind, Result.andThen_ok, newVar, newRow, run_newObj, Sem.run_pure]
  rw [hrun]
  have hc := rep_cells_one hv hok
  have := hR.push (.cells (ρ x).cells t) (.box (avCells (aev env x)) t none) (0, 0) (fun ι' R' hk hn => by
    refine ⟨⟨rfl, fun n e => by cases e⟩, _, _, rfl, hn, hc.1.symm, fun j a ha => ?_⟩
    obtain ⟨u, hu, h1, hr⟩ := hc.2 j a ha
    exact ⟨u, hu, h1, hr.keep0 hk⟩)
  exact ⟨_, this.1, this.2, by rw [← hR.len]; exact .own _ 0 _ (0, 0) (get_snoc_new _ _)⟩

theorem run_store (hT : TOk P T) {o : Oper} {t : TypeId} {x y : Operand} (ho : o.op = .store t x y) {i : TI} (ht : T t = some i) {ρ : Operand → Value} {w : World} {c off : Nat} {arr : Array Value} {t' : TypeId} (hx : ρ x = .pointer (some ⟨c, off, none⟩))
    (hc : w.heap[c]? = some (.cells arr t' (0, 0))) (hsz : (ρ y).cells.size = i.size) (hle : off + (ρ y).cells.size ≤ arr.size) (h1 : ∀ v ∈ (ρ y).cells.toList, v.oneCell' = true) :
    (execOp ρ o).run P w = .ok .skip (w.setRow c (arr.toList.take off ++ (ρ y).cells.toList ++ arr.toList.drop (off + (ρ y).cells.toList.length)).toArray) := by
  have hst := run_storeCells_at P c off t' (ρ y).cells.toList 0 arr w hc (by simpa using hle) h1
  simp only [Nat.add_zero] at hst
  simp only [execOp, ho, hx, Instr.storeAt, Instr.sureAddr, storeVar, Sem.run_bind, Sem.run_pure, Result.andThen_ok, t_size hT ht, hsz, ne_eq, not_true_eq_false, if_false]
  simp [hst]

theorem setRow_facts (w : World) (c : Nat) (cs : Array Value) : (w.setRow c cs).os = w.os ∧ (w.setRow c cs).tape = w.tape ∧ (w.setRow c cs).output = w.output := ⟨rfl, rfl, rfl⟩
theorem arr_set_get {arr : Array Value} {vs : List Value} {off m : Nat} (hle : off + vs.length ≤ arr.size) : (arr.toList.take off ++ vs ++ arr.toList.drop (off + vs.length)).toArray[m]? = if off ≤ m ∧ m < off + vs.length then vs[m - off]? else arr[m]? := by
  have := asetL_get (cells := arr.toList) (cs := vs) (off := off) (m := m) (by simpa using hle)
  unfold asetL at this
  simpa using this
theorem arr_set_size {arr : Array Value} {vs : List Value} {off : Nat} (hle : off + vs.length ≤ arr.size) : (arr.toList.take off ++ vs ++ arr.toList.drop (off + vs.length)).toArray.size = arr.size := by
  simp; omega

theorem astore_box (hT : TOk P T) {o : Oper} {t : TypeId} {x y : Operand} (ho : o.op = .store t x y) {i : TI} (ht : T t = some i) {env : List AV} {H : AH} {k j : Nat} {cs : List AV} {t' : TypeId} {g : Option Nat}
    (ex : aev env x = .own k j) (hk : H[k]? = some (some (.box cs t' g))) (hok : okCells (aev env y) = true) (hsz : (avCells (aev env y)).length = i.size) (hle : j + i.size ≤ cs.length) :
    WS P G o env H .junk (H.set k (some (.box (asetL cs j (avCells (aev env y))) t' g))) none := by
  intro w0 B w ι ρ hR hG hρ hf
  have hx := hρ x (by rw [ho]; simp [Op.operands])
  have hy := hρ y (by rw [ho]; simp [Op.operands])
  rw [ex] at hx
  generalize hq : ρ x = vx at hx
  cases hx with
  | own _ _ c s hi =>
    obtain ⟨hg, c', arr, ec, hb, hal, hcs⟩ := (hR.blk k _ _ s hk hi).2
    cases ec
    have hyc := rep_cells_one hy hok
    have hone : ∀ v ∈ (ρ y).cells.toList, v.oneCell' = true := fun v hv => by
      obtain ⟨n, hn⟩ := List.mem_iff_getElem?.1 hv
      have hnl : n < (avCells (aev env y)).length := by rw [hyc.1]; simpa using (List.getElem?_eq_some_iff.1 hn).1
      obtain ⟨u, hu, h1, _⟩ := hyc.2 n _ (List.getElem?_eq_getElem hnl)
      have : u = v := by
        have h4 : (ρ y).cells[n]? = some v := by simpa using hn
        rw [hu] at h4; exact Option.some.inj h4
      subst this; exact h1
    have hlen : (ρ y).cells.toList.length = (avCells (aev env y)).length := by rw [hyc.1]; simp
    have hle' : j + (ρ y).cells.toList.length ≤ arr.size := by rw [hlen, hal]; omega
    rw [run_store hT ho ht hq hb (by rw [← hyc.1]; exact hsz) (by simpa using hle') hone]
    have hh := setRow_heap w c arr (arr.toList.take j ++ (ρ y).cells.toList ++ arr.toList.drop (j + (ρ y).cells.toList.length)).toArray t' (0, 0) hb
    have := hR.upd hk hi (b' := .box (asetL cs j (avCells (aev env y))) t' g) (w' := w.setRow c (arr.toList.take j ++ (ρ y).cells.toList ++ arr.toList.drop (j + (ρ y).cells.toList.length)).toArray) rfl rfl rfl (by simp) (fun d hd => setRow_other w c d _ hd)
      (fun R' hkp => ⟨hg, c, _, rfl, hh, by rw [arr_set_size hle', asetL_len (by omega)]; exact hal, fun m a ha => by
        rw [asetL_get (by omega)] at ha
        rw [arr_set_get hle']
        split at ha
        · rename_i hin
          rw [if_pos (by omega)]
          obtain ⟨u, hu, h1, hr⟩ := hyc.2 _ a ha
          exact ⟨u, by simpa using hu, h1, hr.keep0 hkp⟩
        · rename_i hin
          rw [if_neg (by omega)]
          obtain ⟨u, hu, h1, hr⟩ := hcs m a ha
          exact ⟨u, hu, h1, hr.keep0 hkp⟩⟩)
    exact ⟨ι, this.1, this.2, .junk _⟩

theorem astore_row (hT : TOk P T) {o : Oper} {t : TypeId} {x y : Operand} (ho : o.op = .store t x y) {i : TI} (ht : T t = some i) {env : List AV} {H : AH} {k r j s' : Nat} {rs : List (List PV)} {row : List PV} {t' : TypeId} {pcs : List PV}
    (ex : aev env x = .orw k r j) (hk : H[k]? = some (some (.rows s' rs t'))) (hrow : rs[r]? = some row) (hok : okCells (aev env y) = true) (hp : AV.toP.toPL (avCells (aev env y)) = some pcs) (hsz : (avCells (aev env y)).length = i.size) (hle : j + i.size ≤ row.length) :
    WS P G o env H .junk (H.set k (some (.rows s' (rs.set r (asetL row j pcs)) t'))) none := by
  intro w0 B w ι ρ hR hG hρ hf
  have hx := hρ x (by rw [ho]; simp [Op.operands])
  have hy := hρ y (by rw [ho]; simp [Op.operands])
  rw [ex] at hx
  generalize hq : ρ x = vx at hx
  cases hx with
  | orw _ _ _ c s hi =>
    obtain ⟨es, hl, hh⟩ := (hR.blk k _ _ s hk hi).2
    subst es
    rcases hh with ⟨ec, _⟩ | ⟨c', arr, ec, hb, hz, hcs⟩
    · cases ec
    cases ec
    have hyc := rep_cells_one hy hok
    have hpg := toPL_get _ _ hp
    have hone : ∀ v ∈ (ρ y).cells.toList, v.oneCell' = true := fun v hv => by
      obtain ⟨n, hn⟩ := List.mem_iff_getElem?.1 hv
      have hnl : n < (avCells (aev env y)).length := by rw [hyc.1]; simpa using (List.getElem?_eq_some_iff.1 hn).1
      obtain ⟨u, hu, h1, _⟩ := hyc.2 n _ (List.getElem?_eq_getElem hnl)
      have : u = v := by
        have h4 : (ρ y).cells[n]? = some v := by simpa using hn
        rw [hu] at h4; exact Option.some.inj h4
      subst this; exact h1
    have hlen : (ρ y).cells.toList.length = (avCells (aev env y)).length := by rw [hyc.1]; simp
    have hrl := hl r row hrow
    -- the last cell that is written is there
    have hle' : r * s.1 + j + (ρ y).cells.toList.length ≤ arr.size := by
      by_cases h0 : row.length = 0
      · have : arr.size = arr.size := rfl
        have h00 : j = 0 ∧ i.size = 0 := by omega
        rw [hlen, hsz, h00.2, h00.1]
        rw [← hrl, h0]; simp
      · obtain ⟨v, hv, _, _⟩ := hcs r (row.length - 1) row _ hrow (List.getElem?_eq_getElem (by omega))
        have := (Array.getElem?_eq_some_iff.1 hv).1
        omega
    rw [run_store hT ho ht hq hb (by rw [← hyc.1]; exact hsz) (by simpa using hle') hone]
    have hh := setRow_heap w c arr (arr.toList.take (r * s.1 + j) ++ (ρ y).cells.toList ++ arr.toList.drop (r * s.1 + j + (ρ y).cells.toList.length)).toArray t' (0, 0) hb
    have := hR.upd hk hi (b' := .rows s.1 (rs.set r (asetL row j pcs)) t') (w' := w.setRow c (arr.toList.take (r * s.1 + j) ++ (ρ y).cells.toList ++ arr.toList.drop (r * s.1 + j + (ρ y).cells.toList.length)).toArray) rfl rfl rfl (by simp) (fun d hd => setRow_other w c d _ hd)
      (fun R' hkp => by
        refine ⟨rfl, fun m row2 hm => ?_, .inr ⟨c, _, rfl, hh, by rw [arr_set_size hle']; exact hz, fun m n row2 a hm hn => ?_⟩⟩
        · rw [List.getElem?_set] at hm
          split at hm
          · split at hm
            · cases hm
              rw [asetL_len (by omega)]; exact hrl
            · cases hm
          · exact hl m row2 hm
        · rw [arr_set_get hle']
          have hns : n < s.1 := by
            rw [List.getElem?_set] at hm
            split at hm
            · split at hm
              · cases hm
                have := (List.getElem?_eq_some_iff.1 hn).1
                rw [asetL_len (by omega)] at this; omega
              · cases hm
            · have := (List.getElem?_eq_some_iff.1 hn).1
              have := hl m row2 hm; omega
          rw [List.getElem?_set] at hm
          split at hm
          · rename_i e
            subst e
            split at hm
            · cases hm
              rw [asetL_get (by omega)] at hn
              split at hn
              · rename_i hin
                rw [if_pos (by omega)]
                have hcl : n - j < (avCells (aev env y)).length := by omega
                obtain ⟨u, hu, h1, hr⟩ := hyc.2 (n - j) _ (List.getElem?_eq_getElem hcl)
                obtain ⟨p, hp1, hp2⟩ := hpg.2 (n - j) _ (List.getElem?_eq_getElem hcl)
                rw [hp1] at hn; cases hn
                refine ⟨u, ?_, h1, (hr.toP _ hp2).keep hkp.size hkp.read⟩
                rw [show r * s.1 + n - (r * s.1 + j) = n - j by omega]
                simpa using hu
              · rename_i hin
                rw [if_neg (by omega)]
                obtain ⟨u, hu, h1, hr⟩ := hcs r n row a hrow hn
                exact ⟨u, hu, h1, hr.keep hkp.size hkp.read⟩
            · cases hm
          · rename_i e
            have hne : ¬ (r * s.1 + j ≤ m * s.1 + n ∧ m * s.1 + n < r * s.1 + j + (ρ y).cells.toList.length) := by
              rintro ⟨h1, h2⟩
              rcases Nat.lt_or_gt_of_ne e with hlt | hgt
              · have : (r + 1) * s.1 ≤ m * s.1 := Nat.mul_le_mul_right _ hlt
                rw [Nat.succ_mul] at this
                omega
              · have : (m + 1) * s.1 ≤ r * s.1 := Nat.mul_le_mul_right _ hgt
                rw [Nat.succ_mul] at this
                omega
            rw [if_neg hne]
            obtain ⟨u, hu, h1, hr⟩ := hcs m n row2 a hm hn
            exact ⟨u, hu, h1, hr.keep hkp.size hkp.read⟩)
    exact ⟨ι, this.1, this.2, .junk _⟩
end
end Go.Proofs.YtlffpgjkhehdmaaDoor
