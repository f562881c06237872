/- Own work: the operations that write nothing come to what is said of them. -/
import Derived.Test.YtlffpgjkhehdmaaDoorAbsQ
namespace Go.Proofs.YtlffpgjkhehdmaaDoor
open Go.RowKit

theorem aget {w : World} {b o : Nat} {arr : Array Value} {t : TypeId} {fz : Nat × Nat} (h : w.heap[b]? = some (.cells arr t fz)) : w.cell? ⟨b, o, none⟩ = arr[o]? := by
  simp [World.cell?, h]


/-- an exact value -/
theorem rep_v {w : World} {ι : Pl} {R : Nat → Prop} {x v : Value} (h : Rep w ι R (.p (.v x)) v) : v = x := by
  cases h with
  | p _ _ h => cases h; rfl
theorem ba_beq (a b : ByteArray) : (a == b) = decide (a = b) := by
  cases a with
  | mk x => cases b with
    | mk y =>
      show (x == y) = _
      by_cases h : x = y
      · subst h; simp
      · have h2 : ¬ ByteArray.mk x = ByteArray.mk y := fun e => h (by injection e)
        simp [h]
/-- the cells of a struct of data -/
theorem aagg_rep {w : World} {ι : Pl} {R : Nat → Prop} {a : AV} {v : Value} {cs : List PV} (h : aagg a = some cs) (hv : Rep w ι R a v) : ∃ vs : List Value, v = .agg vs.toArray ∧ ∀ (j : Nat) (x : Value), cs[j]? = some (.v x) → vs[j]? = some x := by
  unfold aagg at h
  split at h
  · cases h
    cases hv with
    | p _ _ hv =>
      cases hv with
      | agg _ vs hl hr =>
        refine ⟨vs, rfl, fun j x hx => ?_⟩
        have hj : j < vs.length := by rw [← hl]; exact (List.getElem?_eq_some_iff.1 hx).1
        have := hr j _ vs[j] hx (List.getElem?_eq_getElem hj)
        rw [List.getElem?_eq_getElem hj]
        cases this; rfl
  · rename_i cs'
    cases hv with
    | agg _ vs hl hr =>
      have hg := toPL_get _ _ h
      refine ⟨vs, rfl, fun j x hx => ?_⟩
      have hj : j < vs.length := by rw [← hl, ← hg.1]; exact (List.getElem?_eq_some_iff.1 hx).1
      obtain ⟨y, hy, hyp⟩ := hg.2 j cs'[j] (List.getElem?_eq_getElem (by omega))
      rw [hy] at hx
      cases hx
      have := (hr j _ vs[j] (List.getElem?_eq_getElem (by omega)) (List.getElem?_eq_getElem hj)).toP _ hyp
      rw [List.getElem?_eq_getElem hj]
      cases this; rfl
  · cases h
section
variable {P : Program} {G : World → Prop} {T : TT} (hT : TOk P T)

theorem qs_val {o : Oper} {env : List AV} {H : AH} {a : AV}
    (h : ∀ (w0 : Base) (B : Nat → Prop) (w : World) (ι : Pl) (ρ : Operand → Value), Rel w0 B w ι H → G w → (∀ x, x ∈ o.op.operands → Rep w ι (Rd B ι H) (aev env x) (ρ x)) →
      ∃ v, (execOp ρ o).run P w = .ok (.value v) w ∧ Rep w ι (Rd B ι H) a v) : QS P G o env H a := by
  intro w0 B w ι ρ hR hG hρ hf
  obtain ⟨v, h1, h2⟩ := h w0 B w ι ρ hR hG hρ
  rw [h1]
  exact ⟨Gr.refl _, h2⟩

include hT
theorem run_load_agg {t : TypeId} {i : TI} (h : T t = some i) (ha : isAggD i.desc = true) {w : World} {b o : Nat} (f : Nat → Value) (hc : ∀ j, j < i.size → w.cell? ⟨b, o + j, none⟩ = some (f j)) :
    (Instr.loadAt t (.pointer (some ⟨b, o, none⟩))).run P w = .ok (.agg ((List.range i.size).map f).toArray) w := by
  simp only [Instr.loadAt, Instr.sureAddr, Sem.run_bind, Sem.run_pure, Result.andThen_ok, loadVar, t_agg hT h, ha, if_true, t_size hT h]
  rw [run_loadCells w ⟨b, o, none⟩ i.size f (fun j hj => by rw [Addr.add_lit]; exact hc j hj)]
  rfl
theorem run_load_one {t : TypeId} {i : TI} (h : T t = some i) (ha : isAggD i.desc = false) {w : World} {b o : Nat} {v : Value} (hc : w.cell? ⟨b, o, none⟩ = some v) :
    (Instr.loadAt t (.pointer (some ⟨b, o, none⟩))).run P w = .ok v w := by
  simp only [Instr.loadAt, Instr.sureAddr, Sem.run_bind, Sem.run_pure, Result.andThen_ok, loadVar, t_agg hT h, ha]
  simp [load, Sem.run, hc]
omit hT

theorem rep_range {w : World} {ι : Pl} {R : Nat → Prop} {cs : List AV} {n : Nat} (f : Nat → Value) (hl : cs.length = n) (h : ∀ (j : Nat) (a : AV), cs[j]? = some a → Rep w ι R a (f j)) : Rep w ι R (.agg cs) (.agg ((List.range n).map f).toArray) := by
  refine .agg cs _ (by simp [hl]) fun j a v ha hv => ?_
  have hj : j < n := by rw [← hl]; exact (List.getElem?_eq_some_iff.1 ha).1
  rw [List.getElem?_map, List.getElem?_range hj] at hv
  cases hv
  exact h j a ha
theorem repP_range {w : World} {R : Nat → Prop} {cs : List PV} {n : Nat} (f : Nat → Value) (hl : cs.length = n) (h : ∀ (j : Nat) (a : PV), cs[j]? = some a → RepP w R a (f j)) : RepP w R (.agg cs) (.agg ((List.range n).map f).toArray) := by
  refine .agg cs _ (by simp [hl]) fun j a v ha hv => ?_
  have hj : j < n := by rw [← hl]; exact (List.getElem?_eq_some_iff.1 ha).1
  rw [List.getElem?_map, List.getElem?_range hj] at hv
  cases hv
  exact h j a ha
theorem get_drop_take {α : Type} {cs : List α} {j n m : Nat} {a : α} (h : ((cs.drop j).take n)[m]? = some a) : cs[j + m]? = some a ∧ m < n := by
  rw [List.getElem?_take] at h
  split at h
  · rename_i hm
    rw [List.getElem?_drop] at h
    exact ⟨h, hm⟩
  · cases h

include hT
theorem aload_val {t : TypeId} {i : TI} (ht : T t = some i) {x : Operand} {env : List AV} {H : AH} {K : AV → Prop} (h : aload i (aev env x) H K) :
    ∃ a, K a ∧ ∀ (w0 : Base) (B : Nat → Prop) (w : World) (ι : Pl) (v : Value), Rel w0 B w ι H → Rep w ι (Rd B ι H) (aev env x) v → ∃ u, (Instr.loadAt t v).run P w = .ok u w ∧ Rep w ι (Rd B ι H) a u := by
  have fin : ∀ a : AV, (∀ (w0 : Base) (B : Nat → Prop) (w : World) (ι : Pl) (v : Value), Rel w0 B w ι H → Rep w ι (Rd B ι H) (aev env x) v → ∃ u, (Instr.loadAt t v).run P w = .ok u w ∧ Rep w ι (Rd B ι H) a u) →
      (∀ (w0 : Base) (B : Nat → Prop) (w : World) (ι : Pl) (v : Value), Rel w0 B w ι H → Rep w ι (Rd B ι H) (aev env x) v → ∃ u, (Instr.loadAt t v).run P w = .ok u w ∧ Rep w ι (Rd B ι H) a u) := fun _ h => h
  unfold aload at h
  split at h
  · rename_i k j e
    split at h
    · rename_i cs t' g hk
      split at h
      · rename_i hag
        split at h
        · rename_i hle
          refine ⟨_, h, fin _ fun w0 B w ι v hR hv => ?_⟩
          rw [e] at hv
          cases hv with
          | own _ _ c s hi =>
            obtain ⟨hg, c', arr, ec, hb, hsz, hcs⟩ := (hR.blk k _ _ s hk hi).2
            cases ec
            have hcs' : ∀ m a, cs[m]? = some a → Rep w ι (Rd B ι H) a ((arr[m]?).getD undef) ∧ arr[m]? = some ((arr[m]?).getD undef) := fun m a ha => by
              obtain ⟨v, h1, _, h2⟩ := hcs m a ha
              rw [h1]; exact ⟨h2, rfl⟩
            refine ⟨_, run_load_agg hT ht hag (fun m => (arr[j + m]?).getD undef) fun m hm => ?_, rep_range _ (by simp; omega) fun m a ha => ?_⟩
            · rw [aget hb]
              exact (hcs' (j + m) cs[j + m] (List.getElem?_eq_getElem (by omega))).2
            · exact (hcs' (j + m) a (get_drop_take ha).1).1
        · cases h
      · rename_i hag
        split at h
        · rename_i a hj
          refine ⟨_, h, fin _ fun w0 B w ι v hR hv => ?_⟩
          rw [e] at hv
          cases hv with
          | own _ _ c s hi =>
            obtain ⟨hg, c', arr, ec, hb, hsz, hcs⟩ := (hR.blk k _ _ s hk hi).2
            cases ec
            obtain ⟨v, h1, _, h2⟩ := hcs j a hj
            exact ⟨v, run_load_one hT ht (by simpa using hag) (by rw [aget hb]; exact h1), h2⟩
        · cases h
    · cases h
  · rename_i k r j e
    split at h
    · rename_i s' rs t' hk
      obtain ⟨row, hrow, h⟩ := h
      split at h
      · rename_i hag
        split at h
        · rename_i hle
          refine ⟨_, h, fin _ fun w0 B w ι v hR hv => ?_⟩
          rw [e] at hv
          cases hv with
          | orw _ _ _ c s hi =>
            obtain ⟨es, hl, hh⟩ := (hR.blk k _ _ s hk hi).2
            rcases hh with ⟨ec, _⟩ | ⟨c', arr, ec, hb, hz, hcs⟩
            · cases ec
            · cases ec
              have hcs' : ∀ m a, row[m]? = some a → RepP w (Rd B ι H) a ((arr[r * s.1 + m]?).getD undef) ∧ arr[r * s.1 + m]? = some ((arr[r * s.1 + m]?).getD undef) := fun m a ha => by
                obtain ⟨v, h1, _, h2⟩ := hcs r m row a hrow ha
                rw [h1]; exact ⟨h2, rfl⟩
              refine ⟨_, run_load_agg hT ht hag (fun m => (arr[r * s.1 + (j + m)]?).getD undef) fun m hm => ?_, .p _ _ (repP_range _ (by simp; omega) fun m a ha => ?_)⟩
              · rw [aget hb, Nat.add_assoc]
                exact (hcs' (j + m) row[j + m] (List.getElem?_eq_getElem (by omega))).2
              · exact (hcs' (j + m) a (get_drop_take ha).1).1
        · cases h
      · rename_i hag
        split at h
        · rename_i a hj
          refine ⟨_, h, fin _ fun w0 B w ι v hR hv => ?_⟩
          rw [e] at hv
          cases hv with
          | orw _ _ _ c s hi =>
            obtain ⟨es, hl, hh⟩ := (hR.blk k _ _ s hk hi).2
            rcases hh with ⟨ec, _⟩ | ⟨c', arr, ec, hb, hz, hcs⟩
            · cases ec
            · cases ec
              obtain ⟨v, h1, _, h2⟩ := hcs r j row a hrow hj
              exact ⟨v, run_load_one hT ht (by simpa using hag) (by rw [aget hb]; exact h1), .p _ _ h2⟩
        · cases h
    · cases h
  · rename_i row e
    split at h
    · rename_i hag
      split at h
      · rename_i hle
        refine ⟨_, h, fin _ fun w0 B w ι v hR hv => ?_⟩
        rw [e] at hv
        cases hv with
        | p _ _ hv =>
          cases hv with
          | rop _ b off vs hRb hb hc hr =>
            refine ⟨_, run_load_agg hT ht hag vs fun m hm => ?_, .p _ _ (repP_range _ (by simp; omega) fun m a ha => ?_)⟩
            · exact (hc m row[m] (List.getElem?_eq_getElem (by omega))).1
            · rw [List.getElem?_take] at ha
              split at ha
              · exact hr m a ha
              · cases ha
      · cases h
    · rename_i hag
      split at h
      · rename_i a rest
        refine ⟨_, h, fin _ fun w0 B w ι v hR hv => ?_⟩
        rw [e] at hv
        cases hv with
        | p _ _ hv =>
          cases hv with
          | rop _ b off vs hRb hb hc hr =>
            exact ⟨_, run_load_one hT ht (by simpa using hag) (by simpa using (hc 0 a rfl).1), .p _ _ (hr 0 a rfl)⟩
      · cases h
  · cases h

theorem aload_sound {t : TypeId} {i : TI} (ht : T t = some i) {o : Oper} {x : Operand} (ho : o.op = .load t x) {env : List AV} {H : AH} {K : AV → Prop} (h : aload i (aev env x) H K) : ∃ a, K a ∧ QS P G o env H a := by
  have hx : x ∈ o.op.operands := by rw [ho]; simp [Op.operands]
  obtain ⟨a, hK, hh⟩ := aload_val hT ht h
  refine ⟨a, hK, qs_val fun w0 B w ι ρ hR hG hρ => ?_⟩
  obtain ⟨u, h1, h2⟩ := hh w0 B w ι (ρ x) hR (hρ x hx)
  exact ⟨u, by simp [execOp, ho, h1], h2⟩

theorem afield_sound {s : TypeId} {i j : TI} {fs : Array Field} {fd : Field} {f : Nat} (ht : T s = some i) (hd : i.desc = .struct fs) (hf : fs[f]? = some fd) (hj : T fd.type = some j) (h0 : ¬ j.size = 0)
    {o : Oper} {x : Operand} (ho : o.op = .fieldAddr s x f) {env : List AV} {H : AH} {K : AV → Prop} (h : afield fd.offset (aev env x) K) : ∃ a, K a ∧ QS P G o env H a := by
  have hx : x ∈ o.op.operands := by rw [ho]; simp [Op.operands]
  have run : ∀ (b off : Nat) (w : World), (Instr.fieldAt s (.pointer (some ⟨b, off, none⟩)) f).run P w = .ok (.pointer (some ⟨b, off + fd.offset, none⟩)) w := by
    intro b off w
    simp only [Instr.fieldAt, Sem.run_bind, t_und hT ht, Result.andThen_ok, hd, hf, Instr.sureAddr, Sem.run_pure, fieldPlace, t_size hT hj, h0, if_false, Addr.add_lit]
  unfold afield at h
  split at h
  · rename_i k m e
    refine ⟨_, h, qs_val fun w0 B w ι ρ hR hG hρ => ?_⟩
    have hv := hρ x hx
    rw [e] at hv
    generalize hq : ρ x = v at hv
    cases hv with
    | own _ _ c s' hi => exact ⟨_, by simp [execOp, ho, hq, run], .own k _ c s' hi⟩
  · rename_i k r m e
    refine ⟨_, h, qs_val fun w0 B w ι ρ hR hG hρ => ?_⟩
    have hv := hρ x hx
    rw [e] at hv
    generalize hq : ρ x = v at hv
    cases hv with
    | orw _ _ _ c s' hi => exact ⟨.pointer (some ⟨c, r * s'.1 + m + fd.offset, none⟩), by simp [execOp, ho, hq, run], by rw [Nat.add_assoc]; exact .orw k r _ c s' hi⟩
  · rename_i row e
    refine ⟨_, h, qs_val fun w0 B w ι ρ hR hG hρ => ?_⟩
    have hv := hρ x hx
    rw [e] at hv
    generalize hq : ρ x = v at hv
    cases hv with
    | p _ _ hv =>
      cases hv with
      | rop _ b off vs hRb hb hc hr =>
        refine ⟨_, by simp only [execOp, ho, hq, Sem.run_bind, run, Result.andThen_ok, Sem.run_pure], .p _ _ (.rop _ b (off + fd.offset) (fun m => vs (fd.offset + m)) hRb hb (fun m a ha => ?_) fun m a ha => ?_)⟩
        · rw [List.getElem?_drop] at ha
          rw [Nat.add_assoc]
          exact hc _ a ha
        · rw [List.getElem?_drop] at ha
          exact hr _ a ha
  · cases h

theorem aindex_sound {t e : TypeId} {ti te : TI} (ht : T t = some ti) (hd : ti.desc = .slice e) (he : T e = some te)
    {o : Oper} {x y : Operand} (ho : o.op = .indexAddr t x y) {env : List AV} {H : AH} {K : AV → Prop} (h : aindex stdE te.size (aev env x) (aev env y) H K) : ∃ a, K a ∧ QS P G o env H a := by
  have hx : x ∈ o.op.operands := by rw [ho]; simp [Op.operands]
  have hy : y ∈ o.op.operands := by rw [ho]; simp [Op.operands]
  have run : ∀ (b off len cap : Nat) (k : IntKind) (n : Int) (w : World), 0 ≤ n → n < len → (Instr.indexAt t (.slice (some ⟨b, off, none⟩) len cap) (.int k n)).run P w = .ok (.pointer (some ⟨b, off + n.toNat * te.size, none⟩)) w := by
    intro b off len cap k n w h0 h1
    simp only [Instr.indexAt, Sem.run_bind, t_und hT ht, Result.andThen_ok, hd, asIntOf, Sem.run_pure, h0, h1, and_self, if_true, t_size hT he, Addr.add_lit]
  unfold aindex at h
  simp only [stdE] at h
  split at h
  · rename_i kk n en
    split at h
    · rename_i s' rows e'
      obtain ⟨rfl, h0, row, hrow, h⟩ := h
      refine ⟨_, h, qs_val fun w0 B w ι ρ hR hG hρ => ?_⟩
      have hv := hρ x hx
      have hu := hρ y hy
      rw [e'] at hv
      rw [en] at hu
      generalize hq : ρ x = v at hv
      generalize hq' : ρ y = u at hu
      cases hu with
      | p _ _ hu =>
        cases hu
        have hlt : n < rows.length := by have := (List.getElem?_eq_some_iff.1 hrow).1; omega
        cases hv with
        | p _ _ hv =>
          cases hv with
          | ro0 => simp at hlt; omega
          | ro _ _ b off cap vs hRb hb hcap hs hc hr =>
            refine ⟨_, by simp only [execOp, ho, hq, hq', Sem.run_bind, run _ _ _ _ _ n w h0 hlt, Result.andThen_ok, Sem.run_pure], .p _ _ (.rop row b (off + n.toNat * te.size) (fun m => vs n.toNat m) hRb hb (fun m a ha => ?_) fun m a ha => ?_)⟩
            · rw [Nat.add_assoc]; exact hc _ m row a hrow ha
            · exact hr _ m row a hrow ha
    · rename_i k i0 len e'
      split at h
      · rename_i s' rs t' hk
        obtain ⟨rfl, h0, h1, h⟩ := h
        refine ⟨_, h, qs_val fun w0 B w ι ρ hR hG hρ => ?_⟩
        have hv := hρ x hx
        have hu := hρ y hy
        rw [e'] at hv
        rw [en] at hu
        generalize hq : ρ x = v at hv
        generalize hq' : ρ y = u at hu
        cases hu with
        | p _ _ hu =>
          cases hu
          cases hv with
          | osl0 => omega
          | osl _ _ _ c cap s hi hn hm hz =>
            have es := (hR.blk k _ _ s hk hi).2.1
            refine ⟨_, by simp only [execOp, ho, hq, hq', Sem.run_bind, run _ _ _ _ _ n w h0 h1, Result.andThen_ok, Sem.run_pure]; rfl, ?_⟩
            have := Rep.orw (w := w) (ι := ι) (R := Rd B ι H) k (i0 + n.toNat) 0 c s hi
            rw [Nat.add_mul, Nat.add_zero] at this
            rw [es]; exact this
      · cases h
    · cases h
  · cases h

theorem run_equal_bool {t : TypeId} {i : TI} (h : T t = some i) (hd : i.desc = .bool) (a b : Bool) (w : World) : (Op.equal t (.bool a) (.bool b)).run P w = .ok (a == b) w := by
  unfold Op.equal Op.maxDepth
  rw [show (10000 : Nat) = 9999 + 1 from rfl, Op.equalIn]
  simp only [Sem.run_bind, t_und hT h, Result.andThen_ok, hd]
  rfl
theorem strindex_sound {t : TypeId} {ti : TI} (ht : T t = some ti) (hd : ti.desc = .string) {o : Oper} {x y : Operand} (ho : o.op = .index t x y) {env : List AV} {H : AH} {K : AV → Prop} {s : ByteArray} {kk : IntKind} {n : Int}
    (ex : aev env x = .p (.v (.string s))) (ey : aev env y = .p (.v (.int kk n))) {z : Int} (h0 : 0 ≤ n) (hz : stdE.get s n.toNat = some z) (h : K (.p (.v (.int .u8 z)))) : ∃ a, K a ∧ QS P G o env H a := by
  refine ⟨_, h, qs_val fun w0 B w ι ρ hR hG hρ => ?_⟩
  have hx := hρ x (by rw [ho]; simp [Op.operands])
  have hy := hρ y (by rw [ho]; simp [Op.operands])
  rw [ex] at hx
  rw [ey] at hy
  have hx' := rep_v hx
  have hy' := rep_v hy
  obtain ⟨b, hb, rfl⟩ : ∃ b, s.data.toList[n.toNat]? = some b ∧ ((b.toNat : Nat) : Int) = z := by
    simp only [stdE] at hz
    cases hx : s.data.toList[n.toNat]? with
    | none => rw [hx] at hz; cases hz
    | some b => rw [hx] at hz; exact ⟨b, rfl, by simpa using hz⟩
  have hs : s[n.toNat]? = some b := by
    have h1 := (List.getElem?_eq_some_iff.1 hb).1
    have h2 : n.toNat < s.size := by simpa using h1
    rw [getElem?_pos s n.toNat h2]
    have h3 := (List.getElem?_eq_some_iff.1 hb).2
    rw [← h3]; rfl
  refine ⟨_, ?_, .p _ _ (.v _)⟩
  simp only [execOp, ho, hx', hy', Instr.index, asIntOf, Sem.run_bind, Sem.run_pure, Result.andThen_ok, t_und hT ht, hd, h0, if_true, hs]
omit hT
theorem aextract_sound {o : Oper} {x : Operand} {i : Nat} (ho : o.op = .extract x i) {env : List AV} {H : AH} {K : AV → Prop} (h : aextract (aev env x) i K) : ∃ a, K a ∧ QS P G o env H a := by
  have hx : x ∈ o.op.operands := by rw [ho]; simp [Op.operands]
  unfold aextract at h
  split at h
  · rename_i cs e
    split at h
    · rename_i a ha
      refine ⟨_, h, qs_val fun w0 B w ι ρ hR hG hρ => ?_⟩
      have hv := hρ x hx
      rw [e] at hv
      generalize hq : ρ x = v at hv
      cases hv with
      | tup _ vs hl hr =>
        have hlt : i < vs.length := by have := (List.getElem?_eq_some_iff.1 ha).1; omega
        refine ⟨vs[i], ?_, hr i a _ ha (List.getElem?_eq_getElem hlt)⟩
        simp [execOp, ho, hq, Instr.extract, List.getElem?_eq_getElem hlt]
    · cases h
  · rename_i cs e
    split at h
    · rename_i a ha
      refine ⟨_, h, qs_val fun w0 B w ι ρ hR hG hρ => ?_⟩
      have hv := hρ x hx
      rw [e] at hv
      generalize hq : ρ x = v at hv
      cases hv with
      | p _ _ hv =>
        cases hv with
        | tup _ vs hl hr =>
          have hlt : i < vs.length := by have := (List.getElem?_eq_some_iff.1 ha).1; omega
          refine ⟨vs[i], ?_, .p _ _ (hr i a _ ha (List.getElem?_eq_getElem hlt))⟩
          simp [execOp, ho, hq, Instr.extract, List.getElem?_eq_getElem hlt]
    · cases h
  · cases h

include hT in
theorem apart_sound {o : Oper} {s : TypeId} {x : Operand} {f : Nat} {i : TI} {fs : Array Field} {fd : Field} {j : TI} (ht : T s = some i) (hd : i.desc = .struct fs) (hf : fs[f]? = some fd) (hj : T fd.type = some j) (h0 : isAggD j.desc = false) (ho : o.op = .field s x f) {env : List AV} {H : AH} {K : AV → Prop} (h : apart (aev env x) fd.offset K) : ∃ a, K a ∧ QS P G o env H a := by
  have hx : x ∈ o.op.operands := by rw [ho]; simp [Op.operands]
  unfold apart at h
  split at h
  · rename_i cs e
    split at h
    · rename_i a ha
      refine ⟨_, h, qs_val fun w0 B w ι ρ hR hG hρ => ?_⟩
      have hv := hρ x hx
      rw [e] at hv
      generalize hq : ρ x = v at hv
      cases hv with
      | agg _ vs hl hr =>
        have hlt : fd.offset < vs.length := by have := (List.getElem?_eq_some_iff.1 ha).1; omega
        refine ⟨vs[fd.offset], ?_, hr _ a _ ha (List.getElem?_eq_getElem hlt)⟩
        simp [execOp, ho, hq, Instr.field, t_und hT ht, hd, hf, asAgg, part, t_agg hT hj, h0, List.getElem?_eq_getElem hlt]
    · cases h
  · rename_i cs e
    split at h
    · rename_i a ha
      refine ⟨_, h, qs_val fun w0 B w ι ρ hR hG hρ => ?_⟩
      have hv := hρ x hx
      rw [e] at hv
      generalize hq : ρ x = v at hv
      cases hv with
      | p _ _ hv =>
        cases hv with
        | agg _ vs hl hr =>
          have hlt : fd.offset < vs.length := by have := (List.getElem?_eq_some_iff.1 ha).1; omega
          refine ⟨vs[fd.offset], ?_, .p _ _ (hr _ a _ ha (List.getElem?_eq_getElem hlt))⟩
          simp [execOp, ho, hq, Instr.field, t_und hT ht, hd, hf, asAgg, part, t_agg hT hj, h0, List.getElem?_eq_getElem hlt]
    · cases h
  · cases h

theorem semP_sound {o : Oper} {env : List AV} {H : AH} {K : AV → Prop} {s : Sem Value} (hs : ∀ (w0 : Base) (B : Nat → Prop) (w : World) (ι : Pl) (ρ : Operand → Value), Rel w0 B w ι H → (∀ x, x ∈ o.op.operands → Rep w ι (Rd B ι H) (aev env x) (ρ x)) →
      (execOp ρ o).run P w = (s.run P w).andThen fun v w => .ok (.value v) w) (h : semP P s fun v => K (.p (.v v))) : ∃ a, K a ∧ QS P G o env H a := by
  obtain ⟨v, hk, hr⟩ := semP_run P s _ h
  refine ⟨_, hk, qs_val fun w0 B w ι ρ hR hG hρ => ⟨v, ?_, .p _ _ (.v _)⟩⟩
  rw [hs w0 B w ι ρ hR hρ, hr]; rfl

include hT
theorem run_eqOne {t : TypeId} {i : TI} (ht : T t = some i) {x y : PV} {b : Bool} (hk : (match i.desc, x with
        | .int _, .v (.int _ _) => true
        | .string, .v (.string _) => true
        | .bool, .v (.bool _) => true
        | _, _ => false) = true) (he : eqP stdE x y = some b) : ∃ u v, x = .v u ∧ y = .v v ∧ (isAggD i.desc = false) ∧ ∀ (d : Nat) (w : World), (Op.equalIn (d + 1) t u v).run P w = .ok b w := by
  unfold eqP at he
  split at he
  · rename_i k a k' b'
    split at he
    · rename_i hkk
      subst hkk
      cases he
      cases hd : i.desc <;> rw [hd] at hk <;> simp at hk
      refine ⟨_, _, rfl, rfl, rfl, fun d w => ?_⟩
      rw [Op.equalIn]
      simp only [Sem.run_bind, t_und hT ht, Result.andThen_ok, hd, if_true]
      rfl
    · cases he
  · rename_i a b'
    cases he
    cases hd : i.desc <;> rw [hd] at hk <;> simp at hk
    refine ⟨_, _, rfl, rfl, rfl, fun d w => ?_⟩
    rw [Op.equalIn]
    simp only [Sem.run_bind, t_und hT ht, Result.andThen_ok, hd]
    rw [ba_beq]
    rfl
  · rename_i a b'
    cases he
    cases hd : i.desc <;> rw [hd] at hk <;> simp at hk
    refine ⟨_, _, rfl, rfl, rfl, fun d w => ?_⟩
    rw [Op.equalIn]
    simp only [Sem.run_bind, t_und hT ht, Result.andThen_ok, hd]
    rfl
  · cases he
theorem run_eqFields {pxs pys : List PV} {xs ys : List Value} (hx : ∀ (j : Nat) (v : Value), pxs[j]? = some (.v v) → xs[j]? = some v) (hy : ∀ (j : Nat) (v : Value), pys[j]? = some (.v v) → ys[j]? = some v) (d : Nat) (w : World) : ∀ (fs : List Field) (r : Bool), eqFields stdE T fs pxs pys = some r →
    (forIn fs ((none : Option Bool), ()) fun f __s => (if f.name ≠ "_" then do
        let __do_lift ← part f.type xs.toArray f.offset
        let __do_lift_1 ← part f.type ys.toArray f.offset
        let __do_lift ← Op.equalIn (d + 1) f.type __do_lift __do_lift_1
        if (!__do_lift) = true then pure (ForInStep.done (some false, ())) else pure (ForInStep.yield (none, ()))
      else pure (ForInStep.yield (none, ())) : Sem (ForInStep (Option Bool × Unit)))).run P w = .ok ((if r then none else some false), ()) w
  | [], r, h => by
    simp [eqFields] at h
    subst h
    rfl
  | f :: fs, r, h => by
    unfold eqFields at h
    split at h
    · cases h
    rename_i hname
    split at h
    · rename_i i x y hi hxo hyo
      split at h
      · rename_i b r' hk hb hr'
        cases h
        obtain ⟨u, v, rfl, rfl, hag, hrun⟩ := run_eqOne hT hi hk hb
        have h1 := hx _ _ hxo
        have h2 := hy _ _ hyo
        have ih := run_eqFields hx hy d w fs r' hr'
        have p1 : (part f.type xs.toArray f.offset).run P w = .ok u w := by simp [part, t_agg hT hi, hag, h1]
        have p2 : (part f.type ys.toArray f.offset).run P w = .ok v w := by simp [part, t_agg hT hi, hag, h2]
        rw [List.forIn_cons]
        simp only [ne_eq, hname, not_false_eq_true, if_true, Sem.run_bind, p1, p2, Result.andThen_ok, hrun]
        cases b with
        | true =>
          simp only [Bool.not_true, Bool.false_eq_true, if_false, Sem.run_pure, Result.andThen_ok, Bool.true_and]
          exact ih
        | false =>
          simp only [Bool.not_false, if_true, Sem.run_pure, Result.andThen_ok, Bool.false_and]
          rfl
      · cases h
    · cases h
theorem run_equal_agg {t : TypeId} {i : TI} (ht : T t = some i) {fs : Array Field} (hd : i.desc = .struct fs) (hc : i.cmp = true) {pxs pys : List PV} {xs ys : List Value} (hx : ∀ (j : Nat) (v : Value), pxs[j]? = some (.v v) → xs[j]? = some v) (hy : ∀ (j : Nat) (v : Value), pys[j]? = some (.v v) → ys[j]? = some v)
    {r : Bool} (h : eqFields stdE T fs.toList pxs pys = some r) (w : World) : (Op.equal t (.agg xs.toArray) (.agg ys.toArray)).run P w = .ok r w := by
  unfold Op.equal Op.maxDepth
  rw [show (10000 : Nat) = 9998 + 1 + 1 from rfl, Op.equalIn]
  simp only [Sem.run_bind, t_und hT ht, Result.andThen_ok, hd, program, Sem.run]
  rw [((hT t i ht).2 hc).1]
  simp only [Bool.false_eq_true, if_false]
  rw [← Array.forIn_toList]
  simp only [Sem.run_bind]
  rw [run_eqFields hT hx hy 9998 w fs.toList r h]
  cases r <;> rfl
theorem run_eqGuard_agg {t : TypeId} {i : TI} (ht : T t = some i) (hc : i.cmp = true) (op : BinOp) (x y : Operand) (xs ys : Array Value) (w : World) : (eqGuard op t x y (.agg xs) (.agg ys)).run P w = .ok () w := by
  have h := ((hT t i ht).2 hc).2
  cases op <;> simp [eqGuard, program, Sem.run, h]
theorem abin_sound {o : Oper} {op : BinOp} {t ty : TypeId} {x y : Operand} (ho : o.op = .binOp op t x y ty) {env : List AV} {H : AH} {K : AV → Prop} (h : abin P stdE T op t (aev env x) (aev env y) K) : ∃ a, K a ∧ QS P G o env H a := by
  have hx : x ∈ o.op.operands := by rw [ho]; simp [Op.operands]
  have hy : y ∈ o.op.operands := by rw [ho]; simp [Op.operands]
  unfold abin at h
  split at h
  · rename_i a b ea eb
    split at h
    · rename_i i hi
      split at h
      · rename_i hd
        refine ⟨_, h, qs_val fun w0 B w ι ρ hR hG hρ => ⟨_, ?_, .p _ _ (.v _)⟩⟩
        have h1 := hρ x hx
        have h2 := hρ y hy
        rw [ea] at h1; rw [eb] at h2
        simp only [execOp, ho, rep_v h1, rep_v h2, Sem.run_bind]
        rw [show (eqGuard .eql t x y (.bool a) (.bool b)).run P w = .ok () w from rfl]
        rw [show binOp .eql t (.bool a) (.bool b) = (do pure (.bool (← Op.equal t (.bool a) (.bool b)))) from rfl]
        simp only [Sem.run_bind, Result.andThen_ok, run_equal_bool hT hi hd]
        rfl
      · rename_i hd
        refine ⟨_, h, qs_val fun w0 B w ι ρ hR hG hρ => ⟨_, ?_, .p _ _ (.v _)⟩⟩
        have h1 := hρ x hx
        have h2 := hρ y hy
        rw [ea] at h1; rw [eb] at h2
        simp only [execOp, ho, rep_v h1, rep_v h2, Sem.run_bind]
        rw [show (eqGuard .neq t x y (.bool a) (.bool b)).run P w = .ok () w from rfl]
        rw [show binOp .neq t (.bool a) (.bool b) = (do pure (.bool (!(← Op.equal t (.bool a) (.bool b))))) from rfl]
        simp only [Sem.run_bind, Result.andThen_ok, run_equal_bool hT hi hd]
        rfl
      · cases h
    · cases h
  · rename_i k a k' b ea eb
    have hrun : ∀ (w0 : Base) (B : Nat → Prop) (w : World) (ι : Pl) (ρ : Operand → Value), (∀ x, x ∈ o.op.operands → Rep w ι (Rd B ι H) (aev env x) (ρ x)) → (execOp ρ o).run P w = ((binOp op t (.int k a) (.int k' b)).run P w).andThen fun v w => .ok (.value v) w := by
      intro w0 B w ι ρ hρ
      have h1 := hρ x hx
      have h2 := hρ y hy
      rw [ea] at h1; rw [eb] at h2
      have hg : (eqGuard op t x y (.int k a) (.int k' b)).run P w = .ok () w := by
        unfold eqGuard
        split <;> rfl
      simp [execOp, ho, rep_v h1, rep_v h2, hg]
    split at h
    · obtain ⟨h0, h⟩ := h
      have h0' : ¬ b < 0 := by have : (0 : Int) ≤ b := h0; omega
      exact ⟨_, h, qs_val fun w0 B w ι ρ hR hG hρ => ⟨_, by rw [hrun w0 B w ι ρ hρ]; simp only [binOp, Op.shift, h0', if_false]; rfl, .p _ _ (.v _)⟩⟩
    · obtain ⟨h0, h⟩ := h
      have h0' : ¬ b < 0 := by have : (0 : Int) ≤ b := h0; omega
      exact ⟨_, h, qs_val fun w0 B w ι ρ hR hG hρ => ⟨_, by rw [hrun w0 B w ι ρ hρ]; simp only [binOp, Op.shift, h0', if_false]; rfl, .p _ _ (.v _)⟩⟩
    split at h
    · rename_i hkk
      subst hkk
      have fin : ∀ v, K (.p (.v v)) → (∀ w, (binOp op t (.int k a) (.int k b)).run P w = .ok v w) → ∃ a, K a ∧ QS P G o env H a := fun v hv hr =>
        ⟨_, hv, qs_val fun w0 B w ι ρ hR hG hρ => ⟨v, by rw [hrun w0 B w ι ρ hρ, hr]; rfl, .p _ _ (.v _)⟩⟩
      unfold abinI at h
      split at h
      · exact fin _ h fun w => by simp [binOp, Op.intArith, stdE]
      · exact fin _ h fun w => by simp [binOp, Op.intArith, stdE]
      · exact fin _ h fun w => by simp [binOp, Op.intArith, stdE]
      · exact fin _ h.2 fun w => by simp [binOp, Op.intDiv, stdE, h.1]
      · exact fin _ h.2 fun w => by simp [binOp, Op.intDiv, h.1, stdE]
      · exact fin _ h fun w => by simp only [binOp, ne_eq, not_true_eq_false, if_false, Op.intCmp]; rfl
      · exact fin _ h fun w => by simp only [binOp, ne_eq, not_true_eq_false, if_false, Op.intCmp]; rfl
      · exact fin _ h fun w => by simp only [binOp, ne_eq, not_true_eq_false, if_false, Op.intCmp]; rfl
      · exact fin _ h fun w => by simp only [binOp, ne_eq, not_true_eq_false, if_false, Op.intCmp]; rfl
      · exact fin _ h fun w => by simp only [binOp, ne_eq, not_true_eq_false, if_false, Op.intCmp]; rfl
      · exact fin _ h fun w => by simp only [binOp, ne_eq, not_true_eq_false, if_false, Op.intCmp]; rfl
      · exact fin _ h fun w => by simp [binOp, Op.intBits, stdE]
      · exact fin _ h fun w => by simp [binOp, Op.intBits, stdE]
      · exact fin _ h fun w => by simp [binOp, Op.intBits, stdE]
      · exact semP_sound (fun w0 B w ι ρ hR hρ => hrun w0 B w ι ρ hρ) h
    · cases h
  · rename_i a b ea eb
    have hrun : ∀ (w0 : Base) (B : Nat → Prop) (w : World) (ι : Pl) (ρ : Operand → Value), (∀ x, x ∈ o.op.operands → Rep w ι (Rd B ι H) (aev env x) (ρ x)) → (execOp ρ o).run P w = ((binOp op t (.string a) (.string b)).run P w).andThen fun v w => .ok (.value v) w := by
      intro w0 B w ι ρ hρ
      have h1 := hρ x hx
      have h2 := hρ y hy
      rw [ea] at h1; rw [eb] at h2
      have hg : (eqGuard op t x y (.string a) (.string b)).run P w = .ok () w := by
        unfold eqGuard
        split <;> rfl
      simp [execOp, ho, rep_v h1, rep_v h2, hg]
    have fin : ∀ v, K (.p (.v v)) → (∀ w, (binOp op t (.string a) (.string b)).run P w = .ok v w) → ∃ a, K a ∧ QS P G o env H a := fun v hv hr =>
      ⟨_, hv, qs_val fun w0 B w ι ρ hR hG hρ => ⟨v, by rw [hrun w0 B w ι ρ hρ, hr]; rfl, .p _ _ (.v _)⟩⟩
    unfold abinS at h
    split at h
    · refine fin _ h.2 fun w => ?_
      have h1 : ((a.size : Nat) : Int) + ((b.size : Nat) : Int) ≤ 9223372036854775807 := h.1
      have h2 : ¬ (((a.size + b.size : Nat) : Int) > IntKind.i64.max) := by rw [IntKind.max_i64]; omega
      simp only [binOp, Op.stringOp, h2, if_false]
      rfl
    · exact fin _ h fun w => by rw [show stdE.eq a b = (a.toList == b.toList) from (bytes_beq a b).symm]; rfl
    · exact fin _ h fun w => by rw [show stdE.eq a b = (a.toList == b.toList) from (bytes_beq a b).symm]; rfl
    · exact fin _ h fun w => rfl
    · exact fin _ h fun w => by rw [show stdE.eq a b = (a.toList == b.toList) from (bytes_beq a b).symm]; rfl
    · exact fin _ h fun w => by rw [show stdE.eq a b = (a.toList == b.toList) from (bytes_beq a b).symm]; rfl
    · exact fin _ h fun w => rfl
    · cases h
  · split at h
    · rename_i pxs pys i hax hay ht
      split at h
      · rename_i fs hd hcm
        split at h
        · rename_i r hr
          refine ⟨_, h, qs_val fun w0 B w ι ρ hR hG hρ => ⟨_, ?_, .p _ _ (.v _)⟩⟩
          obtain ⟨xs, ex, hxs⟩ := aagg_rep hax (hρ x hx)
          obtain ⟨ys, ey, hys⟩ := aagg_rep hay (hρ y hy)
          simp only [execOp, ho, ex, ey, Sem.run_bind, run_eqGuard_agg hT ht hcm, Result.andThen_ok]
          rw [show binOp .eql t (.agg xs.toArray) (.agg ys.toArray) = (do pure (.bool (← Op.equal t (.agg xs.toArray) (.agg ys.toArray)))) from rfl]
          simp only [Sem.run_bind, Result.andThen_ok, run_equal_agg hT ht hd hcm hxs hys hr]
          rfl
        · cases h
      · rename_i fs hd hcm
        split at h
        · rename_i r hr
          refine ⟨_, h, qs_val fun w0 B w ι ρ hR hG hρ => ⟨_, ?_, .p _ _ (.v _)⟩⟩
          obtain ⟨xs, ex, hxs⟩ := aagg_rep hax (hρ x hx)
          obtain ⟨ys, ey, hys⟩ := aagg_rep hay (hρ y hy)
          simp only [execOp, ho, ex, ey, Sem.run_bind, run_eqGuard_agg hT ht hcm, Result.andThen_ok]
          rw [show binOp .neq t (.agg xs.toArray) (.agg ys.toArray) = (do pure (.bool (!(← Op.equal t (.agg xs.toArray) (.agg ys.toArray))))) from rfl]
          simp only [Sem.run_bind, Result.andThen_ok, run_equal_agg hT ht hd hcm hxs hys hr]
          rfl
        · cases h
      · cases h
    · cases h

omit hT in
theorem aunop_sound {o : Oper} {op : UnOp} {t : TypeId} {x : Operand} (ho : o.op = .unOp op t x) {env : List AV} {H : AH} {K : AV → Prop} (h : aunop P stdE op (aev env x) K) : ∃ a, K a ∧ QS P G o env H a := by
  have hx : x ∈ o.op.operands := by rw [ho]; simp [Op.operands]
  unfold aunop at h
  split at h
  · rename_i k n e
    split at h
    · refine ⟨_, h, qs_val fun w0 B w ι ρ hR hG hρ => ⟨_, ?_, .p _ _ (.v _)⟩⟩
      have hv := hρ x hx
      rw [e] at hv
      simp [execOp, ho, rep_v hv, Op.unary, Op.intArith, stdE]
    · refine semP_sound (fun w0 B w ι ρ hR hρ => ?_) h
      have hv := hρ x hx
      rw [e] at hv
      simp [execOp, ho, rep_v hv]
  · rename_i b e
    split at h
    · refine ⟨_, h, qs_val fun w0 B w ι ρ hR hG hρ => ⟨_, ?_, .p _ _ (.v _)⟩⟩
      have hv := hρ x hx
      rw [e] at hv
      simp [execOp, ho, rep_v hv, Op.unary]
    · cases h
  · cases h

theorem aconv_sound {o : Oper} {src dst : TypeId} {x : Operand} (ho : o.op = .convert src dst x) {env : List AV} {H : AH} {K : AV → Prop} (h : aconv stdE T dst src (aev env x) K) : ∃ a, K a ∧ QS P G o env H a := by
  have hx : x ∈ o.op.operands := by rw [ho]; simp [Op.operands]
  unfold aconv at h
  split at h
  · rename_i i j k n hi hj e
    split at h
    · rename_i hd
      refine ⟨_, h, qs_val fun w0 B w ι ρ hR hG hρ => ⟨_, ?_, .p _ _ (.v _)⟩⟩
      have h1 := hρ x hx
      rw [e] at h1
      simp [execOp, ho, rep_v h1, convert, t_und hT hi, t_und hT hj, hd, Conv.intToString, stdE]
    · rename_i k' hd
      refine ⟨_, h, qs_val fun w0 B w ι ρ hR hG hρ => ⟨_, ?_, .p _ _ (.v _)⟩⟩
      have h1 := hρ x hx
      rw [e] at h1
      simp [execOp, ho, rep_v h1, convert, t_und hT hi, t_und hT hj, hd, Conv.intToInt, stdE]
    · cases h
  · rename_i i j s hi hj e
    split at h
    · rename_i hd
      refine ⟨_, h, qs_val fun w0 B w ι ρ hR hG hρ => ⟨_, ?_, .p _ _ (.v _)⟩⟩
      have h1 := hρ x hx
      rw [e] at h1
      simp [execOp, ho, rep_v h1, convert, t_und hT hi, t_und hT hj, hd]
    · rename_i e0 hd
      split at h
      · rename_i te he
        split at h
        · rename_i hde
          obtain ⟨hsz, h⟩ := h
          refine ⟨_, h, fun w0 B w ι ρ hR hG hρ hf => ?_⟩
          have h1 := hρ x hx
          rw [e] at h1
          have hsz' : s.size ≤ 70368744177664 := by
            have : ((s.size : Nat) : Int) ≤ 70368744177664 := hsz
            omega
          have hlen := runesOf_len s
          have hdst : P.underlying dst = some (.slice e0) := by rw [(hT _ _ hi).1.1, hd]
          have hel : P.underlying e0 = some (.int .i32) := by rw [(hT _ _ he).1.1, hde]
          have hrun : (execOp ρ o).run P w = .ok (.value (.slice (some ⟨w.heap.size, 0, none⟩) (runesOf s).length (grownCap w (runesOf s).length 0 e0))) (w.drew.alloc (.cells (((runesOf s).map (Value.int .i32)).toArray ++ Array.replicate (grownCap w (runesOf s).length 0 e0 - (runesOf s).length) (.int .i32 0)) e0)) := by
            cases hk : j.desc with
            | string =>
              have hsrc : P.underlying src = some .string := by rw [(hT _ _ hj).1.1, hk]
              have hc := run_runes_of_string (P := P) w src dst e0 s hsrc hdst hel (by rw [runesOf_eq]; simp; omega)
              rw [runesOf_eq] at hc
              simp only [List.size_toArray, List.length_map] at hc
              simp [execOp, ho, rep_v h1, hc]
            | _ =>
              have hc : (convert src dst (.string s)).run P w = (convert dst dst (.string s)).run P w := by
                simp [convert, t_und hT hi, t_und hT hj, hd, hk]
              simp [execOp, ho, rep_v h1, convert, t_und hT hi, t_und hT hj, hd, hk, run_underlying hel, Conv.stringToRunes, Question.forced, newRow, grownCap, runesOf_eq]
          rw [hrun]
          have hgr : Gr w (w.drew.alloc (.cells (((runesOf s).map (Value.int .i32)).toArray ++ Array.replicate (grownCap w (runesOf s).length 0 e0 - (runesOf s).length) (.int .i32 0)) e0)) := ((Below.refl _ w).drew).alloc (Nat.le_refl _) _
          refine ⟨hgr, .p _ _ ?_⟩
          have hnb : Rd B ι H w.heap.size := ⟨hR.fut _ (Nat.le_refl _), fun ho => by have := hR.lt ho; omega⟩
          have hpl : (pR (runesOf s)).length = (runesOf s).length := by simp [pR]
          have hblk : (w.drew.alloc (.cells (((runesOf s).map (Value.int .i32)).toArray ++ Array.replicate (grownCap w (runesOf s).length 0 e0 - (runesOf s).length) (.int .i32 0)) e0)).heap[w.heap.size]? = some (.cells (((runesOf s).map (Value.int .i32)).toArray ++ Array.replicate (grownCap w (runesOf s).length 0 e0 - (runesOf s).length) (.int .i32 0)) e0 (0, 0)) := by
            show (w.heap.push _)[w.heap.size]? = _
            simp
          have hrow : ∀ (q : Nat) (row : List PV), (pR (runesOf s))[q]? = some row → ∃ n, (runesOf s)[q]? = some n ∧ row = [.v (.int .i32 n)] := fun q row hq => by
            unfold pR at hq
            rw [List.getElem?_map] at hq
            cases hn : (runesOf s)[q]? with
            | none => rw [hn] at hq; cases hq
            | some n => rw [hn] at hq; cases hq; exact ⟨n, rfl, rfl⟩
          have hcell : ∀ (q jj : Nat) (row : List PV) (a : PV), (pR (runesOf s))[q]? = some row → row[jj]? = some a → ∃ n, (runesOf s)[q]? = some n ∧ jj = 0 ∧ a = .v (.int .i32 n) := fun q jj row a hq ha => by
            obtain ⟨n, hn, rfl⟩ := hrow q row hq
            cases jj with
            | zero => simp at ha; exact ⟨n, hn, rfl, ha.symm⟩
            | succ jj => simp at ha
          have := RepP.ro (w := w.drew.alloc (.cells (((runesOf s).map (Value.int .i32)).toArray ++ Array.replicate (grownCap w (runesOf s).length 0 e0 - (runesOf s).length) (.int .i32 0)) e0)) (R := Rd B ι H) 1 (pR (runesOf s)) w.heap.size 0 (grownCap w (runesOf s).length 0 e0) (fun q _ => .int .i32 (((runesOf s)[q]?).getD 0)) hnb (by have := lt_of_heap hblk; exact this) (by rw [hpl]; exact grownCap_ge _ _ _ _)
            (fun q row hq => by obtain ⟨n, _, rfl⟩ := hrow q row hq; rfl)
            (fun q jj row a hq ha => by
              obtain ⟨n, hn, rfl, rfl⟩ := hcell q jj row a hq ha
              refine ⟨?_, rfl⟩
              rw [aget hblk]
              have hql : q < (runesOf s).length := (List.getElem?_eq_some_iff.1 hn).1
              rw [show 0 + (q * 1 + 0) = q by omega, Array.getElem?_append_left (by simpa using hql)]
              simp [hn])
            (fun q jj row a hq ha => by
              obtain ⟨n, hn, rfl, rfl⟩ := hcell q jj row a hq ha
              simp only [hn, Option.getD_some]
              exact .v _)
          rw [hpl] at this
          exact this
        · cases h
      · cases h
    · cases h
  · rename_i i j n rows hi hj e
    split at h
    · rename_i e0 hd hd2
      split at h
      · rename_i te he
        split at h
        · rename_i hde
          obtain ⟨rfl, ns, rfl, h⟩ := h
          refine ⟨_, h, qs_val fun w0 B w ι ρ hR hG hρ => ?_⟩
          have h1 := hρ x hx
          rw [e] at h1
          have hel : P.underlying e0 = some (.int .i32) := by rw [(hT _ _ he).1.1, hde]
          have hgo : ∀ v, (Conv.runesToString v).run P w = .ok (.string (runesBytes ns)) w → (∀ y, v ≠ .string y) → (∃ A l c, v = .slice A l c) → (convert src dst v).run P w = .ok (.string (runesBytes ns)) w := by
            intro v hv _ hsl
            obtain ⟨A, l, c, rfl⟩ := hsl
            simp [convert, t_und hT hi, t_und hT hj, hd, hd2, run_underlying hel, hv]
          cases h1 with
          | p _ _ h1 =>
            generalize hv : ρ x = v at h1
            have hns : (pR ns).length = ns.length := by simp [pR]
            generalize hr : pR ns = rows at h1
            cases h1 with
            | ro0 _ A cap =>
              have hnil : ns = [] := by cases ns with
                | nil => rfl
                | cons a as => simp [pR] at hr
              subst hnil
              refine ⟨.string (runesBytes []), ?_, .p _ _ (.v _)⟩
              have := hgo (.slice A 0 cap) (by cases A <;> simp [Conv.runesToString, loadCells, loadCellsFrom, runesBytes]) (by simp) ⟨_, _, _, rfl⟩
              simp [execOp, ho, hv, this]
            | ro _ _ b off cap vs hR' hb hcap hs hc hq' =>
              subst hr
              refine ⟨.string (runesBytes ns), ?_, .p _ _ (.v _)⟩
              have hld : (loadCells ⟨b, off, none⟩ ns.length).run P w = .ok (ns.map (Value.int .i32)).toArray w := by
                have hl := run_loadCells_list (P := P) (w := w) ⟨b, off, none⟩ (ns.map (Value.int .i32)) (fun q u hu => by
                  rw [List.getElem?_map] at hu
                  cases hn : ns[q]? with
                  | none => rw [hn] at hu; cases hu
                  | some m =>
                    rw [hn] at hu; cases hu
                    have hq : (pR ns)[q]? = some [.v (.int .i32 m)] := by simp [pR, hn]
                    have h2 := (hc q 0 _ _ hq rfl).1
                    have h3 := hq' q 0 _ _ hq rfl
                    have h4 : vs q 0 = .int .i32 m := by
                      generalize vs q 0 = u at h3
                      cases h3; rfl
                    rw [h4] at h2
                    rw [Addr.add_lit]
                    rw [show off + q = off + (q * 1 + 0) by omega]
                    exact h2)
                simpa using hl
              have := hgo (.slice (some ⟨b, off, none⟩) (pR ns).length cap) (by rw [hns]; exact run_runesToString w _ _ cap ns hld) (by simp) ⟨_, _, _, rfl⟩
              simp [execOp, ho, hv, this]
        · cases h
      · cases h
    · cases h
  · cases h

omit hT
theorem abound_get {env : List AV} {x : Option Operand} {d : Int} {K : Int → Prop} (h : abound (x.map (aev env)) d K) :
    ∃ n, K n ∧ ((x = none ∧ n = d) ∨ ∃ y k, x = some y ∧ aev env y = .p (.v (.int k n))) := by
  cases x with
  | none => exact ⟨d, h, .inl ⟨rfl, rfl⟩⟩
  | some y =>
    simp only [Option.map_some] at h
    unfold abound at h
    split at h
    · rename_i e; cases e
    · rename_i k n e
      exact ⟨n, h, .inr ⟨y, k, rfl, by simpa using e⟩⟩
    · cases h
/-- what is known of a bound at run time -/
def BndAt (ρ : Operand → Value) (x : Option Operand) (d : Nat) (n : Int) : Prop := (x = none ∧ n = d) ∨ ∃ y k, x = some y ∧ ρ y = .int k n
theorem run_sliceBounds {ρ : Operand → Value} {b : Bool} {len cap : Nat} {lo hi : Option Operand} {l h : Int} (hh : BndAt ρ hi len h) (hl : BndAt ρ lo 0 l) (h0 : 0 ≤ l) (h1 : l ≤ h) (h2 : h ≤ cap) (w : World) :
    (Instr.sliceBounds b len cap (lo.map ρ) (hi.map ρ) none).run P w = .ok (l.toNat, h.toNat, cap) w := by
  have h3 : (0 : Int) ≤ h := by omega
  have h4 : l ≤ ((h.toNat : Nat) : Int) := by omega
  rcases hh with ⟨rfl, rfl⟩ | ⟨y, k, rfl, ey⟩
  · rcases hl with ⟨rfl, rfl⟩ | ⟨z, k', rfl, ez⟩
    · simp [Instr.sliceBounds]
    · have h5 : l ≤ ((len : Nat) : Int) := h1
      simp [Instr.sliceBounds, Instr.sliceBound, ez, asIntOf, h0, h5]
  · rcases hl with ⟨rfl, rfl⟩ | ⟨z, k', rfl, ez⟩
    · simp [Instr.sliceBounds, Instr.sliceBound, ey, asIntOf, h3, h2]
    · simp [Instr.sliceBounds, Instr.sliceBound, ey, ez, asIntOf, h3, h2, h0]
      intro h5
      omega
include hT
theorem astrslice_sound {t : TypeId} {ti : TI} (ht : T t = some ti) (hd : ti.desc = .string) {o : Oper} {x : Operand} {lo hi : Option Operand} (ho : o.op = .slice t x lo hi none) {env : List AV} {H : AH} {K : AV → Prop}
    (h : astrslice stdE (aev env x) (lo.map (aev env)) (hi.map (aev env)) K) : ∃ a, K a ∧ QS P G o env H a := by
  have hx : x ∈ o.op.operands := by rw [ho]; simp [Op.operands]
  have hlo : ∀ y, lo = some y → y ∈ o.op.operands := fun y e => by rw [ho, e]; simp [Op.operands]
  have hhi : ∀ y, hi = some y → y ∈ o.op.operands := fun y e => by rw [ho, e]; simp [Op.operands]
  unfold astrslice at h
  split at h
  · rename_i s e
    obtain ⟨n, h, bn⟩ := abound_get h
    obtain ⟨m, h, bm⟩ := abound_get h
    obtain ⟨h0, h1, h2, h⟩ := h
    change (0 : Int) ≤ m at h0
    change m ≤ n at h1
    change n ≤ (s.size : Nat) at h2
    change K (.p (.v (.string (s.extract m.toNat n.toNat)))) at h
    refine ⟨_, h, qs_val fun w0 B w ι ρ hR hG hρ => ⟨_, ?_, .p _ _ (.v _)⟩⟩
    have hv := hρ x hx
    rw [e] at hv
    have b1 : BndAt ρ hi s.size n := by
      change (hi = none ∧ n = (s.size : Nat)) ∨ _ at bn
      rcases bn with bn | ⟨y, k, ey, ea⟩
      · exact .inl bn
      · exact .inr ⟨y, k, ey, by have := hρ y (hhi y ey); rw [ea] at this; exact rep_v this⟩
    have b2 : BndAt ρ lo 0 m := by
      rcases bm with bm | ⟨y, k, ey, ea⟩
      · exact .inl bm
      · exact .inr ⟨y, k, ey, by have := hρ y (hlo y ey); rw [ea] at this; exact rep_v this⟩
    simp only [execOp, ho, rep_v hv, Option.map_none, Instr.sliceAt, Sem.run_bind, t_und hT ht, Result.andThen_ok, hd, Instr.slice]
    simp [run_sliceBounds (P := P) b1 b2 h0 h1 h2]
  · cases h
theorem aslice_sound {t e : TypeId} {ti te : TI} (ht : T t = some ti) (hd : ti.desc = .slice e) (he : T e = some te) {o : Oper} {x : Operand} {lo hi : Option Operand} (ho : o.op = .slice t x lo hi none) {env : List AV} {H : AH} {K : AV → Prop}
    (h : aslice stdE te.size (aev env x) (lo.map (aev env)) (hi.map (aev env)) K) : ∃ a, K a ∧ QS P G o env H a := by
  have hx : x ∈ o.op.operands := by rw [ho]; simp [Op.operands]
  have hlo : ∀ y, lo = some y → y ∈ o.op.operands := fun y e => by rw [ho, e]; simp [Op.operands]
  have hhi : ∀ y, hi = some y → y ∈ o.op.operands := fun y e => by rw [ho, e]; simp [Op.operands]
  have run : ∀ (A : Option Addr) (len cap : Nat) (ρ : Operand → Value) (l h : Int) (w : World), BndAt ρ hi len h → BndAt ρ lo 0 l → 0 ≤ l → l ≤ h → h ≤ cap → ρ x = .slice A len cap →
      (execOp ρ o).run P w = .ok (.value (.slice (if cap = l.toNat then A else A.map (·.add (l.toNat * te.size))) (h.toNat - l.toNat) (cap - l.toNat))) w := by
    intro A len cap ρ l h w b1 b2 h0 h1 h2 hv
    simp only [execOp, ho, hv, Option.map_none, Instr.sliceAt, Sem.run_bind, t_und hT ht, Result.andThen_ok, hd, Instr.slice]
    simp [run_sliceBounds (P := P) b1 b2 h0 h1 h2, t_size hT he]
  unfold aslice at h
  simp only [stdE] at h
  split at h
  · rename_i s rows ex
    obtain ⟨rfl, h⟩ := h
    obtain ⟨n, h, bn⟩ := abound_get h
    obtain ⟨m, h, bm⟩ := abound_get h
    obtain ⟨h0, h1, h2, h⟩ := h
    refine ⟨_, h, qs_val fun w0 B w ι ρ hR hG hρ => ?_⟩
    have hv := hρ x hx
    rw [ex] at hv
    generalize hq : ρ x = v at hv
    have b1 : BndAt ρ hi rows.length n := by
      rcases bn with bn | ⟨y, k, ey, ea⟩
      · exact .inl bn
      · exact .inr ⟨y, k, ey, by have := hρ y (hhi y ey); rw [ea] at this; exact rep_v this⟩
    have b2 : BndAt ρ lo 0 m := by
      rcases bm with bm | ⟨y, k, ey, ea⟩
      · exact .inl bm
      · exact .inr ⟨y, k, ey, by have := hρ y (hlo y ey); rw [ea] at this; exact rep_v this⟩
    cases hv with
    | p _ _ hv =>
      cases hv with
      | ro0 _ A cap =>
        simp only [List.length_nil] at b1 h2
        refine ⟨_, run A 0 cap ρ m n w b1 b2 h0 h1 (by omega) hq, ?_⟩
        have hn0 : n.toNat - m.toNat = 0 := by omega
        rw [hn0]
        simp only [List.take_nil, List.drop_nil]
        exact .p _ _ (.ro0 _ _ _)
      | ro _ _ b off cap vs hRb hb hcap hs hc hr =>
        refine ⟨_, run _ _ cap ρ m n w b1 b2 h0 h1 (by omega) hq, ?_⟩
        have hlen : ((rows.take n.toNat).drop m.toNat).length = n.toNat - m.toNat := by
          rw [List.length_drop, List.length_take]; omega
        have hget : ∀ i row, ((rows.take n.toNat).drop m.toNat)[i]? = some row → rows[m.toNat + i]? = some row := fun i row hi => by
          rw [List.getElem?_drop, List.getElem?_take] at hi
          split at hi
          · exact hi
          · cases hi
        by_cases hz : n.toNat - m.toNat = 0
        · have : (rows.take n.toNat).drop m.toNat = [] := List.eq_nil_of_length_eq_zero (by omega)
          rw [hz, this]
          exact .p _ _ (.ro0 _ _ _)
        · rw [if_neg (by omega), ← hlen]
          simp only [Option.map_some, Addr.add_lit]
          refine .p _ _ (.ro _ _ b _ _ (fun i j => vs (m.toNat + i) j) hRb hb (by omega) (fun i row hi => hs _ row (hget i row hi)) (fun i j row a hi hj => ?_) fun i j row a hi hj => hr _ j row a (hget i row hi) hj)
          have := hc _ j row a (hget i row hi) hj
          rw [Nat.add_mul, Nat.add_assoc, ← Nat.add_assoc] at this
          rw [show off + m.toNat * te.size + (i * te.size + j) = off + m.toNat * te.size + (i * te.size + j) from rfl]
          have e2 : off + (m.toNat * te.size + (i * te.size + j)) = off + m.toNat * te.size + (i * te.size + j) := by omega
          rw [← e2]
          have e3 : off + m.toNat * te.size + (i * te.size + j) = off + (m.toNat * te.size + (i * te.size + j)) := by omega
          first
            | exact this
            | (rw [e3] at this; exact this)
  · rename_i k i n ex
    split at h
    · rename_i hlon
      have hlon' : lo = none := by cases lo with | none => rfl | some y => simp at hlon
      subst hlon'
      obtain ⟨m, h, bm⟩ := abound_get h
      obtain ⟨h0, h1, h⟩ := h
      refine ⟨_, h, qs_val fun w0 B w ι ρ hR hG hρ => ?_⟩
      have hv := hρ x hx
      rw [ex] at hv
      generalize hq : ρ x = v at hv
      have b1 : BndAt ρ hi n m := by
        rcases bm with bm | ⟨y, k, ey, ea⟩
        · exact .inl bm
        · exact .inr ⟨y, k, ey, by have := hρ y (hhi y ey); rw [ea] at this; exact rep_v this⟩
      cases hv with
      | osl0 =>
        refine ⟨_, run none 0 0 ρ 0 m w b1 (.inl ⟨rfl, rfl⟩) (by omega) (by omega) (by omega) hq, ?_⟩
        have : m.toNat = 0 := by omega
        rw [this]
        exact .osl0 k i
      | osl _ _ _ c cap s hi' hn hm hz =>
        refine ⟨_, run _ n cap ρ 0 m w b1 (.inl ⟨rfl, rfl⟩) (by omega) (by omega) (by omega) hq, ?_⟩
        have e0 : (if cap = (0 : Int).toNat then some (⟨c, i * s.1, none⟩ : Addr) else (some (⟨c, i * s.1, none⟩ : Addr)).map (·.add ((0 : Int).toNat * te.size))) = some ⟨c, i * s.1, none⟩ := by
          split
          · rfl
          · simp [Addr.add]
        rw [e0]
        simp only [Int.toNat_zero, Nat.sub_zero]
        exact .osl k i m.toNat c cap s hi' (by omega) hm hz
    · cases h
  · cases h
end
end Go.Proofs.YtlffpgjkhehdmaaDoor
