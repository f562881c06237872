/- Own work: slice literals; ranging over a string; all operations that write, together. -/
import Derived.Test.YtlffpgjkhehdmaaDoorAbsA
namespace Go.Proofs.YtlffpgjkhehdmaaDoor
open Go.RowKit

def chunkP (s : Nat) : Nat → List AV → Option (List (List PV))
  | 0, _ => some []
  | n + 1, cs => match AV.toP.toPL (cs.take s), chunkP s n (cs.drop s) with
    | some r, some rs => some (r :: rs)
    | _, _ => none
theorem chunkP_get (s : Nat) : ∀ (n : Nat) (cs : List AV) (rs : List (List PV)), chunkP s n cs = some rs → cs.length = n * s → rs.length = n ∧ ∀ (i : Nat) (row : List PV), rs[i]? = some row → row.length = s ∧ ∀ (j : Nat) (a : PV), row[j]? = some a → ∃ c, cs[i * s + j]? = some c ∧ c.toP = some a
  | 0, cs, rs, h, _ => by simp [chunkP] at h; subst h; simp
  | n + 1, cs, rs, h, hl => by
    unfold chunkP at h
    split at h
    · rename_i r rs' h1 h2
      cases h
      rw [Nat.succ_mul] at hl
      have ih := chunkP_get s n (cs.drop s) rs' h2 (by rw [List.length_drop]; omega)
      have hg := toPL_get _ _ h1
      refine ⟨by simp [ih.1], fun i row hrow => ?_⟩
      cases i with
      | zero =>
        simp at hrow
        subst hrow
        refine ⟨by rw [hg.1, List.length_take]; omega, fun j a ha => ?_⟩
        have hjl : j < (cs.take s).length := by rw [← hg.1]; exact (List.getElem?_eq_some_iff.1 ha).1
        obtain ⟨x, hx, hax⟩ := hg.2 j _ (List.getElem?_eq_getElem hjl)
        rw [hx] at ha; cases ha
        refine ⟨_, ?_, hax⟩
        have h3 : (cs.take s)[j]? = some (cs.take s)[j] := List.getElem?_eq_getElem hjl
        rw [List.getElem?_take] at h3
        split at h3
        · simp
        · cases h3
      | succ i =>
        have hrow' : rs'[i]? = some row := by simpa using hrow
        obtain ⟨h3, h4⟩ := ih.2 i row hrow'
        refine ⟨h3, fun j a ha => ?_⟩
        obtain ⟨c, hc, hca⟩ := h4 j a ha
        rw [List.getElem?_drop] at hc
        exact ⟨c, by rw [Nat.succ_mul, show i * s + s + j = s + (i * s + j) by omega]; exact hc, hca⟩
    · cases h

section
variable {P : Program} {G : World → Prop} {T : TT}
theorem abuildSlice_sound (hT : TOk P T) {o : Oper} {t e : TypeId} {len : Nat} {parts : Array (Nat × Operand)} (ho : o.op = .buildSlice t len parts) {ti te : TI} (ht : T t = some ti) (hd : ti.desc = .slice e) (he : T e = some te) (hs0 : 0 < te.size) (hlim : len * te.size ≤ 16777216)
    {env : List AV} {H : AH} {cs : List AV} (h : afill (fun i => some (i * te.size, te.size)) ((List.range (len * te.size)).map fun m => .p (.v (te.zero.cells[m % te.zero.cells.size]!))) (parts.toList.map fun (n, x) => (n, aev env x)) = some cs)
    (hone : cs.all okOne = true) {rs : List (List PV)} (hrs : chunkP te.size len cs = some rs) : WS P G o env H (.osl H.length 0 len) (H ++ [some (.rows te.size rs e)]) none := by
  intro w0 B w ι ρ hR hG hρ hf
  have hops : ∀ (n : Nat) (x : Operand), (n, x) ∈ parts.toList → Rep w ι (Rd B ι H) (aev env x) (ρ x) := fun n x hx => hρ x (by
    rw [ho]; simp only [Op.operands]
    simp only [List.mem_toArray, List.mem_map]
    exact ⟨(n, x), hx, rfl⟩)
  have hparts : ∀ l : List (Nat × Operand), (∀ n x, (n, x) ∈ l → Rep w ι (Rd B ι H) (aev env x) (ρ x)) → PartsRep w ι (Rd B ι H) (l.map fun (n, x) => (n, aev env x)) (l.map fun (n, x) => (n, ρ x)) := by
    intro l
    induction l with
    | nil => intro _; trivial
    | cons p l ih =>
      intro hl
      obtain ⟨n, x⟩ := p
      exact ⟨rfl, hl n x (by simp), ih fun n x hx => hl n x (by simp [hx])⟩
  obtain ⟨arr', h1, h2, h3⟩ := afill_sound (w := w) (ι := ι) (R := Rd B ι H) _ _ _ cs ((Array.range (len * te.size)).map (te.zero.cells[· % te.zero.cells.size]!)) (hparts parts.toList hops) h (by simp) (fun j a ha => by
    rw [List.getElem?_map] at ha
    have hjl : j < len * te.size := by
      cases hz : (List.range (len * te.size))[j]? with
      | none => rw [hz] at ha; cases ha
      | some z => have := (List.getElem?_eq_some_iff.1 hz).1; simpa using this
    rw [List.getElem?_range hjl] at ha
    cases ha
    exact ⟨_, by simp [hjl], .p _ _ (.v _)⟩)
  have hrun : (execOp ρ o).run P w = .ok (.value (.slice (some ⟨w.heap.size, 0, none⟩) len len)) (w.alloc (.cells arr' e)) := by
    have e1 : (parts.map fun (p : Nat × Operand) => (p.1, ρ p.2)).toList = parts.toList.map fun (n, x) => (n, ρ x) := by simp
    have hlim' : ¬ (len * te.size > 2 ^ 24) := by
      have : (2 : Nat) ^ 24 = 16777216 := by decide
      omega
    simp only [execOp, ho, Instr.buildSlice, Sem.run_bind, t_und hT ht, Result.andThen_ok, hd, t_size hT he, hlim', if_false]
    rw [show (parts.map fun x => match x with | (i, x) => (i, ρ x)) = parts.map fun (p : Nat × Operand) => (p.1, ρ p.2) from rfl, e1]
    have e2 : (List.map (fun (p : Nat × Operand) => (p.1, ρ p.2)) parts.toList) = parts.toList.map fun (n, x) => (n, ρ x) := rfl
    by_cases h0 : len * te.size = 0
    · have e3 : ((Array.range (len * te.size)).map fun x => (#[] : Array Value)[x % (#[] : Array Value).size]!) = (Array.range (len * te.size)).map (te.zero.cells[· % te.zero.cells.size]!) := by rw [h0]; simp
      rw [if_pos h0]
      simp only [Sem.run_pure, Result.andThen_ok, Sem.run_bind, e3, h1, newRow, run_newObj]
    · rw [if_neg h0]
      simp only [Sem.run_pure, Result.andThen_ok, Sem.run_bind, t_zero hT he, h1, newRow, run_newObj]
  rw [hrun]
  have hcl : cs.length = len * te.size := by
    rw [h2]
    have := arr'.size
    have hf : ∀ (parts : List (Nat × AV)) (cells cs' : List AV), afill (fun i => some (i * te.size, te.size)) cells parts = some cs' → cs'.length = cells.length := by
      intro parts
      induction parts with
      | nil => intro cells cs' h; simp [afill] at h; rw [h]
      | cons p ps ih =>
        intro cells cs' h
        obtain ⟨n, a⟩ := p
        unfold afill at h
        simp only at h
        split at h
        · rename_i hc
          rw [ih _ _ h, asetL_len (by omega)]
        · cases h
    have := hf _ _ _ h
    rw [← h2, this]; simp
  have hch := chunkP_get te.size len cs rs hrs hcl
  have := hR.push (.cells arr' e) (.rows te.size rs e) (te.size, arr'.size) (fun ι' R' hk hn => by
    refine ⟨rfl, fun i row hrow => (hch.2 i row hrow).1, .inr ⟨_, _, rfl, hn, rfl, fun i j row a hrow ha => ?_⟩⟩
    obtain ⟨c, hc, hca⟩ := (hch.2 i row hrow).2 j a ha
    obtain ⟨u, hu, hr⟩ := h3 _ c hc
    exact ⟨u, hu, rep_one hr (List.all_eq_true.1 hone c (List.mem_of_getElem? hc)), (hr.toP _ hca).keep hk.size hk.read⟩)
  refine ⟨_, this.1, this.2, ?_⟩
  have hlm : len ≤ maxLen := by
    have : len * 1 ≤ len * te.size := Nat.mul_le_mul_left _ hs0
    unfold maxLen; omega
  have hr := Rep.osl (w := w.alloc (.cells arr' e)) (ι := ι ++ [(some w.heap.size, te.size, arr'.size)]) (R := Rd B (ι ++ [(some w.heap.size, te.size, arr'.size)]) (H ++ [some (ABlk.rows te.size rs e)])) ι.length 0 len w.heap.size len (te.size, arr'.size) (get_snoc_new _ _) (Nat.le_refl _) hlm (by simp [← h2, hcl])
  rw [← hR.len]
  simpa using hr

theorem arange_sound (hT : TOk P T) {o : Oper} {t : TypeId} {x : Operand} (ho : o.op = .range t x) {ti : TI} (ht : T t = some ti) (hd : ti.desc = .string) {env : List AV} {H : AH} {s : ByteArray} (ex : aev env x = .p (.v (.string s))) :
    WS P G o env H (.own H.length 0) (H ++ [some (.iter s 0)]) none := by
  intro w0 B w ι ρ hR hG hρ hf
  have hx := hρ x (by rw [ho]; simp [Op.operands])
  rw [ex] at hx
  have hrun : (execOp ρ o).run P w = .ok (.value (.pointer (some ⟨w.heap.size, 0, none⟩))) (w.alloc (.stringIter s 0)) := by
    simp only [execOp, ho, rep_v hx, Instr.range, Sem.run_bind, t_und hT ht, Result.andThen_ok, hd, Sem.run_pure, run_newObj]
  rw [hrun]
  have := hR.push (.stringIter s 0) (.iter s 0) (0, 0) (fun ι' R' hk hn => ⟨_, rfl, hn⟩)
  exact ⟨_, this.1, this.2, by rw [← hR.len]; exact .own _ 0 _ (0, 0) (get_snoc_new _ _)⟩

theorem anext_more {o : Oper} {x : Operand} (ho : o.op = .next x true) {env : List AV} {H : AH} {k : Nat} {s : ByteArray} {pos : Nat} (ex : aev env x = .own k 0) (hk : H[k]? = some (some (.iter s pos))) (hp : pos < s.size) :
    WS P G o env H (.p (.tup [.v (.bool true), .v (.int .i64 pos), .v (.int .i32 (Utf8.decode s pos).1)])) (H.set k (some (.iter s (pos + (Utf8.decode s pos).2)))) none := by
  intro w0 B w ι ρ hR hG hρ hf
  have hx := hρ x (by rw [ho]; simp [Op.operands])
  rw [ex] at hx
  generalize hq : ρ x = vx at hx
  cases hx with
  | own _ _ c sz hi =>
    obtain ⟨c', ec, hb⟩ := (hR.blk k _ _ sz hk hi).2
    cases ec
    have hrun : (execOp ρ o).run P w = .ok (.value (.tuple #[.bool true, .int .i64 pos, .int .i32 (Utf8.decode s pos).1])) { w with heap := w.heap.setIfInBounds c (.stringIter s (pos + (Utf8.decode s pos).2)) } := by
      simp [execOp, ho, hq, Instr.next, getObj, setObj, Sem.run, hb, hp, goInt]
    rw [hrun]
    have hlt := lt_of_heap hb
    have := hR.upd hk hi (b' := .iter s (pos + (Utf8.decode s pos).2)) (w' := { w with heap := w.heap.setIfInBounds c (.stringIter s (pos + (Utf8.decode s pos).2)) }) rfl rfl rfl (by simp) (fun d hd => by simp [Array.getElem?_setIfInBounds_ne (Ne.symm hd)])
      (fun R' hkp => ⟨c, rfl, by simp [hlt]⟩)
    refine ⟨ι, this.1, this.2, .p _ _ ?_⟩
    refine RepP.tup [.v (.bool true), .v (.int .i64 pos), .v (.int .i32 (Utf8.decode s pos).1)] [.bool true, .int .i64 pos, .int .i32 (Utf8.decode s pos).1] rfl fun j a v ha hv => ?_
    rcases j with _ | _ | _ | j
    · simp at ha hv; subst ha; subst hv; exact .v _
    · simp at ha hv; subst ha; subst hv; exact .v _
    · simp at ha hv; subst ha; subst hv; exact .v _
    · simp at ha
theorem anext_end {o : Oper} {x : Operand} (ho : o.op = .next x true) {env : List AV} {H : AH} {k : Nat} {s : ByteArray} {pos : Nat} (ex : aev env x = .own k 0) (hk : H[k]? = some (some (.iter s pos))) (hp : ¬ pos < s.size) :
    WS P G o env H (.p (.tup [.v (.bool false)])) H none := by
  intro w0 B w ι ρ hR hG hρ hf
  have hx := hρ x (by rw [ho]; simp [Op.operands])
  rw [ex] at hx
  generalize hq : ρ x = vx at hx
  cases hx with
  | own _ _ c sz hi =>
    obtain ⟨c', ec, hb⟩ := (hR.blk k _ _ sz hk hi).2
    cases ec
    have hrun : (execOp ρ o).run P w = .ok (.value (.tuple #[.bool false])) w := by
      simp [execOp, ho, hq, Instr.next, getObj, Sem.run, hb, hp]
    rw [hrun]
    refine ⟨ι, hR, ⟨Nat.le_refl _, fun b hb _ => ⟨hb, rfl⟩, fun _ _ _ _ h => h⟩, .p _ _ ?_⟩
    refine RepP.tup [.v (.bool false)] [.bool false] rfl fun j a v ha hv => ?_
    rcases j with _ | j
    · simp at ha hv; subst ha; subst hv; exact .v _
    · simp at ha
end
end Go.Proofs.YtlffpgjkhehdmaaDoor
