/- Own work: a region that draws its order, over values as data: read and reckoned in the order of the text, whatever the order; then its tail. -/
import Derived.Test.YtlffpgjkhehdmaaDoorAbsC
namespace Go.Proofs.YtlffpgjkhehdmaaDoor
open Go.RowKit

/-- the cells of a block, as data -/
def CellsRep (w : World) (ι : Pl) (R : Nat → Prop) (cs : List AV) (arr : Array Value) : Prop := arr.size = cs.length ∧ ∀ (j : Nat) (a : AV), cs[j]? = some a → ∃ v, arr[j]? = some v ∧ v.oneCell' = true ∧ Rep w ι R a v
theorem CellsRep.keep0 {w w' : World} {ι ι' : Pl} {R R' : Nat → Prop} (hk : Keeps none w ι R w' ι' R') {cs : List AV} {arr : Array Value} (h : CellsRep w ι R cs arr) : CellsRep w' ι' R' cs arr :=
  ⟨h.1, fun j a ha => let ⟨v, h1, h2, h3⟩ := h.2 j a ha; ⟨v, h1, h2, h3.keep0 hk⟩⟩

/-- what an operation makes: a block of cells, and a pointer to it or a slice of its rows -/
structure MK where
  t : TypeId
  cs : List AV
  rows : Option (Nat × Nat × List (List PV))
def MK.val (m : MK) (c : Nat) : Value := match m.rows with
  | none => .pointer (some ⟨c, 0, none⟩)
  | some (_, len, _) => .slice (some ⟨c, 0, none⟩) len len
def MK.av (m : MK) (k : Nat) : AV := match m.rows with
  | none => .own k 0
  | some (_, len, _) => .osl k 0 len
def MK.blk (m : MK) (cs : List AV) : ABlk := match m.rows with
  | none => .box cs m.t none
  | some (s, _, rs) => .rows s rs m.t
def MK.shape (m : MK) (n : Nat) : Nat × Nat := match m.rows with
  | none => (0, 0)
  | some (s, _, _) => (s, n)
def MK.Ok (m : MK) (cs : List AV) : Prop := ∀ s len rs, m.rows = some (s, len, rs) → cs = m.cs ∧ chunkP s len m.cs = some rs ∧ 0 < s ∧ m.cs.length = len * s ∧ len ≤ maxLen
def mkD (T : TT) (e : List AV) (o : Oper) : Option MK := match o.op with
  | .alloc t => (match T t with
    | some i => if i.zero.cells.toList.all (·.oneCell') = true then some ⟨t, i.zero.cells.toList.map fun x => .p (.v x), none⟩ else none
    | none => none)
  | .box t x => if okCells (aev e x) = true then some ⟨t, avCells (aev e x), none⟩ else none
  | .buildSlice t len parts => (match T t with
    | some ti => (match ti.desc with
      | .slice el => (match T el with
        | some te => if 0 < te.size ∧ len * te.size ≤ 16777216 then (match afill (fun i => some (i * te.size, te.size)) ((List.range (len * te.size)).map fun m => .p (.v (te.zero.cells[m % te.zero.cells.size]!))) (parts.toList.map fun (n, x) => (n, aev e x)) with
          | some cs => (match cs.all okOne, chunkP te.size len cs with
            | true, some rs => some ⟨el, cs, some (te.size, len, rs)⟩
            | _, _ => none)
          | none => none) else none
        | none => none)
      | _ => none)
    | none => none)
  | _ => none
theorem afill_len {s : Nat} : ∀ (parts : List (Nat × AV)) (cells cs' : List AV), afill (fun i => some (i * s, s)) cells parts = some cs' → cs'.length = cells.length
  | [], cells, cs', h => by simp [afill] at h; rw [h]
  | (n, a) :: ps, cells, cs', h => by
    unfold afill at h
    simp only at h
    split at h
    · rename_i hc
      rw [afill_len ps _ _ h, asetL_len (by omega)]
    · cases h
theorem small_len {n s : Nat} (h : 0 < s) (h2 : n * s ≤ 16777216) : n ≤ maxLen := by
  have : n * 1 ≤ n * s := Nat.mul_le_mul_left _ h
  unfold maxLen; omega
theorem mkD_ok {T : TT} {o : Oper} {e : List AV} {m : MK} (h : mkD T e o = some m) : m.Ok m.cs := by
  unfold mkD at h
  split at h
  · split at h
    · split at h
      · cases h; exact fun s len rs e => by cases e
      · cases h
    · cases h
  · split at h
    · cases h; exact fun s len rs e => by cases e
    · cases h
  · split at h
    · split at h
      · split at h
        · split at h
          · rename_i hlim
            split at h
            · rename_i cs hcs
              split at h
              · rename_i rs hone hrs
                cases h
                intro s len' rs' e
                simp only [Option.some.injEq, Prod.mk.injEq] at e
                obtain ⟨rfl, rfl, rfl⟩ := e
                refine ⟨rfl, hrs, hlim.1, by rw [afill_len _ _ _ hcs]; simp, ?_⟩
                exact small_len hlim.1 hlim.2
              · cases h
            · cases h
          · cases h
        · cases h
      · cases h
    · cases h
  · cases h
/-- the operation makes what is said -/
theorem mk_run {P : Program} {T : TT} (hT : TOk P T) {o : Oper} {e : List AV} {m : MK} (h : mkD T e o = some m) {w : World} {ι : Pl} {R : Nat → Prop} {ρ : Operand → Value} (hρ : ∀ x, x ∈ o.op.operands → Rep w ι R (aev e x) (ρ x)) :
    ∃ arr, (execOp ρ o).run P w = .ok (.value (m.val w.heap.size)) (w.alloc (.cells arr m.t)) ∧ CellsRep w ι R m.cs arr := by
  unfold mkD at h
  split at h
  · rename_i t ho
    split at h
    · rename_i i ht
      split at h
      · rename_i hone
        cases h
        refine ⟨i.zero.cells, ?_, by simp, fun j a ha => ?_⟩
        · simp only [execOp, ho, Instr.alloc, Sem.run_bind, t_zero hT ht, Result.andThen_ok, newVar, newRow, run_newObj, Sem.run_pure, MK.val]
        · rw [List.getElem?_map] at ha
          cases hz : i.zero.cells.toList[j]? with
          | none => rw [hz] at ha; cases ha
          | some z =>
            rw [hz] at ha; cases ha
            exact ⟨z, by simpa using hz, List.all_eq_true.1 hone z (List.mem_of_getElem? hz), .p _ _ (.v _)⟩
      · cases h
    · cases h
  · rename_i t x ho
    split at h
    · rename_i hok
      cases h
      have hc := rep_cells_one (hρ x (by rw [ho]; simp [Op.operands])) hok
      refine ⟨(ρ x).cells, ?_, hc.1.symm, hc.2⟩
      simp only [execOp, ho, Instr.box, Sem.run_bind, Result.andThen_ok, newVar, newRow, run_newObj, Sem.run_pure, MK.val]
    · cases h
  · rename_i t len parts ho
    split at h
    · rename_i ti ht
      split at h
      · rename_i el hd
        split at h
        · rename_i te he
          split at h
          · rename_i hlim
            split at h
            · rename_i cs hcs
              split at h
              · rename_i rs hone hrs
                cases h
                have hops : ∀ (n : Nat) (x : Operand), (n, x) ∈ parts.toList → Rep w ι R (aev e x) (ρ x) := fun n x hx => hρ x (by
                  rw [ho]; simp only [Op.operands, List.mem_toArray, List.mem_map]
                  exact ⟨(n, x), hx, rfl⟩)
                have hparts : ∀ l : List (Nat × Operand), (∀ n x, (n, x) ∈ l → Rep w ι R (aev e x) (ρ x)) → PartsRep w ι R (l.map fun (n, x) => (n, aev e x)) (l.map fun (n, x) => (n, ρ x)) := by
                  intro l
                  induction l with
                  | nil => intro _; trivial
                  | cons p l ih =>
                    intro hl
                    obtain ⟨n, x⟩ := p
                    exact ⟨rfl, hl n x (by simp), ih fun n x hx => hl n x (by simp [hx])⟩
                obtain ⟨arr', h1, h2, h3⟩ := afill_sound (w := w) (ι := ι) (R := R) _ _ _ cs ((Array.range (len * te.size)).map (te.zero.cells[· % te.zero.cells.size]!)) (hparts parts.toList hops) hcs (by simp) (fun j a ha => by
                  rw [List.getElem?_map] at ha
                  have hjl : j < len * te.size := by
                    cases hz : (List.range (len * te.size))[j]? with
                    | none => rw [hz] at ha; cases ha
                    | some z => have := (List.getElem?_eq_some_iff.1 hz).1; simpa using this
                  rw [List.getElem?_range hjl] at ha
                  cases ha
                  exact ⟨_, by simp [hjl], .p _ _ (.v _)⟩)
                refine ⟨arr', ?_, h2.symm, fun j a ha => ?_⟩
                · have e1 : (parts.map fun (p : Nat × Operand) => (p.1, ρ p.2)).toList = parts.toList.map fun (n, x) => (n, ρ x) := by simp
                  have hlim' : ¬ (len * te.size > 2 ^ 24) := by
                    have : (2 : Nat) ^ 24 = 16777216 := by decide
                    have := hlim.2
                    omega
                  simp only [execOp, ho, Instr.buildSlice, Sem.run_bind, t_und hT ht, Result.andThen_ok, hd, t_size hT he, hlim', if_false]
                  rw [show (parts.map fun x => match x with | (i, x) => (i, ρ x)) = parts.map fun (p : Nat × Operand) => (p.1, ρ p.2) from rfl, e1]
                  by_cases h0 : len * te.size = 0
                  · have e3 : ((Array.range (len * te.size)).map fun x => (#[] : Array Value)[x % (#[] : Array Value).size]!) = (Array.range (len * te.size)).map (te.zero.cells[· % te.zero.cells.size]!) := by rw [h0]; simp
                    rw [if_pos h0]
                    simp only [Sem.run_pure, Result.andThen_ok, Sem.run_bind, e3, h1, newRow, run_newObj, MK.val]
                  · rw [if_neg h0]
                    simp only [Sem.run_pure, Result.andThen_ok, Sem.run_bind, t_zero hT he, h1, newRow, run_newObj, MK.val]
                · obtain ⟨u, hu, hr⟩ := h3 j a ha
                  exact ⟨u, hu, rep_one hr (List.all_eq_true.1 hone a (List.mem_of_getElem? ha)), hr⟩
              · cases h
            · cases h
          · cases h
        · cases h
      · cases h
    · cases h
  · cases h
/-- a block that nobody reads is written -/
theorem Rel.poke {w0 : Base} {B : Nat → Prop} {w : World} {ι : Pl} {H : AH} (h : Rel w0 B w ι H) {c : Nat} (hge : w0.own c) (hno : ¬ Owned ι H c) (hnB : ¬ B c) {w' : World}
    (hos : w'.os = w.os) (htape : w'.tape = w.tape) (hout : w'.output = w.output) (hsz : w'.heap.size = w.heap.size) (hoth : ∀ d, d ≠ c → w'.heap[d]? = w.heap[d]?) : Rel w0 B w' ι H ∧ Keeps none w ι (Rd B ι H) w' ι (Rd B ι H) := by
  have hk : Keeps none w ι (Rd B ι H) w' ι (Rd B ι H) := ⟨by omega, fun d hd _ => ⟨hd, hoth d fun e => hnB (e ▸ hd.1)⟩, fun _ _ _ _ h => h⟩
  refine ⟨⟨⟨hos.trans h.gr.os, htape.trans h.gr.tape, hout.trans h.gr.output, by have := h.size; omega, fun d hd hx => ?_⟩, fun b hb => h.fut b (by omega), h.len, fun k b c1 s h1 h2 => ⟨(h.blk k b c1 s h1 h2).1, (h.blk k b c1 s h1 h2).2.keep0 hk fun c' e => ?_⟩, h.inj⟩, hk⟩
  · rw [hoth d (fun e => by subst e; rcases hge with h1 | h1 <;> first | exact hx h1 | omega)]; exact h.gr.block d hd hx
  · subst e
    exact hoth c' fun e => hno (e ▸ ⟨k, b, s, h1, h2⟩)
/-- a block that is there becomes the walk's own -/
theorem Rel.adopt {w0 : Base} {B B' : Nat → Prop} {w : World} {ι : Pl} {H : AH} (h : Rel w0 B w ι H) {c : Nat} {arr : Array Value} {m : MK} {cs : List AV} (hc : w.heap[c]? = some (.cells arr m.t (0, 0))) (hge : w0.own c) (hno : ¬ Owned ι H c) (hnB : ¬ B c)
    (hB : ∀ b, B b → B' b) (hcr : CellsRep w ι (Rd B ι H) cs arr) (hmo : m.Ok cs) :
    Rel w0 B' w (ι ++ [(some c, m.shape arr.size)]) (H ++ [some (m.blk cs)]) ∧ Keeps none w ι (Rd B ι H) w (ι ++ [(some c, m.shape arr.size)]) (Rd B' (ι ++ [(some c, m.shape arr.size)]) (H ++ [some (m.blk cs)])) := by
  have hown : ∀ d, Owned (ι ++ [(some c, m.shape arr.size)]) (H ++ [some (m.blk cs)]) d → Owned ι H d ∨ d = c := by
    rintro d ⟨k, b', s', h1, h2⟩
    rcases get_snoc h1 with ⟨hl, h1⟩ | ⟨rfl, e⟩
    · rcases get_snoc h2 with ⟨hl', h2⟩ | ⟨e, _⟩
      · exact .inl ⟨k, b', s', h1, h2⟩
      · rw [h.len] at e; omega
    · rw [← h.len] at h2
      rw [get_snoc_new] at h2
      cases h2; exact .inr rfl
  have hk : Keeps none w ι (Rd B ι H) w (ι ++ [(some c, m.shape arr.size)]) (Rd B' (ι ++ [(some c, m.shape arr.size)]) (H ++ [some (m.blk cs)])) :=
    ⟨Nat.le_refl _, fun d hd hlt => ⟨⟨hB d hd.1, fun ho => by
      rcases hown d ho with ho | ho
      · exact hd.2 ho
      · subst ho; exact hnB hd.1⟩, rfl⟩, fun k c s _ hx => get_snoc_old hx⟩
  refine ⟨⟨h.gr, fun b hb => hB b (h.fut b hb), by simp [h.len], fun k b' d s' g1 g2 => ?_, fun k l b1 b2 d s1 s2 g1 g2 g3 g4 => ?_⟩, hk⟩
  · rcases get_snoc g1 with ⟨hl, g1⟩ | ⟨rfl, e⟩
    · rcases get_snoc g2 with ⟨hl', g2⟩ | ⟨e, _⟩
      · exact ⟨(h.blk k b' d s' g1 g2).1, (h.blk k b' d s' g1 g2).2.keep0 hk fun c' e => rfl⟩
      · rw [h.len] at e; omega
    · rw [← h.len, get_snoc_new] at g2
      cases g2
      cases e
      refine ⟨fun c' e => by cases e; exact hge, ?_⟩
      have hcr' := hcr.keep0 hk
      unfold MK.blk MK.shape at *
      cases hr : m.rows with
      | none =>
        simp only [hr] at hcr' ⊢
        exact ⟨⟨rfl, fun n e => by cases e⟩, c, arr, rfl, hc, hcr.1, hcr'.2⟩
      | some x =>
        obtain ⟨s, len, rs⟩ := x
        obtain ⟨rfl, hch, hs, hl, _⟩ := hmo s len rs hr
        simp only [hr] at hcr' ⊢
        have hg := chunkP_get s len m.cs rs hch hl
        refine ⟨rfl, fun i row hrow => (hg.2 i row hrow).1, .inr ⟨c, arr, rfl, hc, rfl, fun i j row a hrow ha => ?_⟩⟩
        obtain ⟨x, hx, hxa⟩ := (hg.2 i row hrow).2 j a ha
        obtain ⟨v, hv, h1, h2⟩ := hcr'.2 _ x hx
        exact ⟨v, hv, h1, h2.toP _ hxa⟩
  · rcases get_snoc g1 with ⟨hl, g1⟩ | ⟨rfl, e⟩
    · rcases get_snoc g3 with ⟨_, g3⟩ | ⟨e, _⟩
      · rcases get_snoc g2 with ⟨hl2, g2⟩ | ⟨rfl, e⟩
        · rcases get_snoc g4 with ⟨_, g4⟩ | ⟨e, _⟩
          · exact h.inj k l b1 b2 d s1 s2 g1 g2 g3 g4
          · rw [h.len] at e; omega
        · rw [← h.len, get_snoc_new] at g4
          cases g4
          exact absurd ⟨k, b1, s1, g1, g3⟩ hno
      · rw [h.len] at e; omega
    · rw [← h.len, get_snoc_new] at g3
      cases g3
      rcases get_snoc g2 with ⟨hl2, g2⟩ | ⟨rfl, e⟩
      · rcases get_snoc g4 with ⟨_, g4⟩ | ⟨e, _⟩
        · exact absurd ⟨l, b2, s2, g2, g4⟩ hno
        · rw [h.len] at e; omega
      · rfl

/-- the operation makes a block -/
def isAl (o : Oper) : Bool := match o.op with
  | .alloc _ => true
  | .box _ _ => true
  | .buildSlice _ _ _ => true
  | _ => false
def isSt (o : Oper) : Bool := match o.op with
  | .store _ _ _ => true
  | _ => false
theorem isAl_mk {T : TT} {e : List AV} {o : Oper} {m : MK} (h : mkD T e o = some m) : isAl o = true := by
  unfold mkD at h
  unfold isAl
  split at h <;> first | rfl | cases h
theorem isAl_st {o : Oper} (h : isAl o = true) : isSt o = false := by
  unfold isAl at h
  unfold isSt
  split at h <;> simp_all
/-- the store into the variable that slot d points to -/
def stGo : Nat → List Oper → Nat → Tmp → Option (Nat × TypeId × Operand)
  | 0, _, _, _ => none
  | _ + 1, [], _, _ => none
  | n + 1, o :: os, i, d => match o.op with
    | .store t (.tmp d') y => (match Nat.beq d' d with
      | true => some (i, t, y)
      | false => stGo n os (i + 1) d)
    | _ => stGo n os (i + 1) d
def stFor (all : List Oper) (k : Nat) (d : Tmp) : Option (Nat × TypeId × Operand) := stGo k all 0 d
theorem stGo_get {all : List Oper} {d s : Nat} {t : TypeId} {y : Operand} : ∀ (n m : Nat), stGo n (all.drop m) m d = some (s, t, y) → s < m + n ∧ ∃ o, all[s]? = some o ∧ o.op = .store t (.tmp d) y
  | 0, m, h => by simp [stGo] at h
  | n + 1, m, h => by
    cases hd : all.drop m with
    | nil => rw [hd] at h; simp [stGo] at h
    | cons o os =>
      rw [hd] at h
      have hml : m < all.length := by
        rcases Nat.lt_or_ge m all.length with h' | h'
        · exact h'
        · rw [List.drop_eq_nil_of_le h'] at hd; cases hd
      have hos : os = all.drop (m + 1) ∧ all[m]? = some o := by
        rw [List.drop_eq_getElem_cons hml] at hd
        cases hd
        exact ⟨rfl, List.getElem?_eq_getElem hml⟩
      have again : stGo n os (m + 1) d = some (s, t, y) → s < m + (n + 1) ∧ ∃ o, all[s]? = some o ∧ o.op = .store t (.tmp d) y := fun h => by
        rw [hos.1] at h
        obtain ⟨h1, h2⟩ := stGo_get n (m + 1) h
        exact ⟨by omega, h2⟩
      unfold stGo at h
      split at h
      · rename_i t' d' y' hop
        split at h
        · rename_i hb
          cases h
          have := Nat.eq_of_beq_eq_true hb
          subst this
          exact ⟨by omega, o, hos.2, hop⟩
        · exact again h
      · exact again h
theorem stFor_get {all : List Oper} {k d s : Nat} {t : TypeId} {y : Operand} (h : stFor all k d = some (s, t, y)) : s < k ∧ ∃ o, all[s]? = some o ∧ o.op = .store t (.tmp d) y := by
  have := stGo_get (all := all) k 0 (by simpa [stFor] using h)
  simpa using this
/-- the cells at last -/
def finC (T : TT) (all : List Oper) (k : Nat) (e : List AV) (o : Oper) (m : MK) : Option (List AV) := match o.dst.bind (stFor all k) with
  | none => some m.cs
  | some (_, t, y) => (match o.op, T t with
    | .alloc _, some i => if okCells (aev e y) = true ∧ (avCells (aev e y)).length = i.size ∧ i.size = m.cs.length then some (avCells (aev e y)) else none
    | _, _ => none)

/-- the first n operations of a region that draws, in the order of the text -/
def adraw (P : Program) (G : World → Prop) (E : SO) (T : TT) (all : List Oper) (H : AH) : Nat → List Oper → List AV → (List AV → Prop) → Prop
  | 0, _, env, K => K env
  | _ + 1, [], env, K => K env
  | n + 1, o :: os, env, K => if (isAl o || isSt o) = true then adraw P G E T all H n os (aput env o.dst .junk) K else (match o.guard with
    | none => aq P G E T o env H fun a => adraw P G E T all H n os (aput env o.dst a) K
    | some (j, want) => (match gval all env j with
      | some b => (match gtest want b with
        | true => aq P G E T o env H fun a => adraw P G E T all H n os (aput env o.dst a) K
        | false => adraw P G E T all H n os (aput env o.dst (.p (.v undef))) K)
      | none => False))
/-- the blocks that they make -/
def aallocs (T : TT) (all : List Oper) (k : Nat) (e : List AV) : Nat → List Oper → List AV → AH → (List AV → AH → Prop) → Prop
  | 0, _, env, H, K => K env H
  | _ + 1, [], env, H, K => K env H
  | n + 1, o :: os, env, H, K => if isAl o = true then (match mkD T e o, o.dst with
    | some m, some d => (match finC T all k e o m with
      | some cs => aallocs T all k e n os (env.set d (m.av H.length)) (H ++ [some (m.blk cs)]) K
      | none => False)
    | _, _ => False) else aallocs T all k e n os env H K

/-- none of the first k operations writes the slot -/
def freeK (ops : List Oper) (k : Nat) (t : Tmp) : Bool := (List.range k).all fun j => (ops[j]?).bind (·.dst) != some t
theorem freeK_of {ops : List Oper} {k : Nat} {t : Tmp} (h : freeK ops k t = true) {j : Nat} (hj : j < k) : (ops[j]?).bind (·.dst) ≠ some t := by
  unfold freeK at h
  simpa using List.all_eq_true.1 h j (List.mem_range.2 hj)
def opOk (ops : List Oper) (k i : Nat) (o : Oper) : Bool :=
  (o.op.operands.all fun x => match x with
    | .tmp t => freeK ops k t || (depsOf ops.toArray i).any fun d => (ops[d]?).bind (·.dst) == some t
    | _ => true) &&
  (match o.guard with
    | none => true
    | some (j, _) => (depsOf ops.toArray i).contains j && ((ops[j]?).bind (·.dst)).isSome) &&
  (!isAl o || (o.guard.isNone && o.dst.isSome)) &&
  (!isSt o || (o.guard.isNone && o.dst.isNone && (match o.op with
    | .store _ (.tmp d) _ => ((stFor ops k d).map (·.1) == some i) && (depsOf ops.toArray i).any fun j => (match ops[j]? with
      | some oj => isAl oj && oj.dst == some d
      | none => false)
    | _ => false)))
def regionOk (nt : Nat) (ops : List Oper) (k : Nat) : Bool :=
  rgB ops.toArray k 8 && decide (k ≤ ops.length) && (ops.all fun o => match o.dst with
    | some t => decide (t < nt)
    | none => true) && (List.range k).all fun i => match ops[i]? with
    | some o => opOk ops k i o
    | none => true

/-- the frame before the q-th operation from the m-th on -/
def envFrom (all : List Oper) (avs : Nat → AV) (m : Nat) : Nat → List AV → List AV
  | 0, env => env
  | q + 1, env => aput (envFrom all avs m q env) ((all[m + q]?).bind (·.dst)) (avs (m + q))
theorem envFrom_succ (all : List Oper) (avs : Nat → AV) (m : Nat) : ∀ (q : Nat) (env : List AV), envFrom all avs m (q + 1) env = envFrom all avs (m + 1) q (aput env ((all[m]?).bind (·.dst)) (avs m))
  | 0, env => rfl
  | q + 1, env => by
    rw [envFrom, envFrom_succ all avs m q env, envFrom]
    rw [show m + (q + 1) = m + 1 + q by omega]
theorem envFrom_congr {all : List Oper} {avs avs' : Nat → AV} {m : Nat} : ∀ (q : Nat) (env : List AV), (∀ i, m ≤ i → i < m + q → avs i = avs' i) → envFrom all avs m q env = envFrom all avs' m q env
  | 0, _, _ => rfl
  | q + 1, env, h => by
    rw [envFrom, envFrom, envFrom_congr q env fun i h1 h2 => h i h1 (by omega), h (m + q) (by omega) (by omega)]
theorem envFrom_len (all : List Oper) (avs : Nat → AV) (m : Nat) : ∀ (q : Nat) (env : List AV), (envFrom all avs m q env).length = env.length
  | 0, _ => rfl
  | q + 1, env => by
    rw [envFrom]
    have := envFrom_len all avs m q env
    cases (all[m + q]?).bind (·.dst) <;> simp [aput, this]
theorem envFrom_free {all : List Oper} {avs : Nat → AV} {t : Nat} : ∀ (q : Nat) (env : List AV), (∀ i, i < q → (all[i]?).bind (·.dst) ≠ some t) → (envFrom all avs 0 q env)[t]? = env[t]?
  | 0, _, _ => rfl
  | q + 1, env, h => by
    rw [envFrom]
    have ih := envFrom_free (avs := avs) q env fun i hi => h i (by omega)
    have h0 := h q (by omega)
    rw [Nat.zero_add]
    cases hd : (all[q]?).bind (·.dst) with
    | none => exact ih
    | some s =>
      simp only [aput]
      rw [List.getElem?_set_ne (fun e => h0 (by rw [hd, e]))]; exact ih
theorem envFrom_at {all : List Oper} {avs : Nat → AV} {t d : Nat} (hd : (all[d]?).bind (·.dst) = some t) : ∀ (q : Nat) (env : List AV), d < q → t < env.length → (∀ i, i < q → i ≠ d → (all[i]?).bind (·.dst) ≠ some t) → (envFrom all avs 0 q env)[t]? = some (avs d)
  | 0, _, h, _, _ => by omega
  | q + 1, env, h, hl, hu => by
    rw [envFrom, Nat.zero_add]
    by_cases e : d = q
    · subst e
      rw [hd]
      simp only [aput]
      rw [List.getElem?_set_self (by rw [envFrom_len]; exact hl)]
    · have ih := envFrom_at (avs := avs) hd q env (by omega) hl fun i hi => hu i (by omega)
      have h0 := hu q (by omega) (fun e' => e e'.symm)
      cases hq : (all[q]?).bind (·.dst) with
      | none => exact ih
      | some s =>
        simp only [aput]
        rw [List.getElem?_set_ne (fun e' => h0 (by rw [hq, e']))]; exact ih

section
variable {P : Program} {G : World → Prop} {T : TT}

def OpF (P : Program) (G : World → Prop) (all : List Oper) (H : AH) (o : Oper) (env : List AV) (x : AV) : Prop :=
  ((isAl o || isSt o) = true ∧ x = .junk) ∨ ((isAl o || isSt o) = false ∧ ((o.guard = none ∧ QS P G o env H x) ∨ ∃ j want b, o.guard = some (j, want) ∧ gval all env j = some b ∧ ((b = some want ∧ QS P G o env H x) ∨ (b ≠ some want ∧ x = .p (.v undef)))))

theorem adraw_get (hT : TOk P T) {all : List Oper} {H : AH} : ∀ (n m : Nat) (env : List AV) (K : List AV → Prop), m + n ≤ all.length → adraw P G stdE T all H n (all.drop m) env K →
    ∃ avs : Nat → AV, K (envFrom all avs m n env) ∧ ∀ q o, q < n → all[m + q]? = some o → OpF P G all H o (envFrom all avs m q env) (avs (m + q))
  | 0, m, env, K, _, h => ⟨fun _ => .junk, h, fun q o hq _ => by omega⟩
  | n + 1, m, env, K, hle, h => by
    have hm : m < all.length := by omega
    rw [List.drop_eq_getElem_cons hm] at h
    have ho : all[m]? = some all[m] := List.getElem?_eq_getElem hm
    have go : ∀ x : AV, OpF P G all H all[m] env x → adraw P G stdE T all H n (all.drop (m + 1)) (aput env all[m].dst x) K → ∃ avs : Nat → AV, K (envFrom all avs m (n + 1) env) ∧ ∀ q o, q < n + 1 → all[m + q]? = some o → OpF P G all H o (envFrom all avs m q env) (avs (m + q)) := by
      intro x hx h
      obtain ⟨avs, hK, hF⟩ := adraw_get hT n (m + 1) _ K (by omega) h
      have hc : ∀ q env, envFrom all (fun i => if i = m then x else avs i) (m + 1) q env = envFrom all avs (m + 1) q env := fun q env => envFrom_congr q env fun i h1 _ => by rw [if_neg (by omega)]
      refine ⟨fun i => if i = m then x else avs i, ?_, fun q o hq hqo => ?_⟩
      · rw [envFrom_succ, hc, ho]
        simpa using hK
      · cases q with
        | zero =>
          rw [Nat.add_zero, ho] at hqo
          cases hqo
          simpa [envFrom] using hx
        | succ q =>
          have := hF q o (by omega) (by rw [← hqo]; congr 1; omega)
          rw [envFrom_succ, hc, ho]
          simp only [Option.bind_some, if_true]
          rw [if_neg (by omega)]
          rw [show m + (q + 1) = m + 1 + q by omega]
          exact this
    unfold adraw at h
    split at h
    · rename_i hal
      exact go .junk (.inl ⟨hal, rfl⟩) h
    · rename_i hal
      have hal' : (isAl all[m] || isSt all[m]) = false := by simpa using hal
      split at h
      · rename_i hg
        obtain ⟨x, hK, hq⟩ := aq_sound hT h
        exact go x (.inr ⟨hal', .inl ⟨hg, hq⟩⟩) hK
      · rename_i j want hg
        split at h
        · rename_i b hb
          split at h
          · rename_i ht
            obtain ⟨x, hK, hq⟩ := aq_sound hT h
            exact go x (.inr ⟨hal', .inr ⟨j, want, b, hg, hb, .inl ⟨gtest_true ht, hq⟩⟩⟩) hK
          · rename_i ht
            exact go _ (.inr ⟨hal', .inr ⟨j, want, b, hg, hb, .inr ⟨gtest_false ht, rfl⟩⟩⟩) h
        · cases h
end
end Go.Proofs.YtlffpgjkhehdmaaDoor
