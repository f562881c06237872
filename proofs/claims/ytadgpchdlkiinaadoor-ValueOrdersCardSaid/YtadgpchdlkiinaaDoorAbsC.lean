/- Own work: a walk over values as data: operations, regions, control; its soundness for what is run in the order of the text. -/
import Derived.Test.YtadgpchdlkiinaaDoorAbsB
import Derived.Test.YtadgpchdlkiinaaDoorAbsR
namespace Go.Proofs.YtadgpchdlkiinaaDoor
open Go.RowKit

def scrubE (sc : Option Nat) (env : List AV) : List AV := match sc with
  | none => env
  | some k => env.map (AV.scrub k)
def aput (env : List AV) (d : Option Tmp) (a : AV) : List AV := match d with
  | some t => env.set t a
  | none => env
/-- what a guard's operation has yielded: a bool, or nothing (it was skipped) -/
def gbool : Value → Option Bool
  | .bool b => some b
  | _ => none
def gval (all : List Oper) (env : List AV) (j : Nat) : Option (Option Bool) := match (all[j]?).bind (·.dst) with
  | some t => (match env.getD t .junk with
    | .p (.v x) => some (gbool x)
    | _ => none)
  | none => none

def gtest (want : Bool) (b : Option Bool) : Bool := match b with
  | none => false
  | some b => (match want with
    | true => b
    | false => !b)
theorem gtest_true {want : Bool} {b : Option Bool} (h : gtest want b = true) : b = some want := by
  cases b with
  | none => simp [gtest] at h
  | some b => cases want <;> cases b <;> simp [gtest] at h <;> rfl
theorem gtest_false {want : Bool} {b : Option Bool} (h : gtest want b = false) : b ≠ some want := by
  cases b with
  | none => simp
  | some b => cases want <;> cases b <;> simp [gtest] at h <;> simp

def isW : Op → Bool
  | .alloc _ => true
  | .box _ _ => true
  | .store _ _ _ => true
  | .buildSlice _ _ _ => true
  | .range _ _ => true
  | .next _ _ => true
  | .call c => (match c.callee with
    | .builtin .append => true
    | _ => false)
  | _ => false

def asrc (es : Nat) (H : AH) (y : AV) (K : List (List PV) → Prop) : Prop :=
  match y with
  | .p (.ro s rows) => s = es ∧ K rows
  | .osl k2 i2 m => (match H[k2]? with
    | some (some (.rows s rs _)) => s = es ∧ i2 + m ≤ rs.length ∧ K ((rs.drop i2).take m)
    | _ => False)
  | .p (.v (.slice none 0 _)) => K []
  | _ => False

def aappend (T : TT) (env : List AV) (H : AH) (c : Call) (K : AV → AH → Option Nat → Prop) : Prop :=
  match c.args.toList, c.argTypes.toList with
  | [x, y], [t, t'] => if t = t' then (match T t with
    | some ti => (match ti.desc with
      | .slice e => (match T e with
        | some te => if te.zero.cells.size = te.size ∧ 0 < te.size then asrc te.size H (aev env y) fun rows => (match aev env x with
          | .osl k 0 n => (match H[k]? with
            | some (some (.rows s rs e')) => s = te.size ∧ e' = e ∧ n ≤ rs.length ∧ n + rows.length ≤ maxLen ∧ (n + rows.length) * te.bytes ≤ 140737488355328 ∧
                K (.osl k 0 (n + rows.length)) ((H.map (scrubBlk k)).set k (some (.rows te.size (rs.take n ++ rows) e))) (some k)
            | _ => False)
          | .p (.v (.slice none 0 0)) => rows.length ≤ maxLen ∧ rows.length * te.bytes ≤ 140737488355328 ∧
              K (.osl H.length 0 rows.length) (((H ++ [some (ABlk.rows te.size [] e)]).map (scrubBlk H.length)).set H.length (some (ABlk.rows te.size rows e))) none
          | _ => False) else False
        | none => False)
      | _ => False)
    | none => False) else False
  | _, _ => False

def aw (E : SO) (T : TT) (o : Oper) (env : List AV) (H : AH) (K : AV → AH → Option Nat → Prop) : Prop :=
  match o.op with
  | .alloc t => (match T t with
    | some i => if i.zero.cells.toList.all (·.oneCell') = true then K (.own H.length 0) (H ++ [some (.box (i.zero.cells.toList.map fun x => .p (.v x)) t)]) none else False
    | none => False)
  | .box t x => if okCells (aev env x) = true then K (.own H.length 0) (H ++ [some (.box (avCells (aev env x)) t)]) none else False
  | .store t x y => (match T t with
    | some i => if okCells (aev env y) = true ∧ (avCells (aev env y)).length = i.size then (match aev env x with
      | .own k j => (match H[k]? with
        | some (some (.box cs t')) => if j + i.size ≤ cs.length then K .junk (H.set k (some (.box (asetL cs j (avCells (aev env y))) t'))) none else False
        | _ => False)
      | .orw k r j => (match H[k]?, AV.toP.toPL (avCells (aev env y)) with
        | some (some (.rows s rs t')), some pcs => ∃ row, rs[r]? = some row ∧ j + i.size ≤ row.length ∧ K .junk (H.set k (some (.rows s (rs.set r (asetL row j pcs)) t'))) none
        | _, _ => False)
      | _ => False) else False
    | none => False)
  | .buildSlice t len parts => (match T t with
    | some ti => (match ti.desc with
      | .slice e => (match T e with
        | some te => if 0 < te.size ∧ len * te.size ≤ 16777216 then (match afill (fun i => some (i * te.size, te.size)) ((List.range (len * te.size)).map fun m => .p (.v (te.zero.cells[m % te.zero.cells.size]!))) (parts.toList.map fun (n, x) => (n, aev env x)) with
          | some cs => (match cs.all okOne, chunkP te.size len cs with
            | true, some rs => K (.osl H.length 0 len) (H ++ [some (.rows te.size rs e)]) none
            | _, _ => False)
          | none => False) else False
        | none => False)
      | _ => False)
    | none => False)
  | .range t x => (match T t with
    | some ti => (match ti.desc, aev env x with
      | .string, .p (.v (.string s)) => K (.own H.length 0) (H ++ [some (.iter s 0)]) none
      | _, _ => False)
    | none => False)
  | .next x true => (match aev env x with
    | .own k 0 => (match H[k]? with
      | some (some (.iter s pos)) => (match E.lti pos (E.size s) with
        | true => K (.p (.tup [.v (.bool true), .v (.int .i64 pos), .v (.int .i32 (E.decR s pos))])) (H.set k (some (.iter s (pos + E.decW s pos)))) none
        | false => K (.p (.tup [.v (.bool false)])) H none)
      | _ => False)
    | _ => False)
  | .call c => aappend T env H c K
  | _ => False

def astep (P : Program) (G : World → Prop) (E : SO) (T : TT) (o : Oper) (env : List AV) (H : AH) (K : AV → AH → Option Nat → Prop) : Prop :=
  if isW o.op = true then aw E T o env H K else aq P G E T o env H fun a => K a H none

section
variable {P : Program} {G : World → Prop} {T : TT}

theorem ws_of_qs {o : Oper} {env : List AV} {H : AH} {a : AV} (h : QS P G o env H a) : WS P G o env H a H none := by
  intro w0 B w ι ρ hR hG hρ hf
  have := h w0 B w ι ρ hR hG hρ hf
  generalize (execOp ρ o).run P w = r at *
  cases r with
  | ok n w' =>
    cases n <;> simp only [growUpon] at this ⊢
    · exact ⟨ι, hR.grow this.1, Keeps.gr this.1, this.2⟩
    · exact ⟨ι, hR.grow this.1, Keeps.gr this.1, this.2⟩
    · exact this.mono fun e w' ⟨v, he, h1, h2⟩ => ⟨v, he, ι, hR.grow h1, Keeps.gr h1, h2⟩
  | halt x w' => simp only [growUpon] at this

theorem asrc_sound {es : Nat} {H : AH} {y : AV} {K : List (List PV) → Prop} (h : asrc es H y K) :
    ∃ rows, K rows ∧ ∀ (w0 : World) (B : Nat → Prop) (w : World) (ι : Pl) (v : Value), Rel w0 B w ι H → Rep w ι (Rd B ι H) y v → SrcAt w (Rd B ι H) es rows v := by
  unfold asrc at h
  split at h
  · obtain ⟨rfl, h⟩ := h
    refine ⟨_, h, fun w0 B w ι v hR hv => ?_⟩
    cases hv with
    | p _ _ hv => exact src_ro hv
  · rename_i k2 i2 m
    split at h
    · rename_i s rs t hk
      obtain ⟨rfl, hle, h⟩ := h
      refine ⟨_, h, fun w0 B w ι v hR hv => ?_⟩
      have hget : ∀ (i : Nat) (row : List PV), ((rs.drop i2).take m)[i]? = some row → rs[i2 + i]? = some row := fun i row hr => (get_drop_take hr).1
      have hlen : ((rs.drop i2).take m).length = m := by rw [List.length_take, List.length_drop]; omega
      cases hv with
      | osl0 =>
        have e : (rs.drop i2).take 0 = [] := by simp
        exact ⟨(fun i row hr => by rw [e] at hr; simp at hr), .inl ⟨none, 0, rfl, e⟩⟩
      | osl _ _ _ c cap sz hi hn hm hz =>
        obtain ⟨es, hl, hh⟩ := (hR.blk k2 _ _ sz hk hi).2
        rcases hh with ⟨ec, _⟩ | ⟨c', arr, ec, hb, hz0, hcs⟩
        · cases ec
        cases ec
        refine ⟨fun i row hr => by rw [es]; exact hl _ row (hget i row hr), .inr ⟨c, i2 * sz.1, cap, fun i j => (arr[(i2 + i) * sz.1 + j]?).getD undef, by rw [hlen], fun i j row a hr ha => ?_⟩⟩
        obtain ⟨u, hu, h1, hru⟩ := hcs _ j row a (hget i row hr) ha
        have e2 : i2 * sz.1 + (i * s + j) = (i2 + i) * sz.1 + j := by rw [es, Nat.add_mul]; omega
        have e3 : (arr[(i2 + i) * sz.1 + j]?).getD undef = u := by rw [hu]; rfl
        refine ⟨?_, ?_, ?_⟩
        · rw [aget hb, e2]; simp only; rw [e3]; exact hu
        · simp only; rw [e3]; exact h1
        · simp only; rw [e3]; exact hru
    · cases h
  · rename_i cap
    refine ⟨_, h, fun w0 B w ι v hR hv => ?_⟩
    have := rep_v hv
    subst this
    exact ⟨(fun i row hr => by simp at hr), .inl ⟨none, cap, rfl, rfl⟩⟩
  · cases h

theorem astep_sound (hT : TOk P T) {o : Oper} {env : List AV} {H : AH} {K : AV → AH → Option Nat → Prop} (h : astep P G stdE T o env H K) : ∃ a H' sc, K a H' sc ∧ WS P G o env H a H' sc := by
  unfold astep at h
  split at h
  · rename_i hW
    unfold aw at h
    split at h
    · rename_i t ho
      split at h
      · rename_i i ht
        split at h
        · rename_i h1
          exact ⟨_, _, _, h, aalloc_sound hT ho ht h1⟩
        · cases h
      · cases h
    · rename_i t x ho
      split at h
      · rename_i h1
        exact ⟨_, _, _, h, abox_sound ho h1⟩
      · cases h
    · rename_i t x y ho
      split at h
      · rename_i i ht
        split at h
        · rename_i h1
          split at h
          · rename_i k j ex
            split at h
            · rename_i cs t' hk
              split at h
              · rename_i hle
                exact ⟨_, _, _, h, astore_box hT ho ht ex hk h1.1 h1.2 hle⟩
              · cases h
            · cases h
          · rename_i k r j ex
            split at h
            · rename_i s rs t' pcs hk hp
              obtain ⟨row, hrow, hle, h⟩ := h
              exact ⟨_, _, _, h, astore_row hT ho ht ex hk hrow h1.1 hp h1.2 hle⟩
            · cases h
          · cases h
        · cases h
      · cases h
    · rename_i t len parts ho
      split at h
      · rename_i ti ht
        split at h
        · rename_i e hd
          split at h
          · rename_i te he
            split at h
            · rename_i hc
              split at h
              · rename_i cs hcs
                split at h
                · rename_i rs h1 h2
                  exact ⟨_, _, _, h, abuildSlice_sound hT ho ht hd he hc.1 hc.2 hcs h1 h2⟩
                · cases h
              · cases h
            · cases h
          · cases h
        · cases h
      · cases h
    · rename_i t x ho
      split at h
      · rename_i ti ht
        split at h
        · rename_i s hd ex
          exact ⟨_, _, _, h, arange_sound hT ho ht hd ex⟩
        · cases h
      · cases h
    · rename_i x ho
      split at h
      · rename_i k ex
        split at h
        · rename_i s pos hk
          split at h
          · rename_i hp
            exact ⟨_, _, _, h, anext_more ho ex hk (by have h1 : (pos : Int) < ((s.size : Nat) : Int) := of_decide_eq_true hp; omega)⟩
          · rename_i hp
            exact ⟨_, _, _, h, anext_end ho ex hk (by have h1 : ¬ (pos : Int) < ((s.size : Nat) : Int) := of_decide_eq_false hp; omega)⟩
        · cases h
      · cases h
    · rename_i c ho
      have hc : c.callee = .builtin .append := by
        unfold isW at hW
        rw [ho] at hW
        simp only at hW
        split at hW
        · assumption
        · cases hW
      unfold aappend at h
      split at h
      · rename_i x y t t' ha hat
        split at h
        · rename_i htt
          subst htt
          split at h
          · rename_i ti ht
            split at h
            · rename_i e hd
              split at h
              · rename_i te he
                split at h
                · rename_i hz
                  obtain ⟨rows, h, hsrc⟩ := asrc_sound h
                  split at h
                  · rename_i k n ex
                    split at h
                    · rename_i s rs e' hk
                      obtain ⟨rfl, rfl, hn, h63, hby, h⟩ := h
                      exact ⟨_, _, _, h, aappend_sound hT ho hc ha hat ht hd he hz.1 hz.2 ex hk hn hsrc h63 hby⟩
                    · cases h
                  · rename_i ex
                    obtain ⟨h63, hby, h⟩ := h
                    exact ⟨_, _, _, h, aappend_nil hT ho hc ha hat ht hd he hz.1 hz.2 ex hsrc h63 hby⟩
                  · cases h
                · cases h
              · cases h
            · cases h
          · cases h
        · cases h
      · cases h
    · cases h
  · obtain ⟨a, hK, hq⟩ := aq_sound hT h
    exact ⟨_, _, _, hK, ws_of_qs hq⟩

/-- the frame -/
structure RepE (w : World) (ι : Pl) (R : Nat → Prop) (env : List AV) (tmps : Array Value) : Prop where
  len : env.length = tmps.size
  at_ : ∀ (t : Nat) (a : AV) (v : Value), env[t]? = some a → tmps[t]? = some v → Rep w ι R a v
theorem RepE.eval {w : World} {ι : Pl} {R : Nat → Prop} {env : List AV} {a : Act} (h : RepE w ι R env a.tmps) (x : Operand) : Rep w ι R (aev env x) (a.eval x) := by
  cases x with
  | tmp t =>
    simp only [aev, Act.eval, List.getD_eq_getElem?_getD]
    rcases Nat.lt_or_ge t env.length with hl | hl
    · have h1 := List.getElem?_eq_getElem hl
      have hl2 : t < a.tmps.size := by rw [← h.len]; exact hl
      have h2 : a.tmps[t]? = some a.tmps[t] := Array.getElem?_eq_getElem hl2
      have := h.at_ t _ _ h1 h2
      simpa [h1, h2, Array.getD_eq_getD_getElem?] using this
    · rw [List.getElem?_eq_none hl]; exact .junk _
  | const c => exact .p _ _ (ofV_rep _ _ _)
  | global g => exact .p _ _ (.v _)
  | func f => exact .p _ _ (.v _)
theorem RepE.put {sc : Option Nat} {w w' : World} {ι ι' : Pl} {R R' : Nat → Prop} {env : List AV} {a : Act} {d : Option Tmp} {x : AV} {v : Value} (h : RepE w ι R env a.tmps) (hk : Keeps sc w ι R w' ι' R') (hx : Rep w' ι' R' x v) : RepE w' ι' R' (aput (scrubE sc env) d x) (a.put d v).tmps := by
  have hs : RepE w' ι' R' (scrubE sc env) a.tmps := by
    refine ⟨by unfold scrubE; split <;> simp [h.len], fun t y u hy hu => ?_⟩
    cases sc with
    | none => exact (h.at_ t y u hy hu).keep0 hk
    | some k =>
      simp only [scrubE, List.getElem?_map] at hy
      cases he : env[t]? with
      | none => rw [he] at hy; cases hy
      | some z => rw [he] at hy; cases hy; exact (h.at_ t z u he hu).keep hk
  cases d with
  | none => exact hs
  | some t =>
    refine ⟨by simp [aput, Act.put, hs.len], fun t' y u hy hu => ?_⟩
    simp only [aput, Act.put] at hy hu
    by_cases e : t = t'
    · subst e
      rcases Nat.lt_or_ge t (scrubE sc env).length with hlt | hge
      · rw [List.getElem?_set_self hlt] at hy
        rw [Array.getElem?_setIfInBounds_self_of_lt (by rw [← hs.len]; exact hlt)] at hu
        cases hy
        cases hu; exact hx
      · rw [List.getElem?_eq_none (by simpa using hge)] at hy; cases hy
    · rw [List.getElem?_set_ne e] at hy
      rw [Array.getElem?_setIfInBounds_ne e] at hu
      exact hs.at_ t' y u hy hu

/-- the state of a walk -/
structure St (w0 : World) (B : Nat → Prop) (nt : Nat) (env : List AV) (H : AH) (a : Act) (w : World) : Prop where
  defers : a.defers = []
  size : a.tmps.size = nt
  rep : ∃ ι, Rel w0 B w ι H ∧ RepE w ι (Rd B ι H) env a.tmps
def Post (w0 : World) (B : Nat → Prop) (nt : Nat) (Q : Exit → List AV → AH → Prop) (e : Exit) (a : Act) (w : World) : Prop := ∃ env H, Q e env H ∧ St w0 B nt env H a w

def aops (P : Program) (G : World → Prop) (E : SO) (T : TT) (all : List Oper) (Q : Exit → List AV → AH → Prop) : List Oper → List AV → AH → Prop
  | [], env, H => Q .normal env H
  | o :: os, env, H => match o.guard with
    | none => astep P G E T o env H fun a H' sc => aops P G E T all Q os (aput (scrubE sc env) o.dst a) H'
    | some (j, want) => (match gval all env j with
      | some b => (match gtest want b with
        | true => astep P G E T o env H fun a H' sc => aops P G E T all Q os (aput (scrubE sc env) o.dst a) H'
        | false => aops P G E T all Q os (aput env o.dst (.p (.v undef))) H)
      | none => False)

theorem gval_yield {all : List Oper} {env : List AV} {j : Nat} {b : Option Bool} (h : gval all env j = some b) {w : World} {ι : Pl} {R : Nat → Prop} {a : Act} (hE : RepE w ι R env a.tmps) : yieldedE all.toArray a.eval j = b := by
  unfold gval at h
  unfold yieldedE
  simp only [List.getElem?_toArray]
  split at h
  · rename_i t ht
    rw [ht]
    simp only
    split at h
    · rename_i x e
      cases h
      have := hE.eval (.tmp t)
      simp only [aev, e] at this
      rw [rep_v this]
      cases x <;> rfl
    · cases h
  · cases h

theorem put_size (a : Act) (d : Option Tmp) (v : Value) : (a.put d v).tmps.size = a.tmps.size := by cases d <;> simp [Act.put]
theorem put_defers (a : Act) (d : Option Tmp) (v : Value) : (a.put d v).defers = a.defers := by cases d <;> rfl

variable {w0 : World} {B : Nat → Prop} {nt : Nat}
theorem aops_sound (hT : TOk P T) (hG : ∀ w w', Gr w w' → G w → G w') (hG0 : G w0) {all : List Oper} {Q : Exit → List AV → AH → Prop} : ∀ (os : List Oper) (env : List AV) (H : AH) (a : Act) (w : World), aops P G stdE T all Q os env H → St w0 B nt env H a w → wpList P all.toArray (Post w0 B nt Q) os a w
  | [], env, H, a, w, h, hS => ⟨env, H, h, hS⟩
  | o :: os, env, H, a, w, h, hS => by
    obtain ⟨hd, hn, ι, hR, hE⟩ := hS
    have run : (astep P G stdE T o env H fun x H' sc => aops P G stdE T all Q os (aput (scrubE sc env) o.dst x) H') → o.wp P a w (wpList P all.toArray (Post w0 B nt Q) os) (Post w0 B nt Q) := by
      intro h
      obtain ⟨x, H', sc, hK, hW⟩ := astep_sound hT h
      have hg := hW w0 B w ι a.eval hR (hG _ _ hR.gr hG0) (fun y _ => hE.eval y) (fun _ => rfl)
      refine wp_of_grow hg fun v w' ⟨ι', hR', hk, hv⟩ => ?_
      exact aops_sound hT hG hG0 os _ H' _ w' hK ⟨by rw [put_defers]; exact hd, by rw [put_size]; exact hn, ι', hR', hE.put hk hv⟩
    unfold aops at h
    unfold wpList
    split at h
    · rename_i hg
      rw [if_pos (by simp [Region.wanted, hg])]
      exact .inl (run h)
    · rename_i j want hg
      split at h
      · rename_i b hb
        have hy := gval_yield hb hE
        rw [yielded_eval]
        split at h
        · rename_i ht
          rw [if_pos (by simp [Region.wanted, hg, hy, gtest_true ht])]
          exact .inl (run h)
        · rename_i ht
          rw [if_neg (by simpa [Region.wanted, hg, hy] using gtest_false ht)]
          refine aops_sound hT hG hG0 os _ H _ w h ⟨by rw [put_defers]; exact hd, by rw [put_size]; exact hn, ι, hR, ?_⟩
          exact hE.put (sc := none) (Keeps.gr (Gr.refl _)) (.p _ _ (.v _))
      · cases h
end
end Go.Proofs.YtadgpchdlkiinaaDoor
