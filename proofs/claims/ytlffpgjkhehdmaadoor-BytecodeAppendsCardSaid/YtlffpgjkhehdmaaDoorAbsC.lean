/- Own work: a walk over values as data: operations, regions, control; its soundness for what is run in the order of the text. -/
import Derived.Test.YtlffpgjkhehdmaaDoorAbsN
namespace Go.Proofs.YtlffpgjkhehdmaaDoor
open Go.RowKit

def scrubE (sc : Option (Nat → Bool)) (env : List AV) : List AV := match sc with
  | none => env
  | some k => env.map (AV.scrub k)
def aput (env : List AV) (d : Option Tmp) (a : AV) : List AV := match d with
  | some t => env.set t a
  | none => env
/-- what a guard's operation has yielded: a bool, or nothing (it was skipped) -/
def gbool : Value → Option Bool
  | .bool b => some b
  | _ => none
def gval (all : List Oper) (env : List AV) (j : Nat) : Option (Option Bool) := match (all[j]?).bind (·.dst) with
  | some t => (match env.getD t .junk with
    | .p (.v x) => some (gbool x)
    | _ => none)
  | none => none

def gtest (want : Bool) (b : Option Bool) : Bool := match b with
  | none => false
  | some b => (match want with
    | true => b
    | false => !b)
theorem gtest_true {want : Bool} {b : Option Bool} (h : gtest want b = true) : b = some want := by
  cases b with
  | none => simp [gtest] at h
  | some b => cases want <;> cases b <;> simp [gtest] at h <;> rfl
theorem gtest_false {want : Bool} {b : Option Bool} (h : gtest want b = false) : b ≠ some want := by
  cases b with
  | none => simp
  | some b => cases want <;> cases b <;> simp [gtest] at h <;> simp

def isW : Op → Bool
  | .alloc _ => true
  | .box _ _ => true
  | .store _ _ _ => true
  | .buildSlice _ _ _ => true
  | .range _ _ => true
  | .next _ _ => true
  | .call c => (match c.callee with
    | .builtin .append => true
    | _ => false)
  | _ => false

def asrc (E : SO) (es : Nat) (H : AH) (y : AV) (K : List (List PV) → Nat → Prop) : Prop :=
  match y with
  | .p (.ro s rows) => s = es ∧ K rows rows.length
  | .osl k2 i2 m => (match H[k2]? with
    | some (some (.rows s rs _)) => s = es ∧ E.pre i2 m rs ∧ K (E.sub rs i2 m) m
    | _ => False)
  | .p (.v (.slice none 0 _)) => K [] 0
  | _ => False

def aappend (E : SO) (T : TT) (env : List AV) (H : AH) (c : Call) (K : AV → AH → Option (Nat → Bool) → Prop) : Prop :=
  match c.args.toList, c.argTypes.toList with
  | [x, y], [t, t'] => if t = t' then (match T t with
    | some ti => (match ti.desc with
      | .slice e => (match T e with
        | some te => if te.zero.cells.size = te.size ∧ 0 < te.size then asrc E te.size H (aev env y) fun rows c => (match aev env x with
          | .osl k 0 n => (match H[k]? with
            | some (some (.rows s rs e')) => s = te.size ∧ e' = e ∧ E.pre 0 n rs ∧ E.room n c te.bytes ∧
                K (.osl k 0 (E.addN n c)) ((H.map (scrubBlk (one k))).set k (some (.rows te.size (E.app rs n rows) e))) (some (one k))
            | _ => False)
          | .p (.v (.slice none 0 0)) => E.room 0 c te.bytes ∧
              K (.osl H.length 0 c) (((H ++ [some (ABlk.rows te.size [] e)]).map (scrubBlk (one H.length))).set H.length (some (ABlk.rows te.size rows e))) none
          | _ => False) else False
        | none => False)
      | _ => False)
    | none => False) else False
  | _, _ => False

def aw (E : SO) (T : TT) (o : Oper) (env : List AV) (H : AH) (K : AV → AH → Option (Nat → Bool) → Prop) : Prop :=
  match o.op with
  | .alloc t => (match T t with
    | some i => if i.zero.cells.toList.all (·.oneCell') = true then K (.own H.length 0) (H ++ [some (.box (i.zero.cells.toList.map fun x => .p (.v x)) t none)]) none else False
    | none => False)
  | .box t x => if okCells (aev env x) = true then K (.own H.length 0) (H ++ [some (.box (avCells (aev env x)) t none)]) none else False
  | .store t x y => (match T t with
    | some i => if okCells (aev env y) = true ∧ (avCells (aev env y)).length = i.size then (match aev env x with
      | .own k j => (match H[k]? with
        | some (some (.box cs t' g)) => if j + i.size ≤ cs.length then K .junk (H.set k (some (.box (asetL cs j (avCells (aev env y))) t' g))) none else False
        | _ => False)
      | .orw k r j => (match H[k]?, AV.toP.toPL (avCells (aev env y)) with
        | some (some (.rows s rs t')), some pcs => ∃ row, rs[r]? = some row ∧ j + i.size ≤ row.length ∧ K .junk (H.set k (some (.rows s (E.put rs r (asetL row j pcs)) t'))) none
        | _, _ => False)
      | _ => False) else False
    | none => False)
  | .buildSlice t len parts => (match T t with
    | some ti => (match ti.desc with
      | .slice e => (match T e with
        | some te => if 0 < te.size ∧ len * te.size ≤ 16777216 then (match afill (fun i => some (i * te.size, te.size)) ((List.range (len * te.size)).map fun m => .p (.v (te.zero.cells[m % te.zero.cells.size]!))) (parts.toList.map fun (n, x) => (n, aev env x)) with
          | some cs => (match cs.all okOne, chunkP te.size len cs with
            | true, some rs => K (.osl H.length 0 len) (H ++ [some (.rows te.size rs e)]) none
            | _, _ => False)
          | none => False) else False
        | none => False)
      | _ => False)
    | none => False)
  | .range t x => (match T t with
    | some ti => (match ti.desc, aev env x with
      | .string, .p (.v (.string s)) => K (.own H.length 0) (H ++ [some (.iter s 0)]) none
      | _, _ => False)
    | none => False)
  | .next x true => (match aev env x with
    | .own k 0 => (match H[k]? with
      | some (some (.iter s pos)) => (match E.lti (E.ofN pos) (E.size s) with
        | true => K (.p (.tup [.v (.bool true), .v (.int .i64 (E.ofN pos)), .v (.int .i32 (E.decR s pos))])) (H.set k (some (.iter s (E.addN pos (E.decW s pos))))) none
        | false => K (.p (.tup [.v (.bool false)])) H none)
      | _ => False)
    | _ => False)
  | .call c => aappend E T env H c K
  | _ => False

def astep (P : Program) (G : World → Prop) (E : SO) (T : TT) (o : Oper) (env : List AV) (H : AH) (K : AV → AH → Option (Nat → Bool) → Prop) : Prop :=
  if isW o.op = true then aw E T o env H K else aq P G E T o env H fun a => K a H none

section
variable {P : Program} {G : World → Prop} {T : TT}

theorem ws_of_qs {o : Oper} {env : List AV} {H : AH} {a : AV} (h : QS P G o env H a) : WS P G o env H a H none := by
  intro w0 B w ι ρ hR hG hρ hf
  have := h w0 B w ι ρ hR hG.now hρ hf
  generalize (execOp ρ o).run P w = r at *
  cases r with
  | ok n w' =>
    cases n <;> simp only [growUpon] at this ⊢
    · exact ⟨ι, hR.grow this.1, Keeps.gr this.1, this.2⟩
    · exact ⟨ι, hR.grow this.1, Keeps.gr this.1, this.2⟩
    · exact this.mono fun e w' ⟨v, he, h1, h2⟩ => ⟨v, he, ι, hR.grow h1, Keeps.gr h1, h2⟩
  | halt x w' => simp only [growUpon] at this

theorem asrc_sound {es : Nat} {H : AH} {y : AV} {K : List (List PV) → Nat → Prop} (h : asrc stdE es H y K) :
    ∃ rows, K rows rows.length ∧ ∀ (w0 : Base) (B : Nat → Prop) (w : World) (ι : Pl) (v : Value), Rel w0 B w ι H → Rep w ι (Rd B ι H) y v → SrcAt w (Rd B ι H) es rows v := by
  unfold asrc at h
  split at h
  · obtain ⟨rfl, h⟩ := h
    refine ⟨_, h, fun w0 B w ι v hR hv => ?_⟩
    cases hv with
    | p _ _ hv => exact src_ro hv
  · rename_i k2 i2 m
    split at h
    · rename_i s rs t hk
      obtain ⟨rfl, hle, h⟩ := h
      change i2 + m ≤ rs.length at hle
      change K ((rs.drop i2).take m) m at h
      have hml : ((rs.drop i2).take m).length = m := by rw [List.length_take, List.length_drop]; omega
      refine ⟨(rs.drop i2).take m, by rw [hml]; exact h, fun w0 B w ι v hR hv => ?_⟩
      have hget : ∀ (i : Nat) (row : List PV), ((rs.drop i2).take m)[i]? = some row → rs[i2 + i]? = some row := fun i row hr => (get_drop_take hr).1
      have hlen : ((rs.drop i2).take m).length = m := by rw [List.length_take, List.length_drop]; omega
      cases hv with
      | osl0 =>
        have e : (rs.drop i2).take 0 = [] := by simp
        exact ⟨(fun i row hr => by rw [e] at hr; simp at hr), .inl ⟨none, 0, rfl, e⟩⟩
      | osl _ _ _ c cap sz hi hn hm hz =>
        obtain ⟨es, hl, hh⟩ := (hR.blk k2 _ _ sz hk hi).2
        rcases hh with ⟨ec, _⟩ | ⟨c', arr, ec, hb, hz0, hcs⟩
        · cases ec
        cases ec
        refine ⟨fun i row hr => by rw [es]; exact hl _ row (hget i row hr), .inr ⟨c, i2 * sz.1, cap, fun i j => (arr[(i2 + i) * sz.1 + j]?).getD undef, by rw [hlen], fun i j row a hr ha => ?_⟩⟩
        obtain ⟨u, hu, h1, hru⟩ := hcs _ j row a (hget i row hr) ha
        have e2 : i2 * sz.1 + (i * s + j) = (i2 + i) * sz.1 + j := by rw [es, Nat.add_mul]; omega
        have e3 : (arr[(i2 + i) * sz.1 + j]?).getD undef = u := by rw [hu]; rfl
        refine ⟨?_, ?_, ?_⟩
        · rw [aget hb, e2]; simp only; rw [e3]; exact hu
        · simp only; rw [e3]; exact h1
        · simp only; rw [e3]; exact hru
    · cases h
  · rename_i cap
    refine ⟨_, h, fun w0 B w ι v hR hv => ?_⟩
    have := rep_v hv
    subst this
    exact ⟨(fun i row hr => by simp at hr), .inl ⟨none, cap, rfl, rfl⟩⟩
  · cases h

theorem astep_sound (hT : TOk P T) {o : Oper} {env : List AV} {H : AH} {K : AV → AH → Option (Nat → Bool) → Prop} (h : astep P G stdE T o env H K) : ∃ a H' sc, K a H' sc ∧ WS P G o env H a H' sc := by
  unfold astep at h
  split at h
  · rename_i hW
    unfold aw at h
    split at h
    · rename_i t ho
      split at h
      · rename_i i ht
        split at h
        · rename_i h1
          exact ⟨_, _, _, h, aalloc_sound hT ho ht h1⟩
        · cases h
      · cases h
    · rename_i t x ho
      split at h
      · rename_i h1
        exact ⟨_, _, _, h, abox_sound ho h1⟩
      · cases h
    · rename_i t x y ho
      split at h
      · rename_i i ht
        split at h
        · rename_i h1
          split at h
          · rename_i k j ex
            split at h
            · rename_i cs t' g hk
              split at h
              · rename_i hle
                exact ⟨_, _, _, h, astore_box hT ho ht ex hk h1.1 h1.2 hle⟩
              · cases h
            · cases h
          · rename_i k r j ex
            split at h
            · rename_i s rs t' pcs hk hp
              obtain ⟨row, hrow, hle, h⟩ := h
              exact ⟨_, _, _, h, astore_row hT ho ht ex hk hrow h1.1 hp h1.2 hle⟩
            · cases h
          · cases h
        · cases h
      · cases h
    · rename_i t len parts ho
      split at h
      · rename_i ti ht
        split at h
        · rename_i e hd
          split at h
          · rename_i te he
            split at h
            · rename_i hc
              split at h
              · rename_i cs hcs
                split at h
                · rename_i rs h1 h2
                  exact ⟨_, _, _, h, abuildSlice_sound hT ho ht hd he hc.1 hc.2 hcs h1 h2⟩
                · cases h
              · cases h
            · cases h
          · cases h
        · cases h
      · cases h
    · rename_i t x ho
      split at h
      · rename_i ti ht
        split at h
        · rename_i s hd ex
          exact ⟨_, _, _, h, arange_sound hT ho ht hd ex⟩
        · cases h
      · cases h
    · rename_i x ho
      split at h
      · rename_i k ex
        split at h
        · rename_i s pos hk
          split at h
          · rename_i hp
            exact ⟨_, _, _, h, anext_more ho ex hk (by have h1 : (pos : Int) < ((s.size : Nat) : Int) := of_decide_eq_true hp; omega)⟩
          · rename_i hp
            exact ⟨_, _, _, h, anext_end ho ex hk (by have h1 : ¬ (pos : Int) < ((s.size : Nat) : Int) := of_decide_eq_false hp; omega)⟩
        · cases h
      · cases h
    · rename_i c ho
      have hc : c.callee = .builtin .append := by
        unfold isW at hW
        rw [ho] at hW
        simp only at hW
        split at hW
        · assumption
        · cases hW
      unfold aappend at h
      split at h
      · rename_i x y t t' ha hat
        split at h
        · rename_i htt
          subst htt
          split at h
          · rename_i ti ht
            split at h
            · rename_i e hd
              split at h
              · rename_i te he
                split at h
                · rename_i hz
                  obtain ⟨rows, h, hsrc⟩ := asrc_sound h
                  split at h
                  · rename_i k n ex
                    split at h
                    · rename_i s rs e' hk
                      obtain ⟨rfl, rfl, hn, ⟨h63, hby⟩, h⟩ := h
                      have hn : n ≤ rs.length := by have hn' : 0 + n ≤ rs.length := hn; omega
                      exact ⟨_, _, _, h, aappend_sound hT ho hc ha hat ht hd he hz.1 hz.2 ex hk hn hsrc h63 hby⟩
                    · cases h
                  · rename_i ex
                    obtain ⟨⟨h63, hby⟩, h⟩ := h
                    rw [Nat.zero_add] at h63 hby
                    exact ⟨_, _, _, h, aappend_nil hT ho hc ha hat ht hd he hz.1 hz.2 ex hsrc h63 hby⟩
                  · cases h
                · cases h
              · cases h
            · cases h
          · cases h
        · cases h
      · cases h
    · cases h
  · obtain ⟨a, hK, hq⟩ := aq_sound hT h
    exact ⟨_, _, _, hK, ws_of_qs hq⟩

theorem RepE.eval {w : World} {ι : Pl} {R : Nat → Prop} {env : List AV} {a : Act} (h : RepE w ι R env a.tmps) (x : Operand) : Rep w ι R (aev env x) (a.eval x) := by
  cases x with
  | tmp t =>
    simp only [aev, Act.eval, List.getD_eq_getElem?_getD]
    rcases Nat.lt_or_ge t env.length with hl | hl
    · have h1 := List.getElem?_eq_getElem hl
      have hl2 : t < a.tmps.size := by rw [← h.len]; exact hl
      have h2 : a.tmps[t]? = some a.tmps[t] := Array.getElem?_eq_getElem hl2
      have := h.at_ t _ _ h1 h2
      simpa [h1, h2, Array.getD_eq_getD_getElem?] using this
    · rw [List.getElem?_eq_none hl]; exact .junk _
  | const c => exact .p _ _ (ofV_rep _ _ _)
  | global g => exact .p _ _ (.v _)
  | func f => exact .p _ _ (.v _)
theorem RepE.put {sc : Option (Nat → Bool)} {w w' : World} {ι ι' : Pl} {R R' : Nat → Prop} {env : List AV} {a : Act} {d : Option Tmp} {x : AV} {v : Value} (h : RepE w ι R env a.tmps) (hk : Keeps sc w ι R w' ι' R') (hx : Rep w' ι' R' x v) : RepE w' ι' R' (aput (scrubE sc env) d x) (a.put d v).tmps := by
  have hs : RepE w' ι' R' (scrubE sc env) a.tmps := by
    refine ⟨by unfold scrubE; split <;> simp [h.len], fun t y u hy hu => ?_⟩
    cases sc with
    | none => exact (h.at_ t y u hy hu).keep0 hk
    | some k =>
      simp only [scrubE, List.getElem?_map] at hy
      cases he : env[t]? with
      | none => rw [he] at hy; cases hy
      | some z => rw [he] at hy; cases hy; exact (h.at_ t z u he hu).keep hk
  cases d with
  | none => exact hs
  | some t =>
    refine ⟨by simp [aput, Act.put, hs.len], fun t' y u hy hu => ?_⟩
    simp only [aput, Act.put] at hy hu
    by_cases e : t = t'
    · subst e
      rcases Nat.lt_or_ge t (scrubE sc env).length with hlt | hge
      · rw [List.getElem?_set_self hlt] at hy
        rw [Array.getElem?_setIfInBounds_self_of_lt (by rw [← hs.len]; exact hlt)] at hu
        cases hy
        cases hu; exact hx
      · rw [List.getElem?_eq_none (by simpa using hge)] at hy; cases hy
    · rw [List.getElem?_set_ne e] at hy
      rw [Array.getElem?_setIfInBounds_ne e] at hu
      exact hs.at_ t' y u hy hu

/-- the state of a walk -/
structure St (w0 : Base) (B : Nat → Prop) (nt : Nat) (env : List AV) (H : AH) (a : Act) (w : World) : Prop where
  defers : a.defers = []
  size : a.tmps.size = nt
  rep : ∃ ι, Rel w0 B w ι H ∧ RepE w ι (Rd B ι H) env a.tmps
def Post (w0 : Base) (B : Nat → Prop) (nt : Nat) (Q : Exit → List AV → AH → Prop) (e : Exit) (a : Act) (w : World) : Prop := ∃ env H, Q e env H ∧ St w0 B nt env H a w

def PV.panOf : PV → Option (List PanicEntry)
  | .pan ch => some ch
  | _ => none
def AV.panOf : AV → Option (List PanicEntry)
  | .p (.pan ch) => some ch
  | _ => none
/-- the function that is called, and all that it is handed -/
def calleeOf (x : AV) (args : List AV) : Option (FuncId × List AV) :=
  match x with
  | .p (.v (.func (.func f) us vs)) => some (f, (us.toList.map fun v => .p (.v v)) ++ (args ++ (vs.toList.map fun v => .p (.v v))))
  | .clo f fs cs => some (f, fs ++ (args ++ cs))
  | _ => none
def cargs (env : List AV) (o : Oper) : Option (FuncId × List AV) :=
  match o.op with
  | .call c => (match c.callee with
    | .value x => calleeOf (aev env x) (c.args.toList.map (aev env))
    | _ => none)
  | _ => none
/-- a value that can be handed over as data that are only read -/
def AV.still : AV → Bool
  | .p _ => true
  | .osl _ _ _ => true
  | .agg cs => stillL cs
  | .tup cs => stillL cs
  | _ => false
where stillL : List AV → Bool
  | [] => true
  | a :: as => a.still && stillL as
/-- what a call is, seen from the frame -/
inductive CK where
  | no
  | pure (f : FuncId) (as : List PV)
  | froz (f : FuncId) (as : List AV)
  | mem (f : FuncId)
  | pan (v : Value)
def ckOf (env : List AV) (o : Oper) : CK :=
  match o.op with
  | .panic x => (match aev env x with
    | .p (.v (.iface t v)) => .pan (.iface t v)
    | _ => .no)
  | _ => (match cargs env o with
    | some (f, as) => (match AV.toP.toPL as with
      | some ps => .pure f ps
      | none => (match AV.still.stillL as with
        | true => .froz f as
        | false => .mem f))
    | none => .no)
def mokB (σ : List Nat) (H Hc : AH) (as : List AV) : Bool := sigmaB σ H.length && Nat.beq σ.length Hc.length && hlow σ.length Hc && AV.low.lowL σ.length as
/-- a call that is lent blocks -/
inductive MCall (P : Program) (G : World → Prop) (f : FuncId) (o : Oper) (env : List AV) (H : AH) (K : List AV → AH → Prop) (Q : Exit → List AV → AH → Prop) : Prop
  | mk (env2 : List AV) (H2 : AH) (hw : Wk env H env2 H2) (σ : List Nat) (as : List AV) (Hc : AH) (r : AV) (Hc' : AH) (h : RetM P G f as Hc r Hc') (hc : cargs env2 o = some (f, AV.ren.renL (renK σ H2.length) as)) (hb : mokB σ H2 Hc as = true)
    (hp : σ.map (fun l => stripO (H2.getD l none)) = Hc.map (renO (renK σ H2.length) none))
    (k : match r.panOf with
      | some ch => Q (.panic ch) (scrubE (some (lentP σ H2 Hc')) env2) (backH σ H2 Hc')
      | none => K (aput (scrubE (some (lentP σ H2 Hc')) env2) o.dst (r.ren (renK σ H2.length))) (backH σ H2 Hc'))
def acallX (P : Program) (G : World → Prop) (E : SO) (T : TT) (o : Oper) (env : List AV) (H : AH) (K : List AV → AH → Prop) (Q : Exit → List AV → AH → Prop) : Prop :=
  match ckOf env o with
  | .no => astep P G E T o env H fun a H' sc => K (aput (scrubE sc env) o.dst a) H'
  | .pure f ps => ∃ r, Ret P G f ps r ∧ (match r.panOf with
    | some ch => Q (.panic ch) env H
    | none => K (aput env o.dst (.p r)) H)
  | .froz f as => frz.frzL E H as fun ps => ∃ r, Ret P G f ps r ∧ (match r.panOf with
    | some ch => Q (.panic ch) env H
    | none => (match r.flat with
      | true => K (aput env o.dst (.p r)) H
      | false => False))
  | .mem f => MCall P G f o env H K Q
  | .pan v => Q (.panic [{ v := v, recovered := false }]) env H
def aops (P : Program) (G : World → Prop) (E : SO) (T : TT) (all : List Oper) (Q : Exit → List AV → AH → Prop) : List Oper → List AV → AH → Prop
  | [], env, H => Q .normal env H
  | o :: os, env, H => match o.guard with
    | none => acallX P G E T o env H (fun env' H' => aops P G E T all Q os env' H') Q
    | some (j, want) => (match gval all env j with
      | some b => (match gtest want b with
        | true => acallX P G E T o env H (fun env' H' => aops P G E T all Q os env' H') Q
        | false => aops P G E T all Q os (aput env o.dst (.p (.v undef))) H)
      | none => False)

theorem gval_yield {all : List Oper} {env : List AV} {j : Nat} {b : Option Bool} (h : gval all env j = some b) {w : World} {ι : Pl} {R : Nat → Prop} {a : Act} (hE : RepE w ι R env a.tmps) : yieldedE all.toArray a.eval j = b := by
  unfold gval at h
  unfold yieldedE
  simp only [List.getElem?_toArray]
  split at h
  · rename_i t ht
    rw [ht]
    simp only
    split at h
    · rename_i x e
      cases h
      have := hE.eval (.tmp t)
      simp only [aev, e] at this
      rw [rep_v this]
      cases x <;> rfl
    · cases h
  · cases h

theorem put_size (a : Act) (d : Option Tmp) (v : Value) : (a.put d v).tmps.size = a.tmps.size := by cases d <;> simp [Act.put]
theorem put_defers (a : Act) (d : Option Tmp) (v : Value) : (a.put d v).defers = a.defers := by cases d <;> rfl

variable {w0 : Base} {B : Nat → Prop} {nt : Nat}
theorem calls_upon {o : Oper} {a : Act} {w : World} {next : Act → World → Prop} {Q : Exit → Act → World → Prop} {f : FuncId} {args : Array Value} (he : (execOp a.eval o).run P w = .ok (.enter f args) w) {R : Ending → World → Prop} (h : Calls P f args w R)
    (hv : ∀ v w', R (.returned v) w' → next (a.put o.dst v) w') (hp : ∀ ch w', R (.panicked ch) w' → Q (.panic ch) a w') (ho : ∀ w', ¬ R .outgrown w') : o.wp P a w next Q := by
  unfold Oper.wp
  rw [he, Oper.upon_enter]
  refine h.mono fun e w' hR => ?_
  cases e with
  | returned v => exact hv v w' hR
  | panicked ch => exact hp ch w' hR
  | outgrown => exact absurd hR (ho w')
theorem rep_args {w : World} {ι : Pl} {R : Nat → Prop} {env : List AV} {a : Act} (hE : RepE w ι R env a.tmps) (args : Array Operand) : ∀ (j : Nat) (x : AV) (v : Value), (args.toList.map (aev env))[j]? = some x → (args.toList.map a.eval)[j]? = some v → Rep w ι R x v := fun j x v hx hv => by
  rw [List.getElem?_map] at hx hv
  cases hj : args.toList[j]? with
  | none => rw [hj] at hx; cases hx
  | some y =>
    rw [hj] at hx hv
    cases hx; cases hv
    exact hE.eval y
theorem rep_append {w : World} {ι : Pl} {R : Nat → Prop} {as bs : List AV} {us vs : List Value} (hl : as.length = us.length) (ha : ∀ (j : Nat) (x : AV) (v : Value), as[j]? = some x → us[j]? = some v → Rep w ι R x v) (hb : ∀ (j : Nat) (x : AV) (v : Value), bs[j]? = some x → vs[j]? = some v → Rep w ι R x v) :
    ∀ (j : Nat) (x : AV) (v : Value), (as ++ bs)[j]? = some x → (us ++ vs)[j]? = some v → Rep w ι R x v := fun j x v hx hv => by
  rcases Nat.lt_or_ge j as.length with h | h
  · rw [List.getElem?_append_left h] at hx
    rw [List.getElem?_append_left (by omega)] at hv
    exact ha j x v hx hv
  · rw [List.getElem?_append_right h] at hx
    rw [List.getElem?_append_right (by omega), ← hl] at hv
    exact hb _ x v hx hv
theorem rep_vs {w : World} {ι : Pl} {R : Nat → Prop} (us : List Value) : ∀ (j : Nat) (x : AV) (v : Value), (us.map fun v => AV.p (.v v))[j]? = some x → us[j]? = some v → Rep w ι R x v := fun j x v hx hv => by
  rw [List.getElem?_map, hv] at hx
  cases hx
  exact .p _ _ (.v _)
/-- a call, run -/
theorem cargs_run {o : Oper} {env : List AV} {f : FuncId} {as : List AV} (h : cargs env o = some (f, as)) {w : World} {ι : Pl} {R : Nat → Prop} {a : Act} (hE : RepE w ι R env a.tmps) :
    ∃ vs : List Value, as.length = vs.length ∧ (∀ (j : Nat) (x : AV) (v : Value), as[j]? = some x → vs[j]? = some v → Rep w ι R x v) ∧ (execOp a.eval o).run P w = (callFunc f vs.toArray).run P w := by
  unfold cargs at h
  split at h
  · rename_i c ho
    split at h
    · rename_i x hc
      have hx := hE.eval x
      unfold calleeOf at h
      split at h
      · rename_i f' us vs e
        cases h
        rw [e] at hx
        have hev := rep_v hx
        refine ⟨us.toList ++ (c.args.toList.map a.eval ++ vs.toList), by simp, rep_append (by simp) (rep_vs _) (rep_append (by simp) (rep_args hE c.args) (rep_vs _)), ?_⟩
        have e2 : (us.toList ++ (c.args.toList.map a.eval ++ vs.toList)).toArray = us ++ c.args.map a.eval ++ vs := by
          apply Array.toList_inj.1; simp
        rw [e2]
        simp [execOp, ho, resolve, hc, hev, Deferred.ofValue, invoke]
      · rename_i f' fs cs e
        cases h
        rw [e] at hx
        generalize hev : a.eval x = xv at hx
        cases hx with
        | clo _ _ _ us vs hl hr hl' hr' =>
          refine ⟨us ++ (c.args.toList.map a.eval ++ vs), by simp [hl, hl'], rep_append hl hr (rep_append (by simp) (rep_args hE c.args) hr'), ?_⟩
          have e2 : (us ++ (c.args.toList.map a.eval ++ vs)).toArray = us.toArray ++ c.args.map a.eval ++ vs.toArray := by
            apply Array.toList_inj.1; simp
          rw [e2]
          simp [execOp, ho, resolve, hc, hev, Deferred.ofValue, invoke]
      · cases h
    · cases h
  · cases h
theorem ends_pan {w : World} {R : Nat → Prop} {r : PV} {e : Ending} (h : Ends w R r e) : (∃ ch, r.panOf = some ch ∧ e = .panicked ch) ∨ (r.panOf = none ∧ ∃ v, e = .returned v ∧ RepP w R r v) := by
  cases r with
  | pan ch => exact .inl ⟨ch, rfl, h⟩
  | _ => exact .inr ⟨rfl, h⟩
theorem endsA_pan {w : World} {ι : Pl} {R : Nat → Prop} {r : AV} {e : Ending} (h : EndsA w ι R r e) : (∃ ch, r.panOf = some ch ∧ e = .panicked ch) ∨ (r.panOf = none ∧ ∃ v, e = .returned v ∧ Rep w ι R r v) := by
  cases r with
  | p x =>
    cases x with
    | pan ch => exact .inl ⟨ch, rfl, h⟩
    | _ => exact .inr ⟨rfl, h⟩
  | _ => exact .inr ⟨rfl, h⟩
theorem panOf_ren (r : AV) (f : Nat → Nat) : (r.ren f).panOf = r.panOf := by
  cases r with
  | p x => rfl
  | _ => rfl
/-- a call of data only: what it may hand back -/
theorem ret_call {f : FuncId} {ps : List PV} {r : PV} (hr : Ret P G f ps r) {o : Oper} {a : Act} {w : World} (hG : G w) {vs : List Value} (he : (execOp a.eval o).run P w = (callFunc f vs.toArray).run P w) {B' : Nat → Prop} (hl : ps.length = vs.length)
    (hp : ∀ (j : Nat) (p : PV) (v : Value), ps[j]? = some p → vs[j]? = some v → RepP w B' p v) {next : Act → World → Prop} {Q : Exit → Act → World → Prop}
    (hv : r.panOf = none → ∀ v w', Gr w w' → RepP w' (fun b => B' b ∨ w.heap.size ≤ b) r v → next (a.put o.dst v) w') (hq : ∀ ch w', r.panOf = some ch → Gr w w' → Q (.panic ch) a w') : o.wp P a w next Q := by
  have hc := hr.2 w B' vs hG hl hp
  refine calls_upon (he.trans (hr.1 _ _)) hc (fun v w' ⟨hg, h⟩ => ?_) (fun ch w' ⟨hg, h⟩ => ?_) fun w' ⟨hg, h⟩ => ?_
  · rcases ends_pan h with ⟨ch, _, e⟩ | ⟨h1, v', e, h2⟩
    · cases e
    · cases e; exact hv h1 v w' hg h2
  · rcases ends_pan h with ⟨ch', h1, e⟩ | ⟨h1, v', e, h2⟩
    · cases e; exact hq ch w' h1 hg
    · cases e
  · rcases ends_pan h with ⟨ch', h1, e⟩ | ⟨h1, v', e, h2⟩ <;> cases e
theorem acallX_sound (hT : TOk P T) (hG0 : ∀ w, GrX w0 w → G w) (hB0 : ∀ b, w0.own b → B b) {o : Oper} {env : List AV} {H : AH} {K : List AV → AH → Prop} {Q : Exit → List AV → AH → Prop} {a : Act} {w : World} {next : Act → World → Prop}
    (h : acallX P G stdE T o env H K Q) (hS : St w0 B nt env H a w) (hK : ∀ env' H' a' w', K env' H' → St w0 B nt env' H' a' w' → next a' w') : o.wp P a w next (Post w0 B nt Q) := by
  obtain ⟨hd, hn, ι, hR, hE⟩ := hS
  have hC : ∀ (H : AH) (ι : Pl), Rel w0 B w ι H → Can G w0 B w ι H := fun H ι hR => ⟨fun w' hg => hG0 w' ⟨hg.os.trans hR.gr.os, hg.tape.trans hR.gr.tape, hg.output.trans hR.gr.output, Nat.le_trans hR.size hg.size, fun k hk hx => by
    have := hR.size
    rw [hg.block k (by change k < w.heap.size; omega) fun ho => by rcases hR.ge ho with h | h <;> first | exact hx h | omega]
    exact hR.gr.block k hk hx⟩, hB0⟩
  unfold acallX at h
  split at h
  · obtain ⟨x, H', sc, hK', hW⟩ := astep_sound hT h
    have hg := hW w0 B w ι a.eval hR (hC H ι hR) (fun y _ => hE.eval y) (fun _ => rfl)
    refine wp_of_grow hg fun v w' ⟨ι', hR', hk, hv⟩ => ?_
    exact hK _ H' _ w' hK' ⟨by rw [put_defers]; exact hd, by rw [put_size]; exact hn, ι', hR', hE.put hk hv⟩
  · rename_i f ps hck
    obtain ⟨r, hr, h⟩ := h
    have hcg : ∃ as, cargs env o = some (f, as) ∧ AV.toP.toPL as = some ps := by
      unfold ckOf at hck
      split at hck
      · split at hck <;> cases hck
      · split at hck
        · rename_i f' as e
          split at hck
          · rename_i ps' e2; cases hck; exact ⟨as, e, e2⟩
          · split at hck <;> cases hck
        · cases hck
    obtain ⟨as, hca, hto⟩ := hcg
    obtain ⟨vs, hl, hrep, hrun⟩ := cargs_run (P := P) hca hE
    have hpl := toPL_get as ps hto
    refine ret_call hr (hC H ι hR).now hrun (B' := Rd B ι H) (by rw [hpl.1]; exact hl) (fun j p v hp hv => ?_) (fun hpn v w' hg hv => ?_) (fun ch w' hpn hg => ?_)
    · have hj : j < as.length := by have := (List.getElem?_eq_some_iff.1 hp).1; omega
      obtain ⟨p', hp', hap⟩ := hpl.2 j as[j] (List.getElem?_eq_getElem hj)
      rw [hp'] at hp; cases hp
      exact (hrep j _ v (List.getElem?_eq_getElem hj) hv).toP _ hap
    · rw [hpn] at h
      refine hK _ H _ w' h ⟨by rw [put_defers]; exact hd, by rw [put_size]; exact hn, ι, hR.grow hg, ?_⟩
      refine hE.put (sc := none) (Keeps.gr hg) (.p _ _ (hv.keep (Nat.le_refl _) fun b hb hlt => ⟨?_, rfl⟩))
      rcases hb with hb | hb
      · exact hb
      · exact ⟨hR.fut b hb, fun hown => by have := hR.lt hown; omega⟩
    · rw [hpn] at h
      refine ⟨env, H, h, hd, hn, ι, hR.grow hg, ⟨hE.len, fun t x v hx hv => (hE.at_ t x v hx hv).keep0 (Keeps.gr hg)⟩⟩
  · rename_i f as hck
    have hca : cargs env o = some (f, as) := by
      unfold ckOf at hck
      split at hck
      · split at hck <;> cases hck
      · split at hck
        · rename_i f' as' e
          split at hck
          · cases hck
          · split at hck
            · cases hck; exact e
            · cases hck
        · cases hck
    obtain ⟨vs, hl, hrep, hrun⟩ := cargs_run (P := P) hca hE
    have hre := hR.regrow (B' := fun _ => True) (Gr.refl _) (fun _ _ _ => trivial) (fun _ _ => trivial)
    obtain ⟨ps, ⟨r, hr, h⟩, hpl, hps⟩ := frz_sound.frzL_sound hre.1 (fun _ _ => trivial) as vs _ hl (fun j x v hx hv => (hrep j x v hx hv).keep0 hre.2) h
    refine ret_call hr (hC H ι hR).now hrun (B' := fun _ => True) (by omega) hps (fun hpn v w' hg hv => ?_) (fun ch w' hpn hg => ?_)
    · rw [hpn] at h
      simp only at h
      split at h
      · rename_i hfl
        refine hK _ H _ w' h ⟨by rw [put_defers]; exact hd, by rw [put_size]; exact hn, ι, hR.grow hg, ?_⟩
        exact hE.put (sc := none) (Keeps.gr hg) (.p _ _ (hv.free hfl))
      · cases h
    · rw [hpn] at h
      refine ⟨env, H, h, hd, hn, ι, hR.grow hg, ⟨hE.len, fun t x v hx hv => (hE.at_ t x v hx hv).keep0 (Keeps.gr hg)⟩⟩
  · rename_i f hck
    obtain ⟨env2, H2, hw, σ, as, Hc, r, Hc', hr, hc, hb, hp, k⟩ := h
    obtain ⟨ι2, hR2, hE2⟩ := hw w0 B w ι a.tmps hB0 hR hE
    obtain ⟨vs, hl, hrep, hrun⟩ := cargs_run (P := P) (a := a) hc hE2
    unfold mokB at hb
    simp only [Bool.and_eq_true] at hb
    obtain ⟨⟨⟨hb1, hb2⟩, hb3⟩, hb4⟩ := hb
    rw [renL_len] at hl
    have hm := mcall_sound hR2 (hC H2 ι2 hR2) hr hb1 (Nat.eq_of_beq_eq_true hb2) hp hb3 hb4 hl fun j x v hx hv => hrep j _ v (by rw [renL_get, hx]; rfl) hv
    have hput : ∀ w' ι' , Keeps (some (lentP σ H2 Hc')) w ι2 (Rd B ι2 H2) w' ι' (Rd B ι' (backH σ H2 Hc')) → RepE w' ι' (Rd B ι' (backH σ H2 Hc')) (scrubE (some (lentP σ H2 Hc')) env2) a.tmps := fun w' ι' hk => by
      have := hE2.put (a := a) (d := none) hk (.junk undef)
      exact this
    refine calls_upon (hrun.trans (hr.1 _ _)) hm (fun v w' ⟨ι', hR', hk, he⟩ => ?_) (fun ch w' ⟨ι', hR', hk, he⟩ => ?_) fun w' ⟨ι', hR', hk, he⟩ => ?_
    · rcases endsA_pan he with ⟨ch, _, e⟩ | ⟨h1, v', e, h2⟩
      · cases e
      · cases e
        rw [panOf_ren] at h1
        rw [h1] at k
        exact hK _ _ _ w' k ⟨by rw [put_defers]; exact hd, by rw [put_size]; exact hn, ι', hR', hE2.put hk h2⟩
    · rcases endsA_pan he with ⟨ch', h1, e⟩ | ⟨h1, v', e, h2⟩
      · cases e
        rw [panOf_ren] at h1
        rw [h1] at k
        exact ⟨_, _, k, hd, hn, ι', hR', hput w' ι' hk⟩
      · cases e
    · rcases endsA_pan he with ⟨ch', h1, e⟩ | ⟨h1, v', e, h2⟩ <;> cases e
  · rename_i pv hck
    have hx : ∃ x t v, o.op = .panic x ∧ aev env x = .p (.v (.iface t v)) ∧ pv = .iface t v := by
      unfold ckOf at hck
      split at hck
      · rename_i x ho
        split at hck
        · rename_i t v e; cases hck; exact ⟨x, t, v, ho, e, rfl⟩
        · cases hck
      · split at hck
        · split at hck
          · cases hck
          · split at hck <;> cases hck
        · cases hck
    obtain ⟨x, t, v, ho, e, rfl⟩ := hx
    have hv := hE.eval x
    rw [e] at hv
    have hrun : (execOp a.eval o).run P w = .halt (.panic (.iface t v)) w := by
      simp [execOp, ho, rep_v hv, Instr.panic, goPanic, Sem.run]
    unfold Oper.wp
    rw [hrun, Oper.upon_panic]
    exact ⟨env, H, h, hd, hn, ι, hR, hE⟩

theorem aops_sound (hT : TOk P T) (hG0 : ∀ w, GrX w0 w → G w) (hB0 : ∀ b, w0.own b → B b) {all : List Oper} {Q : Exit → List AV → AH → Prop} : ∀ (os : List Oper) (env : List AV) (H : AH) (a : Act) (w : World), aops P G stdE T all Q os env H → St w0 B nt env H a w → wpList P all.toArray (Post w0 B nt Q) os a w
  | [], env, H, a, w, h, hS => ⟨env, H, h, hS⟩
  | o :: os, env, H, a, w, h, hS => by
    have run : acallX P G stdE T o env H (fun env' H' => aops P G stdE T all Q os env' H') Q → o.wp P a w (wpList P all.toArray (Post w0 B nt Q) os) (Post w0 B nt Q) := fun h =>
      acallX_sound hT hG0 hB0 h hS fun env' H' a' w' hK hS' => aops_sound hT hG0 hB0 os env' H' a' w' hK hS'
    obtain ⟨hd, hn, ι, hR, hE⟩ := hS
    unfold aops at h
    unfold wpList
    split at h
    · rename_i hg
      rw [if_pos (by simp [Region.wanted, hg])]
      exact .inl (run h)
    · rename_i j want hg
      split at h
      · rename_i b hb
        have hy := gval_yield hb hE
        rw [yielded_eval]
        split at h
        · rename_i ht
          rw [if_pos (by simp [Region.wanted, hg, hy, gtest_true ht])]
          exact .inl (run h)
        · rename_i ht
          rw [if_neg (by simpa [Region.wanted, hg, hy] using gtest_false ht)]
          refine aops_sound hT hG0 hB0 os _ H _ w h ⟨by rw [put_defers]; exact hd, by rw [put_size]; exact hn, ι, hR, ?_⟩
          exact hE.put (sc := none) (Keeps.gr (Gr.refl _)) (.p _ _ (.v _))
      · cases h
end
end Go.Proofs.YtlffpgjkhehdmaaDoor
