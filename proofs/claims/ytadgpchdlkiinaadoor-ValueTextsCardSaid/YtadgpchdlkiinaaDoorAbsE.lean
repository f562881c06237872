/- Own work: a region that draws its order, over values as data: read and reckoned in the order of the text, whatever the order; then its tail. -/
import Derived.Test.YtadgpchdlkiinaaDoorAbsC
namespace Go.Proofs.YtadgpchdlkiinaaDoor
open Go.RowKit

/-- a block that is there becomes the walk's own -/
theorem Rel.adopt {w0 : Base} {B B' : Nat → Prop} {w : World} {ι : Pl} {H : AH} (h : Rel w0 B w ι H) {c : Nat} {arr : Array Value} {t : TypeId} (hc : w.heap[c]? = some (.cells arr t (0, 0))) (hge : w0.own c) (hno : ¬ Owned ι H c) (hnB : ¬ B c)
    (hB : ∀ b, B b → B' b) (h1 : ∀ v ∈ arr.toList, v.oneCell' = true) :
    Rel w0 B' w (ι ++ [(some c, 0, 0)]) (H ++ [some (.box (arr.toList.map fun x => .p (.v x)) t none)]) ∧ Keeps none w ι (Rd B ι H) w (ι ++ [(some c, 0, 0)]) (Rd B' (ι ++ [(some c, 0, 0)]) (H ++ [some (.box (arr.toList.map fun x => .p (.v x)) t none)])) := by
  have hown : ∀ d, Owned (ι ++ [(some c, 0, 0)]) (H ++ [some (.box (arr.toList.map fun x => .p (.v x)) t none)]) d → Owned ι H d ∨ d = c := by
    rintro d ⟨k, b', s', h1, h2⟩
    rcases get_snoc h1 with ⟨hl, h1⟩ | ⟨rfl, e⟩
    · rcases get_snoc h2 with ⟨hl', h2⟩ | ⟨e, _⟩
      · exact .inl ⟨k, b', s', h1, h2⟩
      · rw [h.len] at e; omega
    · rw [← h.len] at h2
      rw [get_snoc_new] at h2
      cases h2; exact .inr rfl
  have hk : Keeps none w ι (Rd B ι H) w (ι ++ [(some c, 0, 0)]) (Rd B' (ι ++ [(some c, 0, 0)]) (H ++ [some (.box (arr.toList.map fun x => .p (.v x)) t none)])) :=
    ⟨Nat.le_refl _, fun d hd hlt => ⟨⟨hB d hd.1, fun ho => by
      rcases hown d ho with ho | ho
      · exact hd.2 ho
      · subst ho; exact hnB hd.1⟩, rfl⟩, fun k c s _ hx => get_snoc_old hx⟩
  refine ⟨⟨h.gr, fun b hb => hB b (h.fut b hb), by simp [h.len], fun k b' d s' g1 g2 => ?_, fun k l b1 b2 d s1 s2 g1 g2 g3 g4 => ?_⟩, hk⟩
  · rcases get_snoc g1 with ⟨hl, g1⟩ | ⟨rfl, e⟩
    · rcases get_snoc g2 with ⟨hl', g2⟩ | ⟨e, _⟩
      · exact ⟨(h.blk k b' d s' g1 g2).1, (h.blk k b' d s' g1 g2).2.keep0 hk fun c' e => rfl⟩
      · rw [h.len] at e; omega
    · rw [← h.len, get_snoc_new] at g2
      cases g2
      cases e
      refine ⟨fun c' e => by cases e; exact hge, ⟨rfl, fun n e => by cases e⟩, c, arr, rfl, hc, by simp, fun j a ha => ?_⟩
      rw [List.getElem?_map] at ha
      cases hz : arr.toList[j]? with
      | none => rw [hz] at ha; cases ha
      | some z =>
        rw [hz] at ha; cases ha
        exact ⟨z, by simpa using hz, h1 z (List.mem_of_getElem? hz), .p _ _ (.v _)⟩
  · rcases get_snoc g1 with ⟨hl, g1⟩ | ⟨rfl, e⟩
    · rcases get_snoc g3 with ⟨_, g3⟩ | ⟨e, _⟩
      · rcases get_snoc g2 with ⟨hl2, g2⟩ | ⟨rfl, e⟩
        · rcases get_snoc g4 with ⟨_, g4⟩ | ⟨e, _⟩
          · exact h.inj k l b1 b2 d s1 s2 g1 g2 g3 g4
          · rw [h.len] at e; omega
        · rw [← h.len, get_snoc_new] at g4
          cases g4
          exact absurd ⟨k, b1, s1, g1, g3⟩ hno
      · rw [h.len] at e; omega
    · rw [← h.len, get_snoc_new] at g3
      cases g3
      rcases get_snoc g2 with ⟨hl2, g2⟩ | ⟨rfl, e⟩
      · rcases get_snoc g4 with ⟨_, g4⟩ | ⟨e, _⟩
        · exact absurd ⟨l, b2, s2, g2, g4⟩ hno
        · rw [h.len] at e; omega
      · rfl

def isAl (o : Oper) : Bool := match o.op with
  | .alloc _ => true
  | _ => false

/-- the first n operations of a region that draws, in the order of the text -/
def adraw (P : Program) (G : World → Prop) (E : SO) (T : TT) (all : List Oper) (H : AH) : Nat → List Oper → List AV → (List AV → Prop) → Prop
  | 0, _, env, K => K env
  | _ + 1, [], env, K => K env
  | n + 1, o :: os, env, K => if isAl o = true then adraw P G E T all H n os (aput env o.dst .junk) K else (match o.guard with
    | none => aq P G E T o env H fun a => adraw P G E T all H n os (aput env o.dst a) K
    | some (j, want) => (match gval all env j with
      | some b => (match gtest want b with
        | true => aq P G E T o env H fun a => adraw P G E T all H n os (aput env o.dst a) K
        | false => adraw P G E T all H n os (aput env o.dst (.p (.v undef))) K)
      | none => False))
/-- the variables that they make -/
def aallocs (T : TT) : Nat → List Oper → List AV → AH → (List AV → AH → Prop) → Prop
  | 0, _, env, H, K => K env H
  | _ + 1, [], env, H, K => K env H
  | n + 1, o :: os, env, H, K => (match o.op with
    | .alloc t => (match T t, o.dst with
      | some i, some d => if i.zero.cells.toList.all (·.oneCell') = true then aallocs T n os (env.set d (.own H.length 0)) (H ++ [some (.box (i.zero.cells.toList.map fun x => .p (.v x)) t none)]) K else False
      | _, _ => False)
    | _ => aallocs T n os env H K)

/-- none of the first k operations writes the slot -/
def freeK (ops : List Oper) (k : Nat) (t : Tmp) : Bool := (List.range k).all fun j => (ops[j]?).bind (·.dst) != some t
theorem freeK_of {ops : List Oper} {k : Nat} {t : Tmp} (h : freeK ops k t = true) {j : Nat} (hj : j < k) : (ops[j]?).bind (·.dst) ≠ some t := by
  unfold freeK at h
  simpa using List.all_eq_true.1 h j (List.mem_range.2 hj)
def opOk (ops : List Oper) (k i : Nat) (o : Oper) : Bool :=
  (o.op.operands.all fun x => match x with
    | .tmp t => freeK ops k t || (depsOf ops.toArray i).any fun d => (ops[d]?).bind (·.dst) == some t
    | _ => true) &&
  (match o.guard with
    | none => true
    | some (j, _) => (depsOf ops.toArray i).contains j && ((ops[j]?).bind (·.dst)).isSome) &&
  (!isAl o || (o.guard.isNone && o.dst.isSome))
def regionOk (nt : Nat) (ops : List Oper) (k : Nat) : Bool :=
  rgB ops.toArray k 8 && decide (k ≤ ops.length) && (ops.all fun o => match o.dst with
    | some t => decide (t < nt)
    | none => true) && (List.range k).all fun i => match ops[i]? with
    | some o => opOk ops k i o
    | none => true

/-- the frame before the q-th operation from the m-th on -/
def envFrom (all : List Oper) (avs : Nat → AV) (m : Nat) : Nat → List AV → List AV
  | 0, env => env
  | q + 1, env => aput (envFrom all avs m q env) ((all[m + q]?).bind (·.dst)) (avs (m + q))
theorem envFrom_succ (all : List Oper) (avs : Nat → AV) (m : Nat) : ∀ (q : Nat) (env : List AV), envFrom all avs m (q + 1) env = envFrom all avs (m + 1) q (aput env ((all[m]?).bind (·.dst)) (avs m))
  | 0, env => rfl
  | q + 1, env => by
    rw [envFrom, envFrom_succ all avs m q env, envFrom]
    rw [show m + (q + 1) = m + 1 + q by omega]
theorem envFrom_congr {all : List Oper} {avs avs' : Nat → AV} {m : Nat} : ∀ (q : Nat) (env : List AV), (∀ i, m ≤ i → i < m + q → avs i = avs' i) → envFrom all avs m q env = envFrom all avs' m q env
  | 0, _, _ => rfl
  | q + 1, env, h => by
    rw [envFrom, envFrom, envFrom_congr q env fun i h1 h2 => h i h1 (by omega), h (m + q) (by omega) (by omega)]
theorem envFrom_len (all : List Oper) (avs : Nat → AV) (m : Nat) : ∀ (q : Nat) (env : List AV), (envFrom all avs m q env).length = env.length
  | 0, _ => rfl
  | q + 1, env => by
    rw [envFrom]
    have := envFrom_len all avs m q env
    cases (all[m + q]?).bind (·.dst) <;> simp [aput, this]
theorem envFrom_free {all : List Oper} {avs : Nat → AV} {t : Nat} : ∀ (q : Nat) (env : List AV), (∀ i, i < q → (all[i]?).bind (·.dst) ≠ some t) → (envFrom all avs 0 q env)[t]? = env[t]?
  | 0, _, _ => rfl
  | q + 1, env, h => by
    rw [envFrom]
    have ih := envFrom_free (avs := avs) q env fun i hi => h i (by omega)
    have h0 := h q (by omega)
    rw [Nat.zero_add]
    cases hd : (all[q]?).bind (·.dst) with
    | none => exact ih
    | some s =>
      simp only [aput]
      rw [List.getElem?_set_ne (fun e => h0 (by rw [hd, e]))]; exact ih
theorem envFrom_at {all : List Oper} {avs : Nat → AV} {t d : Nat} (hd : (all[d]?).bind (·.dst) = some t) : ∀ (q : Nat) (env : List AV), d < q → t < env.length → (∀ i, i < q → i ≠ d → (all[i]?).bind (·.dst) ≠ some t) → (envFrom all avs 0 q env)[t]? = some (avs d)
  | 0, _, h, _, _ => by omega
  | q + 1, env, h, hl, hu => by
    rw [envFrom, Nat.zero_add]
    by_cases e : d = q
    · subst e
      rw [hd]
      simp only [aput]
      rw [List.getElem?_set_self (by rw [envFrom_len]; exact hl)]
    · have ih := envFrom_at (avs := avs) hd q env (by omega) hl fun i hi => hu i (by omega)
      have h0 := hu q (by omega) (fun e' => e e'.symm)
      cases hq : (all[q]?).bind (·.dst) with
      | none => exact ih
      | some s =>
        simp only [aput]
        rw [List.getElem?_set_ne (fun e' => h0 (by rw [hq, e']))]; exact ih

section
variable {P : Program} {G : World → Prop} {T : TT}

def OpF (P : Program) (G : World → Prop) (all : List Oper) (H : AH) (o : Oper) (env : List AV) (x : AV) : Prop :=
  (isAl o = true ∧ x = .junk) ∨ (isAl o = false ∧ ((o.guard = none ∧ QS P G o env H x) ∨ ∃ j want b, o.guard = some (j, want) ∧ gval all env j = some b ∧ ((b = some want ∧ QS P G o env H x) ∨ (b ≠ some want ∧ x = .p (.v undef)))))

theorem adraw_get (hT : TOk P T) {all : List Oper} {H : AH} : ∀ (n m : Nat) (env : List AV) (K : List AV → Prop), m + n ≤ all.length → adraw P G stdE T all H n (all.drop m) env K →
    ∃ avs : Nat → AV, K (envFrom all avs m n env) ∧ ∀ q o, q < n → all[m + q]? = some o → OpF P G all H o (envFrom all avs m q env) (avs (m + q))
  | 0, m, env, K, _, h => ⟨fun _ => .junk, h, fun q o hq _ => by omega⟩
  | n + 1, m, env, K, hle, h => by
    have hm : m < all.length := by omega
    rw [List.drop_eq_getElem_cons hm] at h
    have ho : all[m]? = some all[m] := List.getElem?_eq_getElem hm
    have go : ∀ x : AV, OpF P G all H all[m] env x → adraw P G stdE T all H n (all.drop (m + 1)) (aput env all[m].dst x) K → ∃ avs : Nat → AV, K (envFrom all avs m (n + 1) env) ∧ ∀ q o, q < n + 1 → all[m + q]? = some o → OpF P G all H o (envFrom all avs m q env) (avs (m + q)) := by
      intro x hx h
      obtain ⟨avs, hK, hF⟩ := adraw_get hT n (m + 1) _ K (by omega) h
      have hc : ∀ q env, envFrom all (fun i => if i = m then x else avs i) (m + 1) q env = envFrom all avs (m + 1) q env := fun q env => envFrom_congr q env fun i h1 _ => by rw [if_neg (by omega)]
      refine ⟨fun i => if i = m then x else avs i, ?_, fun q o hq hqo => ?_⟩
      · rw [envFrom_succ, hc, ho]
        simpa using hK
      · cases q with
        | zero =>
          rw [Nat.add_zero, ho] at hqo
          cases hqo
          simpa [envFrom] using hx
        | succ q =>
          have := hF q o (by omega) (by rw [← hqo]; congr 1; omega)
          rw [envFrom_succ, hc, ho]
          simp only [Option.bind_some, if_true]
          rw [if_neg (by omega)]
          rw [show m + (q + 1) = m + 1 + q by omega]
          exact this
    unfold adraw at h
    split at h
    · rename_i hal
      exact go .junk (.inl ⟨hal, rfl⟩) h
    · rename_i hal
      have hal' : isAl all[m] = false := by simpa using hal
      split at h
      · rename_i hg
        obtain ⟨x, hK, hq⟩ := aq_sound hT h
        exact go x (.inr ⟨hal', .inl ⟨hg, hq⟩⟩) hK
      · rename_i j want hg
        split at h
        · rename_i b hb
          split at h
          · rename_i ht
            obtain ⟨x, hK, hq⟩ := aq_sound hT h
            exact go x (.inr ⟨hal', .inr ⟨j, want, b, hg, hb, .inl ⟨gtest_true ht, hq⟩⟩⟩) hK
          · rename_i ht
            exact go _ (.inr ⟨hal', .inr ⟨j, want, b, hg, hb, .inr ⟨gtest_false ht, rfl⟩⟩⟩) h
        · cases h
end
end Go.Proofs.YtadgpchdlkiinaaDoor
