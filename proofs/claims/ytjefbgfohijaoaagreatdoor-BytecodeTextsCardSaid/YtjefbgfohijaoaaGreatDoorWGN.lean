/- Own work: a region that draws its order, in which memory of the walk's own is changed by a chain of operations; the others only read, whenever they come up. -/
import Derived.Test.YtjefbgfohijaoaaGreatDoorWGB
namespace Go.Proofs.YtjefbgfohijaoaaGreatDoor
open Go.RowKit
inductive AMem (P : Program) (G : World -> Prop) (f : FuncId) (ls : List AV) (H : AH) (K : AV -> AH -> Option (Nat -> Bool) -> Prop) : Prop
 | mk (σ : List Nat) (cs : List AV) (Hc : AH) (r : AV) (Hc' : AH) (h : RetM P G f cs Hc r Hc') (hc : ls = AV.ren.renL (renK σ H.length) cs) (hb : mokB σ H Hc cs = true)
  (hp : σ.map (fun l => stripO (H.getD l none)) = Hc.map (renO (renK σ H.length) none)) (hr : r.panOf = none) (k : K (r.ren (renK σ H.length)) (backH σ H Hc') (some (lentP σ H Hc')))
def amem (P : Program) (G : World -> Prop) (E : SO) (T : TT) (o : Oper) (env : List AV) (H : AH) (K : AV -> AH -> Option (Nat -> Bool) -> Prop) : Prop := match o.op with
 | .call c => (match c.callee with
  | .value (.func f) => AMem P G f (c.args.toList.map (aev env)) H K
  | _ => astep P G E T o env H K)
 | _ => astep P G E T o env H K
def lookV (i : Nat) : List (Nat × AV) -> AV
 | [] => .junk
 | (j, a) :: r => (match Nat.beq j i with
  | true => a
  | false => lookV i r)
def inM (i : Nat) : List Nat -> Bool
 | [] => false
 | j :: r => (match Nat.beq j i with
  | true => true
  | false => inM i r)
theorem inM_get {i : Nat} : ∀ {M : List Nat}, inM i M = true -> ∃ j : Nat, M[j]? = some i
 | [], h => by cases h
 | m :: M, h => by
  unfold inM at h
  split at h
  ·rename_i e
   exact ⟨0, by rw [Nat.eq_of_beq_eq_true e]; rfl⟩
  ·obtain ⟨j, hj⟩ := inM_get h
   exact ⟨j + 1, hj⟩
theorem inM_of {i : Nat} : ∀ {M : List Nat} {j : Nat}, M[j]? = some i -> inM i M = true
 | [], j, h => by simp at h
 | m :: M, 0, h => by
  simp at h
  subst h
  unfold inM
  simp
 | m :: M, j + 1, h => by
  unfold inM
  split
  ·rfl
  ·exact inM_of (M := M) (j := j) (by simpa using h)
def isBS (o : Oper) : Bool := match o.op with
 | .buildSlice _ _ _ => true
 | _ => false
def aquiet (P : Program) (G : World -> Prop) (E : SO) (T : TT) (M : List Nat) (lo : Nat -> Nat) (p : Nat) (mv : List (Nat × AV)) (H : AH) : Nat -> Nat -> List Oper -> List AV -> List (Option AV) -> (List AV -> List (Option AV) -> Prop) -> Prop
 | 0, _, _, env, vs, K => K env vs
 | _ + 1, _, [], env, vs, K => K env vs
 | n + 1, i, o :: os, env, vs, K => (match Nat.ble (lo i) p with
  | false => aquiet P G E T M lo p mv H n (i + 1) os (aput env o.dst .junk) (vs ++ [none]) K
  | true => (match inM i M with
   | true => aquiet P G E T M lo p mv H n (i + 1) os (aput env o.dst (lookV i mv)) (vs ++ [some (lookV i mv)]) K
   | false => (match isBS o with
    | true => abuildD T o env fun a => aquiet P G E T M lo p mv H n (i + 1) os (aput env o.dst a) (vs ++ [some a]) K
    | false => aq P G E T o env H fun a => aquiet P G E T M lo p mv H n (i + 1) os (aput env o.dst a) (vs ++ [some a]) K)))
def compat : List (Option AV) -> List (Option AV) -> Prop
 | [], _ => True
 | none :: r, _ :: s => compat r s
 | some a :: r, some b :: s => a = b /\ compat r s
 | _, _ => False
theorem compat_get : ∀ {r s : List (Option AV)} {i : Nat} {x : AV}, compat r s -> r[i]? = some (some x) -> s[i]? = some (some x)
 | [], _, i, x, _, h => by simp at h
 | none :: r, _ :: s, 0, x, _, h => by simp at h
 | none :: r, _ :: s, i + 1, x, hc, h => by simpa using compat_get (r := r) (s := s) hc (by simpa using h)
 | some a :: r, some b :: s, 0, x, hc, h => by
  simp at h
  subst h
  obtain ⟨rfl, _⟩ := hc
  rfl
 | some a :: r, some b :: s, i + 1, x, hc, h => by simpa using compat_get (r := r) (s := s) hc.2 (by simpa using h)
 | none :: r, [], _, _, hc, _ => hc.elim
 | some _ :: r, [], _, _, hc, _ => hc.elim
 | some _ :: r, none :: _, _, _, hc, _ => hc.elim
inductive Chk (ex vs : List (Option AV)) : Prop
 | mk (h : compat ex vs)
def mvS (sc : Option (Nat -> Bool)) (mv : List (Nat × AV)) : List (Nat × AV) := mv.map fun x => (x.1, scrubO sc x.2)
def exS (sc : Option (Nat -> Bool)) (m : Nat) (a : AV) (vs : List (Option AV)) : List (Option AV) := (vs.map fun x => x.map (scrubO sc)).set m (some a)
def aregM (P : Program) (G : World -> Prop) (E : SO) (T : TT) (all : List Oper) (M : List Nat) (lo : Nat -> Nat) (k : Nat) : List Nat -> Nat -> List (Nat × AV) -> List (Option AV) -> List AV -> AH -> (List AV -> AH -> Prop) -> Prop
 | [], p, mv, ex, e0, H, K => aquiet P G E T M lo p mv H k 0 all e0 [] fun env vs => Chk ex vs /\ K env H
 | m :: Ms, p, mv, ex, e0, H, K => aquiet P G E T M lo p mv H k 0 all e0 [] fun env vs => Chk ex vs /\ (match all[m]? with
  | some o => amem P G E T o env H fun a H' sc => aregM P G E T all M lo k Ms (p + 1) (mvS sc mv ++ [(m, a)]) (exS sc m a vs) (scrubE sc e0) H' K
  | none => False)
def opOkM (ops : List Oper) (k : Nat) (M : List Nat) (lo : Nat -> Nat) (i : Nat) (o : Oper) : Bool :=
 (o.op.operands.all fun x => match x with
  | .tmp t => freeK ops k t || (depsOf ops.toArray i).any fun d => (ops[d]?).bind (·.dst) == some t
  | _ => true) && o.guard.isNone && (inM i M || Nat.beq (lo i) 0 || (depsOf ops.toArray i).any fun d => Nat.ble (lo i) (lo d))
def chainOk (ops : List Oper) (k : Nat) (M : List Nat) (lo : Nat -> Nat) : Bool := (List.range M.length).all fun j => match M[j]? with
 | some m => Nat.blt m k && Nat.beq (lo m) (j + 1) && (match j with
  | 0 => true
  | j' + 1 => (match M[j']? with
   | some m' => (depsOf ops.toArray m).contains m'
   | none => false))
 | none => false
def regionOkM (nt : Nat) (ops : List Oper) (k : Nat) (M : List Nat) (lo : Nat -> Nat) : Bool :=
 rgB ops.toArray k 8 && decide (k <= ops.length) && (ops.all fun o => match o.dst with
  | some t => decide (t < nt)
  | none => true) && ((List.range k).all fun i => match ops[i]? with
  | some o => opOkM ops k M lo i o
  | none => true) && chainOk ops k M lo
theorem grow_mono {P : Program} {R R' : Value -> World -> Prop} {x : Result Next} (h : ∀ v w, R v w -> R' v w) (hx : growUpon P R x) : growUpon P R' x := by
 cases x with
 | ok n w =>
  cases n <;> simp only [growUpon] at hx ⊢
  ·exact h _ _ hx
  ·exact h _ _ hx
  ·exact Calls.mono hx fun e w' ⟨v, he, hr⟩ => ⟨v, he, h _ _ hr⟩
 | halt y w => exact hx
section
variable {P : Program} {G : World -> Prop} {T : TT}
theorem amem_sound (hT : TOk P T) {o : Oper} {env : List AV} {H : AH} {K : AV -> AH -> Option (Nat -> Bool) -> Prop} (h : amem P G stdE T o env H K) : ∃ a H' sc, K a H' sc /\ WS P G o env H a H' sc := by
 unfold amem at h
 split at h
 ·rename_i c ho
  split at h
  ·rename_i f hc
   obtain ⟨σ, cs, Hc, r, Hc', hr, hcs, hb, hp, hpan, k⟩ := h
   refine ⟨_, _, _, k, fun w0 B w ι ρ hR hC hρ hf => ?_⟩
   have hops : ∀ x, x ∈ c.args -> x ∈ o.op.operands := fun x hx => by rw [ho]; simp [Op.operands, Call.operands, hc, hx]
   have hexec : (execOp ρ o).run P w = .ok (.enter f (c.args.map ρ)) w := by
    simp only [execOp, ho, resolve, hc, hf, Deferred.ofValue, Sem.run_bind, Sem.run_pure, Result.andThen_ok, invoke]
    have := hr.1 (#[] ++ c.args.map ρ ++ #[]) w
    simpa using this
   rw [hexec]
   show Calls P f (c.args.map ρ) w _
   unfold mokB at hb
   simp only [Bool.and_eq_true] at hb
   obtain ⟨⟨⟨hb1, hb2⟩, hb3⟩, hb4⟩ := hb
   have hl : cs.length = (c.args.toList.map ρ).length := by
    have := congrArg List.length hcs
    rw [renL_len] at this
    simpa using this.symm
   have hm := mcall_sound hR hC hr hb1 (Nat.eq_of_beq_eq_true hb2) hp hb3 hb4 hl fun j x v hx hv => by
    rw [List.getElem?_map] at hv
    cases hy : c.args.toList[j]? with
    | none => rw [hy] at hv; cases hv
    | some y =>
     rw [hy] at hv; cases hv
     have h1 : (c.args.toList.map (aev env))[j]? = some (aev env y) := by rw [List.getElem?_map, hy]; rfl
     rw [hcs, renL_get, hx] at h1
     have h2 := Option.some.inj h1
     rw [h2]
     exact hρ y (hops y (by have := List.mem_of_getElem? hy; simpa using this))
   have e : (c.args.toList.map ρ).toArray = c.args.map ρ := by
    apply Array.toList_inj.1; simp
   rw [e] at hm
   refine hm.mono fun e w' ⟨ι', h1, h2, h3⟩ => ?_
   rcases endsA_pan h3 with ⟨ch, h4, _⟩ | ⟨_, v, h4, h5⟩
   ·rw [panOf_ren, hpan] at h4
    cases h4
   ·exact ⟨v, h4, ι', h1, h2, h5⟩
  ·exact astep_sound hT h
 ·exact astep_sound hT h
def mkvs (lo : Nat -> Nat) (p : Nat) (avs : Nat -> AV) : Nat -> Nat -> List (Option AV)
 | _, 0 => []
 | m, n + 1 => (match Nat.ble (lo m) p with
  | true => some (avs m)
  | false => none) :: mkvs lo p avs (m + 1) n
theorem mkvs_get {lo : Nat -> Nat} {p : Nat} {avs : Nat -> AV} : ∀ (m n q : Nat), q < n -> lo (m + q) <= p -> (mkvs lo p avs m n)[q]? = some (some (avs (m + q)))
 | _, 0, _, h, _ => by omega
 | m, n + 1, 0, _, hl => by
  unfold mkvs
  rw [Nat.ble_eq_true_of_le (by simpa using hl)]
  simp
 | m, n + 1, q + 1, h, hl => by
  unfold mkvs
  rw [List.getElem?_cons_succ, mkvs_get (m + 1) n q (by omega) (by rw [show m + 1 + q = m + (q + 1) by omega]; exact hl), show m + 1 + q = m + (q + 1) by omega]
theorem mkvs_some {lo : Nat -> Nat} {p : Nat} {avs : Nat -> AV} : ∀ (m n q : Nat) (x : AV), (mkvs lo p avs m n)[q]? = some (some x) -> x = avs (m + q)
 | _, 0, _, _, h => by simp [mkvs] at h
 | m, n + 1, 0, x, h => by
  unfold mkvs at h
  split at h
  ·simp at h; exact h.symm
  ·simp at h
 | m, n + 1, q + 1, x, h => by
  unfold mkvs at h
  rw [List.getElem?_cons_succ] at h
  rw [mkvs_some (m + 1) n q x h, show m + 1 + q = m + (q + 1) by omega]
theorem mkvs_len {lo : Nat -> Nat} {p : Nat} {avs : Nat -> AV} : ∀ (m n : Nat), (mkvs lo p avs m n).length = n
 | _, 0 => rfl
 | m, n + 1 => by simp [mkvs, mkvs_len (m + 1) n]
theorem mkvs_congr {lo : Nat -> Nat} {p : Nat} {avs avs' : Nat -> AV} : ∀ (m n : Nat), (∀ i, m <= i -> avs i = avs' i) -> mkvs lo p avs m n = mkvs lo p avs' m n
 | _, 0, _ => rfl
 | m, n + 1, h => by
  unfold mkvs
  rw [h m (Nat.le_refl _), mkvs_congr (m + 1) n fun i hi => h i (by omega)]
theorem aquiet_get (hT : TOk P T) {all : List Oper} {M : List Nat} {lo : Nat -> Nat} {p : Nat} {mv : List (Nat × AV)} {H : AH} (hg : ∀ o ∈ all, True) : ∀ (n m : Nat) (env : List AV) (vs : List (Option AV)) (K : List AV -> List (Option AV) -> Prop), m + n <= all.length →
  aquiet P G stdE T M lo p mv H n m (all.drop m) env vs K →
  ∃ avs : Nat -> AV, K (envFrom all avs m n env) (vs ++ mkvs lo p avs m n) /\ ∀ q o, q < n -> all[m + q]? = some o -> lo (m + q) <= p -> inM (m + q) M = false -> QS P G o (envFrom all avs m q env) H (avs (m + q))
 | 0, m, env, vs, K, _, h => ⟨fun _ => .junk, by unfold mkvs; rw [List.append_nil]; exact h, fun q o hq => by omega⟩
 | n + 1, m, env, vs, K, hle, h => by
  have hm : m < all.length := by omega
  rw [List.drop_eq_getElem_cons hm] at h
  have ho : all[m]? = some all[m] := List.getElem?_eq_getElem hm
  have go : ∀ (x : AV) (y : Option AV), (y = match Nat.ble (lo m) p with
    | true => some x
    | false => none) -> (lo m <= p -> inM m M = false -> QS P G all[m] env H x) -> aquiet P G stdE T M lo p mv H n (m + 1) (all.drop (m + 1)) (aput env all[m].dst x) (vs ++ [y]) K →
    ∃ avs : Nat -> AV, K (envFrom all avs m (n + 1) env) (vs ++ mkvs lo p avs m (n + 1)) /\ ∀ q o, q < n + 1 -> all[m + q]? = some o -> lo (m + q) <= p -> inM (m + q) M = false -> QS P G o (envFrom all avs m q env) H (avs (m + q)) := by
   intro x y hy hx h
   obtain ⟨avs, hK, hF⟩ := aquiet_get hT hg n (m + 1) _ _ K (by omega) h
   have hc : ∀ q env, envFrom all (fun i => if i = m then x else avs i) (m + 1) q env = envFrom all avs (m + 1) q env := fun q env => envFrom_congr q env fun i h1 _ => by rw [if_neg (by omega)]
   refine ⟨fun i => if i = m then x else avs i, ?_, fun q o hq hqo hlo hin => ?_⟩
   ·rw [envFrom_succ, hc, ho]
    unfold mkvs
    rw [mkvs_congr (avs' := avs) (m + 1) n fun i hi => by rw [if_neg (by omega)]]
    simp only [if_true, <- hy]
    rw [List.append_assoc] at hK
    simpa using hK
   ·cases q with
    | zero =>
     rw [Nat.add_zero, ho] at hqo
     cases hqo
     simpa [envFrom] using hx (by simpa using hlo) (by simpa using hin)
    | succ q =>
     have := hF q o (by omega) (by rw [<-hqo]; congr 1; omega) (by rw [show m + 1 + q = m + (q + 1) by omega]; exact hlo) (by rw [show m + 1 + q = m + (q + 1) by omega]; exact hin)
     rw [envFrom_succ, hc, ho]
     simp only [Option.bind_some, if_true]
     rw [if_neg (by omega)]
     rw [show m + (q + 1) = m + 1 + q by omega]
     exact this
  unfold aquiet at h
  cases hb : Nat.ble (lo m) p with
  | false =>
   rw [hb] at h
   exact go .junk none (by rw [hb]) (fun hl => by rw [Nat.ble_eq_true_of_le hl] at hb; cases hb) h
  | true =>
   rw [hb] at h
   simp only at h
   cases hi : inM m M with
   | true =>
    rw [hi] at h
    exact go _ _ (by rw [hb]) (fun _ hh => by rw [hi] at hh; cases hh) h
   | false =>
    rw [hi] at h
    simp only at h
    split at h
    ·obtain ⟨_, x, hK, hq⟩ := abuildD_sound (P := P) (G := G) (H := H) hT h
     exact go x _ (by rw [hb]) (fun _ _ => hq) hK
    ·obtain ⟨x, hK, hq⟩ := aq_sound hT h
     exact go x _ (by rw [hb]) (fun _ _ => hq) hK
theorem aregM_get (hT : TOk P T) {all : List Oper} {M : List Nat} {lo : Nat -> Nat} {k : Nat} (hk : k <= all.length) : ∀ (Ms : List Nat) (p : Nat) (mv : List (Nat × AV)) (ex : List (Option AV)) (e0 : List AV) (H : AH) (K : List AV -> AH -> Prop),
  (∀ (j m : Nat), Ms[j]? = some m -> lo m = p + j + 1 /\ m < k) -> aregM P G stdE T all M lo k Ms p mv ex e0 H K →
  ∃ (V : Nat -> Nat -> AV) (Hs : Nat -> AH) (es : Nat -> List AV) (sc : Nat -> Option (Nat -> Bool)), Hs p = H /\ es p = e0 /\ (∀ i x, ex[i]? = some (some x) -> V p i = x) ∧
   (∀ r, p <= r -> r <= p + Ms.length -> ∀ i o, i < k -> all[i]? = some o -> lo i <= r -> inM i M = false -> QS P G o (envFrom all (V r) 0 i (es r)) (Hs r) (V r i)) ∧
   (∀ r, p <= r -> ∀ m o, Ms[r - p]? = some m -> all[m]? = some o -> WS P G o (envFrom all (V r) 0 k (es r)) (Hs r) (V (r + 1) m) (Hs (r + 1)) (sc r)) ∧
   (∀ r, p <= r -> r < p + Ms.length -> es (r + 1) = scrubE (sc r) (es r) /\ ∀ i, i < k -> lo i <= r -> V (r + 1) i = scrubO (sc r) (V r i)) ∧
   K (envFrom all (V (p + Ms.length)) 0 k (es (p + Ms.length))) (Hs (p + Ms.length))
 | [], p, mv, ex, e0, H, K, _, h => by
  unfold aregM at h
  obtain ⟨avs, ⟨⟨hch⟩, hK⟩, hF⟩ := aquiet_get (all := all) hT (fun _ _ => trivial) k 0 e0 [] _ (by omega) (by simpa using h)
  rw [List.nil_append] at hch
  refine ⟨fun _ => avs, fun _ => H, fun _ => e0, fun _ => none, rfl, rfl, fun i x hx => ?_, fun r h1 h2 i o hi ho hl hin => ?_, fun r _ m o hm => by simp at hm, fun r h1 h2 => by simp at h2; omega, hK⟩
  ·have := mkvs_some 0 k i x (compat_get hch hx)
   rw [Nat.zero_add] at this
   exact this.symm
  ·have er : r = p := by simp at h2; omega
   have := hF i o hi (by rw [Nat.zero_add]; exact ho) (by rw [Nat.zero_add]; omega) (by rw [Nat.zero_add]; exact hin)
   rw [Nat.zero_add] at this
   exact this
 | m :: Ms, p, mv, ex, e0, H, K, hMs, h => by
  unfold aregM at h
  obtain ⟨avs, ⟨⟨hch⟩, hK⟩, hF⟩ := aquiet_get (all := all) hT (fun _ _ => trivial) k 0 e0 [] _ (by omega) (by simpa using h)
  rw [List.nil_append] at hch hK
  obtain ⟨hlm, hmk⟩ := hMs 0 m rfl
  split at hK
  ·rename_i om hom
   obtain ⟨a, H', sc0, hK', hW⟩ := amem_sound hT hK
   obtain ⟨V, Hs, es, sc, e1, e2, e3, e4, e5, e6, e7⟩ := aregM_get hT hk Ms (p + 1) _ _ _ _ K (fun j m' hj => by
    have := hMs (j + 1) m' (by simpa using hj)
    exact ⟨by omega, this.2⟩) hK'
   have hlen : p + 1 + Ms.length = p + (m :: Ms).length := by simp; omega
   rw [hlen] at e4 e6 e7
   have hne : ∀ r, p + 1 <= r -> ¬ r = p := fun r h => by omega
   have hVm : V (p + 1) m = a := e3 m a (by
    unfold exS
    rw [List.getElem?_set_self]
    rw [List.length_map, mkvs_len]
    exact hmk)
   have hVi : ∀ i, i < k -> lo i <= p -> V (p + 1) i = scrubO sc0 (avs i) := fun i hi hl => e3 i _ (by
    unfold exS
    rw [List.getElem?_set_ne (fun e => by subst e; omega), List.getElem?_map, mkvs_get 0 k i hi (by rw [Nat.zero_add]; exact hl)]
    simp)
   refine ⟨fun r => if r = p then avs else V r, fun r => if r = p then H else Hs r, fun r => if r = p then e0 else es r, fun r => if r = p then sc0 else sc r, if_pos rfl, if_pos rfl, fun i x hx => ?_, fun r h1 h2 i o hi ho hl hin => ?_, fun r h1 m' o hm' ho => ?_, fun r h1 h2 => ?_,?_⟩
   ·have := mkvs_some 0 k i x (compat_get hch hx)
    rw [Nat.zero_add] at this
    simp only [if_true]
    exact this.symm
   ·by_cases er : r = p
    ·subst er
     simp only [if_true]
     have := hF i o hi (by rw [Nat.zero_add]; exact ho) (by rw [Nat.zero_add]; omega) (by rw [Nat.zero_add]; exact hin)
     rw [Nat.zero_add] at this
     exact this
    ·simp only [if_neg er]
     exact e4 r (by omega) h2 i o hi ho hl hin
   ·by_cases er : r = p
    ·subst er
     have em : m' = m := by simpa using hm'.symm
     subst em
     rw [hom] at ho
     cases ho
     simp only [if_true, if_neg (show ¬ r + 1 = r by omega)]
     rw [hVm, e1]
     exact hW
    ·simp only [if_neg er, if_neg (show ¬ r + 1 = p by omega)]
     refine e5 r (by omega) m' o ?_ ho
     rw [show r - p = (r - (p + 1)) + 1 by omega] at hm'
     simpa using hm'
   ·by_cases er : r = p
    ·subst er
     simp only [if_true, if_neg (show ¬ r + 1 = r by omega)]
     exact ⟨e2, fun i hi hl => hVi i hi hl⟩
    ·simp only [if_neg er, if_neg (show ¬ r + 1 = p by omega)]
     exact e6 r (by omega) h2
   ·simp only [if_neg (show ¬ p + (m :: Ms).length = p by simp)]
    exact e7
  ·cases hK
end
end Go.Proofs.YtjefbgfohijaoaaGreatDoor

/- Own work: a region with a chain of memory operations: soundness. -/
namespace Go.Proofs.YtjefbgfohijaoaaGreatDoor
open Go.RowKit
section
variable {P : Program} {G : World -> Prop} {T : TT} {w0 : Base} {B : Nat -> Prop} {nt : Nat}
theorem aev_scrub (sc : Option (Nat -> Bool)) (env : List AV) (t : Nat) : aev (scrubE sc env) (.tmp t) = scrubO sc (aev env (.tmp t)) := by
 cases sc with
 | none => rfl
 | some p =>
  simp only [aev, scrubE, scrubO, List.getD_eq_getElem?_getD, List.getElem?_map]
  cases env[t]? with
  | none => rfl
  | some a => rfl
theorem scrubE_len (sc : Option (Nat -> Bool)) (env : List AV) : (scrubE sc env).length = env.length := by
 unfold scrubE
 split <;> simp
structure JM (all : List Oper) (k : Nat) (M : List Nat) (lo : Nat -> Nat) (w0 : Base) (B : Nat -> Prop) (n0 : Nat) (V : Nat -> Nat -> AV) (Hs : Nat -> AH) (es : Nat -> List AV) (listed : Array Bool) (a : Act) (w : World) (r : Nat) (ι : Pl) : Prop where
 defers : a.defers = w0.ds
 size : a.tmps.size = n0
 pin : ∀ t v, w0.pin t = some v -> a.tmps[t]? = some v
 le : r <= M.length
 pre : ∀ (j m : Nat), M[j]? = some m -> (listed.getD m false = true ↔ j < r)
 lok : ∀ i, i < k -> listed.getD i false = true -> lo i <= r
 rel : Rel w0 B w ι (Hs r)
 vals : ∀ (i : Nat) (o : Oper) (t : Tmp), all[i]? = some o -> i < k -> listed.getD i false = true -> o.dst = some t -> Rep w ι (Rd B ι (Hs r)) (V r i) (a.eval (.tmp t))
 rest : ∀ (t : Tmp), (∀ (i : Nat) (o : Oper), all[i]? = some o -> i < k -> listed.getD i false = true -> o.dst ≠ some t) -> Rep w ι (Rd B ι (Hs r)) (aev (es r) (.tmp t)) (a.eval (.tmp t))
theorem aregM_sound (hT : TOk P T) (hG0 : ∀ w, GrX w0 w -> G w) (hB0 : ∀ b, w0.own b -> B b) (hm : P.follows .mixedOrders = true) {id : Nat} {all : List Oper} {k : Nat} {M : List Nat} {lo : Nat -> Nat} (hpd : ∀ o ∈ all, ∀ t, o.dst = some t -> w0.pin t = none) (hok : regionOkM nt all k M lo = true) {Q : Exit -> List AV -> AH -> Prop} {env0 : List AV} {H : AH} {a : Act} {w : World}
  (h : aregM P G stdE T all M lo k M 0 [] [] env0 H fun env2 H2 => aops P G stdE T all Q (all.drop k) env2 H2) (hS : St w0 B nt env0 H a w) :
  (Code.region id all.toArray true).wp P (Post w0 B nt Q) a w := by
 obtain ⟨hd0, hn0, hp0, ι, hR0, hE0⟩ := hS
 have hlen0 : env0.length = nt := by rw [hE0.len]; exact hn0
 unfold regionOkM at hok
 simp only [Bool.and_eq_true, decide_eq_true_eq] at hok
 obtain ⟨⟨⟨⟨hrg, hkl⟩, hdst⟩, hops⟩, hchain⟩ := hok
 have hdlt : ∀ (i : Nat) (o : Oper) (t : Tmp), all[i]? = some o -> o.dst = some t -> t < env0.length := fun i o t ho ht => by
  have := List.all_eq_true.1 hdst o (List.mem_of_getElem? ho)
  rw [ht] at this
  rw [hlen0]; simpa using this
 rw [List.all_eq_true] at hops
 have hopOk : ∀ i o, i < k -> all[i]? = some o -> opOkM all k M lo i o = true := fun i o hi ho => by
  have := hops i (List.mem_range.2 hi)
  rw [ho] at this; exact this
 unfold chainOk at hchain
 rw [List.all_eq_true] at hchain
 have hch : ∀ (j m : Nat), M[j]? = some m -> m < k /\ lo m = j + 1 /\ ∀ j' m', j = j' + 1 -> M[j']? = some m' -> m' ∈ depsOf all.toArray m := fun j m hj => by
  have hjl := (List.getElem?_eq_some_iff.1 hj).1
  have := hchain j (List.mem_range.2 hjl)
  rw [hj] at this
  simp only [Bool.and_eq_true] at this
  obtain ⟨⟨h1, h2⟩, h3⟩ := this
  refine ⟨by have := Nat.le_of_ble_eq_true h1; omega, Nat.eq_of_beq_eq_true h2, fun j' m' e hm' => ?_⟩
  subst e
  simp only [hm'] at h3
  simpa using h3
 obtain ⟨V, Hs, es, sc, e1, e2, _, hq, hw, hsc, hK⟩ := aregM_get hT hkl M 0 [] [] env0 H _ (fun j m hj => ⟨by have := (hch j m hj).2.1; omega, (hch j m hj).1⟩) h
 rw [Nat.zero_add] at hq hsc hK
 have hdis : ∀ (i j : Nat) (oi oj : Oper) (t : Tmp), all[i]? = some oi -> all[j]? = some oj -> i ≠ j -> oi.dst = some t -> oj.dst ≠ some t := by
  have hB := hrg
  simp only [rgB, Bool.and_eq_true, List.all_eq_true, List.mem_range, decide_eq_true_eq, Bool.or_eq_true] at hB
  intro i j oi oj t hi hj hne hti htj
  have hil := (List.getElem?_eq_some_iff.1 hi).1
  have hjl := (List.getElem?_eq_some_iff.1 hj).1
  rcases hB.2 i (by simpa using hil) j (by simpa using hjl) with hh | hh
  ·rcases hh with hh | hh
   ·exact hne hh
   ·simp [hi, hti] at hh
  ·simp [hi, hj, hti, htj] at hh
 have hback : ∀ i d, d ∈ depsOf all.toArray i -> d < i := fun i d hd => by
  have hB := hrg
  simp only [rgB, Bool.and_eq_true, List.all_eq_true, List.mem_range, decide_eq_true_eq] at hB
  rcases Nat.lt_or_ge i all.toArray.size with h | h
  ·exact hB.1.1 i h d hd
  ·simp [depsOf, Array.getElem?_eq_none h] at hd
 have hesl : ∀ r, r <= M.length -> (es r).length = env0.length := by
  intro r
  induction r with
  | zero => intro _; rw [e2]
  | succ r ih =>
   intro hr
   rw [(hsc r (Nat.zero_le _) (by omega)).1, scrubE_len]
   exact ih (by omega)
 have hopd : ∀ (listed : Array Bool) (a : Act) (w : World) (r : Nat) (ι : Pl) (i q : Nat) (o : Oper), JM all k M lo w0 B env0.length V Hs es listed a w r ι -> (∀ d ∈ depsOf all.toArray i, listed.getD d false = true) -> all[i]? = some o -> i < k -> i <= q -> q <= k →
   ∀ x, x ∈ o.op.operands -> Rep w ι (Rd B ι (Hs r)) (aev (envFrom all (V r) 0 q (es r)) x) (a.eval x) := by
  intro listed a w r ι i q o hJ hdeps ho hik hiq hqk x hx
  have hopk := hopOk i o hik ho
  unfold opOkM at hopk
  simp only [Bool.and_eq_true] at hopk
  have hx' := (Array.all_eq_true_iff_forall_mem.1 hopk.1.1) x hx
  cases x with
  | const v => exact .p _ _ (ofV_rep _ _ _)
  | global g => exact .p _ _ (.v _)
  | func f => exact .p _ _ (.v _)
  | tmp t =>
   simp only [Bool.or_eq_true] at hx'
   rcases hx' with hfree | hdep
   ·have he : (envFrom all (V r) 0 q (es r))[t]? = (es r)[t]? := envFrom_free q (es r) fun j hj => freeK_of hfree (by omega)
    have hr := hJ.rest t fun j oj hj hjk _ => by
     have := freeK_of hfree hjk
     rw [hj] at this
     simpa using this
    have e1 : aev (envFrom all (V r) 0 q (es r)) (.tmp t) = aev (es r) (.tmp t) := by
     simp only [aev, List.getD_eq_getElem?_getD, he]
    rw [e1]; exact hr
   ·rw [List.any_eq_true] at hdep
    obtain ⟨d, hdm, hdt⟩ := hdep
    have hdt' : (all[d]?).bind (·.dst) = some t := by simpa using hdt
    cases hdo : all[d]? with
    | none => rw [hdo] at hdt'; cases hdt'
    | some od =>
     have hdst : od.dst = some t := by rw [hdo] at hdt'; simpa using hdt'
     have hdi := hback i d hdm
     have hl := hdeps d hdm
     rcases Nat.lt_or_ge t env0.length with htl | htl
     ·have he : (envFrom all (V r) 0 q (es r))[t]? = some (V r d) := envFrom_at hdt' q (es r) (by omega) (by rw [hesl r hJ.le]; exact htl) fun j hj hjd => by
       cases hjo : all[j]? with
       | none => simp
       | some oj => simpa using hdis d j od oj t hdo hjo (Ne.symm hjd) hdst
      have e1 : aev (envFrom all (V r) 0 q (es r)) (.tmp t) = V r d := by simp only [aev, List.getD_eq_getElem?_getD, he]; rfl
      rw [e1]
      exact hJ.vals d od t hdo (by omega) hl hdst
     ·exact absurd (hdlt d od t hdo hdst) (Nat.not_lt.2 htl)
 refine wp_region_inv k 8 (fun listed a w => ∃ r ι, JM all k M lo w0 B env0.length V Hs es listed a w r ι) hm hrg hkl ?_ ?_ ?_
 ·
  have hnot : ∀ i, (Array.replicate all.length false).getD i false = false := fun i => by by_cases h : i < all.length <;> simp [h]
  have hg : Gr w w.drew := (Below.refl _ _).drew
  refine ⟨0, ι, hd0, by rw [hlen0]; exact hn0, hp0, Nat.zero_le _, fun j m _ => ⟨(fun hh => by rw [hnot] at hh; cases hh), fun hh => by omega⟩, (fun i _ hl => by rw [hnot] at hl; cases hl), (by rw [e1]; exact hR0.grow hg), (fun i o t _ _ hl => by rw [hnot] at hl; cases hl), fun t _ => ?_⟩
  rw [e1, e2]
  exact (hE0.eval (.tmp t)).keep0 (Keeps.gr hg)
 ·
  rintro listed a' w' i o ⟨r, ι, hJ⟩ hls hdeps ho hik hun
  have hGw : G w' := hG0 _ hJ.rel.gr
  have hfun : ∀ f, a'.eval (.func f) = .func (.func f) #[] #[] := fun _ => rfl
  have hopk := hopOk i o hik ho
  unfold opOkM at hopk
  simp only [Bool.and_eq_true] at hopk
  have hgd : o.guard = none := by simpa using hopk.1.2
  rw [if_pos (by simp [Region.wanted, hgd])]
  have hil : i < listed.size := by rw [hls]; exact (List.getElem?_eq_some_iff.1 ho).1
  have hset : ∀ x, x ≠ i -> (listed.setIfInBounds i true).getD x false = listed.getD x false := fun x hx => getD_set_ne false (Ne.symm hx)
  cases hin : inM i M with
  | true =>
   obtain ⟨j, hj⟩ := inM_get hin
   obtain ⟨_, hlo, hprev⟩ := hch j i hj
   have hjl := (List.getElem?_eq_some_iff.1 hj).1
   have hjr : j = r := by
    have h1 : ¬ j < r := fun hh => by
     have := (hJ.pre j i hj).2 hh
     rw [hun] at this
     cases this
    rcases Nat.eq_zero_or_pos j with h0 | h0
    ·omega
    ·have hm' : M[j - 1]? = some M[j - 1] := List.getElem?_eq_getElem (by omega)
     have hd := hprev (j - 1) _ (by omega) hm'
     have := (hJ.pre (j - 1) _ hm').1 (hdeps _ hd)
     omega
   subst hjr
   have hC : Can G w0 B w' ι (Hs j) := ⟨fun w2 hg => hG0 w2 ⟨hg.os.trans hJ.rel.gr.os, hg.tape.trans hJ.rel.gr.tape, hg.output.trans hJ.rel.gr.output, Nat.le_trans hJ.rel.size hg.size, fun k hk hx => by
    have := hJ.rel.size
    rw [hg.block k (by change k < w'.heap.size; omega) fun ho => by rcases hJ.rel.ge ho with h | h <;> first | exact hx h | omega]
    exact hJ.rel.gr.block k hk hx⟩, hB0⟩
   have hW := hw j (Nat.zero_le _) i o (by rw [Nat.sub_zero]; exact hj) ho w0 B w' ι a'.eval hJ.rel hC (hopd listed a' w' j ι i k o hJ hdeps ho hik (by omega) (Nat.le_refl _)) hfun
   refine grow_mono (fun v w2 hv => ?_) hW
   obtain ⟨ι', hR', hkp, hrv⟩ := hv
   obtain ⟨he, hV⟩ := hsc j (Nat.zero_le _) hjl
   refine ⟨j + 1, ι', by rw [put_defers]; exact hJ.defers, by rw [put_size]; exact hJ.size, put_pin hJ.pin (hpd o (List.mem_of_getElem? ho)) _, hjl, fun j2 m2 hj2 => ?_, fun x hx hl => ?_, hR', fun x ox t hox hxk hxl hxd => ?_, fun t ht => ?_⟩
   ·by_cases em : m2 = i
    ·subst em
     rw [getD_set_self hil]
     have h2 := (hch j2 m2 hj2).2.1
     exact ⟨fun _ => by omega, fun _ => rfl⟩
    ·rw [hset m2 em, hJ.pre j2 m2 hj2]
     constructor
     ·intro h; omega
     ·intro h
      rcases Nat.lt_or_ge j2 j with h2 | h2
      ·exact h2
      ·have : j2 = j := by omega
       subst this
       rw [hj] at hj2
       cases hj2
       exact absurd rfl em
   ·by_cases ex : x = i
    ·subst ex; omega
    ·rw [hset x ex] at hl
     have := hJ.lok x hx hl
     omega
   ·by_cases ex : x = i
    ·subst ex
     rw [ho] at hox; cases hox
     rw [hxd, eval_put_same (by rw [hJ.size]; exact hdlt x o t ho hxd)]
     exact hrv
    ·rw [hset x ex] at hxl
     rw [eval_put_ne (hdis x i ox o t hox ho ex hxd), hV x hxk (hJ.lok x hxk hxl)]
     exact (hJ.vals x ox t hox hxk hxl hxd).keep hkp
   ·have hne : o.dst ≠ some t := ht i o ho hik (getD_set_self hil)
    rw [eval_put_ne hne, he, aev_scrub]
    exact (hJ.rest t fun x ox hox hxk hxl => ht x ox hox hxk (getD_set_true hxl)).keep hkp
  | false =>
   have hlo : lo i <= r := by
    have h3 := hopk.2
    rw [hin] at h3
    simp only [Bool.or_eq_true, Bool.false_eq_true, false_or] at h3
    rcases h3 with h3 | h3
    ·have := Nat.eq_of_beq_eq_true h3
     omega
    ·rw [List.any_eq_true] at h3
     obtain ⟨d, hd, hle⟩ := h3
     have h4 := hJ.lok d (by have := hback i d hd; omega) (hdeps d hd)
     have := Nat.le_of_ble_eq_true hle
     omega
   have hQ := hq r (Nat.zero_le _) hJ.le i o hik ho hlo hin w0 B w' ι a'.eval hJ.rel hGw (hopd listed a' w' r ι i i o hJ hdeps ho hik (Nat.le_refl _) (by omega)) hfun
   refine grow_mono (fun v w2 hv => ?_) hQ
   obtain ⟨hg, hrv⟩ := hv
   have hkp : Keeps none w' ι (Rd B ι (Hs r)) w2 ι (Rd B ι (Hs r)) := Keeps.gr hg
   refine ⟨r, ι, by rw [put_defers]; exact hJ.defers, by rw [put_size]; exact hJ.size, put_pin hJ.pin (hpd o (List.mem_of_getElem? ho)) _, hJ.le, fun j2 m2 hj2 => ?_, fun x hx hl => ?_, hJ.rel.grow hg, fun x ox t hox hxk hxl hxd => ?_, fun t ht => ?_⟩
   ·have em : m2 ≠ i := fun e => by
     subst e
     rw [inM_of hj2] at hin
     cases hin
    rw [hset m2 em]
    exact hJ.pre j2 m2 hj2
   ·by_cases ex : x = i
    ·subst ex; exact hlo
    ·rw [hset x ex] at hl
     exact hJ.lok x hx hl
   ·by_cases ex : x = i
    ·subst ex
     rw [ho] at hox; cases hox
     rw [hxd, eval_put_same (by rw [hJ.size]; exact hdlt x o t ho hxd)]
     exact hrv
    ·rw [hset x ex] at hxl
     rw [eval_put_ne (hdis x i ox o t hox ho ex hxd)]
     exact (hJ.vals x ox t hox hxk hxl hxd).keep0 hkp
   ·have hne : o.dst ≠ some t := ht i o ho hik (getD_set_self hil)
    rw [eval_put_ne hne]
    exact (hJ.rest t fun x ox hox hxk hxl => ht x ox hox hxk (getD_set_true hxl)).keep0 hkp
 ·
  rintro listed a' w' ⟨r, ι, hJ⟩ hall
  have hr : r = M.length := by
   have hle := hJ.le
   rcases Nat.lt_or_ge r M.length with h1 | h1
   ·have hm' : M[r]? = some M[r] := List.getElem?_eq_getElem h1
    have := (hJ.pre r _ hm').1 (hall _ (hch r _ hm').1)
    omega
   ·omega
  subst hr
  refine aops_sound hT hG0 hB0 _ (fun o ho => hpd o (List.mem_of_mem_drop ho)) _ _ a' w' hK ⟨hJ.defers, by rw [hJ.size]; exact hlen0, hJ.pin, ι, hJ.rel,?_⟩
  refine ⟨by rw [envFrom_len, hesl _ (Nat.le_refl _)]; exact hJ.size.symm, fun t x v hx hv => ?_⟩
  have hev : a'.eval (.tmp t) = v := by simp only [Act.eval, Array.getD_eq_getD_getElem?, hv]; rfl
  have htl : t < env0.length := by have := (List.getElem?_eq_some_iff.1 hx).1; rw [envFrom_len, hesl _ (Nat.le_refl _)] at this; exact this
  rcases Classical.em (∃ i o, i < k /\ all[i]? = some o /\ o.dst = some t) with ⟨i, o, hik, ho, hdst'⟩ | hno
  ·have hbind : (all[i]?).bind (·.dst) = some t := by rw [ho]; simpa using hdst'
   have he : (envFrom all (V M.length) 0 k (es M.length))[t]? = some (V M.length i) := envFrom_at hbind k _ hik (by rw [hesl _ (Nat.le_refl _)]; exact htl) fun x hx hxi => by
    cases hxo : all[x]? with
    | none => simp
    | some ox => simpa using hdis i x o ox t ho hxo (Ne.symm hxi) hdst'
   rw [he] at hx; cases hx
   have := hJ.vals i o t ho hik (hall i hik) hdst'
   rw [hev] at this
   exact this
  ·have he : (envFrom all (V M.length) 0 k (es M.length))[t]? = (es M.length)[t]? := envFrom_free (all := all) (avs := V M.length) k _ fun i hi => by
    cases hio : all[i]? with
    | none => simp
    | some o => simpa using fun e => hno ⟨i, o, hi, hio, e⟩
   rw [he] at hx
   have := hJ.rest t fun i o ho hi _ e => hno ⟨i, o, hi, ho, e⟩
   rw [hev] at this
   have e2 : aev (es M.length) (.tmp t) = x := by simp only [aev, List.getD_eq_getElem?_getD, hx]; rfl
   rw [e2] at this
   exact this
end
section
variable {P : Program} {G : World -> Prop} {T : TT} {nt : Nat}
theorem Seg.regM (hT : TOk P T) (hm : P.follows .mixedOrders = true) {id : Nat} {ops : Array Oper} (k : Nat) (M : List Nat) (lo : Nat -> Nat) (hok : regionOkM nt ops.toList k M lo = true) (Q : SO -> Exit -> List AV -> AH -> Prop) {env : List AV} {H : AH}
  (h : ∀ (P' : Program) (G' : World -> Prop) (E : SO), (∀ f l r, Ret P G f l r -> Ret P' G' f l r) -> (∀ f as H r H', RetM P G f as H r H' -> RetM P' G' f as H r H') -> E = stdE -> aregM P' G' E T ops.toList M lo k M 0 [] [] env H fun env2 H2 => aops P' G' E T ops.toList (Q E) (ops.toList.drop k) env2 H2) : Seg P G nt (.region id ops true) (Q stdE) env H := by
 intro w0 B hG hB hpk a w hS
 obtain ⟨l⟩ := ops
 exact aregM_sound hT hG hB hm hpk hok (h P G stdE (fun _ _ _ h => h) (fun _ _ _ _ _ h => h) rfl) hS
theorem Seg.loop {γ : Type} (n : Nat) (live : List Nat) (m : Nat) (S : γ -> List AV) (h : γ -> AH) (I : γ -> Prop) (μ : γ -> Nat) (x0 : γ) {c : Code} {Q : Exit -> List AV -> AH -> Prop} {env : List AV} {H : AH}
  (h0 : HeadIs n live m S h env H x0) (hI : I x0) (hr : ∀ x, I x -> Seg P G nt c (thenA (Again n live m S h I μ (μ x)) Q) (spreadE live (S x) n 0) (h x)) : Seg P G nt (.loop c) Q env H := by
 classical
 intro w0 B hG hB hpk a w hS
 have hwk : ∀ env H env' H' a w, Wk env H env' H' -> St w0 B nt env H a w -> St w0 B nt env' H' a w := fun env H env' H' a w hw hS => by
  obtain ⟨ι, hR, hE⟩ := hS.rep
  exact ⟨hS.defers, hS.size, hS.pin, hw w0 B w ι a.tmps hB hR hE⟩
 have key : ∃ f : Act -> World -> Nat, (∀ a w, (∃ x, I x /\ St w0 B nt (spreadE live (S x) n 0) (h x) a w) -> ∃ x, I x /\ μ x = f a w /\ St w0 B nt (spreadE live (S x) n 0) (h x) a w) /\ ∀ a w x, I x -> St w0 B nt (spreadE live (S x) n 0) (h x) a w -> f a w <= μ x := by
  refine ⟨fun a w => if h : ∃ k, ∃ x, I x /\ μ x = k /\ St w0 B nt (spreadE live (S x) n 0) (h x) a w then Classical.choose (least h) else 0, fun a w ⟨x, h1, h2⟩ => ?_, fun a w x h1 h2 => ?_⟩
  ·have hex : ∃ k, ∃ x, I x /\ μ x = k /\ St w0 B nt (spreadE live (S x) n 0) (h x) a w := ⟨_, x, h1, rfl, h2⟩
   simp only [hex, dif_pos]
   exact (Classical.choose_spec (least hex)).1
  ·have hex : ∃ k, ∃ x, I x /\ μ x = k /\ St w0 B nt (spreadE live (S x) n 0) (h x) a w := ⟨_, x, h1, rfl, h2⟩
   simp only [hex, dif_pos]
   exact (Classical.choose_spec (least hex)).2 _ ⟨x, h1, rfl, h2⟩
 obtain ⟨f, hf1, hf2⟩ := key
 refine wp_loop (fun a w => ∃ x, I x /\ St w0 B nt (spreadE live (S x) n 0) (h x) a w) f ⟨x0, hI, hwk _ _ _ _ a w h0.wk hS⟩ fun a' w' hex => ?_
 obtain ⟨x, hx, hμ, hSx⟩ := hf1 a' w' hex
 refine wp_mono (hr x hx w0 B hG hB hpk a' w' hSx) ?_
 refine post_then _ fun env3 H3 a3 w3 hn3 hS3 => ?_
 obtain ⟨y, hh, hIy, hlt⟩ := hn3
 have hS4 := hwk _ _ _ _ a3 w3 hh.wk hS3
 refine ⟨⟨y, hIy, hS4⟩,?_⟩
 have := hf2 a3 w3 y hIy hS4
 omega
theorem Seg.block {id : Nat} {c : Code} {Q : Exit -> List AV -> AH -> Prop} {env : List AV} {H : AH} (h : Seg P G nt c (blockA id Q) env H) : Seg P G nt (.block id c) Q env H := by
 intro w0 B hG hB hpk a w hS
 refine wp_block (wp_mono (h w0 B hG hB hpk a w hS) ?_)
 rintro e a w ⟨env, H, h, hS⟩
 cases e with
 | exit i =>
  simp only [blockA] at h
  simp only [Exit.inBlock]
  split at h
  ·rename_i e; rw [if_pos e]; exact ⟨env, H, h, hS⟩
  ·rename_i e; rw [if_neg e]; exact ⟨env, H, h, hS⟩
 | normal => exact ⟨env, H, h, hS⟩
 | goto l => exact ⟨env, H, h, hS⟩
 | ret => exact ⟨env, H, h, hS⟩
 | panic c => exact ⟨env, H, h, hS⟩
 | outgrown => exact ⟨env, H, h, hS⟩
end
end Go.Proofs.YtjefbgfohijaoaaGreatDoor

/- Own work: more ways to take a body apart. -/
namespace Go.Proofs.YtjefbgfohijaoaaGreatDoor
open Go.RowKit
section
variable {P : Program} {G : World -> Prop} {T : TT} {nt : Nat}
theorem Seg.of0 (hT : TOk P T) (hm : P.follows .mixedOrders = true) (kOf : Nat -> Nat) {c : Code} (hok : codeOk nt kOf c = true) {Q : Exit -> List AV -> AH -> Prop} {env : List AV} {H : AH}
  (h : ∀ (P' : Program) (G' : World -> Prop) (E : SO), (∀ f l r, Ret P G f l r -> Ret P' G' f l r) -> (∀ f as H r H', RetM P G f as H r H' -> RetM P' G' f as H r H') -> E = stdE -> awp P' G' E T kOf c Q env H) : Seg P G nt c Q env H :=
 Seg.of hT hm kOf hok (fun _ => Q) h
theorem Seg.condT {x : Operand} {c d : Code} {Q : Exit -> List AV -> AH -> Prop} {env : List AV} {H : AH} (he : aev env x = .p (.v (.bool true))) (h : Seg P G nt c Q env H) : Seg P G nt (.cond x c d) Q env H := by
 intro w0 B hG hB hpk a w hS
 obtain ⟨ι, hR, hE⟩ := hS.rep
 have hc := hE.eval x
 rw [he] at hc
 refine wp_cond_split (rep_v hc) (fun _ => h w0 B hG hB hpk.1 a w hS) (fun hb => by cases hb)
theorem Seg.condF {x : Operand} {c d : Code} {Q : Exit -> List AV -> AH -> Prop} {env : List AV} {H : AH} (he : aev env x = .p (.v (.bool false))) (h : Seg P G nt d Q env H) : Seg P G nt (.cond x c d) Q env H := by
 intro w0 B hG hB hpk a w hS
 obtain ⟨ι, hR, hE⟩ := hS.rep
 have hc := hE.eval x
 rw [he] at hc
 refine wp_cond_split (rep_v hc) (fun hb => by cases hb) (fun _ => h w0 B hG hB hpk.2 a w hS)
theorem Seg.never {c d : Code} {Q : Exit -> List AV -> AH -> Prop} {env : List AV} {H : AH} (h : Seg P G nt c (thenA (fun _ _ => False) Q) env H) : Seg P G nt (.seq c d) Q env H :=
 .seq _ h fun _ _ h => h.elim
end
end Go.Proofs.YtjefbgfohijaoaaGreatDoor

/- Own work: a body cut behind its first statements; what it comes to is not looked at there. -/
namespace Go.Proofs.YtjefbgfohijaoaaGreatDoor
open Go.RowKit
section
variable {P : Program} {G : World -> Prop} {T : TT} {nt : Nat}
theorem Seg.cutK0 {γ : Type} (k : Nat) (n : Nat) (live : List Nat) (m : Nat) (S : γ -> List AV) (h : γ -> AH) (I : γ -> Prop) (hT : TOk P T) (hm : P.follows .mixedOrders = true) (kOf : Nat -> Nat) {c : Code} {Q : Exit -> List AV -> AH -> Prop} {env : List AV} {H : AH} (hok : codeOk nt kOf (headK k c) = true)
  (h1 : ∀ (P' : Program) (G' : World -> Prop) (E : SO), (∀ f l r, Ret P G f l r -> Ret P' G' f l r) -> (∀ f as H r H', RetM P G f as H r H' -> RetM P' G' f as H r H') -> E = stdE -> awp P' G' E T kOf (headK k c) (thenA (CutIs n live m S h I) Q) env H)
  (h2 : ∀ y, I y -> Seg P G nt (tailK k c) Q (spreadE live (S y) n 0) (h y)) : Seg P G nt c Q env H :=
 Seg.cutK k n live m S h I hT hm kOf (fun _ => Q) hok h1 h2
theorem Seg.regM0 (hT : TOk P T) (hm : P.follows .mixedOrders = true) {id : Nat} {ops : Array Oper} (k : Nat) (M : List Nat) (lo : Nat -> Nat) (hok : regionOkM nt ops.toList k M lo = true) {Q : Exit -> List AV -> AH -> Prop} {env : List AV} {H : AH}
  (h : ∀ (P' : Program) (G' : World -> Prop) (E : SO), (∀ f l r, Ret P G f l r -> Ret P' G' f l r) -> (∀ f as H r H', RetM P G f as H r H' -> RetM P' G' f as H r H') -> E = stdE -> aregM P' G' E T ops.toList M lo k M 0 [] [] env H fun env2 H2 => aops P' G' E T ops.toList Q (ops.toList.drop k) env2 H2) : Seg P G nt (.region id ops true) Q env H :=
 Seg.regM hT hm k M lo hok (fun _ => Q) h
end
end Go.Proofs.YtjefbgfohijaoaaGreatDoor
