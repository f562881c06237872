/- Own work: a rule for a region that draws its order and whose operations only add memory, but for a tail whose order is forced: one obligation for each operation, whatever the order. Each operation has a predicate on its own value, kept by growth. -/
import Derived.Orders
import Derived.Tactics
import Derived.Below
namespace Go.Proofs.YtlffpgjkhehdmaaDoor
open Go.RowKit

section
variable {P : Program} {ops : Array Oper} {Q : Exit → Act → World → Prop}

/-- memory has grown; what was there is as it was -/
def Gr (w w' : World) : Prop := Below w.heap.size w w'
theorem Gr.refl (w : World) : Gr w w := Below.refl _ _
theorem Gr.trans {a b c : World} (h : Gr a b) (k : Gr b c) : Gr a c := Below.trans h (Below.mono k h.size)

def growUpon (P : Program) (R : Value → World → Prop) : Result Next → Prop
  | .ok (.value v) w' => R v w'
  | .ok .skip w' => R undef w'
  | .ok (.enter f args) w' => Calls P f args w' fun e w'' => ∃ v, e = .returned v ∧ R v w''
  | _ => False
theorem growUpon_value (R : Value → World → Prop) (v : Value) (w : World) : growUpon P R (.ok (.value v) w) = R v w := rfl
theorem growUpon_skip (R : Value → World → Prop) (w : World) : growUpon P R (.ok .skip w) = R undef w := rfl
theorem growUpon_enter (R : Value → World → Prop) (f : FuncId) (args : Array Value) (w : World) :
    growUpon P R (.ok (.enter f args) w) = Calls P f args w fun e w'' => ∃ v, e = .returned v ∧ R v w'' := rfl

theorem wp_of_grow {o : Oper} {a : Act} {w : World} {R : Value → World → Prop} {K : Act → World → Prop}
    (h : growUpon P R ((execOp a.eval o).run P w)) (hK : ∀ v w', R v w' → K (a.put o.dst v) w') : o.wp P a w K Q := by
  unfold Oper.wp
  generalize (execOp a.eval o).run P w = r at *
  cases r with
  | ok n w' =>
    cases n <;> simp only [growUpon] at h <;> simp only [Oper.upon]
    case value v => exact hK _ _ h
    case skip => exact hK _ _ h
    case enter f args => exact h.mono fun e w'' ⟨v, he, hr⟩ => by subst he; exact hK _ _ hr
  | halt x w' => simp only [growUpon] at h

/-- the operations for which one waits -/
def depsOf (ops : Array Oper) (i : Nat) : List Nat := match ops[i]? with
  | some o => (o.after.toList.filter fun e => Region.binds .any e).map (·.on)
  | none => []
def grow1 (ops : Array Oper) (S : List Nat) : List Nat := (S ++ S.flatMap (depsOf ops)).eraseDups
def closure (ops : Array Oper) : Nat → List Nat → List Nat
  | 0, S => S
  | n + 1, S => closure ops n (grow1 ops S)
/-- the check: edges go back; destinations differ; from k on each operation waits for all before it -/
def rgB (ops : Array Oper) (k r : Nat) : Bool :=
  ((List.range ops.size).all fun i => (depsOf ops i).all fun d => decide (d < i)) &&
  ((List.range ops.size).all fun j => decide (j < k) || (List.range j).all fun i => (closure ops r (depsOf ops j)).contains i) &&
  ((List.range ops.size).all fun i => (List.range ops.size).all fun j => decide (i = j) || ((ops[i]?).bind (·.dst)).isNone || (ops[i]?).bind (·.dst) != (ops[j]?).bind (·.dst))

def rgDep (ops : Array Oper) (i d : Nat) (t : Tmp) : Bool := (depsOf ops i).contains d && ((ops[d]?).bind (·.dst)) == some t
def rgFree (ops : Array Oper) (t : Tmp) : Bool := ops.all fun o => o.dst != some t

/-- what an operation has yielded, as a truth value -/
def yieldedE (ops : Array Oper) (ρ : Operand → Value) (j : Nat) : Option Bool := match (ops[j]?).bind (·.dst) with
  | some t => (match ρ (.tmp t) with | .bool b => some b | _ => none)
  | none => none
theorem yielded_eval (a : Act) : yielded ops a.tmps = yieldedE ops a.eval := by
  funext j
  unfold yielded yieldedE
  cases h : (ops[j]?).bind (·.dst) with
  | none => rfl
  | some t =>
    simp only [Option.bind_some, Act.eval]
    cases ht : a.tmps[t]? with
    | none => simp [ht, undef]
    | some v => simp [ht]; cases v <;> rfl

/-- what is owed for operation i -/
def RgStep (P : Program) (ops : Array Oper) (C : World → Prop) (V : Nat → Value → World → Prop) (a0 : Act) (i : Nat) : Prop :=
  ∀ (o : Oper), ops[i]? = some o → ∀ (ρ : Operand → Value) (w : World), C w → (∀ c, ρ (.const c) = c) → (∀ f, ρ (.func f) = .func (.func f) #[] #[]) → (∀ g, ρ (.global g) = .pointer (some ⟨g, 0, none⟩)) →
    (∀ (d : Nat) (t : Tmp), rgDep ops i d t = true → V d (ρ (.tmp t)) w) → (∀ (t : Tmp), rgFree ops t = true → ρ (.tmp t) = a0.eval (.tmp t)) →
    if Region.wanted o (yieldedE ops ρ) then growUpon P (fun v w' => C w' ∧ Gr w w' ∧ V i v w') ((execOp ρ o).run P w) else V i undef w

structure RgInv (ops : Array Oper) (C : World → Prop) (V : Nat → Value → World → Prop) (a0 : Act) (listed : Array Bool) (a : Act) (w : World) : Prop where
  cls : C w
  defers : a.defers = a0.defers
  size : a.tmps.size = a0.tmps.size
  lsize : listed.size = ops.size
  vals : ∀ (i : Nat) (o : Oper) (t : Tmp), ops[i]? = some o → listed.getD i false = true → o.dst = some t → V i (a.eval (.tmp t)) w
  rest : ∀ (t : Tmp), (∀ (i : Nat) (o : Oper), ops[i]? = some o → listed.getD i false = true → o.dst ≠ some t) → a.tmps[t]? = a0.tmps[t]?
  closed : ∀ i, listed.getD i false = true → ∀ d ∈ depsOf ops i, listed.getD d false = true

theorem depsOf_ready {listed : Array Bool} {i : Nat} (h : i ∈ Region.ready .any ops listed) : ∀ d ∈ depsOf ops i, listed.getD d false = true := by
  obtain ⟨_, o, ho, hall⟩ := mem_ready.1 h
  intro d hd
  simp only [depsOf, ho, List.mem_map, List.mem_filter] at hd
  obtain ⟨e, ⟨he, hb⟩, rfl⟩ := hd
  exact hall e (by simpa using he) hb

theorem getD_true_false {listed : Array Bool} {i : Nat} (h : listed.getD i true = false) : listed.getD i false = false ∧ i < listed.size := by
  rcases Nat.lt_or_ge i listed.size with h' | h'
  · exact ⟨by simpa [h'] using h, h'⟩
  · simp [Array.getElem?_eq_none h'] at h

theorem getD_set_self {listed : Array Bool} {i : Nat} (h : i < listed.size) : (listed.setIfInBounds i true).getD i false = true := by simp [h]

theorem closure_listed {listed : Array Bool} (hc : ∀ i, listed.getD i false = true → ∀ d ∈ depsOf ops i, listed.getD d false = true) :
    ∀ (r : Nat) (S : List Nat), (∀ d ∈ S, listed.getD d false = true) → ∀ d ∈ closure ops r S, listed.getD d false = true
  | 0, _, h => h
  | r + 1, S, h => closure_listed hc r _ fun d hd => by
    unfold grow1 at hd
    rw [List.mem_eraseDups, List.mem_append, List.mem_flatMap] at hd
    rcases hd with hd | ⟨j, hj, hd⟩
    · exact h d hd
    · exact hc j (h j hj) d hd

/-- an operation comes up -/
theorem RgInv.put {C : World → Prop} {V : Nat → Value → World → Prop} {a0 : Act} {listed : Array Bool} {a : Act} {w w' : World} {i : Nat} {o : Oper} {v : Value}
    (h : RgInv ops C V a0 listed a w) (ho : ops[i]? = some o) (hr : i ∈ Region.ready .any ops listed)
    (hd : ∀ (j : Nat), i ≠ j → ∀ (oj : Oper) (t : Tmp), ops[j]? = some oj → o.dst = some t → oj.dst ≠ some t) (hlt : ∀ t, o.dst = some t → t < a0.tmps.size)
    (hst : ∀ i v w w', C w → C w' → Gr w w' → V i v w → V i v w') (hC : C w') (hg : Gr w w') (hV : V i v w') :
    RgInv ops C V a0 (listed.setIfInBounds i true) (a.put o.dst v) w' := by
  have hdep := depsOf_ready hr
  obtain ⟨hun, _⟩ := mem_ready.1 hr
  obtain ⟨hun0, hil⟩ := getD_true_false hun
  refine ⟨hC, ?_, ?_, by simpa using h.lsize, ?_, ?_, ?_⟩
  · cases ht : o.dst <;> simp only [Act.put] <;> exact h.defers
  · cases ht : o.dst <;> simp [Act.put, h.size]
  · intro j oj t hj hl hdst
    by_cases hij : i = j
    · subst hij
      obtain rfl : o = oj := Option.some.inj (ho.symm.trans hj)
      have hlt' := hlt t hdst
      have : (a.put o.dst v).eval (.tmp t) = v := by
        simp [Act.eval, Act.put, hdst, h.size, hlt']
      rw [this]; exact hV
    · rw [getD_set_ne false hij] at hl
      have h1 := h.vals j oj t hj hl hdst
      have : (a.put o.dst v).eval (.tmp t) = a.eval (.tmp t) := Act.eval_put fun d hd' hx => by
        injection hx with hx
        exact hd j hij oj d hj hd' (by rw [hdst, hx])
      rw [this]
      exact hst j _ w w' h.cls hC hg h1
  · intro t ht
    have h0 : o.dst ≠ some t := ht i o ho (getD_set_self hil)
    have h1 : a.tmps[t]? = a0.tmps[t]? := h.rest t fun j oj hj hl => ht j oj hj (getD_set_true hl)
    rw [← h1]
    cases hdst : o.dst with
    | none => rfl
    | some s =>
      have hne : s ≠ t := fun e => h0 (by rw [hdst, e])
      simp [Act.put, Array.getElem?_setIfInBounds_ne hne]
  · intro j hl d hd'
    by_cases hij : i = j
    · subst hij; exact getD_set_true (hdep d hd')
    · rw [getD_set_ne false hij] at hl
      exact getD_set_true (h.closed j hl d hd')

theorem ready_exists {listed : Array Bool} (hback : ∀ i d, d ∈ depsOf ops i → d < i) (hls : listed.size = ops.size) :
    ∀ (n i : Nat), i ≤ n → i < ops.size → listed.getD i false = false → ∃ j, j ≤ i ∧ j ∈ Region.ready .any ops listed := by
  intro n
  induction n with
  | zero =>
    intro i hi hlt hun
    obtain rfl : i = 0 := by omega
    refine ⟨0, Nat.le_refl _, mem_ready.2 ⟨?_, ops[0], Array.getElem?_eq_getElem hlt, fun e he hb => ?_⟩⟩
    · have : 0 < listed.size := by omega
      simp [this] at hun ⊢; exact hun
    · exfalso
      have hm : e.on ∈ depsOf ops 0 := by
        simp only [depsOf, Array.getElem?_eq_getElem hlt, List.mem_map, List.mem_filter]
        exact ⟨e, ⟨by simpa using he, hb⟩, rfl⟩
      have := hback 0 e.on hm
      omega
  | succ n ih =>
    intro i hi hlt hun
    by_cases hall : ∀ d ∈ depsOf ops i, listed.getD d false = true
    · refine ⟨i, Nat.le_refl _, mem_ready.2 ⟨?_, ops[i], Array.getElem?_eq_getElem hlt, fun e he hb => ?_⟩⟩
      · have : i < listed.size := by omega
        simp [this] at hun ⊢; exact hun
      · refine hall e.on ?_
        simp only [depsOf, Array.getElem?_eq_getElem hlt, List.mem_map, List.mem_filter]
        exact ⟨e, ⟨by simpa using he, hb⟩, rfl⟩
    · obtain ⟨d, hd, hnd⟩ : ∃ d, d ∈ depsOf ops i ∧ ¬ listed.getD d false = true := by
        apply Classical.byContradiction
        intro hno
        exact hall fun d hd => Classical.byContradiction fun hnd => hno ⟨d, hd, hnd⟩
      have hlt' := hback i d hd
      obtain ⟨j, hj, hr⟩ := ih d (by omega) (by omega) (by simpa using hnd)
      exact ⟨j, by omega, hr⟩

/-- the tail, in its forced order -/
theorem wpAny_tail (hback : ∀ i d, d ∈ depsOf ops i → d < i) (r k : Nat) (htail : ∀ j, k ≤ j → j < ops.size → ∀ i, i < j → i ∈ closure ops r (depsOf ops j)) :
    ∀ (m j : Nat) (listed : Array Bool) (a : Act) (w : World), k ≤ j → j + m = ops.size → listed.size = ops.size →
      (∀ i, i < j → listed.getD i false = true) → (∀ i, j ≤ i → i < ops.size → listed.getD i false = false) →
      (∀ i, listed.getD i false = true → ∀ d ∈ depsOf ops i, listed.getD d false = true) →
      wpList P ops Q (ops.toList.drop j) a w → ∀ fuel, m ≤ fuel → wpAny P .any ops Q fuel listed a w := by
  intro m
  induction m with
  | zero =>
    intro j listed a w _ hjm hls hl _ _ h fuel _
    have hd : ops.toList.drop j = [] := List.drop_eq_nil_of_le (by simp; omega)
    rw [hd] at h
    refine wpAny_done ?_ h fuel
    rw [List.eq_nil_iff_forall_not_mem]
    intro i hi
    obtain ⟨hun, o, ho, _⟩ := mem_ready.1 hi
    have hlt := (Array.getElem?_eq_some_iff.1 ho).1
    have h1 := hl i (by omega)
    have h2 := (getD_true_false hun).1
    rw [h1] at h2
    cases h2
  | succ m ih =>
    intro j listed a w hkj hjm hls hl hu hc h fuel hf
    have hjlt : j < ops.size := by omega
    have hd : ops.toList.drop j = ops[j] :: ops.toList.drop (j + 1) := by
      rw [List.drop_eq_getElem_cons (by simpa using hjlt)]; simp
    rw [hd] at h
    have hready : ∀ i, i ∈ Region.ready .any ops listed → i = j := by
      intro i hi
      obtain ⟨hun, o, ho, _⟩ := mem_ready.1 hi
      have hlt := (Array.getElem?_eq_some_iff.1 ho).1
      have h2 := (getD_true_false hun).1
      rcases Nat.lt_trichotomy i j with hij | hij | hij
      · rw [hl i hij] at h2; cases h2
      · exact hij
      · have := closure_listed hc r _ (depsOf_ready hi) j (htail i (by omega) hlt j hij)
        rw [hu j (Nat.le_refl _) hjlt] at this
        cases this
    obtain ⟨fuel, rfl⟩ : ∃ f, fuel = f + 1 := ⟨fuel - 1, by omega⟩
    refine ⟨fun h0 => ?_, fun i hi => ?_⟩
    · obtain ⟨i, _, hi⟩ := ready_exists hback hls j j (Nat.le_refl _) hjlt (hu j (Nat.le_refl _) hjlt)
      rw [h0] at hi
      cases hi
    · obtain rfl := hready i hi
      have hnext : ∀ a w, wpList P ops Q (ops.toList.drop (i + 1)) a w → wpAny P .any ops Q fuel (listed.setIfInBounds i true) a w := fun a w hh => by
        refine ih (i + 1) _ a w (by omega) (by omega) (by simpa using hls) (fun x hx => ?_) (fun x hx hx2 => ?_) (fun x hx d hd' => ?_) hh fuel (by omega)
        · by_cases hxi : i = x
          · subst hxi; exact getD_set_self (by omega)
          · exact getD_set_true (hl x (by omega))
        · rw [getD_set_ne false (by omega)]; exact hu x (by omega) hx2
        · by_cases hxi : i = x
          · subst hxi; exact getD_set_true (depsOf_ready hi d hd')
          · rw [getD_set_ne false hxi] at hx; exact getD_set_true (hc x hx d hd')
      have ho : ops[i]? = some ops[i] := Array.getElem?_eq_getElem hjlt
      unfold wpOp
      simp only [ho]
      unfold wpList at h
      split
      · rename_i hw
        rw [if_pos hw] at h
        exact h.imp (Oper.wp_mono hnext) id
      · rename_i hw
        rw [if_neg hw] at h
        exact hnext _ _ h

theorem wpAny_rg {C : World → Prop} {V : Nat → Value → World → Prop} {a0 : Act} (k r : Nat) (hB : rgB ops k r = true) (hlt : ∀ (i : Nat) (o : Oper) (t : Tmp), ops[i]? = some o → o.dst = some t → t < a0.tmps.size)
    (hst : ∀ i v w w', C w → C w' → Gr w w' → V i v w → V i v w') (hstep : ∀ i, i < k → RgStep P ops C V a0 i)
    (hend : ∀ listed a w, RgInv ops C V a0 listed a w → (∀ i, i < k → i < ops.size → listed.getD i false = true) → (∀ i, k ≤ i → listed.getD i false = false) → wpList P ops Q (ops.toList.drop k) a w) (hk : k ≤ ops.size) :
    ∀ (m : Nat) (listed : Array Bool) (a : Act) (w : World), RgInv ops C V a0 listed a w → (∀ i, k ≤ i → listed.getD i false = false) →
      ((List.range k).filter fun i => !listed.getD i false).length = m → wpAny P .any ops Q (m + (ops.size - k)) listed a w := by
  simp only [rgB, Bool.and_eq_true, List.all_eq_true, List.mem_range, decide_eq_true_eq, Bool.or_eq_true, List.contains_iff_mem] at hB
  obtain ⟨⟨hB1, hB2⟩, hB3⟩ := hB
  have hback : ∀ i d, d ∈ depsOf ops i → d < i := fun i d hd => by
    rcases Nat.lt_or_ge i ops.size with h | h
    · exact hB1 i h d hd
    · simp [depsOf, Array.getElem?_eq_none h] at hd
  have htail : ∀ j, k ≤ j → j < ops.size → ∀ i, i < j → i ∈ closure ops r (depsOf ops j) := fun j hkj hj i hi => by
    rcases hB2 j hj with h | h
    · omega
    · exact h i hi
  have hdis : ∀ (i : Nat) (o : Oper), ops[i]? = some o → ∀ (j : Nat), i ≠ j → ∀ (oj : Oper) (t : Tmp), ops[j]? = some oj → o.dst = some t → oj.dst ≠ some t := by
    intro i o ho j hij oj t hj ht hjt
    have hi' := (Array.getElem?_eq_some_iff.1 ho).1
    have hj' := (Array.getElem?_eq_some_iff.1 hj).1
    rcases hB3 i hi' j hj' with h | h
    · rcases h with h | h
      · exact hij h
      · simp [ho, ht] at h
    · simp [ho, hj, ht, hjt] at h
  intro m
  induction m with
  | zero =>
    intro listed a w hI hu hm
    have hall : ∀ i, i < k → listed.getD i false = true := fun i hi => by
      have h0 := List.eq_nil_of_length_eq_zero hm
      have := List.eq_nil_iff_forall_not_mem.1 h0 i
      simp only [List.mem_filter, List.mem_range, not_and, Bool.not_eq_true', Bool.not_eq_false] at this
      exact this hi
    exact wpAny_tail hback r k htail (ops.size - k) k listed a w (Nat.le_refl _) (by omega) hI.lsize hall (fun i h1 _ => hu i h1) hI.closed
      (hend listed a w hI (fun i hi _ => hall i hi) hu) _ (by omega)
  | succ m ih =>
    intro listed a w hI hu hm
    obtain ⟨i0, hi0, hun0⟩ : ∃ i, i < k ∧ listed.getD i false = false := by
      cases hf : (List.range k).filter fun i => !listed.getD i false with
      | nil => rw [hf] at hm; simp at hm
      | cons x xs =>
        have hx : x ∈ (List.range k).filter fun i => !listed.getD i false := by rw [hf]; simp
        simp only [List.mem_filter, List.mem_range, Bool.not_eq_true'] at hx
        exact ⟨x, hx.1, hx.2⟩
    have hfu : m + 1 + (ops.size - k) = (m + (ops.size - k)) + 1 := by omega
    rw [hfu]
    refine ⟨fun h0 => ?_, fun i hi => ?_⟩
    · obtain ⟨i, _, hi⟩ := ready_exists hback hI.lsize i0 i0 (Nat.le_refl _) (by omega) hun0
      rw [h0] at hi
      cases hi
    · obtain ⟨hun, o, ho, _⟩ := mem_ready.1 hi
      have hilt := (Array.getElem?_eq_some_iff.1 ho).1
      obtain ⟨hunf, hil⟩ := getD_true_false hun
      have hik : i < k := by
        rcases Nat.lt_or_ge i k with h | h
        · exact h
        · have := closure_listed hI.closed r _ (depsOf_ready hi) i0 (htail i h hilt i0 (by omega))
          rw [hun0] at this
          cases this
      have hs := hstep i hik o ho a.eval w hI.cls (fun _ => rfl) (fun _ => rfl) (fun _ => rfl) (fun d t hdt => by
          simp only [rgDep, Bool.and_eq_true, List.contains_iff_mem, beq_iff_eq] at hdt
          have hdl := depsOf_ready hi d hdt.1
          have hdlt : d < ops.size := by have := hback i d hdt.1; omega
          have hod : ops[d]? = some ops[d] := Array.getElem?_eq_getElem hdlt
          exact hI.vals d ops[d] t hod hdl (by have := hdt.2; rw [hod] at this; simpa using this))
        (fun t hft => by
          simp only [rgFree, Array.all_eq_true_iff_forall_mem] at hft
          have := hI.rest t fun j oj hj _ => by
            have := hft oj (Array.mem_of_getElem? hj)
            simpa using this
          simp [Act.eval, Array.getD_eq_getD_getElem?, this])
      have hcount : ((List.range k).filter fun x => !(listed.setIfInBounds i true).getD x false).length = m := by
        have h1 : ((List.range k).filter fun x => !(listed.setIfInBounds i true).getD x false) = ((List.range k).filter fun x => !listed.getD x false).erase i := by
          have hnd : ((List.range k).filter fun x => !listed.getD x false).Nodup := List.Pairwise.filter _ List.nodup_range
          rw [List.Nodup.erase_eq_filter hnd, List.filter_filter]
          refine List.filter_congr fun x _ => ?_
          by_cases hxi : i = x
          · subst hxi
            rw [getD_set_self hil]
            simp
          · rw [getD_set_ne false hxi]
            have : (x != i) = true := by simp; omega
            rw [this, Bool.true_and]
        rw [h1, List.length_erase_of_mem]
        · omega
        · simp only [List.mem_filter, List.mem_range, Bool.not_eq_true']
          exact ⟨hik, hunf⟩
      have hu' : ∀ x, k ≤ x → (listed.setIfInBounds i true).getD x false = false := fun x hx => by
        rw [getD_set_ne false (by omega)]; exact hu x hx
      unfold wpOp
      simp only [ho]
      rw [yielded_eval]
      split
      · rename_i hw
        rw [if_pos hw] at hs
        refine .inl (wp_of_grow hs fun v w' hv => ?_)
        exact ih _ _ _ (hI.put ho hi (hdis i o ho) (fun t => hlt i o t ho) hst hv.1 hv.2.1 hv.2.2) hu' hcount
      · rename_i hw
        rw [if_neg hw] at hs
        exact ih _ _ _ (hI.put ho hi (hdis i o ho) (fun t => hlt i o t ho) hst hI.cls (Gr.refl w) hs) hu' hcount

/-- the frame with all values of the first k operations put -/
def putAll (ops : Array Oper) (vs : Nat → Value) : Nat → Act → Act
  | 0, a => a
  | k + 1, a => (putAll ops vs k a).put ((ops[k]?).bind (·.dst)) (vs k)

theorem putAll_defers (vs : Nat → Value) (a : Act) : ∀ k, (putAll ops vs k a).defers = a.defers
  | 0 => rfl
  | k + 1 => by
    unfold putAll
    cases (ops[k]?).bind (·.dst) <;> simp only [Act.put] <;> exact putAll_defers vs a k
theorem putAll_size (vs : Nat → Value) (a : Act) : ∀ k, (putAll ops vs k a).tmps.size = a.tmps.size
  | 0 => rfl
  | k + 1 => by
    unfold putAll
    cases (ops[k]?).bind (·.dst) <;> simp [Act.put, putAll_size vs a k]
theorem putAll_other (vs : Nat → Value) (a : Act) (t : Tmp) : ∀ k, (∀ i, i < k → (ops[i]?).bind (·.dst) ≠ some t) → (putAll ops vs k a).tmps[t]? = a.tmps[t]?
  | 0, _ => rfl
  | k + 1, h => by
    unfold putAll
    have h0 := h k (by omega)
    have ih := putAll_other vs a t k fun i hi => h i (by omega)
    cases hd : (ops[k]?).bind (·.dst) with
    | none => simpa [Act.put] using ih
    | some s =>
      have hne : s ≠ t := fun e => h0 (by rw [hd, e])
      simp [Act.put, Array.getElem?_setIfInBounds_ne hne, ih]
theorem putAll_at (vs : Nat → Value) (a : Act) (t : Tmp) (ht : t < a.tmps.size) (i : Nat) (hi : (ops[i]?).bind (·.dst) = some t) : ∀ k, i < k → (∀ j, j < k → i ≠ j → (ops[j]?).bind (·.dst) ≠ some t) →
    (putAll ops vs k a).tmps[t]? = some (vs i)
  | 0, h, _ => by omega
  | k + 1, h, hd => by
    unfold putAll
    by_cases hik : i = k
    · subst hik
      rw [hi]
      simp [Act.put, putAll_size, ht]
    · have ih := putAll_at vs a t ht i hi k (by omega) fun j hj => hd j (by omega)
      have h0 := hd k (by omega) hik
      cases hdk : (ops[k]?).bind (·.dst) with
      | none => simpa [Act.put] using ih
      | some s =>
        have hne : s ≠ t := fun e => h0 (by rw [hdk, e])
        simp [Act.put, Array.getElem?_setIfInBounds_ne hne, ih]

/-- THE RULE -/
theorem wp_region_rg {id : Nat} {l : List Oper} {a : Act} {w : World} (k r : Nat) (C : World → Prop) (V : Nat → Value → World → Prop)
    (hm : P.follows .mixedOrders = true) (hB : rgB l.toArray k r = true) (hlt : (l.all fun o => match o.dst with | some t => decide (t < a.tmps.size) | none => true) = true) (hk : k ≤ l.length)
    (hC : C w.drew) (hst : ∀ i v w w', C w → C w' → Gr w w' → V i v w → V i v w') (hstep : ∀ i, i < k → RgStep P l.toArray C V a i)
    (hend : ∀ (vs : Nat → Value) (w' : World), C w' → (∀ i, i < k → ((l.toArray[i]?).bind (·.dst)).isSome = true → V i (vs i) w') → wpList P l.toArray Q (l.drop k) (putAll l.toArray vs k a) w') :
    (Code.region id l.toArray true).wp P Q a w := by
  have hlt' : ∀ (i : Nat) (o : Oper) (t : Tmp), l.toArray[i]? = some o → o.dst = some t → t < a.tmps.size := fun i o t ho ht => by
    have := List.all_eq_true.1 hlt o (by have := Array.mem_of_getElem? ho; simpa using this)
    simpa [ht] using this
  refine wp_region_any hm ?_
  have hsz : l.toArray.size = k + (l.toArray.size - k) := by simp; omega
  rw [hsz]
  have hnot : ∀ n i, (Array.replicate n false).getD i false = false := fun n i => by
    by_cases h : i < n <;> simp [h]
  have hrep : Array.replicate (k + (l.toArray.size - k)) false = Array.replicate l.toArray.size false := by rw [← hsz]
  rw [hrep]
  refine wpAny_rg (C := C) (V := V) (a0 := a) k r hB hlt' hst hstep ?_ (by simpa using hk) k _ a _ ⟨hC, rfl, rfl, by simp, fun i o t _ h => ?_, fun t _ => rfl, fun i h => ?_⟩ (fun i _ => hnot _ i) ?_
  · intro listed a' w' hI hall hu
    have hdis := hB
    simp only [rgB, Bool.and_eq_true, List.all_eq_true, List.mem_range, decide_eq_true_eq, Bool.or_eq_true, List.contains_iff_mem] at hdis
    have hB3 := hdis.2
    let vs : Nat → Value := fun i => a'.eval (.tmp (((l.toArray[i]?).bind (·.dst)).getD 0))
    have heq : a' = putAll l.toArray vs k a := by
      have h1 : a'.tmps = (putAll l.toArray vs k a).tmps := by
        apply Array.ext_getElem?
        intro t
        by_cases hex : ∃ i, i < k ∧ (l.toArray[i]?).bind (·.dst) = some t
        · obtain ⟨i, hik, hit⟩ := hex
          cases hoi : l.toArray[i]? with
          | none => rw [hoi] at hit; simp at hit
          | some o =>
            rw [hoi] at hit
            have hdt : o.dst = some t := by simpa using hit
            have htl := hlt' i o t hoi hdt
            rw [putAll_at vs a t htl i (by rw [hoi]; exact hit) k hik ?_]
            · have : vs i = a'.eval (.tmp t) := by simp only [vs, hoi]; simp [hdt]
              rw [this]
              have hts : t < a'.tmps.size := by rw [hI.size]; exact htl
              simp [Act.eval, hts]
            · intro j hj hij hjt
              have hi' := (Array.getElem?_eq_some_iff.1 hoi).1
              cases hoj : l.toArray[j]? with
              | none => rw [hoj] at hjt; simp at hjt
              | some oj =>
                have hj' := (Array.getElem?_eq_some_iff.1 hoj).1
                rcases hB3 i hi' j hj' with h | h
                · rcases h with h | h
                  · exact hij h
                  · simp [hoi, hdt] at h
                · rw [hoj] at hjt
                  simp only [hoi, hoj] at h
                  simp only [Option.bind_some] at h hjt
                  rw [hdt, hjt] at h
                  simp at h
        · rw [putAll_other vs a t k fun i hi h => hex ⟨i, hi, h⟩]
          refine hI.rest t fun i o ho hl hd => ?_
          rcases Nat.lt_or_ge i k with h | h
          · exact hex ⟨i, h, by rw [ho]; simpa using hd⟩
          · rw [hu i h] at hl; cases hl
      have h2 : a'.defers = (putAll l.toArray vs k a).defers := by rw [putAll_defers]; exact hI.defers
      calc a' = ⟨a'.tmps, a'.defers⟩ := rfl
        _ = ⟨(putAll l.toArray vs k a).tmps, (putAll l.toArray vs k a).defers⟩ := by rw [h1, h2]
        _ = putAll l.toArray vs k a := rfl
    rw [heq]
    simp only
    refine hend vs w' hI.cls fun i hi hs => ?_
    cases hoi : l.toArray[i]? with
    | none => rw [hoi] at hs; simp at hs
    | some o =>
      rw [hoi] at hs
      obtain ⟨t, ht⟩ := Option.isSome_iff_exists.1 (show o.dst.isSome = true by simpa using hs)
      have hil := (Array.getElem?_eq_some_iff.1 hoi).1
      have := hI.vals i o t hoi (hall i hi hil) ht
      have hv : vs i = a'.eval (.tmp t) := by simp only [vs, hoi]; simp [ht]
      rw [hv]; exact this
  · rw [hnot] at h; cases h
  · rw [hnot] at h; cases h
  · have : ((List.range k).filter fun i => !(Array.replicate l.toArray.size false).getD i false) = List.range k := by
      rw [List.filter_eq_self]
      intro i _
      rw [hnot]; rfl
    rw [this]; simp
/-- the rule, at the class of all worlds that have grown out of the region's own -/
theorem wp_region_gr {id : Nat} {l : List Oper} {a : Act} {w : World} (k r : Nat) (V : Nat → Value → World → Prop)
    (hm : P.follows .mixedOrders = true) (hB : rgB l.toArray k r = true) (hlt : (l.all fun o => match o.dst with | some t => decide (t < a.tmps.size) | none => true) = true) (hk : k ≤ l.length)
    (hst : ∀ (i : Nat) (v : Value) (w w' : World), Gr w w' → V i v w → V i v w') (hstep : ∀ i, i < k → RgStep P l.toArray (Gr w) V a i)
    (hend : ∀ (vs : Nat → Value) (w' : World), Gr w w' → (∀ i, i < k → ((l.toArray[i]?).bind (·.dst)).isSome = true → V i (vs i) w') → wpList P l.toArray Q (l.drop k) (putAll l.toArray vs k a) w') :
    (Code.region id l.toArray true).wp P Q a w :=
  wp_region_rg k r (Gr w) V hm hB hlt hk (Below.refl _ _).drew (fun i v w w' _ _ => hst i v w w') hstep hend
end
end Go.Proofs.YtlffpgjkhehdmaaDoor
