/- Own work: the deferred closure of verify's shapes: entered as its function returns, and as it panics. -/
import Derived.Test.YtlffpgjkhehdmaaDoorChecked
import Derived.Tactics
import Derived.Tactics2
import Derived.Defers
import Derived.Recover
import Derived.Laws.Pointers
import Derived.WalkKit
import Derived.OneCell
import Derived.Below
import Derived.Test.YtlffpgjkhehdmaaDoorZGC
import Derived.Test.YtlffpgjkhehdmaaDoorZGD
import Derived.Test.YtlffpgjkhehdmaaDoorZGB
import Derived.Test.YtlffpgjkhehdmaaDoorZGG
namespace Go.Proofs.YtlffpgjkhehdmaaDoor
open Go.RowKit
set_option maxRecDepth 100000

theorem lt_of_heap0 {w : World} {c : Nat} {o : Obj} (h : w.heap[c]? = some o) : c < w.heap.size := (Array.getElem?_eq_some_iff.1 h).1
theorem one_cell {w : World} {c : Nat} {x : Value} {t : TypeId} (h : w.heap[c]? = some (.cells #[x] t (0, 0))) : w.cell? ⟨c, 0, none⟩ = some x ∧ w.frozen? ⟨c, 0, none⟩ = false := by
  constructor
  · unfold World.cell?; simp only [h]; rfl
  · unfold World.frozen?; simp only [h]; rfl
theorem one_alloc {w : World} {c : Nat} {x : Value} {t : TypeId} (h : w.heap[c]? = some (.cells #[x] t (0, 0))) (o : Obj) : (w.alloc o).heap[c]? = some (.cells #[x] t (0, 0)) ∧ (w.alloc o).cell? ⟨c, 0, none⟩ = some x ∧ (w.alloc o).frozen? ⟨c, 0, none⟩ = false := by
  have h1 : (w.alloc o).heap[c]? = some (.cells #[x] t (0, 0)) := by
    unfold World.alloc
    have := lt_of_heap0 h
    show (w.heap.push o)[c]? = _
    rw [Array.getElem?_push, if_neg (by omega)]
    exact h
  exact ⟨h1, one_cell h1⟩
theorem run_stv {P : Program} {o : Oper} {t : TypeId} {p q : Operand} (ho : o.op = .store t p q) {ρ : Operand → Value} {a : Addr} {v x : Value} (hp : ρ p = .pointer (some a)) (hs : ∀ w : World, (storeVar t a (ρ q)).run P w = (store a v).run P w) (hv : ∀ w : World, (store a v).run P w = stored P w a v .plain) {w : World} (h1 : w.cell? a = some x) (h2 : w.frozen? a = false) : (execOp ρ o).run P w = .ok .skip (w.setCell a v) := by
  have h3 : (store a v).run P w = .ok () (w.setCell a v) := by rw [hv]; simp [stored, h1, h2]
  have h4 := hs w
  rw [h3] at h4
  simp only [execOp, ho, hp, Instr.storeAt, Instr.sureAddr, Sem.run_bind, Sem.run_pure, Result.andThen_ok, h4]
section
variable {P : Program} {ops : Array Oper} {Q : Exit → Act → World → Prop} {a : Act} {w w' : World} {rest : List Oper} {o : Oper}
theorem ls_value {v : Value} (hw : Region.wanted o (yielded ops a.tmps) = true) (he : (execOp a.eval o).run P w = .ok (.value v) w') (h : wpList P ops Q rest (a.put o.dst v) w') : wpList P ops Q (o :: rest) a w := by
  unfold wpList
  rw [if_pos hw]
  refine .inl ?_
  unfold Oper.wp
  rw [he]
  exact h
theorem ls_none (hw : Region.wanted o (yielded ops a.tmps) = true) (he : (execOp a.eval o).run P w = .ok .skip w') (h : wpList P ops Q rest (a.put o.dst undef) w') : wpList P ops Q (o :: rest) a w := by
  unfold wpList
  rw [if_pos hw]
  refine .inl ?_
  unfold Oper.wp
  rw [he]
  exact h
end
/-- what demand raises -/
def unsafeCh0 : List PanicEntry := [{ v := .iface 111 (.agg #[]), recovered := false }]
theorem catch_idle (c d : Nat) (w : World) : CallsD Tryd.prog 62 #[.pointer (some ⟨c, 0, none⟩), .pointer (some ⟨d, 0, none⟩)] .returning w fun e u' w' => e = .returned (.tuple #[]) ∧ u' = .returning ∧ w' = w := by
  have hne : ∀ w : World, (binOp BinOp.neq 20 .nilIface .nilIface).run Tryd.prog w = .ok (.bool false) w := fun _ => by kernel_rfl
  refine callsD_of_wpS Tryd.func62 rfl fun c₀ cs hu => ?_
  apply wpS_seq
  apply wpS_region
  simp [wpOpsS, go_sem, recoverD, hu, Tryd.ntmps62, Exit.thenS]
  apply wpS_seq
  apply wpS_region
  simp [wpOpsS, go_sem, hne, Exit.thenS]
  refine wpS_cond (t := false) (by simp [Act.eval, Array.replicate]) ?_
  simp only [Bool.false_eq_true, if_false]
  refine wpS_of_wp (wp_skip ?_)
  cases c₀
  simp_all [bodyPostS, results, Tryd.results62]

/-- what the closure leaves behind where it ends a panic: the two results are set -/
theorem catch_unsafe (c d : Nat) (hcd : c ≠ d) (x y : Value) (w : World) (hc : w.heap[c]? = some (.cells #[x] 43 (0, 0))) (hd : w.heap[d]? = some (.cells #[y] 4 (0, 0))) :
    CallsD Tryd.prog 62 #[.pointer (some ⟨c, 0, none⟩), .pointer (some ⟨d, 0, none⟩)] (.panicking unsafeCh0) w fun e u' w' => e = .returned (.tuple #[]) ∧ settle u' = .returning ∧
      w' = ((w.alloc (.cells #[] 111)).setCell ⟨c, 0, none⟩ (.slice none 0 0)).setCell ⟨d, 0, none⟩ (.bool false) := by
  have hne : ∀ w : World, (binOp BinOp.neq 20 (.iface 111 (.agg #[])) .nilIface).run Tryd.prog w = .ok (.bool true) w := fun _ => by kernel_rfl
  refine callsD_of_wpS Tryd.func62 rfl fun c₀ cs hu => ?_
  apply wpS_seq
  apply wpS_region
  simp [wpOpsS, go_sem, recoverD, hu, unsafeCh0, Tryd.ntmps62, Exit.thenS]
  apply wpS_seq
  apply wpS_region
  simp [wpOpsS, go_sem, hne, Exit.thenS]
  refine wpS_cond (t := true) (by simp [Act.eval, Array.replicate]) ?_
  simp only [if_true]
  refine wpS_of_wp ?_
  refine wp_seq ?_
  refine wp_seq ?_
  refine wp_region_list ?_
  refine ls_value (v := .iface 111 (.agg #[])) (w' := w) (by kernel_rfl) (by kernel_rfl) ?_
  refine ls_value (v := .tuple #[.agg #[], .bool true]) (w' := w) (by kernel_rfl) (by kernel_rfl) ?_
  refine ls_value (v := .tuple #[.agg #[], .bool true]) (w' := w) (by kernel_rfl) (by kernel_rfl) ?_
  refine ls_value (v := .agg #[]) (w' := w) (by kernel_rfl) (by kernel_rfl) ?_
  refine ls_value (v := .bool true) (w' := w) (by kernel_rfl) (by kernel_rfl) ?_
  refine ls_value (v := .pointer (some ⟨w.heap.size, 0, none⟩)) (w' := w.alloc (.cells #[] 111)) (by kernel_rfl) (by kernel_rfl) ?_
  refine ls_none (w' := w.alloc (.cells #[] 111)) (by kernel_rfl) (by kernel_rfl) ?_
  refine ls_value (v := .bool true) (w' := w.alloc (.cells #[] 111)) (by kernel_rfl) (by kernel_rfl) ?_
  refine wp_seq ?_
  refine wp_region_list ?_
  refine ls_value (v := .bool true) (w' := w.alloc (.cells #[] 111)) (by kernel_rfl) (by kernel_rfl) ?_
  refine ls_value (v := .bool false) (w' := w.alloc (.cells #[] 111)) (by kernel_rfl) (by kernel_rfl) ?_
  refine wp_cond (t := false) (by kernel_rfl) ?_
  simp only [Bool.false_eq_true, if_false]
  refine wp_skip ?_
  refine wp_region_list ?_
  obtain ⟨hc', h1, h2⟩ := one_alloc hc (.cells #[] 111)
  obtain ⟨hd', _, _⟩ := one_alloc hd (.cells #[] 111)
  generalize hW : w.alloc (.cells #[] 111) = W at hc' hd' h1 h2 ⊢
  refine ls_none (w' := W.setCell ⟨c, 0, none⟩ (.slice none 0 0)) (by kernel_rfl) (run_stv (t := 43) (p := .tmp 0) (q := .const (.slice none 0 0)) rfl (by kernel_rfl) (fun w => by kernel_rfl) (fun w => run_store_slice ..) h1 h2) ?_
  have hd2 : (W.setCell ⟨c, 0, none⟩ (.slice none 0 0)).heap[d]? = some (.cells #[y] 4 (0, 0)) := by rw [Below.heap_setCell _ _ _ _ (Ne.symm hcd)]; exact hd'
  obtain ⟨h3, h4⟩ := one_cell hd2
  generalize hW2 : W.setCell ⟨c, 0, none⟩ (.slice none 0 0) = W2 at hd2 h3 h4 ⊢
  refine ls_none (w' := W2.setCell ⟨d, 0, none⟩ (.bool false)) (by kernel_rfl) (run_stv (t := 4) (p := .tmp 1) (q := .const (.bool false)) rfl (by kernel_rfl) (fun w => by kernel_rfl) (fun w => run_store_bool ..) h3 h4) ?_
  exact ⟨rfl, .panicking [{ v := .iface 111 (.agg #[]), recovered := true }], rfl, .tuple #[], by simp [results, Tryd.results62], rfl, rfl, rfl⟩
end Go.Proofs.YtlffpgjkhehdmaaDoor

/- Own work: the rule for verify's shapes: two results in variables, a deferred closure that ends demand's panic, and the rest of the body, which is walked over data. -/
namespace Go.Proofs.YtlffpgjkhehdmaaDoor
open Go.RowKit
set_option maxRecDepth 100000

/-- a box is told with its place -/
theorem Rel.tag {w0 : Base} {B : Nat → Prop} {w : World} {ι : Pl} {H : AH} (h : Rel w0 B w ι H) {k c : Nat} {s : Nat × Nat} {cs : List AV} {t : TypeId} (hk : H[k]? = some (some (.box cs t none))) (hi : ι[k]? = some (some c, s)) :
    Rel w0 B w ι (H.set k (some (.box cs t (some c)))) ∧ Keeps none w ι (Rd B ι H) w ι (Rd B ι (H.set k (some (.box cs t (some c))))) := by
  have hkl := (List.getElem?_eq_some_iff.1 hk).1
  have hS : ∀ i b, (H.set k (some (.box cs t (some c))))[i]? = some (some b) → ∃ b', H[i]? = some (some b') := fun i b hb => by
    rw [List.getElem?_set] at hb
    split at hb
    · rename_i e
      subst e
      exact ⟨_, hk⟩
    · exact ⟨_, hb⟩
  have hkp : Keeps none w ι (Rd B ι H) w ι (Rd B ι (H.set k (some (.box cs t (some c))))) := ⟨Nat.le_refl _, fun b hb _ => ⟨⟨hb.1, fun ⟨i, b', s', h1, h2⟩ => by
    obtain ⟨b0, h0⟩ := hS i b' h1
    exact hb.2 ⟨i, b0, s', h0, h2⟩⟩, rfl⟩, fun _ _ _ _ h => h⟩
  refine ⟨⟨h.gr, h.fut, by simp [h.len], fun i b c' s' h1 h2 => ?_, fun i j b b' c' s1 s2 h1 h2 h3 h4 => ?_⟩, hkp⟩
  · by_cases e : i = k
    · subst e
      rw [List.getElem?_set_self hkl] at h1
      cases h1
      rw [hi] at h2
      cases h2
      obtain ⟨g1, ⟨g2, _⟩, g3⟩ := h.blk i _ _ _ hk hi
      refine ⟨g1, ⟨g2, fun n e => by cases e; rfl⟩, ?_⟩
      obtain ⟨c'', arr, e, e1, e2, e3⟩ := g3
      exact ⟨c'', arr, e, e1, e2, fun j a ha => by
        obtain ⟨v, hv, hv1, hr⟩ := e3 j a ha
        exact ⟨v, hv, hv1, hr.keep0 hkp⟩⟩
    · rw [List.getElem?_set_ne (Ne.symm e)] at h1
      exact ⟨(h.blk i b c' s' h1 h2).1, (h.blk i b c' s' h1 h2).2.keep0 hkp fun _ _ => rfl⟩
  · obtain ⟨b0, g1⟩ := hS i b h1
    obtain ⟨b1, g2⟩ := hS j b' h2
    exact h.inj i j b0 b1 c' s1 s2 g1 g2 h3 h4
theorem RepE.keep1 {w w' : World} {ι ι' : Pl} {R R' : Nat → Prop} {env : List AV} {tmps : Array Value} (h : RepE w ι R env tmps) (hk : Keeps none w ι R w' ι' R') : RepE w' ι' R' env tmps := ⟨h.len, fun t x v hx hv => (h.at_ t x v hx hv).keep0 hk⟩

/-- a box of one cell -/
def isOne (H : AH) (k : Nat) (t : TypeId) (g : Nat) : Prop := match H[k]? with
  | some (some (.box cs t' g')) => cs.length = 1 ∧ t' = t ∧ g' = some g
  | _ => False
/-- what the body of shapes ends with -/
def shQ (E : SO) (T : TT) (rs : List ResultVar) (t1 t2 : Nat) (r : PV) (e : Exit) (env : List AV) (H : AH) : Prop :=
  match e with
  | .ret => retQ E T rs r .ret env H
  | .normal => retQ E T rs r .ret env H
  | .panic ch => ch = unsafeCh0 ∧ r = .tup [.v (.slice none 0 0), pB false] ∧ env.getD 2 .junk = .own 1 0 ∧ env.getD 3 .junk = .own 2 0 ∧ isOne H 1 43 t1 ∧ isOne H 2 4 t2
  | _ => False
def shEnv (a : PV) : List AV := [.p a, .own 0 0, .own 1 0, .own 2 0] ++ List.replicate 69 (.p (.v undef))
def shH (cs : List AV) (t1 t2 : Option Nat) : AH := [some (.box cs 50 none), some (.box [.p (.v (.slice none 0 0))] 43 t1), some (.box [.p (pB false)] 4 t2)]

section
variable {P : Program} {ops : Array Oper} {Q : Exit → Act → World → Prop} {a : Act} {w w' : World} {rest : List Oper} {o : Oper}
theorem ls_defer {d : Deferred} (hw : Region.wanted o (yielded ops a.tmps) = true) (he : (execOp a.eval o).run P w = .ok (.defer d) w') (h : wpList P ops Q rest ({ a with defers := d :: a.defers }.put o.dst undef) w') : wpList P ops Q (o :: rest) a w := by
  unfold wpList
  rw [if_pos hw]
  refine .inl ?_
  unfold Oper.wp
  rw [he]
  exact h
end
theorem wanted_none {o : Oper} (h : o.guard = none) (y : Nat → Option Bool) : Region.wanted o y = true := by unfold Region.wanted; rw [h]
theorem Rel.ds {w0 : Base} {B : Nat → Prop} {w : World} {ι : Pl} {H : AH} (h : Rel w0 B w ι H) (ds : List Deferred) : Rel ⟨w0.w, w0.X, ds, w0.pin⟩ B w ι H :=
  ⟨⟨h.gr.os, h.gr.tape, h.gr.output, h.gr.size, h.gr.block⟩, h.fut, h.len, h.blk, h.inj⟩
theorem one_at {w : World} {ι : Pl} {R : Nat → Prop} {c : Option Nat} {s : Nat × Nat} {cs : List AV} {t : TypeId} {g : Nat} (h : BlkAt w ι R c s (.box cs t (some g))) (hl : cs.length = 1) : c = some g ∧ ∃ x, w.heap[g]? = some (.cells #[x] t (0, 0)) := by
  obtain ⟨⟨_, h1⟩, c', arr, h2, h3, h4, _⟩ := h
  have e := h1 g rfl
  rw [e] at h2
  cases h2
  refine ⟨e, ?_⟩
  have : arr.size = 1 := by omega
  obtain ⟨x, rfl⟩ : ∃ x, arr = #[x] := by
    obtain ⟨l⟩ := arr
    obtain ⟨x, rfl⟩ := List.length_eq_one_iff.1 (by simpa using this)
    exact ⟨x, rfl⟩
  exact ⟨x, h3⟩
theorem isOne_at {H : AH} {k : Nat} {t : TypeId} {g : Nat} (h : isOne H k t g) : ∃ cs, H[k]? = some (some (.box cs t (some g))) ∧ cs.length = 1 := by
  unfold isOne at h
  split at h
  · rename_i cs t' g' e
    obtain ⟨h1, rfl, rfl⟩ := h
    exact ⟨cs, e, h1⟩
  · cases h
/-- the results, where they have been set -/
theorem results_set {w : World} {c d : Nat} (hc : w.heap[c]? = some (.cells #[.slice none 0 0] 43 (0, 0))) (hd : w.heap[d]? = some (.cells #[.bool false] 4 (0, 0))) {tmps : Array Value} (h2 : tmps.getD 2 undef = .pointer (some ⟨c, 0, none⟩)) (h3 : tmps.getD 3 undef = .pointer (some ⟨d, 0, none⟩)) :
    (results Tryd.f46 tmps).run Tryd.prog w = .ok (.tuple #[.slice none 0 0, .bool false]) w := by
  obtain ⟨h4, _⟩ := one_cell hc
  obtain ⟨h5, _⟩ := one_cell hd
  rw [Array.getD_eq_getD_getElem?] at h2 h3
  simp [results, Tryd.results46, h2, h3, go_sem, h4, h5]
/-- the call that is put off -/
def dfr (c d : Nat) : Deferred := ⟨.fn (.func 62) #[.pointer (some ⟨c, 0, none⟩), .pointer (some ⟨d, 0, none⟩)], #[]⟩
/-- THE RULE for verify's shapes -/
theorem shapes_rule (kOf : Nat → Nat) {r0 rest : Code} {rid : Nat} {o1 o2 : Oper} (hb : Tryd.f46.body = some (.seq r0 (.seq (.region rid #[o1, o2] false) rest)))
    (ho1 : o1.op = .makeFunc (.func 62) #[] #[.tmp 2, .tmp 3]) (hd1 : o1.dst = some 9) (hg1 : o1.guard = none) (ho2 : o2.op = .defer { callee := .value (.tmp 9), args := #[], argTypes := #[] }) (hd2 : o2.dst = none) (hg2 : o2.guard = none)
    (hk0 : codeOk 73 kOf r0 = true) (hk1 : codeOk 73 kOf rest = true) {a : PV} {r : PV} {cs : List AV}
    (h0 : ∀ (P' : Program) (G' : World → Prop) (E : SO), awp P' G' E tyT kOf r0 (fun e env H => e = .normal ∧ env = shEnv a ∧ H = shH cs none none) (.p a :: List.replicate 72 (.p (.v undef))) [])
    (h1 : ∀ (P' : Program) (G' : World → Prop) (E : SO), (∀ f l r, Ret Tryd.prog G0 f l r → Ret P' G' f l r) → (∀ f xs H r H', RetM Tryd.prog G0 f xs H r H' → RetM P' G' f xs H r H') → E = stdE → ∀ t1 t2 : Nat,
      awp P' G' E tyT kOf rest (shQ E tyT Tryd.f46.results.toList t1 t2 r) ((shEnv a).set 9 .junk) (shH cs (some t1) (some t2))) : V0 46 [a] r := by
  refine ⟨enters_of Tryd.func46 hb (by kernel_rfl), fun w B args hG hlen hargs => ?_⟩
  refine calls_of_wp_defers Tryd.func46 hb ?_
  have hB0 : ∀ b, (Base.of w).own b → B b ∨ w.heap.size ≤ b := fun b hb => hb.elim (fun h => h.elim) .inr
  have hS : St (Base.of w) (fun b => B b ∨ w.heap.size ≤ b) 73 (.p a :: List.replicate 72 (.p (.v undef))) [] { tmps := args.toArray ++ Array.replicate (73 - args.toArray.size) undef, defers := [] } w := by
    refine ⟨rfl, ?_, (fun t v h => by cases h), [], ⟨.of (Gr.refl _), fun b hb => .inr hb, rfl, fun k b c s h1 => by simp at h1, fun k l b b' c s s' h1 => by simp at h1⟩, ?_⟩
    · have : args.length = 1 := by simpa using hlen.symm
      simp [this]
    · have := start_env (w := w) (ι := []) (R := Rd (fun b => B b ∨ w.heap.size ≤ b) [] []) (args := args) (nt := 73) (show ([AV.p a] : List AV).length ≤ 73 by simp) (by simpa using hlen) fun j x v ha hv => by
        cases j with
        | zero =>
          simp at ha
          subst ha
          refine .p _ _ ((hargs 0 a v rfl hv).keep (Nat.le_refl _) fun b hb _ => ⟨⟨.inl hb, ?_⟩, rfl⟩)
          rintro ⟨k, b', s, h1, _⟩
          simp at h1
        | succ j => simp at ha
      simpa using this
  refine wp_seq (wp_mono (awp_sound tyT_ok (fun w' hg => g0_gr _ _ hg.gr hG) hB0 mixed kOf r0 (dstK_none (fun _ => rfl) _) hk0 _ _ _ _ w (h0 Tryd.prog G0 stdE) hS) ?_)
  rintro e a1 w1 ⟨env, H, ⟨rfl, rfl, rfl⟩, hS1⟩
  obtain ⟨ι, hR, hE⟩ := hS1.rep
  have e2 : Rep w1 ι (Rd (fun b => B b ∨ w.heap.size ≤ b) ι (shH cs none none)) (.own 1 0) (a1.eval (.tmp 2)) := hE.eval (.tmp 2)
  have e3 : Rep w1 ι (Rd (fun b => B b ∨ w.heap.size ≤ b) ι (shH cs none none)) (.own 2 0) (a1.eval (.tmp 3)) := hE.eval (.tmp 3)
  obtain ⟨c, sc, v2, hi1⟩ : ∃ c s, a1.eval (.tmp 2) = .pointer (some ⟨c, 0, none⟩) ∧ ι[1]? = some (some c, s) := by
    generalize a1.eval (.tmp 2) = v at e2 ⊢
    cases e2 with
    | own _ _ c s h => exact ⟨c, s, rfl, h⟩
  obtain ⟨d, sd, v3, hi2⟩ : ∃ c s, a1.eval (.tmp 3) = .pointer (some ⟨c, 0, none⟩) ∧ ι[2]? = some (some c, s) := by
    generalize a1.eval (.tmp 3) = v at e3 ⊢
    cases e3 with
    | own _ _ c s h => exact ⟨c, s, rfl, h⟩
  have hcd : c ≠ d := fun e => by
    subst e
    have := hR.inj 1 2 _ _ c sc sd rfl rfl hi1 hi2
    omega
  obtain ⟨hRa, hka⟩ := hR.tag (k := 1) rfl hi1
  obtain ⟨hRb, hkb⟩ := hRa.tag (k := 2) rfl hi2
  have hEb := (hE.keep1 hka).keep1 hkb
  have hkab : Keeps none w1 ι (Rd (fun b => B b ∨ w.heap.size ≤ b) ι (shH cs none none)) w1 ι (Rd (fun b => B b ∨ w.heap.size ≤ b) ι (shH cs (some c) (some d))) := ⟨Nat.le_refl _, fun b hb hl => ⟨(hkb.read b (hka.read b hb hl).1 hl).1, rfl⟩, fun _ _ _ _ h => h⟩
  have hmf : ∀ (fn : Go.Fn) (first cap : Array Value) (w : World), (Instr.makeFunc fn first cap).run Tryd.prog w = .ok (.func fn first cap) w := fun _ _ _ _ => rfl
  refine wp_seq (wp_region_list ?_)
  refine ls_value (v := .func (.func 62) #[] #[.pointer (some ⟨c, 0, none⟩), .pointer (some ⟨d, 0, none⟩)]) (w' := w1) (wanted_none hg1 _) (by simp [execOp, ho1, v2, v3, hmf]) ?_
  rw [hd1]
  have hsz : a1.tmps.size = 73 := hS1.size
  have h9 : (a1.put (some 9) (.func (.func 62) #[] #[.pointer (some ⟨c, 0, none⟩), .pointer (some ⟨d, 0, none⟩)])).eval (.tmp 9) = .func (.func 62) #[] #[.pointer (some ⟨c, 0, none⟩), .pointer (some ⟨d, 0, none⟩)] := by
    simp [Act.eval, Act.put, Array.getD_eq_getD_getElem?, hsz]
  refine ls_defer (d := dfr c d) (w' := w1) (wanted_none hg2 _) (by simp [execOp, ho2, resolve, h9, Deferred.ofValue, dfr]) ?_
  rw [hd2]
  have hpm := hE.put (d := some 9) (a := a1) (x := .junk) (v := .func (.func 62) #[] #[.pointer (some ⟨c, 0, none⟩), .pointer (some ⟨d, 0, none⟩)]) hkab (.junk _)
  have hS2 : St ⟨w, fun _ => False, [dfr c d], fun _ => none⟩ (fun b => B b ∨ w.heap.size ≤ b) 73 ((shEnv a).set 9 .junk) (shH cs (some c) (some d))
    (Act.put { a1.put (some 9) (.func (.func 62) #[] #[.pointer (some ⟨c, 0, none⟩), .pointer (some ⟨d, 0, none⟩)]) with defers := dfr c d :: a1.defers } none undef) w1 :=
    ⟨by have := hS1.defers; show _ :: a1.defers = _; rw [this]; rfl, by simpa [Act.put] using hsz, (fun t v h => by cases h), ι, hRb.ds _, hpm⟩
  change Code.wp Tryd.prog rest _ _ w1
  refine wp_mono (awp_sound (w0 := ⟨w, fun _ => False, [dfr c d], fun _ => none⟩) tyT_ok (fun w' _ => trivial) hB0 mixed kOf rest (dstK_none (fun _ => rfl) _) hk1 _ _ _ _ w1 (h1 Tryd.prog G0 stdE (fun _ _ _ h => h) (fun _ _ _ _ _ h => h) rfl c d) hS2) ?_
  rintro e a2 w2 ⟨env, H, hQ, hS3⟩
  obtain ⟨ι2, hR2, hE2⟩ := hS3.rep
  have hinv : (invoke (.fn (.func 62) #[.pointer (some ⟨c, 0, none⟩), .pointer (some ⟨d, 0, none⟩)]) #[]).run Tryd.prog w2 = .ok (.enter 62 #[.pointer (some ⟨c, 0, none⟩), .pointer (some ⟨d, 0, none⟩)]) w2 := by
    simp [invoke, enters Tryd.func62 (by kernel_rfl) (by kernel_rfl)]
  have hB0' : ∀ b, (Base.mk w (fun _ => False) [dfr c d] fun _ => none).own b → B b ∨ w.heap.size ≤ b := hB0
  have hgr : Gr w w2 := ⟨hR2.gr.os, hR2.gr.tape, hR2.gr.output, hR2.gr.size, fun k hk => hR2.gr.block k hk id⟩
  have fin : retQ stdE tyT Tryd.f46.results.toList r .ret env H → Leaves Tryd.prog Tryd.f46 a2.tmps (fun e w' => Gr w w' ∧ Ends w' (fun b => B b ∨ w.heap.size ≤ b) r e) a2.defers .returning w2 := by
    intro h
    rw [hS3.defers]
    refine leaves_cons (f := 62) (args := #[.pointer (some ⟨c, 0, none⟩), .pointer (some ⟨d, 0, none⟩)]) (by simp) hinv ?_
    refine (catch_idle c d w2).mono ?_
    rintro e u' w' ⟨rfl, rfl, rfl⟩
    obtain ⟨x, v, hx, hrun, hv⟩ := results_run (K := fun a => frz stdE H a fun p => p = r) tyT_ok hR2 hE2 h
    obtain ⟨p, rfl, hp⟩ := frz_sound hR2 hB0' x v _ hx hv
    exact ⟨v, hrun, hgr, .ret hp⟩
  cases e with
  | ret => exact fin hQ
  | normal => exact fin hQ
  | exit id => cases hQ
  | goto l => cases hQ
  | panic ch =>
    obtain ⟨rfl, rfl, q2, q3, b1, b2⟩ := hQ
    obtain ⟨cs1, k1, l1⟩ := isOne_at b1
    obtain ⟨cs2, k2, l2⟩ := isOne_at b2
    obtain ⟨⟨c', s1⟩, hp1⟩ : ∃ x, ι2[1]? = some x := ⟨_, List.getElem?_eq_getElem (by rw [hR2.len]; exact (List.getElem?_eq_some_iff.1 k1).1)⟩
    obtain ⟨⟨d', s2⟩, hp2⟩ : ∃ x, ι2[2]? = some x := ⟨_, List.getElem?_eq_getElem (by rw [hR2.len]; exact (List.getElem?_eq_some_iff.1 k2).1)⟩
    obtain ⟨rfl, x, hx⟩ := one_at (hR2.blk 1 _ _ _ k1 hp1).2 l1
    obtain ⟨rfl, y, hy⟩ := one_at (hR2.blk 2 _ _ _ k2 hp2).2 l2
    have hcw : w.heap.size ≤ c := ((hR2.blk 1 _ _ _ k1 hp1).1 c rfl).elim (fun h => h.elim) id
    have hdw : w.heap.size ≤ d := ((hR2.blk 2 _ _ _ k2 hp2).1 d rfl).elim (fun h => h.elim) id
    have t2 : a2.tmps.getD 2 undef = .pointer (some ⟨c, 0, none⟩) := by
      have h := hE2.eval (.tmp 2)
      have e : aev env (.tmp 2) = .own 1 0 := q2
      rw [e] at h
      simp only [Act.eval] at h
      generalize a2.tmps.getD 2 undef = v at h ⊢
      cases h with
      | own _ _ c'' s h => rw [hp1] at h; cases h; rfl
    have t3 : a2.tmps.getD 3 undef = .pointer (some ⟨d, 0, none⟩) := by
      have h := hE2.eval (.tmp 3)
      have e : aev env (.tmp 3) = .own 2 0 := q3
      rw [e] at h
      simp only [Act.eval] at h
      generalize a2.tmps.getD 3 undef = v at h ⊢
      cases h with
      | own _ _ c'' s h => rw [hp2] at h; cases h; rfl
    show Leaves Tryd.prog Tryd.f46 a2.tmps _ a2.defers (.panicking unsafeCh0) w2
    rw [hS3.defers]
    refine leaves_cons (f := 62) (args := #[.pointer (some ⟨c, 0, none⟩), .pointer (some ⟨d, 0, none⟩)]) (by simp) hinv ?_
    refine (catch_unsafe c d hcd x y w2 hx hy).mono ?_
    rintro e u' w' ⟨rfl, hu, rfl⟩
    simp only
    rw [hu]
    have z1 := (one_alloc hx (.cells #[] 111)).1
    have z2 := (one_alloc hy (.cells #[] 111)).1
    have z3 := one_setCell (u := .slice none 0 0) z1
    have z4 : ((w2.alloc (.cells #[] 111)).setCell ⟨c, 0, none⟩ (.slice none 0 0)).heap[d]? = some (.cells #[y] 4 (0, 0)) := by rw [Below.heap_setCell _ _ _ _ (Ne.symm hcd)]; exact z2
    have z5 := one_setCell (u := .bool false) z4
    have z6 : (((w2.alloc (.cells #[] 111)).setCell ⟨c, 0, none⟩ (.slice none 0 0)).setCell ⟨d, 0, none⟩ (.bool false)).heap[c]? = some (.cells #[.slice none 0 0] 43 (0, 0)) := by rw [Below.heap_setCell _ _ _ _ hcd]; exact z3
    refine ⟨_, results_set z6 z5 t2 t3, ?_, .ret (repP_tup2 _ _)⟩
    exact (((show Below w.heap.size w w2 from hgr).alloc hgr.size _).setCell hcw _).setCell hdw _
  | outgrown => cases hQ
end Go.Proofs.YtlffpgjkhehdmaaDoor

/- Own work: package verify: visit. -/
namespace Go.Proofs.YtlffpgjkhehdmaaDoor
open Go.RowKit
set_option maxRecDepth 100000

def pInfo (op : Int) : PV := .agg [.v (.string (nameOf op)), pI (operandOf op), pI (popsOf op), pI (pushesOf op), pB (cntOf op), pI (jmpOf op), pB (endsOf op)]
theorem repP_aggv {w : World} {R : Nat → Prop} (vs : List Value) : RepP w R (.agg (vs.map .v)) (.agg vs.toArray) := by
  refine .agg _ vs (by simp) fun j a v ha hv => ?_
  rw [List.getElem?_map, hv] at ha
  cases ha
  exact .v _
theorem repP_two {w : World} {R : Nat → Prop} {p q : PV} {u v : Value} (h1 : RepP w R p u) (h2 : RepP w R q v) : RepP w R (.tup [p, q]) (.tuple #[u, v]) := by
  refine RepP.tup [p, q] [u, v] rfl fun j x y hx hy => ?_
  rcases j with _ | _ | j
  · simp at hx hy; subst hx; subst hy; exact h1
  · simp at hx hy; subst hx; subst hy; exact h2
  · simp at hx
theorem describe_ret (op : Int) (h0 : 1 ≤ op) (h1 : op ≤ 53) : V0 18 [pI op] (.tup [pInfo op, pI 0]) :=
  ret_v Tryd.func18 (by kernel_rfl) (by kernel_rfl) [.int .i64 op] _ fun w _ => (desc_in op w h0 h1).mono fun e w' ⟨h1, h2⟩ => ⟨_, h1, h2, fun R => repP_two (repP_aggv [.string (nameOf op), .int .i64 (operandOf op), .int .i64 (popsOf op), .int .i64 (pushesOf op), .bool (cntOf op), .int .i64 (jmpOf op), .bool (endsOf op)]) (.v _)⟩
/-- a handler: from, to, target, depth, scope -/
structure Hd where
  lo : Int
  hi : Int
  tg : Int
  dp : Int
  sc : Int
def pHd (h : Hd) : List PV := [pI h.lo, pI h.hi, pI h.tg, pI h.dp, pI h.sc]
def pHds (l : List Hd) : List (List PV) := l.map pHd
structure HdOk (h : Hd) : Prop where
  tg : 0 ≤ h.tg
  dp0 : 0 ≤ h.dp
  dp1 : h.dp ≤ 10000
/-- what visit does at one handler -/
def hdlP (i lim s : Int) (st : WS2) (h : Hd) : Option WS2 :=
  if h.lo ≤ i ∧ i < h.hi then (if h.dp ≤ lim ∧ h.sc ≤ s then reachP st h.tg (h.dp + 1, h.sc) else none) else some st
def hdlsP (i lim s : Int) : WS2 → List Hd → Option WS2
  | st, [] => some st
  | st, h :: t => (hdlP i lim s st h).bind fun st => hdlsP i lim s st t
def takesP (op a : Int) : Int := if cntOf op then popsOf op + a else popsOf op
def scopeP (op s : Int) : Option Int := if op = 19 then some (s + 1) else if op = 20 then (if 1 ≤ s then some (s - 1) else none) else if op = 21 then (if 1 ≤ s then some s else none) else some s
def restP (i op a d s : Int) (st : WS2) : Option WS2 := (scopeP op s).bind fun sc =>
  (if endsOf op then some st else reachP st (i + 1) (d - takesP op a + pushesOf op, sc)).bind fun st => if operandOf op = 7 then reachP st a (d + jmpOf op, s) else some st
def visitP (hs : List Hd) (i op a d s : Int) (st : WS2) : Option WS2 :=
  if takesP op a ≤ d ∧ (operandOf op ≠ 7 ∨ op = 40 ∨ 1 ≤ d) then (hdlsP i (d - takesP op a) s st hs).bind (restP i op a d s) else none
theorem reach_len {st st' : WS2} {i : Int} {p : Shp} (h : reachP st i p = some st') : st'.sh.length = st.sh.length ∧ st'.op.length ≤ st.op.length + 1 := by
  unfold reachP at h
  split at h
  · split at h
    · split at h
      · cases h; simp
      · split at h
        · cases h; exact ⟨rfl, Nat.le_succ _⟩
        · cases h
    · cases h
  · cases h
theorem agg_args {f : FuncId} {i p q : Int} {H : AH} {r : AV} {H' : AH} (h : VM f [.own 0 0, .p (pI i), .p (.agg [pI p, pI q])] H r H') : VM f [.own 0 0, .p (pI i), .agg [.p (pI p), .p (pI q)]] H r H' := by
  refine h.args rfl fun j a a' h1 h2 => ?_
  match j, h1, h2 with
  | 0, h1, h2 => cases h1; cases h2; exact .inl rfl
  | 1, h1, h2 => cases h1; cases h2; exact .inl rfl
  | 2, h1, h2 => cases h1; cases h2; exact .inr ⟨_, rfl, rfl⟩
  | j + 3, h1, h2 => simp at h1
/-- reach, in letters -/
theorem reach_some {f : WF} {st st' : WS2} {i : Int} {p : Shp} (h : reachP st i p = some st') (hl : f.code.length = st.sh.length) (ho : st.op.length ≤ 100000) (hi : 0 ≤ i) :
    VM 64 [.own 0 0, .p (pI i), .agg [.p (pI p.1), .p (pI p.2)]] (walkS f st) (.p (.tup [])) (walkS f st') := by
  have := reach_ret f st hl ho i hi p
  rw [h] at this
  exact agg_args this
theorem reach_none {f : WF} {st : WS2} {i : Int} {p : Shp} (h : reachP st i p = none) (hl : f.code.length = st.sh.length) (ho : st.op.length ≤ 100000) (hi : 0 ≤ i) :
    VM 64 [.own 0 0, .p (pI i), .agg [.p (pI p.1), .p (pI p.2)]] (walkS f st) (.p (.pan unsafeCh)) panH := by
  have := reach_ret f st hl ho i hi p
  rw [h] at this
  exact agg_args this
/-- the state at the head of the loop over the handlers -/
structure HdI (f : WF) (hs : List Hd) (i lim s : Int) (rest : WS2 → Option WS2) (o : Option WS2) (m0 : Nat) (y : Int × List (List PV) × List (List PV) × Nat) : Prop where
  j0 : 0 ≤ y.1
  j1 : y.1 ≤ hs.length
  st : ∃ st : WS2, y.2.1 = pSh st.sh ∧ y.2.2.1 = pOp st.op ∧ y.2.2.2 = st.op.length ∧ st.sh.length = f.code.length ∧ st.op.length ≤ m0 + y.1.toNat ∧ (hdlsP i lim s st (hs.drop y.1.toNat)).bind rest = o
end Go.Proofs.YtlffpgjkhehdmaaDoor

/- Own work: verify's shapes as a plain function: the open instructions are worked off, the last first; what holds while this goes on. -/
namespace Go.Proofs.YtlffpgjkhehdmaaDoor
open Go.RowKit

def hdOf (h : Hdl) : Hd := ⟨h.lo, h.hi, h.tg, h.dp, h.sc⟩
theorem pHds_of (l : List Hdl) : pHds (l.map hdOf) = pHdls l := by unfold pHds pHdls; rw [List.map_map]; rfl
/-- only the kinds of functions that may yield and wait do so -/
def kindOk (k : Int) (x : Ins) : Bool := (!decide (x.op = 52) || decide (k = 3)) && (!decide (x.op = 53) || (decide (k = 4) || decide (k = 5)))
def visitAt (f : Fn) (st : WS2) (i : Int) : Option WS2 := match f.code[i.toNat]?, st.sh[i.toNat]? with
  | some x, some p => visitP (f.hdls.map hdOf) i x.op x.a p.1 p.2 st
  | _, _ => none
def runP (f : Fn) : Nat → WS2 → Option (List Shp)
  | 0, _ => none
  | n + 1, st => match st.op.getLast? with
    | none => some st.sh
    | some i => (visitAt f ⟨st.sh, st.op.dropLast⟩ i).bind (runP f n)
def startP (n : Nat) : Option WS2 := reachP ⟨List.replicate n (-1, 0), []⟩ 0 (0, 0)
def shapesP (f : Fn) : Option (List Shp) :=
  if f.code.all (kindOk f.kind) then (startP f.code.length).bind (runP f (3 * f.code.length + 3)) else none

def unr (l : List Shp) : Nat := l.countP fun p => decide (p.1 < 0)
structure WOk (n : Nat) (st : WS2) : Prop where
  len : st.sh.length = n
  shp : ∀ p ∈ st.sh, p.1 < 0 ∨ ((0 ≤ p.1 ∧ p.1 ≤ 10000) ∧ 0 ≤ p.2 ∧ p.2 ≤ 1000)
  opn : ∀ i ∈ st.op, 0 ≤ i ∧ ∃ p, st.sh[i.toNat]? = some p ∧ 0 ≤ p.1
  cnt : st.op.length + unr st.sh ≤ n
def wm (st : WS2) : Nat := 2 * unr st.sh + st.op.length
theorem unr_set {l : List Shp} {i : Nat} {p q : Shp} (h : l[i]? = some q) (hq : q.1 < 0) (hp : 0 ≤ p.1) : unr (l.set i p) + 1 = unr l := by
  obtain ⟨hi, e⟩ := List.getElem?_eq_some_iff.1 h
  unfold unr
  rw [List.countP_set hi]
  have h1 : decide (l[i].1 < 0) = true := by rw [e]; exact decide_eq_true hq
  have h2 : decide (p.1 < 0) = false := decide_eq_false (by omega)
  rw [h1, h2]
  have : 0 < l.countP fun p => decide (p.1 < 0) := List.countP_pos_iff.2 ⟨l[i], List.getElem_mem hi, h1⟩
  simp
  omega
theorem reach_ok {n : Nat} {st st' : WS2} {i : Int} {p : Shp} (h : WOk n st) (hi : 0 ≤ i) (hr : reachP st i p = some st') : WOk n st' ∧ wm st' ≤ wm st := by
  unfold reachP at hr
  split at hr
  · rename_i hc
    split at hr
    · rename_i q hq
      split at hr
      · rename_i hneg
        cases hr
        have hu := unr_set (p := p) hq hneg hc.2.1.1
        have hil := (List.getElem?_eq_some_iff.1 hq).1
        refine ⟨⟨by simpa using h.len, fun x hx => ?_, fun j hj => ?_, ?_⟩, ?_⟩
        · rcases List.mem_or_eq_of_mem_set hx with hx | rfl
          · exact h.shp x hx
          · exact .inr hc.2
        · rcases List.mem_append.1 hj with hj | hj
          · obtain ⟨h0, r, hr, hr0⟩ := h.opn j hj
            refine ⟨h0, ?_⟩
            by_cases e : i.toNat = j.toNat
            · rw [← e, List.getElem?_set_self hil]; exact ⟨p, rfl, hc.2.1.1⟩
            · rw [List.getElem?_set_ne e]; exact ⟨r, hr, hr0⟩
          · have e : j = i := by simpa using hj
            subst e
            exact ⟨hi, p, List.getElem?_set_self hil, hc.2.1.1⟩
        · have := h.cnt
          simp only [List.length_append, List.length_singleton]
          omega
        · unfold wm
          simp only [List.length_append, List.length_singleton]
          omega
      · split at hr
        · cases hr; exact ⟨h, Nat.le_refl _⟩
        · cases hr
    · cases hr
  · cases hr
theorem hdl_ok {n : Nat} {i lim s : Int} {st st' : WS2} {h : Hd} (hk : WOk n st) (ht : 0 ≤ h.tg) (hr : hdlP i lim s st h = some st') : WOk n st' ∧ wm st' ≤ wm st := by
  unfold hdlP at hr
  split at hr
  · split at hr
    · exact reach_ok hk ht hr
    · cases hr
  · cases hr; exact ⟨hk, Nat.le_refl _⟩
theorem hdls_ok {n : Nat} {i lim s : Int} : ∀ (hs : List Hd) {st st' : WS2}, WOk n st → (∀ h ∈ hs, HdOk h) → hdlsP i lim s st hs = some st' → WOk n st' ∧ wm st' ≤ wm st
  | [], st, st', hk, _, hr => by cases hr; exact ⟨hk, Nat.le_refl _⟩
  | h :: t, st, st', hk, hh, hr => by
    unfold hdlsP at hr
    cases h1 : hdlP i lim s st h with
    | none => rw [h1] at hr; cases hr
    | some st1 =>
      rw [h1] at hr
      have a1 := hdl_ok hk (hh h (by simp)).tg h1
      have a2 := hdls_ok t a1.1 (fun x hx => hh x (by simp [hx])) hr
      exact ⟨a2.1, by omega⟩
theorem rest_ok {n : Nat} {i op a d s : Int} {st st' : WS2} (hk : WOk n st) (hi : 0 ≤ i) (ha : 0 ≤ a) (hr : restP i op a d s st = some st') : WOk n st' ∧ wm st' ≤ wm st := by
  unfold restP at hr
  cases hs : scopeP op s with
  | none => rw [hs] at hr; cases hr
  | some sc =>
    rw [hs, Option.bind_some] at hr
    cases h1 : (if endsOf op then some st else reachP st (i + 1) (d - takesP op a + pushesOf op, sc)) with
    | none => rw [h1] at hr; cases hr
    | some st1 =>
      rw [h1, Option.bind_some] at hr
      have a1 : WOk n st1 ∧ wm st1 ≤ wm st := by
        split at h1
        · cases h1; exact ⟨hk, Nat.le_refl _⟩
        · exact reach_ok hk (by omega) h1
      split at hr
      · have a2 := reach_ok a1.1 ha hr
        exact ⟨a2.1, by omega⟩
      · cases hr; exact a1
theorem visit_ok {n : Nat} {hs : List Hd} {i op a d s : Int} {st st' : WS2} (hk : WOk n st) (hh : ∀ h ∈ hs, HdOk h) (hi : 0 ≤ i) (ha : 0 ≤ a) (hr : visitP hs i op a d s st = some st') : WOk n st' ∧ wm st' ≤ wm st := by
  unfold visitP at hr
  split at hr
  · cases h1 : hdlsP i (d - takesP op a) s st hs with
    | none => rw [h1] at hr; cases hr
    | some st1 =>
      rw [h1, Option.bind_some] at hr
      have a1 := hdls_ok hs hk hh h1
      have a2 := rest_ok a1.1 hi ha hr
      exact ⟨a2.1, by omega⟩
  · cases hr
theorem startP_some {n : Nat} (h : 1 ≤ n) : ∃ st, startP n = some st := by
  obtain ⟨m, rfl⟩ : ∃ m, n = m + 1 := ⟨n - 1, by omega⟩
  refine ⟨⟨(List.replicate (m + 1) ((-1 : Int), (0 : Int))).set 0 (0, 0), [0]⟩, ?_⟩
  unfold startP reachP
  rw [if_pos (by simp)]
  rfl
/-- what visit asks of a function -/
structure FnV (f : Fn) : Prop where
  code : ∀ x ∈ f.code, (1 ≤ x.op ∧ x.op ≤ 53) ∧ 0 ≤ x.a ∧ x.a ≤ 100000
  hdl : ∀ h ∈ f.hdls.map hdOf, HdOk h
  l0 : 1 ≤ f.code.length
  l1 : f.code.length ≤ 65536
  l2 : f.hdls.length ≤ 10000
theorem pop_ok {n : Nat} {st : WS2} {i : Int} (h : WOk n st) (hl : st.op.getLast? = some i) : WOk n ⟨st.sh, st.op.dropLast⟩ ∧ wm ⟨st.sh, st.op.dropLast⟩ + 1 = wm st ∧ i ∈ st.op := by
  have hne : st.op ≠ [] := fun e => by rw [e] at hl; cases hl
  have hm := List.mem_of_getLast? hl
  have hlen : st.op.dropLast.length + 1 = st.op.length := by
    rw [List.length_dropLast]
    have := List.length_pos_iff.2 hne
    omega
  refine ⟨⟨h.len, h.shp, fun j hj => h.opn j (List.dropLast_subset _ hj), ?_⟩, ?_, hm⟩
  · have := h.cnt
    simp only
    omega
  · unfold wm
    simp only
    omega
theorem visitAt_ok {f : Fn} {st st' : WS2} {i : Int} (hf : FnV f) (hk : WOk f.code.length st) (hi : 0 ≤ i) (hr : visitAt f st i = some st') : WOk f.code.length st' ∧ wm st' ≤ wm st := by
  unfold visitAt at hr
  split at hr
  · rename_i x p hx hp
    exact visit_ok hk hf.hdl hi (hf.code x (List.mem_of_getElem? hx)).2.1 hr
  · cases hr
theorem unr_replicate : ∀ (n : Nat), unr (List.replicate n (-1, 0)) = n
  | 0 => rfl
  | n + 1 => by
    have := unr_replicate n
    unfold unr at this ⊢
    rw [List.replicate_succ, List.countP_cons, this]
    simp
theorem start_ok {n : Nat} {st : WS2} (h : startP n = some st) : WOk n st ∧ wm st ≤ 2 * n := by
  have h0 : WOk n ⟨List.replicate n (-1, 0), []⟩ := ⟨by simp, fun p hp => by
    rw [List.eq_of_mem_replicate hp]
    exact .inl (by decide), fun i hi => by simp at hi, by simp [unr_replicate]⟩
  have h1 := reach_ok h0 (Int.le_refl 0) h
  refine ⟨h1.1, Nat.le_trans h1.2 ?_⟩
  simp [wm, unr_replicate]
end Go.Proofs.YtlffpgjkhehdmaaDoor

/- Own work: what a safe function is, without any order of work: the shapes that are reached from the first instruction; verify's shapes finds exactly them. -/
namespace Go.Proofs.YtlffpgjkhehdmaaDoor
open Go.RowKit

/-- where an instruction leads to, and with which shape -/
def NextP (f : Fn) (i : Int) (p : Shp) (j : Int) (q : Shp) : Prop := ∃ x, f.code[i.toNat]? = some x ∧
  ((∃ h ∈ f.hdls.map hdOf, (h.lo ≤ i ∧ i < h.hi) ∧ j = h.tg ∧ q = (h.dp + 1, h.sc)) ∨
   (endsOf x.op = false ∧ j = i + 1 ∧ ∃ sc, scopeP x.op p.2 = some sc ∧ q = (p.1 - takesP x.op x.a + pushesOf x.op, sc)) ∨
   (operandOf x.op = 7 ∧ j = x.a ∧ q = (p.1 + jmpOf x.op, p.2)))
/-- nothing stands against going on -/
def FreeP (f : Fn) (i : Int) (p : Shp) : Prop := ∃ x, f.code[i.toNat]? = some x ∧ (takesP x.op x.a ≤ p.1 ∧ (operandOf x.op ≠ 7 ∨ x.op = 40 ∨ 1 ≤ p.1)) ∧ (∃ sc, scopeP x.op p.2 = some sc) ∧
  ∀ h ∈ f.hdls.map hdOf, (h.lo ≤ i ∧ i < h.hi) → h.dp ≤ p.1 - takesP x.op x.a ∧ h.sc ≤ p.2
inductive Rch (f : Fn) : Int → Shp → Prop
  | start : Rch f 0 (0, 0)
  | step {i : Int} {p : Shp} {j : Int} {q : Shp} : Rch f i p → NextP f i p j q → Rch f j q
def ShOk (n : Nat) (i : Int) (p : Shp) : Prop := (0 ≤ i ∧ i < n) ∧ (0 ≤ p.1 ∧ p.1 ≤ 10000) ∧ 0 ≤ p.2 ∧ p.2 ≤ 1000
structure SafeF (f : Fn) : Prop where
  kind : f.code.all (kindOk f.kind) = true
  fit : ∀ i p, Rch f i p → ShOk f.code.length i p
  free : ∀ i p, Rch f i p → FreeP f i p
  one : ∀ i p q, Rch f i p → Rch f i q → p = q
/-- the table of what is reached -/
structure TabOf (f : Fn) (l : List Shp) : Prop where
  len : l.length = f.code.length
  at_ : ∀ (k : Nat) p, l[k]? = some p → Rch f k p ∨ (p = (-1, 0) ∧ ∀ q, ¬ Rch f k q)
theorem tab_one {f : Fn} {l l' : List Shp} (hs : SafeF f) (h : TabOf f l) (h' : TabOf f l') : l = l' := by
  apply List.ext_getElem?
  intro k
  by_cases hk : k < f.code.length
  · obtain ⟨p, hp⟩ : ∃ p, l[k]? = some p := ⟨_, List.getElem?_eq_getElem (by rw [h.len]; exact hk)⟩
    obtain ⟨q, hq⟩ : ∃ q, l'[k]? = some q := ⟨_, List.getElem?_eq_getElem (by rw [h'.len]; exact hk)⟩
    rw [hp, hq]
    rcases h.at_ k p hp with h1 | ⟨h1, h2⟩ <;> rcases h'.at_ k q hq with h3 | ⟨h3, h4⟩
    · rw [hs.one _ _ _ h1 h3]
    · exact absurd h1 (h4 _)
    · exact absurd h3 (h2 _)
    · rw [h1, h3]
  · rw [List.getElem?_eq_none (by rw [h.len]; omega), List.getElem?_eq_none (by rw [h'.len]; omega)]
/-- an instruction is known with a shape -/
def Lb (st : WS2) (j : Int) (q : Shp) : Prop := ShOk st.sh.length j q ∧ st.sh[j.toNat]? = some q
/-- from one state of the work to a later one -/
structure Gw (f : Fn) (st st' : WS2) : Prop where
  len : st'.sh.length = st.sh.length
  keep : ∀ (k : Nat) p, st.sh[k]? = some p → 0 ≤ p.1 → st'.sh[k]? = some p
  new : ∀ (k : Nat) p, st'.sh[k]? = some p → st.sh[k]? = some p ∨ ((Rch f k p ∧ 0 ≤ p.1) ∧ (k : Int) ∈ st'.op ∧ ∃ q, st.sh[k]? = some q ∧ q.1 < 0)
  op : ∀ i ∈ st.op, i ∈ st'.op
theorem Gw.refl {f : Fn} (st : WS2) : Gw f st st := ⟨rfl, fun _ _ h _ => h, fun _ _ h => .inl h, fun _ h => h⟩
theorem Gw.trans {f : Fn} {a b c : WS2} (h : Gw f a b) (h' : Gw f b c) : Gw f a c := by
  refine ⟨h'.len.trans h.len, fun k p hk hp => h'.keep k p (h.keep k p hk hp) hp, fun k p hk => ?_, fun i hi => h'.op i (h.op i hi)⟩
  rcases h'.new k p hk with h1 | ⟨h1, h2, q, h3, h4⟩
  · rcases h.new k p h1 with h5 | ⟨h5, h6, h7⟩
    · exact .inl h5
    · exact .inr ⟨h5, h'.op _ h6, h7⟩
  · refine .inr ⟨h1, h2, ?_⟩
    rcases h.new k q h3 with h5 | ⟨⟨_, h5⟩, _⟩
    · exact ⟨q, h5, h4⟩
    · omega
theorem Lb.mono {f : Fn} {st st' : WS2} {j : Int} {q : Shp} (h : Lb st j q) (hg : Gw f st st') : Lb st' j q :=
  ⟨by rw [hg.len]; exact h.1, hg.keep _ _ h.2 h.1.2.1.1⟩
/-- what is known so far has been reached -/
structure Kn (f : Fn) (st : WS2) : Prop where
  len : st.sh.length = f.code.length
  at_ : ∀ (k : Nat) p, st.sh[k]? = some p → (0 ≤ p.1 ∧ Rch f k p) ∨ p = (-1, 0)
theorem Kn.mono {f : Fn} {st st' : WS2} (h : Kn f st) (hg : Gw f st st') : Kn f st' := by
  refine ⟨hg.len.trans h.len, fun k p hk => ?_⟩
  rcases hg.new k p hk with h1 | ⟨⟨h1, h2⟩, _⟩
  · exact h.at_ k p h1
  · exact .inl ⟨h2, h1⟩
theorem reach_gw {f : Fn} {st st' : WS2} {i : Int} {p : Shp} (hi : 0 ≤ i) (hr : Rch f i p) (h : reachP st i p = some st') : Gw f st st' ∧ Lb st' i p := by
  unfold reachP at h
  split at h
  · rename_i hc
    split at h
    · rename_i q hq
      have hil := (List.getElem?_eq_some_iff.1 hq).1
      split at h
      · rename_i hneg
        cases h
        refine ⟨⟨by simp, fun k r hk hr0 => ?_, fun k r hk => ?_, fun j hj => List.mem_append_left _ hj⟩, ⟨⟨hi, by simp; omega⟩, hc.2⟩, List.getElem?_set_self hil⟩
        · rw [List.getElem?_set_ne]
          · exact hk
          · rintro rfl
            rw [hq] at hk
            cases hk
            omega
        · by_cases e : i.toNat = k
          · subst e
            rw [List.getElem?_set_self hil] at hk
            cases hk
            have e2 : ((i.toNat : Nat) : Int) = i := by omega
            rw [e2]
            exact .inr ⟨⟨hr, hc.2.1.1⟩, by simp, q, hq, hneg⟩
          · rw [List.getElem?_set_ne e] at hk
            exact .inl hk
      · split at h
        · rename_i he
          cases h
          subst he
          exact ⟨.refl _, ⟨⟨hi, hc.1⟩, hc.2⟩, hq⟩
        · cases h
    · cases h
  · cases h
theorem reach_bad {f : Fn} {st : WS2} {i : Int} {p : Shp} (hk : Kn f st) (hr : Rch f i p) (h : reachP st i p = none) : ¬ SafeF f := by
  intro hs
  have hf := hs.fit i p hr
  unfold reachP at h
  rw [if_pos ⟨by rw [hk.len]; exact hf.1.2, hf.2⟩] at h
  obtain ⟨q, hq⟩ : ∃ q, st.sh[i.toNat]? = some q := ⟨_, List.getElem?_eq_getElem (by rw [hk.len]; have := hf.1; omega)⟩
  rw [hq] at h
  simp only at h
  split at h
  · cases h
  · rename_i hneg
    split at h
    · cases h
    · rename_i hne
      rcases hk.at_ _ q hq with ⟨_, h1⟩ | h1
      · rw [show ((i.toNat : Nat) : Int) = i by have := hf.1; omega] at h1
        exact hne (hs.one _ _ _ h1 hr)
      · rw [h1] at hneg
        exact hneg (by decide)
/-- the handlers, one after the other -/
theorem hdls_gw {f : Fn} {i lim s : Int} : ∀ (hs : List Hd) {st st' : WS2}, Kn f st → (∀ h ∈ hs, (h.lo ≤ i ∧ i < h.hi) → 0 ≤ h.tg ∧ Rch f h.tg (h.dp + 1, h.sc)) → hdlsP i lim s st hs = some st' →
    Gw f st st' ∧ ∀ h ∈ hs, (h.lo ≤ i ∧ i < h.hi) → (h.dp ≤ lim ∧ h.sc ≤ s) ∧ Lb st' h.tg (h.dp + 1, h.sc)
  | [], st, st', _, _, hr => by cases hr; exact ⟨.refl _, fun h hh => by simp at hh⟩
  | h :: t, st, st', hk, hh, hr => by
    unfold hdlsP at hr
    cases h1 : hdlP i lim s st h with
    | none => rw [h1] at hr; cases hr
    | some st1 =>
      rw [h1] at hr
      have a1 : Gw f st st1 ∧ ((h.lo ≤ i ∧ i < h.hi) → (h.dp ≤ lim ∧ h.sc ≤ s) ∧ Lb st1 h.tg (h.dp + 1, h.sc)) := by
        unfold hdlP at h1
        split at h1
        · rename_i hc
          split at h1
          · rename_i hd
            have hx := hh h (by simp) hc
            have := reach_gw hx.1 hx.2 h1
            exact ⟨this.1, fun _ => ⟨hd, this.2⟩⟩
          · cases h1
        · rename_i hc
          cases h1
          exact ⟨.refl _, fun h => absurd h hc⟩
      have a2 := hdls_gw t (hk.mono a1.1) (fun x hx => hh x (by simp [hx])) hr
      refine ⟨a1.1.trans a2.1, fun x hx hc => ?_⟩
      rcases List.mem_cons.1 hx with rfl | hx
      · exact ⟨(a1.2 hc).1, (a1.2 hc).2.mono a2.1⟩
      · exact a2.2 x hx hc
theorem hdls_bad {f : Fn} {i lim s : Int} : ∀ (hs : List Hd) {st : WS2}, Kn f st → (∀ h ∈ hs, (h.lo ≤ i ∧ i < h.hi) → 0 ≤ h.tg ∧ Rch f h.tg (h.dp + 1, h.sc)) → (SafeF f → ∀ h ∈ hs, (h.lo ≤ i ∧ i < h.hi) → h.dp ≤ lim ∧ h.sc ≤ s) → hdlsP i lim s st hs = none → ¬ SafeF f
  | [], st, _, _, _, hr => by cases hr
  | h :: t, st, hk, hh, hfr, hr => by
    unfold hdlsP at hr
    cases h1 : hdlP i lim s st h with
    | none =>
      unfold hdlP at h1
      split at h1
      · rename_i hc
        split at h1
        · exact reach_bad hk (hh h (by simp) hc).2 h1
        · rename_i hd
          exact fun hs => hd (hfr hs h (by simp) hc)
      · cases h1
    | some st1 =>
      rw [h1] at hr
      have a1 : Gw f st st1 := by
        unfold hdlP at h1
        split at h1
        · rename_i hc
          split at h1
          · have hx := hh h (by simp) hc
            exact (reach_gw hx.1 hx.2 h1).1
          · cases h1
        · cases h1
          exact .refl _
      exact hdls_bad t (hk.mono a1) (fun x hx => hh x (by simp [hx])) (fun hs x hx => hfr hs x (by simp [hx])) hr
theorem rest_gw {f : Fn} {i : Int} {x : Ins} {p : Shp} {st st' : WS2} (_hk : Kn f st) (hi : 0 ≤ i) (ha : 0 ≤ x.a) (hx : f.code[i.toNat]? = some x) (hrc : Rch f i p) (hr : restP i x.op x.a p.1 p.2 st = some st') :
    Gw f st st' ∧ ∃ sc, scopeP x.op p.2 = some sc ∧ (endsOf x.op = false → Lb st' (i + 1) (p.1 - takesP x.op x.a + pushesOf x.op, sc)) ∧ (operandOf x.op = 7 → Lb st' x.a (p.1 + jmpOf x.op, p.2)) := by
  unfold restP at hr
  cases hs : scopeP x.op p.2 with
  | none => rw [hs] at hr; cases hr
  | some sc =>
    rw [hs, Option.bind_some] at hr
    cases h1 : (if endsOf x.op then some st else reachP st (i + 1) (p.1 - takesP x.op x.a + pushesOf x.op, sc)) with
    | none => rw [h1] at hr; cases hr
    | some st1 =>
      rw [h1, Option.bind_some] at hr
      have a1 : Gw f st st1 ∧ (endsOf x.op = false → Lb st1 (i + 1) (p.1 - takesP x.op x.a + pushesOf x.op, sc)) := by
        split at h1
        · rename_i he
          cases h1
          exact ⟨.refl _, fun h => by rw [h] at he; cases he⟩
        · rename_i he
          have he : endsOf x.op = false := by simpa using he
          have := reach_gw (by omega) (hrc.step ⟨x, hx, .inr (.inl ⟨he, rfl, sc, hs, rfl⟩)⟩) h1
          exact ⟨this.1, fun _ => this.2⟩
      split at hr
      · rename_i h7
        have := reach_gw ha (hrc.step ⟨x, hx, .inr (.inr ⟨h7, rfl, rfl⟩)⟩) hr
        exact ⟨a1.1.trans this.1, sc, rfl, fun he => (a1.2 he).mono this.1, fun _ => this.2⟩
      · rename_i h7
        cases hr
        exact ⟨a1.1, sc, rfl, a1.2, fun h => absurd h h7⟩
theorem rest_bad {f : Fn} {i : Int} {x : Ins} {p : Shp} {st : WS2} (hk : Kn f st) (hi : 0 ≤ i) (hx : f.code[i.toNat]? = some x) (hrc : Rch f i p) (hr : restP i x.op x.a p.1 p.2 st = none) : ¬ SafeF f := by
  unfold restP at hr
  cases hs : scopeP x.op p.2 with
  | none =>
    intro hsf
    obtain ⟨x', hx', _, ⟨sc, h⟩, _⟩ := hsf.free i p hrc
    rw [hx] at hx'
    cases hx'
    rw [hs] at h
    cases h
  | some sc =>
    rw [hs, Option.bind_some] at hr
    cases h1 : (if endsOf x.op then some st else reachP st (i + 1) (p.1 - takesP x.op x.a + pushesOf x.op, sc)) with
    | none =>
      split at h1
      · cases h1
      · rename_i he
        have he : endsOf x.op = false := by simpa using he
        exact reach_bad hk (hrc.step ⟨x, hx, .inr (.inl ⟨he, rfl, sc, hs, rfl⟩)⟩) h1
    | some st1 =>
      rw [h1, Option.bind_some] at hr
      have a1 : Gw f st st1 := by
        split at h1
        · cases h1
          exact .refl _
        · rename_i he
          have he : endsOf x.op = false := by simpa using he
          exact (reach_gw (by omega) (hrc.step ⟨x, hx, .inr (.inl ⟨he, rfl, sc, hs, rfl⟩)⟩) h1).1
      split at hr
      · rename_i h7
        exact reach_bad (hk.mono a1) (hrc.step ⟨x, hx, .inr (.inr ⟨h7, rfl, rfl⟩)⟩) hr
      · cases hr
theorem hd_rch {f : Fn} (hf : FnV f) {i : Int} {x : Ins} {p : Shp} (hx : f.code[i.toNat]? = some x) (hrc : Rch f i p) : ∀ h ∈ f.hdls.map hdOf, (h.lo ≤ i ∧ i < h.hi) → 0 ≤ h.tg ∧ Rch f h.tg (h.dp + 1, h.sc) :=
  fun h hh hc => ⟨(hf.hdl h hh).tg, hrc.step ⟨x, hx, .inl ⟨h, hh, hc, rfl, rfl⟩⟩⟩
/-- an instruction has been followed -/
def Went (f : Fn) (st : WS2) (k : Int) (p : Shp) : Prop := FreeP f k p ∧ ∀ j q, NextP f k p j q → Lb st j q
theorem Went.mono {f : Fn} {st st' : WS2} {k : Int} {p : Shp} (h : Went f st k p) (hg : Gw f st st') : Went f st' k p := ⟨h.1, fun j q hn => (h.2 j q hn).mono hg⟩
/-- the reference follows an instruction in another order -/
def spreadP (hs : List Hd) (i op a d s : Int) (st : WS2) : Option WS2 :=
  if takesP op a ≤ d ∧ (operandOf op ≠ 7 ∨ op = 40 ∨ 1 ≤ d) then (restP i op a d s st).bind fun st => hdlsP i (d - takesP op a) s st hs else none
theorem went_of {f : Fn} {i : Int} {x : Ins} {p : Shp} {st : WS2} (hx : f.code[i.toNat]? = some x) (hg : takesP x.op x.a ≤ p.1 ∧ (operandOf x.op ≠ 7 ∨ x.op = 40 ∨ 1 ≤ p.1))
    (hh : ∀ h ∈ f.hdls.map hdOf, (h.lo ≤ i ∧ i < h.hi) → (h.dp ≤ p.1 - takesP x.op x.a ∧ h.sc ≤ p.2) ∧ Lb st h.tg (h.dp + 1, h.sc)) {sc : Int} (hsc : scopeP x.op p.2 = some sc)
    (hn : endsOf x.op = false → Lb st (i + 1) (p.1 - takesP x.op x.a + pushesOf x.op, sc)) (hj : operandOf x.op = 7 → Lb st x.a (p.1 + jmpOf x.op, p.2)) : Went f st i p := by
  refine ⟨⟨x, hx, hg, ⟨sc, hsc⟩, fun h h1 h2 => (hh h h1 h2).1⟩, ?_⟩
  rintro j q ⟨y, hy, h⟩
  rw [hx] at hy
  cases hy
  rcases h with ⟨h, h1, h2, rfl, rfl⟩ | ⟨h1, rfl, sc', h2, rfl⟩ | ⟨h1, rfl, rfl⟩
  · exact (hh h h1 h2).2
  · rw [hsc] at h2
    cases h2
    exact hn h1
  · exact hj h1
theorem visit_gw {f : Fn} (hf : FnV f) {i : Int} {x : Ins} {p : Shp} {st st' : WS2} (hk : Kn f st) (hi : 0 ≤ i) (hx : f.code[i.toNat]? = some x) (hrc : Rch f i p) (hr : visitP (f.hdls.map hdOf) i x.op x.a p.1 p.2 st = some st') : Gw f st st' ∧ Went f st' i p := by
  have ha := (hf.code x (List.mem_of_getElem? hx)).2.1
  unfold visitP at hr
  split at hr
  · rename_i hg
    cases h1 : hdlsP i (p.1 - takesP x.op x.a) p.2 st (f.hdls.map hdOf) with
    | none => rw [h1] at hr; cases hr
    | some st1 =>
      rw [h1, Option.bind_some] at hr
      have a1 := hdls_gw _ hk (hd_rch hf hx hrc) h1
      obtain ⟨a2, sc, hsc, a3, a4⟩ := rest_gw (hk.mono a1.1) hi ha hx hrc hr
      exact ⟨a1.1.trans a2, went_of hx hg (fun h h1 h2 => ⟨(a1.2 h h1 h2).1, (a1.2 h h1 h2).2.mono a2⟩) hsc a3 a4⟩
  · cases hr
theorem spread_gw {f : Fn} (hf : FnV f) {i : Int} {x : Ins} {p : Shp} {st st' : WS2} (hk : Kn f st) (hi : 0 ≤ i) (hx : f.code[i.toNat]? = some x) (hrc : Rch f i p) (hr : spreadP (f.hdls.map hdOf) i x.op x.a p.1 p.2 st = some st') : Gw f st st' ∧ Went f st' i p := by
  have ha := (hf.code x (List.mem_of_getElem? hx)).2.1
  unfold spreadP at hr
  split at hr
  · rename_i hg
    cases h1 : restP i x.op x.a p.1 p.2 st with
    | none => rw [h1] at hr; cases hr
    | some st1 =>
      rw [h1, Option.bind_some] at hr
      obtain ⟨a2, sc, hsc, a3, a4⟩ := rest_gw hk hi ha hx hrc h1
      have a1 := hdls_gw _ (hk.mono a2) (hd_rch hf hx hrc) hr
      exact ⟨a2.trans a1.1, went_of hx hg a1.2 hsc (fun h => (a3 h).mono a1.1) (fun h => (a4 h).mono a1.1)⟩
  · cases hr
theorem guard_bad {f : Fn} {i : Int} {x : Ins} {p : Shp} (hx : f.code[i.toNat]? = some x) (hrc : Rch f i p) (h : ¬ (takesP x.op x.a ≤ p.1 ∧ (operandOf x.op ≠ 7 ∨ x.op = 40 ∨ 1 ≤ p.1))) : ¬ SafeF f := by
  intro hs
  obtain ⟨y, hy, hg, _⟩ := hs.free i p hrc
  rw [hx] at hy
  cases hy
  exact h hg
theorem free_hd {f : Fn} {i : Int} {x : Ins} {p : Shp} (hx : f.code[i.toNat]? = some x) (hrc : Rch f i p) : SafeF f → ∀ h ∈ f.hdls.map hdOf, (h.lo ≤ i ∧ i < h.hi) → h.dp ≤ p.1 - takesP x.op x.a ∧ h.sc ≤ p.2 := by
  intro hs
  obtain ⟨y, hy, _, _, hg⟩ := hs.free i p hrc
  rw [hx] at hy
  cases hy
  exact hg
theorem visit_bad {f : Fn} (hf : FnV f) {i : Int} {x : Ins} {p : Shp} {st : WS2} (hk : Kn f st) (hi : 0 ≤ i) (hx : f.code[i.toNat]? = some x) (hrc : Rch f i p) (hr : visitP (f.hdls.map hdOf) i x.op x.a p.1 p.2 st = none) : ¬ SafeF f := by
  unfold visitP at hr
  split at hr
  · cases h1 : hdlsP i (p.1 - takesP x.op x.a) p.2 st (f.hdls.map hdOf) with
    | none => exact hdls_bad _ hk (hd_rch hf hx hrc) (free_hd hx hrc) h1
    | some st1 =>
      rw [h1, Option.bind_some] at hr
      exact rest_bad (hk.mono (hdls_gw _ hk (hd_rch hf hx hrc) h1).1) hi hx hrc hr
  · rename_i hg
    exact guard_bad hx hrc hg
theorem spread_bad {f : Fn} (hf : FnV f) {i : Int} {x : Ins} {p : Shp} {st : WS2} (hk : Kn f st) (hi : 0 ≤ i) (hx : f.code[i.toNat]? = some x) (hrc : Rch f i p) (hr : spreadP (f.hdls.map hdOf) i x.op x.a p.1 p.2 st = none) : ¬ SafeF f := by
  have ha := (hf.code x (List.mem_of_getElem? hx)).2.1
  unfold spreadP at hr
  split at hr
  · cases h1 : restP i x.op x.a p.1 p.2 st with
    | none => exact rest_bad hk hi hx hrc h1
    | some st1 =>
      rw [h1, Option.bind_some] at hr
      exact hdls_bad _ (hk.mono (rest_gw hk hi ha hx hrc h1).1) (hd_rch hf hx hrc) (free_hd hx hrc) hr
  · rename_i hg
    exact guard_bad hx hrc hg
/-- the state of the work: what is known and not open has been followed -/
structure WI (f : Fn) (st : WS2) (pend : Nat → Prop) : Prop where
  kn : Kn f st
  done : ∀ (k : Nat) p, st.sh[k]? = some p → 0 ≤ p.1 → pend k ∨ Went f st k p
  zero : Lb st 0 (0, 0)
theorem WI.step {f : Fn} {st st' : WS2} {pend pend' : Nat → Prop} {i : Nat} {p : Shp} (h : WI f st pend) (hg : Gw f st st') (hw : Went f st' i p) (hp : st.sh[i]? = some p)
    (h1 : ∀ k, pend k → k = i ∨ pend' k) (h2 : ∀ (k : Nat) q, st'.sh[k]? = some q → 0 ≤ q.1 → (∃ r, st.sh[k]? = some r ∧ r.1 < 0) → (k : Int) ∈ st'.op → pend' k) : WI f st' pend' := by
  refine ⟨h.kn.mono hg, fun k q hk hq => ?_, h.zero.mono hg⟩
  rcases hg.new k q hk with e | ⟨_, e1, r, e2, e3⟩
  · rcases h.done k q e hq with e1 | e1
    · rcases h1 k e1 with rfl | e2
      · rw [hp] at e
        cases e
        exact .inr hw
      · exact .inl e2
    · exact .inr (e1.mono hg)
  · exact .inl (h2 k q hk hq ⟨r, e2, e3⟩ e1)
/-- when nothing is open any more -/
theorem WI.fin {f : Fn} {st : WS2} {pend : Nat → Prop} (h : WI f st pend) (hp : ∀ k p, st.sh[k]? = some p → 0 ≤ p.1 → ¬ pend k) (hk : f.code.all (kindOk f.kind) = true) : SafeF f ∧ TabOf f st.sh := by
  have hl : ∀ i p, Rch f i p → Lb st i p := by
    intro i p hr
    induction hr with
    | start => exact h.zero
    | step h1 h2 ih =>
      rename_i i p j q
      have h3 := (h.done _ _ ih.2 ih.1.2.1.1).resolve_left (hp _ _ ih.2 ih.1.2.1.1)
      rw [show ((i.toNat : Nat) : Int) = i by have := ih.1.1; omega] at h3
      exact h3.2 _ _ h2
  have hfr : ∀ i p, Rch f i p → FreeP f i p := fun i p hr => by
    have ih := hl i p hr
    have h3 := (h.done _ _ ih.2 ih.1.2.1.1).resolve_left (hp _ _ ih.2 ih.1.2.1.1)
    rw [show ((i.toNat : Nat) : Int) = i by have := ih.1.1; omega] at h3
    exact h3.1
  refine ⟨⟨hk, fun i p hr => by rw [← h.kn.len]; exact (hl i p hr).1, hfr, fun i p q h1 h2 => ?_⟩, h.kn.len, fun k p hkp => ?_⟩
  · have := (hl i p h1).2.symm.trans (hl i q h2).2
    cases this
    rfl
  · rcases h.kn.at_ k p hkp with ⟨_, h1⟩ | h1
    · exact .inl h1
    · refine .inr ⟨h1, fun q hq => ?_⟩
      have := hl k q hq
      have h2 := this.2
      rw [show ((k : Int)).toNat = k by omega, hkp] at h2
      have h3 := this.1.2.1.1
      cases h2
      rw [h1] at h3
      exact absurd h3 (by decide)
theorem start_wi {f : Fn} {st : WS2} (h : startP f.code.length = some st) : WI f st (fun k => (k : Int) ∈ st.op) := by
  have hk : Kn f ⟨List.replicate f.code.length (-1, 0), []⟩ := ⟨by simp, fun k p hp => .inr (List.eq_of_mem_replicate (List.mem_of_getElem? hp))⟩
  have a1 := reach_gw (Int.le_refl 0) (.start (f := f)) h
  refine ⟨hk.mono a1.1, fun k p hk hp => ?_, a1.2⟩
  rcases a1.1.new k p hk with e | ⟨_, e, _⟩
  · have := List.eq_of_mem_replicate (List.mem_of_getElem? e)
    rw [this] at hp
    exact absurd hp (by decide)
  · exact .inl e
theorem run_spec {f : Fn} (hf : FnV f) (hk : f.code.all (kindOk f.kind) = true) : ∀ (n : Nat) {st : WS2}, WOk f.code.length st → WI f st (fun k => (k : Int) ∈ st.op) → wm st < n →
    (∀ l, runP f n st = some l → SafeF f ∧ TabOf f l) ∧ (runP f n st = none → ¬ SafeF f)
  | 0, st, _, _, hn => by omega
  | n + 1, st, ho, hw, hn => by
    unfold runP
    cases hl : st.op.getLast? with
    | none =>
      have he : st.op = [] := List.getLast?_eq_none_iff.1 hl
      refine ⟨fun l h => ?_, fun h => by cases h⟩
      cases h
      exact hw.fin (fun k p _ _ h => by rw [he] at h; cases h) hk
    | some i =>
      obtain ⟨ho1, hm, him⟩ := pop_ok ho hl
      obtain ⟨hi0, p, hp, hp0⟩ := ho.opn i him
      have hrc : Rch f i p := by
        rcases hw.kn.at_ _ p hp with ⟨_, h⟩ | h
        · rwa [show ((i.toNat : Nat) : Int) = i by omega] at h
        · rw [h] at hp0
          exact absurd hp0 (by decide)
      have hil : i.toNat < f.code.length := by have := (List.getElem?_eq_some_iff.1 hp).1; rw [ho.len] at this; exact this
      obtain ⟨x, hx⟩ : ∃ x, f.code[i.toNat]? = some x := ⟨_, List.getElem?_eq_getElem hil⟩
      have hkn : Kn f ⟨st.sh, st.op.dropLast⟩ := ⟨hw.kn.len, hw.kn.at_⟩
      have hv : visitAt f ⟨st.sh, st.op.dropLast⟩ i = visitP (f.hdls.map hdOf) i x.op x.a p.1 p.2 ⟨st.sh, st.op.dropLast⟩ := by unfold visitAt; rw [hx]; simp only [hp]
      cases hvv : visitAt f ⟨st.sh, st.op.dropLast⟩ i with
      | none =>
        simp only [hvv, Option.bind_none]
        refine ⟨fun l h => (by cases h), fun _ => ?_⟩
        rw [hv] at hvv
        exact visit_bad hf hkn hi0 hx hrc hvv
      | some st' =>
        simp only [hvv, Option.bind_some]
        have hok := visitAt_ok hf ho1 hi0 hvv
        rw [hv] at hvv
        obtain ⟨hg, hwt⟩ := visit_gw hf hkn hi0 hx hrc hvv
        have hop : ∀ k : Int, k ∈ st.op → k = i ∨ k ∈ st.op.dropLast := fun k hk => by
          have hne : st.op ≠ [] := fun e => by rw [e] at hl; cases hl
          have h1 := List.dropLast_concat_getLast hne
          have h2 : st.op.getLast hne = i := by
            rw [List.getLast?_eq_some_getLast hne] at hl
            exact Option.some.inj hl
          rw [← h1] at hk
          rcases List.mem_append.1 hk with h | h
          · exact .inr h
          · rw [h2] at h
            exact .inl (by simpa using h)
        have hw' : WI f st' (fun k => (k : Int) ∈ st'.op) := by
          refine WI.step (st := ⟨st.sh, st.op.dropLast⟩) (i := i.toNat) (p := p) (pend := fun k => (k : Int) ∈ st.op) ⟨hkn, hw.done, hw.zero⟩ hg ?_ hp ?_ ?_
          · rw [show ((i.toNat : Nat) : Int) = i by omega]
            exact hwt
          · intro k hk
            rcases hop k hk with h | h
            · exact .inl (by omega)
            · exact .inr (hg.op _ h)
          · intro k q _ _ _ h
            exact h
        exact run_spec hf hk n hok.1 hw' (by omega)
/-- verify's shapes finds what is reached, or refuses -/
theorem shapesP_spec {f : Fn} (hf : FnV f) : (∀ l, shapesP f = some l → SafeF f ∧ TabOf f l) ∧ (shapesP f = none → ¬ SafeF f) := by
  unfold shapesP
  by_cases hk : f.code.all (kindOk f.kind) = true
  · rw [if_pos hk]
    obtain ⟨st, hst⟩ := startP_some hf.l0
    have ho := start_ok hst
    rw [hst, Option.bind_some]
    exact run_spec hf hk _ ho.1 (start_wi hst) (by omega)
  · rw [if_neg hk]
    exact ⟨fun l h => (by cases h), fun _ hs => hk hs.kind⟩
theorem shapesP_some {f : Fn} (hf : FnV f) {l : List Shp} (hs : SafeF f) (ht : TabOf f l) : shapesP f = some l := by
  have h := shapesP_spec hf
  cases hq : shapesP f with
  | none => exact absurd hs (h.2 hq)
  | some l' => rw [tab_one hs (h.1 l' hq).2 ht]
theorem shapesP_none {f : Fn} (hf : FnV f) (hs : ¬ SafeF f) : shapesP f = none := by
  cases hq : shapesP f with
  | none => rfl
  | some l' => exact absurd ((shapesP_spec hf).1 l' hq).1 hs
end Go.Proofs.YtlffpgjkhehdmaaDoor
