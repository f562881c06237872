/- Own work: what a function returns, out of the walk over its body. -/
import Derived.Test.YtadgpchdlkiinaaDoorAbsG
namespace Go.Proofs.YtadgpchdlkiinaaDoor
open Go.RowKit

section
variable {P : Program} {G : World → Prop} {T : TT} {w0 : World} {B : Nat → Prop} {nt : Nat}

theorem repP_rd {w : World} {ι : Pl} {H : AH} {x : PV} {v : Value} (h : RepP w (Rd B ι H) x v) : RepP w B x v := h.keep (Nat.le_refl _) fun _ hb _ => ⟨hb.1, rfl⟩

theorem frz_sound {H : AH} {w : World} {ι : Pl} (hR : Rel w0 B w ι H) (hB : ∀ b, w0.heap.size ≤ b → B b) : ∀ (a : AV) (v : Value) (K : PV → Prop), frz H a K → Rep w ι (Rd B ι H) a v → ∃ p, K p ∧ RepP w B p v
  | .p x, v, K, h, hv => by
    cases hv with
    | p _ _ hv => exact ⟨x, h, repP_rd hv⟩
  | .osl k i n, v, K, h, hv => by
    unfold frz at h
    split at h
    · rename_i s rs t hk
      obtain ⟨hle, h⟩ := h
      refine ⟨_, h, ?_⟩
      cases hv with
      | osl0 =>
        have e : (rs.drop i).take 0 = [] := by simp
        rw [e]; exact .ro0 _ _ _
      | osl _ _ _ c cap sz hi hn hm hz =>
        obtain ⟨es, hl, hh⟩ := (hR.blk k _ _ sz hk hi).2
        have hge := (hR.blk k _ _ sz hk hi).1 c rfl
        rcases hh with ⟨ec, _⟩ | ⟨c', arr, ec, hb, hz0, hcs⟩
        · cases ec
        cases ec
        have hlen : ((rs.drop i).take n).length = n := by rw [List.length_take, List.length_drop]; omega
        have hget : ∀ (q : Nat) (row : List PV), ((rs.drop i).take n)[q]? = some row → rs[i + q]? = some row := fun q row hr => (get_drop_take hr).1
        have hcell : ∀ (q j : Nat) (row : List PV) (a : PV), ((rs.drop i).take n)[q]? = some row → row[j]? = some a → ∃ u, (arr[(i + q) * sz.1 + j]?).getD undef = u ∧ w.cell? ⟨c, i * sz.1 + (q * s + j), none⟩ = some u ∧ u.oneCell' = true ∧ RepP w B a u := by
          intro q j row a hr ha
          obtain ⟨u, hu, h1, hru⟩ := hcs _ j row a (hget q row hr) ha
          have e2 : i * sz.1 + (q * s + j) = (i + q) * sz.1 + j := by rw [es, Nat.add_mul]; omega
          exact ⟨u, by rw [hu]; rfl, by rw [aget hb, e2]; exact hu, h1, repP_rd hru⟩
        have := RepP.ro (w := w) (R := B) s ((rs.drop i).take n) c (i * sz.1) cap (fun q j => (arr[(i + q) * sz.1 + j]?).getD undef) (hB c hge) (lt_of_heap hb) (by omega) (fun q row hr => by rw [es]; exact hl _ row (hget q row hr))
          (fun q j row a hr ha => by obtain ⟨u, e1, e2, e3, _⟩ := hcell q j row a hr ha; rw [e1]; exact ⟨e2, e3⟩) (fun q j row a hr ha => by obtain ⟨u, e1, _, _, e4⟩ := hcell q j row a hr ha; rw [e1]; exact e4)
        rw [hlen] at this
        exact this
    · cases h
  | .agg cs, v, K, h, hv => by
    unfold frz at h
    cases hv with
    | agg _ vs hl hr =>
      obtain ⟨ps, hK, hpl, hpr⟩ := frzL_sound hR hB cs vs _ hl hr h
      exact ⟨_, hK, .agg ps vs (by omega) hpr⟩
  | .tup cs, v, K, h, hv => by
    unfold frz at h
    cases hv with
    | tup _ vs hl hr =>
      obtain ⟨ps, hK, hpl, hpr⟩ := frzL_sound hR hB cs vs _ hl hr h
      exact ⟨_, hK, .tup ps vs (by omega) hpr⟩
  | .own _ _, _, _, h, _ => h.elim
  | .orw _ _ _, _, _, h, _ => h.elim
  | .junk, _, _, h, _ => h.elim
where frzL_sound {H : AH} {w : World} {ι : Pl} (hR : Rel w0 B w ι H) (hB : ∀ b, w0.heap.size ≤ b → B b) : ∀ (as : List AV) (vs : List Value) (K : List PV → Prop), as.length = vs.length → (∀ (j : Nat) (a : AV) (v : Value), as[j]? = some a → vs[j]? = some v → Rep w ι (Rd B ι H) a v) → frz.frzL H as K →
    ∃ ps, K ps ∧ ps.length = as.length ∧ ∀ (j : Nat) (p : PV) (v : Value), ps[j]? = some p → vs[j]? = some v → RepP w B p v
  | [], vs, K, hl, hr, h => ⟨[], h, rfl, fun j p v hp => by simp at hp⟩
  | a :: as, [], K, hl, hr, h => by simp at hl
  | a :: as, v :: vs, K, hl, hr, h => by
    unfold frz.frzL at h
    obtain ⟨p, hp, hpr⟩ := frz_sound hR hB a v _ h (hr 0 a v rfl rfl)
    obtain ⟨ps, hK, hpl, hps⟩ := frzL_sound hR hB as vs _ (by simpa using hl) (fun j b u hb hu => hr (j + 1) b u (by simpa using hb) (by simpa using hu)) hp
    refine ⟨p :: ps, hK, by simp [hpl], fun j q u hq hu => ?_⟩
    cases j with
    | zero => simp at hq hu; subst hq; subst hu; exact hpr
    | succ j => exact hps j q u (by simpa using hq) (by simpa using hu)

/-- the results of a function -/
def aress (T : TT) (env : List AV) (H : AH) : List ResultVar → (List AV → Prop) → Prop
  | [], K => K []
  | .tmp t :: rs, K => aress T env H rs fun as => K (env.getD t .junk :: as)
  | .cell a t :: rs, K => (match T t with
    | some i => aload i (env.getD a .junk) H fun x => aress T env H rs fun as => K (x :: as)
    | none => False)
def retQ (T : TT) (rs : List ResultVar) (r : PV) (e : Exit) (env : List AV) (H : AH) : Prop :=
  match e with
  | .ret => aress T env H rs fun as => (match as with
    | [a] => frz H a fun p => p = r
    | as => frz H (.tup as) fun p => p = r)
  | .normal => aress T env H rs fun as => (match as with
    | [a] => frz H a fun p => p = r
    | as => frz H (.tup as) fun p => p = r)
  | _ => False

def resOf (tmps : Array Value) (r : ResultVar) : Sem Value := match r with
  | .tmp t => pure (tmps.getD t undef)
  | .cell a t => do loadVar t (← asAddr (tmps.getD a undef))
theorem results_eq (fn : Func) (tmps : Array Value) : results fn tmps = (do let vs ← fn.results.mapM (resOf tmps); pure (if h : vs.size = 1 then vs[0] else .tuple vs)) := rfl
theorem aress_run (hT : TOk P T) {w : World} {ι : Pl} {H : AH} {env : List AV} {tmps : Array Value} (hR : Rel w0 B w ι H) (hE : RepE w ι (Rd B ι H) env tmps) : ∀ (rs : List ResultVar) (K : List AV → Prop), aress T env H rs K →
    ∃ as vs, K as ∧ (rs.mapM (resOf tmps)).run P w = .ok vs w ∧ as.length = vs.length ∧ ∀ (j : Nat) (a : AV) (v : Value), as[j]? = some a → vs[j]? = some v → Rep w ι (Rd B ι H) a v
  | [], K, h => ⟨[], [], h, rfl, rfl, fun j a v ha => by simp at ha⟩
  | .tmp t :: rs, K, h => by
    unfold aress at h
    obtain ⟨as, vs, hK, hrun, hl, hr⟩ := aress_run hT hR hE rs _ h
    refine ⟨_, tmps.getD t undef :: vs, hK, ?_, by simp [hl], fun j a v ha hv => ?_⟩
    · rw [List.mapM_cons]
      simp only [resOf, Sem.run_bind, Sem.run_pure, Result.andThen_ok, hrun]
    · cases j with
      | zero =>
        simp at ha hv
        have := hE.eval (a := ⟨tmps, []⟩) (.tmp t)
        simp only [aev, Act.eval] at this
        rw [← ha, ← hv]
        simpa [List.getD_eq_getElem?_getD] using this
      | succ j => exact hr j a v (by simpa using ha) (by simpa using hv)
  | .cell c t :: rs, K, h => by
    unfold aress at h
    split at h
    · rename_i i ht
      have h' : aload i (aev env (.tmp c)) H fun x => aress T env H rs fun as => K (x :: as) := h
      obtain ⟨x, hx, hld⟩ := aload_val (P := P) hT ht h'
      obtain ⟨as, vs, hK, hrun, hl, hr⟩ := aress_run hT hR hE rs _ hx
      have hc := hE.eval (a := ⟨tmps, []⟩) (.tmp c)
      simp only [Act.eval] at hc
      obtain ⟨u, hu, hru⟩ := hld w0 B w ι _ hR hc
      refine ⟨_, u :: vs, hK, ?_, by simp [hl], fun j a v ha hv => ?_⟩
      · have hu' : (do loadVar t (← asAddr (tmps.getD c undef)) : Sem Value).run P w = .ok u w := by
          generalize tmps.getD c undef = p at hu
          cases p with
          | pointer ad =>
            cases ad with
            | none => simp [Instr.loadAt, Instr.sureAddr, stuck, Sem.run] at hu
            | some ad => simpa [Instr.loadAt, Instr.sureAddr, asAddr] using hu
          | _ => simp [Instr.loadAt, Instr.sureAddr, stuck, Sem.run] at hu
        rw [List.mapM_cons]
        simp only [resOf, Sem.run_bind] at hu' ⊢
        rw [hu']
        simp only [Sem.run_pure, Result.andThen_ok, hrun]
      · cases j with
        | zero => simp at ha hv; subst ha; subst hv; exact hru
        | succ j => exact hr j a v (by simpa using ha) (by simpa using hv)
    · cases h

/-- THE RULE: a function returns what the walk over its body says -/
theorem ret_of (hT : TOk P T) (hG : ∀ w w', Gr w w' → G w → G w') (hm : P.follows .mixedOrders = true) (kOf : Nat → Nat) {f : FuncId} {fn : Func} {c : Code} (hf : P.funcs[f]? = some fn) (hb : fn.body = some c) (hn : (fn.name == "runtime.NumGoroutine") = false)
    (hok : codeOk fn.ntmps kOf c = true) {as : List PV} {r : PV} (hl : as.length ≤ fn.ntmps) (h : awp P G stdE T kOf c (retQ T fn.results.toList r) (as.map .p ++ List.replicate (fn.ntmps - as.length) (.p (.v undef))) []) : Ret P G f as r := by
  refine ⟨fun args w => ?_, fun w B args hGw hlen hargs => ?_⟩
  · have hn' : ¬ fn.name = "runtime.NumGoroutine" := by simpa using hn
    simp [callFunc, program, Sem.run, hf, hn', hb]
  refine calls_of_wp hf hb ?_
  have hS : St w (fun b => B b ∨ w.heap.size ≤ b) fn.ntmps (as.map .p ++ List.replicate (fn.ntmps - as.length) (.p (.v undef))) [] { tmps := args.toArray ++ Array.replicate (fn.ntmps - args.toArray.size) undef, defers := [] } w := by
    refine ⟨rfl, by simp; omega, [], ⟨Gr.refl _, fun b hb => .inr hb, rfl, fun k b c s h1 => by simp at h1, fun k l b b' c s s' h1 => by simp at h1⟩, by simp [hlen], fun t x v hx hv => ?_⟩
    rcases Nat.lt_or_ge t as.length with htl | htl
    · rw [List.getElem?_append_left (by simpa using htl), List.getElem?_map] at hx
      have hv' : args[t]? = some v := by
        rw [Array.getElem?_append_left (by simp; omega)] at hv
        simpa using hv
      rw [List.getElem?_eq_getElem htl] at hx
      cases hx
      refine .p _ _ ((hargs t as[t] v (List.getElem?_eq_getElem htl) hv').keep (Nat.le_refl _) fun b hb _ => ⟨⟨.inl hb, ?_⟩, rfl⟩)
      rintro ⟨k, b', s, h1, _⟩
      simp at h1
    · rw [List.getElem?_append_right (by simpa using htl)] at hx
      have hx' : x = .p (.v undef) := by
        rw [List.getElem?_replicate] at hx
        split at hx
        · exact (Option.some.inj hx).symm
        · cases hx
      have hv' : v = undef := by
        rw [Array.getElem?_append_right (by simp; omega)] at hv
        rw [Array.getElem?_replicate] at hv
        split at hv
        · exact (Option.some.inj hv).symm
        · cases hv
      subst hx'; subst hv'
      exact .p _ _ (.v _)
  refine wp_mono (awp_sound hT hG hGw hm kOf c hok _ _ _ _ w h hS) ?_
  rintro e a w' ⟨env, H, hQ, hS'⟩
  obtain ⟨ι, hR, hE⟩ := hS'.rep
  have fin : (aress T env H fn.results.toList fun as => (match as with
    | [a] => frz H a fun p => p = r
    | as => frz H (.tup as) fun p => p = r)) → a.defers = [] ∧ ∃ v, (results fn a.tmps).run P w' = .ok v w' ∧ ∃ v', Ending.returned v = .returned v' ∧ Gr w w' ∧ RepP w' (fun b => B b ∨ w.heap.size ≤ b) r v' := by
    intro h
    obtain ⟨xs, vs, hK, hrun, hxl, hxr⟩ := aress_run hT hR hE _ _ h
    have hres : (results fn a.tmps).run P w' = .ok (if h : vs.toArray.size = 1 then vs.toArray[0] else .tuple vs.toArray) w' := by
      rw [results_eq, Array.mapM_eq_mapM_toList]
      simp only [Sem.run_bind, Sem.run_map, hrun, Result.andThen_ok]
      rfl
    refine ⟨hS'.defers, _, hres, _, rfl, hR.gr, ?_⟩
    split at hK
    · rename_i x
      have hv1 : vs.length = 1 := by simpa using hxl.symm
      obtain ⟨v, rfl⟩ := List.length_eq_one_iff.1 hv1
      obtain ⟨p, rfl, hp⟩ := frz_sound hR (fun b hb => .inr hb) x v _ hK (hxr 0 x v rfl rfl)
      simpa using hp
    · rename_i hne
      obtain ⟨p, rfl, hp⟩ := frz_sound hR (fun b hb => .inr hb) (.tup xs) (.tuple vs.toArray) _ hK (.tup xs vs hxl hxr)
      have hv1 : ¬ vs.toArray.size = 1 := fun e => by
        have : xs.length = 1 := by rw [hxl]; simpa using e
        obtain ⟨x, rfl⟩ := List.length_eq_one_iff.1 this
        exact hne x rfl
      rw [dif_neg hv1]; exact hp
  cases e with
  | ret => exact fin hQ
  | normal => exact fin hQ
  | exit id => cases hQ
  | goto l => cases hQ
  | panic c => cases hQ
  | outgrown => cases hQ

/-- the same; program and condition are letters in the walk -/
theorem ret_by (hT : TOk P T) (hG : ∀ w w', Gr w w' → G w → G w') (hm : P.follows .mixedOrders = true) (kOf : Nat → Nat) {f : FuncId} {fn : Func} {c : Code} (hf : P.funcs[f]? = some fn) (hb : fn.body = some c) (hn : (fn.name == "runtime.NumGoroutine") = false)
    (hok : codeOk fn.ntmps kOf c = true) {l : List PV} {r : PV} (hl : decide (l.length ≤ fn.ntmps) = true)
    (h : ∀ (P' : Program) (G' : World → Prop) (E : SO), (∀ f l r, Ret P G f l r → Ret P' G' f l r) → E = stdE → awp P' G' E T kOf c (retQ T fn.results.toList r) (l.map .p ++ List.replicate (fn.ntmps - l.length) (.p (.v undef))) []) : Ret P G f l r :=
  ret_of hT hG hm kOf hf hb hn hok (of_decide_eq_true hl) (h P G stdE (fun _ _ _ h => h) rfl)
end
end Go.Proofs.YtadgpchdlkiinaaDoor
