/- Own work: what a function returns, out of the walk over its body. -/
import Derived.Test.YtlffpgjkhehdmaaDoorAbsG
namespace Go.Proofs.YtlffpgjkhehdmaaDoor
open Go.RowKit

section
variable {P : Program} {G : World → Prop} {T : TT} {w0 : Base} {B : Nat → Prop} {nt : Nat}

/-- the results of a function -/
def aress (T : TT) (env : List AV) (H : AH) : List ResultVar → (List AV → Prop) → Prop
  | [], K => K []
  | .tmp t :: rs, K => aress T env H rs fun as => K (env.getD t .junk :: as)
  | .cell a t :: rs, K => (match T t with
    | some i => aload i (env.getD a .junk) H fun x => aress T env H rs fun as => K (x :: as)
    | none => False)
def retQ (E : SO) (T : TT) (rs : List ResultVar) (r : PV) (e : Exit) (env : List AV) (H : AH) : Prop :=
  match e with
  | .ret => aress T env H rs fun as => (match as with
    | [a] => frz E H a fun p => p = r
    | as => frz E H (.tup as) fun p => p = r)
  | .normal => aress T env H rs fun as => (match as with
    | [a] => frz E H a fun p => p = r
    | as => frz E H (.tup as) fun p => p = r)
  | .panic ch => r = .pan ch
  | _ => False

def resOf (tmps : Array Value) (r : ResultVar) : Sem Value := match r with
  | .tmp t => pure (tmps.getD t undef)
  | .cell a t => do loadVar t (← asAddr (tmps.getD a undef))
theorem results_eq (fn : Func) (tmps : Array Value) : results fn tmps = (do let vs ← fn.results.mapM (resOf tmps); pure (if h : vs.size = 1 then vs[0] else .tuple vs)) := rfl
theorem aress_run (hT : TOk P T) {w : World} {ι : Pl} {H : AH} {env : List AV} {tmps : Array Value} (hR : Rel w0 B w ι H) (hE : RepE w ι (Rd B ι H) env tmps) : ∀ (rs : List ResultVar) (K : List AV → Prop), aress T env H rs K →
    ∃ as vs, K as ∧ (rs.mapM (resOf tmps)).run P w = .ok vs w ∧ as.length = vs.length ∧ ∀ (j : Nat) (a : AV) (v : Value), as[j]? = some a → vs[j]? = some v → Rep w ι (Rd B ι H) a v
  | [], K, h => ⟨[], [], h, rfl, rfl, fun j a v ha => by simp at ha⟩
  | .tmp t :: rs, K, h => by
    unfold aress at h
    obtain ⟨as, vs, hK, hrun, hl, hr⟩ := aress_run hT hR hE rs _ h
    refine ⟨_, tmps.getD t undef :: vs, hK, ?_, by simp [hl], fun j a v ha hv => ?_⟩
    · rw [List.mapM_cons]
      simp only [resOf, Sem.run_bind, Sem.run_pure, Result.andThen_ok, hrun]
    · cases j with
      | zero =>
        simp at ha hv
        have := hE.eval (a := ⟨tmps, []⟩) (.tmp t)
        simp only [aev, Act.eval] at this
        rw [← ha, ← hv]
        simpa [List.getD_eq_getElem?_getD] using this
      | succ j => exact hr j a v (by simpa using ha) (by simpa using hv)
  | .cell c t :: rs, K, h => by
    unfold aress at h
    split at h
    · rename_i i ht
      have h' : aload i (aev env (.tmp c)) H fun x => aress T env H rs fun as => K (x :: as) := h
      obtain ⟨x, hx, hld⟩ := aload_val (P := P) hT ht h'
      obtain ⟨as, vs, hK, hrun, hl, hr⟩ := aress_run hT hR hE rs _ hx
      have hc := hE.eval (a := ⟨tmps, []⟩) (.tmp c)
      simp only [Act.eval] at hc
      obtain ⟨u, hu, hru⟩ := hld w0 B w ι _ hR hc
      refine ⟨_, u :: vs, hK, ?_, by simp [hl], fun j a v ha hv => ?_⟩
      · have hu' : (do loadVar t (← asAddr (tmps.getD c undef)) : Sem Value).run P w = .ok u w := by
          generalize tmps.getD c undef = p at hu
          cases p with
          | pointer ad =>
            cases ad with
            | none => simp [Instr.loadAt, Instr.sureAddr, stuck, Sem.run] at hu
            | some ad => simpa [Instr.loadAt, Instr.sureAddr, asAddr] using hu
          | _ => simp [Instr.loadAt, Instr.sureAddr, stuck, Sem.run] at hu
        rw [List.mapM_cons]
        simp only [resOf, Sem.run_bind] at hu' ⊢
        rw [hu']
        simp only [Sem.run_pure, Result.andThen_ok, hrun]
      · cases j with
        | zero => simp at ha hv; subst ha; subst hv; exact hru
        | succ j => exact hr j a v (by simpa using ha) (by simpa using hv)
    · cases h

theorem start_env {w : World} {ι : Pl} {R : Nat → Prop} {as : List AV} {args : List Value} {nt : Nat} (_hl : as.length ≤ nt) (hlen : as.length = args.length) (h : ∀ (j : Nat) (a : AV) (v : Value), as[j]? = some a → args[j]? = some v → Rep w ι R a v) :
    RepE w ι R (as ++ List.replicate (nt - as.length) (.p (.v undef))) (args.toArray ++ Array.replicate (nt - args.toArray.size) undef) := by
  refine ⟨by simp [hlen], fun t x v hx hv => ?_⟩
  rcases Nat.lt_or_ge t as.length with htl | htl
  · rw [List.getElem?_append_left htl] at hx
    rw [Array.getElem?_append_left (by simp; omega)] at hv
    exact h t x v hx (by simpa using hv)
  · rw [List.getElem?_append_right htl] at hx
    have hx' : x = .p (.v undef) := by
      rw [List.getElem?_replicate] at hx
      split at hx
      · exact (Option.some.inj hx).symm
      · cases hx
    have hv' : v = undef := by
      rw [Array.getElem?_append_right (by simp; omega)] at hv
      rw [Array.getElem?_replicate] at hv
      split at hv
      · exact (Option.some.inj hv).symm
      · cases hv
    subst hx'; subst hv'
    exact .p _ _ (.v _)
/-- the results, run -/
theorem results_run (hT : TOk P T) {w : World} {ι : Pl} {H : AH} {env : List AV} {tmps : Array Value} (hR : Rel w0 B w ι H) (hE : RepE w ι (Rd B ι H) env tmps) {fn : Func} {K : AV → Prop} (h : aress T env H fn.results.toList fun as => (match as with
    | [a] => K a
    | as => K (.tup as))) : ∃ x v, K x ∧ (results fn tmps).run P w = .ok v w ∧ Rep w ι (Rd B ι H) x v := by
  obtain ⟨xs, vs, hK, hrun, hxl, hxr⟩ := aress_run hT hR hE _ _ h
  have hres : (results fn tmps).run P w = .ok (if h : vs.toArray.size = 1 then vs.toArray[0] else .tuple vs.toArray) w := by
    rw [results_eq, Array.mapM_eq_mapM_toList]
    simp only [Sem.run_bind, Sem.run_map, hrun, Result.andThen_ok]
    rfl
  split at hK
  · rename_i x
    have hv1 : vs.length = 1 := by simpa using hxl.symm
    obtain ⟨v, rfl⟩ := List.length_eq_one_iff.1 hv1
    exact ⟨x, v, hK, by rw [hres]; rfl, hxr 0 x v rfl rfl⟩
  · rename_i hne
    have hv1 : ¬ vs.toArray.size = 1 := fun e => by
      have : xs.length = 1 := by rw [hxl]; simpa using e
      obtain ⟨x, rfl⟩ := List.length_eq_one_iff.1 this
      exact hne x rfl
    exact ⟨.tup xs, .tuple vs.toArray, hK, by rw [hres, dif_neg hv1], .tup xs vs hxl hxr⟩
theorem enters_of {f : FuncId} {fn : Func} {c : Code} (hf : P.funcs[f]? = some fn) (hb : fn.body = some c) (hn : (fn.name == "runtime.NumGoroutine") = false) (args : Array Value) (w : World) : (callFunc f args).run P w = .ok (.enter f args) w := by
  have hn' : ¬ fn.name = "runtime.NumGoroutine" := by simpa using hn
  simp [callFunc, program, Sem.run, hf, hn', hb]

/-- THE RULE: a function returns what the walk over its body says -/
theorem ret_of (hT : TOk P T) (hG : ∀ w w', Gr w w' → G w → G w') (hm : P.follows .mixedOrders = true) (kOf : Nat → Nat) {f : FuncId} {fn : Func} {c : Code} (hf : P.funcs[f]? = some fn) (hb : fn.body = some c) (hn : (fn.name == "runtime.NumGoroutine") = false)
    (hok : codeOk fn.ntmps kOf c = true) {as : List PV} {r : PV} (hl : as.length ≤ fn.ntmps) (h : awp P G stdE T kOf c (retQ stdE T fn.results.toList r) (as.map .p ++ List.replicate (fn.ntmps - as.length) (.p (.v undef))) []) : Ret P G f as r := by
  refine ⟨enters_of hf hb hn, fun w B args hGw hlen hargs => ?_⟩
  refine calls_of_wp hf hb ?_
  have hS : St (Base.of w) (fun b => B b ∨ w.heap.size ≤ b) fn.ntmps (as.map .p ++ List.replicate (fn.ntmps - as.length) (.p (.v undef))) [] { tmps := args.toArray ++ Array.replicate (fn.ntmps - args.toArray.size) undef, defers := [] } w := by
    refine ⟨rfl, by simp; omega, [], ⟨.of (Gr.refl _), fun b hb => .inr hb, rfl, fun k b c s h1 => by simp at h1, fun k l b b' c s s' h1 => by simp at h1⟩, ?_⟩
    have := start_env (w := w) (ι := []) (R := Rd (fun b => B b ∨ w.heap.size ≤ b) [] []) (as := as.map .p) (args := args) (nt := fn.ntmps) (by simpa using hl) (by simpa using hlen) fun j a v ha hv => by
      rw [List.getElem?_map] at ha
      cases hj : as[j]? with
      | none => rw [hj] at ha; cases ha
      | some p =>
        rw [hj] at ha; cases ha
        refine .p _ _ ((hargs j p v hj hv).keep (Nat.le_refl _) fun b hb _ => ⟨⟨.inl hb, ?_⟩, rfl⟩)
        rintro ⟨k, b', s, h1, _⟩
        simp at h1
    simpa using this
  have hB0 : ∀ b, (Base.of w).own b → B b ∨ w.heap.size ≤ b := fun b hb => hb.elim (fun h => h.elim) .inr
  refine wp_mono (awp_sound hT (fun w' hg => hG _ _ hg.gr hGw) hB0 hm kOf c hok _ _ _ _ w h hS) ?_
  rintro e a w' ⟨env, H, hQ, hS'⟩
  obtain ⟨ι, hR, hE⟩ := hS'.rep
  have fin : (aress T env H fn.results.toList fun as => (match as with
    | [a] => frz stdE H a fun p => p = r
    | as => frz stdE H (.tup as) fun p => p = r)) → a.defers = [] ∧ ∃ v, (results fn a.tmps).run P w' = .ok v w' ∧ Gr w w' ∧ Ends w' (fun b => B b ∨ w.heap.size ≤ b) r (.returned v) := by
    intro h
    obtain ⟨x, v, hx, hrun, hv⟩ := results_run (K := fun a => frz stdE H a fun p => p = r) hT hR hE h
    obtain ⟨p, rfl, hp⟩ := frz_sound hR hB0 x v _ hx hv
    exact ⟨hS'.defers, v, hrun, hR.gr.gr, .ret hp⟩
  cases e with
  | ret => exact fin hQ
  | normal => exact fin hQ
  | exit id => cases hQ
  | goto l => cases hQ
  | panic c => exact ⟨hS'.defers, hR.gr.gr, by cases hQ; rfl⟩
  | outgrown => cases hQ

/-- the same; program and condition are letters in the walk -/
theorem ret_by (hT : TOk P T) (hG : ∀ w w', Gr w w' → G w → G w') (hm : P.follows .mixedOrders = true) (kOf : Nat → Nat) {f : FuncId} {fn : Func} {c : Code} (hf : P.funcs[f]? = some fn) (hb : fn.body = some c) (hn : (fn.name == "runtime.NumGoroutine") = false)
    (hok : codeOk fn.ntmps kOf c = true) {l : List PV} {r : PV} (hl : decide (l.length ≤ fn.ntmps) = true)
    (h : ∀ (P' : Program) (G' : World → Prop) (E : SO), (∀ f l r, Ret P G f l r → Ret P' G' f l r) → E = stdE → awp P' G' E T kOf c (retQ E T fn.results.toList r) (l.map .p ++ List.replicate (fn.ntmps - l.length) (.p (.v undef))) []) : Ret P G f l r :=
  ret_of hT hG hm kOf hf hb hn hok (of_decide_eq_true hl) (h P G stdE (fun _ _ _ h => h) rfl)
/-- the same, for a function that lends blocks -/
theorem ret_bym (hT : TOk P T) (hG : ∀ w w', Gr w w' → G w → G w') (hm : P.follows .mixedOrders = true) (kOf : Nat → Nat) {f : FuncId} {fn : Func} {c : Code} (hf : P.funcs[f]? = some fn) (hb : fn.body = some c) (hn : (fn.name == "runtime.NumGoroutine") = false)
    (hok : codeOk fn.ntmps kOf c = true) {l : List PV} {r : PV} (hl : decide (l.length ≤ fn.ntmps) = true)
    (h : ∀ (P' : Program) (G' : World → Prop) (E : SO), (∀ f l r, Ret P G f l r → Ret P' G' f l r) → (∀ f as H r H', RetM P G f as H r H' → RetM P' G' f as H r H') → E = stdE → awp P' G' E T kOf c (retQ E T fn.results.toList r) (l.map .p ++ List.replicate (fn.ntmps - l.length) (.p (.v undef))) []) : Ret P G f l r :=
  ret_of hT hG hm kOf hf hb hn hok (of_decide_eq_true hl) (h P G stdE (fun _ _ _ h => h) (fun _ _ _ _ _ h => h) rfl)

/-- a result: slices of blocks that are not lent are given up -/
def resK (E : SO) (m : Nat) (H : AH) : AV → (AV → Prop) → Prop
  | .osl k i n, K => (match Nat.ble m k with
    | true => (match H[k]? with
      | some (some (.rows s rs _)) => E.pre i n rs ∧ K (.p (.ro s (E.sub rs i n)))
      | _ => False)
    | false => K (.osl k i n))
  | .agg cs, K => resL cs fun as => (match AV.toP.toPL as with
    | some ps => K (.p (.agg ps))
    | none => K (.agg as))
  | .tup cs, K => resL cs fun as => (match AV.toP.toPL as with
    | some ps => K (.p (.tup ps))
    | none => K (.tup as))
  | a, K => K a
where resL : List AV → (List AV → Prop) → Prop
  | [], K => K []
  | a :: as, K => resK E m H a fun x => resL as fun xs => K (x :: xs)
theorem toP_low (m : Nat) : ∀ (a : AV) (p : PV), a.toP = some p → a.low m = true
  | .p x, p, h => rfl
  | .agg cs, p, h => by
    unfold AV.toP at h
    cases hp : AV.toP.toPL cs with
    | none => rw [hp] at h; cases h
    | some xs => exact toPL_low m cs xs hp
  | .tup cs, p, h => by
    unfold AV.toP at h
    cases hp : AV.toP.toPL cs with
    | none => rw [hp] at h; cases h
    | some xs => exact toPL_low m cs xs hp
  | .own _ _, _, h => by cases h
  | .orw _ _ _, _, h => by cases h
  | .osl _ _ _, _, h => by cases h
  | .clo _ _ _, _, h => by cases h
  | .junk, _, h => by cases h
where toPL_low (m : Nat) : ∀ (cs : List AV) (ps : List PV), AV.toP.toPL cs = some ps → AV.low.lowL m cs = true
  | [], _, _ => rfl
  | a :: as, ps, h => by
    unfold AV.toP.toPL at h
    split at h
    · rename_i x ys hx hy
      simp only [AV.low.lowL, Bool.and_eq_true]
      exact ⟨toP_low m a x hx, toPL_low m as ys hy⟩
    · cases h
theorem pack_rep {w : World} {ι : Pl} {R : Nat → Prop} {m : Nat} {xs : List AV} {vs : List Value} {ps : List PV} (hp : AV.toP.toPL xs = some ps) (hl : xs.length = vs.length) (h : ∀ (j : Nat) (x : AV) (v : Value), xs[j]? = some x → vs[j]? = some v → x.low m = true → Rep w ι R x v) :
    ps.length = vs.length ∧ ∀ (j : Nat) (p : PV) (v : Value), ps[j]? = some p → vs[j]? = some v → RepP w R p v := by
  have hg := toPL_get xs ps hp
  refine ⟨by omega, fun j p v hpj hv => ?_⟩
  have hj : j < xs.length := by have := (List.getElem?_eq_some_iff.1 hpj).1; omega
  obtain ⟨p', hp', hap⟩ := hg.2 j xs[j] (List.getElem?_eq_getElem hj)
  rw [hp'] at hpj; cases hpj
  exact (h j _ v (List.getElem?_eq_getElem hj) hv (toP_low m _ _ hap)).toP _ hap
theorem resK_sound {H : AH} {w : World} {ι : Pl} {m : Nat} (hR : Rel w0 B w ι H) (hB : ∀ b, w0.own b → B b) : ∀ (a : AV) (v : Value) (K : AV → Prop), resK stdE m H a K → Rep w ι (Rd B ι H) a v → ∃ x, K x ∧ (x.low m = true → Rep w (ι.take m) (Rd B (ι.take m) (H.take m)) x v)
  | .p x, v, K, h, hv => ⟨.p x, h, fun hl => hv.trunc rd_take hl⟩
  | .own k j, v, K, h, hv => ⟨_, h, fun hl => hv.trunc rd_take hl⟩
  | .orw k i j, v, K, h, hv => ⟨_, h, fun hl => hv.trunc rd_take hl⟩
  | .clo f fs cs, v, K, h, hv => ⟨_, h, fun hl => hv.trunc rd_take hl⟩
  | .junk, v, K, h, hv => ⟨_, h, fun hl => hv.trunc rd_take hl⟩
  | .osl k i n, v, K, h, hv => by
    unfold resK at h
    split at h
    · rename_i hmk
      have hmk := Nat.le_of_ble_eq_true hmk
      split at h
      · rename_i s rs t hk
        change i + n ≤ rs.length ∧ K (.p (.ro s ((rs.drop i).take n))) at h
        cases hv with
        | osl0 =>
          obtain ⟨hle, h⟩ := h
          have e : (rs.drop i).take 0 = [] := by simp
          rw [e] at h
          exact ⟨_, h, fun _ => .p _ _ (.ro0 _ _ _)⟩
        | osl _ _ _ c cap sz hi hn hm hz =>
          obtain ⟨hle, h⟩ := h
          refine ⟨_, h, fun _ => .p _ _ ?_⟩
          obtain ⟨es, hl, hh⟩ := (hR.blk k _ _ sz hk hi).2
          have hge := (hR.blk k _ _ sz hk hi).1 c rfl
          rcases hh with ⟨ec, _⟩ | ⟨c', arr, ec, hb, hz0, hcs⟩
          · cases ec
          cases ec
          have hlen : ((rs.drop i).take n).length = n := by rw [List.length_take, List.length_drop]; omega
          have hget : ∀ (q : Nat) (row : List PV), ((rs.drop i).take n)[q]? = some row → rs[i + q]? = some row := fun q row hr => (get_drop_take hr).1
          have hrdc : Rd B (ι.take m) (H.take m) c := ⟨hB c hge, fun ⟨k', b', s', h1, h2⟩ => by
            obtain ⟨g1, g2⟩ := take_get_some h1
            have := hR.inj k k' _ b' c sz s' hk g2 hi (take_get_some h2).2
            omega⟩
          have hcell : ∀ (q j : Nat) (row : List PV) (a : PV), ((rs.drop i).take n)[q]? = some row → row[j]? = some a → ∃ u, (arr[(i + q) * sz.1 + j]?).getD undef = u ∧ w.cell? ⟨c, i * sz.1 + (q * s + j), none⟩ = some u ∧ u.oneCell' = true ∧ RepP w (Rd B (ι.take m) (H.take m)) a u := by
            intro q j row a hr ha
            obtain ⟨u, hu, h1, hru⟩ := hcs _ j row a (hget q row hr) ha
            have e2 : i * sz.1 + (q * s + j) = (i + q) * sz.1 + j := by rw [es, Nat.add_mul]; omega
            exact ⟨u, by rw [hu]; rfl, by rw [aget hb, e2]; exact hu, h1, hru.keep (Nat.le_refl _) fun b hb _ => ⟨rd_take b hb, rfl⟩⟩
          have := RepP.ro (w := w) (R := Rd B (ι.take m) (H.take m)) s ((rs.drop i).take n) c (i * sz.1) cap (fun q j => (arr[(i + q) * sz.1 + j]?).getD undef) hrdc (lt_of_heap hb) (by omega) (fun q row hr => by rw [es]; exact hl _ row (hget q row hr))
            (fun q j row a hr ha => by obtain ⟨u, e1, e2, e3, _⟩ := hcell q j row a hr ha; rw [e1]; exact ⟨e2, e3⟩) (fun q j row a hr ha => by obtain ⟨u, e1, _, _, e4⟩ := hcell q j row a hr ha; rw [e1]; exact e4)
          rw [hlen] at this
          exact this
      · cases h
    · exact ⟨_, h, fun hl => hv.trunc rd_take hl⟩
  | .agg cs, v, K, h, hv => by
    unfold resK at h
    cases hv with
    | agg _ vs hl hr =>
      obtain ⟨xs, hK, hxl, hxr⟩ := resL_sound hR hB cs vs _ hl hr h
      split at hK
      · rename_i ps hp
        have := pack_rep hp (hxl.trans hl) hxr
        exact ⟨_, hK, fun _ => .p _ _ (.agg ps vs this.1 this.2)⟩
      · exact ⟨_, hK, fun hlow => .agg xs vs (hxl.trans hl) fun j a v ha hv => hxr j a v ha hv (lowL_get hlow ha)⟩
  | .tup cs, v, K, h, hv => by
    unfold resK at h
    cases hv with
    | tup _ vs hl hr =>
      obtain ⟨xs, hK, hxl, hxr⟩ := resL_sound hR hB cs vs _ hl hr h
      split at hK
      · rename_i ps hp
        have := pack_rep hp (hxl.trans hl) hxr
        exact ⟨_, hK, fun _ => .p _ _ (.tup ps vs this.1 this.2)⟩
      · exact ⟨_, hK, fun hlow => .tup xs vs (hxl.trans hl) fun j a v ha hv => hxr j a v ha hv (lowL_get hlow ha)⟩
where resL_sound {H : AH} {w : World} {ι : Pl} {m : Nat} (hR : Rel w0 B w ι H) (hB : ∀ b, w0.own b → B b) : ∀ (as : List AV) (vs : List Value) (K : List AV → Prop), as.length = vs.length → (∀ (j : Nat) (a : AV) (v : Value), as[j]? = some a → vs[j]? = some v → Rep w ι (Rd B ι H) a v) → resK.resL stdE m H as K →
    ∃ xs, K xs ∧ xs.length = as.length ∧ ∀ (j : Nat) (x : AV) (v : Value), xs[j]? = some x → vs[j]? = some v → x.low m = true → Rep w (ι.take m) (Rd B (ι.take m) (H.take m)) x v
  | [], vs, K, hl, hr, h => ⟨[], h, rfl, fun j p v hp => by simp at hp⟩
  | a :: as, [], K, hl, hr, h => by simp at hl
  | a :: as, v :: vs, K, hl, hr, h => by
    unfold resK.resL at h
    obtain ⟨x, hx, hxr⟩ := resK_sound hR hB a v _ h (hr 0 a v rfl rfl)
    obtain ⟨xs, hK, hxl, hxs⟩ := resL_sound hR hB as vs _ (by simpa using hl) (fun j b u hb hu => hr (j + 1) b u (by simpa using hb) (by simpa using hu)) hx
    refine ⟨x :: xs, hK, by simp [hxl], fun j q u hq hu => ?_⟩
    cases j with
    | zero => simp at hq hu; subst hq; subst hu; exact hxr
    | succ j => exact hxs j q u (by simpa using hq) (by simpa using hu)

def allNone : AH → Bool
  | [] => true
  | none :: H => allNone H
  | some _ :: _ => false
theorem allNone_get : ∀ {H : AH} {k : Nat} {b : ABlk}, allNone H = true → H[k]? ≠ some (some b)
  | [], k, b, _ => by simp
  | none :: H, 0, b, _ => by simp
  | none :: H, k + 1, b, h => by simpa using allNone_get (k := k) (b := b) (H := H) h
  | some _ :: _, _, _, h => by cases h
def retQM (E : SO) (T : TT) (rs : List ResultVar) (tags : List Nat) (r : AV) (H' : AH) (e : Exit) (env : List AV) (H : AH) : Prop :=
  match e with
  | .ret => aress T env H rs fun as => (match as with
    | [a] => resK E H'.length H a fun x => x = r ∧ H.take H'.length = tagH tags H' ∧ hlow H'.length (tagH tags H') = true ∧ r.low H'.length = true
    | as => resK E H'.length H (.tup as) fun x => x = r ∧ H.take H'.length = tagH tags H' ∧ hlow H'.length (tagH tags H') = true ∧ r.low H'.length = true)
  | .normal => aress T env H rs fun as => (match as with
    | [a] => resK E H'.length H a fun x => x = r ∧ H.take H'.length = tagH tags H' ∧ hlow H'.length (tagH tags H') = true ∧ r.low H'.length = true
    | as => resK E H'.length H (.tup as) fun x => x = r ∧ H.take H'.length = tagH tags H' ∧ hlow H'.length (tagH tags H') = true ∧ r.low H'.length = true)
  | .panic ch => r = .p (.pan ch) ∧ allNone (tagH tags H') = true
  | _ => False
/-- for all marks -/
def TagsAll : Nat → (List Nat → Prop) → Prop
  | 0, K => K []
  | n + 1, K => ∀ t, TagsAll n fun ts => K (t :: ts)
theorem tagsAll_get : ∀ {n : Nat} {K : List Nat → Prop}, TagsAll n K → ∀ tags : List Nat, tags.length = n → K tags
  | 0, K, h, tags, hl => by have := List.eq_nil_of_length_eq_zero hl; subst this; exact h
  | n + 1, K, h, [], hl => by simp at hl
  | n + 1, K, h, t :: ts, hl => tagsAll_get (h t) ts (by simpa using hl)
/-- THE RULE for a function that is lent blocks -/
theorem retm_of (hT : TOk P T) (hm : P.follows .mixedOrders = true) (kOf : Nat → Nat) {f : FuncId} {fn : Func} {c : Code} (hf : P.funcs[f]? = some fn) (hb : fn.body = some c) (hn : (fn.name == "runtime.NumGoroutine") = false)
    (hok : codeOk fn.ntmps kOf c = true) {as : List AV} {H : AH} {r : AV} {H' : AH} (hl : as.length ≤ fn.ntmps) (h : ∀ tags : List Nat, tags.length = H.length → awp P G stdE T kOf c (retQM stdE T fn.results.toList tags r H') (as ++ List.replicate (fn.ntmps - as.length) (.p (.v undef))) (tagH tags H)) : RetM P G f as H r H' := by
  refine ⟨enters_of hf hb hn, fun B w ι args tags htl hC hR hlen hargs => ?_⟩
  refine calls_of_wp hf hb ?_
  have hS : St ⟨w, Owned ι (tagH tags H)⟩ B fn.ntmps (as ++ List.replicate (fn.ntmps - as.length) (.p (.v undef))) (tagH tags H) { tmps := args.toArray ++ Array.replicate (fn.ntmps - args.toArray.size) undef, defers := [] } w :=
    ⟨rfl, by simp; omega, ι, hR, start_env hl hlen hargs⟩
  refine wp_mono (awp_sound hT (fun w' hg => hC.stab w' hg) hC.own hm kOf c hok _ _ _ _ w (h tags htl) hS) ?_
  rintro e a w' ⟨env, H2, hQ, hS'⟩
  obtain ⟨ι2, hR2, hE⟩ := hS'.rep
  have fin : (aress T env H2 fn.results.toList fun as => (match as with
    | [a] => resK stdE H'.length H2 a fun x => x = r ∧ H2.take H'.length = tagH tags H' ∧ hlow H'.length (tagH tags H') = true ∧ r.low H'.length = true
    | as => resK stdE H'.length H2 (.tup as) fun x => x = r ∧ H2.take H'.length = tagH tags H' ∧ hlow H'.length (tagH tags H') = true ∧ r.low H'.length = true)) →
      a.defers = [] ∧ ∃ v, (results fn a.tmps).run P w' = .ok v w' ∧ ∃ ι', Rel ⟨w, Owned ι (tagH tags H)⟩ B w' ι' (tagH tags H') ∧ EndsA w' ι' (Rd B ι' (tagH tags H')) r (.returned v) := by
    intro h
    obtain ⟨x, v, hx, hrun, hv⟩ := results_run (K := fun a => resK stdE H'.length H2 a fun x => x = r ∧ H2.take H'.length = tagH tags H' ∧ hlow H'.length (tagH tags H') = true ∧ r.low H'.length = true) hT hR2 hE h
    obtain ⟨y, ⟨rfl, e1, e2, e3⟩, hy⟩ := resK_sound hR2 hC.own x v _ hx hv
    have hv' := hy e3
    rw [← e1] at e2
    have hR3 := hR2.trunc (m := H'.length) e2
    rw [e1] at hR3 hv'
    exact ⟨hS'.defers, v, hrun, _, hR3, .ret hv'⟩
  cases e with
  | ret => exact fin hQ
  | normal => exact fin hQ
  | exit id => cases hQ
  | goto l => cases hQ
  | panic ch =>
    obtain ⟨rfl, hno⟩ := hQ
    refine ⟨hS'.defers, List.replicate (tagH tags H').length (none, 0, 0), ⟨hR2.gr, hR2.fut, by simp, fun k b c s h1 => absurd h1 (allNone_get hno), fun k l b b' c s s' h1 => absurd h1 (allNone_get hno)⟩, rfl⟩
  | outgrown => cases hQ
/-- the same; program and condition are letters in the walk -/
theorem retm_by (hT : TOk P T) (hm : P.follows .mixedOrders = true) (kOf : Nat → Nat) {f : FuncId} {fn : Func} {c : Code} (hf : P.funcs[f]? = some fn) (hb : fn.body = some c) (hn : (fn.name == "runtime.NumGoroutine") = false)
    (hok : codeOk fn.ntmps kOf c = true) {as : List AV} {H : AH} {r : AV} {H' : AH} (hl : decide (as.length ≤ fn.ntmps) = true)
    (h : ∀ (P' : Program) (G' : World → Prop) (E : SO), (∀ f l r, Ret P G f l r → Ret P' G' f l r) → (∀ f as H r H', RetM P G f as H r H' → RetM P' G' f as H r H') → E = stdE →
      TagsAll H.length fun tags => awp P' G' E T kOf c (retQM E T fn.results.toList tags r H') (as ++ List.replicate (fn.ntmps - as.length) (.p (.v undef))) (tagH tags H)) : RetM P G f as H r H' :=
  retm_of hT hm kOf hf hb hn hok (of_decide_eq_true hl) fun tags htl => tagsAll_get (h P G stdE (fun _ _ _ h => h) (fun _ _ _ _ _ h => h) rfl) tags htl
end
end Go.Proofs.YtlffpgjkhehdmaaDoor
