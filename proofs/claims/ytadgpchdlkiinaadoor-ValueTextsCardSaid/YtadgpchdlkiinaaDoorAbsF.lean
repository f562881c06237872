/- Own work: a region that draws its order: soundness. -/
import Derived.Test.YtadgpchdlkiinaaDoorAbsE
namespace Go.Proofs.YtadgpchdlkiinaaDoor
open Go.RowKit

section
variable {P : Program} {G : World → Prop} {T : TT} {w0 : Base} {B : Nat → Prop} {nt : Nat}

/-- operation i has made a variable -/
def LA (all : List Oper) (k : Nat) (listed : Array Bool) (i : Nat) : Prop := i < k ∧ listed.getD i false = true ∧ ∃ o, all[i]? = some o ∧ isAl o = true
def BX (all : List Oper) (k : Nat) (B : Nat → Prop) (c : Nat → Nat) (listed : Array Bool) (b : Nat) : Prop := B b ∧ ∀ i, LA all k listed i → b ≠ c i

/-- what is kept while the operations run, in whatever order -/
structure JS (T : TT) (all : List Oper) (k : Nat) (w0 : Base) (B : Nat → Prop) (ws : Nat) (ι : Pl) (H : AH) (env0 : List AV) (avs : Nat → AV) (c : Nat → Nat) (listed : Array Bool) (a : Act) (w : World) : Prop where
  defers : a.defers = []
  size : a.tmps.size = env0.length
  grow : ws ≤ w.heap.size
  rel : Rel w0 (BX all k B c listed) w ι H
  made : ∀ (i : Nat) (o : Oper) (t : TypeId), LA all k listed i → all[i]? = some o → o.op = .alloc t → ws ≤ c i ∧ (∃ ti, T t = some ti ∧ w.heap[c i]? = some (.cells ti.zero.cells t (0, 0))) ∧ ∀ d, o.dst = some d → a.eval (.tmp d) = .pointer (some ⟨c i, 0, none⟩)
  inj : ∀ i j, LA all k listed i → LA all k listed j → c i = c j → i = j
  vals : ∀ (i : Nat) (o : Oper) (t : Tmp), all[i]? = some o → i < k → listed.getD i false = true → isAl o = false → o.dst = some t → Rep w ι (Rd (BX all k B c listed) ι H) (avs i) (a.eval (.tmp t))
  rest : ∀ (t : Tmp), (∀ (i : Nat) (o : Oper), all[i]? = some o → i < k → listed.getD i false = true → o.dst ≠ some t) → Rep w ι (Rd (BX all k B c listed) ι H) (aev env0 (.tmp t)) (a.eval (.tmp t))

theorem aallocs_types {K : List AV → AH → Prop} : ∀ (n : Nat) (os : List Oper) (env : List AV) (H : AH), aallocs T n os env H K → ∀ (i : Nat) (o : Oper) (t : TypeId), i < n → os[i]? = some o → o.op = .alloc t → ∃ ti, T t = some ti ∧ ti.zero.cells.toList.all (·.oneCell') = true
  | 0, _, _, _, _, i, _, _, h, _, _ => by omega
  | _ + 1, [], _, _, _, i, o, t, _, h, _ => by simp at h
  | n + 1, o :: os, env, H, h, i, o', t, hi, ho, hop => by
    unfold aallocs at h
    cases i with
    | zero =>
      simp at ho
      subst ho
      rw [hop] at h
      simp only at h
      split at h
      · rename_i ti d hti hd
        split at h
        · rename_i hone; exact ⟨ti, hti, hone⟩
        · cases h
      · cases h
    | succ i =>
      have ho' : os[i]? = some o' := by simpa using ho
      split at h
      · split at h
        · split at h
          · exact aallocs_types n os _ _ h i o' t (by omega) ho' hop
          · cases h
        · cases h
      · exact aallocs_types n os _ _ h i o' t (by omega) ho' hop

theorem isAl_op {o : Oper} (h : isAl o = true) : ∃ t, o.op = .alloc t := by
  unfold isAl at h
  split at h
  · exact ⟨_, by assumption⟩
  · cases h
theorem isAl_of {o : Oper} {t : TypeId} (h : o.op = .alloc t) : isAl o = true := by unfold isAl; rw [h]

theorem eval_put_same {a : Act} {d : Tmp} {v : Value} (h : d < a.tmps.size) : (a.put (some d) v).eval (.tmp d) = v := by simp [Act.eval, Act.put, h]
theorem eval_put_ne {a : Act} {d : Option Tmp} {t : Tmp} {v : Value} (h : d ≠ some t) : (a.put d v).eval (.tmp t) = a.eval (.tmp t) := by
  cases d with
  | none => rfl
  | some s =>
    have hne : s ≠ t := fun e => h (by rw [e])
    simp only [Act.eval, Act.put, Array.getD_eq_getD_getElem?]
    rw [Array.getElem?_setIfInBounds_ne hne]
theorem eval_put_out {a : Act} {d : Tmp} {v : Value} (h : a.tmps.size ≤ d) (x : Tmp) : (a.put (some d) v).eval (.tmp x) = a.eval (.tmp x) := by
  simp only [Act.eval, Act.put, Array.getD_eq_getD_getElem?]
  rw [Array.setIfInBounds_eq_of_size_le h]

theorem LA_set_of {all : List Oper} {k : Nat} {listed : Array Bool} {i x : Nat} (h : LA all k listed x) : LA all k (listed.setIfInBounds i true) x := ⟨h.1, getD_set_true h.2.1, h.2.2⟩
theorem LA_of_set {all : List Oper} {k : Nat} {listed : Array Bool} {i x : Nat} (h : LA all k (listed.setIfInBounds i true) x) (hne : x ≠ i) : LA all k listed x := ⟨h.1, by have := h.2.1; rw [getD_set_ne false (Ne.symm hne)] at this; exact this, h.2.2⟩

theorem adrawn_sound (hT : TOk P T) (hG0 : ∀ w, GrX w0 w → G w) (hB0 : ∀ b, w0.own b → B b) (hm : P.follows .mixedOrders = true) {id : Nat} {all : List Oper} {k : Nat} (hok : regionOk nt all k = true) {Q : Exit → List AV → AH → Prop} {env0 : List AV} {H : AH} {a : Act} {w : World}
    (h : adraw P G stdE T all H k all env0 fun env1 => aallocs T k all env1 H fun env2 H2 => aops P G stdE T all Q (all.drop k) env2 H2) (hS : St w0 B nt env0 H a w) :
    (Code.region id all.toArray true).wp P (Post w0 B nt Q) a w := by
  obtain ⟨hd0, hn0, ι, hR0, hE0⟩ := hS
  have hlen0 : env0.length = nt := by rw [hE0.len]; exact hn0
  unfold regionOk at hok
  simp only [Bool.and_eq_true, decide_eq_true_eq] at hok
  obtain ⟨⟨⟨hrg, hkl⟩, hdst⟩, hops⟩ := hok
  have hdlt : ∀ (i : Nat) (o : Oper) (t : Tmp), all[i]? = some o → o.dst = some t → t < env0.length := fun i o t ho ht => by
    have := List.all_eq_true.1 hdst o (List.mem_of_getElem? ho)
    rw [ht] at this
    rw [hlen0]; simpa using this
  rw [List.all_eq_true] at hops
  have hopOk : ∀ i o, i < k → all[i]? = some o → opOk all k i o = true := fun i o hi ho => by
    have := hops i (List.mem_range.2 hi)
    rw [ho] at this; exact this
  obtain ⟨avs, hK, hF⟩ := adraw_get (all := all) hT k 0 env0 _ (by omega) (by simpa using h)
  have hTal : ∀ (i : Nat) (o : Oper) (t : TypeId), i < k → all[i]? = some o → o.op = .alloc t → ∃ ti, T t = some ti ∧ ti.zero.cells.toList.all (·.oneCell') = true := fun i o t hi ho hop => aallocs_types k all _ H hK i o t hi ho hop
  have hdis : ∀ (i j : Nat) (oi oj : Oper) (t : Tmp), all[i]? = some oi → all[j]? = some oj → i ≠ j → oi.dst = some t → oj.dst ≠ some t := by
    have hB := hrg
    simp only [rgB, Bool.and_eq_true, List.all_eq_true, List.mem_range, decide_eq_true_eq, Bool.or_eq_true] at hB
    intro i j oi oj t hi hj hne hti htj
    have hil := (List.getElem?_eq_some_iff.1 hi).1
    have hjl := (List.getElem?_eq_some_iff.1 hj).1
    rcases hB.2 i (by simpa using hil) j (by simpa using hjl) with hh | hh
    · rcases hh with hh | hh
      · exact hne hh
      · simp [hi, hti] at hh
    · simp [hi, hj, hti, htj] at hh
  have hback : ∀ i d, d ∈ depsOf all.toArray i → d < i := fun i d hd => by
    have hB := hrg
    simp only [rgB, Bool.and_eq_true, List.all_eq_true, List.mem_range, decide_eq_true_eq] at hB
    rcases Nat.lt_or_ge i all.toArray.size with h | h
    · exact hB.1.1 i h d hd
    · simp [depsOf, Array.getElem?_eq_none h] at hd
  -- the operands of an operation that comes up
  have hopd : ∀ (ws : Nat) (c : Nat → Nat) (listed : Array Bool) (a : Act) (w : World) (i : Nat) (o : Oper), JS T all k w0 B ws ι H env0 avs c listed a w → (∀ d ∈ depsOf all.toArray i, listed.getD d false = true) → all[i]? = some o → i < k →
      ∀ x, x ∈ o.op.operands → Rep w ι (Rd (BX all k B c listed) ι H) (aev (envFrom all avs 0 i env0) x) (a.eval x) := by
    intro ws c listed a w i o hJ hdeps ho hik x hx
    have hopk := hopOk i o hik ho
    unfold opOk at hopk
    simp only [Bool.and_eq_true] at hopk
    have hx' := (Array.all_eq_true_iff_forall_mem.1 hopk.1.1) x hx
    cases x with
    | const v => exact .p _ _ (ofV_rep _ _ _)
    | global g => exact .p _ _ (.v _)
    | func f => exact .p _ _ (.v _)
    | tmp t =>
      simp only [Bool.or_eq_true] at hx'
      rcases hx' with hfree | hdep
      · have he : (envFrom all avs 0 i env0)[t]? = env0[t]? := envFrom_free i env0 fun j hj => freeK_of hfree (by omega)
        have hr := hJ.rest t fun j oj hj hjk _ => by
          have := freeK_of hfree hjk
          rw [hj] at this
          simpa using this
        have e1 : aev (envFrom all avs 0 i env0) (.tmp t) = aev env0 (.tmp t) := by
          simp only [aev, List.getD_eq_getElem?_getD, he]
        rw [e1]; exact hr
      · rw [List.any_eq_true] at hdep
        obtain ⟨d, hdm, hdt⟩ := hdep
        have hdt' : (all[d]?).bind (·.dst) = some t := by simpa using hdt
        cases hdo : all[d]? with
        | none => rw [hdo] at hdt'; cases hdt'
        | some od =>
          have hdst : od.dst = some t := by rw [hdo] at hdt'; simpa using hdt'
          have hdi := hback i d hdm
          have hl := hdeps d hdm
          rcases Nat.lt_or_ge t env0.length with htl | htl
          · have he : (envFrom all avs 0 i env0)[t]? = some (avs d) := envFrom_at hdt' i env0 hdi htl fun j hj hjd => by
              cases hjo : all[j]? with
              | none => simp
              | some oj => simpa using hdis d j od oj t hdo hjo (Ne.symm hjd) hdst
            have e1 : aev (envFrom all avs 0 i env0) (.tmp t) = avs d := by simp only [aev, List.getD_eq_getElem?_getD, he]; rfl
            rw [e1]
            cases hal : isAl od with
            | true =>
              have := hF d od (by omega) (by simpa using hdo)
              rcases this with ⟨_, hj⟩ | ⟨hh, _⟩
              · rw [Nat.zero_add] at hj; rw [hj]; exact .junk _
              · rw [hal] at hh; cases hh
            | false => exact hJ.vals d od t hdo (by omega) hl hal hdst
          · have he : (envFrom all avs 0 i env0)[t]? = none := List.getElem?_eq_none (by rw [envFrom_len]; exact htl)
            have e1 : aev (envFrom all avs 0 i env0) (.tmp t) = .junk := by simp only [aev, List.getD_eq_getElem?_getD, he]; rfl
            rw [e1]; exact .junk _
  -- a value is put
  have hput : ∀ (ws : Nat) (c : Nat → Nat) (listed : Array Bool) (a : Act) (w w' : World) (i : Nat) (o : Oper) (v : Value), JS T all k w0 B ws ι H env0 avs c listed a w → listed.size = all.length → all[i]? = some o → i < k → listed.getD i false = false → isAl o = false →
      Gr w w' → Rep w' ι (Rd (BX all k B c listed) ι H) (avs i) v → JS T all k w0 B ws ι H env0 avs c (listed.setIfInBounds i true) (a.put o.dst v) w' := by
    intro ws c listed a w w' i o v hJ hls ho hik hun hal hg hv
    have hil : i < listed.size := by rw [hls]; exact (List.getElem?_eq_some_iff.1 ho).1
    have hLA : ∀ x, LA all k (listed.setIfInBounds i true) x → LA all k listed x := fun x hx => LA_of_set hx fun e => by
      subst e
      obtain ⟨o', h1, h2⟩ := hx.2.2
      rw [ho] at h1; cases h1; rw [hal] at h2; cases h2
    have hBX : ∀ b, BX all k B c listed b → BX all k B c (listed.setIfInBounds i true) b := fun b hb => ⟨hb.1, fun x hx => hb.2 x (hLA x hx)⟩
    have hre := hJ.rel.regrow (B' := BX all k B c (listed.setIfInBounds i true)) hg (fun b _ hb => hBX b hb) (fun b hb => hBX b ((hJ.rel.grow hg).fut b hb))
    have hv' : Rep w' ι (Rd (BX all k B c (listed.setIfInBounds i true)) ι H) (avs i) v := by
      have hk0 : Keeps none w' ι (Rd (BX all k B c listed) ι H) w' ι (Rd (BX all k B c (listed.setIfInBounds i true)) ι H) := ⟨Nat.le_refl _, fun b hb _ => ⟨⟨hBX b hb.1, hb.2⟩, rfl⟩, fun _ _ _ _ h => h⟩
      exact hv.keep0 hk0
    refine ⟨by rw [put_defers]; exact hJ.defers, by cases o.dst <;> simp [Act.put, hJ.size], Nat.le_trans hJ.grow hg.size, hre.1, fun x ox t hx hox hop => ?_, fun x y hx hy => hJ.inj x y (hLA x hx) (hLA y hy), fun x ox t hox hxk hxl hxal hxd => ?_, fun t ht => ?_⟩
    · obtain ⟨h1, ⟨ti, h2, h3⟩, h4⟩ := hJ.made x ox t (hLA x hx) hox hop
      refine ⟨h1, ⟨ti, h2, by rw [hg.block _ (lt_of_heap h3)]; exact h3⟩, fun d hd => ?_⟩
      have hxi : x ≠ i := fun e => by
        subst e
        rw [ho] at hox; cases hox
        rw [isAl_of hop] at hal; cases hal
      rw [eval_put_ne (hdis x i ox o d hox ho hxi hd)]
      exact h4 d hd
    · by_cases hxi : x = i
      · subst hxi
        rw [ho] at hox; cases hox
        rw [hxd]
        rw [eval_put_same (by rw [hJ.size]; exact hdlt x o t ho hxd)]; exact hv'
      · rw [getD_set_ne false (fun e => hxi e.symm)] at hxl
        rw [eval_put_ne (hdis x i ox o t hox ho hxi hxd)]
        exact (hJ.vals x ox t hox hxk hxl hxal hxd).keep0 hre.2
    · have hne : o.dst ≠ some t := ht i o ho hik (getD_set_self hil)
      rw [eval_put_ne hne]
      exact (hJ.rest t fun x ox hox hxk hxl => ht x ox hox hxk (getD_set_true hxl)).keep0 hre.2
  -- the variables become the walk's own
  have hadopt : ∀ (c : Nat → Nat) (a : Act) (w : World) (n m : Nat) (ι : Pl) (H : AH) (env : List AV), m + n = k →
      Rel w0 (fun b => B b ∧ ∀ i o, m ≤ i → i < k → all[i]? = some o → isAl o = true → b ≠ c i) w ι H → RepE w ι (Rd (fun b => B b ∧ ∀ i o, m ≤ i → i < k → all[i]? = some o → isAl o = true → b ≠ c i) ι H) env a.tmps →
      (∀ i o t, m ≤ i → i < k → all[i]? = some o → o.op = .alloc t → w0.own (c i) ∧ ¬ Owned ι H (c i) ∧ (∃ ti, T t = some ti ∧ w.heap[c i]? = some (.cells ti.zero.cells t (0, 0))) ∧ ∀ d, o.dst = some d → a.eval (.tmp d) = .pointer (some ⟨c i, 0, none⟩)) →
      (∀ i j oi oj, m ≤ i → i < k → m ≤ j → j < k → all[i]? = some oi → all[j]? = some oj → isAl oi = true → isAl oj = true → c i = c j → i = j) → a.defers = [] → a.tmps.size = nt →
      aallocs T n (all.drop m) env H (fun env2 H2 => aops P G stdE T all Q (all.drop k) env2 H2) → wpList P all.toArray (Post w0 B nt Q) (all.drop k) a w := by
    intro c a w n
    induction n with
    | zero =>
      intro m ι H env hmk hR hE _ _ hd hsz h
      have hmk' : m = k := by omega
      have hre := hR.regrow (B' := B) (Gr.refl _) (fun b _ hb => hb.1) (fun b hb => (hR.fut b hb).1)
      refine aops_sound hT hG0 hB0 _ env H a w h ⟨hd, hsz, ι, hre.1, ⟨hE.len, fun t x v hx hv => (hE.at_ t x v hx hv).keep0 hre.2⟩⟩
    | succ n ih =>
      intro m ι H env hmk hR hE hmade hinj hd hsz h
      have hml : m < all.length := by omega
      have ho : all[m]? = some all[m] := List.getElem?_eq_getElem hml
      rw [List.drop_eq_getElem_cons hml] at h
      unfold aallocs at h
      cases hal : isAl all[m] with
      | false =>
        have h' : aallocs T n (all.drop (m + 1)) env H (fun env2 H2 => aops P G stdE T all Q (all.drop k) env2 H2) := by
          split at h
          · rename_i t hop; rw [isAl_of hop] at hal; cases hal
          · exact h
        have hre := hR.regrow (B' := fun b => B b ∧ ∀ i o, m + 1 ≤ i → i < k → all[i]? = some o → isAl o = true → b ≠ c i) (Gr.refl _) (fun b _ hb => ⟨hb.1, fun i o h1 h2 h3 h4 => hb.2 i o (by omega) h2 h3 h4⟩) (fun b hb => ⟨(hR.fut b hb).1, fun i o h1 h2 h3 h4 => (hR.fut b hb).2 i o (by omega) h2 h3 h4⟩)
        exact ih (m + 1) ι H env (by omega) hre.1 ⟨hE.len, fun t x v hx hv => (hE.at_ t x v hx hv).keep0 hre.2⟩ (fun i o t h1 h2 h3 h4 => hmade i o t (by omega) h2 h3 h4) (fun i j oi oj h1 h2 h3 h4 => hinj i j oi oj (by omega) h2 (by omega) h4) hd hsz h'
      | true =>
        obtain ⟨t, hop⟩ := isAl_op hal
        rw [hop] at h
        simp only at h
        split at h
        · rename_i ti d hti hdd
          split at h
          · rename_i hone
            obtain ⟨hge, hno, ⟨ti', hti', hcell⟩, hptr⟩ := hmade m all[m] t (Nat.le_refl _) (by omega) ho hop
            rw [hti] at hti'; cases hti'
            have hnB : ¬ (B (c m) ∧ ∀ i o, m ≤ i → i < k → all[i]? = some o → isAl o = true → c m ≠ c i) := fun hh => hh.2 m all[m] (Nat.le_refl _) (by omega) ho hal rfl
            have hB' : ∀ b, (B b ∧ ∀ i o, m ≤ i → i < k → all[i]? = some o → isAl o = true → b ≠ c i) → (B b ∧ ∀ i o, m + 1 ≤ i → i < k → all[i]? = some o → isAl o = true → b ≠ c i) := fun b hb => ⟨hb.1, fun i o h1 h2 h3 h4 => hb.2 i o (by omega) h2 h3 h4⟩
            have had := hR.adopt (B' := fun b => B b ∧ ∀ i o, m + 1 ≤ i → i < k → all[i]? = some o → isAl o = true → b ≠ c i) hcell hge hno hnB hB' (fun v hv => by have := List.all_eq_true.1 hone v hv; simpa using this)
            refine ih (m + 1) _ _ _ (by omega) had.1 ⟨by simp [hE.len], fun t' x v hx hv => ?_⟩ (fun i o t' h1 h2 h3 h4 => ?_) (fun i j oi oj h1 h2 h3 h4 => hinj i j oi oj (by omega) h2 (by omega) h4) hd hsz h
            · by_cases e : d = t'
              · subst e
                have hdl : d < env.length := by rw [hE.len, hsz, ← hlen0]; exact hdlt m all[m] d ho hdd
                rw [List.getElem?_set_self hdl] at hx
                cases hx
                have hv' : v = .pointer (some ⟨c m, 0, none⟩) := by
                  have := hptr d hdd
                  simp only [Act.eval, Array.getD_eq_getD_getElem?, hv] at this
                  exact this
                subst hv'
                rw [← hR.len]
                exact .own _ 0 _ (0, 0) (get_snoc_new _ _)
              · rw [List.getElem?_set_ne e] at hx
                exact (hE.at_ t' x v hx hv).keep0 had.2
            · obtain ⟨g1, g2, g3, g4⟩ := hmade i o t' (by omega) h2 h3 h4
              refine ⟨g1, fun hown => ?_, g3, g4⟩
              obtain ⟨kk, b', s', e1, e2⟩ := hown
              rcases get_snoc e1 with ⟨hl, e1⟩ | ⟨rfl, e⟩
              · rcases get_snoc e2 with ⟨hl', e2⟩ | ⟨e, _⟩
                · exact g2 ⟨kk, b', s', e1, e2⟩
                · rw [hR.len] at e; omega
              · rw [← hR.len, get_snoc_new] at e2
                have e3 : c i = c m := by
                  simp only [Option.some.injEq, Prod.mk.injEq] at e2
                  exact e2.1.symm
                have := hinj i m o all[m] (by omega) h2 (Nat.le_refl _) (by omega) h3 ho (isAl_of h4) hal e3
                omega
          · cases h
        · cases h
  refine wp_region_inv k 8 (fun listed a w' => ∃ c, JS T all k w0 B w.heap.size ι H env0 avs c listed a w') hm hrg hkl ?_ ?_ ?_
  · -- at the start
    have hnot : ∀ i, (Array.replicate all.length false).getD i false = false := fun i => by by_cases h : i < all.length <;> simp [h]
    have hre := hR0.regrow (w' := w.drew) (B' := BX all k B (fun _ => 0) (Array.replicate all.length false)) ((Below.refl _ _).drew) (fun b _ hb => ⟨hb, fun i hi => by have := hi.2.1; rw [hnot] at this; cases this⟩) (fun b hb => ⟨hR0.fut b (by simpa using hb), fun i hi => by have := hi.2.1; rw [hnot] at this; cases this⟩)
    have hnoL : ∀ i, ¬ LA all k (Array.replicate all.length false) i := fun i hi => by
      have := hi.2.1
      rw [hnot] at this
      cases this
    exact ⟨fun _ => 0, hd0, by rw [hlen0]; exact hn0, Nat.le_refl _, hre.1, fun i o t hi => absurd hi (hnoL i), fun i j hi => absurd hi (hnoL i), (fun i o t _ _ hl => by rw [hnot] at hl; cases hl), fun t _ => (hE0.eval (.tmp t)).keep0 hre.2⟩
  · -- an operation comes up
    intro listed a' w' i o ⟨c, hJ⟩ hls hdeps ho hik hun
    have hGw : G w' := hG0 _ hJ.rel.gr
    have hfun : ∀ f, a'.eval (.func f) = .func (.func f) #[] #[] := fun _ => rfl
    have hf := hF i o hik (by simpa using ho)
    rw [Nat.zero_add] at hf
    have hopds := hopd w.heap.size c listed a' w' i o hJ hdeps ho hik
    have quiet : QS P G o (envFrom all avs 0 i env0) H (avs i) → isAl o = false → growUpon P (fun v w'' => ∃ c, JS T all k w0 B w.heap.size ι H env0 avs c (listed.setIfInBounds i true) (a'.put o.dst v) w'') ((execOp a'.eval o).run P w') := by
      intro hq hal
      have := hq w0 (BX all k B c listed) w' ι a'.eval hJ.rel hGw hopds hfun
      generalize (execOp a'.eval o).run P w' = r at *
      cases r with
      | ok n w'' =>
        cases n <;> simp only [growUpon] at this ⊢
        · exact ⟨c, hput _ c listed a' w' w'' i o _ hJ hls ho hik hun hal this.1 this.2⟩
        · exact ⟨c, hput _ c listed a' w' w'' i o _ hJ hls ho hik hun hal this.1 this.2⟩
        · exact this.mono fun e w'' ⟨v, he, h1, h2⟩ => ⟨v, he, c, hput _ c listed a' w' w'' i o _ hJ hls ho hik hun hal h1 h2⟩
      | halt x w'' => simp only [growUpon] at this
    rcases hf with ⟨hal, hjunk⟩ | ⟨hal, hf⟩
    · -- a variable is made
      obtain ⟨t, hop⟩ := isAl_op hal
      obtain ⟨ti, hti, hone⟩ := hTal i o t hik ho hop
      have hopk := hopOk i o hik ho
      unfold opOk at hopk
      simp only [Bool.and_eq_true, hal, Bool.not_true, Bool.false_or] at hopk
      have hgn : o.guard = none := by simpa using hopk.2.1
      obtain ⟨d, hdd⟩ := Option.isSome_iff_exists.1 hopk.2.2
      rw [if_pos (by simp [Region.wanted, hgn])]
      have hrun : (execOp a'.eval o).run P w' = .ok (.value (.pointer (some ⟨w'.heap.size, 0, none⟩))) (w'.alloc (.cells ti.zero.cells t)) := by
        simp only [execOp, hop, Instr.alloc, Sem.run_bind, t_zero hT hti, Result.andThen_ok, newVar, newRow, run_newObj, Sem.run_pure]
      rw [hrun]
      have hil : i < listed.size := by rw [hls]; exact (List.getElem?_eq_some_iff.1 ho).1
      have hlt : ∀ x, LA all k listed x → c x < w'.heap.size := fun x hx => by
        obtain ⟨ox, hox, hxal⟩ := hx.2.2
        obtain ⟨tx, hxop⟩ := isAl_op hxal
        obtain ⟨_, ⟨_, _, h3⟩, _⟩ := hJ.made x ox tx hx hox hxop
        exact lt_of_heap h3
      obtain ⟨c', hci, hcx⟩ : ∃ c' : Nat → Nat, c' i = w'.heap.size ∧ ∀ x, x ≠ i → c' x = c x := ⟨fun x => if x = i then w'.heap.size else c x, by simp, fun x hx => by simp [hx]⟩
      have hg : Gr w' (w'.alloc (.cells ti.zero.cells t)) := (Below.refl _ _).alloc (Nat.le_refl _) _
      have hBX : ∀ b, b < w'.heap.size → BX all k B c listed b → BX all k B c' (listed.setIfInBounds i true) b := fun b hb hbx => ⟨hbx.1, fun x hx => by
        by_cases hxi : x = i
        · subst hxi; rw [hci]; omega
        · rw [hcx x hxi]; exact hbx.2 x (LA_of_set hx hxi)⟩
      have hre := hJ.rel.regrow (B' := BX all k B c' (listed.setIfInBounds i true)) hg hBX (fun b hb => ⟨(hJ.rel.fut b (by simp at hb; omega)).1, fun x hx => by
        by_cases hxi : x = i
        · subst hxi; rw [hci]; simp at hb; omega
        · rw [hcx x hxi]; have := hlt x (LA_of_set hx hxi); simp at hb; omega⟩)
      refine ⟨c', by rw [put_defers]; exact hJ.defers, by rw [put_size]; exact hJ.size, Nat.le_trans hJ.grow hg.size, hre.1, fun x ox tx hx hox hxop => ?_, fun x y hx hy hxy => ?_, fun x ox tx hox hxk hxl hxal hxd => ?_, fun tx ht => ?_⟩
      · by_cases hxi : x = i
        · subst hxi
          rw [ho] at hox; cases hox
          rw [hop] at hxop; cases hxop
          rw [hci]
          refine ⟨hJ.grow, ⟨ti, hti, heap_alloc_new _ _⟩, fun d' hd' => ?_⟩
          rw [hdd] at hd'; cases hd'
          rw [hdd, eval_put_same (by rw [hJ.size]; exact hdlt x o d ho hdd)]
        · rw [hcx x hxi]
          obtain ⟨h1, ⟨ti', h2, h3⟩, h4⟩ := hJ.made x ox tx (LA_of_set hx hxi) hox hxop
          refine ⟨h1, ⟨ti', h2, by rw [hg.block _ (lt_of_heap h3)]; exact h3⟩, fun d' hd' => ?_⟩
          rw [eval_put_ne (hdis x i ox o d' hox ho hxi hd')]
          exact h4 d' hd'
      · by_cases hxi : x = i
        · by_cases hyi : y = i
          · rw [hxi, hyi]
          · rw [hxi] at hxy; rw [hci, hcx y hyi] at hxy
            have := hlt y (LA_of_set hy hyi); omega
        · by_cases hyi : y = i
          · rw [hyi] at hxy; rw [hci, hcx x hxi] at hxy
            have := hlt x (LA_of_set hx hxi); omega
          · rw [hcx x hxi, hcx y hyi] at hxy
            exact hJ.inj x y (LA_of_set hx hxi) (LA_of_set hy hyi) hxy
      · have hxi : x ≠ i := fun e => by subst e; rw [ho] at hox; cases hox; rw [hal] at hxal; cases hxal
        rw [getD_set_ne false (fun e => hxi e.symm)] at hxl
        rw [eval_put_ne (hdis x i ox o tx hox ho hxi hxd)]
        exact (hJ.vals x ox tx hox hxk hxl hxal hxd).keep0 hre.2
      · have hne : o.dst ≠ some tx := ht i o ho hik (getD_set_self hil)
        rw [eval_put_ne hne]
        exact (hJ.rest tx fun x ox hox hxk hxl => ht x ox hox hxk (getD_set_true hxl)).keep0 hre.2
    · rcases hf with ⟨hg, hq⟩ | ⟨j, want, b, hg, hb, hcase⟩
      · rw [if_pos (by simp [Region.wanted, hg])]
        exact quiet hq hal
      · -- a guard
        have hopk := hopOk i o hik ho
        unfold opOk at hopk
        simp only [Bool.and_eq_true, hg] at hopk
        have hjd : j ∈ depsOf all.toArray i := by simpa using hopk.1.2.1
        obtain ⟨tj, htj⟩ := Option.isSome_iff_exists.1 hopk.1.2.2
        have hji := hback i j hjd
        have hjl := hdeps j hjd
        have hyield : yieldedE all.toArray a'.eval j = b := by
          unfold gval at hb
          rw [htj] at hb
          simp only at hb
          cases hjo : all[j]? with
          | none => rw [hjo] at htj; cases htj
          | some oj =>
            have hjdst : oj.dst = some tj := by rw [hjo] at htj; simpa using htj
            have htl := hdlt j oj tj hjo hjdst
            have he : (envFrom all avs 0 i env0)[tj]? = some (avs j) := envFrom_at htj i env0 hji htl fun x hx hxj => by
              cases hxo : all[x]? with
              | none => simp
              | some ox => simpa using hdis j x oj ox tj hjo hxo (Ne.symm hxj) hjdst
            rw [List.getD_eq_getElem?_getD, he] at hb
            simp only [Option.getD_some] at hb
            have hjal : isAl oj = false := by
              cases hjal : isAl oj with
              | false => rfl
              | true =>
                rcases hF j oj (by omega) (by simpa using hjo) with ⟨_, hjk⟩ | ⟨hh, _⟩
                · rw [Nat.zero_add] at hjk; rw [hjk] at hb; cases hb
                · rw [hjal] at hh; cases hh
            have hr := hJ.vals j oj tj hjo (by omega) hjl hjal hjdst
            split at hb
            · rename_i x' eb
              cases hb
              rw [eb] at hr
              unfold yieldedE
              simp only [List.getElem?_toArray]
              rw [htj]
              simp only
              rw [rep_v hr]
              cases x' <;> rfl
            · cases hb
        rcases hcase with ⟨e, hq⟩ | ⟨e, hu⟩
        · rw [if_pos (by simp [Region.wanted, hg, hyield, e])]
          exact quiet hq hal
        · rw [if_neg (by simpa [Region.wanted, hg, hyield] using e)]
          refine ⟨c, hput _ c listed a' w' w' i o _ hJ hls ho hik hun hal (Gr.refl _) ?_⟩
          rw [hu]; exact .p _ _ (.v _)
  · -- the tail
    intro listed a' w' ⟨c, hJ⟩ hall
    have hLA : ∀ i o, i < k → all[i]? = some o → isAl o = true → LA all k listed i := fun i o hi ho hal => ⟨hi, hall i hi, o, ho, hal⟩
    have hre := hJ.rel.regrow (B' := fun b => B b ∧ ∀ i o, 0 ≤ i → i < k → all[i]? = some o → isAl o = true → b ≠ c i) (Gr.refl _) (fun b _ hb => ⟨hb.1, fun i o _ h2 h3 h4 => hb.2 i (hLA i o h2 h3 h4)⟩) (fun b hb => ⟨(hJ.rel.fut b hb).1, fun i o _ h2 h3 h4 => (hJ.rel.fut b hb).2 i (hLA i o h2 h3 h4)⟩)
    refine hadopt c a' w' k 0 ι H (envFrom all avs 0 k env0) (by omega) hre.1 ⟨by rw [envFrom_len]; exact hJ.size.symm, fun t x v hx hv => ?_⟩ (fun i o t _ h2 h3 h4 => ?_) (fun i j oi oj _ h2 _ h4 h5 h6 h7 h8 h9 => hJ.inj i j (hLA i oi h2 h5 h7) (hLA j oj h4 h6 h8) h9) hJ.defers (by rw [hJ.size]; exact hlen0) (by simpa using hK)
    · have hev : a'.eval (.tmp t) = v := by simp only [Act.eval, Array.getD_eq_getD_getElem?, hv]; rfl
      have htl : t < env0.length := by have := (List.getElem?_eq_some_iff.1 hx).1; rw [envFrom_len] at this; exact this
      rcases Classical.em (∃ i o, i < k ∧ all[i]? = some o ∧ o.dst = some t) with ⟨i, o, hik, ho, hdst'⟩ | hno
      · have hbind : (all[i]?).bind (·.dst) = some t := by rw [ho]; simpa using hdst'
        have he : (envFrom all avs 0 k env0)[t]? = some (avs i) := envFrom_at hbind k env0 hik htl fun x hx hxi => by
          cases hxo : all[x]? with
          | none => simp
          | some ox => simpa using hdis i x o ox t ho hxo (Ne.symm hxi) hdst'
        rw [he] at hx; cases hx
        cases hal : isAl o with
        | true =>
          rcases hF i o hik (by simpa using ho) with ⟨_, hjk⟩ | ⟨hh, _⟩
          · rw [Nat.zero_add] at hjk; rw [hjk]; exact .junk _
          · rw [hal] at hh; cases hh
        | false =>
          have := hJ.vals i o t ho hik (hall i hik) hal hdst'
          rw [hev] at this
          exact this.keep0 hre.2
      · have he : (envFrom all avs 0 k env0)[t]? = env0[t]? := envFrom_free (all := all) (avs := avs) k env0 fun i hi => by
          cases hio : all[i]? with
          | none => simp
          | some o => simpa using fun e => hno ⟨i, o, hi, hio, e⟩
        rw [he] at hx
        have := hJ.rest t fun i o ho hi _ e => hno ⟨i, o, hi, ho, e⟩
        rw [hev] at this
        have e1 : aev env0 (.tmp t) = x := by simp only [aev, List.getD_eq_getElem?_getD, hx]; rfl
        rw [e1] at this
        exact this.keep0 hre.2
    · obtain ⟨g1, g2, g3⟩ := hJ.made i o t (hLA i o h2 h3 (isAl_of h4)) h3 h4
      exact ⟨.inr (Nat.le_trans hR0.size g1), fun hown => by have := hR0.lt hown; omega, g2, g3⟩
end
end Go.Proofs.YtadgpchdlkiinaaDoor
