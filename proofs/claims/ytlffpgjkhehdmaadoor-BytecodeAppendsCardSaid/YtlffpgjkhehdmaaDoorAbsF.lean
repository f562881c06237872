/- Own work: a region that draws its order: soundness. -/
import Derived.Test.YtlffpgjkhehdmaaDoorAbsE
namespace Go.Proofs.YtlffpgjkhehdmaaDoor
open Go.RowKit

section
variable {P : Program} {G : World → Prop} {T : TT} {w0 : Base} {B : Nat → Prop} {nt : Nat}

/-- operation i has made a variable -/
def LA (all : List Oper) (k : Nat) (listed : Array Bool) (i : Nat) : Prop := i < k ∧ listed.getD i false = true ∧ ∃ o, all[i]? = some o ∧ isAl o = true
def BX (all : List Oper) (k : Nat) (B : Nat → Prop) (c : Nat → Nat) (listed : Array Bool) (b : Nat) : Prop := B b ∧ ∀ i, LA all k listed i → b ≠ c i

/-- the cells of a block that has been made: as made, or as stored -/
def curC (all : List Oper) (k : Nat) (e : List AV) (listed : Array Bool) (o : Oper) (m : MK) : List AV := match o.dst.bind (stFor all k) with
  | none => m.cs
  | some (s, _, y) => (match listed.getD s false with
    | true => avCells (aev e y)
    | false => m.cs)
/-- what is kept while the operations run, in whatever order -/
structure JS (T : TT) (all : List Oper) (k : Nat) (w0 : Base) (B : Nat → Prop) (ws : Nat) (ι : Pl) (H : AH) (env0 : List AV) (avs : Nat → AV) (e1 : List AV) (c : Nat → Nat) (listed : Array Bool) (a : Act) (w : World) : Prop where
  defers : a.defers = []
  size : a.tmps.size = env0.length
  grow : ws ≤ w.heap.size
  rel : Rel w0 (BX all k B c listed) w ι H
  made : ∀ (i : Nat) (o : Oper) (m : MK), LA all k listed i → all[i]? = some o → mkD T e1 o = some m → ws ≤ c i ∧ (∃ arr, w.heap[c i]? = some (.cells arr m.t (0, 0)) ∧ CellsRep w ι (Rd (BX all k B c listed) ι H) (curC all k e1 listed o m) arr) ∧ ∀ d, o.dst = some d → a.eval (.tmp d) = m.val (c i)
  inj : ∀ i j, LA all k listed i → LA all k listed j → c i = c j → i = j
  closed : ∀ i, listed.getD i false = true → ∀ d ∈ depsOf all.toArray i, listed.getD d false = true
  vals : ∀ (i : Nat) (o : Oper) (t : Tmp), all[i]? = some o → i < k → listed.getD i false = true → isAl o = false → o.dst = some t → Rep w ι (Rd (BX all k B c listed) ι H) (avs i) (a.eval (.tmp t))
  rest : ∀ (t : Tmp), (∀ (i : Nat) (o : Oper), all[i]? = some o → i < k → listed.getD i false = true → o.dst ≠ some t) → Rep w ι (Rd (BX all k B c listed) ι H) (aev env0 (.tmp t)) (a.eval (.tmp t))

theorem aallocs_types {all : List Oper} {k : Nat} {e : List AV} {K : List AV → AH → Prop} : ∀ (n : Nat) (os : List Oper) (env : List AV) (H : AH), aallocs T all k e n os env H K → ∀ (i : Nat) (o : Oper), i < n → os[i]? = some o → isAl o = true → ∃ m cs d, mkD T e o = some m ∧ finC T all k e o m = some cs ∧ o.dst = some d
  | 0, _, _, _, _, i, _, h, _, _ => by omega
  | _ + 1, [], _, _, _, i, o, _, h, _ => by simp at h
  | n + 1, o :: os, env, H, h, i, o', hi, ho, hal => by
    unfold aallocs at h
    cases i with
    | zero =>
      simp at ho
      subst ho
      rw [if_pos hal] at h
      split at h
      · rename_i m d hm hd
        split at h
        · rename_i cs hcs
          exact ⟨m, cs, d, hm, hcs, hd⟩
        · cases h
      · cases h
    | succ i =>
      have ho' : os[i]? = some o' := by simpa using ho
      split at h
      · split at h
        · split at h
          · exact aallocs_types n os _ _ h i o' (by omega) ho' hal
          · cases h
        · cases h
      · exact aallocs_types n os _ _ h i o' (by omega) ho' hal
theorem finC_rows {all : List Oper} {k : Nat} {e : List AV} {o : Oper} {m : MK} {cs : List AV} (hm : mkD T e o = some m) (h : finC T all k e o m = some cs) (hok : m.Ok m.cs) : m.Ok cs := by
  unfold finC at h
  split at h
  · cases h; exact hok
  · split at h
    · rename_i t hop _
      split at h
      · intro s len rs hr
        unfold mkD at hm
        rw [hop] at hm
        simp only at hm
        split at hm
        · split at hm
          · cases hm; cases hr
          · cases hm
        · cases hm
      · cases h
    · cases h

theorem eval_put_same {a : Act} {d : Tmp} {v : Value} (h : d < a.tmps.size) : (a.put (some d) v).eval (.tmp d) = v := by simp [Act.eval, Act.put, h]
theorem eval_put_ne {a : Act} {d : Option Tmp} {t : Tmp} {v : Value} (h : d ≠ some t) : (a.put d v).eval (.tmp t) = a.eval (.tmp t) := by
  cases d with
  | none => rfl
  | some s =>
    have hne : s ≠ t := fun e => h (by rw [e])
    simp only [Act.eval, Act.put, Array.getD_eq_getD_getElem?]
    rw [Array.getElem?_setIfInBounds_ne hne]
theorem eval_put_out {a : Act} {d : Tmp} {v : Value} (h : a.tmps.size ≤ d) (x : Tmp) : (a.put (some d) v).eval (.tmp x) = a.eval (.tmp x) := by
  simp only [Act.eval, Act.put, Array.getD_eq_getD_getElem?]
  rw [Array.setIfInBounds_eq_of_size_le h]

theorem LA_set_of {all : List Oper} {k : Nat} {listed : Array Bool} {i x : Nat} (h : LA all k listed x) : LA all k (listed.setIfInBounds i true) x := ⟨h.1, getD_set_true h.2.1, h.2.2⟩
theorem LA_of_set {all : List Oper} {k : Nat} {listed : Array Bool} {i x : Nat} (h : LA all k (listed.setIfInBounds i true) x) (hne : x ≠ i) : LA all k listed x := ⟨h.1, by have := h.2.1; rw [getD_set_ne false (Ne.symm hne)] at this; exact this, h.2.2⟩

theorem adrawn_sound (hT : TOk P T) (hG0 : ∀ w, GrX w0 w → G w) (hB0 : ∀ b, w0.own b → B b) (hm : P.follows .mixedOrders = true) {id : Nat} {all : List Oper} {k : Nat} (hok : regionOk nt all k = true) {Q : Exit → List AV → AH → Prop} {env0 : List AV} {H : AH} {a : Act} {w : World}
    (h : adraw P G stdE T all H k all env0 fun env1 => aallocs T all k env1 k all env1 H fun env2 H2 => aops P G stdE T all Q (all.drop k) env2 H2) (hS : St w0 B nt env0 H a w) :
    (Code.region id all.toArray true).wp P (Post w0 B nt Q) a w := by
  obtain ⟨hd0, hn0, ι, hR0, hE0⟩ := hS
  have hlen0 : env0.length = nt := by rw [hE0.len]; exact hn0
  unfold regionOk at hok
  simp only [Bool.and_eq_true, decide_eq_true_eq] at hok
  obtain ⟨⟨⟨hrg, hkl⟩, hdst⟩, hops⟩ := hok
  have hdlt : ∀ (i : Nat) (o : Oper) (t : Tmp), all[i]? = some o → o.dst = some t → t < env0.length := fun i o t ho ht => by
    have := List.all_eq_true.1 hdst o (List.mem_of_getElem? ho)
    rw [ht] at this
    rw [hlen0]; simpa using this
  rw [List.all_eq_true] at hops
  have hopOk : ∀ i o, i < k → all[i]? = some o → opOk all k i o = true := fun i o hi ho => by
    have := hops i (List.mem_range.2 hi)
    rw [ho] at this; exact this
  obtain ⟨avs, hK, hF⟩ := adraw_get (all := all) hT k 0 env0 _ (by omega) (by simpa using h)
  obtain ⟨e1, he1⟩ : ∃ e1, envFrom all avs 0 k env0 = e1 := ⟨_, rfl⟩
  rw [he1] at hK
  have hTal : ∀ (i : Nat) (o : Oper), i < k → all[i]? = some o → isAl o = true → ∃ m cs d, mkD T e1 o = some m ∧ finC T all k e1 o m = some cs ∧ o.dst = some d := fun i o hi ho hal => aallocs_types k all _ H hK i o hi ho hal
  have hdis : ∀ (i j : Nat) (oi oj : Oper) (t : Tmp), all[i]? = some oi → all[j]? = some oj → i ≠ j → oi.dst = some t → oj.dst ≠ some t := by
    have hB := hrg
    simp only [rgB, Bool.and_eq_true, List.all_eq_true, List.mem_range, decide_eq_true_eq, Bool.or_eq_true] at hB
    intro i j oi oj t hi hj hne hti htj
    have hil := (List.getElem?_eq_some_iff.1 hi).1
    have hjl := (List.getElem?_eq_some_iff.1 hj).1
    rcases hB.2 i (by simpa using hil) j (by simpa using hjl) with hh | hh
    · rcases hh with hh | hh
      · exact hne hh
      · simp [hi, hti] at hh
    · simp [hi, hj, hti, htj] at hh
  have hback : ∀ i d, d ∈ depsOf all.toArray i → d < i := fun i d hd => by
    have hB := hrg
    simp only [rgB, Bool.and_eq_true, List.all_eq_true, List.mem_range, decide_eq_true_eq] at hB
    rcases Nat.lt_or_ge i all.toArray.size with h | h
    · exact hB.1.1 i h d hd
    · simp [depsOf, Array.getElem?_eq_none h] at hd
  -- the operands of an operation that comes up
  have hopd : ∀ (ws : Nat) (c : Nat → Nat) (listed : Array Bool) (a : Act) (w : World) (i q : Nat) (o : Oper), JS T all k w0 B ws ι H env0 avs e1 c listed a w → (∀ d ∈ depsOf all.toArray i, listed.getD d false = true) → all[i]? = some o → i < k → i ≤ q → q ≤ k →
      ∀ x, x ∈ o.op.operands → Rep w ι (Rd (BX all k B c listed) ι H) (aev (envFrom all avs 0 q env0) x) (a.eval x) := by
    intro ws c listed a w i q o hJ hdeps ho hik hiq hqk x hx
    have hopk := hopOk i o hik ho
    unfold opOk at hopk
    simp only [Bool.and_eq_true] at hopk
    have hx' := (Array.all_eq_true_iff_forall_mem.1 hopk.1.1.1) x hx
    cases x with
    | const v => exact .p _ _ (ofV_rep _ _ _)
    | global g => exact .p _ _ (.v _)
    | func f => exact .p _ _ (.v _)
    | tmp t =>
      simp only [Bool.or_eq_true] at hx'
      rcases hx' with hfree | hdep
      · have he : (envFrom all avs 0 q env0)[t]? = env0[t]? := envFrom_free q env0 fun j hj => freeK_of hfree (by omega)
        have hr := hJ.rest t fun j oj hj hjk _ => by
          have := freeK_of hfree hjk
          rw [hj] at this
          simpa using this
        have e1 : aev (envFrom all avs 0 q env0) (.tmp t) = aev env0 (.tmp t) := by
          simp only [aev, List.getD_eq_getElem?_getD, he]
        rw [e1]; exact hr
      · rw [List.any_eq_true] at hdep
        obtain ⟨d, hdm, hdt⟩ := hdep
        have hdt' : (all[d]?).bind (·.dst) = some t := by simpa using hdt
        cases hdo : all[d]? with
        | none => rw [hdo] at hdt'; cases hdt'
        | some od =>
          have hdst : od.dst = some t := by rw [hdo] at hdt'; simpa using hdt'
          have hdi := hback i d hdm
          have hl := hdeps d hdm
          rcases Nat.lt_or_ge t env0.length with htl | htl
          · have he : (envFrom all avs 0 q env0)[t]? = some (avs d) := envFrom_at hdt' q env0 (by omega) htl fun j hj hjd => by
              cases hjo : all[j]? with
              | none => simp
              | some oj => simpa using hdis d j od oj t hdo hjo (Ne.symm hjd) hdst
            have e1 : aev (envFrom all avs 0 q env0) (.tmp t) = avs d := by simp only [aev, List.getD_eq_getElem?_getD, he]; rfl
            rw [e1]
            cases hal : isAl od with
            | true =>
              have := hF d od (by omega) (by simpa using hdo)
              rcases this with ⟨_, hj⟩ | ⟨hh, _⟩
              · rw [Nat.zero_add] at hj; rw [hj]; exact .junk _
              · rw [hal] at hh; simp at hh
            | false => exact hJ.vals d od t hdo (by omega) hl hal hdst
          · have he : (envFrom all avs 0 q env0)[t]? = none := List.getElem?_eq_none (by rw [envFrom_len]; exact htl)
            have e1 : aev (envFrom all avs 0 q env0) (.tmp t) = .junk := by simp only [aev, List.getD_eq_getElem?_getD, he]; rfl
            rw [e1]; exact .junk _
  have hcur : ∀ (listed : Array Bool) (i : Nat) (o ox : Oper) (m : MK), all[i]? = some o → isSt o = false → curC all k e1 (listed.setIfInBounds i true) ox m = curC all k e1 listed ox m := by
    intro listed i o ox m ho hst
    unfold curC
    cases hs : ox.dst.bind (stFor all k) with
    | none => rfl
    | some x =>
      obtain ⟨s, t, y⟩ := x
      have hne : i ≠ s := fun e => by
        subst e
        obtain ⟨d, _, hd⟩ := Option.bind_eq_some_iff.1 hs
        obtain ⟨_, os, h1, h2⟩ := stFor_get hd
        rw [ho] at h1; cases h1
        unfold isSt at hst
        rw [h2] at hst
        cases hst
      simp only [getD_set_ne false hne]
  have hclos : ∀ (listed : Array Bool) (i : Nat), (∀ x, listed.getD x false = true → ∀ d ∈ depsOf all.toArray x, listed.getD d false = true) → (∀ d ∈ depsOf all.toArray i, listed.getD d false = true) → ∀ x, (listed.setIfInBounds i true).getD x false = true → ∀ d ∈ depsOf all.toArray x, (listed.setIfInBounds i true).getD d false = true := by
    intro listed i h1 h2 x hx d hd
    by_cases e : i = x
    · subst e; exact getD_set_true (h2 d hd)
    · rw [getD_set_ne false e] at hx
      exact getD_set_true (h1 x hx d hd)
  -- a value is put
  have hput : ∀ (ws : Nat) (c : Nat → Nat) (listed : Array Bool) (a : Act) (w w' : World) (i : Nat) (o : Oper) (v : Value), JS T all k w0 B ws ι H env0 avs e1 c listed a w → listed.size = all.length → all[i]? = some o → i < k → listed.getD i false = false → (∀ d ∈ depsOf all.toArray i, listed.getD d false = true) → (isAl o || isSt o) = false →
      Gr w w' → Rep w' ι (Rd (BX all k B c listed) ι H) (avs i) v → JS T all k w0 B ws ι H env0 avs e1 c (listed.setIfInBounds i true) (a.put o.dst v) w' := by
    intro ws c listed a w w' i o v hJ hls ho hik hun hdp hals hg hv
    rw [Bool.or_eq_false_iff] at hals
    obtain ⟨hal, hst⟩ := hals
    have hil : i < listed.size := by rw [hls]; exact (List.getElem?_eq_some_iff.1 ho).1
    have hLA : ∀ x, LA all k (listed.setIfInBounds i true) x → LA all k listed x := fun x hx => LA_of_set hx fun e => by
      subst e
      obtain ⟨o', h1, h2⟩ := hx.2.2
      rw [ho] at h1; cases h1; rw [hal] at h2; cases h2
    have hBX : ∀ b, BX all k B c listed b → BX all k B c (listed.setIfInBounds i true) b := fun b hb => ⟨hb.1, fun x hx => hb.2 x (hLA x hx)⟩
    have hre := hJ.rel.regrow (B' := BX all k B c (listed.setIfInBounds i true)) hg (fun b _ hb => hBX b hb) (fun b hb => hBX b ((hJ.rel.grow hg).fut b hb))
    have hv' : Rep w' ι (Rd (BX all k B c (listed.setIfInBounds i true)) ι H) (avs i) v := by
      have hk0 : Keeps none w' ι (Rd (BX all k B c listed) ι H) w' ι (Rd (BX all k B c (listed.setIfInBounds i true)) ι H) := ⟨Nat.le_refl _, fun b hb _ => ⟨⟨hBX b hb.1, hb.2⟩, rfl⟩, fun _ _ _ _ h => h⟩
      exact hv.keep0 hk0
    refine ⟨by rw [put_defers]; exact hJ.defers, by cases o.dst <;> simp [Act.put, hJ.size], Nat.le_trans hJ.grow hg.size, hre.1, fun x ox m hx hox hm => ?_, fun x y hx hy => hJ.inj x y (hLA x hx) (hLA y hy), hclos listed i hJ.closed hdp, fun x ox t hox hxk hxl hxal hxd => ?_, fun t ht => ?_⟩
    · obtain ⟨h1, ⟨arr, h3, h3'⟩, h4⟩ := hJ.made x ox m (hLA x hx) hox hm
      refine ⟨h1, ⟨arr, by rw [hg.block _ (lt_of_heap h3)]; exact h3, by rw [hcur listed i o ox m ho hst]; exact h3'.keep0 hre.2⟩, fun d hd => ?_⟩
      have hxi : x ≠ i := fun e => by
        subst e
        rw [ho] at hox; cases hox
        rw [isAl_mk hm] at hal; cases hal
      rw [eval_put_ne (hdis x i ox o d hox ho hxi hd)]
      exact h4 d hd
    · by_cases hxi : x = i
      · subst hxi
        rw [ho] at hox; cases hox
        rw [hxd]
        rw [eval_put_same (by rw [hJ.size]; exact hdlt x o t ho hxd)]; exact hv'
      · rw [getD_set_ne false (fun e => hxi e.symm)] at hxl
        rw [eval_put_ne (hdis x i ox o t hox ho hxi hxd)]
        exact (hJ.vals x ox t hox hxk hxl hxal hxd).keep0 hre.2
    · have hne : o.dst ≠ some t := ht i o ho hik (getD_set_self hil)
      rw [eval_put_ne hne]
      exact (hJ.rest t fun x ox hox hxk hxl => ht x ox hox hxk (getD_set_true hxl)).keep0 hre.2
  -- the blocks become the walk's own
  have hadopt : ∀ (c : Nat → Nat) (a : Act) (w : World) (n m : Nat) (ι : Pl) (H : AH) (env : List AV), m + n = k →
      Rel w0 (fun b => B b ∧ ∀ i o, m ≤ i → i < k → all[i]? = some o → isAl o = true → b ≠ c i) w ι H → RepE w ι (Rd (fun b => B b ∧ ∀ i o, m ≤ i → i < k → all[i]? = some o → isAl o = true → b ≠ c i) ι H) env a.tmps →
      (∀ i o, m ≤ i → i < k → all[i]? = some o → isAl o = true → w0.own (c i) ∧ ¬ Owned ι H (c i) ∧ (∃ mk cs arr, mkD T e1 o = some mk ∧ finC T all k e1 o mk = some cs ∧ mk.Ok mk.cs ∧ w.heap[c i]? = some (.cells arr mk.t (0, 0)) ∧ CellsRep w ι (Rd (fun b => B b ∧ ∀ i o, m ≤ i → i < k → all[i]? = some o → isAl o = true → b ≠ c i) ι H) cs arr ∧ ∀ d, o.dst = some d → a.eval (.tmp d) = mk.val (c i))) →
      (∀ i j oi oj, m ≤ i → i < k → m ≤ j → j < k → all[i]? = some oi → all[j]? = some oj → isAl oi = true → isAl oj = true → c i = c j → i = j) → a.defers = [] → a.tmps.size = nt →
      aallocs T all k e1 n (all.drop m) env H (fun env2 H2 => aops P G stdE T all Q (all.drop k) env2 H2) → wpList P all.toArray (Post w0 B nt Q) (all.drop k) a w := by
    intro c a w n
    induction n with
    | zero =>
      intro m ι H env hmk hR hE _ _ hd hsz h
      have hmk' : m = k := by omega
      have hre := hR.regrow (B' := B) (Gr.refl _) (fun b _ hb => hb.1) (fun b hb => (hR.fut b hb).1)
      refine aops_sound hT hG0 hB0 _ env H a w h ⟨hd, hsz, ι, hre.1, ⟨hE.len, fun t x v hx hv => (hE.at_ t x v hx hv).keep0 hre.2⟩⟩
    | succ n ih =>
      intro m ι H env hmk hR hE hmade hinj hd hsz h
      have hml : m < all.length := by omega
      have ho : all[m]? = some all[m] := List.getElem?_eq_getElem hml
      rw [List.drop_eq_getElem_cons hml] at h
      unfold aallocs at h
      cases hal : isAl all[m] with
      | false =>
        rw [if_neg (by rw [hal]; simp)] at h
        have hre := hR.regrow (B' := fun b => B b ∧ ∀ i o, m + 1 ≤ i → i < k → all[i]? = some o → isAl o = true → b ≠ c i) (Gr.refl _) (fun b _ hb => ⟨hb.1, fun i o h1 h2 h3 h4 => hb.2 i o (by omega) h2 h3 h4⟩) (fun b hb => ⟨(hR.fut b hb).1, fun i o h1 h2 h3 h4 => (hR.fut b hb).2 i o (by omega) h2 h3 h4⟩)
        exact ih (m + 1) ι H env (by omega) hre.1 ⟨hE.len, fun t x v hx hv => (hE.at_ t x v hx hv).keep0 hre.2⟩ (fun i o h1 h2 h3 h4 => by
          obtain ⟨g1, g2, mk, cs, arr, g3, g4, g5, g6, g7, g8⟩ := hmade i o (by omega) h2 h3 h4
          exact ⟨g1, g2, mk, cs, arr, g3, g4, g5, g6, g7.keep0 hre.2, g8⟩) (fun i j oi oj h1 h2 h3 h4 => hinj i j oi oj (by omega) h2 (by omega) h4) hd hsz h
      | true =>
        rw [if_pos hal] at h
        obtain ⟨hge, hno, mk, cs, arr, hmk', hfin, hok, hcell, hcr, hptr⟩ := hmade m all[m] (Nat.le_refl _) (by omega) ho hal
        rw [hmk'] at h
        split at h
        · rename_i mk2 d e2 hdd
          cases e2
          rw [hfin] at h
          simp only at h
          have hnB : ¬ (B (c m) ∧ ∀ i o, m ≤ i → i < k → all[i]? = some o → isAl o = true → c m ≠ c i) := fun hh => hh.2 m all[m] (Nat.le_refl _) (by omega) ho hal rfl
          have hB' : ∀ b, (B b ∧ ∀ i o, m ≤ i → i < k → all[i]? = some o → isAl o = true → b ≠ c i) → (B b ∧ ∀ i o, m + 1 ≤ i → i < k → all[i]? = some o → isAl o = true → b ≠ c i) := fun b hb => ⟨hb.1, fun i o h1 h2 h3 h4 => hb.2 i o (by omega) h2 h3 h4⟩
          have hokc := finC_rows hmk' hfin hok
          have had := hR.adopt (B' := fun b => B b ∧ ∀ i o, m + 1 ≤ i → i < k → all[i]? = some o → isAl o = true → b ≠ c i) hcell hge hno hnB hB' hcr hokc
          refine ih (m + 1) _ _ _ (by omega) had.1 ⟨by simp [hE.len], fun t' x v hx hv => ?_⟩ (fun i o h2' h2 h3 h4 => ?_) (fun i j oi oj h1 h2 h3 h4 => hinj i j oi oj (by omega) h2 (by omega) h4) hd hsz h
          · by_cases e : d = t'
            · subst e
              have hdl : d < env.length := by rw [hE.len, hsz, ← hlen0]; exact hdlt m all[m] d ho hdd
              rw [List.getElem?_set_self hdl] at hx
              cases hx
              have hv' : v = mk.val (c m) := by
                have := hptr d hdd
                simp only [Act.eval, Array.getD_eq_getD_getElem?, hv] at this
                exact this
              subst hv'
              rw [← hR.len]
              unfold MK.av MK.val
              cases hr : mk.rows with
              | none => exact .own _ 0 _ _ (get_snoc_new _ _)
              | some x =>
                obtain ⟨s, len, rs⟩ := x
                obtain ⟨rfl, hch, hs, hl, hlm⟩ := hokc s len rs hr
                have hsz' : arr.size = len * s := by rw [hcr.1, hl]
                have hsh : mk.shape arr.size = (s, arr.size) := by unfold MK.shape; rw [hr]
                rw [hsh]
                have := Rep.osl (w := w) (ι := ι ++ [(some (c m), s, arr.size)]) (R := Rd (fun b => B b ∧ ∀ i o, m + 1 ≤ i → i < k → all[i]? = some o → isAl o = true → b ≠ c i) (ι ++ [(some (c m), s, arr.size)]) (H ++ [some (mk.blk mk.cs)])) ι.length 0 len (c m) len (s, arr.size) (get_snoc_new _ _) (Nat.le_refl _) hlm (by simp [hsz'])
                simpa using this
            · rw [List.getElem?_set_ne e] at hx
              exact (hE.at_ t' x v hx hv).keep0 had.2
          · obtain ⟨g1, g2, mk3, cs3, arr3, g3, g4, g5, g6, g7, g8⟩ := hmade i o (by omega) h2 h3 h4
            refine ⟨g1, fun hown => ?_, mk3, cs3, arr3, g3, g4, g5, g6, g7.keep0 had.2, g8⟩
            obtain ⟨kk, b', s', q1, q2⟩ := hown
            rcases get_snoc q1 with ⟨hl, q1⟩ | ⟨rfl, e⟩
            · rcases get_snoc q2 with ⟨hl', q2⟩ | ⟨e, _⟩
              · exact g2 ⟨kk, b', s', q1, q2⟩
              · rw [hR.len] at e; omega
            · rw [← hR.len, get_snoc_new] at q2
              have q3 : c i = c m := by
                simp only [Option.some.injEq, Prod.mk.injEq] at q2
                exact q2.1.symm
              have := hinj i m o all[m] (by omega) h2 (Nat.le_refl _) (by omega) h3 ho h4 hal q3
              omega
        · rename_i hno'
          obtain ⟨_, _, d, _, _, hdd⟩ := hTal m all[m] (by omega) ho hal
          exact absurd rfl (hno' _ d · hdd)
  refine wp_region_inv k 8 (fun listed a w' => ∃ c, JS T all k w0 B w.heap.size ι H env0 avs e1 c listed a w') hm hrg hkl ?_ ?_ ?_
  · -- at the start
    have hnot : ∀ i, (Array.replicate all.length false).getD i false = false := fun i => by by_cases h : i < all.length <;> simp [h]
    have hre := hR0.regrow (w' := w.drew) (B' := BX all k B (fun _ => 0) (Array.replicate all.length false)) ((Below.refl _ _).drew) (fun b _ hb => ⟨hb, fun i hi => by have := hi.2.1; rw [hnot] at this; cases this⟩) (fun b hb => ⟨hR0.fut b (by simpa using hb), fun i hi => by have := hi.2.1; rw [hnot] at this; cases this⟩)
    have hnoL : ∀ i, ¬ LA all k (Array.replicate all.length false) i := fun i hi => by
      have := hi.2.1
      rw [hnot] at this
      cases this
    exact ⟨fun _ => 0, hd0, by rw [hlen0]; exact hn0, Nat.le_refl _, hre.1, fun i o m hi => absurd hi (hnoL i), fun i j hi => absurd hi (hnoL i), (fun i hl => by rw [hnot] at hl; cases hl), (fun i o t _ _ hl => by rw [hnot] at hl; cases hl), fun t _ => (hE0.eval (.tmp t)).keep0 hre.2⟩
  · -- an operation comes up
    intro listed a' w' i o ⟨c, hJ⟩ hls hdeps ho hik hun
    have hGw : G w' := hG0 _ hJ.rel.gr
    have hfun : ∀ f, a'.eval (.func f) = .func (.func f) #[] #[] := fun _ => rfl
    have hf := hF i o hik (by simpa using ho)
    rw [Nat.zero_add] at hf
    have hopds := hopd w.heap.size c listed a' w' i i o hJ hdeps ho hik (Nat.le_refl _) (by omega)
    have hopd1 := hopd w.heap.size c listed a' w' i k o hJ hdeps ho hik (by omega) (Nat.le_refl _)
    rw [he1] at hopd1
    have quiet : QS P G o (envFrom all avs 0 i env0) H (avs i) → (isAl o || isSt o) = false → growUpon P (fun v w'' => ∃ c, JS T all k w0 B w.heap.size ι H env0 avs e1 c (listed.setIfInBounds i true) (a'.put o.dst v) w'') ((execOp a'.eval o).run P w') := by
      intro hq hal
      have := hq w0 (BX all k B c listed) w' ι a'.eval hJ.rel hGw hopds hfun
      generalize (execOp a'.eval o).run P w' = r at *
      cases r with
      | ok n w'' =>
        cases n <;> simp only [growUpon] at this ⊢
        · exact ⟨c, hput _ c listed a' w' w'' i o _ hJ hls ho hik hun hdeps hal this.1 this.2⟩
        · exact ⟨c, hput _ c listed a' w' w'' i o _ hJ hls ho hik hun hdeps hal this.1 this.2⟩
        · exact this.mono fun e w'' ⟨v, he, h1, h2⟩ => ⟨v, he, c, hput _ c listed a' w' w'' i o _ hJ hls ho hik hun hdeps hal h1 h2⟩
      | halt x w'' => simp only [growUpon] at this
    rcases hf with ⟨hals, hjunk⟩ | ⟨hal, hf⟩
    · have hil : i < listed.size := by rw [hls]; exact (List.getElem?_eq_some_iff.1 ho).1
      have hlt : ∀ x, LA all k listed x → c x < w'.heap.size := fun x hx => by
        obtain ⟨ox, hox, hxal⟩ := hx.2.2
        obtain ⟨m, _, _, hm, _, _⟩ := hTal x ox hx.1 hox hxal
        obtain ⟨_, ⟨_, h3, _⟩, _⟩ := hJ.made x ox m hx hox hm
        exact lt_of_heap h3
      cases hal : isAl o with
      | true =>
        -- a block is made
        obtain ⟨m, _, d, hm, _, hdd⟩ := hTal i o hik ho hal
        have hopk := hopOk i o hik ho
        unfold opOk at hopk
        simp only [Bool.and_eq_true, hal, Bool.not_true, Bool.false_or] at hopk
        have hgn : o.guard = none := by simpa using hopk.1.2.1
        rw [if_pos (by simp [Region.wanted, hgn])]
        obtain ⟨arr, hrun, hcr⟩ := mk_run hT hm hopd1
        rw [hrun]
        obtain ⟨c', hci, hcx⟩ : ∃ c' : Nat → Nat, c' i = w'.heap.size ∧ ∀ x, x ≠ i → c' x = c x := ⟨fun x => if x = i then w'.heap.size else c x, by simp, fun x hx => by simp [hx]⟩
        have hg : Gr w' (w'.alloc (.cells arr m.t)) := (Below.refl _ _).alloc (Nat.le_refl _) _
        have hBX : ∀ b, b < w'.heap.size → BX all k B c listed b → BX all k B c' (listed.setIfInBounds i true) b := fun b hb hbx => ⟨hbx.1, fun x hx => by
          by_cases hxi : x = i
          · subst hxi; rw [hci]; omega
          · rw [hcx x hxi]; exact hbx.2 x (LA_of_set hx hxi)⟩
        have hre := hJ.rel.regrow (B' := BX all k B c' (listed.setIfInBounds i true)) hg hBX (fun b hb => ⟨(hJ.rel.fut b (by simp at hb; omega)).1, fun x hx => by
          by_cases hxi : x = i
          · subst hxi; rw [hci]; simp at hb; omega
          · rw [hcx x hxi]; have := hlt x (LA_of_set hx hxi); simp at hb; omega⟩)
        have hcur0 : curC all k e1 listed o m = m.cs := by
          unfold curC
          cases hs : o.dst.bind (stFor all k) with
          | none => rfl
          | some x =>
            obtain ⟨s, t, y⟩ := x
            obtain ⟨d', hd', hsd⟩ := Option.bind_eq_some_iff.1 hs
            obtain ⟨hsk, os, h1, h2⟩ := stFor_get hsd
            have hun' : listed.getD s false = false := by
              cases hl : listed.getD s false with
              | false => rfl
              | true =>
                have hst : isSt os = true := by unfold isSt; rw [h2]
                have hopk := hopOk s os hsk h1
                unfold opOk at hopk
                simp only [Bool.and_eq_true, hst, Bool.not_true, Bool.false_or, h2] at hopk
                obtain ⟨j, hj, hjo⟩ := List.any_eq_true.1 hopk.2.2.2
                split at hjo
                · rename_i oj hoj
                  simp only [Bool.and_eq_true, beq_iff_eq] at hjo
                  have hji : j = i := by
                    apply Classical.byContradiction
                    intro hne
                    exact hdis j i oj o d' hoj ho hne hjo.2 hd'
                  subst hji
                  have := hJ.closed s hl j hj
                  rw [hun] at this
                  cases this
                · cases hjo
            simp only [hun']
        refine ⟨c', by rw [put_defers]; exact hJ.defers, by rw [put_size]; exact hJ.size, Nat.le_trans hJ.grow hg.size, hre.1, fun x ox mx hx hox hmx => ?_, fun x y hx hy hxy => ?_, hclos listed i hJ.closed hdeps, fun x ox tx hox hxk hxl hxal hxd => ?_, fun tx ht => ?_⟩
        · by_cases hxi : x = i
          · subst hxi
            rw [ho] at hox; cases hox
            rw [hm] at hmx; cases hmx
            rw [hci]
            refine ⟨hJ.grow, ⟨arr, heap_alloc_new _ _, ?_⟩, fun d' hd' => ?_⟩
            · rw [hcur listed x o o m ho (isAl_st hal), hcur0]
              exact hcr.keep0 hre.2
            · rw [hdd] at hd'; cases hd'
              rw [hdd, eval_put_same (by rw [hJ.size]; exact hdlt x o d ho hdd)]
          · rw [hcx x hxi]
            obtain ⟨h1, ⟨arr', h3, h3'⟩, h4⟩ := hJ.made x ox mx (LA_of_set hx hxi) hox hmx
            refine ⟨h1, ⟨arr', by rw [hg.block _ (lt_of_heap h3)]; exact h3, by rw [hcur listed i o ox mx ho (isAl_st hal)]; exact h3'.keep0 hre.2⟩, fun d' hd' => ?_⟩
            rw [eval_put_ne (hdis x i ox o d' hox ho hxi hd')]
            exact h4 d' hd'
        · by_cases hxi : x = i
          · by_cases hyi : y = i
            · rw [hxi, hyi]
            · rw [hxi] at hxy; rw [hci, hcx y hyi] at hxy
              have := hlt y (LA_of_set hy hyi); omega
          · by_cases hyi : y = i
            · rw [hyi] at hxy; rw [hci, hcx x hxi] at hxy
              have := hlt x (LA_of_set hx hxi); omega
            · rw [hcx x hxi, hcx y hyi] at hxy
              exact hJ.inj x y (LA_of_set hx hxi) (LA_of_set hy hyi) hxy
        · have hxi : x ≠ i := fun e => by subst e; rw [ho] at hox; cases hox; rw [hal] at hxal; cases hxal
          rw [getD_set_ne false (fun e => hxi e.symm)] at hxl
          rw [eval_put_ne (hdis x i ox o tx hox ho hxi hxd)]
          exact (hJ.vals x ox tx hox hxk hxl hxal hxd).keep0 hre.2
        · have hne : o.dst ≠ some tx := ht i o ho hik (getD_set_self hil)
          rw [eval_put_ne hne]
          exact (hJ.rest tx fun x ox hox hxk hxl => ht x ox hox hxk (getD_set_true hxl)).keep0 hre.2
      | false =>
        -- a block is written
        have hst : isSt o = true := by rw [hal] at hals; simpa using hals
        obtain ⟨t, x, y, hop⟩ : ∃ t x y, o.op = .store t x y := by
          unfold isSt at hst
          split at hst
          · exact ⟨_, _, _, by assumption⟩
          · cases hst
        have hopk := hopOk i o hik ho
        unfold opOk at hopk
        simp only [Bool.and_eq_true, hst, Bool.not_true, Bool.false_or, hop] at hopk
        obtain ⟨⟨hgn, hdn⟩, hm2⟩ := hopk.2
        clear hopk
        have hgn : o.guard = none := by simpa using hgn
        have hdn : o.dst = none := by simpa using hdn
        split at hm2
        · rename_i t' d y' heq
          simp only [Op.store.injEq] at heq
          obtain ⟨rfl, rfl, rfl⟩ := heq
          simp only [Bool.and_eq_true, beq_iff_eq] at hm2
          obtain ⟨hsf, hany⟩ := hm2
          obtain ⟨j, hj, hjo⟩ := List.any_eq_true.1 hany
          split at hjo
          · rename_i oj hoj
            simp only [Bool.and_eq_true, beq_iff_eq] at hjo
            obtain ⟨hjal, hjd⟩ := hjo
            have hji := hback i j hj
            have hjl := hdeps j hj
            have hjL : LA all k listed j := ⟨by omega, hjl, oj, hoj, hjal⟩
            obtain ⟨m, cs, d', hm, hfin, hdd⟩ := hTal j oj (by omega) hoj hjal
            rw [hjd] at hdd; cases hdd
            obtain ⟨s, hs⟩ : ∃ s, stFor all k d = some s := by
              cases hs : stFor all k d with
              | none => rw [hs] at hsf; cases hsf
              | some s => exact ⟨s, rfl⟩
            obtain ⟨s, t', y'⟩ := s
            rw [hs] at hsf
            simp only [Option.map_some, Option.some.injEq] at hsf
            subst hsf
            obtain ⟨_, os, h1, h2⟩ := stFor_get hs
            rw [ho] at h1; cases h1
            rw [hop] at h2
            simp only [Op.store.injEq, true_and] at h2
            obtain ⟨rfl, rfl⟩ := h2
            have hbind : oj.dst.bind (stFor all k) = some (s, t, y) := by rw [hjd]; exact hs
            unfold finC at hfin
            rw [hbind] at hfin
            simp only at hfin
            split at hfin
            · rename_i ta ti hja hti
              split at hfin
              · rename_i hc
                cases hfin
                obtain ⟨hws, ⟨arr, harr, hcr⟩, hptr⟩ := hJ.made j oj m hjL hoj hm
                have hcur0 : curC all k e1 listed oj m = m.cs := by
                  unfold curC
                  rw [hbind]
                  simp only [hun]
                rw [hcur0] at hcr
                have hmr : m.rows = none := by
                  unfold mkD at hm
                  rw [hja] at hm
                  simp only at hm
                  split at hm
                  · split at hm
                    · cases hm; rfl
                    · cases hm
                  · cases hm
                have hp := hptr d hjd
                unfold MK.val at hp
                rw [hmr] at hp
                simp only at hp
                have hy := rep_cells_one (hopd1 y (by rw [hop]; simp [Op.operands])) hc.1
                have hone : ∀ v ∈ (a'.eval y).cells.toList, v.oneCell' = true := fun v hv => by
                  obtain ⟨n, hn⟩ := List.mem_iff_getElem?.1 hv
                  have hnl : n < (avCells (aev e1 y)).length := by rw [hy.1]; simpa using (List.getElem?_eq_some_iff.1 hn).1
                  obtain ⟨u, hu, h1, _⟩ := hy.2 n _ (List.getElem?_eq_getElem hnl)
                  have : u = v := by
                    have h4 : (a'.eval y).cells[n]? = some v := by simpa using hn
                    rw [hu] at h4; exact Option.some.inj h4
                  subst this; exact h1
                have hysz : (a'.eval y).cells.size = ti.size := by rw [← hy.1]; exact hc.2.1
                have harsz : arr.size = ti.size := by rw [hcr.1]; exact hc.2.2.symm
                have hle : 0 + (a'.eval y).cells.toList.length ≤ arr.size := by simp [hysz, harsz]
                rw [if_pos (by simp [Region.wanted, hgn]), run_store hT hop hti hp harr hysz (by simp [hysz, harsz]) hone]
                have hh := setRow_heap w' (c j) arr (arr.toList.take 0 ++ (a'.eval y).cells.toList ++ arr.toList.drop (0 + (a'.eval y).cells.toList.length)).toArray m.t (0, 0) harr
                obtain ⟨arr2, harr2⟩ : ∃ x, (arr.toList.take 0 ++ (a'.eval y).cells.toList ++ arr.toList.drop (0 + (a'.eval y).cells.toList.length)).toArray = x := ⟨_, rfl⟩
                have hcr2 : CellsRep w' ι (Rd (BX all k B c listed) ι H) (avCells (aev e1 y)) arr2 := by
                  rw [← harr2]
                  refine ⟨by rw [arr_set_size hle, harsz]; exact hc.2.1.symm, fun n an hn => ?_⟩
                  have hnl := (List.getElem?_eq_some_iff.1 hn).1
                  rw [arr_set_get hle, if_pos ⟨by omega, by simp [hysz]; have := hc.2.1; omega⟩]
                  obtain ⟨u, hu, h1, hr⟩ := hy.2 n an hn
                  exact ⟨u, by simpa using hu, h1, hr⟩
                rw [harr2] at hh ⊢
                have hpk := hJ.rel.poke (c := c j) (.inr (Nat.le_trans hR0.size hws)) (fun hown => by have := hR0.lt hown; omega) (fun hb => hb.2 j hjL rfl) (w' := w'.setRow (c j) arr2) rfl rfl rfl (by simp) (fun d hd => setRow_other w' (c j) d _ hd)
                have hLA : ∀ x, LA all k (listed.setIfInBounds s true) x → LA all k listed x := fun x hx => LA_of_set hx fun e => by
                  subst e
                  obtain ⟨o', h1, h2⟩ := hx.2.2
                  rw [ho] at h1; cases h1; rw [hal] at h2; cases h2
                have hBX : ∀ b, BX all k B c listed b → BX all k B c (listed.setIfInBounds s true) b := fun b hb => ⟨hb.1, fun x hx => hb.2 x (hLA x hx)⟩
                have hre := hpk.1.regrow (B' := BX all k B c (listed.setIfInBounds s true)) (Gr.refl _) (fun b _ hb => hBX b hb) (fun b hb => hBX b (hpk.1.fut b hb))
                have hsz2 : (w'.setRow (c j) arr2).heap.size = w'.heap.size := by simp
                simp only [growUpon]
                rw [hdn]
                refine ⟨c, hJ.defers, hJ.size, by rw [hsz2]; exact hJ.grow, hre.1, fun x ox mx hx hox hmx => ?_, fun x y hx hy => hJ.inj x y (hLA x hx) (hLA y hy), hclos listed s hJ.closed hdeps, fun x ox tx hox hxk hxl hxal hxd => ?_, fun tx ht => ?_⟩
                · obtain ⟨g1, ⟨arr', g3, g3'⟩, g4⟩ := hJ.made x ox mx (hLA x hx) hox hmx
                  by_cases hxj : x = j
                  · subst hxj
                    rw [hoj] at hox; cases hox
                    rw [hm] at hmx; cases hmx
                    refine ⟨g1, ⟨arr2, hh, ?_⟩, g4⟩
                    have hcur1 : curC all k e1 (listed.setIfInBounds s true) oj m = avCells (aev e1 y) := by
                      unfold curC
                      rw [hbind]
                      simp only [getD_set_self hil]
                    rw [hcur1]
                    exact (hcr2.keep0 hpk.2).keep0 hre.2
                  · have hcx : c x ≠ c j := fun e => hxj (hJ.inj x j (hLA x hx) hjL e)
                    refine ⟨g1, ⟨arr', by rw [setRow_other w' (c j) (c x) _ hcx]; exact g3, ?_⟩, g4⟩
                    have hcur1 : curC all k e1 (listed.setIfInBounds s true) ox mx = curC all k e1 listed ox mx := by
                      unfold curC
                      cases hs2 : ox.dst.bind (stFor all k) with
                      | none => rfl
                      | some z =>
                        obtain ⟨s2, t2, y2⟩ := z
                        have hne : s ≠ s2 := fun e => by
                          subst e
                          obtain ⟨d2, hd2, hsd2⟩ := Option.bind_eq_some_iff.1 hs2
                          obtain ⟨_, o2, q1, q2⟩ := stFor_get hsd2
                          rw [ho] at q1; cases q1
                          rw [hop] at q2
                          simp only [Op.store.injEq, Operand.tmp.injEq] at q2
                          have e2 := q2.2.1
                          subst e2
                          exact hdis x j ox oj d hox hoj hxj hd2 hjd
                        simp only [getD_set_ne false hne]
                    rw [hcur1]
                    exact (g3'.keep0 hpk.2).keep0 hre.2
                · have hxs : x ≠ s := fun e => by subst e; rw [ho] at hox; cases hox; rw [hdn] at hxd; cases hxd
                  rw [getD_set_ne false (fun e => hxs e.symm)] at hxl
                  exact ((hJ.vals x ox tx hox hxk hxl hxal hxd).keep0 hpk.2).keep0 hre.2
                · exact ((hJ.rest tx fun x ox hox hxk hxl => ht x ox hox hxk (getD_set_true hxl)).keep0 hpk.2).keep0 hre.2
              · cases hfin
            · cases hfin
          · cases hjo
        · cases hm2
    · rcases hf with ⟨hg, hq⟩ | ⟨j, want, b, hg, hb, hcase⟩
      · rw [if_pos (by simp [Region.wanted, hg])]
        exact quiet hq hal
      · -- a guard
        have hopk := hopOk i o hik ho
        unfold opOk at hopk
        simp only [Bool.and_eq_true, hg] at hopk
        have hjd : j ∈ depsOf all.toArray i := by simpa using hopk.1.1.2.1
        obtain ⟨tj, htj⟩ := Option.isSome_iff_exists.1 hopk.1.1.2.2
        have hji := hback i j hjd
        have hjl := hdeps j hjd
        have hyield : yieldedE all.toArray a'.eval j = b := by
          unfold gval at hb
          rw [htj] at hb
          simp only at hb
          cases hjo : all[j]? with
          | none => rw [hjo] at htj; cases htj
          | some oj =>
            have hjdst : oj.dst = some tj := by rw [hjo] at htj; simpa using htj
            have htl := hdlt j oj tj hjo hjdst
            have he : (envFrom all avs 0 i env0)[tj]? = some (avs j) := envFrom_at htj i env0 hji htl fun x hx hxj => by
              cases hxo : all[x]? with
              | none => simp
              | some ox => simpa using hdis j x oj ox tj hjo hxo (Ne.symm hxj) hjdst
            rw [List.getD_eq_getElem?_getD, he] at hb
            simp only [Option.getD_some] at hb
            have hjal : isAl oj = false := by
              cases hjal : isAl oj with
              | false => rfl
              | true =>
                rcases hF j oj (by omega) (by simpa using hjo) with ⟨_, hjk⟩ | ⟨hh, _⟩
                · rw [Nat.zero_add] at hjk; rw [hjk] at hb; cases hb
                · rw [hjal] at hh; cases hh
            have hr := hJ.vals j oj tj hjo (by omega) hjl hjal hjdst
            split at hb
            · rename_i x' eb
              cases hb
              rw [eb] at hr
              unfold yieldedE
              simp only [List.getElem?_toArray]
              rw [htj]
              simp only
              rw [rep_v hr]
              cases x' <;> rfl
            · cases hb
        rcases hcase with ⟨e, hq⟩ | ⟨e, hu⟩
        · rw [if_pos (by simp [Region.wanted, hg, hyield, e])]
          exact quiet hq hal
        · rw [if_neg (by simpa [Region.wanted, hg, hyield] using e)]
          refine ⟨c, hput _ c listed a' w' w' i o _ hJ hls ho hik hun hdeps hal (Gr.refl _) ?_⟩
          rw [hu]; exact .p _ _ (.v _)
  · -- the tail
    intro listed a' w' ⟨c, hJ⟩ hall
    have hLA : ∀ i o, i < k → all[i]? = some o → isAl o = true → LA all k listed i := fun i o hi ho hal => ⟨hi, hall i hi, o, ho, hal⟩
    have hre := hJ.rel.regrow (B' := fun b => B b ∧ ∀ i o, 0 ≤ i → i < k → all[i]? = some o → isAl o = true → b ≠ c i) (Gr.refl _) (fun b _ hb => ⟨hb.1, fun i o _ h2 h3 h4 => hb.2 i (hLA i o h2 h3 h4)⟩) (fun b hb => ⟨(hJ.rel.fut b hb).1, fun i o _ h2 h3 h4 => (hJ.rel.fut b hb).2 i (hLA i o h2 h3 h4)⟩)
    refine hadopt c a' w' k 0 ι H e1 (by omega) hre.1 ⟨by rw [← he1, envFrom_len]; exact hJ.size.symm, fun t x v hx hv => ?_⟩ (fun i o _ h2 h3 h4 => ?_) (fun i j oi oj _ h2 _ h4 h5 h6 h7 h8 h9 => hJ.inj i j (hLA i oi h2 h5 h7) (hLA j oj h4 h6 h8) h9) hJ.defers (by rw [hJ.size]; exact hlen0) (by simpa using hK)
    · rw [← he1] at hx
      have hev : a'.eval (.tmp t) = v := by simp only [Act.eval, Array.getD_eq_getD_getElem?, hv]; rfl
      have htl : t < env0.length := by have := (List.getElem?_eq_some_iff.1 hx).1; rw [envFrom_len] at this; exact this
      rcases Classical.em (∃ i o, i < k ∧ all[i]? = some o ∧ o.dst = some t) with ⟨i, o, hik, ho, hdst'⟩ | hno
      · have hbind : (all[i]?).bind (·.dst) = some t := by rw [ho]; simpa using hdst'
        have he : (envFrom all avs 0 k env0)[t]? = some (avs i) := envFrom_at hbind k env0 hik htl fun x hx hxi => by
          cases hxo : all[x]? with
          | none => simp
          | some ox => simpa using hdis i x o ox t ho hxo (Ne.symm hxi) hdst'
        rw [he] at hx; cases hx
        cases hal : isAl o with
        | true =>
          rcases hF i o hik (by simpa using ho) with ⟨_, hjk⟩ | ⟨hh, _⟩
          · rw [Nat.zero_add] at hjk; rw [hjk]; exact .junk _
          · rw [hal] at hh; simp at hh
        | false =>
          have := hJ.vals i o t ho hik (hall i hik) hal hdst'
          rw [hev] at this
          exact this.keep0 hre.2
      · have he : (envFrom all avs 0 k env0)[t]? = env0[t]? := envFrom_free (all := all) (avs := avs) k env0 fun i hi => by
          cases hio : all[i]? with
          | none => simp
          | some o => simpa using fun e => hno ⟨i, o, hi, hio, e⟩
        rw [he] at hx
        have := hJ.rest t fun i o ho hi _ e => hno ⟨i, o, hi, ho, e⟩
        rw [hev] at this
        have e2 : aev env0 (.tmp t) = x := by simp only [aev, List.getD_eq_getElem?_getD, hx]; rfl
        rw [e2] at this
        exact this.keep0 hre.2
    · obtain ⟨m, cs, d, hm, hfin, hdd⟩ := hTal i o h2 h3 h4
      obtain ⟨g1, ⟨arr, g2, g3⟩, g4⟩ := hJ.made i o m (hLA i o h2 h3 h4) h3 hm
      have hcc : curC all k e1 listed o m = cs := by
        unfold finC at hfin
        unfold curC
        cases hs : o.dst.bind (stFor all k) with
        | none => rw [hs] at hfin; exact Option.some.inj hfin
        | some z =>
          obtain ⟨s, t, y⟩ := z
          obtain ⟨d2, _, hsd⟩ := Option.bind_eq_some_iff.1 hs
          have hl := hall s (stFor_get hsd).1
          rw [hs] at hfin
          simp only [hl] at hfin ⊢
          split at hfin
          · split at hfin
            · exact Option.some.inj hfin
            · cases hfin
          · cases hfin
      rw [hcc] at g3
      exact ⟨.inr (Nat.le_trans hR0.size g1), fun hown => by have := hR0.lt hown; omega, m, cs, arr, hm, hfin, mkD_ok hm, g2, g3.keep0 hre.2, g4⟩
end
end Go.Proofs.YtlffpgjkhehdmaaDoor
