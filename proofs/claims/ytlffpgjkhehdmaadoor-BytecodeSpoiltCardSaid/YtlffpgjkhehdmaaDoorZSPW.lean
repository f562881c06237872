/- Own work: bytes made of a string, of which one is written: a rule for a body that does so once. -/
import Derived.Test.YtlffpgjkhehdmaaDoorZCN
import Derived.Test.YtlffpgjkhehdmaaDoorZGN
import Derived.Test.YtlffpgjkhehdmaaDoorZGJ
import Derived.Lib.ConvBytes
namespace Go.Proofs.YtlffpgjkhehdmaaDoor
open Go.RowKit
set_option maxRecDepth 100000
set_option linter.unusedSimpArgs false

theorem wnt_none {o : Oper} (h : o.guard = none) (y : Nat → Option Bool) : Region.wanted o y = true := by unfold Region.wanted; rw [h]
/-- the slots that a part of a body writes -/
def dstsK : Code → List Nat
  | .region _ ops _ => ops.toList.filterMap (·.dst)
  | .seq a b => dstsK a ++ dstsK b
  | .cond _ a b => dstsK a ++ dstsK b
  | .block _ c => dstsK c
  | .loop c => dstsK c
  | _ => []
theorem dstK_of {w0 : Base} : ∀ c : Code, (∀ t ∈ dstsK c, w0.pin t = none) → dstK w0 c
  | .region _ _ _, h => fun o ho t ht => h t (List.mem_filterMap.2 ⟨o, ho, ht⟩)
  | .seq a b, h => ⟨dstK_of a fun t ht => h t (List.mem_append_left _ ht), dstK_of b fun t ht => h t (List.mem_append_right _ ht)⟩
  | .cond _ a b, h => ⟨dstK_of a fun t ht => h t (List.mem_append_left _ ht), dstK_of b fun t ht => h t (List.mem_append_right _ ht)⟩
  | .block _ c, h => dstK_of c h
  | .loop c, h => dstK_of c h
  | .skip, _ => trivial
  | .exit _, _ => trivial
  | .ret, _ => trivial
  | .scope _, _ => trivial
  | .label _, _ => trivial
  | .goto _, _ => trivial
  | .refuse _, _ => trivial
  | .rangeFunc .., _ => trivial
theorem dsts_of {w0 : Base} : ∀ c : Code, dstK w0 c → ∀ t ∈ dstsK c, w0.pin t = none
  | .region _ _ _, h, t, ht => by
    obtain ⟨o, ho, hd⟩ := List.mem_filterMap.1 ht
    exact h o ho t hd
  | .seq a b, h, t, ht => (List.mem_append.1 ht).elim (dsts_of a h.1 t) (dsts_of b h.2 t)
  | .cond _ a b, h, t, ht => (List.mem_append.1 ht).elim (dsts_of a h.1 t) (dsts_of b h.2 t)
  | .block _ c, h, t, ht => dsts_of c h t ht
  | .loop c, h, t, ht => dsts_of c h t ht
  | .skip, _, t, ht => by cases ht
  | .exit _, _, t, ht => by cases ht
  | .ret, _, t, ht => by cases ht
  | .scope _, _, t, ht => by cases ht
  | .label _, _, t, ht => by cases ht
  | .goto _, _, t, ht => by cases ht
  | .refuse _, _, t, ht => by cases ht
  | .rangeFunc .., _, t, ht => by cases ht

theorem put_same {a : Act} {d : Nat} {v : Value} (h : d < a.tmps.size) : (a.put (some d) v).tmps[d]? = some v := by
  show (a.tmps.setIfInBounds d v)[d]? = some v
  rw [Array.getElem?_setIfInBounds_self_of_lt h]
theorem put_other {a : Act} {d t : Nat} {v : Value} (h : d ≠ t) : (a.put (some d) v).tmps[t]? = a.tmps[t]? := by
  show (a.tmps.setIfInBounds d v)[t]? = _
  rw [Array.getElem?_setIfInBounds_ne h]
theorem pu_size (a : Act) (d : Option Nat) (v : Value) : (a.put d v).tmps.size = a.tmps.size := by
  cases d with
  | none => rfl
  | some d => show (a.tmps.setIfInBounds d v).size = _; simp
theorem pu_defers (a : Act) (d : Option Nat) (v : Value) : (a.put d v).defers = a.defers := by cases d <;> rfl
theorem eval_of {a : Act} {t : Nat} {v : Value} (h : a.tmps[t]? = some v) : a.eval (.tmp t) = v := by
  simp only [Act.eval, Array.getD_eq_getD_getElem?, h, Option.getD_some]
/-- a state told by few slots -/
theorem repE_spread {w : World} {ι : Pl} {R : Nat → Prop} {live : List Nat} {vs : List AV} {n : Nat} {tmps : Array Value} (hn : tmps.size = n) (h : ∀ t v, tmps[t]? = some v → Rep w ι R (lookE t live vs) v) : RepE w ι R (spreadE live vs n 0) tmps := by
  refine ⟨by rw [spreadE_len]; exact hn.symm, fun t a v ha hv => ?_⟩
  have ht : t < n := by rw [← hn]; exact (Array.getElem?_eq_some_iff.1 hv).1
  rw [spreadE_get _ _ _ _ _ ht, Nat.zero_add] at ha
  cases ha
  exact h t v hv
/-- bytes in a block that is only read -/
theorem rep_bytes {w : World} {R : Nat → Prop} {s : ByteArray} {c cap : Nat} {arr : Array Value} {t : TypeId} {fr : Nat × Nat} (hR : R c) (hb : w.heap[c]? = some (.cells arr t fr)) (hcap : s.size ≤ cap) (h : ∀ (j : Nat) (b : UInt8), s.data.toList[j]? = some b → arr[j]? = some (.int .u8 (b.toNat : Nat))) : RepP w R (.ro 1 (bytesRows s)) (.slice (some ⟨c, 0, none⟩) s.size cap) := by
  have hl : (bytesRows s).length = s.size := by simp [bytesRows]
  have hrow : ∀ (q : Nat) (row : List PV), (bytesRows s)[q]? = some row → ∃ b, s.data.toList[q]? = some b ∧ row = [.v (.int .u8 (b.toNat : Nat))] := fun q row hq => by
    unfold bytesRows at hq
    rw [List.getElem?_map] at hq
    cases hn : s.data.toList[q]? with
    | none => rw [hn] at hq; cases hq
    | some n => rw [hn] at hq; cases hq; exact ⟨n, rfl, rfl⟩
  have hcell : ∀ (q j : Nat) (row : List PV) (a : PV), (bytesRows s)[q]? = some row → row[j]? = some a → ∃ b, s.data.toList[q]? = some b ∧ j = 0 ∧ a = .v (.int .u8 (b.toNat : Nat)) := fun q j row a hq ha => by
    obtain ⟨n, hn, rfl⟩ := hrow q row hq
    cases j with
    | zero => simp at ha; exact ⟨n, hn, rfl, ha.symm⟩
    | succ j => simp at ha
  have := RepP.ro (w := w) (R := R) 1 (bytesRows s) c 0 cap (fun q _ => .int .u8 (((s.data.toList[q]?).getD 0).toNat : Nat)) hR (lt_of_heap hb) (by rw [hl]; exact hcap)
    (fun q row hq => by obtain ⟨n, _, rfl⟩ := hrow q row hq; rfl)
    (fun q j row a hq ha => by
      obtain ⟨n, hn, rfl, rfl⟩ := hcell q j row a hq ha
      refine ⟨?_, rfl⟩
      unfold World.cell?
      simp only [hb, Option.isSome_none, Bool.false_eq_true, if_false]
      rw [show 0 + (q * 1 + 0) = q by omega, h q n hn, hn, Option.getD_some])
    (fun q j row a hq ha => by
      obtain ⟨n, hn, rfl, rfl⟩ := hcell q j row a hq ha
      rw [hn, Option.getD_some]
      exact .v _)
  rw [hl] at this
  exact this
theorem bytesWorld_gr (w : World) (e : TypeId) (s : ByteArray) : Gr w (Lib.bytesWorld w e s) := by
  refine ⟨rfl, rfl, rfl, ?_, fun k hk => Lib.bytesWorld_at_old w e s k hk⟩
  rw [Lib.bytesWorld_size]; omega

theorem set_bytes {arr : Array Value} {l : List UInt8} {k : Nat} {y : UInt8} (h : ∀ (j : Nat) (b : UInt8), l[j]? = some b → arr[j]? = some (.int .u8 (b.toNat : Nat))) : ∀ (j : Nat) (b : UInt8), (l.set k y)[j]? = some b → (arr.setIfInBounds k (.int .u8 (y.toNat : Nat)))[j]? = some (.int .u8 (b.toNat : Nat)) := fun j b hb => by
  by_cases e : k = j
  · subst e
    have hl : k < l.length := by
      have := (List.getElem?_eq_some_iff.1 hb).1
      simpa using this
    rw [List.getElem?_set_self hl] at hb
    cases hb
    have h1 := h k _ (List.getElem?_eq_getElem hl)
    rw [Array.getElem?_setIfInBounds_self_of_lt (Array.getElem?_eq_some_iff.1 h1).1]
  · rw [List.getElem?_set_ne e] at hb
    rw [Array.getElem?_setIfInBounds_ne e]
    exact h j b hb
/-- what was done in a walk that began later, with nothing lent to it -/
theorem St.back {w0 : Base} {B : Nat → Prop} {nt : Nat} {env : List AV} {H : AH} {a : Act} {w W' : World} {pin' : Nat → Option Value} (hg : GrX w0 w) (hp : ∀ t v, w0.pin t = some v → pin' t = some v) (h : St ⟨w, fun _ => False, w0.ds, pin'⟩ B nt env H a W') : St w0 B nt env H a W' := by
  obtain ⟨ι, hR, hE⟩ := h.rep
  have hgr : Gr w W' := ⟨hR.gr.os, hR.gr.tape, hR.gr.output, hR.gr.size, fun k hk => hR.gr.block k hk id⟩
  refine ⟨h.defers, h.size, fun t v ht => h.pin t v (hp t v ht), ι, ⟨hg.trans hgr, hR.fut, hR.len, fun k b c s h1 h2 => ⟨fun c' e => ?_, (hR.blk k b c s h1 h2).2⟩, hR.inj⟩, hE⟩
  rcases (hR.blk k b c s h1 h2).1 c' e with h3 | h3
  · exact h3.elim
  · exact .inr (Nat.le_trans hg.size h3)

set_option maxHeartbeats 1000000 in
theorem spoil_rule {i6 i10 : Nat} {a1 a2 a3 b1 b2 b3 b4 b5 : Oper} {c7 c8 rest : Code} {Q : SO → Exit → List AV → AH → Prop} {X1 : PV} {A3 : AV} {H : AH} {s : ByteArray} {by_ : UInt8} {k : Int} {M : Prop}
    (ha1 : a1.op = .move (.tmp 7)) (da1 : a1.dst = some 38) (ga1 : a1.guard = none) (ha2 : a2.op = .convert 9 42 (.tmp 38)) (da2 : a2.dst = some 39) (ga2 : a2.guard = none) (ha3 : a3.op = .assign (.tmp 39)) (da3 : a3.dst = some 9) (ga3 : a3.guard = none)
    (hb1 : b1.op = .move (.tmp 9)) (db1 : b1.dst = some 51) (gb1 : b1.guard = none) (hb2 : b2.op = .move (.tmp 10)) (db2 : b2.dst = some 52) (gb2 : b2.guard = none) (hb3 : b3.op = .move (.tmp 2)) (db3 : b3.dst = some 53) (gb3 : b3.guard = none)
    (hb4 : b4.op = .indexAddr 42 (.tmp 51) (.tmp 52)) (db4 : b4.dst = some 54) (gb4 : b4.guard = none) (hb5 : b5.op = .store 5 (.tmp 54) (.tmp 53)) (db5 : b5.dst = none) (gb5 : b5.guard = none)
    (hk7 : codeOk 73 (fun _ => 0) c7 = true) (hk8 : codeOk 73 (fun _ => 0) c8 = true) (hd7 : ((dstsK c7).all fun t => t != 9 && t != 3 && t != 2) = true) (hd8 : ((dstsK c8).all fun t => t != 9 && t != 3 && t != 2) = true)
    (hk0 : 0 ≤ k) (hk1 : k.toNat < s.size)
    (hmid : ∀ (P' : Program) (G' : World → Prop) (E : SO), E = stdE → awp P' G' E tyT (fun _ => 0) (.seq c7 c8) (thenA (fun env _ => M ∧ aev env (.tmp 10) = .p (.v (.int .i64 k))) (Q E)) (spreadE [1, 2, 9] [.p X1, .p (.v (.int .u8 (by_.toNat : Nat))), .p (.ro 1 (bytesRows s))] 73 0) [])
    (hrest : M → Seg Tryd.prog Tabs 73 rest (Q stdE) (spreadE [3, 9] [A3, .p (.ro 1 (bytesRows (ofL (s.data.toList.set k.toNat by_))))] 73 0) H) :
    Seg Tryd.prog Tabs 73 (.seq (.region i6 #[a1, a2, a3] false) (.seq c7 (.seq c8 (.seq (.region i10 #[b1, b2, b3, b4, b5] false) rest)))) (Q stdE) (spreadE [1, 2, 3, 7] [.p X1, .p (.v (.int .u8 (by_.toNat : Nat))), A3, .p (.v (.string s))] 73 0) H := by
  intro w0 B hG hB hpk a w hS
  obtain ⟨ι, hR, hE⟩ := hS.rep
  have hsz : a.tmps.size = 73 := hS.size
  have t7 : a.eval (.tmp 7) = .string s := rep_v (x := .string s) (hE.eval (.tmp 7))
  have t2 : a.eval (.tmp 2) = .int .u8 (by_.toNat : Nat) := rep_v (x := .int .u8 (by_.toNat : Nat)) (hE.eval (.tmp 2))
  have e1 : Rep w ι (Rd B ι H) (.p X1) (a.eval (.tmp 1)) := hE.eval (.tmp 1)
  have e3 : Rep w ι (Rd B ι H) A3 (a.eval (.tmp 3)) := hE.eval (.tmp 3)
  obtain ⟨cap, hcap⟩ : ∃ x, grownCap w s.size 0 5 = x := ⟨_, rfl⟩
  obtain ⟨SL, hSL⟩ : ∃ x : Value, Value.slice (some ⟨w.heap.size, 0, none⟩) s.size cap = x := ⟨_, rfl⟩
  have hcs : s.size ≤ cap := by rw [← hcap]; exact grownCap_ge _ _ _ _
  obtain ⟨W6, hW6⟩ : ∃ x, Lib.bytesWorld w 5 s = x := ⟨_, rfl⟩
  have hconv := Lib.run_convert_string_bytes (P := Tryd.prog) w 9 42 5 s Tryd.underlying9 Tryd.underlying42 Tryd.underlying5
  rw [hcap, hSL, hW6] at hconv
  have gr6 : Gr w W6 := by rw [← hW6]; exact bytesWorld_gr _ _ _
  have new6 : W6.heap[w.heap.size]? = some (.cells (Lib.bytesCells w 5 s) 5 ((Lib.bytesCells w 5 s).size, (Lib.bytesCells w 5 s).size + 1)) := by rw [← hW6]; exact Lib.bytesWorld_at_new _ _ _
  have size6 : W6.heap.size = w.heap.size + 1 := by rw [← hW6]; exact Lib.bytesWorld_size _ _ _
  generalize harr : Lib.bytesCells w 5 s = arr at new6
  have hcells : ∀ (j : Nat) (b : UInt8), s.data.toList[j]? = some b → arr[j]? = some (.int .u8 (b.toNat : Nat)) := fun j b hb => by
    rw [← harr]
    unfold Lib.bytesCells
    have hj : j < s.data.size := by have := (List.getElem?_eq_some_iff.1 hb).1; simpa using this
    rw [Array.getElem?_append_left (by simpa using hj)]
    simp only [Array.getElem?_map]
    have : s.data[j]? = some b := by simpa using hb
    rw [this]
    rfl
  have hasz : s.size ≤ arr.size := by
    rw [← harr]
    unfold Lib.bytesCells
    simp only [Array.size_append, Array.size_map]
    exact Nat.le_add_right _ _
  have hBc : B w.heap.size := hR.fut _ (Nat.le_refl _)
  -- the bytes are made
  refine wp_seq (wp_region_list ?_)
  refine ls_value (v := .string s) (w' := w) (wnt_none ga1 _) (by simp [execOp, ha1, t7]) ?_
  rw [da1]
  have u1 : (a.put (some 38) (.string s)).eval (.tmp 38) = .string s := eval_of (put_same (by rw [hsz]; decide))
  refine ls_value (v := SL) (w' := W6) (wnt_none ga2 _) (by simp [execOp, ha2, u1, hconv]) ?_
  rw [da2]
  have u2 : ((a.put (some 38) (.string s)).put (some 39) SL).eval (.tmp 39) = SL := eval_of (put_same (by rw [pu_size, hsz]; decide))
  refine ls_value (v := SL) (w' := W6) (wnt_none ga3 _) (by simp [execOp, ha3, u2]) ?_
  rw [da3]
  generalize ha6 : ((a.put (some 38) (.string s)).put (some 39) SL).put (some 9) SL = a6
  change Code.wp Tryd.prog (.seq c7 _) _ a6 W6
  have sz6 : a6.tmps.size = 73 := by rw [← ha6, pu_size, pu_size, pu_size, hsz]
  have df6 : a6.defers = w0.ds := by rw [← ha6, pu_defers, pu_defers, pu_defers]; exact hS.defers
  have n6 : a6.tmps[9]? = some SL := by rw [← ha6]; exact put_same (by rw [pu_size, pu_size, hsz]; decide)
  have o6 : ∀ t, t ≠ 9 → t ≠ 38 → t ≠ 39 → a6.tmps[t]? = a.tmps[t]? := fun t h1 h2 h3 => by
    rw [← ha6, put_other (Ne.symm h1), put_other (Ne.symm h3), put_other (Ne.symm h2)]
  have hp38 : w0.pin 38 = none := hpk.1 a1 (by simp) 38 da1
  have hp39 : w0.pin 39 = none := hpk.1 a2 (by simp) 39 da2
  have hp9 : w0.pin 9 = none := hpk.1 a3 (by simp) 9 da3
  -- a walk that begins here
  let pin' : Nat → Option Value := fun t => if t = 9 then some SL else if t = 3 ∨ t = 2 then a.tmps[t]? else w0.pin t
  have hpin' : ∀ t v, w0.pin t = some v → pin' t = some v := fun t v h => by
    show (if t = 9 then some SL else if t = 3 ∨ t = 2 then a.tmps[t]? else w0.pin t) = some v
    split
    · rename_i e; rw [e, hp9] at h; cases h
    · split
      · exact hS.pin t v h
      · exact h
  have pinn : ∀ c, dstK w0 c → ((dstsK c).all fun t => t != 9 && t != 3 && t != 2) = true → dstK ⟨W6, fun _ => False, w0.ds, pin'⟩ c := fun c hc hd => dstK_of c fun t ht => by
    have h1 := List.all_eq_true.1 hd t ht
    simp only [Bool.and_eq_true, bne_iff_ne, ne_eq] at h1
    show (if t = 9 then some SL else if t = 3 ∨ t = 2 then a.tmps[t]? else w0.pin t) = none
    rw [if_neg h1.1.1, if_neg (by rintro (h | h); exact h1.1.2 h; exact h1.2 h)]
    exact dsts_of c hc t ht
  have hg6 : GrX w0 W6 := hR.gr.trans gr6
  have hRd : ∀ b, B b → Rd B [] [] b := fun b hb => ⟨hb, by rintro ⟨k, b', s, h1, _⟩; simp at h1⟩
  have hS6 : St ⟨W6, fun _ => False, w0.ds, pin'⟩ B 73 (spreadE [1, 2, 9] [.p X1, .p (.v (.int .u8 (by_.toNat : Nat))), .p (.ro 1 (bytesRows s))] 73 0) [] a6 W6 := by
    refine ⟨df6, sz6, fun t v h => ?_, [], ⟨⟨rfl, rfl, rfl, Nat.le_refl _, fun _ _ _ => rfl⟩, fun b hb => hR.fut b (by have : W6.heap.size ≤ b := hb; omega), rfl, fun k b c s h1 => by simp at h1, fun k l b b' c s s' h1 => by simp at h1⟩, repE_spread sz6 fun t v ht => ?_⟩
    · have h' : (if t = 9 then some SL else if t = 3 ∨ t = 2 then a.tmps[t]? else w0.pin t) = some v := h
      split at h'
      · rename_i e; rw [e, n6]; exact h'
      · rename_i n9
        split at h'
        · rename_i e
          rw [o6 t n9 (by omega) (by omega)]; exact h'
        · have h3 := hS.pin t v h'
          rw [o6 t n9 (fun e => by rw [e, hp38] at h'; cases h') (fun e => by rw [e, hp39] at h'; cases h')]
          exact h3
    · simp only [lookE]
      split
      · rename_i e
        have e' := Nat.eq_of_beq_eq_true e
        subst e'
        rw [o6 1 (by decide) (by decide) (by decide)] at ht
        have h4 := e1
        rw [eval_of ht] at h4
        cases h4 with
        | p _ _ h4 => exact .p _ _ (h4.keep (by omega) fun b hb hl => ⟨hRd b hb.1, gr6.block b hl⟩)
      · split
        · rename_i e
          have e' := Nat.eq_of_beq_eq_true e
          subst e'
          rw [o6 2 (by decide) (by decide) (by decide)] at ht
          rw [eval_of ht] at t2
          subst t2
          exact .p _ _ (.v _)
        · split
          · rename_i e
            have e' := Nat.eq_of_beq_eq_true e
            subst e'
            rw [n6] at ht
            cases ht
            rw [← hSL]
            exact .p _ _ (rep_bytes (hRd _ hBc) new6 hcs hcells)
          · exact .junk _
  have hB6 : ∀ b, (Base.mk W6 (fun _ => False) w0.ds pin').own b → B b := fun b hb => hb.elim (fun h => h.elim) fun h => hR.fut b (by have : W6.heap.size ≤ b := h; omega)
  have hG6 : ∀ w', GrX ⟨W6, fun _ => False, w0.ds, pin'⟩ w' → Tabs w' := fun w' hg => hG w' (hg6.trans ⟨hg.os, hg.tape, hg.output, hg.size, fun k hk => hg.block k hk id⟩)
  have hm := hmid Tryd.prog Tabs stdE rfl
  unfold awp at hm
  have back : ∀ e env H a w, Q stdE e env H → St ⟨W6, fun _ => False, w0.ds, pin'⟩ B 73 env H a w → Post w0 B 73 (Q stdE) e a w := fun e env H a w hq hs => ⟨env, H, hq, hs.back hg6 hpin'⟩
  refine wp_seq (wp_mono (awp_sound tyT_ok hG6 hB6 mixed (fun _ => 0) c7 (pinn c7 hpk.2.1 hd7) hk7 _ _ _ a6 W6 hm hS6) ?_)
  rintro e a7 w7 ⟨env7, H7, hq7, hS7⟩
  cases e with
  | exit id => exact back _ _ _ _ _ hq7 hS7
  | goto l => exact back _ _ _ _ _ hq7 hS7
  | ret => exact back _ _ _ _ _ hq7 hS7
  | panic c => exact back _ _ _ _ _ hq7 hS7
  | outgrown => exact back _ _ _ _ _ hq7 hS7
  | normal =>
  refine wp_seq (wp_mono (awp_sound tyT_ok hG6 hB6 mixed (fun _ => 0) c8 (pinn c8 hpk.2.2.1 hd8) hk8 _ _ _ a7 w7 hq7 hS7) ?_)
  rintro e a8 w8 ⟨env8, H8, hq8, hS8⟩
  cases e with
  | exit id => exact back _ _ _ _ _ hq8 hS8
  | goto l => exact back _ _ _ _ _ hq8 hS8
  | ret => exact back _ _ _ _ _ hq8 hS8
  | panic c => exact back _ _ _ _ _ hq8 hS8
  | outgrown => exact back _ _ _ _ _ hq8 hS8
  | normal =>
  obtain ⟨hM, h10⟩ := hq8
  obtain ⟨ι8, hR8, hE8⟩ := hS8.rep
  have v10 : a8.eval (.tmp 10) = .int .i64 k := by
    have := hE8.eval (.tmp 10)
    rw [h10] at this
    exact rep_v this
  have sz8 : a8.tmps.size = 73 := hS8.size
  have df8 : a8.defers = w0.ds := hS8.defers
  have v9 : a8.tmps[9]? = some SL := hS8.pin 9 SL rfl
  have v32 : ∀ t v, t = 3 ∨ t = 2 → a.tmps[t]? = some v → a8.tmps[t]? = some v := fun t v h hv => hS8.pin t v (by
    show (if t = 9 then some SL else if t = 3 ∨ t = 2 then a.tmps[t]? else w0.pin t) = some v
    rw [if_neg (by omega), if_pos h]; exact hv)
  have hl2 : a.tmps[2]? = some (.int .u8 (by_.toNat : Nat)) := by
    have h2 : 2 < a.tmps.size := by omega
    rw [← t2]
    simp only [Act.eval, Array.getD_eq_getD_getElem?, Array.getElem?_eq_getElem h2, Option.getD_some]
  have v2 := v32 2 _ (.inr rfl) hl2
  have gr8 : Gr W6 w8 := ⟨hR8.gr.os, hR8.gr.tape, hR8.gr.output, hR8.gr.size, fun k hk => hR8.gr.block k hk id⟩
  have new8 : w8.heap[w.heap.size]? = some (.cells arr 5 (arr.size, arr.size + 1)) := by rw [gr8.block _ (by omega)]; exact new6
  have hk2 : k.toNat < arr.size := by omega
  -- one byte is written
  refine wp_seq (wp_region_list ?_)
  refine ls_value (v := SL) (w' := w8) (wnt_none gb1 _) (by simp [execOp, hb1, eval_of v9]) ?_
  rw [db1]
  generalize hx1 : a8.put (some 51) SL = x1
  have s1 : x1.tmps.size = 73 := by rw [← hx1, pu_size, sz8]
  have r1 : x1.tmps[51]? = some SL := by rw [← hx1]; exact put_same (by rw [sz8]; decide)
  have q1 : ∀ t, t ≠ 51 → x1.tmps[t]? = a8.tmps[t]? := fun t h => by rw [← hx1, put_other (Ne.symm h)]
  have l10 : a8.tmps[10]? = some (.int .i64 k) := by
    have h2 : 10 < a8.tmps.size := by omega
    rw [← v10]
    simp only [Act.eval, Array.getD_eq_getD_getElem?, Array.getElem?_eq_getElem h2, Option.getD_some]
  refine ls_value (v := .int .i64 k) (w' := w8) (wnt_none gb2 _) (by simp [execOp, hb2, eval_of ((q1 10 (by decide)).trans l10)]) ?_
  rw [db2]
  generalize hx2 : x1.put (some 52) (.int .i64 k) = x2
  have s2 : x2.tmps.size = 73 := by rw [← hx2, pu_size, s1]
  have r2 : x2.tmps[52]? = some (.int .i64 k) := by rw [← hx2]; exact put_same (by rw [s1]; decide)
  have q2 : ∀ t, t ≠ 52 → x2.tmps[t]? = x1.tmps[t]? := fun t h => by rw [← hx2, put_other (Ne.symm h)]
  refine ls_value (v := .int .u8 (by_.toNat : Nat)) (w' := w8) (wnt_none gb3 _) (by simp [execOp, hb3, eval_of ((q2 2 (by decide)).trans ((q1 2 (by decide)).trans v2))]) ?_
  rw [db3]
  generalize hx3 : x2.put (some 53) (.int .u8 (by_.toNat : Nat)) = x3
  have s3 : x3.tmps.size = 73 := by rw [← hx3, pu_size, s2]
  have r3 : x3.tmps[53]? = some (.int .u8 (by_.toNat : Nat)) := by rw [← hx3]; exact put_same (by rw [s2]; decide)
  have q3 : ∀ t, t ≠ 53 → x3.tmps[t]? = x2.tmps[t]? := fun t h => by rw [← hx3, put_other (Ne.symm h)]
  have y51 := eval_of ((q3 51 (by decide)).trans ((q2 51 (by decide)).trans r1))
  have y52 := eval_of ((q3 52 (by decide)).trans r2)
  have hidx : (Instr.indexAt 42 SL (.int .i64 k)).run Tryd.prog w8 = .ok (.pointer (some ⟨w.heap.size, k.toNat, none⟩)) w8 := by
    rw [← hSL]
    have h1 : k < s.size := by omega
    simp only [Instr.indexAt, Sem.run_bind, run_underlying Tryd.underlying42, Result.andThen_ok, asIntOf, Sem.run_pure, hk0, h1, and_self, if_true, t_size tyT_ok (show tyT 5 = some _ from rfl), Addr.add_lit]
    rw [show 0 + k.toNat * 1 = k.toNat by omega]
  refine ls_value (v := .pointer (some ⟨w.heap.size, k.toNat, none⟩)) (w' := w8) (wnt_none gb4 _) (by simp only [execOp, hb4, y51, y52, Sem.run_bind, hidx, Result.andThen_ok, Sem.run_pure]) ?_
  rw [db4]
  generalize hx4 : x3.put (some 54) (.pointer (some ⟨w.heap.size, k.toNat, none⟩)) = x4
  have s4 : x4.tmps.size = 73 := by rw [← hx4, pu_size, s3]
  have r4 : x4.tmps[54]? = some (.pointer (some ⟨w.heap.size, k.toNat, none⟩)) := by rw [← hx4]; exact put_same (by rw [s3]; decide)
  have q4 : ∀ t, t ≠ 54 → x4.tmps[t]? = x3.tmps[t]? := fun t h => by rw [← hx4, put_other (Ne.symm h)]
  have z54 := eval_of r4
  have z53 := eval_of ((q4 53 (by decide)).trans r3)
  have cel : w8.cell? ⟨w.heap.size, k.toNat, none⟩ = some arr[k.toNat] := by
    unfold World.cell?
    simp only [new8, Option.isSome_none, Bool.false_eq_true, if_false]
    exact Array.getElem?_eq_getElem hk2
  have fro : w8.frozen? ⟨w.heap.size, k.toNat, none⟩ = false := by
    unfold World.frozen?
    simp only [new8]
    simp only [Bool.and_eq_false_iff, decide_eq_false_iff_not]
    left; omega
  have hst : (execOp x4.eval b5).run Tryd.prog w8 = .ok .skip (w8.setCell ⟨w.heap.size, k.toNat, none⟩ (.int .u8 (by_.toNat : Nat))) := by
    simp only [execOp, hb5, z54, z53, Instr.storeAt, Instr.sureAddr, storeVar, Sem.run_bind, Sem.run_pure, Result.andThen_ok, t_size tyT_ok (show tyT 5 = some _ from rfl)]
    simp [go_sem, stored, cel, fro]
  refine ls_none (w' := w8.setCell ⟨w.heap.size, k.toNat, none⟩ (.int .u8 (by_.toNat : Nat))) (wnt_none gb5 _) hst ?_
  rw [db5]
  change Code.wp Tryd.prog rest _ x4 _
  generalize hW : w8.setCell ⟨w.heap.size, k.toNat, none⟩ (.int .u8 (by_.toNat : Nat)) = W10
  have newW : W10.heap[w.heap.size]? = some (.cells (arr.setIfInBounds k.toNat (.int .u8 (by_.toNat : Nat))) 5 (arr.size, arr.size + 1)) := by
    rw [← hW]
    unfold World.setCell
    have hlt := lt_of_heap new8
    simp only [Array.getElem?_modify, if_true, new8, Option.map_some, Option.isSome_none, Bool.false_eq_true, if_false]
  have oldW : ∀ b, b ≠ w.heap.size → W10.heap[b]? = w8.heap[b]? := fun b hb => by
    rw [← hW]
    exact Below.heap_setCell _ _ _ _ hb
  have grW : Gr w W10 := by
    refine ⟨?_, ?_, ?_, ?_, fun b hb => ?_⟩
    · rw [← hW]; exact gr8.os.trans gr6.os
    · rw [← hW]; exact gr8.tape.trans gr6.tape
    · rw [← hW]; exact gr8.output.trans gr6.output
    · rw [← hW]
      have : (w8.setCell ⟨w.heap.size, k.toNat, none⟩ (.int .u8 (by_.toNat : Nat))).heap.size = w8.heap.size := by simp [World.setCell]
      rw [this]
      have := gr8.size
      omega
    · rw [oldW b (by omega), gr8.block b (by omega), gr6.block b hb]
  refine hrest hM w0 B hG hB hpk.2.2.2.2 x4 W10 ⟨?_, s4, fun t v h => ?_, ι, hR.grow grW, repE_spread s4 fun t v ht => ?_⟩
  · rw [← hx4, pu_defers, ← hx3, pu_defers, ← hx2, pu_defers, ← hx1, pu_defers]; exact df8
  · have n1 : t ≠ 51 := fun e => by have := hpk.2.2.2.1 b1 (by simp) 51 db1; rw [e, this] at h; cases h
    have n2 : t ≠ 52 := fun e => by have := hpk.2.2.2.1 b2 (by simp) 52 db2; rw [e, this] at h; cases h
    have n3 : t ≠ 53 := fun e => by have := hpk.2.2.2.1 b3 (by simp) 53 db3; rw [e, this] at h; cases h
    have n4 : t ≠ 54 := fun e => by have := hpk.2.2.2.1 b4 (by simp) 54 db4; rw [e, this] at h; cases h
    rw [q4 t n4, q3 t n3, q2 t n2, q1 t n1]
    exact hS8.pin t v (hpin' t v h)
  · simp only [lookE]
    split
    · rename_i e
      have e' := Nat.eq_of_beq_eq_true e
      subst e'
      rw [q4 3 (by decide), q3 3 (by decide), q2 3 (by decide), q1 3 (by decide)] at ht
      have hl3 : a.tmps[3]? = some (a.eval (.tmp 3)) := by
        have h2 : 3 < a.tmps.size := by omega
        simp only [Act.eval, Array.getD_eq_getD_getElem?, Array.getElem?_eq_getElem h2, Option.getD_some]
      rw [v32 3 _ (.inl rfl) hl3] at ht
      cases ht
      exact e3.keep0 (Keeps.gr grW)
    · split
      · rename_i e
        have e' := Nat.eq_of_beq_eq_true e
        subst e'
        rw [q4 9 (by decide), q3 9 (by decide), q2 9 (by decide), q1 9 (by decide), v9] at ht
        cases ht
        rw [← hSL]
        have hsz2 : (ofL (s.data.toList.set k.toNat by_)).size = s.size := by rw [ofL_size, List.length_set]; rfl
        rw [← hsz2]
        refine .p _ _ (rep_bytes ⟨hBc, fun ho => ?_⟩ newW (by rw [hsz2]; exact hcs) fun j b hb => set_bytes hcells j b hb)
        have := hR.lt ho
        omega
      · exact .junk _
end Go.Proofs.YtlffpgjkhehdmaaDoor
