/- Own work: lexer.scan with the body of a range loop, and the function that Tokens returns. -/
import Derived.Test.YtnhbboknffppiaaDoorZLC2
import Derived.RangeFuncNested
import Derived.RangeFuncBound
import Derived.RangeFuncCalls
import Derived.RangeFuncLeaves
import Derived.Shelf.Abstract
import Derived.WalkKit
import Derived.OwnWalkIn
import Derived.TacticsInMore
import Derived.LoopNIn
import Derived.LoopIn
namespace Go.Proofs.YtnhbboknffppiaaDoor
open Go.RowKit Go.Shelf
attribute [local go_sem] Oper.semAt_some
set_option linter.unusedSimpArgs false
set_option linter.unusedVariables false

theorem room_any {F : Fence} (hd : F.depth = none) (k : Nat) : F.room k := fun d h => by rw [hd] at h; cases h
theorem round_any {F : Fence} (hd : F.depth = none) {m m' : Nat} {P : Program} {l : Nat} {f : FuncId} {tmps : Array Value} {assign body : Code} {w : World} {R : Ending → World → Prop}
    (h : RoundIn F m P l f tmps assign body w R) : RoundIn F m' P l f tmps assign body w R := ⟨h.1, fun c cs _ => h.2 c cs (room_any hd _)⟩
theorem yield_any {F : Fence} (hd : F.depth = none) {m m' : Nat} {P : Program} {l : Nat} {args : Array Value} {W : World} {R : Ending → World → Prop} (h : YieldAt F m P l args W R) : YieldAt F m' P l args W R := by
  obtain ⟨fn, tmps, assign, body, hy, hR⟩ := h
  exact ⟨fn, tmps, assign, body, hy, round_any hd hR⟩
theorem gr_grown {w w' : World} (h : Gr w w') : w.grownBy w' none := ⟨h.os, h.tape, h.output, h.size, fun k hk _ => h.block k hk⟩
theorem gr_alloc (w : World) (o : Obj) : Gr w (w.alloc o) := (Below.refl _ w).alloc (Nat.le_refl _) o
theorem repP_vals {w : World} {R : Nat → Prop} : ∀ (xs : List Value) (cs : List PV) (vs : List Value), cs = xs.map PV.v → cs.length = vs.length → (∀ (j : Nat) (a : PV) (v : Value), cs[j]? = some a → vs[j]? = some v → RepP w R a v) → vs = xs
  | [], _, [], _, _, _ => rfl
  | [], _, _ :: _, hc, h, _ => by subst hc; simp at h
  | _ :: _, _, [], hc, h, _ => by subst hc; simp at h
  | x :: xs, cs, v :: vs, hc, hl, h => by
    subst hc
    have h0 := h 0 (.v x) v rfl rfl
    have h1 : v = x := by cases h0; rfl
    rw [h1, repP_vals xs (xs.map .v) vs rfl (by simpa using hl) fun j a u ha hu => h (j + 1) a u (by simpa using ha) (by simpa using hu)]
/-- skip as a call -/
theorem skip_c (s : ByteArray) (i : Int) (r : Bs) (b : Bool) (h0 : 0 ≤ i) (h1 : i ≤ (s.size : Nat)) (hs : s.size ≤ 900000) (hR : skp (rst s i) = (r, b)) (W : World) (hG : GL W) :
    Calls Tryd.prog 34 #[.string s, .int .i64 i] W fun e W' => e = .returned (.tuple #[.int .i64 ((s.size : Nat) - (r.length : Nat)), .bool b]) ∧ Gr W W' :=
  ((skip_ret s i r b h0 h1 (by omega) hR).2 W (fun _ => False) [.string s, .int .i64 i] hG rfl (fun j a v ha hv => by
    match j, ha, hv with
    | 0, ha, hv => cases ha; cases hv; exact .v _
    | 1, ha, hv => cases ha; cases hv; exact .v _
    | j + 2, ha, hv => simp at hv)).mono fun e W' ⟨hg, v, he, hr⟩ => by
      cases hr with
      | tup cs vs hl hr =>
        have := repP_vals [.int .i64 ((s.size : Nat) - (r.length : Nat)), .bool b] _ vs rfl hl hr
        subst this
        exact ⟨he, hg⟩
theorem repP_tok {w : World} {R : Nat → Prop} {k a i e : Int} {t : ByteArray} {v : Value} (h : RepP w R (.tup [.agg [pI k, pS t, pI a], pI i, pI e]) v) : v = .tuple #[.agg #[.int .i64 k, .string t, .int .i64 a], .int .i64 i, .int .i64 e] := by
  cases h with
  | tup cs vs hl hr =>
    match vs, hl with
    | [v0, v1, v2], _ =>
      have h0 := hr 0 _ v0 rfl rfl
      have h1 := hr 1 _ v1 rfl rfl
      have h2 := hr 2 _ v2 rfl rfl
      cases h1
      cases h2
      cases h0 with
      | agg cs us hl2 hr2 =>
        have := repP_vals [.int .i64 k, .string t, .int .i64 a] _ us rfl hl2 hr2
        subst this
        rfl
theorem next_c (s : ByteArray) (a : Int) (h0 : 0 ≤ a) (h1 : a < (s.size : Nat)) (hs : s.size ≤ 900000) {k b i e : Int} {t : ByteArray} (hR : nextR s a = .tup [.agg [pI k, pS t, pI b], pI i, pI e]) (W : World) (hG : GL W) :
    Calls Tryd.prog 35 #[.string s, .int .i64 a] W fun e' W' => e' = .returned (.tuple #[.agg #[.int .i64 k, .string t, .int .i64 b], .int .i64 i, .int .i64 e]) ∧ Gr W W' :=
  ((next_ret s a h0 h1 hs).2 W (fun _ => False) [.string s, .int .i64 a] hG rfl (fun j a v ha hv => by
    match j, ha, hv with
    | 0, ha, hv => cases ha; cases hv; exact .v _
    | 1, ha, hv => cases ha; cases hv; exact .v _
    | j + 2, ha, hv => simp at hv)).mono fun e W' ⟨hg, hr⟩ => by
      rw [hR] at hr
      obtain ⟨v, he, hr⟩ := hr
      exact ⟨he.trans (congrArg _ (repP_tok hr)), hg⟩
/-- a token that is handed to the loop's body -/
structure TkV where
  k : Int
  t : ByteArray
  a : Int
def tkV (n : Int) (x : Tk) : TkV := ⟨x.k, bL x.t, n - (x.rem : Nat)⟩
def tkE (x : TkV) : Array Value := #[.agg #[.int .i64 x.k, .string x.t, .int .i64 x.a]]
set_option maxRecDepth 100000 in
set_option maxHeartbeats 4000000 in
theorem scan_y (n₀ : Nat) (s : ByteArray) (hs : s.size ≤ 900000) (TS : List Tk) (ER : Option (Nat × Int)) (hL : lexB s.data.toList = (TS, ER)) (l m : Nat) (J Jx : List TkV → World → Prop) (w0 W : World) (hG : GL w0) (hB0 : n₀ = w0.heap.size) (hB : Below n₀ w0 W) (hJ : AbidesFrom W.heap.size J)
    (hY : ∀ pre x W1, J pre W1 → pre.length < TS.length → YieldAt Fence.wide m Tryd.prog l (tkE x) W1 fun e W' =>
      (e = .returned (.bool true) ∧ J (pre ++ [x]) W' ∧ Below n₀ W1 W') ∨ (e = .returned (.bool false) ∧ Jx (pre ++ [x]) W')) (h0 : J [] W) :
    CallsIn Fence.wide 3 Tryd.prog 25 #[.string s, .func (.yield l) #[] #[]] W fun e W' => (∃ v, e = .returned v) ∧
      ((∃ ys, ys = TS.map (tkV (s.size : Nat)) ∧ J ys W') ∨ (∃ pre, pre <+: TS.map (tkV (s.size : Nat)) ∧ Jx pre W')) := by
  refine callsIn_of_wp Tryd.func25 rfl trivial ?_ rfl
  simp only [Tryd.ntmps25, List.size_toArray, List.length_cons, List.length_nil, Nat.reduceAdd, Nat.reduceSub, Array.replicate_succ, Array.replicate_zero, List.push_toArray, List.append_toArray, List.nil_append, List.cons_append]
  obtain ⟨n, hn⟩ : ∃ n : Int, ((s.size : Nat) : Int) = n := ⟨_, rfl⟩
  have hn9 : n ≤ 900000 := by omega
  have hbig : ¬ 1048576 < n := by omega
  gi_wp2
  gi_loopw [6] (fun i wr => ∃ (a : Int) (done : List Tk), i = .int .i64 a ∧ 0 ≤ a ∧ a ≤ n ∧ TS = done ++ (lexB (rst s a)).1 ∧ ER = (lexB (rst s a)).2 ∧ J (done.map (tkV n)) wr ∧ Below n₀ w0 wr)
    (fun i _ => (n - intOf i).toNat)
  case atStart => exact ⟨0, [], rfl, Int.le_refl _, by omega, by show TS = [] ++ (lexB s.data.toList).1; rw [hL]; rfl, by show ER = (lexB s.data.toList).2; rw [hL], h0, hB⟩
  case round =>
    obtain ⟨a, done, rfl, a0, a1, hTS, hER, hJs, hBr⟩ := hrel
    have hG0 : GL wr := by
      refine gl_gr w0 wr ?_ hG
      rw [hB0] at hBr
      exact hBr
    have hn0r : n₀ ≤ wr.heap.size := by rw [hB0]; exact hBr.size
    have hrl := rst_len s a
    obtain ⟨r, b, hrb⟩ : ∃ r b, skp (rst s a) = (r, b) := ⟨_, _, rfl⟩
    have hle := skp_le (rst s a)
    rw [hrb] at hle
    simp only at hle
    obtain ⟨v, hv⟩ := skp_suf (rst s a)
    rw [hrb] at hv
    simp only at hv
    obtain ⟨f, hf⟩ : ∃ x : Int, n - (r.length : Nat) = x := ⟨_, rfl⟩
    have hs1 := skip_c s a r b a0 (by omega) hs hrb wr hG0
    rw [hn, hf] at hs1
    have hlv : (rst s a).length = v.length + r.length := by rw [hv, List.length_append]
    have hrf : r = rst s f := by
      have := suf_rst a0 hv
      rw [show a + ((v.length : Nat) : Int) = f by omega] at this
      exact this
    have hat := skp_at _ r b hrb
    have hJg : ∀ (xs : List TkV) (A B : World), J xs A → Gr A B → J xs B := fun xs A B h hg => hJ xs A B none h (gr_grown hg) (fun r h => by cases h)
    cases b with
    | false =>
      have hx := lex_open uB repairL hrb
      change lexB (rst s a) = _ at hx
      rw [hx] at hTS hER
      simp only [List.append_nil] at hTS hER
      gi_wp2_with (refine ⟨trivial, ?_⟩; gi_at_call 34; refine (callsIn_wide.2 hs1).mono ?_; rintro e w1 ⟨rfl, hg1⟩)
      go_ret2
      exact ⟨⟨_, rfl⟩, .inl ⟨_, rfl, by rw [hTS, hn]; exact hJg _ _ _ hJs hg1⟩⟩
    | true =>
      rcases hat.2 rfl with hrn | ⟨c, r', hrc, hw, hk⟩
      · have hx := lex_end uB repairL (l := rst s a) (by rw [hrb, hrn])
        change lexB (rst s a) = _ at hx
        rw [hx] at hTS hER
        simp only [List.append_nil] at hTS hER
        have hfn : f = n := by rw [← hf, hrn]; show n - 0 = n; omega
        subst hfn
        gi_wp2_with (refine ⟨trivial, ?_⟩; gi_at_call 34; refine (callsIn_wide.2 hs1).mono ?_; rintro e w1 ⟨rfl, hg1⟩)
        go_ret2
        exact ⟨⟨_, rfl⟩, .inl ⟨_, rfl, by rw [hTS, hn]; exact hJg _ _ _ hJs hg1⟩⟩
      · have hr0 : 0 < r.length := by rw [hrc]; simp
        have hfn : ¬ f = n := by omega
        have hf0 : 0 ≤ f := by omega
        cases htok : tokL uB repairL r with
        | bad e =>
          have hx := lex_bad uB repairL hrb (by rw [hrc]; exact List.cons_ne_nil _ _) htok
          change lexB (rst s a) = _ at hx
          rw [hx] at hTS hER
          simp only [List.append_nil] at hTS hER
          have hnx := next_c s f hf0 (by omega) hs (nextR_bad (by rw [← hrf]; exact htok))
          have he0 := tok_bad_ne htok
          gi_wp2_with (first
            | (refine ⟨trivial, ?_⟩; gi_at_call 34; refine (callsIn_wide.2 hs1).mono ?_; rintro e w1 ⟨rfl, hg1⟩)
            | (refine ⟨trivial, ?_⟩; gi_at_call 35; refine (callsIn_wide.2 (hnx _ (gl_gr _ _ hg1 hG0))).mono ?_; rintro e w2 ⟨rfl, hg2⟩))
          go_ret2
          exact ⟨⟨_, rfl⟩, .inl ⟨_, rfl, by rw [hTS, hn]; exact hJg _ _ _ (hJg _ _ _ (hJg _ _ _ hJs hg1) hg2) (gr_alloc _ _)⟩⟩
        | ok k t r2 =>
          have hx := lex_tok uB repairL hrb htok
          change lexB (rst s a) = (_ :: (lexB r2).1, (lexB r2).2) at hx
          rw [hx] at hTS hER
          simp only at hTS hER
          have hnx0 := nextR_ok (by rw [← hrf]; exact htok)
          unfold pTk at hnx0
          rw [hn] at hnx0
          have hlt := tok_lt uB repairL htok
          obtain ⟨w, hw1, hw2, _⟩ := tokL_app uB repairL htok
          obtain ⟨e1, he1⟩ : ∃ x : Int, n - (r2.length : Nat) = x := ⟨_, rfl⟩
          rw [he1] at hnx0
          have hrf2 : rst s f = w ++ r2 := by rw [← hrf, hw2]
          have hrl2 := congrArg List.length hw2
          rw [List.length_append] at hrl2
          have hr2 : r2 = rst s e1 := by
            have := suf_rst hf0 hrf2
            rw [show f + ((w.length : Nat) : Int) = e1 by omega] at this
            exact this
          obtain ⟨T, hT⟩ : ∃ x, bL t = x := ⟨_, rfl⟩
          rw [hT] at hnx0
          have hnx := next_c s f hf0 (by omega) hs hnx0
          have hxV : tkV n ⟨k, t, r.length⟩ = ⟨k, T, f⟩ := by unfold tkV; rw [hT, hf]
          gi_wp2_with (first
            | (refine ⟨trivial, ?_⟩; gi_at_call 34; refine (callsIn_wide.2 hs1).mono ?_; rintro e w1 ⟨rfl, hg1⟩)
            | (refine ⟨trivial, ?_⟩; gi_at_call 35; refine (callsIn_wide.2 (hnx _ (gl_gr _ _ hg1 hG0))).mono ?_; rintro e w2 ⟨rfl, hg2⟩))
          have hJ3 := hJg _ _ _ (hJg _ _ _ (hJg _ _ _ hJs hg1) hg2) (gr_alloc w2 (Obj.cells #[Value.int IntKind.i64 k, Value.string T, Value.int IntKind.i64 f] 30))
          obtain ⟨fn, tmps, assign, body, hy, hR⟩ := yield_any (m' := 2) rfl (hY _ ⟨k, T, f⟩ _ hJ3 (by rw [List.length_map, hTS, List.length_append, List.length_cons]; omega))
          dsimp only [tkE] at hy
          rw [hy]
          gi_wp2
          have hap : done.map (tkV n) ++ [(⟨k, T, f⟩ : TkV)] = (done ++ [(⟨k, t, r.length⟩ : Tk)]).map (tkV n) := by rw [List.map_append, ← hxV]; rfl
          have hTS2 : TS = (done ++ [(⟨k, t, r.length⟩ : Tk)]) ++ (lexB (rst s e1)).1 := by rw [hTS, ← hr2]; simp
          refine hR.mono ?_
          rintro e W3 (⟨rfl, hJ4, hk4⟩ | ⟨rfl, hJx4⟩)
          · gi_wp2
            go_roundw
            case rel =>
              refine ⟨e1, done ++ [⟨k, t, r.length⟩], rfl, by omega, by omega, hTS2, by rw [hER, ← hr2], by rw [← hap]; exact hJ4, ?_⟩
              have hb1 : Below n₀ wr (w2.alloc (Obj.cells #[Value.int IntKind.i64 k, Value.string T, Value.int IntKind.i64 f] 30)) :=
                ((hg1.mono hn0r).trans (hg2.mono (Nat.le_trans hn0r hg1.size))).trans ((gr_alloc w2 _).mono (Nat.le_trans hn0r (Nat.le_trans hg1.size hg2.size)))
              exact (hBr.trans hb1).trans hk4
            case measure => simp [intOf]; omega
          · gi_wp2
            go_ret2
            refine ⟨⟨_, rfl⟩, .inr ⟨_, ?_, hJx4⟩⟩
            have hpre := List.prefix_append ((done ++ [(⟨k, t, r.length⟩ : Tk)]).map (tkV n)) ((lexB (rst s e1)).1.map (tkV n))
            rw [← List.map_append] at hpre
            rw [hap, hn, hTS2]
            exact hpre
/-- what Tokens returns, called -/
theorem tokens_y (n₀ : Nat) (s : ByteArray) (hs : s.size ≤ 900000) (TS : List Tk) (ER : Option (Nat × Int)) (hL : lexB s.data.toList = (TS, ER)) (w0 w : World) (hG : GL w0) (hB0 : n₀ = w0.heap.size) (hB : Below n₀ w0 w) (hn0 : n₀ ≤ w.heap.size) (Bs : Nat) (hBs : Bs < w.heap.size) (hc : w.cell? ⟨Bs, 0, none⟩ = some (.string s)) :
    SeqStopsK Fence.wide 5 Tryd.prog 28 #[.pointer (some ⟨Bs, 0, none⟩)] tkE (Below n₀) (fun ys => ys = TS.map (tkV (s.size : Nat))) (fun pre => pre <+: TS.map (tkV (s.size : Nat))) TS.length w := fun l J Jx W hW hJ _ hY h0 => by
  have hc1 : W.cell? ⟨Bs, 0, none⟩ = some (.string s) := (hW.cell (p := ⟨Bs, 0, none⟩) hBs).trans hc
  have hsc := scan_y n₀ s hs TS ER hL l _ J Jx w0 W hG hB0 (hB.trans (hW.mono hn0)) hJ hY h0
  refine callsIn_of_wp Tryd.func28 rfl trivial ?_ rfl
  simp only [Tryd.ntmps28, List.size_toArray, List.length_cons, List.length_nil, Nat.reduceAdd, Nat.reduceSub, Array.replicate_succ, Array.replicate_zero, List.push_toArray, List.append_toArray, List.nil_append, List.cons_append]
  gi_wp2_with (refine ⟨trivial, ?_⟩; gi_at_call 25; refine (callsIn_wide.2 (callsIn_wide.1 hsc)).mono ?_; rintro e w1 ⟨⟨v, rfl⟩, hend⟩)
  go_end0
  exact ⟨⟨_, rfl⟩, hend⟩
end Go.Proofs.YtnhbboknffppiaaDoor
