/- Own work: the library functions that Parse calls, as data. -/
import Derived.Test.YtjefbgfohijaoaaGreatDoorWBP1
import Derived.Test.YtjefbgfohijaoaaGreatDoorWPR
namespace Go.Proofs.YtjefbgfohijaoaaGreatDoor
open Go.RowKit
set_option maxRecDepth 100000
set_option linter.unusedSimpArgs false
def atoiE (s : ByteArray) : PV := match Lib.atoiAll s.data.toList with
 | .ok _ => .v .nilIface
 | _ => .err
def pintE (s : ByteArray) : PV := match Lib.parseIntB 64 s.data.toList with
 | .ok _ => .v .nilIface
 | _ => .err
theorem world_gr {w w' : World} (h : w' = w \/ ∃ t, w' = Lib.bytesWorld w 5 t) : Gr w w' := by
 rcases h with rfl | ⟨t, rfl⟩
 ·exact Gr.refl _
 ·exact Lib.bytesWorld_below _ _ _
theorem atoi_ret (s : ByteArray) (hs : s.size <= 2000000) : RZ 48 [pS s] (.tup [pI (atoiV s), atoiE s]) := by
 refine ret_v Tryz.func48 (by kernel_rfl) (by kernel_rfl) [.string s] _ fun w hG => ?_
 unfold atoiV atoiE
 cases h : Lib.atoiAll s.data.toList with
 | ok v => exact (Tryz.strconv_Atoi_ok s (by omega) v h w).mono fun e w' ⟨h1, h2⟩ => ⟨_, h1, world_gr h2, fun _ => repP_pair (.v _) (.v _)⟩
 | range =>
  obtain ⟨tp, p, hv⟩ := hG.gl.rng
  exact (Tryz.strconv_Atoi_range_var s (by omega) h tp p w hv).mono fun e w' ⟨N, h1, _, _, h2⟩ => ⟨_, h1, h2, fun _ => repP_pair (.v _) (.err _ _)⟩
 | _ =>
  obtain ⟨tp, p, hv⟩ := hG.gl.syn
  exact (Tryz.strconv_Atoi_syntax_var s (by omega) h tp p w hv).mono fun e w' ⟨N, h1, _, _, h2⟩ => ⟨_, h1, h2, fun _ => repP_pair (.v _) (.err _ _)⟩
theorem pint_ret (s : ByteArray) (hs : s.size <= 2000000) : RZ 27 [pS s, pI 10, pI 64] (.tup [pI (pintV s), pintE s]) := by
 refine ret_v Tryz.func27 (by kernel_rfl) (by kernel_rfl) [.string s, .int .i64 10, .int .i64 64] _ fun w hG => ?_
 unfold pintV pintE
 cases h : Lib.parseIntB 64 s.data.toList with
 | ok v => exact (Tryz.strconv_ParseInt_10_at64_ok s (by omega) v h w).mono fun e w' ⟨h1, h2⟩ => ⟨_, h1, world_gr h2, fun _ => repP_pair (.v _) (.v _)⟩
 | range =>
  obtain ⟨tp, p, hv⟩ := hG.gl.rng
  exact (Tryz.strconv_ParseInt_10_at64_range_var s (by omega) h tp p w hv).mono fun e w' ⟨N, h1, _, _, h2⟩ => ⟨_, h1, h2, fun _ => repP_pair (.v _) (.err _ _)⟩
 | _ =>
  obtain ⟨tp, p, hv⟩ := hG.gl.syn
  exact (Tryz.strconv_ParseInt_10_at64_syntax_var s (by omega) h tp p w hv).mono fun e w' ⟨N, h1, _, _, h2⟩ => ⟨_, h1, h2, fun _ => repP_pair (.v _) (.err _ _)⟩
theorem trimPre_ret (s p : ByteArray) : RZ 25 [pS s, pS p] (pS (bL (Lib.trimPrefix s.data.toList p.data.toList))) :=
 ret_v Tryz.func25 (by kernel_rfl) (by kernel_rfl) [.string s, .string p] _ fun w _ => (Tryz.strings_TrimPrefix s p w).mono fun e w' ⟨h1, h2⟩ => ⟨_, h1, by subst h2; exact Gr.refl _, fun _ => .v _⟩
theorem trimSuf_ret (s p : ByteArray) (hs : s.size <= 9223372036854775807) : RZ 21 [pS s, pS p] (pS (bL (Lib.trimSuffix s.data.toList p.data.toList))) :=
 ret_v Tryz.func21 (by kernel_rfl) (by kernel_rfl) [.string s, .string p] _ fun w _ => (Tryz.strings_TrimSuffix s p w hs).mono fun e w' ⟨h1, h2⟩ => ⟨_, h1, by subst h2; exact Gr.refl _, fun _ => .v _⟩
theorem rep_strs {w : World} {R : Nat -> Prop} {xs : List ByteArray} {c cap : Nat} {arr : Array Value} {t : TypeId} {fr : Nat × Nat} (hR : R c) (hb : w.heap[c]? = some (.cells arr t fr)) (hcap : xs.length <= cap) (h : ∀ (j : Nat) (x : ByteArray), xs[j]? = some x -> arr[j]? = some (.string x)) : RepP w R (.ro 1 (pSs xs)) (.slice (some ⟨c, 0, none⟩) xs.length cap) := by
 have hl : (pSs xs).length = xs.length := by unfold pSs; rw [List.length_map]
 have hrow : ∀ (q : Nat) (row : List PV), (pSs xs)[q]? = some row -> ∃ b, xs[q]? = some b /\ row = [pS b] := fun q row hq => by
  unfold pSs at hq
  rw [List.getElem?_map] at hq
  cases hn : xs[q]? with
  | none => rw [hn] at hq; cases hq
  | some n => rw [hn] at hq; cases hq; exact ⟨n, rfl, rfl⟩
 have hcell : ∀ (q j : Nat) (row : List PV) (a : PV), (pSs xs)[q]? = some row -> row[j]? = some a -> ∃ b, xs[q]? = some b /\ j = 0 /\ a = pS b := fun q j row a hq ha => by
  obtain ⟨n, hn, rfl⟩ := hrow q row hq
  cases j with
  | zero => simp at ha; exact ⟨n, hn, rfl, ha.symm⟩
  | succ j => simp at ha
 have := RepP.ro (w := w) (R := R) 1 (pSs xs) c 0 cap (fun q _ => .string ((xs[q]?).getD ⟨#[]⟩)) hR (lt_of_heap hb) (by rw [hl]; exact hcap)
  (fun q row hq => by obtain ⟨n, _, rfl⟩ := hrow q row hq; rfl)
  (fun q j row a hq ha => by
   obtain ⟨n, hn, rfl, rfl⟩ := hcell q j row a hq ha
   refine ⟨?_, rfl⟩
   unfold World.cell?
   simp only [hb, Option.isSome_none, Bool.false_eq_true, if_false]
   rw [show 0 + (q * 1 + 0) = q by omega, h q n hn, hn, Option.getD_some])
  (fun q j row a hq ha => by
   obtain ⟨n, hn, rfl, rfl⟩ := hcell q j row a hq ha
   rw [hn, Option.getD_some]
   exact .v _)
 rw [hl] at this
 exact this
theorem alloc_gr (w : World) (o : Obj) : Gr w (w.alloc o) := ⟨rfl, rfl, rfl, by show w.heap.size <= (w.heap.push o).size; rw [Array.size_push]; omega, fun k hk => by
 show (w.heap.push o)[k]? = _
 rw [Array.getElem?_push, if_neg (by omega)]⟩
theorem alloc_new (w : World) (o : Obj) : (w.alloc o).heap[w.heap.size]? = some o := by
 show (w.heap.push o)[w.heap.size]? = _
 simp
theorem split_ret (s sep : ByteArray) (hs : s.size <= 1000000) (h1 : 1 <= sep.size) : RZ 20 [pS s, pS sep] (.ro 1 (pSs (splS sep s))) :=
 enters2 (enters Tryz.func20 (by kernel_rfl) (by kernel_rfl)) fun w B v u hG hv hu => by
  have := repP_str hv
  subst this
  have := repP_str hu
  subst this
  obtain ⟨m, hm⟩ := hG.gl.ml
  refine (Tryz.strings_Split s sep m w (by omega) hm h1).mono fun e w' ⟨h2, h3⟩ => ?_
  subst h2 h3
  have hl := Lib.splitB_all sep h1 0 _ s rfl
  refine ⟨alloc_gr _ _, .ret ?_⟩
  rw [<-hl]
  refine rep_strs (.inr (Nat.le_refl _)) (alloc_new w _) (Nat.le_refl _) fun j x hx => ?_
  unfold splS at hx
  rw [List.getElem?_toArray, List.getElem?_map, hx]
  rfl
theorem splitN_ret (s sep : ByteArray) (n : Nat) (hs : s.size <= 1000000) (h1 : 1 <= sep.size) (h2 : 1 <= n) (h3 : n <= 1000000) : RZ 22 [pS s, pS sep, pI (n : Int)] (.ro 1 (pSs (splN n sep s))) :=
 ⟨enters Tryz.func22 (by kernel_rfl) (by kernel_rfl), fun w B args hG hl hr => by
  have := args_v (w := w) (B := B) [.string s, .string sep, .int .i64 n] args hl hr
  subst this
  obtain ⟨m, hm⟩ := hG.gl.ml
  refine (Tryz.strings_SplitN s sep n m w (by omega) hm h1 h2 (by omega)).mono fun e w' ⟨h4, h5⟩ => ?_
  subst h4 h5
  have hle := Lib.splitB_length_le sep 0 (min n (s.size + 1) - 1) s
  refine ⟨alloc_gr _ _, .ret ?_⟩
  refine rep_strs (.inr (Nat.le_refl _)) (alloc_new w _) (by unfold splN; omega) fun j x hx => ?_
  unfold Lib.cellsOf
  have hj : j < (splN n sep s).length := (List.getElem?_eq_some_iff.1 hx).1
  unfold splN at hj hx
  rw [List.getElem?_toArray, List.getElem?_append_left (by rw [List.length_map]; exact hj), List.getElem?_map, hx]
  rfl⟩
section
variable {w : World} {R : Nat -> Prop}
def fnVal (r : FnRef) : Value := .agg #[.string r.f.name, .int .i64 r.f.kind, .int .i64 r.f.params, .int .i64 r.f.locals, .slice r.A r.f.code.length r.ca, .slice r.B r.f.consts.length r.cb, .slice r.C r.f.hdls.length r.cc]
theorem fn_of {f : Fn} {v : Value} (h : RepP w R (.agg (pFn f)) v) : ∃ r : FnRef, v = fnVal r /\ r.f = f /\ FnAt w r.A r.B r.C r.f := by
 obtain ⟨l, hl⟩ : ∃ l : List PV, pFn f = l := ⟨_, rfl⟩
 rw [hl] at h
 cases h with
 | agg _ vs hlen hr =>
  subst hl
  match vs, hlen with
  | [v0, v1, v2, v3, v4, v5, v6], _ =>
   have e0 : v0 = .string f.name := repPv (hr 0 _ v0 rfl rfl)
   have e1 : v1 = .int .i64 f.kind := repPv (hr 1 _ v1 rfl rfl)
   have e2 : v2 = .int .i64 f.params := repPv (hr 2 _ v2 rfl rfl)
   have e3 : v3 = .int .i64 f.locals := repPv (hr 3 _ v3 rfl rfl)
   obtain ⟨A4, k4, e4, s4⟩ := sl_of pIns_v (hr 4 _ v4 rfl rfl)
   obtain ⟨A5, k5, e5, s5⟩ := sl_of pCst_v (hr 5 _ v5 rfl rfl)
   obtain ⟨A6, k6, e6, s6⟩ := sl_of pHdl_v (hr 6 _ v6 rfl rfl)
   exact ⟨⟨f, A4, A5, A6, k4, k5, k6⟩, by subst e0 e1 e2 e3 e4 e5 e6; rfl, rfl, ⟨s4, s5, s6⟩⟩
end
theorem wf_of {r : FnRef} (h : FnSz r.f) : FnWf r := ⟨h.nm, h.l1, h.l2, h.l3, h.cs⟩
theorem formed1_ret (f : Fn) (hs : FnSz f) (n : Int) (h0 : 0 <= n) (h1 : n <= 1000000) : RZ 29 [.agg (pFn f), pI n] (pB (formedB f n)) :=
 tZ (enters2 (enters Tryz.func29 (by kernel_rfl) (by kernel_rfl)) fun w B v u hG hv hu => by
  obtain ⟨r, rfl, rfl, hF⟩ := fn_of hv
  have := repPv hu
  subst this
  exact (formed_eq r n w _ rfl hG hF (wf_of hs) h0 h1).mono fun e w' ⟨h1, h2⟩ => ⟨h2, by rw [h1]; exact .ret (.v _)⟩)
theorem rformed1_ret (f : Fn) (hs : FnSz f) (n : Int) (h0 : 0 <= n) (h1 : n <= 1000000) : RZ 12 [.agg (pFn f), pI n] (pB (formedB f n)) :=
 tZ (enters2 (enters Tryz.func12 (by kernel_rfl) (by kernel_rfl)) fun w B v u hG hv hu => by
  obtain ⟨r, rfl, rfl, hF⟩ := fn_of hv
  have := repPv hu
  subst this
  exact (rformed_eq r n w _ rfl hF (wf_of hs) h0 h1).mono fun e w' ⟨h1, h2⟩ => ⟨h2, by rw [h1]; exact .ret (.v _)⟩)
end Go.Proofs.YtjefbgfohijaoaaGreatDoor
