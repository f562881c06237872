/- Own work: strconv.ParseInt as data; value.Number. -/
import Derived.Test.YtadgpchdlkiinaaDoorV8
import Derived.Test.YtadgpchdlkiinaaDoorShelfN
import Derived.Test.YtadgpchdlkiinaaDoorNumP
import Derived.Lib.AtoiErrMem
namespace Go.Proofs.YtadgpchdlkiinaaDoor
open Go.RowKit
set_option maxRecDepth 100000

theorem var_gr {P : Program} {w w' : World} {name : String} {cs : Array Value} (h : w.var? P name = some cs) (hb : Gr w w') : w'.var? P name = some cs := by
  unfold World.var? at *
  cases hg : P.globalNamed name with
  | none => simp [hg] at h
  | some g =>
    simp only [hg, Option.bind_some] at h ⊢
    have hlt : g < w.heap.size := by
      rcases Nat.lt_or_ge g w.heap.size with h' | h'
      · exact h'
      · rw [Array.getElem?_eq_none h'] at h; simp at h
    rw [hb.block g hlt]
    exact h
def ErrVar (w : World) (name : String) : Prop := ∃ (tp : TypeId) (p : Value), w.var? Tryd.prog name = some #[.iface tp p]
/-- the tables and the error variables of the library are laid -/
structure Good2 (w : World) : Prop where
  good : Good w
  syn : ErrVar w "strconv.ErrSyntax"
  rng : ErrVar w "strconv.ErrRange"
theorem good2_gr : ∀ w w', Gr w w' → Good2 w → Good2 w' := fun w w' hg h => ⟨good_gr w w' hg h.good, h.syn.imp fun _ h => h.imp fun _ h => var_gr h hg, h.rng.imp fun _ h => h.imp fun _ h => var_gr h hg⟩
abbrev R2 (f : FuncId) (l : List PV) (r : PV) : Prop := Ret Tryd.prog Good2 f l r
theorem up {f : FuncId} {l : List PV} {r : PV} (h : R f l r) : R2 f l r := ⟨h.1, fun w B args hG => h.2 w B args hG.good⟩
def parseR (s : ByteArray) : PV := match Lib.parseIntB 64 s.data.toList with
  | .ok v => .tup [pI v, .v .nilIface]
  | .range => .tup [pI (Lib.intSat 64 s.data.toList), .err]
  | _ => .tup [pI 0, .err]
theorem repP_pair {w : World} {R : Nat → Prop} {p q : PV} {u v : Value} (h1 : RepP w R p u) (h2 : RepP w R q v) : RepP w R (.tup [p, q]) (.tuple #[u, v]) := by
  refine RepP.tup [p, q] [u, v] rfl fun j x y hx hy => ?_
  rcases j with _ | _ | j
  · simp at hx hy; subst hx; subst hy; exact h1
  · simp at hx hy; subst hx; subst hy; exact h2
  · simp at hx
theorem parse_ret (s : ByteArray) (hs : s.size ≤ 2000000) : R2 63 [pS s, pI 10, pI 64] (parseR s) := by
  refine ret_v Tryd.func63 (by kernel_rfl) (by kernel_rfl) [.string s, .int .i64 10, .int .i64 64] _ fun w hG => ?_
  unfold parseR
  cases h : Lib.parseIntB 64 s.data.toList with
  | ok v => exact (Tryd.strconv_ParseInt_10_at64_ok s (by omega) v h w).mono fun e w' ⟨h1, h2⟩ => ⟨_, h1, by
      rcases h2 with rfl | ⟨t, rfl⟩
      · exact Gr.refl _
      · exact Lib.bytesWorld_below _ _ _, fun _ => repP_pair (.v _) (.v _)⟩
  | range =>
    obtain ⟨tp, p, hv⟩ := hG.rng
    exact (Tryd.strconv_ParseInt_10_at64_range_var s (by omega) h tp p w hv).mono fun e w' ⟨N, h1, _, _, h2⟩ => ⟨_, h1, h2, fun _ => repP_pair (.v _) (.err _ _)⟩
  | _ =>
    obtain ⟨tp, p, hv⟩ := hG.syn
    exact (Tryd.strconv_ParseInt_10_at64_syntax_var s (by omega) h tp p w hv).mono fun e w' ⟨N, h1, _, _, h2⟩ => ⟨_, h1, h2, fun _ => repP_pair (.v _) (.err _ _)⟩
/-- the integer with this text -/
def numE (s : ByteArray) : Int × Int := match Lib.parseIntB 64 s.data.toList with
  | .ok v => if itoaS v = s then (v, 0) else (0, 6)
  | _ => (0, 6)
theorem number_ret (s : ByteArray) (hs : s.size ≤ 2000000) : R2 40 [pS s] (.tup [pI (numE s).1, pI (numE s).2]) := by
  have hp := parse_ret s hs
  unfold parseR at hp
  unfold numE
  cases h : Lib.parseIntB 64 s.data.toList with
  | ok v =>
    rw [h] at hp
    simp only at hp
    have hb := Lib.parseIntB_bounds h
    have hf := up (formatInt_ret v (by have := hb.1; simp at this; omega) (by have := hb.2; simp at this; omega))
    have hfi : (⟨(Lib.itoa v).toArray⟩ : ByteArray) = itoaS v := rfl
    rw [hfi] at hf
    simp only
    cases he : decide (itoaS v = s) with
    | true =>
      rw [if_pos (of_decide_eq_true he)]
      generalize itoaS v = t at *
      refine ret_by tyT_ok good2_gr mixed (fun _ => 0) Tryd.func40 rfl (by kernel_rfl) (by kernel_rfl) rfl fun P G E hc hE => ?_
      replace hp := hc _ _ _ hp
      replace hf := hc _ _ _ hf
      have e1 : E.eq t s = true := by rw [hE]; exact he
      cbv
      repeat (first | (refine ⟨_, hp, ?_⟩; cbv) | (refine ⟨_, hf, ?_⟩; cbv) | (simp only [e1]; cbv) | simp only [e1])
    | false =>
      rw [if_neg (of_decide_eq_false he)]
      generalize itoaS v = t at *
      refine ret_by tyT_ok good2_gr mixed (fun _ => 0) Tryd.func40 rfl (by kernel_rfl) (by kernel_rfl) rfl fun P G E hc hE => ?_
      replace hp := hc _ _ _ hp
      replace hf := hc _ _ _ hf
      have e1 : E.eq t s = false := by rw [hE]; exact he
      cbv
      repeat (first | (refine ⟨_, hp, ?_⟩; cbv) | (refine ⟨_, hf, ?_⟩; cbv) | (simp only [e1]; cbv) | simp only [e1])
  | range =>
    rw [h] at hp
    simp only at hp
    generalize Lib.intSat 64 s.data.toList = z at *
    refine ret_by tyT_ok good2_gr mixed (fun _ => 0) Tryd.func40 rfl (by kernel_rfl) (by kernel_rfl) rfl fun P G E hc hE => ?_
    replace hp := hc _ _ _ hp
    cbv
    repeat (first | (refine ⟨_, hp, ?_⟩; cbv))
  | _ =>
    rw [h] at hp
    simp only at hp
    refine ret_by tyT_ok good2_gr mixed (fun _ => 0) Tryd.func40 rfl (by kernel_rfl) (by kernel_rfl) rfl fun P G E hc hE => ?_
    replace hp := hc _ _ _ hp
    cbv
    repeat (first | (refine ⟨_, hp, ?_⟩; cbv))
theorem numE_itoa (n : Int) (h0 : -9223372036854775808 ≤ n) (h1 : n ≤ 9223372036854775807) : numE (itoaS n) = (n, 0) := by
  have h : Lib.parseIntB 64 (itoaS n).data.toList = .ok n := by
    have : (itoaS n).data.toList = Lib.itoa n := by unfold itoaS; simp
    rw [this]; exact parse_itoa n h0 h1
  unfold numE
  rw [h]
  simp
theorem numE_none (s : ByteArray) (h : ∀ n : Int, -9223372036854775808 ≤ n → n ≤ 9223372036854775807 → itoaS n ≠ s) : numE s = (0, 6) := by
  unfold numE
  cases hp : Lib.parseIntB 64 s.data.toList with
  | ok v =>
    have hb := Lib.parseIntB_bounds hp
    simp only
    rw [if_neg (h v (by have := hb.1; simp at this; omega) (by have := hb.2; simp at this; omega))]
  | _ => rfl
end Go.Proofs.YtadgpchdlkiinaaDoor
