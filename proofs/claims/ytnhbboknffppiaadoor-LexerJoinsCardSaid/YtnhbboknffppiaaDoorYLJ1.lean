/- Own work: what both Joins do, plain; strings.Join; the reference's Written. -/
import Derived.Test.YtnhbboknffppiaaDoorYLQ2
import Derived.Test.YtnhbboknffppiaaDoorYLL6
import Derived.Test.YtnhbboknffppiaaDoorYLA14
namespace Go.Proofs.YtnhbboknffppiaaDoor
open Go.RowKit
set_option maxRecDepth 100000
set_option linter.unusedSimpArgs false

/-- a token of a list that is to be joined -/
structure TJ where
  k : Int
  t : ByteArray
  a : Int
def tjRow (x : TJ) : List PV := [pI x.k, pS x.t, pI x.a]
def tjRows (L : List TJ) : List (List PV) := L.map tjRow
theorem tjRows_at {L : List TJ} {i : Nat} {x : TJ} (h : L[i]? = some x) : (tjRows L)[i]? = some (tjRow x) := by unfold tjRows; rw [List.getElem?_map, h]; rfl
theorem tjRows_len (L : List TJ) : (tjRows L).length = L.length := List.length_map ..
/-- how a token is written -/
def wr (x : TJ) : ByteArray := if x.k = 4 then bL (quo (repairL x.t.data.toList)) else x.t
def okT (x : TJ) : Bool := match lexB (wr x).data.toList with
  | ([y], none) => decide (y.k = x.k) && decide (bL y.t = x.t)
  | _ => false
def joinW (L : List TJ) : Bs := joinB (L.map fun x => (wr x).data.toList)
def joinR (L : List TJ) : PV := if L.all okT then .tup [pS (bL (joinW L)), pI 0] else .tup [pS ⟨#[]⟩, pI 3]
theorem wr_size {x : TJ} (h : x.t.size ≤ 60) : (wr x).size ≤ 1000 := by
  unfold wr
  split
  · show (quo (repairL x.t.data.toList)).length ≤ 1000
    have h1 := quo_len (repairL x.t.data.toList)
    have h2 := repairL_size x.t.data.toList
    have h3 : x.t.data.toList.length = x.t.size := rfl
    omega
  · omega
theorem joinB_snoc (w : Bs) : ∀ (l : List Bs), joinB (l ++ [w]) = if l = [] then w else joinB l ++ 32 :: w
  | [] => rfl
  | [x] => rfl
  | x :: y :: l => by
    have ih := joinB_snoc w (y :: l)
    rw [if_neg (List.cons_ne_nil _ _)] at ih ⊢
    show x ++ 32 :: joinB ((y :: l) ++ [w]) = (x ++ 32 :: joinB (y :: l)) ++ 32 :: w
    rw [ih]
    simp
theorem joinB_inter : ∀ (l : List Bs), [32].intercalate l = joinB l
  | [] => rfl
  | [x] => by simp [List.intercalate, joinB]
  | x :: y :: l => by
    have ih := joinB_inter (y :: l)
    unfold List.intercalate at ih ⊢
    rw [List.intersperse_cons_cons]
    show x ++ ([32] ++ (List.intersperse [32] (y :: l)).flatten) = x ++ 32 :: joinB (y :: l)
    rw [ih]
    rfl
theorem joinB_len (b : Nat) : ∀ (l : List Bs), (∀ x ∈ l, x.length ≤ b) → (joinB l).length ≤ l.length * (b + 1)
  | [], _ => Nat.zero_le _
  | [x], h => by
    have := h x (List.mem_cons_self ..)
    show x.length ≤ 1 * (b + 1)
    omega
  | x :: y :: l, h => by
    have h1 := h x (List.mem_cons_self ..)
    have ih := joinB_len b (y :: l) fun z hz => h z (List.mem_cons_of_mem _ hz)
    show (x ++ 32 :: joinB (y :: l)).length ≤ (l.length + 2) * (b + 1)
    rw [List.length_append, List.length_cons]
    have e : (l.length + 2) * (b + 1) = (y :: l).length * (b + 1) + (b + 1) := by rw [List.length_cons, ← Nat.succ_mul]
    omega
theorem joinW_len {L : List TJ} (h : ∀ x ∈ L, x.t.size ≤ 60) : (joinW L).length ≤ L.length * 1001 := by
  have := joinB_len 1000 (L.map fun x => (wr x).data.toList) (fun w hw => by
    obtain ⟨x, hx, rfl⟩ := List.mem_map.1 hw
    exact wr_size (h x hx))
  rw [List.length_map] at this
  exact this
theorem joinW_next {L : List TJ} {i : Nat} {x : TJ} (h : L[i]? = some x) : joinW (L.take (i + 1)) = if i = 0 then (wr x).data.toList else joinW (L.take i) ++ 32 :: (wr x).data.toList := by
  unfold joinW
  have hl := (List.getElem?_eq_some_iff.1 h).1
  rw [List.take_add_one, h, Option.toList_some, List.map_append]
  show joinB (_ ++ [(wr x).data.toList]) = _
  rw [joinB_snoc]
  by_cases h0 : i = 0
  · subst h0; rfl
  · rw [if_neg h0, if_neg fun e => by
      have := congrArg List.length e
      rw [List.length_map, List.length_take, List.length_nil] at this
      omega]
/-- what a token that is joined is -/
theorem okT_one {x : TJ} (h : okT x = true) : One uB repairL (wr x).data.toList x.k x.t.data.toList := by
  unfold okT at h
  by_cases hk : x.k = 4
  · have hw : (wr x).data.toList = quo (repairL x.t.data.toList) := by unfold wr; rw [if_pos hk]; unfold bL; simp
    rw [hw] at h ⊢
    have h1 := tok_quo uB repairL uB_low (repairL x.t.data.toList) []
    rw [List.append_nil] at h1
    have h2 := lex_quo uB repairL uB_low (repairL x.t.data.toList)
    rw [show lexB (quo (repairL x.t.data.toList)) = _ from h2] at h
    simp only [Bool.and_eq_true, decide_eq_true_eq] at h
    have h3 : repairL (repairL x.t.data.toList) = x.t.data.toList := by
      have h4 := congrArg (fun y : ByteArray => y.data.toList) h.2
      simp only [bL] at h4
      simpa using h4
    rw [h3] at h1
    rw [hk]
    exact ⟨h1.1, h1.2⟩
  · have hw : wr x = x.t := by unfold wr; rw [if_neg hk]
    rw [hw] at h ⊢
    obtain ⟨ts, er, hb⟩ : ∃ ts er, lexB x.t.data.toList = (ts, er) := ⟨_, _, rfl⟩
    rw [hb] at h
    match ts, er, h with
    | [y], none, h =>
      simp only [Bool.and_eq_true, decide_eq_true_eq] at h
      obtain ⟨k, t, m⟩ := y
      simp only at h
      have h3 : t = x.t.data.toList := by rw [← h.2]; unfold bL; simp
      rw [h.1, h3] at hb
      exact one_of uB repairL hb hk
theorem enters2 {P : Program} {G : World → Prop} {f : FuncId} {a b : PV} {r : PV} (he : ∀ (args : Array Value) (w : World), (callFunc f args).run P w = .ok (.enter f args) w)
    (h : ∀ (w : World) (B : Nat → Prop) (v u : Value), G w → RepP w B a v → RepP w B b u → Calls P f #[v, u] w fun e w' => Gr w w' ∧ Ends w' (fun b => B b ∨ w.heap.size ≤ b) r e) : Ret P G f [a, b] r :=
  ⟨he, fun w B args hG hl hr => by
    match args, hl with
    | [v, u], _ => exact h w B v u hG (hr 0 a v rfl rfl) (hr 1 b u rfl rfl)⟩
theorem repP_str {w : World} {R : Nat → Prop} {s : ByteArray} {v : Value} (h : RepP w R (pS s) v) : v = .string s := by cases h; rfl
theorem below_gr0 {w w' : World} (h : Below w.heap.size w w') : Gr w w' := h
theorem sjoin_ret (xs : List ByteArray) (sep : ByteArray) (h1 : xs.length ≤ 1000) (h2 : (Lib.join (xs.map (·.data.toList)) sep.data.toList).length ≤ 1000000) : RL 32 [.ro 1 (pSs xs), pS sep] (pS (bL (Lib.join (xs.map (·.data.toList)) sep.data.toList))) :=
  enters2 (enters Tryd.func32 (by kernel_rfl) (by kernel_rfl)) fun w B v u hG hv hu => by
    have := repP_str hu
    subst this
    have hpl : (pSs xs).length = xs.length := by unfold pSs; rw [List.length_map]
    obtain ⟨R, hR⟩ : ∃ y, pSs xs = y := ⟨_, rfl⟩
    rw [hR] at hv hpl
    cases hv with
    | ro0 s A cap =>
      have : xs = [] := List.eq_nil_of_length_eq_zero (by rw [← hpl]; rfl)
      subst this
      refine (Tryd.strings_Join_none A cap sep w).mono fun e w' ⟨h3, h4⟩ => ?_
      subst h3 h4
      exact ⟨Gr.refl _, .ret (.v _)⟩
    | ro s rows b o cap vs hRb hb hcap hs hc hr =>
      have hcell : ∀ (j : Nat) x, xs[j]? = some x → w.cell? ⟨b, o + j, none⟩ = some (.string x) := fun j x hx => by
        have hrow : R[j]? = some [pS x] := by rw [← hR]; unfold pSs; rw [List.getElem?_map, hx]; rfl
        have h3 := (hc j 0 [pS x] (pS x) hrow rfl).1
        have h4 := repP_str (hr j 0 [pS x] (pS x) hrow rfl)
        rw [h4] at h3
        rw [show o + (j * 1 + 0) = o + j by omega] at h3
        exact h3
      rw [hpl] at hcap ⊢
      exact (Tryd.strings_Join b o cap xs sep w hcell hb (by omega) hcap (by omega)).mono fun e w' ⟨h3, h4⟩ => by
        subst h3
        exact ⟨below_gr0 h4, .ret (.v _)⟩
theorem written_ret (x : TJ) (hs : x.t.size ≤ 60) : V0 33 [.agg [pI x.k, pS x.t, pI x.a]] (pS (wr x)) := by
  have hq := rquote_ret x.t (by omega)
  unfold wr
  obtain ⟨k, t, a⟩ := x
  simp only at hq ⊢
  by_cases hk : k = 4
  · rw [if_pos hk]
    obtain ⟨Q, hQ⟩ : ∃ y, bL (quo (repairL t.data.toList)) = y := ⟨_, rfl⟩
    rw [hQ] at hq ⊢
    have f1 : decide (k = 4) = true := decide_eq_true hk
    clear hk hQ hs
    refine ret_by tyT_ok g0_gr mixed (fun _ => 0) Tryd.func33 rfl (by kernel_rfl) (by kernel_rfl) rfl fun P G E hc hE => ?_
    replace hq := hc _ _ _ hq
    clear hE hc
    cbv
    repeat (first | (simp only [f1]; cbv) | simp only [f1] | (refine ⟨_, hq, ?_⟩; cbv))
  · rw [if_neg hk]
    have f1 : decide (k = 4) = false := decide_eq_false hk
    clear hk hs hq
    refine ret_by tyT_ok g0_gr mixed (fun _ => 0) Tryd.func33 rfl (by kernel_rfl) (by kernel_rfl) rfl fun P G E hc hE => ?_
    clear hE hc
    cbv
    repeat (first | (simp only [f1]; cbv) | simp only [f1])
end Go.Proofs.YtnhbboknffppiaaDoor
