/- Own work: knapsacklaw27.BytecodeTexts and BytecodeParses return true. -/
import Derived.Test.YtjefbgfohijaoaaGreatDoorWBP5
import Derived.Test.YtjefbgfohijaoaaGreatDoorWBSf
import Derived.Test.YtjefbgfohijaoaaGreatDoorWAwake27
namespace Go.Proofs.YtjefbgfohijaoaaGreatDoor
open Go.RowKit
set_option maxRecDepth 100000
set_option linter.unusedSimpArgs false
theorem awz_ret : RZ 5 [] (pB true) :=
 tZ (ret_v Tryz.func5 (by kernel_rfl) (by kernel_rfl) [] _ fun w hT => (awake27 w hT).mono fun e w' ⟨h1, h2⟩ => ⟨_, h1, h2, fun _ => .v _⟩)
theorem form_kinds {f : Fn} {n : Int} (h : formedB f n = true) : ∀ c ∈ f.consts, c.kind = 1 \/ c.kind = 2 := by
 unfold formedB partsB at h
 simp only [Bool.and_eq_true, List.all_eq_true] at h
 intro c hc
 have h6 := h.2.2.1 c hc
 unfold cstOk at h6
 simp only [Bool.or_eq_true, Bool.and_eq_true, decide_eq_true_eq] at h6
 rcases h6 with h6 | h6
 ·exact .inl h6
 ·exact .inr h6.1
set_option maxHeartbeats 2000000 in
theorem lparses_ret (s : ByteArray) : RZ 4 [pS s] (pB true) := by
 have ha := awz_ret
 obtain ⟨n, hn⟩ : ∃ n : Int, ((s.size : Nat) : Int) = n := ⟨_, rfl⟩
 rcases Classical.em (1500 < n) with hl | hl
 ·refine ret_by tyT_ok gz_gr mixed (fun _ => 0) Tryz.func4 rfl (by kernel_rfl) (by kernel_rfl) rfl fun P G E hc hE => ?_
  replace ha := hc _ _ _ ha
  have z1 : E.size s = n := by rw [hE]; exact hn
  have d1 : E.lti 1500 n = true := by rw [hE]; exact decide_eq_true hl
  clear hE hc hn hl
  cbv
  repeat (first | (refine ⟨_, ha,?_⟩; cbv) | (simp only [z1]; cbv) | simp only [z1] | (simp only [d1]; cbv) | simp only [d1])
  all_goals trivial
 have hp := parse_ret s (by omega)
 cases hpp : parseP s with
 | none =>
  have hr : parseR s = .tup [pZ, pI 4] := by unfold parseR; rw [hpp]
  rw [hr] at hp
  unfold pZ at hp
  refine ret_by tyT_ok gz_gr mixed (fun _ => 0) Tryz.func4 rfl (by kernel_rfl) (by kernel_rfl) rfl fun P G E hc hE => ?_
  replace ha := hc _ _ _ ha
  replace hp := hc _ _ _ hp
  have z1 : E.size s = n := by rw [hE]; exact hn
  have d1 : E.lti 1500 n = false := by rw [hE]; exact decide_eq_false hl
  have d2 : E.ofN 0 = 0 := by rw [hE]; rfl
  have d3 : E.eq ⟨#[]⟩ ⟨#[]⟩ = true := by rw [hE]; show decide ((⟨#[]⟩ : ByteArray) = ⟨#[]⟩) = true; exact decide_eq_true rfl
  clear hE hc hn hl hpp hr
  cbv
  repeat (first | (refine ⟨_, ha,?_⟩; cbv) | (refine ⟨_, hp,?_⟩; cbv) | (simp only [z1]; cbv) | simp only [z1] | (simp only [d1]; cbv) | simp only [d1] | (simp only [d2]; cbv) | simp only [d2] | (simp only [d3]; cbv) | simp only [d3])
  all_goals trivial
 | some f =>
  have hr : parseR s = .tup [.agg (pFn f), pI 0] := by unfold parseR; rw [hpp]
  rw [hr] at hp
  unfold parseP at hpp
  obtain ⟨g, hg, he⟩ := Option.bind_eq_some_iff.1 hpp
  unfold endP at he
  split at he
  ·rename_i hc2
   have he2 := Option.some.inj he
   subst he2
   have hW := raw_W hg
   have hfo := rformed1_ret g (sz_of (by omega)) 4096 (by decide) (by decide)
   rw [hc2.1] at hfo
   have hfm := rformat_ret g (fm_of hc2.1 (Int.le_refl _) hW.2.z (by omega)) (form_kinds hc2.1)
   rw [hc2.2] at hfm
   clear hW hg hc2 hr
   unfold pFn at hp hfo hfm
   generalize g.name = x1 at hp hfo hfm
   generalize g.kind = x2 at hp hfo hfm
   generalize g.params = x3 at hp hfo hfm
   generalize g.locals = x4 at hp hfo hfm
   generalize pCode g.code = c1 at hp hfo hfm
   generalize pCons g.consts = c2 at hp hfo hfm
   generalize pHdls g.hdls = c3 at hp hfo hfm
   refine ret_by tyT_ok gz_gr mixed (fun _ => 0) Tryz.func4 rfl (by kernel_rfl) (by kernel_rfl) rfl fun P G E hc hE => ?_
   replace ha := hc _ _ _ ha
   replace hp := hc _ _ _ hp
   replace hfo := hc _ _ _ hfo
   replace hfm := hc _ _ _ hfm
   have z1 : E.size s = n := by rw [hE]; exact hn
   have d1 : E.lti 1500 n = false := by rw [hE]; exact decide_eq_false hl
   have d3 : E.eq s s = true := by rw [hE]; exact decide_eq_true rfl
   clear hE hc hn hl
   cbv
   repeat (first | (refine ⟨_, ha,?_⟩; cbv) | (refine ⟨_, hp,?_⟩; cbv) | (refine ⟨_, hfo,?_⟩; cbv) | (refine ⟨_, hfm,?_⟩; cbv) | (simp only [z1]; cbv) | simp only [z1] | (simp only [d1]; cbv) | simp only [d1] | (simp only [d3]; cbv) | simp only [d3])
   all_goals trivial
  ·cases he
theorem flat_congr {α : Type} {g k : α -> Bs} : ∀ l : List α, (∀ x ∈ l, g x = k x) -> l.flatMap g = l.flatMap k
 | [], _ => rfl
 | a :: l, h => by rw [List.flatMap_cons, List.flatMap_cons, h a (List.mem_cons_self ..), flat_congr l fun x hx => h x (List.mem_cons_of_mem _ hx)]
theorem fmtB_P {f : Fn} (hk : ∀ c ∈ f.consts, c.kind = 1 \/ c.kind = 2) : fmtB (fnP f) = fmtB f := by
 have h : ∀ c ∈ f.consts, lnW (cstW (cstP c)) = lnW (cstW c) := fun c hc => by
  unfold cstP
  rcases hk c hc with h | h
  ·rw [if_neg (by omega)]
   unfold cstW
   rw [if_neg (show ¬ (1 : Int) = 2 by decide), if_neg (by omega)]
  ·rw [if_pos h]
   unfold cstW
   rw [if_pos rfl, if_pos h]
 unfold fmtB tail0 tail1 tail2 fnP headW
 simp only [List.flatMap_map]
 congr 2
 exact flat_congr f.consts h
theorem kindAt_P (cs : List Cst) (hk : ∀ c ∈ cs, c.kind = 1 \/ c.kind = 2) (a : Int) : kindAt (cs.map cstP) a = kindAt cs a := by
 unfold kindAt
 rw [List.getElem?_map]
 cases h : cs[a.toNat]? with
 | none => rfl
 | some c =>
  simp only [Option.map_some, Option.getD_some]
  unfold cstP
  rcases hk c (List.mem_of_getElem? h) with h | h
  ·rw [if_neg (by omega)]; exact h.symm
  ·rw [if_pos h]; exact h.symm
theorem formed_P {f : Fn} {n m : Int} (h : formedB f n = true) (hm : n <= m) : formedB (fnP f) m = true := by
 have hk := form_kinds h
 unfold formedB headB sizeB partsB at h ⊢
 simp only [Bool.and_eq_true, List.all_eq_true] at h ⊢
 obtain ⟨h1, h2, h3, h4, h5⟩ := h
 refine ⟨h1, ?_, ?_, fun x hx => ?_, fun x hx => h5 x hx⟩
 ·unfold fnP
  simp only [List.length_map]
  exact h2
 ·intro c hc
  unfold fnP at hc
  simp only at hc
  obtain ⟨c0, hc0, rfl⟩ := List.mem_map.1 hc
  have h6 := h3 c0 hc0
  unfold cstOk at h6 ⊢
  unfold cstP
  rcases hk c0 hc0 with h | h
  ·rw [if_neg (by omega)]
   rfl
  ·rw [if_pos h]
   simpa [h] using h6
 ·have h6 := h4 x hx
  unfold fitsB argOk at h6 ⊢
  unfold fnP
  simp only [List.length_map, kindAt_P f.consts hk]
  simp only [Bool.and_eq_true] at h6 ⊢
  refine ⟨h6.1,?_⟩
  have h7 := h6.2
  split
  ·rename_i hq; rw [if_pos hq] at h7; exact h7
  rename_i hq; rw [if_neg hq] at h7
  split
  ·rename_i hq; rw [if_pos hq] at h7; exact h7
  rename_i hq; rw [if_neg hq] at h7
  split
  ·rename_i hq; rw [if_pos hq] at h7; exact h7
  rename_i hq; rw [if_neg hq] at h7
  split
  ·rename_i hq; rw [if_pos hq] at h7; exact h7
  rename_i hq; rw [if_neg hq] at h7
  split
  ·rename_i hq
   rw [if_pos hq] at h7
   unfold betw at h7 ⊢
   simp only [Bool.and_eq_true, decide_eq_true_eq] at h7 ⊢
   omega
  ·rename_i hq; rw [if_neg hq] at h7; exact h7
theorem parse_fmt {f : Fn} {n : Int} (h : formedB f n = true) (hn : n <= 4096) (hz : ∀ c ∈ f.consts, IZ c.int) : parseP (bL (fmtB f)) = some (fnP f) := by
 unfold parseP
 rw [raw_fmt (fn_parts h hn hz)]
 show endP _ (fnP f) = _
 unfold endP
 rw [if_pos ⟨formed_P h hn, by rw [fmtB_P (form_kinds h)]⟩]
theorem few_W {f : Fn} (h : fewFn f = true) : fW f <= 40000 := by
 unfold fewFn at h
 simp only [Bool.and_eq_true, decide_eq_true_eq, List.all_eq_true] at h
 obtain ⟨h1, h2, h3, h4, h5⟩ := h
 have h6 : (f.consts.map cW).sum <= 990 * f.consts.length := by
  rw [<-sum_c 990 f.consts]
  generalize f.consts = cs at h5
  clear h3
  induction cs with
  | nil => exact Nat.le_refl _
  | cons c cs ih =>
   have h7 := h5 c (List.mem_cons_self ..)
   have h8 := ih fun x hx => h5 x (List.mem_cons_of_mem _ hx)
   unfold fewC at h7
   simp only [decide_eq_true_eq] at h7
   simp only [List.map_cons, List.sum_cons]
   have : cW c = 30 + 16 * c.str.size := rfl
   omega
 unfold fW
 omega
structure TxI (n : Int) (i : Int) : Prop where
 i0 : 0 <= i
 i1 : i <= n
set_option maxHeartbeats 4000000 in
theorem ltexts_ret (fs : List Fn) (hw : ∀ f ∈ fs, FnSz f) (hi : ∀ f ∈ fs, ∀ c ∈ f.consts, IZ c.int) : RZ 3 [pProg fs] (pB true) := by
 have ha := awz_ret
 have hfew := tZ (few_ret fs hw 4 (by omega))
 cases hp : fewP fs 4 with
 | false =>
  rw [hp] at hfew
  unfold pProg at hfew ⊢
  generalize pFns fs = F at *
  clear hw hi hp
  refine ret_by tyT_ok gz_gr mixed (fun n => match n with | 8 => 19 | _ => 0) Tryz.func3 rfl (by kernel_rfl) (by kernel_rfl) rfl fun P G E hc hE => ?_
  replace ha := hc _ _ _ ha
  replace hfew := hc _ _ _ hfew
  clear hE hc
  cbv
  repeat (first | (refine ⟨_, ha,?_⟩; cbv) | (refine ⟨_, hfew,?_⟩; cbv))
  all_goals trivial
 | true =>
  rw [hp] at hfew
  unfold fewP at hp
  simp only [Bool.and_eq_true, decide_eq_true_eq, List.all_eq_true] at hp
  have hlen := hp.1
  have hf := tZ (rformed_ret fs hw (by omega))
  cases hpf : progF fs with
  | false =>
   rw [hpf] at hf
   unfold pProg at *
   generalize pFns fs = F at *
   clear hw hi hp hlen hpf
   refine ret_by tyT_ok gz_gr mixed (fun n => match n with | 8 => 19 | _ => 0) Tryz.func3 rfl (by kernel_rfl) (by kernel_rfl) rfl fun P G E hc hE => ?_
   replace ha := hc _ _ _ ha
   replace hfew := hc _ _ _ hfew
   replace hf := hc _ _ _ hf
   clear hE hc
   cbv
   repeat (first | (refine ⟨_, ha,?_⟩; cbv) | (refine ⟨_, hfew,?_⟩; cbv) | (refine ⟨_, hf,?_⟩; cbv))
   all_goals trivial
  | true =>
   rw [hpf] at hf
   have hfo : ∀ f ∈ fs, formedB f fs.length = true := by
    unfold progF at hpf
    simp only [Bool.and_eq_true, List.all_eq_true] at hpf
    exact hpf.1
   have hfmt := fun f (hm : f ∈ fs) => format_ret f (fm_of (hfo f hm) (by omega) (hi f hm) (by have := few_W (hp.2 f hm); omega))
   have hrf := fun f (hm : f ∈ fs) => rformat_ret f (fm_of (hfo f hm) (by omega) (hi f hm) (by have := few_W (hp.2 f hm); omega)) (form_kinds (hfo f hm))
   have hpa : ∀ f ∈ fs, RZ 9 [pS (bL (fmtB f))] (.tup [.agg (pFn (fnP f)), pI 0]) := fun f hm => by
    have hq := fn_parts (hfo f hm) (by omega) (hi f hm)
    have hl := fmtB_len ⟨hq.h.k, hq.h.p, hq.h.l⟩ (hi f hm) (fun x hx => ⟨⟨(hq.i x hx).o0, (hq.i x hx).o1⟩, (hq.i x hx).a, (hq.i x hx).b⟩) hq.d
    have := few_W (hp.2 f hm)
    have h := parse_ret (bL (fmtB f)) (by rw [bL_sz]; omega)
    unfold parseR at h
    rw [parse_fmt (hfo f hm) (by omega) (hi f hm)] at h
    exact h
   have hsf : ∀ f ∈ fs, RZ 11 [.agg (pFn (fnP f)), .agg (pFn f)] (pB true) := fun f hm => by
    have h1 := few_W (hp.2 f hm)
    have h2 := len_sum cW (fun c => by unfold cW; omega) f.consts
    unfold fW at h1
    exact samefuncP_ret f (form_kinds (hfo f hm)) (by omega) (by omega) (by omega)
   obtain ⟨F, hF⟩ : ∃ y, pFns fs = y := ⟨_, rfl⟩
   have hFl : F.length = fs.length := by rw [<-hF]; unfold pFns; rw [List.length_map]
   have hFg : ∀ (k : Nat) f, fs[k]? = some f -> F[k]? = some (pFn f) := fun k f h => by rw [<-hF]; unfold pFns; rw [List.getElem?_map, h]; rfl
   obtain ⟨n, hn⟩ : ∃ n : Int, ((fs.length : Nat) : Int) = n := ⟨_, rfl⟩
   have hn4 : n <= 4 := by omega
   unfold pProg at *
   rw [hF] at hf hfew ⊢
   obtain ⟨μ, hμ⟩ : ∃ μ : Int -> Nat, ∀ i, μ i = 200 - i.toNat := ⟨_, fun _ => rfl⟩
   have hI0 : TxI n 0 := ⟨Int.le_refl _, by omega⟩
   refine ret_by tyT_ok gz_gr mixed (fun n => match n with | 8 => 19 | _ => 0) Tryz.func3 rfl (by kernel_rfl) (by kernel_rfl) rfl fun P G E hc hE => ?_
   replace ha := hc _ _ _ ha
   replace hfew := hc _ _ _ hfew
   replace hf := hc _ _ _ hf
   replace hfmt := fun f hm => hc _ _ _ (hfmt f hm)
   replace hrf := fun f hm => hc _ _ _ (hrf f hm)
   replace hpa := fun f hm => hc _ _ _ (hpa f hm)
   replace hsf := fun f hm => hc _ _ _ (hsf f hm)
   have l0 : E.ofN F.length = n := by rw [hE, hFl]; exact hn
   have elt := qLti hE
   have eple := qPle hE
   have enat : ∀ i, E.nat i = i.toNat := fun i => by rw [hE]; rfl
   have eeq : ∀ a, E.eq a a = true := fun a => by rw [hE]; exact decide_eq_true rfl
   have eadd := qAdd hE
   clear hE hc
   cbv at l0
   cbv
   repeat (first | (refine ⟨_, ha,?_⟩; cbv) | (refine ⟨_, hfew,?_⟩; cbv) | (refine ⟨_, hf,?_⟩; cbv))
   refine loop_by 60 [1, 3] 1 (fun i : Int => [.own 0 0, .p (pI i)]) (fun _ => [some (.box [.p (.ro 7 F)] 24 none)]) (TxI n) μ 0 ⟨rfl, rfl, rfl, rfl, rfl⟩ hI0 ?_
   clear hI0 ha hfew hf
   rintro i ⟨i0, i1⟩
   replace hn : ((fs.length : Nat) : Int) = n := hn
   rcases Classical.em (i < n) with hlt | hlt
   ·have d1 : E.lti i n = true := by rw [elt]; exact decide_eq_true hlt
    obtain ⟨f, hfi⟩ : ∃ f, fs[i.toNat]? = some f := ⟨_, List.getElem?_eq_getElem (by omega)⟩
    have hm := List.mem_of_getElem? hfi
    have h1 := hfmt f hm
    have h2 := hpa f hm
    have h3 := hrf f hm
    have h4 := hsf f hm
    have g1 : F[E.nat i]? = some (pFn f) := by rw [enat]; exact hFg _ _ hfi
    have p1 := eple 0 i i0
    obtain ⟨i2, hi2⟩ : ∃ x : Int, i + 1 = x := ⟨_, rfl⟩
    have ei := eadd i 1 (by omega) (by omega) (by omega) (by omega)
    rw [hi2] at ei
    have hI2 : TxI n i2 := ⟨by omega, by omega⟩
    have hM2 : μ i2 < μ i := by rw [hμ, hμ]; omega
    obtain ⟨T, hT⟩ : ∃ y, bL (fmtB f) = y := ⟨_, rfl⟩
    rw [hT] at h1 h2 h3
    have d2 := eeq T
    obtain ⟨f2, hf2⟩ : ∃ y, fnP f = y := ⟨_, rfl⟩
    rw [hf2] at h2 h4
    clear hfmt hpa hrf hsf elt eple enat eeq eadd hFg hμ hfi hm hT hf2 hi2 hlt hw hi hp hlen hpf hfo hF hFl hn
    unfold pFn at h1 h2 h3 h4 g1
    generalize pCode f.code = c1 at h1 h3 h4 g1
    generalize pCons f.consts = c2 at h1 h3 h4 g1
    generalize pHdls f.hdls = c3 at h1 h3 h4 g1
    generalize f.name = x1 at h1 h3 h4 g1
    generalize f.kind = x2 at h1 h3 h4 g1
    generalize f.params = x3 at h1 h3 h4 g1
    generalize f.locals = x4 at h1 h3 h4 g1
    generalize pCode f2.code = z1 at h2 h4
    generalize pCons f2.consts = z2 at h2 h4
    generalize pHdls f2.hdls = z3 at h2 h4
    generalize f2.name = y1 at h2 h4
    generalize f2.kind = y2 at h2 h4
    generalize f2.params = y3 at h2 h4
    generalize f2.locals = y4 at h2 h4
    cbv
    repeat (first | (simp only [l0]; cbv) | simp only [l0] | (simp only [d1]; cbv) | simp only [d1] | (refine ⟨p1,_,g1,?_⟩; cbv) | (refine ⟨_, h1,?_⟩; cbv) | (refine ⟨_, h2,?_⟩; cbv) | (refine ⟨_, h3,?_⟩; cbv) | (simp only [d2]; cbv) | simp only [d2] | (refine ⟨_, h4,?_⟩; cbv) | (simp only [ei]; cbv) | simp only [ei])
    refine .mk i2 ⟨rfl, rfl, rfl, rfl, rfl⟩ ?_ ?_
    ·exact hI2
    ·exact hM2
   ·have d1 : E.lti i n = false := by rw [elt]; exact decide_eq_false hlt
    clear hfmt hpa hrf hsf elt eple enat eeq eadd hFg hμ hw hi hp hlen hpf hfo hF hFl hn
    cbv
    repeat (first | (simp only [l0]; cbv) | simp only [l0] | (simp only [d1]; cbv) | simp only [d1])
    all_goals trivial
end Go.Proofs.YtjefbgfohijaoaaGreatDoor
