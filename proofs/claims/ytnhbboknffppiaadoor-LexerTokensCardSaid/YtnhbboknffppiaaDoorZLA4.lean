/- Own work: IsKeyword of package lexer and of knapsackref25 (printed by gen_kw.py). -/
import Derived.Test.YtnhbboknffppiaaDoorZLA3
namespace Go.Proofs.YtnhbboknffppiaaDoor
open Go.RowKit
set_option maxRecDepth 100000
set_option linter.unusedSimpArgs false

def kwS : List ByteArray := [⟨#[97, 115, 121, 110, 99]⟩, ⟨#[97, 119, 97, 105, 116]⟩, ⟨#[98, 114, 101, 97, 107]⟩, ⟨#[99, 111, 110, 115, 116]⟩, ⟨#[99, 111, 110, 116, 105, 110, 117, 101]⟩, ⟨#[100, 101, 108, 101, 116, 101]⟩, ⟨#[101, 108, 115, 101]⟩, ⟨#[102, 97, 108, 115, 101]⟩, ⟨#[102, 105, 110, 97, 108, 108, 121]⟩, ⟨#[102, 111, 114]⟩, ⟨#[102, 117, 110, 99, 116, 105, 111, 110]⟩, ⟨#[105, 102]⟩, ⟨#[105, 110]⟩, ⟨#[105, 110, 115, 116, 97, 110, 99, 101, 111, 102]⟩, ⟨#[108, 101, 116]⟩, ⟨#[110, 101, 119]⟩, ⟨#[110, 117, 108, 108]⟩, ⟨#[111, 102]⟩, ⟨#[114, 101, 116, 117, 114, 110]⟩, ⟨#[116, 104, 105, 115]⟩, ⟨#[116, 104, 114, 111, 119]⟩, ⟨#[116, 114, 117, 101]⟩, ⟨#[116, 114, 121]⟩, ⟨#[99, 97, 116, 99, 104]⟩, ⟨#[116, 121, 112, 101, 111, 102]⟩, ⟨#[117, 110, 100, 101, 102, 105, 110, 101, 100]⟩, ⟨#[119, 104, 105, 108, 101]⟩, ⟨#[121, 105, 101, 108, 100]⟩]
theorem kwS_L : kwS.map (fun s => s.data.toList) = kwL := rfl
theorem isKw_S (s : ByteArray) : isKw s.data.toList = kwS.any (fun x => decide (s = x)) := by
  unfold isKw
  rw [← kwS_L, List.any_map]
  congr 1
  funext x
  show (x.data.toList == s.data.toList) = _
  by_cases h : s = x
  · rw [h, decide_eq_true rfl]; exact beq_self_eq_true _
  · rw [decide_eq_false h]
    exact beq_eq_false_iff_ne.2 fun e => h (bl_inj e.symm)
set_option maxHeartbeats 4000000 in
theorem iskw_ret (s : ByteArray) : V0 16 [pS s] (pB (isKw s.data.toList)) := by
  rw [isKw_S]
  by_cases e0 : s = ⟨#[97, 115, 121, 110, 99]⟩
  · have hr : kwS.any (fun x => decide (s = x)) = true := by rw [e0]; decide +kernel
    rw [hr]
    refine ret_by tyT_ok g0_gr mixed (fun _ => 0) Tryd.func16 rfl (by kernel_rfl) (by kernel_rfl) rfl fun P G E hc hE => ?_
    have f0 : E.eq s ⟨#[97, 115, 121, 110, 99]⟩ = true := by rw [hE]; exact decide_eq_true e0
    clear hE hc
    clear e0
    clear hr
    cbv at f0
    cbv
    simp only [f0]
    cbv
  by_cases e1 : s = ⟨#[97, 119, 97, 105, 116]⟩
  · have hr : kwS.any (fun x => decide (s = x)) = true := by rw [e1]; decide +kernel
    rw [hr]
    refine ret_by tyT_ok g0_gr mixed (fun _ => 0) Tryd.func16 rfl (by kernel_rfl) (by kernel_rfl) rfl fun P G E hc hE => ?_
    have f0 : E.eq s ⟨#[97, 115, 121, 110, 99]⟩ = false := by rw [hE]; exact decide_eq_false e0
    have f1 : E.eq s ⟨#[97, 119, 97, 105, 116]⟩ = true := by rw [hE]; exact decide_eq_true e1
    clear hE hc
    clear e0 e1
    clear hr
    cbv at f0 f1
    cbv
    simp only [f0]
    cbv
    simp only [f1]
    cbv
  by_cases e2 : s = ⟨#[98, 114, 101, 97, 107]⟩
  · have hr : kwS.any (fun x => decide (s = x)) = true := by rw [e2]; decide +kernel
    rw [hr]
    refine ret_by tyT_ok g0_gr mixed (fun _ => 0) Tryd.func16 rfl (by kernel_rfl) (by kernel_rfl) rfl fun P G E hc hE => ?_
    have f0 : E.eq s ⟨#[97, 115, 121, 110, 99]⟩ = false := by rw [hE]; exact decide_eq_false e0
    have f1 : E.eq s ⟨#[97, 119, 97, 105, 116]⟩ = false := by rw [hE]; exact decide_eq_false e1
    have f2 : E.eq s ⟨#[98, 114, 101, 97, 107]⟩ = true := by rw [hE]; exact decide_eq_true e2
    clear hE hc
    clear e0 e1 e2
    clear hr
    cbv at f0 f1 f2
    cbv
    simp only [f0]
    cbv
    simp only [f1]
    cbv
    simp only [f2]
    cbv
  by_cases e3 : s = ⟨#[99, 111, 110, 115, 116]⟩
  · have hr : kwS.any (fun x => decide (s = x)) = true := by rw [e3]; decide +kernel
    rw [hr]
    refine ret_by tyT_ok g0_gr mixed (fun _ => 0) Tryd.func16 rfl (by kernel_rfl) (by kernel_rfl) rfl fun P G E hc hE => ?_
    have f0 : E.eq s ⟨#[97, 115, 121, 110, 99]⟩ = false := by rw [hE]; exact decide_eq_false e0
    have f1 : E.eq s ⟨#[97, 119, 97, 105, 116]⟩ = false := by rw [hE]; exact decide_eq_false e1
    have f2 : E.eq s ⟨#[98, 114, 101, 97, 107]⟩ = false := by rw [hE]; exact decide_eq_false e2
    have f3 : E.eq s ⟨#[99, 111, 110, 115, 116]⟩ = true := by rw [hE]; exact decide_eq_true e3
    clear hE hc
    clear e0 e1 e2 e3
    clear hr
    cbv at f0 f1 f2 f3
    cbv
    simp only [f0]
    cbv
    simp only [f1]
    cbv
    simp only [f2]
    cbv
    simp only [f3]
    cbv
  by_cases e4 : s = ⟨#[99, 111, 110, 116, 105, 110, 117, 101]⟩
  · have hr : kwS.any (fun x => decide (s = x)) = true := by rw [e4]; decide +kernel
    rw [hr]
    refine ret_by tyT_ok g0_gr mixed (fun _ => 0) Tryd.func16 rfl (by kernel_rfl) (by kernel_rfl) rfl fun P G E hc hE => ?_
    have f0 : E.eq s ⟨#[97, 115, 121, 110, 99]⟩ = false := by rw [hE]; exact decide_eq_false e0
    have f1 : E.eq s ⟨#[97, 119, 97, 105, 116]⟩ = false := by rw [hE]; exact decide_eq_false e1
    have f2 : E.eq s ⟨#[98, 114, 101, 97, 107]⟩ = false := by rw [hE]; exact decide_eq_false e2
    have f3 : E.eq s ⟨#[99, 111, 110, 115, 116]⟩ = false := by rw [hE]; exact decide_eq_false e3
    have f4 : E.eq s ⟨#[99, 111, 110, 116, 105, 110, 117, 101]⟩ = true := by rw [hE]; exact decide_eq_true e4
    clear hE hc
    clear e0 e1 e2 e3 e4
    clear hr
    cbv at f0 f1 f2 f3 f4
    cbv
    simp only [f0]
    cbv
    simp only [f1]
    cbv
    simp only [f2]
    cbv
    simp only [f3]
    cbv
    simp only [f4]
    cbv
  by_cases e5 : s = ⟨#[100, 101, 108, 101, 116, 101]⟩
  · have hr : kwS.any (fun x => decide (s = x)) = true := by rw [e5]; decide +kernel
    rw [hr]
    refine ret_by tyT_ok g0_gr mixed (fun _ => 0) Tryd.func16 rfl (by kernel_rfl) (by kernel_rfl) rfl fun P G E hc hE => ?_
    have f0 : E.eq s ⟨#[97, 115, 121, 110, 99]⟩ = false := by rw [hE]; exact decide_eq_false e0
    have f1 : E.eq s ⟨#[97, 119, 97, 105, 116]⟩ = false := by rw [hE]; exact decide_eq_false e1
    have f2 : E.eq s ⟨#[98, 114, 101, 97, 107]⟩ = false := by rw [hE]; exact decide_eq_false e2
    have f3 : E.eq s ⟨#[99, 111, 110, 115, 116]⟩ = false := by rw [hE]; exact decide_eq_false e3
    have f4 : E.eq s ⟨#[99, 111, 110, 116, 105, 110, 117, 101]⟩ = false := by rw [hE]; exact decide_eq_false e4
    have f5 : E.eq s ⟨#[100, 101, 108, 101, 116, 101]⟩ = true := by rw [hE]; exact decide_eq_true e5
    clear hE hc
    clear e0 e1 e2 e3 e4 e5
    clear hr
    cbv at f0 f1 f2 f3 f4 f5
    cbv
    simp only [f0]
    cbv
    simp only [f1]
    cbv
    simp only [f2]
    cbv
    simp only [f3]
    cbv
    simp only [f4]
    cbv
    simp only [f5]
    cbv
  by_cases e6 : s = ⟨#[101, 108, 115, 101]⟩
  · have hr : kwS.any (fun x => decide (s = x)) = true := by rw [e6]; decide +kernel
    rw [hr]
    refine ret_by tyT_ok g0_gr mixed (fun _ => 0) Tryd.func16 rfl (by kernel_rfl) (by kernel_rfl) rfl fun P G E hc hE => ?_
    have f0 : E.eq s ⟨#[97, 115, 121, 110, 99]⟩ = false := by rw [hE]; exact decide_eq_false e0
    have f1 : E.eq s ⟨#[97, 119, 97, 105, 116]⟩ = false := by rw [hE]; exact decide_eq_false e1
    have f2 : E.eq s ⟨#[98, 114, 101, 97, 107]⟩ = false := by rw [hE]; exact decide_eq_false e2
    have f3 : E.eq s ⟨#[99, 111, 110, 115, 116]⟩ = false := by rw [hE]; exact decide_eq_false e3
    have f4 : E.eq s ⟨#[99, 111, 110, 116, 105, 110, 117, 101]⟩ = false := by rw [hE]; exact decide_eq_false e4
    have f5 : E.eq s ⟨#[100, 101, 108, 101, 116, 101]⟩ = false := by rw [hE]; exact decide_eq_false e5
    have f6 : E.eq s ⟨#[101, 108, 115, 101]⟩ = true := by rw [hE]; exact decide_eq_true e6
    clear hE hc
    clear e0 e1 e2 e3 e4 e5 e6
    clear hr
    cbv at f0 f1 f2 f3 f4 f5 f6
    cbv
    simp only [f0]
    cbv
    simp only [f1]
    cbv
    simp only [f2]
    cbv
    simp only [f3]
    cbv
    simp only [f4]
    cbv
    simp only [f5]
    cbv
    simp only [f6]
    cbv
  by_cases e7 : s = ⟨#[102, 97, 108, 115, 101]⟩
  · have hr : kwS.any (fun x => decide (s = x)) = true := by rw [e7]; decide +kernel
    rw [hr]
    refine ret_by tyT_ok g0_gr mixed (fun _ => 0) Tryd.func16 rfl (by kernel_rfl) (by kernel_rfl) rfl fun P G E hc hE => ?_
    have f0 : E.eq s ⟨#[97, 115, 121, 110, 99]⟩ = false := by rw [hE]; exact decide_eq_false e0
    have f1 : E.eq s ⟨#[97, 119, 97, 105, 116]⟩ = false := by rw [hE]; exact decide_eq_false e1
    have f2 : E.eq s ⟨#[98, 114, 101, 97, 107]⟩ = false := by rw [hE]; exact decide_eq_false e2
    have f3 : E.eq s ⟨#[99, 111, 110, 115, 116]⟩ = false := by rw [hE]; exact decide_eq_false e3
    have f4 : E.eq s ⟨#[99, 111, 110, 116, 105, 110, 117, 101]⟩ = false := by rw [hE]; exact decide_eq_false e4
    have f5 : E.eq s ⟨#[100, 101, 108, 101, 116, 101]⟩ = false := by rw [hE]; exact decide_eq_false e5
    have f6 : E.eq s ⟨#[101, 108, 115, 101]⟩ = false := by rw [hE]; exact decide_eq_false e6
    have f7 : E.eq s ⟨#[102, 97, 108, 115, 101]⟩ = true := by rw [hE]; exact decide_eq_true e7
    clear hE hc
    clear e0 e1 e2 e3 e4 e5 e6 e7
    clear hr
    cbv at f0 f1 f2 f3 f4 f5 f6 f7
    cbv
    simp only [f0]
    cbv
    simp only [f1]
    cbv
    simp only [f2]
    cbv
    simp only [f3]
    cbv
    simp only [f4]
    cbv
    simp only [f5]
    cbv
    simp only [f6]
    cbv
    simp only [f7]
    cbv
  by_cases e8 : s = ⟨#[102, 105, 110, 97, 108, 108, 121]⟩
  · have hr : kwS.any (fun x => decide (s = x)) = true := by rw [e8]; decide +kernel
    rw [hr]
    refine ret_by tyT_ok g0_gr mixed (fun _ => 0) Tryd.func16 rfl (by kernel_rfl) (by kernel_rfl) rfl fun P G E hc hE => ?_
    have f0 : E.eq s ⟨#[97, 115, 121, 110, 99]⟩ = false := by rw [hE]; exact decide_eq_false e0
    have f1 : E.eq s ⟨#[97, 119, 97, 105, 116]⟩ = false := by rw [hE]; exact decide_eq_false e1
    have f2 : E.eq s ⟨#[98, 114, 101, 97, 107]⟩ = false := by rw [hE]; exact decide_eq_false e2
    have f3 : E.eq s ⟨#[99, 111, 110, 115, 116]⟩ = false := by rw [hE]; exact decide_eq_false e3
    have f4 : E.eq s ⟨#[99, 111, 110, 116, 105, 110, 117, 101]⟩ = false := by rw [hE]; exact decide_eq_false e4
    have f5 : E.eq s ⟨#[100, 101, 108, 101, 116, 101]⟩ = false := by rw [hE]; exact decide_eq_false e5
    have f6 : E.eq s ⟨#[101, 108, 115, 101]⟩ = false := by rw [hE]; exact decide_eq_false e6
    have f7 : E.eq s ⟨#[102, 97, 108, 115, 101]⟩ = false := by rw [hE]; exact decide_eq_false e7
    have f8 : E.eq s ⟨#[102, 105, 110, 97, 108, 108, 121]⟩ = true := by rw [hE]; exact decide_eq_true e8
    clear hE hc
    clear e0 e1 e2 e3 e4 e5 e6 e7 e8
    clear hr
    cbv at f0 f1 f2 f3 f4 f5 f6 f7 f8
    cbv
    simp only [f0]
    cbv
    simp only [f1]
    cbv
    simp only [f2]
    cbv
    simp only [f3]
    cbv
    simp only [f4]
    cbv
    simp only [f5]
    cbv
    simp only [f6]
    cbv
    simp only [f7]
    cbv
    simp only [f8]
    cbv
  by_cases e9 : s = ⟨#[102, 111, 114]⟩
  · have hr : kwS.any (fun x => decide (s = x)) = true := by rw [e9]; decide +kernel
    rw [hr]
    refine ret_by tyT_ok g0_gr mixed (fun _ => 0) Tryd.func16 rfl (by kernel_rfl) (by kernel_rfl) rfl fun P G E hc hE => ?_
    have f0 : E.eq s ⟨#[97, 115, 121, 110, 99]⟩ = false := by rw [hE]; exact decide_eq_false e0
    have f1 : E.eq s ⟨#[97, 119, 97, 105, 116]⟩ = false := by rw [hE]; exact decide_eq_false e1
    have f2 : E.eq s ⟨#[98, 114, 101, 97, 107]⟩ = false := by rw [hE]; exact decide_eq_false e2
    have f3 : E.eq s ⟨#[99, 111, 110, 115, 116]⟩ = false := by rw [hE]; exact decide_eq_false e3
    have f4 : E.eq s ⟨#[99, 111, 110, 116, 105, 110, 117, 101]⟩ = false := by rw [hE]; exact decide_eq_false e4
    have f5 : E.eq s ⟨#[100, 101, 108, 101, 116, 101]⟩ = false := by rw [hE]; exact decide_eq_false e5
    have f6 : E.eq s ⟨#[101, 108, 115, 101]⟩ = false := by rw [hE]; exact decide_eq_false e6
    have f7 : E.eq s ⟨#[102, 97, 108, 115, 101]⟩ = false := by rw [hE]; exact decide_eq_false e7
    have f8 : E.eq s ⟨#[102, 105, 110, 97, 108, 108, 121]⟩ = false := by rw [hE]; exact decide_eq_false e8
    have f9 : E.eq s ⟨#[102, 111, 114]⟩ = true := by rw [hE]; exact decide_eq_true e9
    clear hE hc
    clear e0 e1 e2 e3 e4 e5 e6 e7 e8 e9
    clear hr
    cbv at f0 f1 f2 f3 f4 f5 f6 f7 f8 f9
    cbv
    simp only [f0]
    cbv
    simp only [f1]
    cbv
    simp only [f2]
    cbv
    simp only [f3]
    cbv
    simp only [f4]
    cbv
    simp only [f5]
    cbv
    simp only [f6]
    cbv
    simp only [f7]
    cbv
    simp only [f8]
    cbv
    simp only [f9]
    cbv
  by_cases e10 : s = ⟨#[102, 117, 110, 99, 116, 105, 111, 110]⟩
  · have hr : kwS.any (fun x => decide (s = x)) = true := by rw [e10]; decide +kernel
    rw [hr]
    refine ret_by tyT_ok g0_gr mixed (fun _ => 0) Tryd.func16 rfl (by kernel_rfl) (by kernel_rfl) rfl fun P G E hc hE => ?_
    have f0 : E.eq s ⟨#[97, 115, 121, 110, 99]⟩ = false := by rw [hE]; exact decide_eq_false e0
    have f1 : E.eq s ⟨#[97, 119, 97, 105, 116]⟩ = false := by rw [hE]; exact decide_eq_false e1
    have f2 : E.eq s ⟨#[98, 114, 101, 97, 107]⟩ = false := by rw [hE]; exact decide_eq_false e2
    have f3 : E.eq s ⟨#[99, 111, 110, 115, 116]⟩ = false := by rw [hE]; exact decide_eq_false e3
    have f4 : E.eq s ⟨#[99, 111, 110, 116, 105, 110, 117, 101]⟩ = false := by rw [hE]; exact decide_eq_false e4
    have f5 : E.eq s ⟨#[100, 101, 108, 101, 116, 101]⟩ = false := by rw [hE]; exact decide_eq_false e5
    have f6 : E.eq s ⟨#[101, 108, 115, 101]⟩ = false := by rw [hE]; exact decide_eq_false e6
    have f7 : E.eq s ⟨#[102, 97, 108, 115, 101]⟩ = false := by rw [hE]; exact decide_eq_false e7
    have f8 : E.eq s ⟨#[102, 105, 110, 97, 108, 108, 121]⟩ = false := by rw [hE]; exact decide_eq_false e8
    have f9 : E.eq s ⟨#[102, 111, 114]⟩ = false := by rw [hE]; exact decide_eq_false e9
    have f10 : E.eq s ⟨#[102, 117, 110, 99, 116, 105, 111, 110]⟩ = true := by rw [hE]; exact decide_eq_true e10
    clear hE hc
    clear e0 e1 e2 e3 e4 e5 e6 e7 e8 e9 e10
    clear hr
    cbv at f0 f1 f2 f3 f4 f5 f6 f7 f8 f9 f10
    cbv
    simp only [f0]
    cbv
    simp only [f1]
    cbv
    simp only [f2]
    cbv
    simp only [f3]
    cbv
    simp only [f4]
    cbv
    simp only [f5]
    cbv
    simp only [f6]
    cbv
    simp only [f7]
    cbv
    simp only [f8]
    cbv
    simp only [f9]
    cbv
    simp only [f10]
    cbv
  by_cases e11 : s = ⟨#[105, 102]⟩
  · have hr : kwS.any (fun x => decide (s = x)) = true := by rw [e11]; decide +kernel
    rw [hr]
    refine ret_by tyT_ok g0_gr mixed (fun _ => 0) Tryd.func16 rfl (by kernel_rfl) (by kernel_rfl) rfl fun P G E hc hE => ?_
    have f0 : E.eq s ⟨#[97, 115, 121, 110, 99]⟩ = false := by rw [hE]; exact decide_eq_false e0
    have f1 : E.eq s ⟨#[97, 119, 97, 105, 116]⟩ = false := by rw [hE]; exact decide_eq_false e1
    have f2 : E.eq s ⟨#[98, 114, 101, 97, 107]⟩ = false := by rw [hE]; exact decide_eq_false e2
    have f3 : E.eq s ⟨#[99, 111, 110, 115, 116]⟩ = false := by rw [hE]; exact decide_eq_false e3
    have f4 : E.eq s ⟨#[99, 111, 110, 116, 105, 110, 117, 101]⟩ = false := by rw [hE]; exact decide_eq_false e4
    have f5 : E.eq s ⟨#[100, 101, 108, 101, 116, 101]⟩ = false := by rw [hE]; exact decide_eq_false e5
    have f6 : E.eq s ⟨#[101, 108, 115, 101]⟩ = false := by rw [hE]; exact decide_eq_false e6
    have f7 : E.eq s ⟨#[102, 97, 108, 115, 101]⟩ = false := by rw [hE]; exact decide_eq_false e7
    have f8 : E.eq s ⟨#[102, 105, 110, 97, 108, 108, 121]⟩ = false := by rw [hE]; exact decide_eq_false e8
    have f9 : E.eq s ⟨#[102, 111, 114]⟩ = false := by rw [hE]; exact decide_eq_false e9
    have f10 : E.eq s ⟨#[102, 117, 110, 99, 116, 105, 111, 110]⟩ = false := by rw [hE]; exact decide_eq_false e10
    have f11 : E.eq s ⟨#[105, 102]⟩ = true := by rw [hE]; exact decide_eq_true e11
    clear hE hc
    clear e0 e1 e2 e3 e4 e5 e6 e7 e8 e9 e10 e11
    clear hr
    cbv at f0 f1 f2 f3 f4 f5 f6 f7 f8 f9 f10 f11
    cbv
    simp only [f0]
    cbv
    simp only [f1]
    cbv
    simp only [f2]
    cbv
    simp only [f3]
    cbv
    simp only [f4]
    cbv
    simp only [f5]
    cbv
    simp only [f6]
    cbv
    simp only [f7]
    cbv
    simp only [f8]
    cbv
    simp only [f9]
    cbv
    simp only [f10]
    cbv
    simp only [f11]
    cbv
  by_cases e12 : s = ⟨#[105, 110]⟩
  · have hr : kwS.any (fun x => decide (s = x)) = true := by rw [e12]; decide +kernel
    rw [hr]
    refine ret_by tyT_ok g0_gr mixed (fun _ => 0) Tryd.func16 rfl (by kernel_rfl) (by kernel_rfl) rfl fun P G E hc hE => ?_
    have f0 : E.eq s ⟨#[97, 115, 121, 110, 99]⟩ = false := by rw [hE]; exact decide_eq_false e0
    have f1 : E.eq s ⟨#[97, 119, 97, 105, 116]⟩ = false := by rw [hE]; exact decide_eq_false e1
    have f2 : E.eq s ⟨#[98, 114, 101, 97, 107]⟩ = false := by rw [hE]; exact decide_eq_false e2
    have f3 : E.eq s ⟨#[99, 111, 110, 115, 116]⟩ = false := by rw [hE]; exact decide_eq_false e3
    have f4 : E.eq s ⟨#[99, 111, 110, 116, 105, 110, 117, 101]⟩ = false := by rw [hE]; exact decide_eq_false e4
    have f5 : E.eq s ⟨#[100, 101, 108, 101, 116, 101]⟩ = false := by rw [hE]; exact decide_eq_false e5
    have f6 : E.eq s ⟨#[101, 108, 115, 101]⟩ = false := by rw [hE]; exact decide_eq_false e6
    have f7 : E.eq s ⟨#[102, 97, 108, 115, 101]⟩ = false := by rw [hE]; exact decide_eq_false e7
    have f8 : E.eq s ⟨#[102, 105, 110, 97, 108, 108, 121]⟩ = false := by rw [hE]; exact decide_eq_false e8
    have f9 : E.eq s ⟨#[102, 111, 114]⟩ = false := by rw [hE]; exact decide_eq_false e9
    have f10 : E.eq s ⟨#[102, 117, 110, 99, 116, 105, 111, 110]⟩ = false := by rw [hE]; exact decide_eq_false e10
    have f11 : E.eq s ⟨#[105, 102]⟩ = false := by rw [hE]; exact decide_eq_false e11
    have f12 : E.eq s ⟨#[105, 110]⟩ = true := by rw [hE]; exact decide_eq_true e12
    clear hE hc
    clear e0 e1 e2 e3 e4 e5 e6 e7 e8 e9 e10 e11 e12
    clear hr
    cbv at f0 f1 f2 f3 f4 f5 f6 f7 f8 f9 f10 f11 f12
    cbv
    simp only [f0]
    cbv
    simp only [f1]
    cbv
    simp only [f2]
    cbv
    simp only [f3]
    cbv
    simp only [f4]
    cbv
    simp only [f5]
    cbv
    simp only [f6]
    cbv
    simp only [f7]
    cbv
    simp only [f8]
    cbv
    simp only [f9]
    cbv
    simp only [f10]
    cbv
    simp only [f11]
    cbv
    simp only [f12]
    cbv
  by_cases e13 : s = ⟨#[105, 110, 115, 116, 97, 110, 99, 101, 111, 102]⟩
  · have hr : kwS.any (fun x => decide (s = x)) = true := by rw [e13]; decide +kernel
    rw [hr]
    refine ret_by tyT_ok g0_gr mixed (fun _ => 0) Tryd.func16 rfl (by kernel_rfl) (by kernel_rfl) rfl fun P G E hc hE => ?_
    have f0 : E.eq s ⟨#[97, 115, 121, 110, 99]⟩ = false := by rw [hE]; exact decide_eq_false e0
    have f1 : E.eq s ⟨#[97, 119, 97, 105, 116]⟩ = false := by rw [hE]; exact decide_eq_false e1
    have f2 : E.eq s ⟨#[98, 114, 101, 97, 107]⟩ = false := by rw [hE]; exact decide_eq_false e2
    have f3 : E.eq s ⟨#[99, 111, 110, 115, 116]⟩ = false := by rw [hE]; exact decide_eq_false e3
    have f4 : E.eq s ⟨#[99, 111, 110, 116, 105, 110, 117, 101]⟩ = false := by rw [hE]; exact decide_eq_false e4
    have f5 : E.eq s ⟨#[100, 101, 108, 101, 116, 101]⟩ = false := by rw [hE]; exact decide_eq_false e5
    have f6 : E.eq s ⟨#[101, 108, 115, 101]⟩ = false := by rw [hE]; exact decide_eq_false e6
    have f7 : E.eq s ⟨#[102, 97, 108, 115, 101]⟩ = false := by rw [hE]; exact decide_eq_false e7
    have f8 : E.eq s ⟨#[102, 105, 110, 97, 108, 108, 121]⟩ = false := by rw [hE]; exact decide_eq_false e8
    have f9 : E.eq s ⟨#[102, 111, 114]⟩ = false := by rw [hE]; exact decide_eq_false e9
    have f10 : E.eq s ⟨#[102, 117, 110, 99, 116, 105, 111, 110]⟩ = false := by rw [hE]; exact decide_eq_false e10
    have f11 : E.eq s ⟨#[105, 102]⟩ = false := by rw [hE]; exact decide_eq_false e11
    have f12 : E.eq s ⟨#[105, 110]⟩ = false := by rw [hE]; exact decide_eq_false e12
    have f13 : E.eq s ⟨#[105, 110, 115, 116, 97, 110, 99, 101, 111, 102]⟩ = true := by rw [hE]; exact decide_eq_true e13
    clear hE hc
    clear e0 e1 e2 e3 e4 e5 e6 e7 e8 e9 e10 e11 e12 e13
    clear hr
    cbv at f0 f1 f2 f3 f4 f5 f6 f7 f8 f9 f10 f11 f12 f13
    cbv
    simp only [f0]
    cbv
    simp only [f1]
    cbv
    simp only [f2]
    cbv
    simp only [f3]
    cbv
    simp only [f4]
    cbv
    simp only [f5]
    cbv
    simp only [f6]
    cbv
    simp only [f7]
    cbv
    simp only [f8]
    cbv
    simp only [f9]
    cbv
    simp only [f10]
    cbv
    simp only [f11]
    cbv
    simp only [f12]
    cbv
    simp only [f13]
    cbv
  by_cases e14 : s = ⟨#[108, 101, 116]⟩
  · have hr : kwS.any (fun x => decide (s = x)) = true := by rw [e14]; decide +kernel
    rw [hr]
    refine ret_by tyT_ok g0_gr mixed (fun _ => 0) Tryd.func16 rfl (by kernel_rfl) (by kernel_rfl) rfl fun P G E hc hE => ?_
    have f0 : E.eq s ⟨#[97, 115, 121, 110, 99]⟩ = false := by rw [hE]; exact decide_eq_false e0
    have f1 : E.eq s ⟨#[97, 119, 97, 105, 116]⟩ = false := by rw [hE]; exact decide_eq_false e1
    have f2 : E.eq s ⟨#[98, 114, 101, 97, 107]⟩ = false := by rw [hE]; exact decide_eq_false e2
    have f3 : E.eq s ⟨#[99, 111, 110, 115, 116]⟩ = false := by rw [hE]; exact decide_eq_false e3
    have f4 : E.eq s ⟨#[99, 111, 110, 116, 105, 110, 117, 101]⟩ = false := by rw [hE]; exact decide_eq_false e4
    have f5 : E.eq s ⟨#[100, 101, 108, 101, 116, 101]⟩ = false := by rw [hE]; exact decide_eq_false e5
    have f6 : E.eq s ⟨#[101, 108, 115, 101]⟩ = false := by rw [hE]; exact decide_eq_false e6
    have f7 : E.eq s ⟨#[102, 97, 108, 115, 101]⟩ = false := by rw [hE]; exact decide_eq_false e7
    have f8 : E.eq s ⟨#[102, 105, 110, 97, 108, 108, 121]⟩ = false := by rw [hE]; exact decide_eq_false e8
    have f9 : E.eq s ⟨#[102, 111, 114]⟩ = false := by rw [hE]; exact decide_eq_false e9
    have f10 : E.eq s ⟨#[102, 117, 110, 99, 116, 105, 111, 110]⟩ = false := by rw [hE]; exact decide_eq_false e10
    have f11 : E.eq s ⟨#[105, 102]⟩ = false := by rw [hE]; exact decide_eq_false e11
    have f12 : E.eq s ⟨#[105, 110]⟩ = false := by rw [hE]; exact decide_eq_false e12
    have f13 : E.eq s ⟨#[105, 110, 115, 116, 97, 110, 99, 101, 111, 102]⟩ = false := by rw [hE]; exact decide_eq_false e13
    have f14 : E.eq s ⟨#[108, 101, 116]⟩ = true := by rw [hE]; exact decide_eq_true e14
    clear hE hc
    clear e0 e1 e2 e3 e4 e5 e6 e7 e8 e9 e10 e11 e12 e13 e14
    clear hr
    cbv at f0 f1 f2 f3 f4 f5 f6 f7 f8 f9 f10 f11 f12 f13 f14
    cbv
    simp only [f0]
    cbv
    simp only [f1]
    cbv
    simp only [f2]
    cbv
    simp only [f3]
    cbv
    simp only [f4]
    cbv
    simp only [f5]
    cbv
    simp only [f6]
    cbv
    simp only [f7]
    cbv
    simp only [f8]
    cbv
    simp only [f9]
    cbv
    simp only [f10]
    cbv
    simp only [f11]
    cbv
    simp only [f12]
    cbv
    simp only [f13]
    cbv
    simp only [f14]
    cbv
  by_cases e15 : s = ⟨#[110, 101, 119]⟩
  · have hr : kwS.any (fun x => decide (s = x)) = true := by rw [e15]; decide +kernel
    rw [hr]
    refine ret_by tyT_ok g0_gr mixed (fun _ => 0) Tryd.func16 rfl (by kernel_rfl) (by kernel_rfl) rfl fun P G E hc hE => ?_
    have f0 : E.eq s ⟨#[97, 115, 121, 110, 99]⟩ = false := by rw [hE]; exact decide_eq_false e0
    have f1 : E.eq s ⟨#[97, 119, 97, 105, 116]⟩ = false := by rw [hE]; exact decide_eq_false e1
    have f2 : E.eq s ⟨#[98, 114, 101, 97, 107]⟩ = false := by rw [hE]; exact decide_eq_false e2
    have f3 : E.eq s ⟨#[99, 111, 110, 115, 116]⟩ = false := by rw [hE]; exact decide_eq_false e3
    have f4 : E.eq s ⟨#[99, 111, 110, 116, 105, 110, 117, 101]⟩ = false := by rw [hE]; exact decide_eq_false e4
    have f5 : E.eq s ⟨#[100, 101, 108, 101, 116, 101]⟩ = false := by rw [hE]; exact decide_eq_false e5
    have f6 : E.eq s ⟨#[101, 108, 115, 101]⟩ = false := by rw [hE]; exact decide_eq_false e6
    have f7 : E.eq s ⟨#[102, 97, 108, 115, 101]⟩ = false := by rw [hE]; exact decide_eq_false e7
    have f8 : E.eq s ⟨#[102, 105, 110, 97, 108, 108, 121]⟩ = false := by rw [hE]; exact decide_eq_false e8
    have f9 : E.eq s ⟨#[102, 111, 114]⟩ = false := by rw [hE]; exact decide_eq_false e9
    have f10 : E.eq s ⟨#[102, 117, 110, 99, 116, 105, 111, 110]⟩ = false := by rw [hE]; exact decide_eq_false e10
    have f11 : E.eq s ⟨#[105, 102]⟩ = false := by rw [hE]; exact decide_eq_false e11
    have f12 : E.eq s ⟨#[105, 110]⟩ = false := by rw [hE]; exact decide_eq_false e12
    have f13 : E.eq s ⟨#[105, 110, 115, 116, 97, 110, 99, 101, 111, 102]⟩ = false := by rw [hE]; exact decide_eq_false e13
    have f14 : E.eq s ⟨#[108, 101, 116]⟩ = false := by rw [hE]; exact decide_eq_false e14
    have f15 : E.eq s ⟨#[110, 101, 119]⟩ = true := by rw [hE]; exact decide_eq_true e15
    clear hE hc
    clear e0 e1 e2 e3 e4 e5 e6 e7 e8 e9 e10 e11 e12 e13 e14 e15
    clear hr
    cbv at f0 f1 f2 f3 f4 f5 f6 f7 f8 f9 f10 f11 f12 f13 f14 f15
    cbv
    simp only [f0]
    cbv
    simp only [f1]
    cbv
    simp only [f2]
    cbv
    simp only [f3]
    cbv
    simp only [f4]
    cbv
    simp only [f5]
    cbv
    simp only [f6]
    cbv
    simp only [f7]
    cbv
    simp only [f8]
    cbv
    simp only [f9]
    cbv
    simp only [f10]
    cbv
    simp only [f11]
    cbv
    simp only [f12]
    cbv
    simp only [f13]
    cbv
    simp only [f14]
    cbv
    simp only [f15]
    cbv
  by_cases e16 : s = ⟨#[110, 117, 108, 108]⟩
  · have hr : kwS.any (fun x => decide (s = x)) = true := by rw [e16]; decide +kernel
    rw [hr]
    refine ret_by tyT_ok g0_gr mixed (fun _ => 0) Tryd.func16 rfl (by kernel_rfl) (by kernel_rfl) rfl fun P G E hc hE => ?_
    have f0 : E.eq s ⟨#[97, 115, 121, 110, 99]⟩ = false := by rw [hE]; exact decide_eq_false e0
    have f1 : E.eq s ⟨#[97, 119, 97, 105, 116]⟩ = false := by rw [hE]; exact decide_eq_false e1
    have f2 : E.eq s ⟨#[98, 114, 101, 97, 107]⟩ = false := by rw [hE]; exact decide_eq_false e2
    have f3 : E.eq s ⟨#[99, 111, 110, 115, 116]⟩ = false := by rw [hE]; exact decide_eq_false e3
    have f4 : E.eq s ⟨#[99, 111, 110, 116, 105, 110, 117, 101]⟩ = false := by rw [hE]; exact decide_eq_false e4
    have f5 : E.eq s ⟨#[100, 101, 108, 101, 116, 101]⟩ = false := by rw [hE]; exact decide_eq_false e5
    have f6 : E.eq s ⟨#[101, 108, 115, 101]⟩ = false := by rw [hE]; exact decide_eq_false e6
    have f7 : E.eq s ⟨#[102, 97, 108, 115, 101]⟩ = false := by rw [hE]; exact decide_eq_false e7
    have f8 : E.eq s ⟨#[102, 105, 110, 97, 108, 108, 121]⟩ = false := by rw [hE]; exact decide_eq_false e8
    have f9 : E.eq s ⟨#[102, 111, 114]⟩ = false := by rw [hE]; exact decide_eq_false e9
    have f10 : E.eq s ⟨#[102, 117, 110, 99, 116, 105, 111, 110]⟩ = false := by rw [hE]; exact decide_eq_false e10
    have f11 : E.eq s ⟨#[105, 102]⟩ = false := by rw [hE]; exact decide_eq_false e11
    have f12 : E.eq s ⟨#[105, 110]⟩ = false := by rw [hE]; exact decide_eq_false e12
    have f13 : E.eq s ⟨#[105, 110, 115, 116, 97, 110, 99, 101, 111, 102]⟩ = false := by rw [hE]; exact decide_eq_false e13
    have f14 : E.eq s ⟨#[108, 101, 116]⟩ = false := by rw [hE]; exact decide_eq_false e14
    have f15 : E.eq s ⟨#[110, 101, 119]⟩ = false := by rw [hE]; exact decide_eq_false e15
    have f16 : E.eq s ⟨#[110, 117, 108, 108]⟩ = true := by rw [hE]; exact decide_eq_true e16
    clear hE hc
    clear e0 e1 e2 e3 e4 e5 e6 e7 e8 e9 e10 e11 e12 e13 e14 e15 e16
    clear hr
    cbv at f0 f1 f2 f3 f4 f5 f6 f7 f8 f9 f10 f11 f12 f13 f14 f15 f16
    cbv
    simp only [f0]
    cbv
    simp only [f1]
    cbv
    simp only [f2]
    cbv
    simp only [f3]
    cbv
    simp only [f4]
    cbv
    simp only [f5]
    cbv
    simp only [f6]
    cbv
    simp only [f7]
    cbv
    simp only [f8]
    cbv
    simp only [f9]
    cbv
    simp only [f10]
    cbv
    simp only [f11]
    cbv
    simp only [f12]
    cbv
    simp only [f13]
    cbv
    simp only [f14]
    cbv
    simp only [f15]
    cbv
    simp only [f16]
    cbv
  by_cases e17 : s = ⟨#[111, 102]⟩
  · have hr : kwS.any (fun x => decide (s = x)) = true := by rw [e17]; decide +kernel
    rw [hr]
    refine ret_by tyT_ok g0_gr mixed (fun _ => 0) Tryd.func16 rfl (by kernel_rfl) (by kernel_rfl) rfl fun P G E hc hE => ?_
    have f0 : E.eq s ⟨#[97, 115, 121, 110, 99]⟩ = false := by rw [hE]; exact decide_eq_false e0
    have f1 : E.eq s ⟨#[97, 119, 97, 105, 116]⟩ = false := by rw [hE]; exact decide_eq_false e1
    have f2 : E.eq s ⟨#[98, 114, 101, 97, 107]⟩ = false := by rw [hE]; exact decide_eq_false e2
    have f3 : E.eq s ⟨#[99, 111, 110, 115, 116]⟩ = false := by rw [hE]; exact decide_eq_false e3
    have f4 : E.eq s ⟨#[99, 111, 110, 116, 105, 110, 117, 101]⟩ = false := by rw [hE]; exact decide_eq_false e4
    have f5 : E.eq s ⟨#[100, 101, 108, 101, 116, 101]⟩ = false := by rw [hE]; exact decide_eq_false e5
    have f6 : E.eq s ⟨#[101, 108, 115, 101]⟩ = false := by rw [hE]; exact decide_eq_false e6
    have f7 : E.eq s ⟨#[102, 97, 108, 115, 101]⟩ = false := by rw [hE]; exact decide_eq_false e7
    have f8 : E.eq s ⟨#[102, 105, 110, 97, 108, 108, 121]⟩ = false := by rw [hE]; exact decide_eq_false e8
    have f9 : E.eq s ⟨#[102, 111, 114]⟩ = false := by rw [hE]; exact decide_eq_false e9
    have f10 : E.eq s ⟨#[102, 117, 110, 99, 116, 105, 111, 110]⟩ = false := by rw [hE]; exact decide_eq_false e10
    have f11 : E.eq s ⟨#[105, 102]⟩ = false := by rw [hE]; exact decide_eq_false e11
    have f12 : E.eq s ⟨#[105, 110]⟩ = false := by rw [hE]; exact decide_eq_false e12
    have f13 : E.eq s ⟨#[105, 110, 115, 116, 97, 110, 99, 101, 111, 102]⟩ = false := by rw [hE]; exact decide_eq_false e13
    have f14 : E.eq s ⟨#[108, 101, 116]⟩ = false := by rw [hE]; exact decide_eq_false e14
    have f15 : E.eq s ⟨#[110, 101, 119]⟩ = false := by rw [hE]; exact decide_eq_false e15
    have f16 : E.eq s ⟨#[110, 117, 108, 108]⟩ = false := by rw [hE]; exact decide_eq_false e16
    have f17 : E.eq s ⟨#[111, 102]⟩ = true := by rw [hE]; exact decide_eq_true e17
    clear hE hc
    clear e0 e1 e2 e3 e4 e5 e6 e7 e8 e9 e10 e11 e12 e13 e14 e15 e16 e17
    clear hr
    cbv at f0 f1 f2 f3 f4 f5 f6 f7 f8 f9 f10 f11 f12 f13 f14 f15 f16 f17
    cbv
    simp only [f0]
    cbv
    simp only [f1]
    cbv
    simp only [f2]
    cbv
    simp only [f3]
    cbv
    simp only [f4]
    cbv
    simp only [f5]
    cbv
    simp only [f6]
    cbv
    simp only [f7]
    cbv
    simp only [f8]
    cbv
    simp only [f9]
    cbv
    simp only [f10]
    cbv
    simp only [f11]
    cbv
    simp only [f12]
    cbv
    simp only [f13]
    cbv
    simp only [f14]
    cbv
    simp only [f15]
    cbv
    simp only [f16]
    cbv
    simp only [f17]
    cbv
  by_cases e18 : s = ⟨#[114, 101, 116, 117, 114, 110]⟩
  · have hr : kwS.any (fun x => decide (s = x)) = true := by rw [e18]; decide +kernel
    rw [hr]
    refine ret_by tyT_ok g0_gr mixed (fun _ => 0) Tryd.func16 rfl (by kernel_rfl) (by kernel_rfl) rfl fun P G E hc hE => ?_
    have f0 : E.eq s ⟨#[97, 115, 121, 110, 99]⟩ = false := by rw [hE]; exact decide_eq_false e0
    have f1 : E.eq s ⟨#[97, 119, 97, 105, 116]⟩ = false := by rw [hE]; exact decide_eq_false e1
    have f2 : E.eq s ⟨#[98, 114, 101, 97, 107]⟩ = false := by rw [hE]; exact decide_eq_false e2
    have f3 : E.eq s ⟨#[99, 111, 110, 115, 116]⟩ = false := by rw [hE]; exact decide_eq_false e3
    have f4 : E.eq s ⟨#[99, 111, 110, 116, 105, 110, 117, 101]⟩ = false := by rw [hE]; exact decide_eq_false e4
    have f5 : E.eq s ⟨#[100, 101, 108, 101, 116, 101]⟩ = false := by rw [hE]; exact decide_eq_false e5
    have f6 : E.eq s ⟨#[101, 108, 115, 101]⟩ = false := by rw [hE]; exact decide_eq_false e6
    have f7 : E.eq s ⟨#[102, 97, 108, 115, 101]⟩ = false := by rw [hE]; exact decide_eq_false e7
    have f8 : E.eq s ⟨#[102, 105, 110, 97, 108, 108, 121]⟩ = false := by rw [hE]; exact decide_eq_false e8
    have f9 : E.eq s ⟨#[102, 111, 114]⟩ = false := by rw [hE]; exact decide_eq_false e9
    have f10 : E.eq s ⟨#[102, 117, 110, 99, 116, 105, 111, 110]⟩ = false := by rw [hE]; exact decide_eq_false e10
    have f11 : E.eq s ⟨#[105, 102]⟩ = false := by rw [hE]; exact decide_eq_false e11
    have f12 : E.eq s ⟨#[105, 110]⟩ = false := by rw [hE]; exact decide_eq_false e12
    have f13 : E.eq s ⟨#[105, 110, 115, 116, 97, 110, 99, 101, 111, 102]⟩ = false := by rw [hE]; exact decide_eq_false e13
    have f14 : E.eq s ⟨#[108, 101, 116]⟩ = false := by rw [hE]; exact decide_eq_false e14
    have f15 : E.eq s ⟨#[110, 101, 119]⟩ = false := by rw [hE]; exact decide_eq_false e15
    have f16 : E.eq s ⟨#[110, 117, 108, 108]⟩ = false := by rw [hE]; exact decide_eq_false e16
    have f17 : E.eq s ⟨#[111, 102]⟩ = false := by rw [hE]; exact decide_eq_false e17
    have f18 : E.eq s ⟨#[114, 101, 116, 117, 114, 110]⟩ = true := by rw [hE]; exact decide_eq_true e18
    clear hE hc
    clear e0 e1 e2 e3 e4 e5 e6 e7 e8 e9 e10 e11 e12 e13 e14 e15 e16 e17 e18
    clear hr
    cbv at f0 f1 f2 f3 f4 f5 f6 f7 f8 f9 f10 f11 f12 f13 f14 f15 f16 f17 f18
    cbv
    simp only [f0]
    cbv
    simp only [f1]
    cbv
    simp only [f2]
    cbv
    simp only [f3]
    cbv
    simp only [f4]
    cbv
    simp only [f5]
    cbv
    simp only [f6]
    cbv
    simp only [f7]
    cbv
    simp only [f8]
    cbv
    simp only [f9]
    cbv
    simp only [f10]
    cbv
    simp only [f11]
    cbv
    simp only [f12]
    cbv
    simp only [f13]
    cbv
    simp only [f14]
    cbv
    simp only [f15]
    cbv
    simp only [f16]
    cbv
    simp only [f17]
    cbv
    simp only [f18]
    cbv
  by_cases e19 : s = ⟨#[116, 104, 105, 115]⟩
  · have hr : kwS.any (fun x => decide (s = x)) = true := by rw [e19]; decide +kernel
    rw [hr]
    refine ret_by tyT_ok g0_gr mixed (fun _ => 0) Tryd.func16 rfl (by kernel_rfl) (by kernel_rfl) rfl fun P G E hc hE => ?_
    have f0 : E.eq s ⟨#[97, 115, 121, 110, 99]⟩ = false := by rw [hE]; exact decide_eq_false e0
    have f1 : E.eq s ⟨#[97, 119, 97, 105, 116]⟩ = false := by rw [hE]; exact decide_eq_false e1
    have f2 : E.eq s ⟨#[98, 114, 101, 97, 107]⟩ = false := by rw [hE]; exact decide_eq_false e2
    have f3 : E.eq s ⟨#[99, 111, 110, 115, 116]⟩ = false := by rw [hE]; exact decide_eq_false e3
    have f4 : E.eq s ⟨#[99, 111, 110, 116, 105, 110, 117, 101]⟩ = false := by rw [hE]; exact decide_eq_false e4
    have f5 : E.eq s ⟨#[100, 101, 108, 101, 116, 101]⟩ = false := by rw [hE]; exact decide_eq_false e5
    have f6 : E.eq s ⟨#[101, 108, 115, 101]⟩ = false := by rw [hE]; exact decide_eq_false e6
    have f7 : E.eq s ⟨#[102, 97, 108, 115, 101]⟩ = false := by rw [hE]; exact decide_eq_false e7
    have f8 : E.eq s ⟨#[102, 105, 110, 97, 108, 108, 121]⟩ = false := by rw [hE]; exact decide_eq_false e8
    have f9 : E.eq s ⟨#[102, 111, 114]⟩ = false := by rw [hE]; exact decide_eq_false e9
    have f10 : E.eq s ⟨#[102, 117, 110, 99, 116, 105, 111, 110]⟩ = false := by rw [hE]; exact decide_eq_false e10
    have f11 : E.eq s ⟨#[105, 102]⟩ = false := by rw [hE]; exact decide_eq_false e11
    have f12 : E.eq s ⟨#[105, 110]⟩ = false := by rw [hE]; exact decide_eq_false e12
    have f13 : E.eq s ⟨#[105, 110, 115, 116, 97, 110, 99, 101, 111, 102]⟩ = false := by rw [hE]; exact decide_eq_false e13
    have f14 : E.eq s ⟨#[108, 101, 116]⟩ = false := by rw [hE]; exact decide_eq_false e14
    have f15 : E.eq s ⟨#[110, 101, 119]⟩ = false := by rw [hE]; exact decide_eq_false e15
    have f16 : E.eq s ⟨#[110, 117, 108, 108]⟩ = false := by rw [hE]; exact decide_eq_false e16
    have f17 : E.eq s ⟨#[111, 102]⟩ = false := by rw [hE]; exact decide_eq_false e17
    have f18 : E.eq s ⟨#[114, 101, 116, 117, 114, 110]⟩ = false := by rw [hE]; exact decide_eq_false e18
    have f19 : E.eq s ⟨#[116, 104, 105, 115]⟩ = true := by rw [hE]; exact decide_eq_true e19
    clear hE hc
    clear e0 e1 e2 e3 e4 e5 e6 e7 e8 e9 e10 e11 e12 e13 e14 e15 e16 e17 e18 e19
    clear hr
    cbv at f0 f1 f2 f3 f4 f5 f6 f7 f8 f9 f10 f11 f12 f13 f14 f15 f16 f17 f18 f19
    cbv
    simp only [f0]
    cbv
    simp only [f1]
    cbv
    simp only [f2]
    cbv
    simp only [f3]
    cbv
    simp only [f4]
    cbv
    simp only [f5]
    cbv
    simp only [f6]
    cbv
    simp only [f7]
    cbv
    simp only [f8]
    cbv
    simp only [f9]
    cbv
    simp only [f10]
    cbv
    simp only [f11]
    cbv
    simp only [f12]
    cbv
    simp only [f13]
    cbv
    simp only [f14]
    cbv
    simp only [f15]
    cbv
    simp only [f16]
    cbv
    simp only [f17]
    cbv
    simp only [f18]
    cbv
    simp only [f19]
    cbv
  by_cases e20 : s = ⟨#[116, 104, 114, 111, 119]⟩
  · have hr : kwS.any (fun x => decide (s = x)) = true := by rw [e20]; decide +kernel
    rw [hr]
    refine ret_by tyT_ok g0_gr mixed (fun _ => 0) Tryd.func16 rfl (by kernel_rfl) (by kernel_rfl) rfl fun P G E hc hE => ?_
    have f0 : E.eq s ⟨#[97, 115, 121, 110, 99]⟩ = false := by rw [hE]; exact decide_eq_false e0
    have f1 : E.eq s ⟨#[97, 119, 97, 105, 116]⟩ = false := by rw [hE]; exact decide_eq_false e1
    have f2 : E.eq s ⟨#[98, 114, 101, 97, 107]⟩ = false := by rw [hE]; exact decide_eq_false e2
    have f3 : E.eq s ⟨#[99, 111, 110, 115, 116]⟩ = false := by rw [hE]; exact decide_eq_false e3
    have f4 : E.eq s ⟨#[99, 111, 110, 116, 105, 110, 117, 101]⟩ = false := by rw [hE]; exact decide_eq_false e4
    have f5 : E.eq s ⟨#[100, 101, 108, 101, 116, 101]⟩ = false := by rw [hE]; exact decide_eq_false e5
    have f6 : E.eq s ⟨#[101, 108, 115, 101]⟩ = false := by rw [hE]; exact decide_eq_false e6
    have f7 : E.eq s ⟨#[102, 97, 108, 115, 101]⟩ = false := by rw [hE]; exact decide_eq_false e7
    have f8 : E.eq s ⟨#[102, 105, 110, 97, 108, 108, 121]⟩ = false := by rw [hE]; exact decide_eq_false e8
    have f9 : E.eq s ⟨#[102, 111, 114]⟩ = false := by rw [hE]; exact decide_eq_false e9
    have f10 : E.eq s ⟨#[102, 117, 110, 99, 116, 105, 111, 110]⟩ = false := by rw [hE]; exact decide_eq_false e10
    have f11 : E.eq s ⟨#[105, 102]⟩ = false := by rw [hE]; exact decide_eq_false e11
    have f12 : E.eq s ⟨#[105, 110]⟩ = false := by rw [hE]; exact decide_eq_false e12
    have f13 : E.eq s ⟨#[105, 110, 115, 116, 97, 110, 99, 101, 111, 102]⟩ = false := by rw [hE]; exact decide_eq_false e13
    have f14 : E.eq s ⟨#[108, 101, 116]⟩ = false := by rw [hE]; exact decide_eq_false e14
    have f15 : E.eq s ⟨#[110, 101, 119]⟩ = false := by rw [hE]; exact decide_eq_false e15
    have f16 : E.eq s ⟨#[110, 117, 108, 108]⟩ = false := by rw [hE]; exact decide_eq_false e16
    have f17 : E.eq s ⟨#[111, 102]⟩ = false := by rw [hE]; exact decide_eq_false e17
    have f18 : E.eq s ⟨#[114, 101, 116, 117, 114, 110]⟩ = false := by rw [hE]; exact decide_eq_false e18
    have f19 : E.eq s ⟨#[116, 104, 105, 115]⟩ = false := by rw [hE]; exact decide_eq_false e19
    have f20 : E.eq s ⟨#[116, 104, 114, 111, 119]⟩ = true := by rw [hE]; exact decide_eq_true e20
    clear hE hc
    clear e0 e1 e2 e3 e4 e5 e6 e7 e8 e9 e10 e11 e12 e13 e14 e15 e16 e17 e18 e19 e20
    clear hr
    cbv at f0 f1 f2 f3 f4 f5 f6 f7 f8 f9 f10 f11 f12 f13 f14 f15 f16 f17 f18 f19 f20
    cbv
    simp only [f0]
    cbv
    simp only [f1]
    cbv
    simp only [f2]
    cbv
    simp only [f3]
    cbv
    simp only [f4]
    cbv
    simp only [f5]
    cbv
    simp only [f6]
    cbv
    simp only [f7]
    cbv
    simp only [f8]
    cbv
    simp only [f9]
    cbv
    simp only [f10]
    cbv
    simp only [f11]
    cbv
    simp only [f12]
    cbv
    simp only [f13]
    cbv
    simp only [f14]
    cbv
    simp only [f15]
    cbv
    simp only [f16]
    cbv
    simp only [f17]
    cbv
    simp only [f18]
    cbv
    simp only [f19]
    cbv
    simp only [f20]
    cbv
  by_cases e21 : s = ⟨#[116, 114, 117, 101]⟩
  · have hr : kwS.any (fun x => decide (s = x)) = true := by rw [e21]; decide +kernel
    rw [hr]
    refine ret_by tyT_ok g0_gr mixed (fun _ => 0) Tryd.func16 rfl (by kernel_rfl) (by kernel_rfl) rfl fun P G E hc hE => ?_
    have f0 : E.eq s ⟨#[97, 115, 121, 110, 99]⟩ = false := by rw [hE]; exact decide_eq_false e0
    have f1 : E.eq s ⟨#[97, 119, 97, 105, 116]⟩ = false := by rw [hE]; exact decide_eq_false e1
    have f2 : E.eq s ⟨#[98, 114, 101, 97, 107]⟩ = false := by rw [hE]; exact decide_eq_false e2
    have f3 : E.eq s ⟨#[99, 111, 110, 115, 116]⟩ = false := by rw [hE]; exact decide_eq_false e3
    have f4 : E.eq s ⟨#[99, 111, 110, 116, 105, 110, 117, 101]⟩ = false := by rw [hE]; exact decide_eq_false e4
    have f5 : E.eq s ⟨#[100, 101, 108, 101, 116, 101]⟩ = false := by rw [hE]; exact decide_eq_false e5
    have f6 : E.eq s ⟨#[101, 108, 115, 101]⟩ = false := by rw [hE]; exact decide_eq_false e6
    have f7 : E.eq s ⟨#[102, 97, 108, 115, 101]⟩ = false := by rw [hE]; exact decide_eq_false e7
    have f8 : E.eq s ⟨#[102, 105, 110, 97, 108, 108, 121]⟩ = false := by rw [hE]; exact decide_eq_false e8
    have f9 : E.eq s ⟨#[102, 111, 114]⟩ = false := by rw [hE]; exact decide_eq_false e9
    have f10 : E.eq s ⟨#[102, 117, 110, 99, 116, 105, 111, 110]⟩ = false := by rw [hE]; exact decide_eq_false e10
    have f11 : E.eq s ⟨#[105, 102]⟩ = false := by rw [hE]; exact decide_eq_false e11
    have f12 : E.eq s ⟨#[105, 110]⟩ = false := by rw [hE]; exact decide_eq_false e12
    have f13 : E.eq s ⟨#[105, 110, 115, 116, 97, 110, 99, 101, 111, 102]⟩ = false := by rw [hE]; exact decide_eq_false e13
    have f14 : E.eq s ⟨#[108, 101, 116]⟩ = false := by rw [hE]; exact decide_eq_false e14
    have f15 : E.eq s ⟨#[110, 101, 119]⟩ = false := by rw [hE]; exact decide_eq_false e15
    have f16 : E.eq s ⟨#[110, 117, 108, 108]⟩ = false := by rw [hE]; exact decide_eq_false e16
    have f17 : E.eq s ⟨#[111, 102]⟩ = false := by rw [hE]; exact decide_eq_false e17
    have f18 : E.eq s ⟨#[114, 101, 116, 117, 114, 110]⟩ = false := by rw [hE]; exact decide_eq_false e18
    have f19 : E.eq s ⟨#[116, 104, 105, 115]⟩ = false := by rw [hE]; exact decide_eq_false e19
    have f20 : E.eq s ⟨#[116, 104, 114, 111, 119]⟩ = false := by rw [hE]; exact decide_eq_false e20
    have f21 : E.eq s ⟨#[116, 114, 117, 101]⟩ = true := by rw [hE]; exact decide_eq_true e21
    clear hE hc
    clear e0 e1 e2 e3 e4 e5 e6 e7 e8 e9 e10 e11 e12 e13 e14 e15 e16 e17 e18 e19 e20 e21
    clear hr
    cbv at f0 f1 f2 f3 f4 f5 f6 f7 f8 f9 f10 f11 f12 f13 f14 f15 f16 f17 f18 f19 f20 f21
    cbv
    simp only [f0]
    cbv
    simp only [f1]
    cbv
    simp only [f2]
    cbv
    simp only [f3]
    cbv
    simp only [f4]
    cbv
    simp only [f5]
    cbv
    simp only [f6]
    cbv
    simp only [f7]
    cbv
    simp only [f8]
    cbv
    simp only [f9]
    cbv
    simp only [f10]
    cbv
    simp only [f11]
    cbv
    simp only [f12]
    cbv
    simp only [f13]
    cbv
    simp only [f14]
    cbv
    simp only [f15]
    cbv
    simp only [f16]
    cbv
    simp only [f17]
    cbv
    simp only [f18]
    cbv
    simp only [f19]
    cbv
    simp only [f20]
    cbv
    simp only [f21]
    cbv
  by_cases e22 : s = ⟨#[116, 114, 121]⟩
  · have hr : kwS.any (fun x => decide (s = x)) = true := by rw [e22]; decide +kernel
    rw [hr]
    refine ret_by tyT_ok g0_gr mixed (fun _ => 0) Tryd.func16 rfl (by kernel_rfl) (by kernel_rfl) rfl fun P G E hc hE => ?_
    have f0 : E.eq s ⟨#[97, 115, 121, 110, 99]⟩ = false := by rw [hE]; exact decide_eq_false e0
    have f1 : E.eq s ⟨#[97, 119, 97, 105, 116]⟩ = false := by rw [hE]; exact decide_eq_false e1
    have f2 : E.eq s ⟨#[98, 114, 101, 97, 107]⟩ = false := by rw [hE]; exact decide_eq_false e2
    have f3 : E.eq s ⟨#[99, 111, 110, 115, 116]⟩ = false := by rw [hE]; exact decide_eq_false e3
    have f4 : E.eq s ⟨#[99, 111, 110, 116, 105, 110, 117, 101]⟩ = false := by rw [hE]; exact decide_eq_false e4
    have f5 : E.eq s ⟨#[100, 101, 108, 101, 116, 101]⟩ = false := by rw [hE]; exact decide_eq_false e5
    have f6 : E.eq s ⟨#[101, 108, 115, 101]⟩ = false := by rw [hE]; exact decide_eq_false e6
    have f7 : E.eq s ⟨#[102, 97, 108, 115, 101]⟩ = false := by rw [hE]; exact decide_eq_false e7
    have f8 : E.eq s ⟨#[102, 105, 110, 97, 108, 108, 121]⟩ = false := by rw [hE]; exact decide_eq_false e8
    have f9 : E.eq s ⟨#[102, 111, 114]⟩ = false := by rw [hE]; exact decide_eq_false e9
    have f10 : E.eq s ⟨#[102, 117, 110, 99, 116, 105, 111, 110]⟩ = false := by rw [hE]; exact decide_eq_false e10
    have f11 : E.eq s ⟨#[105, 102]⟩ = false := by rw [hE]; exact decide_eq_false e11
    have f12 : E.eq s ⟨#[105, 110]⟩ = false := by rw [hE]; exact decide_eq_false e12
    have f13 : E.eq s ⟨#[105, 110, 115, 116, 97, 110, 99, 101, 111, 102]⟩ = false := by rw [hE]; exact decide_eq_false e13
    have f14 : E.eq s ⟨#[108, 101, 116]⟩ = false := by rw [hE]; exact decide_eq_false e14
    have f15 : E.eq s ⟨#[110, 101, 119]⟩ = false := by rw [hE]; exact decide_eq_false e15
    have f16 : E.eq s ⟨#[110, 117, 108, 108]⟩ = false := by rw [hE]; exact decide_eq_false e16
    have f17 : E.eq s ⟨#[111, 102]⟩ = false := by rw [hE]; exact decide_eq_false e17
    have f18 : E.eq s ⟨#[114, 101, 116, 117, 114, 110]⟩ = false := by rw [hE]; exact decide_eq_false e18
    have f19 : E.eq s ⟨#[116, 104, 105, 115]⟩ = false := by rw [hE]; exact decide_eq_false e19
    have f20 : E.eq s ⟨#[116, 104, 114, 111, 119]⟩ = false := by rw [hE]; exact decide_eq_false e20
    have f21 : E.eq s ⟨#[116, 114, 117, 101]⟩ = false := by rw [hE]; exact decide_eq_false e21
    have f22 : E.eq s ⟨#[116, 114, 121]⟩ = true := by rw [hE]; exact decide_eq_true e22
    clear hE hc
    clear e0 e1 e2 e3 e4 e5 e6 e7 e8 e9 e10 e11 e12 e13 e14 e15 e16 e17 e18 e19 e20 e21 e22
    clear hr
    cbv at f0 f1 f2 f3 f4 f5 f6 f7 f8 f9 f10 f11 f12 f13 f14 f15 f16 f17 f18 f19 f20 f21 f22
    cbv
    simp only [f0]
    cbv
    simp only [f1]
    cbv
    simp only [f2]
    cbv
    simp only [f3]
    cbv
    simp only [f4]
    cbv
    simp only [f5]
    cbv
    simp only [f6]
    cbv
    simp only [f7]
    cbv
    simp only [f8]
    cbv
    simp only [f9]
    cbv
    simp only [f10]
    cbv
    simp only [f11]
    cbv
    simp only [f12]
    cbv
    simp only [f13]
    cbv
    simp only [f14]
    cbv
    simp only [f15]
    cbv
    simp only [f16]
    cbv
    simp only [f17]
    cbv
    simp only [f18]
    cbv
    simp only [f19]
    cbv
    simp only [f20]
    cbv
    simp only [f21]
    cbv
    simp only [f22]
    cbv
  by_cases e23 : s = ⟨#[99, 97, 116, 99, 104]⟩
  · have hr : kwS.any (fun x => decide (s = x)) = true := by rw [e23]; decide +kernel
    rw [hr]
    refine ret_by tyT_ok g0_gr mixed (fun _ => 0) Tryd.func16 rfl (by kernel_rfl) (by kernel_rfl) rfl fun P G E hc hE => ?_
    have f0 : E.eq s ⟨#[97, 115, 121, 110, 99]⟩ = false := by rw [hE]; exact decide_eq_false e0
    have f1 : E.eq s ⟨#[97, 119, 97, 105, 116]⟩ = false := by rw [hE]; exact decide_eq_false e1
    have f2 : E.eq s ⟨#[98, 114, 101, 97, 107]⟩ = false := by rw [hE]; exact decide_eq_false e2
    have f3 : E.eq s ⟨#[99, 111, 110, 115, 116]⟩ = false := by rw [hE]; exact decide_eq_false e3
    have f4 : E.eq s ⟨#[99, 111, 110, 116, 105, 110, 117, 101]⟩ = false := by rw [hE]; exact decide_eq_false e4
    have f5 : E.eq s ⟨#[100, 101, 108, 101, 116, 101]⟩ = false := by rw [hE]; exact decide_eq_false e5
    have f6 : E.eq s ⟨#[101, 108, 115, 101]⟩ = false := by rw [hE]; exact decide_eq_false e6
    have f7 : E.eq s ⟨#[102, 97, 108, 115, 101]⟩ = false := by rw [hE]; exact decide_eq_false e7
    have f8 : E.eq s ⟨#[102, 105, 110, 97, 108, 108, 121]⟩ = false := by rw [hE]; exact decide_eq_false e8
    have f9 : E.eq s ⟨#[102, 111, 114]⟩ = false := by rw [hE]; exact decide_eq_false e9
    have f10 : E.eq s ⟨#[102, 117, 110, 99, 116, 105, 111, 110]⟩ = false := by rw [hE]; exact decide_eq_false e10
    have f11 : E.eq s ⟨#[105, 102]⟩ = false := by rw [hE]; exact decide_eq_false e11
    have f12 : E.eq s ⟨#[105, 110]⟩ = false := by rw [hE]; exact decide_eq_false e12
    have f13 : E.eq s ⟨#[105, 110, 115, 116, 97, 110, 99, 101, 111, 102]⟩ = false := by rw [hE]; exact decide_eq_false e13
    have f14 : E.eq s ⟨#[108, 101, 116]⟩ = false := by rw [hE]; exact decide_eq_false e14
    have f15 : E.eq s ⟨#[110, 101, 119]⟩ = false := by rw [hE]; exact decide_eq_false e15
    have f16 : E.eq s ⟨#[110, 117, 108, 108]⟩ = false := by rw [hE]; exact decide_eq_false e16
    have f17 : E.eq s ⟨#[111, 102]⟩ = false := by rw [hE]; exact decide_eq_false e17
    have f18 : E.eq s ⟨#[114, 101, 116, 117, 114, 110]⟩ = false := by rw [hE]; exact decide_eq_false e18
    have f19 : E.eq s ⟨#[116, 104, 105, 115]⟩ = false := by rw [hE]; exact decide_eq_false e19
    have f20 : E.eq s ⟨#[116, 104, 114, 111, 119]⟩ = false := by rw [hE]; exact decide_eq_false e20
    have f21 : E.eq s ⟨#[116, 114, 117, 101]⟩ = false := by rw [hE]; exact decide_eq_false e21
    have f22 : E.eq s ⟨#[116, 114, 121]⟩ = false := by rw [hE]; exact decide_eq_false e22
    have f23 : E.eq s ⟨#[99, 97, 116, 99, 104]⟩ = true := by rw [hE]; exact decide_eq_true e23
    clear hE hc
    clear e0 e1 e2 e3 e4 e5 e6 e7 e8 e9 e10 e11 e12 e13 e14 e15 e16 e17 e18 e19 e20 e21 e22 e23
    clear hr
    cbv at f0 f1 f2 f3 f4 f5 f6 f7 f8 f9 f10 f11 f12 f13 f14 f15 f16 f17 f18 f19 f20 f21 f22 f23
    cbv
    simp only [f0]
    cbv
    simp only [f1]
    cbv
    simp only [f2]
    cbv
    simp only [f3]
    cbv
    simp only [f4]
    cbv
    simp only [f5]
    cbv
    simp only [f6]
    cbv
    simp only [f7]
    cbv
    simp only [f8]
    cbv
    simp only [f9]
    cbv
    simp only [f10]
    cbv
    simp only [f11]
    cbv
    simp only [f12]
    cbv
    simp only [f13]
    cbv
    simp only [f14]
    cbv
    simp only [f15]
    cbv
    simp only [f16]
    cbv
    simp only [f17]
    cbv
    simp only [f18]
    cbv
    simp only [f19]
    cbv
    simp only [f20]
    cbv
    simp only [f21]
    cbv
    simp only [f22]
    cbv
    simp only [f23]
    cbv
  by_cases e24 : s = ⟨#[116, 121, 112, 101, 111, 102]⟩
  · have hr : kwS.any (fun x => decide (s = x)) = true := by rw [e24]; decide +kernel
    rw [hr]
    refine ret_by tyT_ok g0_gr mixed (fun _ => 0) Tryd.func16 rfl (by kernel_rfl) (by kernel_rfl) rfl fun P G E hc hE => ?_
    have f0 : E.eq s ⟨#[97, 115, 121, 110, 99]⟩ = false := by rw [hE]; exact decide_eq_false e0
    have f1 : E.eq s ⟨#[97, 119, 97, 105, 116]⟩ = false := by rw [hE]; exact decide_eq_false e1
    have f2 : E.eq s ⟨#[98, 114, 101, 97, 107]⟩ = false := by rw [hE]; exact decide_eq_false e2
    have f3 : E.eq s ⟨#[99, 111, 110, 115, 116]⟩ = false := by rw [hE]; exact decide_eq_false e3
    have f4 : E.eq s ⟨#[99, 111, 110, 116, 105, 110, 117, 101]⟩ = false := by rw [hE]; exact decide_eq_false e4
    have f5 : E.eq s ⟨#[100, 101, 108, 101, 116, 101]⟩ = false := by rw [hE]; exact decide_eq_false e5
    have f6 : E.eq s ⟨#[101, 108, 115, 101]⟩ = false := by rw [hE]; exact decide_eq_false e6
    have f7 : E.eq s ⟨#[102, 97, 108, 115, 101]⟩ = false := by rw [hE]; exact decide_eq_false e7
    have f8 : E.eq s ⟨#[102, 105, 110, 97, 108, 108, 121]⟩ = false := by rw [hE]; exact decide_eq_false e8
    have f9 : E.eq s ⟨#[102, 111, 114]⟩ = false := by rw [hE]; exact decide_eq_false e9
    have f10 : E.eq s ⟨#[102, 117, 110, 99, 116, 105, 111, 110]⟩ = false := by rw [hE]; exact decide_eq_false e10
    have f11 : E.eq s ⟨#[105, 102]⟩ = false := by rw [hE]; exact decide_eq_false e11
    have f12 : E.eq s ⟨#[105, 110]⟩ = false := by rw [hE]; exact decide_eq_false e12
    have f13 : E.eq s ⟨#[105, 110, 115, 116, 97, 110, 99, 101, 111, 102]⟩ = false := by rw [hE]; exact decide_eq_false e13
    have f14 : E.eq s ⟨#[108, 101, 116]⟩ = false := by rw [hE]; exact decide_eq_false e14
    have f15 : E.eq s ⟨#[110, 101, 119]⟩ = false := by rw [hE]; exact decide_eq_false e15
    have f16 : E.eq s ⟨#[110, 117, 108, 108]⟩ = false := by rw [hE]; exact decide_eq_false e16
    have f17 : E.eq s ⟨#[111, 102]⟩ = false := by rw [hE]; exact decide_eq_false e17
    have f18 : E.eq s ⟨#[114, 101, 116, 117, 114, 110]⟩ = false := by rw [hE]; exact decide_eq_false e18
    have f19 : E.eq s ⟨#[116, 104, 105, 115]⟩ = false := by rw [hE]; exact decide_eq_false e19
    have f20 : E.eq s ⟨#[116, 104, 114, 111, 119]⟩ = false := by rw [hE]; exact decide_eq_false e20
    have f21 : E.eq s ⟨#[116, 114, 117, 101]⟩ = false := by rw [hE]; exact decide_eq_false e21
    have f22 : E.eq s ⟨#[116, 114, 121]⟩ = false := by rw [hE]; exact decide_eq_false e22
    have f23 : E.eq s ⟨#[99, 97, 116, 99, 104]⟩ = false := by rw [hE]; exact decide_eq_false e23
    have f24 : E.eq s ⟨#[116, 121, 112, 101, 111, 102]⟩ = true := by rw [hE]; exact decide_eq_true e24
    clear hE hc
    clear e0 e1 e2 e3 e4 e5 e6 e7 e8 e9 e10 e11 e12 e13 e14 e15 e16 e17 e18 e19 e20 e21 e22 e23 e24
    clear hr
    cbv at f0 f1 f2 f3 f4 f5 f6 f7 f8 f9 f10 f11 f12 f13 f14 f15 f16 f17 f18 f19 f20 f21 f22 f23 f24
    cbv
    simp only [f0]
    cbv
    simp only [f1]
    cbv
    simp only [f2]
    cbv
    simp only [f3]
    cbv
    simp only [f4]
    cbv
    simp only [f5]
    cbv
    simp only [f6]
    cbv
    simp only [f7]
    cbv
    simp only [f8]
    cbv
    simp only [f9]
    cbv
    simp only [f10]
    cbv
    simp only [f11]
    cbv
    simp only [f12]
    cbv
    simp only [f13]
    cbv
    simp only [f14]
    cbv
    simp only [f15]
    cbv
    simp only [f16]
    cbv
    simp only [f17]
    cbv
    simp only [f18]
    cbv
    simp only [f19]
    cbv
    simp only [f20]
    cbv
    simp only [f21]
    cbv
    simp only [f22]
    cbv
    simp only [f23]
    cbv
    simp only [f24]
    cbv
  by_cases e25 : s = ⟨#[117, 110, 100, 101, 102, 105, 110, 101, 100]⟩
  · have hr : kwS.any (fun x => decide (s = x)) = true := by rw [e25]; decide +kernel
    rw [hr]
    refine ret_by tyT_ok g0_gr mixed (fun _ => 0) Tryd.func16 rfl (by kernel_rfl) (by kernel_rfl) rfl fun P G E hc hE => ?_
    have f0 : E.eq s ⟨#[97, 115, 121, 110, 99]⟩ = false := by rw [hE]; exact decide_eq_false e0
    have f1 : E.eq s ⟨#[97, 119, 97, 105, 116]⟩ = false := by rw [hE]; exact decide_eq_false e1
    have f2 : E.eq s ⟨#[98, 114, 101, 97, 107]⟩ = false := by rw [hE]; exact decide_eq_false e2
    have f3 : E.eq s ⟨#[99, 111, 110, 115, 116]⟩ = false := by rw [hE]; exact decide_eq_false e3
    have f4 : E.eq s ⟨#[99, 111, 110, 116, 105, 110, 117, 101]⟩ = false := by rw [hE]; exact decide_eq_false e4
    have f5 : E.eq s ⟨#[100, 101, 108, 101, 116, 101]⟩ = false := by rw [hE]; exact decide_eq_false e5
    have f6 : E.eq s ⟨#[101, 108, 115, 101]⟩ = false := by rw [hE]; exact decide_eq_false e6
    have f7 : E.eq s ⟨#[102, 97, 108, 115, 101]⟩ = false := by rw [hE]; exact decide_eq_false e7
    have f8 : E.eq s ⟨#[102, 105, 110, 97, 108, 108, 121]⟩ = false := by rw [hE]; exact decide_eq_false e8
    have f9 : E.eq s ⟨#[102, 111, 114]⟩ = false := by rw [hE]; exact decide_eq_false e9
    have f10 : E.eq s ⟨#[102, 117, 110, 99, 116, 105, 111, 110]⟩ = false := by rw [hE]; exact decide_eq_false e10
    have f11 : E.eq s ⟨#[105, 102]⟩ = false := by rw [hE]; exact decide_eq_false e11
    have f12 : E.eq s ⟨#[105, 110]⟩ = false := by rw [hE]; exact decide_eq_false e12
    have f13 : E.eq s ⟨#[105, 110, 115, 116, 97, 110, 99, 101, 111, 102]⟩ = false := by rw [hE]; exact decide_eq_false e13
    have f14 : E.eq s ⟨#[108, 101, 116]⟩ = false := by rw [hE]; exact decide_eq_false e14
    have f15 : E.eq s ⟨#[110, 101, 119]⟩ = false := by rw [hE]; exact decide_eq_false e15
    have f16 : E.eq s ⟨#[110, 117, 108, 108]⟩ = false := by rw [hE]; exact decide_eq_false e16
    have f17 : E.eq s ⟨#[111, 102]⟩ = false := by rw [hE]; exact decide_eq_false e17
    have f18 : E.eq s ⟨#[114, 101, 116, 117, 114, 110]⟩ = false := by rw [hE]; exact decide_eq_false e18
    have f19 : E.eq s ⟨#[116, 104, 105, 115]⟩ = false := by rw [hE]; exact decide_eq_false e19
    have f20 : E.eq s ⟨#[116, 104, 114, 111, 119]⟩ = false := by rw [hE]; exact decide_eq_false e20
    have f21 : E.eq s ⟨#[116, 114, 117, 101]⟩ = false := by rw [hE]; exact decide_eq_false e21
    have f22 : E.eq s ⟨#[116, 114, 121]⟩ = false := by rw [hE]; exact decide_eq_false e22
    have f23 : E.eq s ⟨#[99, 97, 116, 99, 104]⟩ = false := by rw [hE]; exact decide_eq_false e23
    have f24 : E.eq s ⟨#[116, 121, 112, 101, 111, 102]⟩ = false := by rw [hE]; exact decide_eq_false e24
    have f25 : E.eq s ⟨#[117, 110, 100, 101, 102, 105, 110, 101, 100]⟩ = true := by rw [hE]; exact decide_eq_true e25
    clear hE hc
    clear e0 e1 e2 e3 e4 e5 e6 e7 e8 e9 e10 e11 e12 e13 e14 e15 e16 e17 e18 e19 e20 e21 e22 e23 e24 e25
    clear hr
    cbv at f0 f1 f2 f3 f4 f5 f6 f7 f8 f9 f10 f11 f12 f13 f14 f15 f16 f17 f18 f19 f20 f21 f22 f23 f24 f25
    cbv
    simp only [f0]
    cbv
    simp only [f1]
    cbv
    simp only [f2]
    cbv
    simp only [f3]
    cbv
    simp only [f4]
    cbv
    simp only [f5]
    cbv
    simp only [f6]
    cbv
    simp only [f7]
    cbv
    simp only [f8]
    cbv
    simp only [f9]
    cbv
    simp only [f10]
    cbv
    simp only [f11]
    cbv
    simp only [f12]
    cbv
    simp only [f13]
    cbv
    simp only [f14]
    cbv
    simp only [f15]
    cbv
    simp only [f16]
    cbv
    simp only [f17]
    cbv
    simp only [f18]
    cbv
    simp only [f19]
    cbv
    simp only [f20]
    cbv
    simp only [f21]
    cbv
    simp only [f22]
    cbv
    simp only [f23]
    cbv
    simp only [f24]
    cbv
    simp only [f25]
    cbv
  by_cases e26 : s = ⟨#[119, 104, 105, 108, 101]⟩
  · have hr : kwS.any (fun x => decide (s = x)) = true := by rw [e26]; decide +kernel
    rw [hr]
    refine ret_by tyT_ok g0_gr mixed (fun _ => 0) Tryd.func16 rfl (by kernel_rfl) (by kernel_rfl) rfl fun P G E hc hE => ?_
    have f0 : E.eq s ⟨#[97, 115, 121, 110, 99]⟩ = false := by rw [hE]; exact decide_eq_false e0
    have f1 : E.eq s ⟨#[97, 119, 97, 105, 116]⟩ = false := by rw [hE]; exact decide_eq_false e1
    have f2 : E.eq s ⟨#[98, 114, 101, 97, 107]⟩ = false := by rw [hE]; exact decide_eq_false e2
    have f3 : E.eq s ⟨#[99, 111, 110, 115, 116]⟩ = false := by rw [hE]; exact decide_eq_false e3
    have f4 : E.eq s ⟨#[99, 111, 110, 116, 105, 110, 117, 101]⟩ = false := by rw [hE]; exact decide_eq_false e4
    have f5 : E.eq s ⟨#[100, 101, 108, 101, 116, 101]⟩ = false := by rw [hE]; exact decide_eq_false e5
    have f6 : E.eq s ⟨#[101, 108, 115, 101]⟩ = false := by rw [hE]; exact decide_eq_false e6
    have f7 : E.eq s ⟨#[102, 97, 108, 115, 101]⟩ = false := by rw [hE]; exact decide_eq_false e7
    have f8 : E.eq s ⟨#[102, 105, 110, 97, 108, 108, 121]⟩ = false := by rw [hE]; exact decide_eq_false e8
    have f9 : E.eq s ⟨#[102, 111, 114]⟩ = false := by rw [hE]; exact decide_eq_false e9
    have f10 : E.eq s ⟨#[102, 117, 110, 99, 116, 105, 111, 110]⟩ = false := by rw [hE]; exact decide_eq_false e10
    have f11 : E.eq s ⟨#[105, 102]⟩ = false := by rw [hE]; exact decide_eq_false e11
    have f12 : E.eq s ⟨#[105, 110]⟩ = false := by rw [hE]; exact decide_eq_false e12
    have f13 : E.eq s ⟨#[105, 110, 115, 116, 97, 110, 99, 101, 111, 102]⟩ = false := by rw [hE]; exact decide_eq_false e13
    have f14 : E.eq s ⟨#[108, 101, 116]⟩ = false := by rw [hE]; exact decide_eq_false e14
    have f15 : E.eq s ⟨#[110, 101, 119]⟩ = false := by rw [hE]; exact decide_eq_false e15
    have f16 : E.eq s ⟨#[110, 117, 108, 108]⟩ = false := by rw [hE]; exact decide_eq_false e16
    have f17 : E.eq s ⟨#[111, 102]⟩ = false := by rw [hE]; exact decide_eq_false e17
    have f18 : E.eq s ⟨#[114, 101, 116, 117, 114, 110]⟩ = false := by rw [hE]; exact decide_eq_false e18
    have f19 : E.eq s ⟨#[116, 104, 105, 115]⟩ = false := by rw [hE]; exact decide_eq_false e19
    have f20 : E.eq s ⟨#[116, 104, 114, 111, 119]⟩ = false := by rw [hE]; exact decide_eq_false e20
    have f21 : E.eq s ⟨#[116, 114, 117, 101]⟩ = false := by rw [hE]; exact decide_eq_false e21
    have f22 : E.eq s ⟨#[116, 114, 121]⟩ = false := by rw [hE]; exact decide_eq_false e22
    have f23 : E.eq s ⟨#[99, 97, 116, 99, 104]⟩ = false := by rw [hE]; exact decide_eq_false e23
    have f24 : E.eq s ⟨#[116, 121, 112, 101, 111, 102]⟩ = false := by rw [hE]; exact decide_eq_false e24
    have f25 : E.eq s ⟨#[117, 110, 100, 101, 102, 105, 110, 101, 100]⟩ = false := by rw [hE]; exact decide_eq_false e25
    have f26 : E.eq s ⟨#[119, 104, 105, 108, 101]⟩ = true := by rw [hE]; exact decide_eq_true e26
    clear hE hc
    clear e0 e1 e2 e3 e4 e5 e6 e7 e8 e9 e10 e11 e12 e13 e14 e15 e16 e17 e18 e19 e20 e21 e22 e23 e24 e25 e26
    clear hr
    cbv at f0 f1 f2 f3 f4 f5 f6 f7 f8 f9 f10 f11 f12 f13 f14 f15 f16 f17 f18 f19 f20 f21 f22 f23 f24 f25 f26
    cbv
    simp only [f0]
    cbv
    simp only [f1]
    cbv
    simp only [f2]
    cbv
    simp only [f3]
    cbv
    simp only [f4]
    cbv
    simp only [f5]
    cbv
    simp only [f6]
    cbv
    simp only [f7]
    cbv
    simp only [f8]
    cbv
    simp only [f9]
    cbv
    simp only [f10]
    cbv
    simp only [f11]
    cbv
    simp only [f12]
    cbv
    simp only [f13]
    cbv
    simp only [f14]
    cbv
    simp only [f15]
    cbv
    simp only [f16]
    cbv
    simp only [f17]
    cbv
    simp only [f18]
    cbv
    simp only [f19]
    cbv
    simp only [f20]
    cbv
    simp only [f21]
    cbv
    simp only [f22]
    cbv
    simp only [f23]
    cbv
    simp only [f24]
    cbv
    simp only [f25]
    cbv
    simp only [f26]
    cbv
  by_cases e27 : s = ⟨#[121, 105, 101, 108, 100]⟩
  · have hr : kwS.any (fun x => decide (s = x)) = true := by rw [e27]; decide +kernel
    rw [hr]
    refine ret_by tyT_ok g0_gr mixed (fun _ => 0) Tryd.func16 rfl (by kernel_rfl) (by kernel_rfl) rfl fun P G E hc hE => ?_
    have f0 : E.eq s ⟨#[97, 115, 121, 110, 99]⟩ = false := by rw [hE]; exact decide_eq_false e0
    have f1 : E.eq s ⟨#[97, 119, 97, 105, 116]⟩ = false := by rw [hE]; exact decide_eq_false e1
    have f2 : E.eq s ⟨#[98, 114, 101, 97, 107]⟩ = false := by rw [hE]; exact decide_eq_false e2
    have f3 : E.eq s ⟨#[99, 111, 110, 115, 116]⟩ = false := by rw [hE]; exact decide_eq_false e3
    have f4 : E.eq s ⟨#[99, 111, 110, 116, 105, 110, 117, 101]⟩ = false := by rw [hE]; exact decide_eq_false e4
    have f5 : E.eq s ⟨#[100, 101, 108, 101, 116, 101]⟩ = false := by rw [hE]; exact decide_eq_false e5
    have f6 : E.eq s ⟨#[101, 108, 115, 101]⟩ = false := by rw [hE]; exact decide_eq_false e6
    have f7 : E.eq s ⟨#[102, 97, 108, 115, 101]⟩ = false := by rw [hE]; exact decide_eq_false e7
    have f8 : E.eq s ⟨#[102, 105, 110, 97, 108, 108, 121]⟩ = false := by rw [hE]; exact decide_eq_false e8
    have f9 : E.eq s ⟨#[102, 111, 114]⟩ = false := by rw [hE]; exact decide_eq_false e9
    have f10 : E.eq s ⟨#[102, 117, 110, 99, 116, 105, 111, 110]⟩ = false := by rw [hE]; exact decide_eq_false e10
    have f11 : E.eq s ⟨#[105, 102]⟩ = false := by rw [hE]; exact decide_eq_false e11
    have f12 : E.eq s ⟨#[105, 110]⟩ = false := by rw [hE]; exact decide_eq_false e12
    have f13 : E.eq s ⟨#[105, 110, 115, 116, 97, 110, 99, 101, 111, 102]⟩ = false := by rw [hE]; exact decide_eq_false e13
    have f14 : E.eq s ⟨#[108, 101, 116]⟩ = false := by rw [hE]; exact decide_eq_false e14
    have f15 : E.eq s ⟨#[110, 101, 119]⟩ = false := by rw [hE]; exact decide_eq_false e15
    have f16 : E.eq s ⟨#[110, 117, 108, 108]⟩ = false := by rw [hE]; exact decide_eq_false e16
    have f17 : E.eq s ⟨#[111, 102]⟩ = false := by rw [hE]; exact decide_eq_false e17
    have f18 : E.eq s ⟨#[114, 101, 116, 117, 114, 110]⟩ = false := by rw [hE]; exact decide_eq_false e18
    have f19 : E.eq s ⟨#[116, 104, 105, 115]⟩ = false := by rw [hE]; exact decide_eq_false e19
    have f20 : E.eq s ⟨#[116, 104, 114, 111, 119]⟩ = false := by rw [hE]; exact decide_eq_false e20
    have f21 : E.eq s ⟨#[116, 114, 117, 101]⟩ = false := by rw [hE]; exact decide_eq_false e21
    have f22 : E.eq s ⟨#[116, 114, 121]⟩ = false := by rw [hE]; exact decide_eq_false e22
    have f23 : E.eq s ⟨#[99, 97, 116, 99, 104]⟩ = false := by rw [hE]; exact decide_eq_false e23
    have f24 : E.eq s ⟨#[116, 121, 112, 101, 111, 102]⟩ = false := by rw [hE]; exact decide_eq_false e24
    have f25 : E.eq s ⟨#[117, 110, 100, 101, 102, 105, 110, 101, 100]⟩ = false := by rw [hE]; exact decide_eq_false e25
    have f26 : E.eq s ⟨#[119, 104, 105, 108, 101]⟩ = false := by rw [hE]; exact decide_eq_false e26
    have f27 : E.eq s ⟨#[121, 105, 101, 108, 100]⟩ = true := by rw [hE]; exact decide_eq_true e27
    clear hE hc
    clear e0 e1 e2 e3 e4 e5 e6 e7 e8 e9 e10 e11 e12 e13 e14 e15 e16 e17 e18 e19 e20 e21 e22 e23 e24 e25 e26 e27
    clear hr
    cbv at f0 f1 f2 f3 f4 f5 f6 f7 f8 f9 f10 f11 f12 f13 f14 f15 f16 f17 f18 f19 f20 f21 f22 f23 f24 f25 f26 f27
    cbv
    simp only [f0]
    cbv
    simp only [f1]
    cbv
    simp only [f2]
    cbv
    simp only [f3]
    cbv
    simp only [f4]
    cbv
    simp only [f5]
    cbv
    simp only [f6]
    cbv
    simp only [f7]
    cbv
    simp only [f8]
    cbv
    simp only [f9]
    cbv
    simp only [f10]
    cbv
    simp only [f11]
    cbv
    simp only [f12]
    cbv
    simp only [f13]
    cbv
    simp only [f14]
    cbv
    simp only [f15]
    cbv
    simp only [f16]
    cbv
    simp only [f17]
    cbv
    simp only [f18]
    cbv
    simp only [f19]
    cbv
    simp only [f20]
    cbv
    simp only [f21]
    cbv
    simp only [f22]
    cbv
    simp only [f23]
    cbv
    simp only [f24]
    cbv
    simp only [f25]
    cbv
    simp only [f26]
    cbv
    simp only [f27]
    cbv
  have hr : kwS.any (fun x => decide (s = x)) = false := by
    rw [List.any_eq_false]
    intro x hx h
    have hx' := of_decide_eq_true h
    subst hx'
    unfold kwS at hx
    simp only [List.mem_cons, List.not_mem_nil, or_false] at hx
    rcases hx with hx | hx | hx | hx | hx | hx | hx | hx | hx | hx | hx | hx | hx | hx | hx | hx | hx | hx | hx | hx | hx | hx | hx | hx | hx | hx | hx | hx
    · exact e0 hx
    · exact e1 hx
    · exact e2 hx
    · exact e3 hx
    · exact e4 hx
    · exact e5 hx
    · exact e6 hx
    · exact e7 hx
    · exact e8 hx
    · exact e9 hx
    · exact e10 hx
    · exact e11 hx
    · exact e12 hx
    · exact e13 hx
    · exact e14 hx
    · exact e15 hx
    · exact e16 hx
    · exact e17 hx
    · exact e18 hx
    · exact e19 hx
    · exact e20 hx
    · exact e21 hx
    · exact e22 hx
    · exact e23 hx
    · exact e24 hx
    · exact e25 hx
    · exact e26 hx
    · exact e27 hx
  rw [hr]
  refine ret_by tyT_ok g0_gr mixed (fun _ => 0) Tryd.func16 rfl (by kernel_rfl) (by kernel_rfl) rfl fun P G E hc hE => ?_
  have f0 : E.eq s ⟨#[97, 115, 121, 110, 99]⟩ = false := by rw [hE]; exact decide_eq_false e0
  have f1 : E.eq s ⟨#[97, 119, 97, 105, 116]⟩ = false := by rw [hE]; exact decide_eq_false e1
  have f2 : E.eq s ⟨#[98, 114, 101, 97, 107]⟩ = false := by rw [hE]; exact decide_eq_false e2
  have f3 : E.eq s ⟨#[99, 111, 110, 115, 116]⟩ = false := by rw [hE]; exact decide_eq_false e3
  have f4 : E.eq s ⟨#[99, 111, 110, 116, 105, 110, 117, 101]⟩ = false := by rw [hE]; exact decide_eq_false e4
  have f5 : E.eq s ⟨#[100, 101, 108, 101, 116, 101]⟩ = false := by rw [hE]; exact decide_eq_false e5
  have f6 : E.eq s ⟨#[101, 108, 115, 101]⟩ = false := by rw [hE]; exact decide_eq_false e6
  have f7 : E.eq s ⟨#[102, 97, 108, 115, 101]⟩ = false := by rw [hE]; exact decide_eq_false e7
  have f8 : E.eq s ⟨#[102, 105, 110, 97, 108, 108, 121]⟩ = false := by rw [hE]; exact decide_eq_false e8
  have f9 : E.eq s ⟨#[102, 111, 114]⟩ = false := by rw [hE]; exact decide_eq_false e9
  have f10 : E.eq s ⟨#[102, 117, 110, 99, 116, 105, 111, 110]⟩ = false := by rw [hE]; exact decide_eq_false e10
  have f11 : E.eq s ⟨#[105, 102]⟩ = false := by rw [hE]; exact decide_eq_false e11
  have f12 : E.eq s ⟨#[105, 110]⟩ = false := by rw [hE]; exact decide_eq_false e12
  have f13 : E.eq s ⟨#[105, 110, 115, 116, 97, 110, 99, 101, 111, 102]⟩ = false := by rw [hE]; exact decide_eq_false e13
  have f14 : E.eq s ⟨#[108, 101, 116]⟩ = false := by rw [hE]; exact decide_eq_false e14
  have f15 : E.eq s ⟨#[110, 101, 119]⟩ = false := by rw [hE]; exact decide_eq_false e15
  have f16 : E.eq s ⟨#[110, 117, 108, 108]⟩ = false := by rw [hE]; exact decide_eq_false e16
  have f17 : E.eq s ⟨#[111, 102]⟩ = false := by rw [hE]; exact decide_eq_false e17
  have f18 : E.eq s ⟨#[114, 101, 116, 117, 114, 110]⟩ = false := by rw [hE]; exact decide_eq_false e18
  have f19 : E.eq s ⟨#[116, 104, 105, 115]⟩ = false := by rw [hE]; exact decide_eq_false e19
  have f20 : E.eq s ⟨#[116, 104, 114, 111, 119]⟩ = false := by rw [hE]; exact decide_eq_false e20
  have f21 : E.eq s ⟨#[116, 114, 117, 101]⟩ = false := by rw [hE]; exact decide_eq_false e21
  have f22 : E.eq s ⟨#[116, 114, 121]⟩ = false := by rw [hE]; exact decide_eq_false e22
  have f23 : E.eq s ⟨#[99, 97, 116, 99, 104]⟩ = false := by rw [hE]; exact decide_eq_false e23
  have f24 : E.eq s ⟨#[116, 121, 112, 101, 111, 102]⟩ = false := by rw [hE]; exact decide_eq_false e24
  have f25 : E.eq s ⟨#[117, 110, 100, 101, 102, 105, 110, 101, 100]⟩ = false := by rw [hE]; exact decide_eq_false e25
  have f26 : E.eq s ⟨#[119, 104, 105, 108, 101]⟩ = false := by rw [hE]; exact decide_eq_false e26
  have f27 : E.eq s ⟨#[121, 105, 101, 108, 100]⟩ = false := by rw [hE]; exact decide_eq_false e27
  clear hE hc hr
  clear e0 e1 e2 e3 e4 e5 e6 e7 e8 e9 e10 e11 e12 e13 e14 e15 e16 e17 e18 e19 e20 e21 e22 e23 e24 e25 e26 e27
  cbv at f0 f1 f2 f3 f4 f5 f6 f7 f8 f9 f10 f11 f12 f13 f14 f15 f16 f17 f18 f19 f20 f21 f22 f23 f24 f25 f26 f27
  cbv
  simp only [f0]
  cbv
  simp only [f1]
  cbv
  simp only [f2]
  cbv
  simp only [f3]
  cbv
  simp only [f4]
  cbv
  simp only [f5]
  cbv
  simp only [f6]
  cbv
  simp only [f7]
  cbv
  simp only [f8]
  cbv
  simp only [f9]
  cbv
  simp only [f10]
  cbv
  simp only [f11]
  cbv
  simp only [f12]
  cbv
  simp only [f13]
  cbv
  simp only [f14]
  cbv
  simp only [f15]
  cbv
  simp only [f16]
  cbv
  simp only [f17]
  cbv
  simp only [f18]
  cbv
  simp only [f19]
  cbv
  simp only [f20]
  cbv
  simp only [f21]
  cbv
  simp only [f22]
  cbv
  simp only [f23]
  cbv
  simp only [f24]
  cbv
  simp only [f25]
  cbv
  simp only [f26]
  cbv
  simp only [f27]
  cbv
end Go.Proofs.YtnhbboknffppiaaDoor
