/- Own work: the reference's Number: the digits, one by one. -/
import Derived.Test.YtadgpchdlkiinaaDoorNumR
namespace Go.Proofs.YtadgpchdlkiinaaDoor
open Go.RowKit
set_option maxRecDepth 100000

structure NumI (ng : Bool) (s : ByteArray) (DL : List UInt8) (o : Int × Int) (x : Int × Int) : Prop where
  h0 : 0 ≤ x.2
  h1 : x.2 ≤ DL.length
  eq : ∃ a : Nat, x.1 = a ∧ numW ng s a (DL.drop x.2.toNat) = o
theorem acc_step (a : Nat) (c : UInt8) (h : isDig c) : IntKind.u64.wrap (IntKind.u64.wrap ((a : Int) * 10) + IntKind.u64.wrap (IntKind.u8.wrap ((c.toNat : Int) - 48))) = (((a * 10 + (c.toNat - 48)) % 18446744073709551616 : Nat) : Int) := by
  unfold isDig at h
  have e8 : IntKind.u8.wrap ((c.toNat : Int) - 48) = ((c.toNat - 48 : Nat) : Int) := by
    have e1 : ((2 : Int) ^ IntKind.u8.bits) = 256 := by decide
    have e3 : IntKind.u8.signed = false := rfl
    simp only [IntKind.wrap, e1, e3, Bool.false_and, Bool.false_eq_true, if_false]
    omega
  rw [e8, wrap_u64_eq, wrap_u64_eq, wrap_u64_eq]
  omega
theorem drop_someB {l : List UInt8} {i : Nat} {x : UInt8} (h : l[i]? = some x) : l.drop i = x :: l.drop (i + 1) := by
  obtain ⟨h1, h2⟩ := List.getElem?_eq_some_iff.1 h
  rw [← h2]; exact List.drop_eq_getElem_cons h1
set_option maxHeartbeats 1000000 in
theorem rnumber_any (s : ByteArray) (hs : s.size ≤ 1000) : R 41 [pS s] (.tup [pI (numR s).1, pI (numR s).2]) := by
  obtain ⟨r1, r2, hr⟩ : ∃ r1 r2, numR s = (r1, r2) := ⟨_, _, rfl⟩
  rw [hr]
  simp only
  unfold numR at hr
  simp only at hr
  have hlen : s.data.toList.length = s.size := by simp
  have hg0 : ∀ (i : Nat) c, s.data.toList[i]? = some c → stdE.get s i = some (c.toNat : Int) := fun i c h => by
    simp only [stdE, h, Option.map_some]
  cases hl : s.data.toList with
  | nil =>
    rw [hl] at hr hlen
    have hr' : ((0 : Int), (6 : Int)) = (r1, r2) := hr
    cases hr'
    have hz : (s.size : Int) = 0 := by rw [← hlen]; rfl
    refine ret_by tyT_ok good_gr mixed (fun _ => 0) Tryd.func41 rfl (by kernel_rfl) (by kernel_rfl) rfl fun P G E hc hE => ?_
    have e2 : E.size s = 0 := by rw [hE]; exact hz
    have e0 : E.lti 0 (E.size s) = false := by rw [e2, hE]; rfl
    have e1 : E.lti (E.size s) 1 = true := by rw [e2, hE]; rfl
    clear e2
    cbv
    repeat (first | (simp only [e0]; cbv) | simp only [e0] | (simp only [e1]; cbv) | simp only [e1])
  | cons c rest =>
    have hgc := hg0 0 c (by rw [hl]; rfl)
    rw [hl] at hr hlen
    simp only [List.length_cons] at hlen
    by_cases hneg : c = 45
    · subst hneg
      have hr' : (if rest.length < 1 ∨ 19 < rest.length then (0, 6) else numW true s 0 rest) = (r1, r2) := hr
      clear hr
      obtain ⟨D, hD⟩ : ∃ D, s.extract 1 s.size = D := ⟨_, rfl⟩
      have hDl : D.data.toList = rest := by
        rw [← hD, ByteArray.data_extract, Array.toList_extract, List.extract_eq_take_drop, hl]
        simp
        exact List.take_of_length_le (by omega)
      have hDs : D.size = rest.length := by rw [← hDl]; simp
      have hDe : ¬ D = s := fun h => by rw [h] at hDs; omega
      by_cases hsz : rest.length < 1 ∨ 19 < rest.length
      · rw [if_pos hsz] at hr'
        cases hr'
        by_cases h1 : rest.length < 1
        · refine ret_by tyT_ok good_gr mixed (fun _ => 0) Tryd.func41 rfl (by kernel_rfl) (by kernel_rfl) rfl fun P G E hc hE => ?_
          have e0 : E.lti 0 (E.size s) = true := by rw [hE]; exact decide_eq_true (by simp only [stdE]; omega)
          have g0 : E.get s (E.nat 0) = some 45 := by rw [hE]; exact hgc
          have p0 : E.ple 0 0 := by rw [hE]; exact Int.le_refl _
          have p1 : E.ple 0 1 ∧ E.ple 1 (E.size s) ∧ E.ple (E.size s) (E.size s) := by rw [hE]; show (0:Int) ≤ 1 ∧ (1:Int) ≤ (s.size : Nat) ∧ ((s.size : Nat) : Int) ≤ (s.size : Nat); omega
          have hx : E.ext s (E.nat 1) (E.nat (E.size s)) = D := by rw [hE]; exact hD
          have e1 : E.lti (E.size D) 1 = true := by rw [hE]; exact decide_eq_true (by simp only [stdE]; omega)
          cbv
          repeat (first | (simp only [e0]; cbv) | simp only [e0] | (refine ⟨p0, ?_⟩; cbv) | (refine ⟨_, g0, ?_⟩; cbv) | (refine ⟨p1.1,p1.2.1,p1.2.2, ?_⟩; cbv) | (simp only [hx]; cbv) | simp only [hx] | (simp only [e1]; cbv) | simp only [e1])
        · refine ret_by tyT_ok good_gr mixed (fun _ => 0) Tryd.func41 rfl (by kernel_rfl) (by kernel_rfl) rfl fun P G E hc hE => ?_
          have e0 : E.lti 0 (E.size s) = true := by rw [hE]; exact decide_eq_true (by simp only [stdE]; omega)
          have g0 : E.get s (E.nat 0) = some 45 := by rw [hE]; exact hgc
          have p0 : E.ple 0 0 := by rw [hE]; exact Int.le_refl _
          have p1 : E.ple 0 1 ∧ E.ple 1 (E.size s) ∧ E.ple (E.size s) (E.size s) := by rw [hE]; show (0:Int) ≤ 1 ∧ (1:Int) ≤ (s.size : Nat) ∧ ((s.size : Nat) : Int) ≤ (s.size : Nat); omega
          have hx : E.ext s (E.nat 1) (E.nat (E.size s)) = D := by rw [hE]; exact hD
          have e1 : E.lti (E.size D) 1 = false := by rw [hE]; exact decide_eq_false (by simp only [stdE]; omega)
          have e2 : E.lti 19 (E.size D) = true := by rw [hE]; exact decide_eq_true (by simp only [stdE]; omega)
          cbv
          repeat (first | (simp only [e0]; cbv) | simp only [e0] | (refine ⟨p0, ?_⟩; cbv) | (refine ⟨_, g0, ?_⟩; cbv) | (refine ⟨p1.1,p1.2.1,p1.2.2, ?_⟩; cbv) | (simp only [hx]; cbv) | simp only [hx] | (simp only [e1]; cbv) | simp only [e1] | (simp only [e2]; cbv) | simp only [e2])
      · rw [if_neg hsz] at hr'
        have hfin : numW true s 0 (rest.drop 0) = (r1, r2) := hr'
        obtain ⟨μ, hμ⟩ : ∃ μ : Int → Nat, ∀ i, μ i = rest.length - i.toNat := ⟨_, fun _ => rfl⟩
        have hgD : ∀ (i : Nat) c, rest[i]? = some c → stdE.get D i = some (c.toNat : Int) := fun i c h => by
          simp only [stdE, hDl, h, Option.map_some]
        refine ret_by tyT_ok good_gr mixed (fun _ => 0) Tryd.func41 rfl (by kernel_rfl) (by kernel_rfl) rfl fun P G E hc hE => ?_
        have e0 : E.lti 0 (E.size s) = true := by rw [hE]; exact decide_eq_true (by simp only [stdE]; omega)
        have g0 : E.get s (E.nat 0) = some 45 := by rw [hE]; exact hgc
        have p0 : E.ple 0 0 := by rw [hE]; exact Int.le_refl _
        have p1 : E.ple 0 1 ∧ E.ple 1 (E.size s) ∧ E.ple (E.size s) (E.size s) := by rw [hE]; show (0:Int) ≤ 1 ∧ (1:Int) ≤ (s.size : Nat) ∧ ((s.size : Nat) : Int) ≤ (s.size : Nat); omega
        have hx : E.ext s (E.nat 1) (E.nat (E.size s)) = D := by rw [hE]; exact hD
        have e1 : E.lti (E.size D) 1 = false := by rw [hE]; exact decide_eq_false (by simp only [stdE]; omega)
        have e2 : E.lti 19 (E.size D) = false := by rw [hE]; exact decide_eq_false (by simp only [stdE]; omega)
        have hds : E.eq D s = false := by rw [hE]; exact decide_eq_false hDe
        have elt : ∀ a b, E.lti a b = decide (a < b) := fun a b => by rw [hE]; rfl
        have hget : ∀ (i : Nat) c, rest[i]? = some c → E.get D i = some (c.toNat : Int) := by rw [hE]; exact hgD
        have hszD : E.size D = ((rest.length : Nat) : Int) := by rw [hE, ← hDs]; rfl
        generalize hDL : rest = DL at *
        cbv
        repeat (first | (simp only [e0]; cbv) | simp only [e0] | (refine ⟨p0, ?_⟩; cbv) | (refine ⟨_, g0, ?_⟩; cbv) | (refine ⟨p1.1,p1.2.1,p1.2.2, ?_⟩; cbv) | (simp only [hx]; cbv) | simp only [hx] | (simp only [e1]; cbv) | simp only [e1] | (simp only [e2]; cbv) | simp only [e2])
        refine loop_by 63 [0, 4, 5, 6] 0 (fun x : Int × Int => [.p (pS s), .p (.v (.int .u64 x.1)), .p (pS D), .p (pI x.2)]) (fun _ => []) (NumI true s DL (r1, r2)) (fun x => μ x.2) (0, 0) ⟨rfl, rfl, rfl, rfl, rfl⟩ ⟨by omega, by omega, 0, rfl, hfin⟩ ?_
        rintro ⟨a, i⟩ ⟨h0, h1, ⟨m, hm, hw⟩⟩
        simp only at h0 h1 hm hw
        have c1 : E.lti i (E.size D) = decide (i < (DL.length : Int)) := by rw [elt, hszD]
        have enat : E.nat i = i.toNat := by rw [hE]; rfl
        have hp : E.ple 0 i := by rw [hE]; exact h0
        by_cases hin : i < (DL.length : Int)
        · rw [decide_eq_true hin] at c1
          obtain ⟨c, hcx⟩ : ∃ c, DL[i.toNat]? = some c := ⟨_, List.getElem?_eq_getElem (by omega)⟩
          obtain ⟨x, hx⟩ : ∃ x : Int, (c.toNat : Int) = x := ⟨_, rfl⟩
          have gx : E.get D (E.nat i) = some x := by rw [enat, ← hx]; exact hget _ _ hcx
          rw [drop_someB hcx] at hw
          unfold numW at hw
          have d1 := elt x 48
          have d2 := elt 57 x
          by_cases hdig : isDig c
          · have hst := acc_step m c hdig
            rw [if_pos hdig] at hw
            unfold isDig at hdig
            rw [decide_eq_false (by omega)] at d1 d2
            have ea : E.wadd .u64 (E.wmul .u64 a 10) (E.wrap .u64 (E.wsub .u8 x 48)) = (((m * 10 + (c.toNat - 48)) % 18446744073709551616 : Nat) : Int) := by
              rw [hE, hm, ← hx]; exact hst
            have ei : E.wadd .i64 i 1 = i + 1 := by rw [hE]; exact wrap_i64_in (by omega) (by omega)
            obtain ⟨m', hm'⟩ : ∃ m', (m * 10 + (c.toNat - 48)) % 18446744073709551616 = m' := ⟨_, rfl⟩
            rw [hm'] at hw ea
            have hI : NumI true s DL (r1, r2) ((E.wadd .u64 (E.wmul .u64 a 10) (E.wrap .u64 (E.wsub .u8 x 48))), E.wadd .i64 i 1) := by
              rw [ea, ei]
              exact ⟨by simp only; omega, by simp only; omega, m', rfl, by simp only; rw [show (i + 1).toNat = i.toNat + 1 by omega]; exact hw⟩
            have hM : μ (E.wadd .i64 i 1) < μ i := by
              rw [hμ, hμ, ei]; omega
            clear hcx
            cbv
            repeat (first | (simp only [c1]; cbv) | simp only [c1] | (refine ⟨hp, ?_⟩; cbv) | (refine ⟨_, gx, ?_⟩; cbv) | (simp only [d1]; cbv) | simp only [d1] | (simp only [d2]; cbv) | simp only [d2])
            refine .mk ((E.wadd .u64 (E.wmul .u64 a 10) (E.wrap .u64 (E.wsub .u8 x 48))), E.wadd .i64 i 1) ⟨rfl, rfl, rfl, rfl, rfl⟩ ?_ ?_
            · exact hI
            · exact hM
          · rw [if_neg hdig] at hw
            unfold isDig at hdig
            cases hw
            by_cases hlo : x < 48
            · rw [decide_eq_true hlo] at d1
              clear hcx
              cbv
              repeat (first | (simp only [c1]; cbv) | simp only [c1] | (refine ⟨hp, ?_⟩; cbv) | (refine ⟨_, gx, ?_⟩; cbv) | (simp only [d1]; cbv) | simp only [d1])
            · rw [decide_eq_false hlo] at d1
              rw [decide_eq_true (by omega)] at d2
              clear hcx
              cbv
              repeat (first | (simp only [c1]; cbv) | simp only [c1] | (refine ⟨hp, ?_⟩; cbv) | (refine ⟨_, gx, ?_⟩; cbv) | (simp only [d1]; cbv) | simp only [d1] | (simp only [d2]; cbv) | simp only [d2])
        · rw [decide_eq_false hin] at c1
          rw [List.drop_eq_nil_of_le (by omega)] at hw
          unfold numW finW at hw
          simp only [if_true] at hw
          have w1 : E.wrap .i64 a = IntKind.i64.wrap (m : Int) := by rw [hE, hm]; rfl
          have w2 : E.wsub .i64 0 (IntKind.i64.wrap (m : Int)) = IntKind.i64.wrap (0 - IntKind.i64.wrap (m : Int)) := by rw [hE]; rfl
          have q1 := wrap_rng (m : Int)
          have q2 := wrap_rng (0 - IntKind.i64.wrap (m : Int))
          have k1 := hc _ _ _ (digits_ret _ q1.1 q1.2)
          have k2 := hc _ _ _ (digits_ret _ q2.1 q2.2)
          generalize hz2 : IntKind.i64.wrap (0 - IntKind.i64.wrap (m : Int)) = o2 at *
          generalize hz1 : IntKind.i64.wrap (m : Int) = o1 at *
          have hq : ∀ z, E.eq z s = decide (z = s) := fun z => by rw [hE]; rfl
          have hq1 := hq (itoaS o2)
          by_cases ht : itoaS o2 = s
          · rw [if_pos ht] at hw
            rw [decide_eq_true ht] at hq1
            obtain ⟨f1, f2⟩ := Prod.mk.inj hw
            subst f1 f2
            generalize itoaS o2 = z at *
            cbv
            repeat (first | (simp only [c1]; cbv) | simp only [c1] | (simp only [w1]; cbv) | simp only [w1] | (simp only [hds]; cbv) | simp only [hds] | (simp only [w2]; cbv) | simp only [w2] | (refine ⟨_, k2, ?_⟩; cbv) | (simp only [hq1]; cbv) | simp only [hq1])
          · rw [if_neg ht] at hw
            rw [decide_eq_false ht] at hq1
            cases hw
            generalize itoaS o2 = z at *
            cbv
            repeat (first | (simp only [c1]; cbv) | simp only [c1] | (simp only [w1]; cbv) | simp only [w1] | (simp only [hds]; cbv) | simp only [hds] | (simp only [w2]; cbv) | simp only [w2] | (refine ⟨_, k2, ?_⟩; cbv) | (simp only [hq1]; cbv) | simp only [hq1])
    · have hng : isNeg (c :: rest) = false := by
        unfold isNeg
        exact decide_eq_false (by simpa using hneg)
      rw [hng] at hr
      have hr' : (if (c :: rest).length < 1 ∨ 19 < (c :: rest).length then (0, 6) else numW false s 0 (c :: rest)) = (r1, r2) := hr
      clear hr
      obtain ⟨x0, hx0⟩ : ∃ x : Int, (c.toNat : Int) = x := ⟨_, rfl⟩
      have hcn : decide (x0 = 45) = false := by
        refine decide_eq_false fun h => hneg ?_
        rw [← hx0] at h
        apply UInt8.toNat_inj.1
        show c.toNat = 45
        omega
      have hsl : (c :: rest).length = s.size := by rw [← hlen]; rfl
      rw [← hl] at hr' hsl
      generalize hDL : s.data.toList = DL at *
      by_cases hsz : DL.length < 1 ∨ 19 < DL.length
      · rw [if_pos hsz] at hr'
        cases hr'
        refine ret_by tyT_ok good_gr mixed (fun _ => 0) Tryd.func41 rfl (by kernel_rfl) (by kernel_rfl) rfl fun P G E hc hE => ?_
        have e0 : E.lti 0 (E.size s) = true := by rw [hE]; exact decide_eq_true (by simp only [stdE]; omega)
        have g0 : E.get s (E.nat 0) = some x0 := by rw [hE, ← hx0]; exact hgc
        have p0 : E.ple 0 0 := by rw [hE]; exact Int.le_refl _
        have e1 : E.lti (E.size s) 1 = false := by rw [hE]; exact decide_eq_false (by simp only [stdE]; omega)
        have e2 : E.lti 19 (E.size s) = true := by rw [hE]; exact decide_eq_true (by simp only [stdE]; omega)
        cbv
        repeat (first | (simp only [e0]; cbv) | simp only [e0] | (refine ⟨p0, ?_⟩; cbv) | (refine ⟨_, g0, ?_⟩; cbv) | (simp only [hcn]; cbv) | simp only [hcn] | (simp only [e1]; cbv) | simp only [e1] | (simp only [e2]; cbv) | simp only [e2])
      · rw [if_neg hsz] at hr'
        have hfin : numW false s 0 (DL.drop 0) = (r1, r2) := hr'
        obtain ⟨μ, hμ⟩ : ∃ μ : Int → Nat, ∀ i, μ i = DL.length - i.toNat := ⟨_, fun _ => rfl⟩
        refine ret_by tyT_ok good_gr mixed (fun _ => 0) Tryd.func41 rfl (by kernel_rfl) (by kernel_rfl) rfl fun P G E hc hE => ?_
        have e0 : E.lti 0 (E.size s) = true := by rw [hE]; exact decide_eq_true (by simp only [stdE]; omega)
        have g0 : E.get s (E.nat 0) = some x0 := by rw [hE, ← hx0]; exact hgc
        have p0 : E.ple 0 0 := by rw [hE]; exact Int.le_refl _
        have e1 : E.lti (E.size s) 1 = false := by rw [hE]; exact decide_eq_false (by simp only [stdE]; omega)
        have e2 : E.lti 19 (E.size s) = false := by rw [hE]; exact decide_eq_false (by simp only [stdE]; omega)
        have hds : E.eq s s = true := by rw [hE]; exact decide_eq_true rfl
        have elt : ∀ a b, E.lti a b = decide (a < b) := fun a b => by rw [hE]; rfl
        have hget : ∀ (i : Nat) c, DL[i]? = some c → E.get s i = some (c.toNat : Int) := by rw [hE]; exact hg0
        have hszD : E.size s = ((DL.length : Nat) : Int) := by rw [hE, hsl]; rfl
        cbv
        repeat (first | (simp only [e0]; cbv) | simp only [e0] | (refine ⟨p0, ?_⟩; cbv) | (refine ⟨_, g0, ?_⟩; cbv) | (simp only [hcn]; cbv) | simp only [hcn] | (simp only [e1]; cbv) | simp only [e1] | (simp only [e2]; cbv) | simp only [e2])
        refine loop_by 63 [0, 4, 5, 6] 0 (fun x : Int × Int => [.p (pS s), .p (.v (.int .u64 x.1)), .p (pS s), .p (pI x.2)]) (fun _ => []) (NumI false s DL (r1, r2)) (fun x => μ x.2) (0, 0) ⟨rfl, rfl, rfl, rfl, rfl⟩ ⟨by omega, by omega, 0, rfl, hfin⟩ ?_
        rintro ⟨a, i⟩ ⟨h0, h1, ⟨m, hm, hw⟩⟩
        simp only at h0 h1 hm hw
        have c1 : E.lti i (E.size s) = decide (i < (DL.length : Int)) := by rw [elt, hszD]
        have enat : E.nat i = i.toNat := by rw [hE]; rfl
        have hp : E.ple 0 i := by rw [hE]; exact h0
        by_cases hin : i < (DL.length : Int)
        · rw [decide_eq_true hin] at c1
          obtain ⟨c, hcx⟩ : ∃ c, DL[i.toNat]? = some c := ⟨_, List.getElem?_eq_getElem (by omega)⟩
          obtain ⟨x, hx⟩ : ∃ x : Int, (c.toNat : Int) = x := ⟨_, rfl⟩
          have gx : E.get s (E.nat i) = some x := by rw [enat, ← hx]; exact hget _ _ hcx
          rw [drop_someB hcx] at hw
          unfold numW at hw
          have d1 := elt x 48
          have d2 := elt 57 x
          by_cases hdig : isDig c
          · have hst := acc_step m c hdig
            rw [if_pos hdig] at hw
            unfold isDig at hdig
            rw [decide_eq_false (by omega)] at d1 d2
            have ea : E.wadd .u64 (E.wmul .u64 a 10) (E.wrap .u64 (E.wsub .u8 x 48)) = (((m * 10 + (c.toNat - 48)) % 18446744073709551616 : Nat) : Int) := by
              rw [hE, hm, ← hx]; exact hst
            have ei : E.wadd .i64 i 1 = i + 1 := by rw [hE]; exact wrap_i64_in (by omega) (by omega)
            obtain ⟨m', hm'⟩ : ∃ m', (m * 10 + (c.toNat - 48)) % 18446744073709551616 = m' := ⟨_, rfl⟩
            rw [hm'] at hw ea
            have hI : NumI false s DL (r1, r2) ((E.wadd .u64 (E.wmul .u64 a 10) (E.wrap .u64 (E.wsub .u8 x 48))), E.wadd .i64 i 1) := by
              rw [ea, ei]
              exact ⟨by simp only; omega, by simp only; omega, m', rfl, by simp only; rw [show (i + 1).toNat = i.toNat + 1 by omega]; exact hw⟩
            have hM : μ (E.wadd .i64 i 1) < μ i := by
              rw [hμ, hμ, ei]; omega
            clear hcx
            cbv
            repeat (first | (simp only [c1]; cbv) | simp only [c1] | (refine ⟨hp, ?_⟩; cbv) | (refine ⟨_, gx, ?_⟩; cbv) | (simp only [d1]; cbv) | simp only [d1] | (simp only [d2]; cbv) | simp only [d2])
            refine .mk ((E.wadd .u64 (E.wmul .u64 a 10) (E.wrap .u64 (E.wsub .u8 x 48))), E.wadd .i64 i 1) ⟨rfl, rfl, rfl, rfl, rfl⟩ ?_ ?_
            · exact hI
            · exact hM
          · rw [if_neg hdig] at hw
            unfold isDig at hdig
            cases hw
            by_cases hlo : x < 48
            · rw [decide_eq_true hlo] at d1
              clear hcx
              cbv
              repeat (first | (simp only [c1]; cbv) | simp only [c1] | (refine ⟨hp, ?_⟩; cbv) | (refine ⟨_, gx, ?_⟩; cbv) | (simp only [d1]; cbv) | simp only [d1])
            · rw [decide_eq_false hlo] at d1
              rw [decide_eq_true (by omega)] at d2
              clear hcx
              cbv
              repeat (first | (simp only [c1]; cbv) | simp only [c1] | (refine ⟨hp, ?_⟩; cbv) | (refine ⟨_, gx, ?_⟩; cbv) | (simp only [d1]; cbv) | simp only [d1] | (simp only [d2]; cbv) | simp only [d2])
        · rw [decide_eq_false hin] at c1
          rw [List.drop_eq_nil_of_le (by omega)] at hw
          unfold numW finW at hw
          simp only [Bool.false_eq_true,if_false] at hw
          have w1 : E.wrap .i64 a = IntKind.i64.wrap (m : Int) := by rw [hE, hm]; rfl
          have w2 : E.wsub .i64 0 (IntKind.i64.wrap (m : Int)) = IntKind.i64.wrap (0 - IntKind.i64.wrap (m : Int)) := by rw [hE]; rfl
          have q1 := wrap_rng (m : Int)
          have q2 := wrap_rng (0 - IntKind.i64.wrap (m : Int))
          have k1 := hc _ _ _ (digits_ret _ q1.1 q1.2)
          have k2 := hc _ _ _ (digits_ret _ q2.1 q2.2)
          generalize hz2 : IntKind.i64.wrap (0 - IntKind.i64.wrap (m : Int)) = o2 at *
          generalize hz1 : IntKind.i64.wrap (m : Int) = o1 at *
          have hq : ∀ z, E.eq z s = decide (z = s) := fun z => by rw [hE]; rfl
          have hq1 := hq (itoaS o1)
          by_cases ht : itoaS o1 = s
          · rw [if_pos ht] at hw
            rw [decide_eq_true ht] at hq1
            obtain ⟨f1, f2⟩ := Prod.mk.inj hw
            subst f1 f2
            generalize itoaS o1 = z at *
            cbv
            repeat (first | (simp only [c1]; cbv) | simp only [c1] | (simp only [w1]; cbv) | simp only [w1] | (simp only [hds]; cbv) | simp only [hds] | (simp only [w2]; cbv) | simp only [w2] | (refine ⟨_, k1, ?_⟩; cbv) | (simp only [hq1]; cbv) | simp only [hq1])
          · rw [if_neg ht] at hw
            rw [decide_eq_false ht] at hq1
            cases hw
            generalize itoaS o1 = z at *
            cbv
            repeat (first | (simp only [c1]; cbv) | simp only [c1] | (simp only [w1]; cbv) | simp only [w1] | (simp only [hds]; cbv) | simp only [hds] | (simp only [w2]; cbv) | simp only [w2] | (refine ⟨_, k1, ?_⟩; cbv) | (simp only [hq1]; cbv) | simp only [hq1])
theorem rnumber_ret (s : ByteArray) (hs : s.size ≤ 1000) : R 41 [pS s] (.tup [pI (numE s).1, pI (numE s).2]) := by
  rw [← numR_eq]; exact rnumber_any s hs
end Go.Proofs.YtadgpchdlkiinaaDoor
