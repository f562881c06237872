/- Own work: the walk of knapsacklaw27.BytecodeSame: it returns true for every two programs. -/
import Derived.Test.YtlffpgjkhehdmaaDoorBSame
import Derived.Test.YtlffpgjkhehdmaaDoorFew
import Derived.Test.YtlffpgjkhehdmaaDoorAwake27
namespace Go.Proofs.YtlffpgjkhehdmaaDoor
open Go.RowKit
set_option linter.unusedVariables false
set_option linter.unusedSimpArgs false

theorem all2_comm {α : Type} {p : α → α → Bool} (h : ∀ x y, p x y = p y x) : ∀ xs ys : List α, all2 p xs ys = all2 p ys xs
  | [], [] => rfl
  | [], _ :: _ => rfl
  | _ :: _, [] => rfl
  | x :: xs, y :: ys => by
    have := all2_comm h xs ys
    unfold all2 at this ⊢
    simp only [List.zip_cons_cons, List.all_cons, this, h x y]
theorem all2_refl {α : Type} {p : α → α → Bool} (h : ∀ x, p x x = true) : ∀ xs : List α, all2 p xs xs = true
  | [] => rfl
  | x :: xs => by
    have := all2_refl h xs
    unfold all2 at this ⊢
    simp only [List.zip_cons_cons, List.all_cons, this, h x, Bool.and_self]
theorem listEq_comm {α : Type} {p : α → α → Bool} (h : ∀ x y, p x y = p y x) (xs ys : List α) : listEq p xs ys = listEq p ys xs := by
  unfold listEq; rw [all2_comm h xs ys]; congr 1; exact decide_eq_decide.2 ⟨Eq.symm, Eq.symm⟩
theorem listEq_refl {α : Type} {p : α → α → Bool} (h : ∀ x, p x x = true) (xs : List α) : listEq p xs xs = true := by
  unfold listEq; rw [all2_refl h xs]; simp
theorem beq_sym {α : Type} [BEq α] [LawfulBEq α] (a b : α) : (a == b) = (b == a) := by
  rw [Bool.eq_iff_iff, beq_iff_eq, beq_iff_eq]; exact ⟨Eq.symm, Eq.symm⟩
theorem dec_sym (a b : Nat) : decide (a = b) = decide (b = a) := decide_eq_decide.2 ⟨Eq.symm, Eq.symm⟩
theorem insEq_comm (x y : Ins) : insEq x y = insEq y x := by
  unfold insEq; rw [beq_sym x.op, beq_sym x.a, beq_sym x.b]
theorem hdlEq_comm (x y : Hdl) : hdlEq x y = hdlEq y x := by
  unfold hdlEq; rw [beq_sym x.lo, beq_sym x.hi, beq_sym x.tg, beq_sym x.dp, beq_sym x.sc]
theorem cstSame_comm (x y : Cst) : cstSame x y = cstSame y x := by
  rw [← plain_same, ← plain_same]
  unfold cstEq; rw [beq_sym (plainC x).kind, beq_sym (plainC x).int, beq_sym (plainC x).str.toList]
theorem fnSame_comm (x y : Fn) : fnSame x y = fnSame y x := by
  unfold fnSame headSame bodySame
  rw [all2_comm insEq_comm x.code, all2_comm cstSame_comm x.consts, all2_comm hdlEq_comm x.hdls, beq_sym x.name.toList, beq_sym x.kind, beq_sym x.params, beq_sym x.locals, dec_sym x.code.length, dec_sym x.consts.length, dec_sym x.hdls.length]
theorem fnSame_refl (x : Fn) : fnSame x x = true := by
  unfold fnSame headSame bodySame
  rw [all2_refl (fun x => by simp [insEq]), all2_refl (fun x => by simp [cstSame]), all2_refl (fun x => by simp [hdlEq])]
  simp
theorem progSame_comm (xs ys : List FnRef) : progSame xs ys = progSame ys xs := listEq_comm (fun x y => fnSame_comm x.f y.f) xs ys
theorem progSame_refl (xs : List FnRef) : progSame xs xs = true := listEq_refl (fun x => fnSame_refl x.f) xs
theorem few_eq (A : Option Addr) (c : Nat) (rs : List FnRef) (n : Int) (w : World) (q : Bool) (hq : fewB rs n = q) (hP : ProgAt w A rs) (hn : n ≤ 100) :
    Calls Tryd.prog 20 #[.agg #[.slice A rs.length c], .int .i64 n] w fun e w' => e = .returned (.bool q) ∧ Gr w w' := by
  subst hq; exact few_any A c rs n w hP hn
theorem few_len {rs : List FnRef} {n : Int} (h : fewB rs n = true) : (rs.length : Int) ≤ n := by
  unfold fewB at h; rw [Bool.and_eq_true] at h; exact of_decide_eq_true h.1

set_option maxHeartbeats 4000000 in
set_option maxRecDepth 100000 in
theorem lsame_any (A B : Option Addr) (c d : Nat) (xs ys : List FnRef) (w : World) (hT : Tabs w) (hA : ProgAt w A xs) (hB : ProgAt w B ys) :
    Calls Tryd.prog 5 #[.agg #[.slice A xs.length c], .agg #[.slice B ys.length d]] w fun e w' => e = .returned (.bool true) ∧ Gr w w' := by
  have HT := Lib.hid hT
  have HA := Lib.hid hA
  have HB := Lib.hid hB
  clear hA hB hT
  cases hfx : fewB xs 3
  · have FX := Lib.hid hfx
    clear hfx
    go_enter Tryd.func5, Tryd.ntmps5
    go_wp2_with fail
    have HB1 := Lib.hid (heap_alloc2_old w (progBox A xs.length c) (progBox B ys.length d))
    have HB2 := Lib.hid (heap_alloc2_new w (progBox A xs.length c) (progBox B ys.length d))
    have HW := Lib.hid (gr_alloc2 w (progBox A xs.length c) (progBox B ys.length d))
    unfold progBox at HB1 HB2 HW
    refine (awake27 _ (HT.out.gr HW.out)).mono ?_
    rintro e w1 ⟨rfl, hb⟩
    have hbxa := heap_gr hb HB1.out
    have hbxb := heap_gr hb HB2.out
    have hW := HW.out.trans hb
    clear hb HB1 HB2 HW
    have HB1 := Lib.hid hbxa
    have HB2 := Lib.hid hbxb
    have HW := Lib.hid hW
    clear hW
    obtain ⟨W1, hw1, hs1, hs2, hWW⟩ := plug2 hbxa hbxb
    clear hbxa hbxb hWW
    subst hw1
    go_wp2_with fail
    refine (few_eq A c xs 3 _ false FX.out (HA.out.gr HW.out) (by decide)).mono ?_
    rintro e w2 ⟨rfl, hb⟩
    have hbxa := heap_gr hb HB1.out
    have hbxb := heap_gr hb HB2.out
    have hW := HW.out.trans hb
    clear hb HB1 HB2 HW
    have HB1 := Lib.hid hbxa
    have HB2 := Lib.hid hbxb
    have HW := Lib.hid hW
    clear hW
    obtain ⟨W2, hw2, hs1, hs2, hWW⟩ := plug2 hbxa hbxb
    clear hbxa hbxb hWW
    subst hw2
    go_wp2_with fail
    refine (awake27 _ (HT.out.gr HW.out)).mono ?_
    rintro e w3 ⟨rfl, hb⟩
    have hbxa := heap_gr hb HB1.out
    have hbxb := heap_gr hb HB2.out
    have hW := HW.out.trans hb
    clear hb HB1 HB2 HW
    have HB1 := Lib.hid hbxa
    have HB2 := Lib.hid hbxb
    have HW := Lib.hid hW
    clear hW
    obtain ⟨W3, hw3, hs1, hs2, hWW⟩ := plug2 hbxa hbxb
    clear hbxa hbxb hWW
    subst hw3
    go_wp2_with fail
    go_ret
    exact ⟨rfl, HW.out⟩
  cases hfy : fewB ys 3
  · have FX := Lib.hid hfx
    have FY := Lib.hid hfy
    clear hfx hfy
    go_enter Tryd.func5, Tryd.ntmps5
    go_wp2_with fail
    have HB1 := Lib.hid (heap_alloc2_old w (progBox A xs.length c) (progBox B ys.length d))
    have HB2 := Lib.hid (heap_alloc2_new w (progBox A xs.length c) (progBox B ys.length d))
    have HW := Lib.hid (gr_alloc2 w (progBox A xs.length c) (progBox B ys.length d))
    unfold progBox at HB1 HB2 HW
    refine (awake27 _ (HT.out.gr HW.out)).mono ?_
    rintro e w1 ⟨rfl, hb⟩
    have hbxa := heap_gr hb HB1.out
    have hbxb := heap_gr hb HB2.out
    have hW := HW.out.trans hb
    clear hb HB1 HB2 HW
    have HB1 := Lib.hid hbxa
    have HB2 := Lib.hid hbxb
    have HW := Lib.hid hW
    clear hW
    obtain ⟨W1, hw1, hs1, hs2, hWW⟩ := plug2 hbxa hbxb
    clear hbxa hbxb hWW
    subst hw1
    go_wp2_with fail
    refine (few_eq A c xs 3 _ true FX.out (HA.out.gr HW.out) (by decide)).mono ?_
    rintro e w2 ⟨rfl, hb⟩
    have hbxa := heap_gr hb HB1.out
    have hbxb := heap_gr hb HB2.out
    have hW := HW.out.trans hb
    clear hb HB1 HB2 HW
    have HB1 := Lib.hid hbxa
    have HB2 := Lib.hid hbxb
    have HW := Lib.hid hW
    clear hW
    obtain ⟨W2, hw2, hs1, hs2, hWW⟩ := plug2 hbxa hbxb
    clear hbxa hbxb hWW
    subst hw2
    go_wp2_with fail
    refine (few_eq B d ys 3 _ false FY.out (HB.out.gr HW.out) (by decide)).mono ?_
    rintro e w3 ⟨rfl, hb⟩
    have hbxa := heap_gr hb HB1.out
    have hbxb := heap_gr hb HB2.out
    have hW := HW.out.trans hb
    clear hb HB1 HB2 HW
    have HB1 := Lib.hid hbxa
    have HB2 := Lib.hid hbxb
    have HW := Lib.hid hW
    clear hW
    obtain ⟨W3, hw3, hs1, hs2, hWW⟩ := plug2 hbxa hbxb
    clear hbxa hbxb hWW
    subst hw3
    go_wp2_with fail
    refine (awake27 _ (HT.out.gr HW.out)).mono ?_
    rintro e w4 ⟨rfl, hb⟩
    have hbxa := heap_gr hb HB1.out
    have hbxb := heap_gr hb HB2.out
    have hW := HW.out.trans hb
    clear hb HB1 HB2 HW
    have HB1 := Lib.hid hbxa
    have HB2 := Lib.hid hbxb
    have HW := Lib.hid hW
    clear hW
    obtain ⟨W4, hw4, hs1, hs2, hWW⟩ := plug2 hbxa hbxb
    clear hbxa hbxb hWW
    subst hw4
    go_wp2_with fail
    go_ret
    exact ⟨rfl, HW.out⟩
  have lx : xs.length ≤ 1000000 := by have := few_len hfx; omega
  have ly : ys.length ≤ 1000000 := by have := few_len hfy; omega
  have FX := Lib.hid hfx
  have FY := Lib.hid hfy
  clear hfx hfy
  go_enter Tryd.func5, Tryd.ntmps5
  go_wp2_with fail
  have HB1 := Lib.hid (heap_alloc2_old w (progBox A xs.length c) (progBox B ys.length d))
  have HB2 := Lib.hid (heap_alloc2_new w (progBox A xs.length c) (progBox B ys.length d))
  have HW := Lib.hid (gr_alloc2 w (progBox A xs.length c) (progBox B ys.length d))
  unfold progBox at HB1 HB2 HW
  refine (awake27 _ (HT.out.gr HW.out)).mono ?_
  rintro e w1 ⟨rfl, hb⟩
  have hbxa := heap_gr hb HB1.out
  have hbxb := heap_gr hb HB2.out
  have hW := HW.out.trans hb
  clear hb HB1 HB2 HW
  have HB1 := Lib.hid hbxa
  have HB2 := Lib.hid hbxb
  have HW := Lib.hid hW
  clear hW
  obtain ⟨W1, hw1, hs1, hs2, hWW⟩ := plug2 hbxa hbxb
  clear hbxa hbxb hWW
  subst hw1
  go_wp2_with fail
  refine (few_eq A c xs 3 _ true FX.out (HA.out.gr HW.out) (by decide)).mono ?_
  rintro e w2 ⟨rfl, hb⟩
  have hbxa := heap_gr hb HB1.out
  have hbxb := heap_gr hb HB2.out
  have hW := HW.out.trans hb
  clear hb HB1 HB2 HW
  have HB1 := Lib.hid hbxa
  have HB2 := Lib.hid hbxb
  have HW := Lib.hid hW
  clear hW
  obtain ⟨W2, hw2, hs1, hs2, hWW⟩ := plug2 hbxa hbxb
  clear hbxa hbxb hWW
  subst hw2
  go_wp2_with fail
  refine (few_eq B d ys 3 _ true FY.out (HB.out.gr HW.out) (by decide)).mono ?_
  rintro e w3 ⟨rfl, hb⟩
  have hbxa := heap_gr hb HB1.out
  have hbxb := heap_gr hb HB2.out
  have hW := HW.out.trans hb
  clear hb HB1 HB2 HW
  have HB1 := Lib.hid hbxa
  have HB2 := Lib.hid hbxb
  have HW := Lib.hid hW
  clear hW
  obtain ⟨W3, hw3, hs1, hs2, hWW⟩ := plug2 hbxa hbxb
  clear hbxa hbxb hWW
  subst hw3
  go_wp2_with fail
  cases hs : progSame xs ys
  · have HS := Lib.hid hs
    have HS2 := Lib.hid ((progSame_comm ys xs).trans hs)
    have HS3 := Lib.hid (progSame_refl xs)
    clear hs
    refine (RSame_eq A B c d xs ys _ false HS.out (HA.out.gr HW.out) (HB.out.gr HW.out) lx ly).mono ?_
    rintro e w4 ⟨rfl, hb⟩
    have hbxa := heap_gr hb HB1.out
    have hbxb := heap_gr hb HB2.out
    have hW := HW.out.trans hb
    clear hb HB1 HB2 HW
    have HB1 := Lib.hid hbxa
    have HB2 := Lib.hid hbxb
    have HW := Lib.hid hW
    clear hW
    obtain ⟨W4, hw4, hs1, hs2, hWW⟩ := plug2 hbxa hbxb
    clear hbxa hbxb hWW
    subst hw4
    go_wp2_with fail
    refine (Same_eq A B c d xs ys _ false HS.out (HA.out.gr HW.out) (HB.out.gr HW.out) lx ly).mono ?_
    rintro e w5 ⟨rfl, hb⟩
    have hbxa := heap_gr hb HB1.out
    have hbxb := heap_gr hb HB2.out
    have hW := HW.out.trans hb
    clear hb HB1 HB2 HW
    have HB1 := Lib.hid hbxa
    have HB2 := Lib.hid hbxb
    have HW := Lib.hid hW
    clear hW
    obtain ⟨W5, hw5, hs1, hs2, hWW⟩ := plug2 hbxa hbxb
    clear hbxa hbxb hWW
    subst hw5
    go_wp2_with fail
    refine (Same_eq B A d c ys xs _ false HS2.out (HB.out.gr HW.out) (HA.out.gr HW.out) ly lx).mono ?_
    rintro e w6 ⟨rfl, hb⟩
    have hbxa := heap_gr hb HB1.out
    have hbxb := heap_gr hb HB2.out
    have hW := HW.out.trans hb
    clear hb HB1 HB2 HW
    have HB1 := Lib.hid hbxa
    have HB2 := Lib.hid hbxb
    have HW := Lib.hid hW
    clear hW
    obtain ⟨W6, hw6, hs1, hs2, hWW⟩ := plug2 hbxa hbxb
    clear hbxa hbxb hWW
    subst hw6
    go_wp2_with fail
    refine (Same_eq A A c c xs xs _ true HS3.out (HA.out.gr HW.out) (HA.out.gr HW.out) lx lx).mono ?_
    rintro e w7 ⟨rfl, hb⟩
    have hbxa := heap_gr hb HB1.out
    have hbxb := heap_gr hb HB2.out
    have hW := HW.out.trans hb
    clear hb HB1 HB2 HW
    have HB1 := Lib.hid hbxa
    have HB2 := Lib.hid hbxb
    have HW := Lib.hid hW
    clear hW
    obtain ⟨W7, hw7, hs1, hs2, hWW⟩ := plug2 hbxa hbxb
    clear hbxa hbxb hWW
    subst hw7
    go_wp2_with fail
    go_ret
    exact ⟨rfl, HW.out⟩
  · have HS := Lib.hid hs
    have HS2 := Lib.hid ((progSame_comm ys xs).trans hs)
    have HS3 := Lib.hid (progSame_refl xs)
    clear hs
    refine (RSame_eq A B c d xs ys _ true HS.out (HA.out.gr HW.out) (HB.out.gr HW.out) lx ly).mono ?_
    rintro e w4 ⟨rfl, hb⟩
    have hbxa := heap_gr hb HB1.out
    have hbxb := heap_gr hb HB2.out
    have hW := HW.out.trans hb
    clear hb HB1 HB2 HW
    have HB1 := Lib.hid hbxa
    have HB2 := Lib.hid hbxb
    have HW := Lib.hid hW
    clear hW
    obtain ⟨W4, hw4, hs1, hs2, hWW⟩ := plug2 hbxa hbxb
    clear hbxa hbxb hWW
    subst hw4
    go_wp2_with fail
    refine (Same_eq A B c d xs ys _ true HS.out (HA.out.gr HW.out) (HB.out.gr HW.out) lx ly).mono ?_
    rintro e w5 ⟨rfl, hb⟩
    have hbxa := heap_gr hb HB1.out
    have hbxb := heap_gr hb HB2.out
    have hW := HW.out.trans hb
    clear hb HB1 HB2 HW
    have HB1 := Lib.hid hbxa
    have HB2 := Lib.hid hbxb
    have HW := Lib.hid hW
    clear hW
    obtain ⟨W5, hw5, hs1, hs2, hWW⟩ := plug2 hbxa hbxb
    clear hbxa hbxb hWW
    subst hw5
    go_wp2_with fail
    refine (Same_eq B A d c ys xs _ true HS2.out (HB.out.gr HW.out) (HA.out.gr HW.out) ly lx).mono ?_
    rintro e w6 ⟨rfl, hb⟩
    have hbxa := heap_gr hb HB1.out
    have hbxb := heap_gr hb HB2.out
    have hW := HW.out.trans hb
    clear hb HB1 HB2 HW
    have HB1 := Lib.hid hbxa
    have HB2 := Lib.hid hbxb
    have HW := Lib.hid hW
    clear hW
    obtain ⟨W6, hw6, hs1, hs2, hWW⟩ := plug2 hbxa hbxb
    clear hbxa hbxb hWW
    subst hw6
    go_wp2_with fail
    refine (Same_eq A A c c xs xs _ true HS3.out (HA.out.gr HW.out) (HA.out.gr HW.out) lx lx).mono ?_
    rintro e w7 ⟨rfl, hb⟩
    have hbxa := heap_gr hb HB1.out
    have hbxb := heap_gr hb HB2.out
    have hW := HW.out.trans hb
    clear hb HB1 HB2 HW
    have HB1 := Lib.hid hbxa
    have HB2 := Lib.hid hbxb
    have HW := Lib.hid hW
    clear hW
    obtain ⟨W7, hw7, hs1, hs2, hWW⟩ := plug2 hbxa hbxb
    clear hbxa hbxb hWW
    subst hw7
    go_wp2_with fail
    go_ret
    exact ⟨rfl, HW.out⟩
end Go.Proofs.YtlffpgjkhehdmaaDoor
