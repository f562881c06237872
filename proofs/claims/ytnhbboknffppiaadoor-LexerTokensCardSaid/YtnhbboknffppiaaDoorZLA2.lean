/- Own work: package knapsackref25: begins, skip. -/
import Derived.Test.YtnhbboknffppiaaDoorZLA1
namespace Go.Proofs.YtnhbboknffppiaaDoor
open Go.RowKit
set_option maxRecDepth 100000
set_option linter.unusedSimpArgs false

def rst (s : ByteArray) (i : Int) : Bs := s.data.toList.drop i.toNat
theorem rst_len (s : ByteArray) (i : Int) : (rst s i).length = s.size - i.toNat := by
  unfold rst
  rw [List.length_drop]
  rfl
def begB (s : ByteArray) (i : Int) (t : Bs) : Bool := decide ((rst s i).take t.length = t)
theorem bl_inj {a b : ByteArray} (h : a.data.toList = b.data.toList) : a = b := by
  show (⟨a.data.toList.toArray⟩ : ByteArray) = ⟨b.data.toList.toArray⟩
  rw [h]
theorem bl_ext (s : ByteArray) (l h : Nat) : (s.extract l h).data.toList = (s.data.toList.drop l).take (h - l) := by
  rw [ByteArray.data_extract, Array.toList_extract]
theorem begins_ret (s t : ByteArray) (i : Int) (h0 : 0 ≤ i) (h1 : i ≤ (s.size : Nat)) (hs : s.size ≤ 1000000000) (ht : t.size ≤ 1000000) : V0 36 [pS s, pI i, pS t] (pB (begB s i t.data.toList)) := by
  obtain ⟨n, hn⟩ : ∃ n : Int, ((s.size : Nat) : Int) = n := ⟨_, rfl⟩
  obtain ⟨m, hm⟩ : ∃ m : Int, ((t.size : Nat) : Int) = m := ⟨_, rfl⟩
  obtain ⟨d, hd⟩ : ∃ d : Int, n - i = d := ⟨_, rfl⟩
  obtain ⟨e, he⟩ : ∃ e : Int, i + m = e := ⟨_, rfl⟩
  have htl : t.data.toList.length = t.size := rfl
  by_cases hcc : m ≤ d
  · have hb : decide (s.extract i.toNat e.toNat = t) = begB s i t.data.toList := by
      unfold begB rst
      have e1 : e.toNat - i.toNat = t.data.toList.length := by omega
      refine decide_eq_decide.2 ⟨fun h => ?_, fun h => ?_⟩
      · rw [← e1, ← bl_ext, h]
      · refine bl_inj ?_
        rw [bl_ext, e1, h]
    generalize hr : begB s i t.data.toList = r at hb
    refine ret_by tyT_ok g0_gr mixed (fun _ => 0) Tryd.func36 rfl (by kernel_rfl) (by kernel_rfl) rfl fun P G E hc hE => ?_
    have z1 : E.size s = n := by rw [hE]; exact hn
    have z2 : E.size t = m := by rw [hE]; exact hm
    have z3 : E.wsub .i64 n i = d := by rw [hE, ← hd]; exact wrap_i64_in (by omega) (by omega)
    have z4 : E.lei m d = true := by rw [hE]; exact decide_eq_true hcc
    have z5 : E.wadd .i64 i m = e := by rw [hE, ← he]; exact wrap_i64_in (by omega) (by omega)
    have p1 : E.ple 0 i := by rw [hE]; exact h0
    have p2 : E.ple i e := by rw [hE]; show i ≤ e; omega
    have p3 : E.ple e n := by rw [hE]; show e ≤ n; omega
    have z6 : E.eq (E.ext s (E.nat i) (E.nat e)) t = r := by rw [hE]; exact hb
    clear hE hn hm hcc hb hd he htl
    cbv
    repeat (first | (simp only [z1]; cbv) | simp only [z1] | (simp only [z2]; cbv) | simp only [z2] | (simp only [z3]; cbv) | simp only [z3] | (simp only [z4]; cbv) | simp only [z4] | (simp only [z5]; cbv) | simp only [z5] | (refine ⟨p1,p2,p3, ?_⟩; cbv) | (simp only [z6]; cbv) | simp only [z6])
  · have hr : begB s i t.data.toList = false := by
      unfold begB
      refine decide_eq_false fun h => ?_
      have := congrArg List.length h
      rw [List.length_take, rst_len] at this
      omega
    rw [hr]
    refine ret_by tyT_ok g0_gr mixed (fun _ => 0) Tryd.func36 rfl (by kernel_rfl) (by kernel_rfl) rfl fun P G E hc hE => ?_
    have z1 : E.size s = n := by rw [hE]; exact hn
    have z2 : E.size t = m := by rw [hE]; exact hm
    have z3 : E.wsub .i64 n i = d := by rw [hE, ← hd]; exact wrap_i64_in (by omega) (by omega)
    have z4 : E.lei m d = false := by rw [hE]; exact decide_eq_false hcc
    clear hE hn hm hcc hr hd he htl
    cbv
    repeat (first | (simp only [z1]; cbv) | simp only [z1] | (simp only [z2]; cbv) | simp only [z2] | (simp only [z3]; cbv) | simp only [z3] | (simp only [z4]; cbv) | simp only [z4])
end Go.Proofs.YtnhbboknffppiaaDoor
