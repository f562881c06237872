/- Own work: package knapsackref25: escape (printed by gen_esc.py). -/
import Derived.Test.YtnhbboknffppiaaDoorZLA7
namespace Go.Proofs.YtnhbboknffppiaaDoor
open Go.RowKit
set_option maxRecDepth 100000
set_option linter.unusedSimpArgs false

/-- what escape returns: a text and a length -/
def escR (s : ByteArray) (a : Int) : PV := match escL uB (rst s a) with
  | none => .tup [pS ⟨#[]⟩, pI 0]
  | some p => .tup [pS (bL p.1), pI ((s.size : Nat) - (p.2.length : Nat) - a)]
theorem escR_none {s : ByteArray} {a : Int} (h : escL uB (rst s a) = none) : escR s a = .tup [pS ⟨#[]⟩, pI 0] := by unfold escR; rw [h]
theorem escR_some {s : ByteArray} {a : Int} {t r : Bs} (h : escL uB (rst s a) = some (t, r)) : escR s a = .tup [pS (bL t), pI ((s.size : Nat) - (r.length : Nat) - a)] := by unfold escR; rw [h]
theorem z_ne {c : UInt8} {z : Int} (hz : ((c.toNat : Nat) : Int) = z) (k : UInt8) (h : c ≠ k) : decide (z = ((k.toNat : Nat) : Int)) = false := decide_eq_false fun e => h (UInt8.toNat_inj.1 (by omega))
set_option maxHeartbeats 8000000 in
theorem escape_ret (s : ByteArray) (a : Int) (h0 : 0 ≤ a) (h1 : a ≤ (s.size : Nat)) (hs : s.size ≤ 100000000) : V0 55 [pS s, pI a] (escR s a) := by
  obtain ⟨n, hn⟩ : ∃ n : Int, ((s.size : Nat) : Int) = n := ⟨_, rfl⟩
  rw [hn] at h1
  have hget : ∀ i : Int, 0 ≤ i → i < n → ∃ c, s.data.toList[i.toNat]? = some c := fun i hi0 hi1 => ⟨_, List.getElem?_eq_getElem (by show i.toNat < s.size; omega)⟩
  rcases Classical.em (n ≤ a) with hA | hA
  · rw [escR_none (by rw [rst_end (by omega)]; rfl)]
    refine ret_by tyT_ok g0_gr mixed (fun n => match n with | 22 => 11 | _ => 0) Tryd.func55 rfl (by kernel_rfl) (by kernel_rfl) rfl fun P G E hc hE => ?_
    have z1 : E.size s = n := by rw [hE]; exact hn
    have d1 : E.lei n a = true := by rw [hE]; exact decide_eq_true hA
    clear hE hc hn hget hA
    cbv
    repeat (first | (simp only [z1]; cbv) | simp only [z1] | (simp only [d1]; cbv) | simp only [d1])
  obtain ⟨c, hci⟩ := hget a h0 (by omega)
  obtain ⟨z, hz⟩ : ∃ z : Int, ((c.toNat : Nat) : Int) = z := ⟨_, rfl⟩
  have hc0 := rst_cons h0 hci
  have hrl := rst_len s (a + 1)
  by_cases e110 : c = 110
  · have he : escL uB (rst s a) = some ([10], rst s (a + 1)) := by rw [hc0, e110]; rfl
    rw [escR_some he, hn, show n - ((rst s (a + 1)).length : Nat) - a = 1 by omega]
    have f110 : decide (z = 110) = true := decide_eq_true (by rw [← hz, e110]; rfl)
    refine ret_by tyT_ok g0_gr mixed (fun n => match n with | 22 => 11 | _ => 0) Tryd.func55 rfl (by kernel_rfl) (by kernel_rfl) rfl fun P G E hc hE => ?_
    have z1 : E.size s = n := by rw [hE]; exact hn
    have d1 : E.lei n a = false := by rw [hE]; exact decide_eq_false hA
    have p1 : E.ple 0 a := by rw [hE]; exact h0
    have g1 : E.get s (E.nat a) = some z := by
      rw [hE]
      show (s.data.toList[a.toNat]?).map _ = some z
      rw [hci, ← hz]
      rfl
    clear hE hc hn hget hA hci hz hc0 hrl he e110
    cbv
    repeat (first | (simp only [z1]; cbv) | simp only [z1] | (simp only [d1]; cbv) | simp only [d1] | (refine ⟨p1,_,g1, ?_⟩; cbv) | (simp only [f110]; cbv) | simp only [f110])
  by_cases e116 : c = 116
  · have he : escL uB (rst s a) = some ([9], rst s (a + 1)) := by rw [hc0, e116]; rfl
    rw [escR_some he, hn, show n - ((rst s (a + 1)).length : Nat) - a = 1 by omega]
    have f110 : decide (z = 110) = false := z_ne hz 110 e110
    have f116 : decide (z = 116) = true := decide_eq_true (by rw [← hz, e116]; rfl)
    refine ret_by tyT_ok g0_gr mixed (fun n => match n with | 22 => 11 | _ => 0) Tryd.func55 rfl (by kernel_rfl) (by kernel_rfl) rfl fun P G E hc hE => ?_
    have z1 : E.size s = n := by rw [hE]; exact hn
    have d1 : E.lei n a = false := by rw [hE]; exact decide_eq_false hA
    have p1 : E.ple 0 a := by rw [hE]; exact h0
    have g1 : E.get s (E.nat a) = some z := by
      rw [hE]
      show (s.data.toList[a.toNat]?).map _ = some z
      rw [hci, ← hz]
      rfl
    clear hE hc hn hget hA hci hz hc0 hrl he e110 e116
    cbv
    repeat (first | (simp only [z1]; cbv) | simp only [z1] | (simp only [d1]; cbv) | simp only [d1] | (refine ⟨p1,_,g1, ?_⟩; cbv) | (simp only [f110]; cbv) | simp only [f110] | (simp only [f116]; cbv) | simp only [f116])
  by_cases e114 : c = 114
  · have he : escL uB (rst s a) = some ([13], rst s (a + 1)) := by rw [hc0, e114]; rfl
    rw [escR_some he, hn, show n - ((rst s (a + 1)).length : Nat) - a = 1 by omega]
    have f110 : decide (z = 110) = false := z_ne hz 110 e110
    have f116 : decide (z = 116) = false := z_ne hz 116 e116
    have f114 : decide (z = 114) = true := decide_eq_true (by rw [← hz, e114]; rfl)
    refine ret_by tyT_ok g0_gr mixed (fun n => match n with | 22 => 11 | _ => 0) Tryd.func55 rfl (by kernel_rfl) (by kernel_rfl) rfl fun P G E hc hE => ?_
    have z1 : E.size s = n := by rw [hE]; exact hn
    have d1 : E.lei n a = false := by rw [hE]; exact decide_eq_false hA
    have p1 : E.ple 0 a := by rw [hE]; exact h0
    have g1 : E.get s (E.nat a) = some z := by
      rw [hE]
      show (s.data.toList[a.toNat]?).map _ = some z
      rw [hci, ← hz]
      rfl
    clear hE hc hn hget hA hci hz hc0 hrl he e110 e116 e114
    cbv
    repeat (first | (simp only [z1]; cbv) | simp only [z1] | (simp only [d1]; cbv) | simp only [d1] | (refine ⟨p1,_,g1, ?_⟩; cbv) | (simp only [f110]; cbv) | simp only [f110] | (simp only [f116]; cbv) | simp only [f116] | (simp only [f114]; cbv) | simp only [f114])
  by_cases e98 : c = 98
  · have he : escL uB (rst s a) = some ([8], rst s (a + 1)) := by rw [hc0, e98]; rfl
    rw [escR_some he, hn, show n - ((rst s (a + 1)).length : Nat) - a = 1 by omega]
    have f110 : decide (z = 110) = false := z_ne hz 110 e110
    have f116 : decide (z = 116) = false := z_ne hz 116 e116
    have f114 : decide (z = 114) = false := z_ne hz 114 e114
    have f98 : decide (z = 98) = true := decide_eq_true (by rw [← hz, e98]; rfl)
    refine ret_by tyT_ok g0_gr mixed (fun n => match n with | 22 => 11 | _ => 0) Tryd.func55 rfl (by kernel_rfl) (by kernel_rfl) rfl fun P G E hc hE => ?_
    have z1 : E.size s = n := by rw [hE]; exact hn
    have d1 : E.lei n a = false := by rw [hE]; exact decide_eq_false hA
    have p1 : E.ple 0 a := by rw [hE]; exact h0
    have g1 : E.get s (E.nat a) = some z := by
      rw [hE]
      show (s.data.toList[a.toNat]?).map _ = some z
      rw [hci, ← hz]
      rfl
    clear hE hc hn hget hA hci hz hc0 hrl he e110 e116 e114 e98
    cbv
    repeat (first | (simp only [z1]; cbv) | simp only [z1] | (simp only [d1]; cbv) | simp only [d1] | (refine ⟨p1,_,g1, ?_⟩; cbv) | (simp only [f110]; cbv) | simp only [f110] | (simp only [f116]; cbv) | simp only [f116] | (simp only [f114]; cbv) | simp only [f114] | (simp only [f98]; cbv) | simp only [f98])
  by_cases e92 : c = 92
  · have he : escL uB (rst s a) = some ([92], rst s (a + 1)) := by rw [hc0, e92]; rfl
    rw [escR_some he, hn, show n - ((rst s (a + 1)).length : Nat) - a = 1 by omega]
    obtain ⟨a1, ha1⟩ : ∃ x : Int, a + 1 = x := ⟨_, rfl⟩
    obtain ⟨O, hO⟩ : ∃ x, bL [92] = x := ⟨_, rfl⟩
    have hex_ : s.extract a.toNat a1.toNat = O := by
      rw [← hO]
      refine bl_inj ?_
      have h6 : s.data.toList.drop a.toNat = c :: rst s (a + 1) := hc0
      rw [bl_ext, h6, e92, show a1.toNat - a.toNat = 1 by omega]
      rfl
    rw [hO]
    have f110 : decide (z = 110) = false := z_ne hz 110 e110
    have f116 : decide (z = 116) = false := z_ne hz 116 e116
    have f114 : decide (z = 114) = false := z_ne hz 114 e114
    have f98 : decide (z = 98) = false := z_ne hz 98 e98
    have f92 : decide (z = 92) = true := decide_eq_true (by rw [← hz, e92]; rfl)
    refine ret_by tyT_ok g0_gr mixed (fun n => match n with | 22 => 11 | _ => 0) Tryd.func55 rfl (by kernel_rfl) (by kernel_rfl) rfl fun P G E hc hE => ?_
    have z1 : E.size s = n := by rw [hE]; exact hn
    have d1 : E.lei n a = false := by rw [hE]; exact decide_eq_false hA
    have p1 : E.ple 0 a := by rw [hE]; exact h0
    have g1 : E.get s (E.nat a) = some z := by
      rw [hE]
      show (s.data.toList[a.toNat]?).map _ = some z
      rw [hci, ← hz]
      rfl
    have w1 : E.wadd .i64 a 1 = a1 := by rw [hE, ← ha1]; exact wrap_i64_in (by omega) (by omega)
    have p2 : E.ple a a1 := by rw [hE]; show a ≤ a1; omega
    have p3 : E.ple a1 n := by rw [hE]; show a1 ≤ n; omega
    have w2 : E.ext s (E.nat a) (E.nat a1) = O := by rw [hE]; exact hex_
    clear hE hc hn hget hA hci hz hc0 hrl he ha1 hO hex_ e110 e116 e114 e98 e92
    cbv
    repeat (first | (simp only [z1]; cbv) | simp only [z1] | (simp only [d1]; cbv) | simp only [d1] | (refine ⟨p1,_,g1, ?_⟩; cbv) | (simp only [f110]; cbv) | simp only [f110] | (simp only [f116]; cbv) | simp only [f116] | (simp only [f114]; cbv) | simp only [f114] | (simp only [f98]; cbv) | simp only [f98] | (simp only [f92]; cbv) | simp only [f92] | (simp only [w1]; cbv) | simp only [w1] | (refine ⟨p1,p2,p3, ?_⟩; cbv) | (simp only [w2]; cbv) | simp only [w2])
  by_cases e34 : c = 34
  · have he : escL uB (rst s a) = some ([34], rst s (a + 1)) := by rw [hc0, e34]; rfl
    rw [escR_some he, hn, show n - ((rst s (a + 1)).length : Nat) - a = 1 by omega]
    obtain ⟨a1, ha1⟩ : ∃ x : Int, a + 1 = x := ⟨_, rfl⟩
    obtain ⟨O, hO⟩ : ∃ x, bL [34] = x := ⟨_, rfl⟩
    have hex_ : s.extract a.toNat a1.toNat = O := by
      rw [← hO]
      refine bl_inj ?_
      have h6 : s.data.toList.drop a.toNat = c :: rst s (a + 1) := hc0
      rw [bl_ext, h6, e34, show a1.toNat - a.toNat = 1 by omega]
      rfl
    rw [hO]
    have f110 : decide (z = 110) = false := z_ne hz 110 e110
    have f116 : decide (z = 116) = false := z_ne hz 116 e116
    have f114 : decide (z = 114) = false := z_ne hz 114 e114
    have f98 : decide (z = 98) = false := z_ne hz 98 e98
    have f92 : decide (z = 92) = false := z_ne hz 92 e92
    have f34 : decide (z = 34) = true := decide_eq_true (by rw [← hz, e34]; rfl)
    refine ret_by tyT_ok g0_gr mixed (fun n => match n with | 22 => 11 | _ => 0) Tryd.func55 rfl (by kernel_rfl) (by kernel_rfl) rfl fun P G E hc hE => ?_
    have z1 : E.size s = n := by rw [hE]; exact hn
    have d1 : E.lei n a = false := by rw [hE]; exact decide_eq_false hA
    have p1 : E.ple 0 a := by rw [hE]; exact h0
    have g1 : E.get s (E.nat a) = some z := by
      rw [hE]
      show (s.data.toList[a.toNat]?).map _ = some z
      rw [hci, ← hz]
      rfl
    have w1 : E.wadd .i64 a 1 = a1 := by rw [hE, ← ha1]; exact wrap_i64_in (by omega) (by omega)
    have p2 : E.ple a a1 := by rw [hE]; show a ≤ a1; omega
    have p3 : E.ple a1 n := by rw [hE]; show a1 ≤ n; omega
    have w2 : E.ext s (E.nat a) (E.nat a1) = O := by rw [hE]; exact hex_
    clear hE hc hn hget hA hci hz hc0 hrl he ha1 hO hex_ e110 e116 e114 e98 e92 e34
    cbv
    repeat (first | (simp only [z1]; cbv) | simp only [z1] | (simp only [d1]; cbv) | simp only [d1] | (refine ⟨p1,_,g1, ?_⟩; cbv) | (simp only [f110]; cbv) | simp only [f110] | (simp only [f116]; cbv) | simp only [f116] | (simp only [f114]; cbv) | simp only [f114] | (simp only [f98]; cbv) | simp only [f98] | (simp only [f92]; cbv) | simp only [f92] | (simp only [f34]; cbv) | simp only [f34] | (simp only [w1]; cbv) | simp only [w1] | (refine ⟨p1,p2,p3, ?_⟩; cbv) | (simp only [w2]; cbv) | simp only [w2])
  by_cases e39 : c = 39
  · have he : escL uB (rst s a) = some ([39], rst s (a + 1)) := by rw [hc0, e39]; rfl
    rw [escR_some he, hn, show n - ((rst s (a + 1)).length : Nat) - a = 1 by omega]
    obtain ⟨a1, ha1⟩ : ∃ x : Int, a + 1 = x := ⟨_, rfl⟩
    obtain ⟨O, hO⟩ : ∃ x, bL [39] = x := ⟨_, rfl⟩
    have hex_ : s.extract a.toNat a1.toNat = O := by
      rw [← hO]
      refine bl_inj ?_
      have h6 : s.data.toList.drop a.toNat = c :: rst s (a + 1) := hc0
      rw [bl_ext, h6, e39, show a1.toNat - a.toNat = 1 by omega]
      rfl
    rw [hO]
    have f110 : decide (z = 110) = false := z_ne hz 110 e110
    have f116 : decide (z = 116) = false := z_ne hz 116 e116
    have f114 : decide (z = 114) = false := z_ne hz 114 e114
    have f98 : decide (z = 98) = false := z_ne hz 98 e98
    have f92 : decide (z = 92) = false := z_ne hz 92 e92
    have f34 : decide (z = 34) = false := z_ne hz 34 e34
    have f39 : decide (z = 39) = true := decide_eq_true (by rw [← hz, e39]; rfl)
    refine ret_by tyT_ok g0_gr mixed (fun n => match n with | 22 => 11 | _ => 0) Tryd.func55 rfl (by kernel_rfl) (by kernel_rfl) rfl fun P G E hc hE => ?_
    have z1 : E.size s = n := by rw [hE]; exact hn
    have d1 : E.lei n a = false := by rw [hE]; exact decide_eq_false hA
    have p1 : E.ple 0 a := by rw [hE]; exact h0
    have g1 : E.get s (E.nat a) = some z := by
      rw [hE]
      show (s.data.toList[a.toNat]?).map _ = some z
      rw [hci, ← hz]
      rfl
    have w1 : E.wadd .i64 a 1 = a1 := by rw [hE, ← ha1]; exact wrap_i64_in (by omega) (by omega)
    have p2 : E.ple a a1 := by rw [hE]; show a ≤ a1; omega
    have p3 : E.ple a1 n := by rw [hE]; show a1 ≤ n; omega
    have w2 : E.ext s (E.nat a) (E.nat a1) = O := by rw [hE]; exact hex_
    clear hE hc hn hget hA hci hz hc0 hrl he ha1 hO hex_ e110 e116 e114 e98 e92 e34 e39
    cbv
    repeat (first | (simp only [z1]; cbv) | simp only [z1] | (simp only [d1]; cbv) | simp only [d1] | (refine ⟨p1,_,g1, ?_⟩; cbv) | (simp only [f110]; cbv) | simp only [f110] | (simp only [f116]; cbv) | simp only [f116] | (simp only [f114]; cbv) | simp only [f114] | (simp only [f98]; cbv) | simp only [f98] | (simp only [f92]; cbv) | simp only [f92] | (simp only [f34]; cbv) | simp only [f34] | (simp only [f39]; cbv) | simp only [f39] | (simp only [w1]; cbv) | simp only [w1] | (refine ⟨p1,p2,p3, ?_⟩; cbv) | (simp only [w2]; cbv) | simp only [w2])
  have ht : escT c = none := by
    unfold escT
    rw [if_neg e110, if_neg e116, if_neg e114, if_neg e98, if_neg (by rintro (h | h | h); exact e92 h; exact e34 h; exact e39 h)]
  obtain ⟨a1, ha1⟩ : ∃ x : Int, a + 1 = x := ⟨_, rfl⟩
  obtain ⟨a2, ha2⟩ : ∃ x : Int, a + 2 = x := ⟨_, rfl⟩
  by_cases e48 : c = 48
  · have he : escL uB (rst s a) = if (rst s (a + 1)).head?.any dgt then none else some ([0], rst s (a + 1)) := by rw [hc0, escL, ht]; show (if c = 48 then _ else if c = 120 then _ else if c = 117 then _ else _) = _; rw [if_pos e48]
    have f110 : decide (z = 110) = false := z_ne hz 110 e110
    have f116 : decide (z = 116) = false := z_ne hz 116 e116
    have f114 : decide (z = 114) = false := z_ne hz 114 e114
    have f98 : decide (z = 98) = false := z_ne hz 98 e98
    have f92 : decide (z = 92) = false := z_ne hz 92 e92
    have f34 : decide (z = 34) = false := z_ne hz 34 e34
    have f39 : decide (z = 39) = false := z_ne hz 39 e39
    have f48 : decide (z = 48) = true := decide_eq_true (by rw [← hz, e48]; rfl)
    rcases Classical.em (a1 < n) with hB | hB
    · obtain ⟨d, hdi⟩ := hget a1 (by omega) hB
      obtain ⟨y, hy⟩ : ∃ y : Int, ((d.toNat : Nat) : Int) = y := ⟨_, rfl⟩
      have hd0 := rst_cons (by omega) hdi
      rw [← ha1] at hd0
      rw [hd0] at he
      have hdg := rdigit_ret d
      cases hq : dgt d with
      | true =>
        rw [hq] at hdg
        have he2 : escL uB (rst s a) = none := by rw [he]; show (if dgt d = true then _ else _) = _; rw [hq]; rfl
        rw [escR_none he2]
        change V0 _ [.v (.int .u8 ((d.toNat : Nat) : Int))] _ at hdg
        rw [hy] at hdg
        refine ret_by tyT_ok g0_gr mixed (fun n => match n with | 22 => 11 | _ => 0) Tryd.func55 rfl (by kernel_rfl) (by kernel_rfl) rfl fun P G E hc hE => ?_
        have z1 : E.size s = n := by rw [hE]; exact hn
        have d1 : E.lei n a = false := by rw [hE]; exact decide_eq_false hA
        have p1 : E.ple 0 a := by rw [hE]; exact h0
        have g1 : E.get s (E.nat a) = some z := by
          rw [hE]
          show (s.data.toList[a.toNat]?).map _ = some z
          rw [hci, ← hz]
          rfl
        replace hdg := hc _ _ _ hdg
        have w1 : E.wadd .i64 a 1 = a1 := by rw [hE, ← ha1]; exact wrap_i64_in (by omega) (by omega)
        have d2 : E.lti a1 n = true := by rw [hE]; exact decide_eq_true hB
        have p2 : E.ple 0 a1 := by rw [hE]; show 0 ≤ a1; omega
        have g2 : E.get s (E.nat a1) = some y := by
          rw [hE]
          show (s.data.toList[a1.toNat]?).map _ = some y
          rw [hdi, ← hy]
          rfl
        clear hE hc hn hget hA hci hz hc0 hrl he he2 ht ha1 ha2 hB hdi hy hd0 hq e110 e116 e114 e98 e92 e34 e39 e48
        cbv
        repeat (first | (simp only [z1]; cbv) | simp only [z1] | (simp only [d1]; cbv) | simp only [d1] | (refine ⟨p1,_,g1, ?_⟩; cbv) | (simp only [f110]; cbv) | simp only [f110] | (simp only [f116]; cbv) | simp only [f116] | (simp only [f114]; cbv) | simp only [f114] | (simp only [f98]; cbv) | simp only [f98] | (simp only [f92]; cbv) | simp only [f92] | (simp only [f34]; cbv) | simp only [f34] | (simp only [f39]; cbv) | simp only [f39] | (simp only [f48]; cbv) | simp only [f48] | (simp only [w1]; cbv) | simp only [w1] | (simp only [d2]; cbv) | simp only [d2] | (refine ⟨p2,_,g2, ?_⟩; cbv) | (refine ⟨_, hdg, ?_⟩; cbv))
      | false =>
        rw [hq] at hdg
        have he2 : escL uB (rst s a) = some ([0], rst s (a + 1)) := by rw [he, hd0]; show (if dgt d = true then _ else _) = _; rw [hq]; rfl
        rw [escR_some he2, hn, show n - ((rst s (a + 1)).length : Nat) - a = 1 by omega]
        change V0 _ [.v (.int .u8 ((d.toNat : Nat) : Int))] _ at hdg
        rw [hy] at hdg
        refine ret_by tyT_ok g0_gr mixed (fun n => match n with | 22 => 11 | _ => 0) Tryd.func55 rfl (by kernel_rfl) (by kernel_rfl) rfl fun P G E hc hE => ?_
        have z1 : E.size s = n := by rw [hE]; exact hn
        have d1 : E.lei n a = false := by rw [hE]; exact decide_eq_false hA
        have p1 : E.ple 0 a := by rw [hE]; exact h0
        have g1 : E.get s (E.nat a) = some z := by
          rw [hE]
          show (s.data.toList[a.toNat]?).map _ = some z
          rw [hci, ← hz]
          rfl
        replace hdg := hc _ _ _ hdg
        have w1 : E.wadd .i64 a 1 = a1 := by rw [hE, ← ha1]; exact wrap_i64_in (by omega) (by omega)
        have d2 : E.lti a1 n = true := by rw [hE]; exact decide_eq_true hB
        have p2 : E.ple 0 a1 := by rw [hE]; show 0 ≤ a1; omega
        have g2 : E.get s (E.nat a1) = some y := by
          rw [hE]
          show (s.data.toList[a1.toNat]?).map _ = some y
          rw [hdi, ← hy]
          rfl
        clear hE hc hn hget hA hci hz hc0 hrl he he2 ht ha1 ha2 hB hdi hy hd0 hq e110 e116 e114 e98 e92 e34 e39 e48
        cbv
        repeat (first | (simp only [z1]; cbv) | simp only [z1] | (simp only [d1]; cbv) | simp only [d1] | (refine ⟨p1,_,g1, ?_⟩; cbv) | (simp only [f110]; cbv) | simp only [f110] | (simp only [f116]; cbv) | simp only [f116] | (simp only [f114]; cbv) | simp only [f114] | (simp only [f98]; cbv) | simp only [f98] | (simp only [f92]; cbv) | simp only [f92] | (simp only [f34]; cbv) | simp only [f34] | (simp only [f39]; cbv) | simp only [f39] | (simp only [f48]; cbv) | simp only [f48] | (simp only [w1]; cbv) | simp only [w1] | (simp only [d2]; cbv) | simp only [d2] | (refine ⟨p2,_,g2, ?_⟩; cbv) | (refine ⟨_, hdg, ?_⟩; cbv))
    · have hnil : rst s (a + 1) = [] := rst_end (by omega)
      rw [hnil] at he
      have he2 : escL uB (rst s a) = some ([0], []) := he
      rw [escR_some he2, hn, show n - ((([] : Bs).length : Nat) : Int) - a = 1 by show n - 0 - a = 1; omega]
      refine ret_by tyT_ok g0_gr mixed (fun n => match n with | 22 => 11 | _ => 0) Tryd.func55 rfl (by kernel_rfl) (by kernel_rfl) rfl fun P G E hc hE => ?_
      have z1 : E.size s = n := by rw [hE]; exact hn
      have d1 : E.lei n a = false := by rw [hE]; exact decide_eq_false hA
      have p1 : E.ple 0 a := by rw [hE]; exact h0
      have g1 : E.get s (E.nat a) = some z := by
        rw [hE]
        show (s.data.toList[a.toNat]?).map _ = some z
        rw [hci, ← hz]
        rfl
      have w1 : E.wadd .i64 a 1 = a1 := by rw [hE, ← ha1]; exact wrap_i64_in (by omega) (by omega)
      have d2 : E.lti a1 n = false := by rw [hE]; exact decide_eq_false hB
      clear hE hc hn hget hA hci hz hc0 hrl he he2 ht ha1 ha2 hB hnil e110 e116 e114 e98 e92 e34 e39 e48
      cbv
      repeat (first | (simp only [z1]; cbv) | simp only [z1] | (simp only [d1]; cbv) | simp only [d1] | (refine ⟨p1,_,g1, ?_⟩; cbv) | (simp only [f110]; cbv) | simp only [f110] | (simp only [f116]; cbv) | simp only [f116] | (simp only [f114]; cbv) | simp only [f114] | (simp only [f98]; cbv) | simp only [f98] | (simp only [f92]; cbv) | simp only [f92] | (simp only [f34]; cbv) | simp only [f34] | (simp only [f39]; cbv) | simp only [f39] | (simp only [f48]; cbv) | simp only [f48] | (simp only [w1]; cbv) | simp only [w1] | (simp only [d2]; cbv) | simp only [d2])
  by_cases e120 : c = 120
  · have he : escL uB (rst s a) = hxL uB (rst s (a + 1)) := by rw [hc0, escL, ht]; show (if c = 48 then _ else if c = 120 then _ else if c = 117 then _ else _) = _; rw [if_neg e48, if_pos e120]
    have f110 : decide (z = 110) = false := z_ne hz 110 e110
    have f116 : decide (z = 116) = false := z_ne hz 116 e116
    have f114 : decide (z = 114) = false := z_ne hz 114 e114
    have f98 : decide (z = 98) = false := z_ne hz 98 e98
    have f92 : decide (z = 92) = false := z_ne hz 92 e92
    have f34 : decide (z = 34) = false := z_ne hz 34 e34
    have f39 : decide (z = 39) = false := z_ne hz 39 e39
    have f48 : decide (z = 48) = false := z_ne hz 48 e48
    have f120 : decide (z = 120) = true := decide_eq_true (by rw [← hz, e120]; rfl)
    rcases Classical.em (a2 < n) with hB | hB
    · obtain ⟨x1, hx1⟩ := hget a1 (by omega) (by omega)
      obtain ⟨x2, hx2⟩ := hget a2 (by omega) hB
      obtain ⟨y1, hy1⟩ : ∃ y : Int, ((x1.toNat : Nat) : Int) = y := ⟨_, rfl⟩
      obtain ⟨y2, hy2⟩ : ∃ y : Int, ((x2.toNat : Nat) : Int) = y := ⟨_, rfl⟩
      have hr1 := rst_cons (by omega) hx1
      have hr2 := rst_cons (by omega) hx2
      rw [show a1 + 1 = a2 by omega, hr2, ← ha1] at hr1
      rw [hr1] at he
      have hh1 := hex_ret x1
      have hh2 := hex_ret x2
      change V0 _ [.v (.int .u8 ((x1.toNat : Nat) : Int))] _ at hh1
      change V0 _ [.v (.int .u8 ((x2.toNat : Nat) : Int))] _ at hh2
      rw [hy1] at hh1
      rw [hy2] at hh2
      cases hq1 : isHex x1 with
      | false =>
        rw [hexI_none hq1] at hh1
        have he2 : escL uB (rst s a) = none := by
          rw [he, hxL]
          have : hexv x1 = none := by unfold isHex at hq1; cases h : hexv x1 with | none => rfl | some v => rw [h] at hq1; cases hq1
          rw [this]
        rw [escR_none he2]
        refine ret_by tyT_ok g0_gr mixed (fun n => match n with | 22 => 11 | _ => 0) Tryd.func55 rfl (by kernel_rfl) (by kernel_rfl) rfl fun P G E hc hE => ?_
        have z1 : E.size s = n := by rw [hE]; exact hn
        have d1 : E.lei n a = false := by rw [hE]; exact decide_eq_false hA
        have p1 : E.ple 0 a := by rw [hE]; exact h0
        have g1 : E.get s (E.nat a) = some z := by
          rw [hE]
          show (s.data.toList[a.toNat]?).map _ = some z
          rw [hci, ← hz]
          rfl
        replace hh1 := hc _ _ _ hh1
        replace hh2 := hc _ _ _ hh2
        have w1 : E.wadd .i64 a 1 = a1 := by rw [hE, ← ha1]; exact wrap_i64_in (by omega) (by omega)
        have w2 : E.wadd .i64 a 2 = a2 := by rw [hE, ← ha2]; exact wrap_i64_in (by omega) (by omega)
        have d2 : E.lti a2 n = true := by rw [hE]; exact decide_eq_true hB
        have p2 : E.ple 0 a1 := by rw [hE]; show 0 ≤ a1; omega
        have p3 : E.ple 0 a2 := by rw [hE]; show 0 ≤ a2; omega
        have g2 : E.get s (E.nat a1) = some y1 := by
          rw [hE]
          show (s.data.toList[a1.toNat]?).map _ = some y1
          rw [hx1, ← hy1]
          rfl
        have g3 : E.get s (E.nat a2) = some y2 := by
          rw [hE]
          show (s.data.toList[a2.toNat]?).map _ = some y2
          rw [hx2, ← hy2]
          rfl
        have k1 : E.lei 0 (-1) = false := by rw [hE]; rfl
        clear hq1 he2 hh2 hE hc hn hget hA hci hz hc0 hrl he ht ha1 ha2 hB hx1 hx2 hy1 hy2 hr1 hr2 e110 e116 e114 e98 e92 e34 e39 e48 e120
        cbv
        repeat (first | (simp only [z1]; cbv) | simp only [z1] | (simp only [d1]; cbv) | simp only [d1] | (refine ⟨p1,_,g1, ?_⟩; cbv) | (simp only [f110]; cbv) | simp only [f110] | (simp only [f116]; cbv) | simp only [f116] | (simp only [f114]; cbv) | simp only [f114] | (simp only [f98]; cbv) | simp only [f98] | (simp only [f92]; cbv) | simp only [f92] | (simp only [f34]; cbv) | simp only [f34] | (simp only [f39]; cbv) | simp only [f39] | (simp only [f48]; cbv) | simp only [f48] | (simp only [f120]; cbv) | simp only [f120] | (simp only [w2]; cbv) | simp only [w2] | (simp only [d2]; cbv) | simp only [d2] | (simp only [w1]; cbv) | simp only [w1] | (refine ⟨p2,_,g2, ?_⟩; cbv) | (refine ⟨_, hh1, ?_⟩; cbv) | (simp only [k1]; cbv) | simp only [k1])
      | true =>
        rw [hexI_some hq1] at hh1
        have hv1 := hexv_lt x1
        obtain ⟨v1, hv1'⟩ : ∃ v, (hexv x1).getD 0 = v := ⟨_, rfl⟩
        obtain ⟨u1, hu1⟩ : ∃ u : Int, ((v1 : Nat) : Int) = u := ⟨_, rfl⟩
        rw [hv1'] at hv1
        rw [hv1', hu1] at hh1
        have hs1 : hexv x1 = some v1 := by unfold isHex at hq1; rw [← hv1']; cases h : hexv x1 with | none => rw [h] at hq1; cases hq1 | some v => rfl
        cases hq2 : isHex x2 with
        | false =>
          rw [hexI_none hq2] at hh2
          have he2 : escL uB (rst s a) = none := by
            rw [he, hxL]
            have : hexv x2 = none := by unfold isHex at hq2; cases h : hexv x2 with | none => rfl | some v => rw [h] at hq2; cases hq2
            rw [this, hs1]
          rw [escR_none he2]
          refine ret_by tyT_ok g0_gr mixed (fun n => match n with | 22 => 11 | _ => 0) Tryd.func55 rfl (by kernel_rfl) (by kernel_rfl) rfl fun P G E hc hE => ?_
          have z1 : E.size s = n := by rw [hE]; exact hn
          have d1 : E.lei n a = false := by rw [hE]; exact decide_eq_false hA
          have p1 : E.ple 0 a := by rw [hE]; exact h0
          have g1 : E.get s (E.nat a) = some z := by
            rw [hE]
            show (s.data.toList[a.toNat]?).map _ = some z
            rw [hci, ← hz]
            rfl
          replace hh1 := hc _ _ _ hh1
          replace hh2 := hc _ _ _ hh2
          have w1 : E.wadd .i64 a 1 = a1 := by rw [hE, ← ha1]; exact wrap_i64_in (by omega) (by omega)
          have w2 : E.wadd .i64 a 2 = a2 := by rw [hE, ← ha2]; exact wrap_i64_in (by omega) (by omega)
          have d2 : E.lti a2 n = true := by rw [hE]; exact decide_eq_true hB
          have p2 : E.ple 0 a1 := by rw [hE]; show 0 ≤ a1; omega
          have p3 : E.ple 0 a2 := by rw [hE]; show 0 ≤ a2; omega
          have g2 : E.get s (E.nat a1) = some y1 := by
            rw [hE]
            show (s.data.toList[a1.toNat]?).map _ = some y1
            rw [hx1, ← hy1]
            rfl
          have g3 : E.get s (E.nat a2) = some y2 := by
            rw [hE]
            show (s.data.toList[a2.toNat]?).map _ = some y2
            rw [hx2, ← hy2]
            rfl
          have k1 : E.lei 0 u1 = true := by rw [hE]; exact decide_eq_true (by omega)
          have k2 : E.lei 0 (-1) = false := by rw [hE]; rfl
          clear hq1 hq2 he2 hv1 hv1' hu1 hs1 hE hc hn hget hA hci hz hc0 hrl he ht ha1 ha2 hB hx1 hx2 hy1 hy2 hr1 hr2 e110 e116 e114 e98 e92 e34 e39 e48 e120
          cbv
          repeat (first | (simp only [z1]; cbv) | simp only [z1] | (simp only [d1]; cbv) | simp only [d1] | (refine ⟨p1,_,g1, ?_⟩; cbv) | (simp only [f110]; cbv) | simp only [f110] | (simp only [f116]; cbv) | simp only [f116] | (simp only [f114]; cbv) | simp only [f114] | (simp only [f98]; cbv) | simp only [f98] | (simp only [f92]; cbv) | simp only [f92] | (simp only [f34]; cbv) | simp only [f34] | (simp only [f39]; cbv) | simp only [f39] | (simp only [f48]; cbv) | simp only [f48] | (simp only [f120]; cbv) | simp only [f120] | (simp only [w2]; cbv) | simp only [w2] | (simp only [d2]; cbv) | simp only [d2] | (simp only [w1]; cbv) | simp only [w1] | (refine ⟨p2,_,g2, ?_⟩; cbv) | (refine ⟨_, hh1, ?_⟩; cbv) | (simp only [k1]; cbv) | simp only [k1] | (refine ⟨p3,_,g3, ?_⟩; cbv) | (refine ⟨_, hh2, ?_⟩; cbv) | (simp only [k2]; cbv) | simp only [k2])
        | true =>
          rw [hexI_some hq2] at hh2
          have hv2 := hexv_lt x2
          obtain ⟨v2, hv2'⟩ : ∃ v, (hexv x2).getD 0 = v := ⟨_, rfl⟩
          obtain ⟨u2, hu2⟩ : ∃ u : Int, ((v2 : Nat) : Int) = u := ⟨_, rfl⟩
          rw [hv2'] at hv2
          rw [hv2', hu2] at hh2
          have hs2 : hexv x2 = some v2 := by unfold isHex at hq2; rw [← hv2']; cases h : hexv x2 with | none => rw [h] at hq2; cases hq2 | some v => rfl
          have he2 : escL uB (rst s a) = some (uB (16 * v1 + v2), rst s (a2 + 1)) := by rw [he, hxL, hs1, hs2]
          have hl3 := rst_len s (a2 + 1)
          obtain ⟨O, hO⟩ : ∃ x, bL (uB (16 * v1 + v2)) = x := ⟨_, rfl⟩
          rw [escR_some he2, hn, hO, show n - ((rst s (a2 + 1)).length : Nat) - a = 3 by omega]
          refine ret_by tyT_ok g0_gr mixed (fun n => match n with | 22 => 11 | _ => 0) Tryd.func55 rfl (by kernel_rfl) (by kernel_rfl) rfl fun P G E hc hE => ?_
          have z1 : E.size s = n := by rw [hE]; exact hn
          have d1 : E.lei n a = false := by rw [hE]; exact decide_eq_false hA
          have p1 : E.ple 0 a := by rw [hE]; exact h0
          have g1 : E.get s (E.nat a) = some z := by
            rw [hE]
            show (s.data.toList[a.toNat]?).map _ = some z
            rw [hci, ← hz]
            rfl
          replace hh1 := hc _ _ _ hh1
          replace hh2 := hc _ _ _ hh2
          have w1 : E.wadd .i64 a 1 = a1 := by rw [hE, ← ha1]; exact wrap_i64_in (by omega) (by omega)
          have w2 : E.wadd .i64 a 2 = a2 := by rw [hE, ← ha2]; exact wrap_i64_in (by omega) (by omega)
          have d2 : E.lti a2 n = true := by rw [hE]; exact decide_eq_true hB
          have p2 : E.ple 0 a1 := by rw [hE]; show 0 ≤ a1; omega
          have p3 : E.ple 0 a2 := by rw [hE]; show 0 ≤ a2; omega
          have g2 : E.get s (E.nat a1) = some y1 := by
            rw [hE]
            show (s.data.toList[a1.toNat]?).map _ = some y1
            rw [hx1, ← hy1]
            rfl
          have g3 : E.get s (E.nat a2) = some y2 := by
            rw [hE]
            show (s.data.toList[a2.toNat]?).map _ = some y2
            rw [hx2, ← hy2]
            rfl
          have k1 : E.lei 0 u1 = true := by rw [hE]; exact decide_eq_true (by omega)
          have k2 : E.lei 0 u2 = true := by rw [hE]; exact decide_eq_true (by omega)
          obtain ⟨m, hm⟩ : ∃ m : Int, 16 * u1 = m := ⟨_, rfl⟩
          obtain ⟨t, htt⟩ : ∃ t : Int, m + u2 = t := ⟨_, rfl⟩
          have w3 : E.wmul .i64 16 u1 = m := by rw [hE, ← hm]; exact wrap_i64_in (by omega) (by omega)
          have w4 : E.wadd .i64 m u2 = t := by rw [hE, ← htt]; exact wrap_i64_in (by omega) (by omega)
          have w5 : E.wrap .i32 t = t := by rw [hE]; exact wrap_i32_in (by omega) (by omega)
          have eenc0 : ∀ x : Int, E.enc x = Utf8.encode x := fun x => by rw [hE]; rfl
          have w6 : E.enc t = O := by rw [← hO, bL_uB, eenc0, show ((16 * v1 + v2 : Nat) : Int) = t by omega]
          clear hq1 hq2 he2 hv1 hv1' hu1 hs1 hv2 hv2' hu2 hs2 hl3 hO hm htt eenc0 hE hc hn hget hA hci hz hc0 hrl he ht ha1 ha2 hB hx1 hx2 hy1 hy2 hr1 hr2 e110 e116 e114 e98 e92 e34 e39 e48 e120
          cbv
          repeat (first | (simp only [z1]; cbv) | simp only [z1] | (simp only [d1]; cbv) | simp only [d1] | (refine ⟨p1,_,g1, ?_⟩; cbv) | (simp only [f110]; cbv) | simp only [f110] | (simp only [f116]; cbv) | simp only [f116] | (simp only [f114]; cbv) | simp only [f114] | (simp only [f98]; cbv) | simp only [f98] | (simp only [f92]; cbv) | simp only [f92] | (simp only [f34]; cbv) | simp only [f34] | (simp only [f39]; cbv) | simp only [f39] | (simp only [f48]; cbv) | simp only [f48] | (simp only [f120]; cbv) | simp only [f120] | (simp only [w2]; cbv) | simp only [w2] | (simp only [d2]; cbv) | simp only [d2] | (simp only [w1]; cbv) | simp only [w1] | (refine ⟨p2,_,g2, ?_⟩; cbv) | (refine ⟨_, hh1, ?_⟩; cbv) | (simp only [k1]; cbv) | simp only [k1] | (refine ⟨p3,_,g3, ?_⟩; cbv) | (refine ⟨_, hh2, ?_⟩; cbv) | (simp only [k2]; cbv) | simp only [k2] | (simp only [w3]; cbv) | simp only [w3] | (simp only [w4]; cbv) | simp only [w4] | (simp only [w5]; cbv) | simp only [w5] | (simp only [w6]; cbv) | simp only [w6])
    · have hle := rst_len s (a + 1)
      have he2 : escL uB (rst s a) = none := by
        rw [he]
        match hr : rst s (a + 1), (show (rst s (a + 1)).length ≤ 1 by omega) with
        | [], _ => rfl
        | [_], _ => rfl
        | _ :: _ :: _, h => exact absurd h (by simp)
      rw [escR_none he2]
      refine ret_by tyT_ok g0_gr mixed (fun n => match n with | 22 => 11 | _ => 0) Tryd.func55 rfl (by kernel_rfl) (by kernel_rfl) rfl fun P G E hc hE => ?_
      have z1 : E.size s = n := by rw [hE]; exact hn
      have d1 : E.lei n a = false := by rw [hE]; exact decide_eq_false hA
      have p1 : E.ple 0 a := by rw [hE]; exact h0
      have g1 : E.get s (E.nat a) = some z := by
        rw [hE]
        show (s.data.toList[a.toNat]?).map _ = some z
        rw [hci, ← hz]
        rfl
      have w1 : E.wadd .i64 a 1 = a1 := by rw [hE, ← ha1]; exact wrap_i64_in (by omega) (by omega)
      have w2 : E.wadd .i64 a 2 = a2 := by rw [hE, ← ha2]; exact wrap_i64_in (by omega) (by omega)
      have d2 : E.lti a2 n = false := by rw [hE]; exact decide_eq_false hB
      clear hE hc hn hget hA hci hz hc0 hrl he he2 ht ha1 ha2 hB hle e110 e116 e114 e98 e92 e34 e39 e48 e120
      cbv
      repeat (first | (simp only [z1]; cbv) | simp only [z1] | (simp only [d1]; cbv) | simp only [d1] | (refine ⟨p1,_,g1, ?_⟩; cbv) | (simp only [f110]; cbv) | simp only [f110] | (simp only [f116]; cbv) | simp only [f116] | (simp only [f114]; cbv) | simp only [f114] | (simp only [f98]; cbv) | simp only [f98] | (simp only [f92]; cbv) | simp only [f92] | (simp only [f34]; cbv) | simp only [f34] | (simp only [f39]; cbv) | simp only [f39] | (simp only [f48]; cbv) | simp only [f48] | (simp only [f120]; cbv) | simp only [f120] | (simp only [w2]; cbv) | simp only [w2] | (simp only [d2]; cbv) | simp only [d2] | (simp only [w1]; cbv) | simp only [w1])
  by_cases e117 : c = 117
  · have he : escL uB (rst s a) = ptL uB (rst s (a + 1)) := by rw [hc0, escL, ht]; show (if c = 48 then _ else if c = 120 then _ else if c = 117 then _ else _) = _; rw [if_neg e48, if_neg e120, if_pos e117]
    have hr : escR s a = ptR s a := by
      unfold escR ptR
      rw [he]
      cases ptL uB (rst s (a + 1)) <;> rfl
    have hpt := point_ret s a h0 (by omega) hs
    rw [hr]
    have hform : ∃ x y, ptR s a = .tup [x, y] := by
      unfold ptR
      cases ptL uB (rst s (a + 1)) with
      | none => exact ⟨_, _, rfl⟩
      | some p => exact ⟨_, _, rfl⟩
    obtain ⟨RX, RY, hR⟩ := hform
    rw [hR] at hpt ⊢
    have f110 : decide (z = 110) = false := z_ne hz 110 e110
    have f116 : decide (z = 116) = false := z_ne hz 116 e116
    have f114 : decide (z = 114) = false := z_ne hz 114 e114
    have f98 : decide (z = 98) = false := z_ne hz 98 e98
    have f92 : decide (z = 92) = false := z_ne hz 92 e92
    have f34 : decide (z = 34) = false := z_ne hz 34 e34
    have f39 : decide (z = 39) = false := z_ne hz 39 e39
    have f48 : decide (z = 48) = false := z_ne hz 48 e48
    have f120 : decide (z = 120) = false := z_ne hz 120 e120
    have f117 : decide (z = 117) = true := decide_eq_true (by rw [← hz, e117]; rfl)
    refine ret_by tyT_ok g0_gr mixed (fun n => match n with | 22 => 11 | _ => 0) Tryd.func55 rfl (by kernel_rfl) (by kernel_rfl) rfl fun P G E hc hE => ?_
    have z1 : E.size s = n := by rw [hE]; exact hn
    have d1 : E.lei n a = false := by rw [hE]; exact decide_eq_false hA
    have p1 : E.ple 0 a := by rw [hE]; exact h0
    have g1 : E.get s (E.nat a) = some z := by
      rw [hE]
      show (s.data.toList[a.toNat]?).map _ = some z
      rw [hci, ← hz]
      rfl
    replace hpt := hc _ _ _ hpt
    clear hE hc hn hget hA hci hz hc0 hrl he ht hr hR e110 e116 e114 e98 e92 e34 e39 e48 e120 e117
    cbv
    repeat (first | (simp only [z1]; cbv) | simp only [z1] | (simp only [d1]; cbv) | simp only [d1] | (refine ⟨p1,_,g1, ?_⟩; cbv) | (simp only [f110]; cbv) | simp only [f110] | (simp only [f116]; cbv) | simp only [f116] | (simp only [f114]; cbv) | simp only [f114] | (simp only [f98]; cbv) | simp only [f98] | (simp only [f92]; cbv) | simp only [f92] | (simp only [f34]; cbv) | simp only [f34] | (simp only [f39]; cbv) | simp only [f39] | (simp only [f48]; cbv) | simp only [f48] | (simp only [f120]; cbv) | simp only [f120] | (simp only [f117]; cbv) | simp only [f117] | (refine ⟨_, hpt, ?_⟩; cbv))
  have he : escL uB (rst s a) = none := by rw [hc0, escL, ht]; show (if c = 48 then _ else if c = 120 then _ else if c = 117 then _ else _) = _; rw [if_neg e48, if_neg e120, if_neg e117]
  rw [escR_none he]
  have f110 : decide (z = 110) = false := z_ne hz 110 e110
  have f116 : decide (z = 116) = false := z_ne hz 116 e116
  have f114 : decide (z = 114) = false := z_ne hz 114 e114
  have f98 : decide (z = 98) = false := z_ne hz 98 e98
  have f92 : decide (z = 92) = false := z_ne hz 92 e92
  have f34 : decide (z = 34) = false := z_ne hz 34 e34
  have f39 : decide (z = 39) = false := z_ne hz 39 e39
  have f48 : decide (z = 48) = false := z_ne hz 48 e48
  have f120 : decide (z = 120) = false := z_ne hz 120 e120
  have f117 : decide (z = 117) = false := z_ne hz 117 e117
  refine ret_by tyT_ok g0_gr mixed (fun n => match n with | 22 => 11 | _ => 0) Tryd.func55 rfl (by kernel_rfl) (by kernel_rfl) rfl fun P G E hc hE => ?_
  have z1 : E.size s = n := by rw [hE]; exact hn
  have d1 : E.lei n a = false := by rw [hE]; exact decide_eq_false hA
  have p1 : E.ple 0 a := by rw [hE]; exact h0
  have g1 : E.get s (E.nat a) = some z := by
    rw [hE]
    show (s.data.toList[a.toNat]?).map _ = some z
    rw [hci, ← hz]
    rfl
  clear hE hc hn hget hA hci hz hc0 hrl he ht e110 e116 e114 e98 e92 e34 e39 e48 e120 e117
  cbv
  repeat (first | (simp only [z1]; cbv) | simp only [z1] | (simp only [d1]; cbv) | simp only [d1] | (refine ⟨p1,_,g1, ?_⟩; cbv) | (simp only [f110]; cbv) | simp only [f110] | (simp only [f116]; cbv) | simp only [f116] | (simp only [f114]; cbv) | simp only [f114] | (simp only [f98]; cbv) | simp only [f98] | (simp only [f92]; cbv) | simp only [f92] | (simp only [f34]; cbv) | simp only [f34] | (simp only [f39]; cbv) | simp only [f39] | (simp only [f48]; cbv) | simp only [f48] | (simp only [f120]; cbv) | simp only [f120] | (simp only [f117]; cbv) | simp only [f117])
end Go.Proofs.YtnhbboknffppiaaDoor
