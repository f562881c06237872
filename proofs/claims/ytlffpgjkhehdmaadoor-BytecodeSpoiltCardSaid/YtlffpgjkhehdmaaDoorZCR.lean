/- Own work: the reference of layer 27: bytes of numbers, texts and lists of integers. -/
import Derived.Test.YtlffpgjkhehdmaaDoorZGL
namespace Go.Proofs.YtlffpgjkhehdmaaDoor
open Go.RowKit
set_option maxRecDepth 100000
set_option linter.unusedSimpArgs false

structure NaI (tot : List UInt8) (y : ByteArray × Int) : Prop where
  n0 : 0 ≤ y.2
  n1 : y.2 < 18446744073709551616
  st : ∃ l, y.1 = ofL l ∧ l ++ natB y.2.toNat = tot
set_option maxHeartbeats 1000000 in
theorem natural_r (n : Int) (h0 : 0 ≤ n) (h1 : n < 18446744073709551616) : CV 51 [cU n] (cS (ofL (natB n.toNat))) := by
  obtain ⟨tot, ht⟩ : ∃ x, natB n.toNat = x := ⟨_, rfl⟩
  have htl : tot.length ≤ 10 := by rw [← ht]; exact natB_10 (by omega)
  rw [ht]
  obtain ⟨OUT, eo⟩ : ∃ x, ofL tot = x := ⟨_, rfl⟩
  rw [eo]
  obtain ⟨μ, hμ⟩ : ∃ μ : Int → Nat, ∀ i, μ i = i.toNat := ⟨_, fun _ => rfl⟩
  have hx0 : NaI tot (⟨#[]⟩, n) := ⟨h0, h1, [], rfl, by rw [List.nil_append]; exact ht⟩
  refine ret_by tyT_ok c0_gr mixed (fun _ => 0) Tryd.func51 rfl (by kernel_rfl) (by kernel_rfl) rfl fun P G E hc hE => ?_
  have elt : ∀ a b, E.lti a b = decide (a < b) := fun a b => by rw [hE]; rfl
  have ele : ∀ a b, E.lei a b = decide (a ≤ b) := fun a b => by rw [hE]; rfl
  have esubL : ∀ (x : Int) (b : ByteArray), bytesRows b = [[c8 x]] → E.sub [[c8 x]] 0 1 = E.brows b := fun x b h => by rw [hE]; show [[c8 x]] = bytesRows b; exact h.symm
  have epre1 : ∀ x : List PV, E.pre 0 1 [x] := fun x => by rw [hE]; show 0 + 1 ≤ 1; omega
  have ecat : ∀ a b : ByteArray, a.size ≤ 1000000000 → b.size ≤ 1000000000 → E.cat a b := fun a b h1 h2 => by rw [hE]; show ((a.size : Nat) : Int) + ((b.size : Nat) : Int) ≤ 9223372036854775807; omega
  have eaddS : ∀ a b : ByteArray, E.add a b = a ++ b := fun a b => by rw [hE]; rfl
  have eadd : ∀ a b : Int, 0 ≤ a + b → a + b < 18446744073709551616 → E.wadd .u64 a b = a + b := fun a b h0 h1 => by rw [hE]; show IntKind.u64.wrap (a + b) = _; rw [wrap_u64_eq]; omega
  have erem : ∀ a : Int, 0 ≤ a → E.rem a 128 = a % 128 := fun a h => by rw [hE]; show a.tmod 128 = _; exact Int.tmod_eq_emod_of_nonneg h
  have equo : ∀ a : Int, 0 ≤ a → a < 18446744073709551616 → E.wquo .u64 a 128 = a / 128 := fun a h h' => by rw [hE]; show IntKind.u64.wrap (a.tdiv 128) = _; rw [Int.tdiv_eq_ediv_of_nonneg h, wrap_u64_eq]; omega
  have ewr : ∀ n : Int, 0 ≤ n → n < 256 → E.wrap .u8 n = n := fun n h h' => by rw [hE]; show IntKind.u8.wrap n = n; rw [wrap_u8_eq]; omega
  have hz : (128 : Int) ≠ 0 := by decide
  clear hE
  cbv
  refine loop_by 22 [0, 3] 0 (fun y : ByteArray × Int => [.p (cU y.2), .p (cS y.1)]) (fun _ => []) (NaI tot) (fun y => μ y.2) (⟨#[]⟩, n) ⟨rfl, rfl, rfl, rfl, rfl⟩ hx0 ?_
  clear hx0
  rintro ⟨s, k⟩ ⟨k0, k1, l, hs, hlt⟩
  simp only at k0 k1 hs hlt
  have dd := ele 128 k
  have hsz : s.size ≤ 1000000000 := by
    rw [hs, ofL_size]
    have : l.length ≤ tot.length := by rw [← hlt, List.length_append]; omega
    omega
  by_cases hk : 128 ≤ k
  · rw [decide_eq_true hk] at dd
    have a1 := erem k k0
    obtain ⟨r, hr⟩ : ∃ x, k % 128 = x := ⟨_, rfl⟩
    rw [hr] at a1
    have a2 := eadd 128 r (by omega) (by omega)
    obtain ⟨dx, hdx⟩ : ∃ x : Int, 128 + r = x := ⟨_, rfl⟩
    rw [hdx] at a2
    have a3 := ewr dx (by omega) (by omega)
    have a4 := equo k k0 k1
    obtain ⟨k', hk'⟩ : ∃ x, k / 128 = x := ⟨_, rfl⟩
    rw [hk'] at a4
    have hone := pL_int dx (by omega) (by omega)
    obtain ⟨bs, hbs⟩ : ∃ x, ofL [UInt8.ofNat dx.toNat] = x := ⟨_, rfl⟩
    have e1 := esubL dx bs (by rw [← hbs]; exact hone)
    have p1 := epre1 [c8 dx]
    have c1 := ecat s bs hsz (by rw [← hbs, ofL_size]; simp)
    have s1 := eaddS s bs
    obtain ⟨s', hs'⟩ : ∃ x, s ++ bs = x := ⟨_, rfl⟩
    rw [hs'] at s1
    have hI2 : NaI tot (s', k') := by
      refine ⟨by simp only; omega, by simp only; omega, l ++ [UInt8.ofNat dx.toNat], ?_, ?_⟩
      · simp only
        rw [← hs', hs, ← hbs, ofL_app]
      · simp only
        rw [← hlt, natB_ge (n := k.toNat) (by omega), List.append_assoc]
        have u1 : k'.toNat = k.toNat / 128 := by omega
        have u2 : UInt8.ofNat dx.toNat = UInt8.ofNat (128 + k.toNat % 128) := by congr 1; omega
        rw [u1, u2]
        rfl
    have hM2 : μ k' < μ k := by rw [hμ, hμ]; omega
    clear elt ele esubL epre1 ecat eaddS eadd erem equo ewr hs hlt hone hbs hs' hr hdx hk'
    cbv
    repeat (first | (simp only [dd]; cbv) | simp only [dd] | (refine ⟨hz, ?_⟩; cbv) | (simp only [a1]; cbv) | simp only [a1] | (simp only [a2]; cbv) | simp only [a2] | (simp only [a3]; cbv) | simp only [a3] | (refine ⟨p1,_,e1, ?_⟩; cbv) | (refine ⟨c1, ?_⟩; cbv) | (simp only [s1]; cbv) | simp only [s1] | (simp only [a4]; cbv) | simp only [a4])
    refine .mk (s', k') ⟨rfl, rfl, rfl, rfl, rfl⟩ ?_ ?_
    · exact hI2
    · exact hM2
  · rw [decide_eq_false hk] at dd
    have a3 := ewr k k0 (by omega)
    have hone := pL_int k k0 (by omega)
    obtain ⟨bs, hbs⟩ : ∃ x, ofL [UInt8.ofNat k.toNat] = x := ⟨_, rfl⟩
    have e1 := esubL k bs (by rw [← hbs]; exact hone)
    have p1 := epre1 [c8 k]
    have c1 := ecat s bs hsz (by rw [← hbs, ofL_size]; simp)
    have s1 := eaddS s bs
    have hfin : s ++ bs = OUT := by rw [hs, ← hbs, ofL_app, ← eo, ← hlt, natB_lt (n := k.toNat) (by omega)]
    rw [hfin] at s1
    clear elt ele esubL epre1 ecat eaddS eadd erem equo ewr hs hlt hone hbs hfin
    cbv
    repeat (first | (simp only [dd]; cbv) | simp only [dd] | (simp only [a3]; cbv) | simp only [a3] | (refine ⟨p1,_,e1, ?_⟩; cbv) | (refine ⟨c1, ?_⟩; cbv) | (simp only [s1]; cbv) | simp only [s1])
theorem number_r (n : Int) (h0 : -9223372036854775808 ≤ n) (h1 : n < 9223372036854775808) : CV 54 [cI n] (cS (ofL (zb n))) := by
  have hz := zzU_rng n
  have rc := natural_r (zzU n) hz.1 hz.2
  rw [show natB (zzU n).toNat = zb n from rfl] at rc
  rcases Int.lt_or_le n 0 with h | h
  · have e := zz_neg h h0
    refine ret_by tyT_ok c0_gr mixed (fun _ => 0) Tryd.func54 rfl (by kernel_rfl) (by kernel_rfl) rfl fun P G E hc hE => ?_
    replace rc := hc _ _ _ rc
    have dd : E.lti n 0 = true := by rw [hE]; exact decide_eq_true h
    have a1 : E.wadd .i64 n 1 = n + 1 := by rw [hE]; exact wrap_i64_in (by omega) (by omega)
    have a2 : E.wsub .i64 0 (n + 1) = -(n + 1) := by rw [hE]; show IntKind.i64.wrap (0 - (n + 1)) = _; rw [wrap_i64_in (by omega) (by omega)]; omega
    have a3 : E.wrap .u64 (-(n + 1)) = -(n + 1) := by rw [hE]; show IntKind.u64.wrap _ = _; rw [wrap_u64_eq]; omega
    have a4 : E.wmul .u64 2 (-(n + 1)) = -2 * n - 2 := by rw [hE]; show IntKind.u64.wrap (2 * (-(n + 1))) = _; rw [wrap_u64_eq]; omega
    have a5 : E.wadd .u64 (-2 * n - 2) 1 = zzU n := by rw [hE, e]; show IntKind.u64.wrap _ = _; rw [wrap_u64_eq]; omega
    generalize -2 * n - 2 = x4 at *
    generalize -(n + 1) = x3 at *
    generalize n + 1 = x1 at *
    generalize zzU n = z at *
    generalize ofL (zb n) = O at *
    clear e
    cbv
    repeat (first | (simp only [dd]; cbv) | simp only [dd] | (simp only [a1]; cbv) | simp only [a1] | (simp only [a2]; cbv) | simp only [a2] | (simp only [a3]; cbv) | simp only [a3] | (simp only [a4]; cbv) | simp only [a4] | (simp only [a5]; cbv) | simp only [a5] | (refine ⟨_, rc, ?_⟩; cbv))
  · have e := zz_nn h h1
    refine ret_by tyT_ok c0_gr mixed (fun _ => 0) Tryd.func54 rfl (by kernel_rfl) (by kernel_rfl) rfl fun P G E hc hE => ?_
    replace rc := hc _ _ _ rc
    have dd : E.lti n 0 = false := by rw [hE]; exact decide_eq_false (by omega)
    have a3 : E.wrap .u64 n = n := by rw [hE]; show IntKind.u64.wrap _ = _; rw [wrap_u64_eq]; omega
    have a4 : E.wmul .u64 2 n = zzU n := by rw [hE, e]; show IntKind.u64.wrap (2 * n) = _; rw [wrap_u64_eq]; omega
    generalize zzU n = z at *
    generalize ofL (zb n) = O at *
    clear e
    cbv
    repeat (first | (simp only [dd]; cbv) | simp only [dd] | (simp only [a3]; cbv) | simp only [a3] | (simp only [a4]; cbv) | simp only [a4] | (refine ⟨_, rc, ?_⟩; cbv))
theorem str_r (s : ByteArray) (hs : s.size ≤ 100000000) : CV 52 [cS s] (cS (ofL (strB s))) := by
  have rc := natural_r s.size (Int.natCast_nonneg _) (by omega)
  rw [show ((s.size : Nat) : Int).toNat = s.size by omega] at rc
  have hl : (ofL (natB s.size)).size ≤ 10 := by rw [ofL_size]; exact natB_10 (by omega)
  have hO : ofL (natB s.size) ++ s = ofL (strB s) := by unfold strB; rw [← ofL_app, ofL_of]
  obtain ⟨sz, hsz⟩ : ∃ x : Int, ((s.size : Nat) : Int) = x := ⟨_, rfl⟩
  rw [hsz] at rc
  generalize ofL (natB s.size) = B1 at *
  generalize ofL (strB s) = O at *
  refine ret_by tyT_ok c0_gr mixed (fun _ => 0) Tryd.func52 rfl (by kernel_rfl) (by kernel_rfl) rfl fun P G E hc hE => ?_
  replace rc := hc _ _ _ rc
  have z0 : E.size s = sz := by rw [hE]; exact hsz
  have z1 : E.wrap .u64 sz = sz := by rw [hE]; show IntKind.u64.wrap sz = sz; rw [wrap_u64_eq]; omega
  have c1 : E.cat B1 s := by rw [hE]; show ((B1.size : Nat) : Int) + ((s.size : Nat) : Int) ≤ 9223372036854775807; omega
  have s1 : E.add B1 s = O := by rw [hE]; exact hO
  clear hO hl hs
  cbv
  repeat (first | (simp only [z0]; cbv) | simp only [z0] | (simp only [z1]; cbv) | simp only [z1] | (refine ⟨_, rc, ?_⟩; cbv) | (refine ⟨c1, ?_⟩; cbv) | (simp only [s1]; cbv) | simp only [s1])
structure NuI (ns : List Int) (y : Int × ByteArray) : Prop where
  i0 : 0 ≤ y.1
  i1 : y.1 ≤ ns.length
  st : y.2 = ofL ((ns.take y.1.toNat).flatMap zb)
set_option maxHeartbeats 1000000 in
theorem numbers_r (ns : List Int) (hn : ns.length ≤ 100) (hr : ∀ n ∈ ns, -9223372036854775808 ≤ n ∧ n < 9223372036854775808) : CV 53 [.ro 1 (pN ns)] (cS (ofL (ns.flatMap zb))) := by
  obtain ⟨tot, ht⟩ : ∃ x, ns.flatMap zb = x := ⟨_, rfl⟩
  rw [ht]
  have hpl : (pN ns).length = ns.length := by simp [pN]
  have hg : ∀ (k : Nat) n, ns[k]? = some n → (pN ns)[k]? = some [cI n] := fun k n h => pN_get h
  obtain ⟨nn, hnn⟩ : ∃ x, ns.length = x := ⟨_, rfl⟩
  rw [hnn] at hpl hn
  obtain ⟨F, hF⟩ : ∃ x, pN ns = x := ⟨_, rfl⟩
  rw [hF] at hpl hg ⊢
  have hx0 : NuI ns (0, ⟨#[]⟩) := ⟨Int.le_refl _, Int.natCast_nonneg _, rfl⟩
  obtain ⟨μ, hμ⟩ : ∃ μ : Int → Nat, ∀ i, μ i = 1000 - i.toNat := ⟨_, fun _ => rfl⟩
  obtain ⟨OUT, eo⟩ : ∃ x, ofL tot = x := ⟨_, rfl⟩
  rw [eo]
  refine ret_by tyT_ok c0_gr mixed (fun _ => 0) Tryd.func53 rfl (by kernel_rfl) (by kernel_rfl) rfl fun P G E hc hE => ?_
  have elt : ∀ a b, E.lti a b = decide (a < b) := fun a b => by rw [hE]; rfl
  have eofn : ∀ n, E.ofN n = (n : Int) := fun n => by rw [hE]; rfl
  have enat : ∀ i, E.nat i = i.toNat := fun i => by rw [hE]; rfl
  have eple : ∀ a b, a ≤ b → E.ple a b := fun a b h => by rw [hE]; exact h
  have eadd : ∀ a b : Int, -1000000 ≤ a → a ≤ 1000000 → -1000000 ≤ b → b ≤ 1000000 → E.wadd .i64 a b = a + b := fun a b h0 h1 h2 h3 => by rw [hE]; exact wrap_i64_in (by omega) (by omega)
  have ecat : ∀ a b : ByteArray, a.size ≤ 1000000000 → b.size ≤ 1000000000 → E.cat a b := fun a b h1 h2 => by rw [hE]; show ((a.size : Nat) : Int) + ((b.size : Nat) : Int) ≤ 9223372036854775807; omega
  have eaddS : ∀ a b : ByteArray, E.add a b = a ++ b := fun a b => by rw [hE]; rfl
  clear hE
  cbv at hpl
  cbv
  refine loop_by 19 [0, 3, 4] 0 (fun y : Int × ByteArray => [.p (.ro 1 F), .p (cS y.2), .p (cI y.1)]) (fun _ => []) (NuI ns) (fun y => μ y.1) (0, ⟨#[]⟩) ⟨rfl, rfl, rfl, rfl, rfl⟩ hx0 ?_
  clear hx0
  rintro ⟨i, s⟩ ⟨i0, i1, hs⟩
  simp only at i0 i1 hs
  replace hnn : ns.length = nn := hnn
  replace hn : nn ≤ 100 := hn
  replace eofn : ∀ n : Nat, E.ofN n = (n : Int) := eofn
  replace hr : ∀ n ∈ ns, -9223372036854775808 ≤ n ∧ n < 9223372036854775808 := hr
  have dd : E.lti i (E.ofN nn) = decide (i < (nn : Int)) := by rw [eofn, elt]
  by_cases hi : i < (nn : Int)
  · rw [decide_eq_true hi] at dd
    obtain ⟨x, hx⟩ : ∃ x, ns[i.toNat]? = some x := ⟨_, List.getElem?_eq_getElem (by omega)⟩
    have gr := hg _ _ hx
    rw [← enat] at gr
    have p3 := eple 0 i i0
    have ei := eadd i 1 (by omega) (by omega) (by omega) (by omega)
    have hM2 : μ (E.wadd .i64 i 1) < μ i := by rw [hμ, hμ, ei]; omega
    have hxr := hr x (List.mem_of_getElem? hx)
    have rc := hc _ _ _ (number_r x hxr.1 hxr.2)
    have htk : (ns.take (i + 1).toNat).flatMap zb = (ns.take i.toNat).flatMap zb ++ zb x := by
      rw [show (i + 1).toNat = i.toNat + 1 by omega, List.take_add_one, hx]
      simp
    have hsz : s.size ≤ 1000000000 := by
      rw [hs, ofL_size]
      have := zbs_len (ns.take i.toNat)
      have := List.length_take_le i.toNat ns
      omega
    have hzl := zb_len x
    obtain ⟨bs, hbs⟩ : ∃ y, ofL (zb x) = y := ⟨_, rfl⟩
    have hbz : bs.size ≤ 1000000000 := by rw [← hbs, ofL_size]; omega
    rw [hbs] at rc
    have c1 := ecat s bs hsz hbz
    have s1 := eaddS s bs
    obtain ⟨s', hs'⟩ : ∃ y, s ++ bs = y := ⟨_, rfl⟩
    rw [hs'] at s1
    have hI2 : NuI ns (E.wadd .i64 i 1, s') := by
      rw [ei]
      refine ⟨by simp only; omega, by simp only; omega, ?_⟩
      simp only
      rw [htk, ← hs', hs, ← hbs, ofL_app]
    clear hg hx htk hs hsz hzl hbs hbz hs' hxr hr ecat eaddS
    cbv
    repeat (first | (simp only [hpl]; cbv) | simp only [hpl] | (simp only [dd]; cbv) | simp only [dd] | (refine ⟨p3,_,gr, ?_⟩; cbv) | (refine ⟨_, rc, ?_⟩; cbv) | (refine ⟨c1, ?_⟩; cbv) | (simp only [s1]; cbv) | simp only [s1])
    refine .mk (E.wadd .i64 i 1, s') ⟨rfl, rfl, rfl, rfl, rfl⟩ ?_ ?_
    · exact hI2
    · exact hM2
  · rw [decide_eq_false hi] at dd
    have htk : ns.take i.toNat = ns := List.take_of_length_le (by omega)
    rw [htk, ht] at hs
    obtain rfl : s = OUT := hs.trans eo
    clear hg hr hs ecat eaddS
    cbv
    repeat (first | (simp only [hpl]; cbv) | simp only [hpl] | (simp only [dd]; cbv) | simp only [dd])
end Go.Proofs.YtlffpgjkhehdmaaDoor
