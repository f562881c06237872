/- Own work: the inner functions of Parse: names, operation, numbers, literal. -/
import Derived.Test.YtjefbgfohijaoaaGreatDoorWBF4
namespace Go.Proofs.YtjefbgfohijaoaaGreatDoor
open Go.RowKit
set_option maxRecDepth 100000
set_option linter.unusedSimpArgs false
def nameS : List ByteArray := nameBytes.map fun l => ⟨l.toArray⟩
theorem nameS_len : nameS.length = 54 := rfl
set_option maxHeartbeats 2000000 in
theorem names_ret : RZ 38 [] (.ro 1 (pSs nameS)) := by
 refine ret_by tyT_ok gz_gr mixed (fun _ => 0) Tryz.func38 rfl (by kernel_rfl) (by kernel_rfl) rfl fun P G E hc hE => ?_
 have p1 : E.pre 0 54 (pSs nameS) := by rw [hE]; exact Nat.le_refl 54
 have t3 : E.sub (pSs nameS) 0 54 = pSs nameS := by rw [hE]; rfl
 clear hE hc
 cbv
 refine ⟨p1,?_⟩
 exact congrArg (PV.ro 1) t3
structure OpfI (s : ByteArray) (i : Int) : Prop where
 i0 : 0 <= i
 i1 : i <= 54
 no : ∀ k : Nat, (k : Int) < i -> ∀ t, nameS[k]? = some t -> t ≠ s
theorem nameS_at (k : Nat) (t : ByteArray) (h : nameS[k]? = some t) : nameBytes[k]? = some t.data.toList := by
 unfold nameS at h
 rw [List.getElem?_map] at h
 cases hk : nameBytes[k]? with
 | none => rw [hk] at h; cases h
 | some l => rw [hk] at h; cases h; simp
theorem opOf_hit {s : ByteArray} {i : Int} (h : OpfI s i) (hs : nameS[i.toNat]? = some s) : opOf s = i := by
 have h0 := h.i0
 have hb := nameS_at _ _ hs
 have hl := (List.getElem?_eq_some_iff.1 hb).1
 unfold opOf
 have : nameBytes.findIdx? (· == s.data.toList) = some i.toNat := by
  rw [List.findIdx?_eq_some_iff_getElem]
  refine ⟨hl, by rw [(List.getElem?_eq_some_iff.1 hb).2]; exact beq_self_eq_true _, fun j hj => ?_⟩
  have hjl : j < nameBytes.length := by omega
  have hn : nameS[j]? = some ⟨(nameBytes[j]).toArray⟩ := by unfold nameS; rw [List.getElem?_map, List.getElem?_eq_getElem hjl]; rfl
  have hne := h.no j (by omega) _ hn
  intro he
  refine hne (bl_inj ?_)
  have := beq_iff_eq.1 he
  rw [<-this]
 rw [this]
 show ((i.toNat : Nat) : Int) = i
 omega
theorem opOf_miss {s : ByteArray} {i : Int} (h : OpfI s i) (hi : ¬ i < 54) : opOf s = 0 := by
 unfold opOf
 have : nameBytes.findIdx? (· == s.data.toList) = none := by
  rw [List.findIdx?_eq_none_iff]
  intro l hl
  obtain ⟨k, hk, rfl⟩ := List.getElem_of_mem hl
  have hk54 : k < 54 := hk
  have hn : nameS[k]? = some ⟨(nameBytes[k]).toArray⟩ := by unfold nameS; rw [List.getElem?_map, List.getElem?_eq_getElem hk]; rfl
  have hne := h.no k (by omega) _ hn
  refine beq_eq_false_iff_ne.2 fun he => hne (bl_inj ?_)
  rw [<-he]
  exact List.toList_toArray
 rw [this]
set_option maxHeartbeats 2000000 in
theorem operation_ret (s : ByteArray) : RZ 28 [pS s] (pI (opOf s)) := by
 have hnm := names_ret
 obtain ⟨R, hR⟩ : ∃ y, pSs nameS = y := ⟨_, rfl⟩
 rw [hR] at hnm
 have hRl : R.length = 54 := by rw [<-hR]; rfl
 have hg : ∀ (k : Nat) t, nameS[k]? = some t -> R[k]? = some [pS t] := fun k t h => by
  rw [<-hR]
  unfold pSs
  rw [List.getElem?_map, h]
  rfl
 have hI0 : OpfI s 0 := ⟨Int.le_refl _, by decide, fun k hk => by omega⟩
 obtain ⟨μ, hμ⟩ : ∃ μ : Int -> Nat, ∀ i, μ i = 200 - i.toNat := ⟨_, fun _ => rfl⟩
 obtain ⟨V, hV⟩ : ∃ v, opOf s = v := ⟨_, rfl⟩
 have hhit : ∀ i, OpfI s i -> nameS[i.toNat]? = some s -> i = V := fun i h1 h2 => by rw [<-hV]; exact (opOf_hit h1 h2).symm
 have hmiss : ∀ i, OpfI s i -> ¬ i < 54 -> V = 0 := fun i h1 h2 => by rw [<-hV]; exact opOf_miss h1 h2
 rw [hV]
 clear hV hR
 refine ret_by tyT_ok gz_gr mixed (fun _ => 0) Tryz.func28 rfl (by kernel_rfl) (by kernel_rfl) rfl fun P G E hc hE => ?_
 replace hnm := hc _ _ _ hnm
 have l0 : E.ofN R.length = 54 := by rw [hE, hRl]; rfl
 have elt := qLti hE
 have eple := qPle hE
 have enat : ∀ i, E.nat i = i.toNat := fun i => by rw [hE]; rfl
 have eadd := qAdd hE
 have eeq : ∀ a b, E.eq a b = decide (a = b) := fun a b => by rw [hE]; rfl
 clear hE hc
 cbv at l0
 cbv
 repeat (first | (refine ⟨_, hnm,?_⟩; cbv) | (simp only [l0]; cbv) | simp only [l0])
 refine loop_by 17 [0, 5, 6, 7] 0 (fun i : Int => [.p (pS s), .p (.ro 1 R), .p (pI 54), .p (pI i)]) (fun _ => []) (OpfI s) μ 0 ⟨rfl, rfl, rfl, rfl, rfl⟩ hI0 ?_
 clear hI0 hnm l0
 intro i hI
 have i0 := hI.i0
 have i1 := hI.i1
 rcases Classical.em (i < 54) with hlt | hlt
 ·have d1 : E.lti i 54 = true := by rw [elt]; exact decide_eq_true hlt
  obtain ⟨t, ht⟩ : ∃ t, nameS[i.toNat]? = some t := ⟨_, List.getElem?_eq_getElem (by rw [nameS_len]; omega)⟩
  have g1 : R[E.nat i]? = some [pS t] := by rw [enat]; exact hg _ _ ht
  have p1 := eple 0 i i0
  rcases Classical.em (t = s) with he | he
  ·have d2 : E.eq t s = true := by rw [eeq]; exact decide_eq_true he
   have hv := hhit i hI (by rw [<-he]; exact ht)
   subst hv
   clear hmiss hhit hg hI ht he eeq elt eple enat eadd hμ hlt i0 i1 hRl
   cbv
   repeat (first | (simp only [d1]; cbv) | simp only [d1] | (refine ⟨p1,_,g1,?_⟩; cbv) | (simp only [d2]; cbv) | simp only [d2])
   all_goals trivial
  ·have d2 : E.eq t s = false := by rw [eeq]; exact decide_eq_false he
   obtain ⟨i2, hi2⟩ : ∃ x : Int, i + 1 = x := ⟨_, rfl⟩
   have ei := eadd i 1 (by omega) (by omega) (by omega) (by omega)
   rw [hi2] at ei
   have hI2 : OpfI s i2 := ⟨by omega, by omega, fun k hk u hu => by
    by_cases hkl : (k : Int) < i
    ·exact hI.no k hkl u hu
    ·have : k = i.toNat := by omega
     subst this
     rw [ht] at hu
     cases hu
     exact he⟩
   have hM2 : μ i2 < μ i := by rw [hμ, hμ]; omega
   clear hmiss hhit hg hI ht he eeq elt eple enat eadd hμ hlt i0 i1 hi2 hRl
   cbv
   repeat (first | (simp only [d1]; cbv) | simp only [d1] | (refine ⟨p1,_,g1,?_⟩; cbv) | (simp only [d2]; cbv) | simp only [d2] | (simp only [ei]; cbv) | simp only [ei])
   refine .mk i2 ⟨rfl, rfl, rfl, rfl, rfl⟩ ?_ ?_
   ·exact hI2
   ·exact hM2
 ·have d1 : E.lti i 54 = false := by rw [elt]; exact decide_eq_false hlt
  have hv := hmiss i hI hlt
  subst hv
  clear hmiss hhit hg hI eeq elt eple enat eadd hμ hlt i0 i1 hRl
  cbv
  repeat (first | (simp only [d1]; cbv) | simp only [d1])
  all_goals trivial
def numsR (ws : List ByteArray) (n : Nat) : List (List PV) := (List.range n).map fun j => [pI (numAt ws j)]
def numsZ (ws : List ByteArray) (n : Nat) (i : Int) : List (List PV) := (List.range n).map fun j => [pI (if ((j : Nat) : Int) < i then numAt ws j else 0)]
structure NusI (ws : List ByteArray) (n : Nat) (x : Int × List (List PV)) : Prop where
 i0 : 0 <= x.1
 i1 : x.1 <= (n : Nat)
 i2 : x.1 <= ((ws.length : Nat) : Int)
 rs : numsZ ws n x.1 = x.2
theorem numZ_end {ws : List ByteArray} {n : Nat} {i : Int} (h : ¬ i < (n : Nat) \/ ¬ i < ((ws.length : Nat) : Int)) : numsZ ws n i = numsR ws n := by
 unfold numsZ numsR
 refine List.map_congr_left fun j hj => ?_
 have hjn := List.mem_range.1 hj
 split
 ·rfl
 ·rename_i hji
  have : ws.length <= j := by omega
  unfold numAt
  rw [List.getElem?_eq_none this]
theorem numZ_set {ws : List ByteArray} {n : Nat} {i i2 : Int} {w : ByteArray} (h0 : 0 <= i) (h1 : i < (n : Nat)) (hw : ws[i.toNat]? = some w) (h2 : i + 1 = i2) : (numsZ ws n i).set i.toNat [pI (atoiV w)] = numsZ ws n i2 := by
 unfold numsZ
 refine List.ext_getElem? fun j => ?_
 rw [List.getElem?_set]
 simp only [List.getElem?_map, List.length_map, List.length_range]
 by_cases hj : i.toNat = j
 ·subst hj
  rw [if_pos rfl, if_pos (by omega), List.getElem?_range (by omega)]
  simp only [Option.map_some]
  rw [if_pos (by omega)]
  unfold numAt
  rw [hw]
 ·rw [if_neg hj]
  by_cases hjn : j < n
  ·rw [List.getElem?_range hjn]
   simp only [Option.map_some]
   by_cases hji : ((j : Nat) : Int) < i
   ·rw [if_pos hji, if_pos (by omega)]
   ·rw [if_neg hji, if_neg (by omega)]
  ·rw [List.getElem?_eq_none (by simpa using hjn)]
   rfl
theorem numZ_len (ws : List ByteArray) (n : Nat) (i : Int) : (numsZ ws n i).length = n := by unfold numsZ; simp
set_option maxHeartbeats 4000000 in
theorem numbers_ret (ws : List ByteArray) (hz : ∀ w ∈ ws, w.size <= 2000000) (hl : ws.length <= 2000000) (n : Nat) (hn : n = 2 \/ n = 3 \/ n = 5) : RZ 23 [.ro 1 (pSs ws), pI ((n : Nat) : Int)] (.ro 1 (numsR ws n)) := by
 have hat := fun s (h : s.size <= 2000000) => atoi_ret s h
 obtain ⟨R, hR⟩ : ∃ y, pSs ws = y := ⟨_, rfl⟩
 have hRl : R.length = ws.length := by rw [<-hR]; unfold pSs; rw [List.length_map]
 obtain ⟨nw, hnw⟩ : ∃ y : Int, ((ws.length : Nat) : Int) = y := ⟨_, rfl⟩
 have hg : ∀ (k : Nat) t, ws[k]? = some t -> R[k]? = some [pS t] := fun k t h => by
  rw [<-hR]
  unfold pSs
  rw [List.getElem?_map, h]
  rfl
 rw [hR]
 clear hR
 obtain ⟨μ, hμ⟩ : ∃ μ : Int × List (List PV) -> Nat, ∀ x, μ x = 20 - x.1.toNat := ⟨_, fun _ => rfl⟩
 rcases hn with rfl | rfl | rfl
 ·show RZ 23 [.ro 1 R, pI 2] (.ro 1 (numsR ws 2))
  have hI0 : NusI ws 2 (0, [[pI 0],[pI 0]]) := ⟨Int.le_refl _, by decide, by show (0 : Int) <= _; omega, by unfold numsZ; rfl⟩
  obtain ⟨V, hV⟩ : ∃ v, numsR ws 2 = v := ⟨_, rfl⟩
  have hend : ∀ i rs, NusI ws 2 (i, rs) -> (¬ i < 2 \/ ¬ i < nw) -> rs = V := fun i rs h1 h2 => by rw [<-hnw] at h2; rw [<-hV, <- numZ_end h2]; exact h1.rs.symm
  have hset : ∀ (i i2 : Int) rs w, NusI ws 2 (i, rs) -> i < 2 -> ws[i.toNat]? = some w -> i + 1 = i2 -> NusI ws 2 (i2, rs.set i.toNat [pI (atoiV w)]) := fun i i2 rs w h1 h2 h3 h4 => by
   have e0 := h1.i0
   have e1 := (List.getElem?_eq_some_iff.1 h3).1
   refine ⟨by show 0 <= i2; simp only at e0; omega, by show i2 <= 2; omega, by show i2 <= _; simp only at e0; omega,?_⟩
   have := h1.rs
   show numsZ ws 2 i2 = _
   simp only at this
   rw [<-this]
   exact (numZ_set e0 h2 h3 h4).symm
  have hlen : ∀ i rs, NusI ws 2 (i, rs) -> rs.length = 2 := fun i rs h => by have e := h.rs; simp only at e; rw [<-e]; exact numZ_len ws 2 _
  have hgr : ∀ i rs, NusI ws 2 (i, rs) -> i < 2 -> ∃ z, rs[i.toNat]? = some [pI z] := fun i rs h h1 => by
   have e0 := h.i0
   have e1 := h.rs
   simp only at e0 e1
   rw [<-e1]
   unfold numsZ
   rw [List.getElem?_map, List.getElem?_range (by omega)]
   exact ⟨_, rfl⟩
  rw [hV]
  clear hV
  refine ret_by tyT_ok gz_gr mixed (fun _ => 0) Tryz.func23 rfl (by kernel_rfl) (by kernel_rfl) rfl fun P G E hc hE => ?_
  replace hat := fun s h => hc _ _ _ (hat s h)
  have l0 : E.ofN R.length = nw := by rw [hE, hRl]; exact hnw
  have q0 : E.nat 2 = 2 := by rw [hE]; rfl
  have q1 : E.ofN 2 = 2 := by rw [hE]; rfl
  have m0 : E.ple 0 2 := by rw [hE]; show (0 : Int) <= 2; decide
  have m1 : E.room 0 2 8 := by rw [hE]; exact ⟨by unfold maxLen; omega, by omega⟩
  have elt := qLti hE
  have eple := qPle hE
  have eplt : ∀ a b, a < b -> E.plt a b := fun a b h => by rw [hE]; exact h
  have enat : ∀ i, E.nat i = i.toNat := fun i => by rw [hE]; rfl
  have eaddn : ∀ i, E.addN 0 (E.nat i) = i.toNat := fun i => by rw [hE]; exact Nat.zero_add _
  have eput : ∀ rs r row, E.put rs r row = rs.set r row := fun rs r row => by rw [hE]; rfl
  have eadd := qAdd hE
  have epre : ∀ rs : List (List PV), rs.length = 2 -> E.pre 0 2 rs := fun rs h => by rw [hE]; show 0 + 2 <= rs.length; omega
  have esub : ∀ rs : List (List PV), rs.length = 2 -> E.sub rs 0 2 = rs := fun rs h => by rw [hE]; show (rs.drop 0).take 2 = rs; rw [List.drop_zero, <- h, List.take_length]
  clear hE hc
  cbv at l0
  cbv
  repeat (first | (simp only [q0]; cbv) | simp only [q0] | (refine ⟨m0,m1,?_⟩; cbv))
  refine loop_by 32 [0, 1, 5, 6] 1 (fun x : Int × List (List PV) => [.p (.ro 1 R), .p (pI 2), .osl 0 0 2, .p (pI x.1)]) (fun x => [some (.rows 1 x.2 3)]) (NusI ws 2) μ (0, [[pI 0],[pI 0]]) ⟨rfl, rfl, rfl, rfl, rfl⟩ hI0 ?_
  clear hI0
  rintro ⟨i, rs⟩ hI
  replace hnw : ((ws.length : Nat) : Int) = nw := hnw
  have i0 := hI.i0
  have i1 := hI.i1
  simp only at i0 i1
  rcases Classical.em (i < 2) with hlt | hlt
  ·have d1 : E.lti i 2 = true := by rw [elt]; exact decide_eq_true hlt
   rcases Classical.em (i < nw) with hlw | hlw
   ·have d2 : E.lti i nw = true := by rw [elt]; exact decide_eq_true hlw
    obtain ⟨w, hw⟩ : ∃ w, ws[i.toNat]? = some w := ⟨_, List.getElem?_eq_getElem (by omega)⟩
    have hwz := hz w (List.mem_of_getElem? hw)
    have g1 : R[E.nat i]? = some [pS w] := by rw [enat]; exact hg _ _ hw
    obtain ⟨i2, hi2⟩ : ∃ x : Int, i + 1 = x := ⟨_, rfl⟩
    obtain ⟨z, hz2⟩ := hgr i rs hI hlt
    have g2 : rs[E.addN 0 (E.nat i)]? = some [pI z] := by rw [eaddn]; exact hz2
    have p1 := eple 0 i i0
    have p2 : E.plt i (E.ofN 2) := by rw [q1]; exact eplt _ _ hlt
    have hst := hset i i2 rs w hI hlt hw hi2
    have h1 := hat w hwz
    have ep : E.put rs (E.addN 0 (E.nat i)) [pI (atoiV w)] = rs.set i.toNat [pI (atoiV w)] := by rw [eput, eaddn]
    obtain ⟨RS, hRS⟩ : ∃ y, rs.set i.toNat [pI (atoiV w)] = y := ⟨_, rfl⟩
    rw [hRS] at ep hst
    have ei := eadd i 1 (by omega) (by omega) (by omega) (by omega)
    rw [hi2] at ei
    have hM2 : μ (i2, RS) < μ (i, rs) := by rw [hμ, hμ]; show 20 - i2.toNat < 20 - i.toNat; omega
    generalize atoiV w = AV at h1 ep
    generalize atoiE w = AE at h1
    clear hend hset hlen hgr hg hI hw hwz hz hz2 hRS hi2 hat elt eple eplt enat eaddn eput eadd epre esub hμ hlt hlw i0 i1 hnw hRl m0 m1
    cbv
    repeat (first | (simp only [d1]; cbv) | simp only [d1] | (simp only [l0]; cbv) | simp only [l0] | (simp only [d2]; cbv) | simp only [d2] | (refine ⟨p1,p2,?_⟩; cbv) | (refine ⟨p1,_,g1,?_⟩; cbv) | (refine ⟨_, h1,?_⟩; cbv) | (refine ⟨_,g2,?_⟩; cbv) | (simp only [ep]; cbv) | simp only [ep] | (simp only [ei]; cbv) | simp only [ei])
    refine .mk (i2, RS) ⟨rfl, rfl, rfl, rfl, rfl⟩ ?_ ?_
    ·exact hst
    ·exact hM2
   ·have d2 : E.lti i nw = false := by rw [elt]; exact decide_eq_false hlw
    have hv := hend i rs hI (.inr (by omega))
    have hl := hlen i rs hI
    have k1 := epre rs hl
    have k2 := esub rs hl
    subst hv
    clear hend hset hlen hgr hg hI hz hat elt eple eplt enat eaddn eput eadd epre esub hμ hlt hlw i0 i1 hnw hRl m0 m1 hl
    cbv
    repeat (first | (simp only [d1]; cbv) | simp only [d1] | (simp only [l0]; cbv) | simp only [l0] | (simp only [d2]; cbv) | simp only [d2] | (refine ⟨k1,?_⟩; cbv) | (simp only [k2]; cbv) | simp only [k2])
    all_goals trivial
  ·have d1 : E.lti i 2 = false := by rw [elt]; exact decide_eq_false hlt
   have hv := hend i rs hI (.inl hlt)
   have hl := hlen i rs hI
   have k1 := epre rs hl
   have k2 := esub rs hl
   subst hv
   clear hend hset hlen hgr hg hI hz hat elt eple eplt enat eaddn eput eadd epre esub hμ hlt i0 i1 hnw hRl m0 m1 hl
   cbv
   repeat (first | (simp only [d1]; cbv) | simp only [d1] | (simp only [l0]; cbv) | simp only [l0] | (refine ⟨k1,?_⟩; cbv) | (simp only [k2]; cbv) | simp only [k2])
   all_goals trivial
 ·show RZ 23 [.ro 1 R, pI 3] (.ro 1 (numsR ws 3))
  have hI0 : NusI ws 3 (0, [[pI 0],[pI 0],[pI 0]]) := ⟨Int.le_refl _, by decide, by show (0 : Int) <= _; omega, by unfold numsZ; rfl⟩
  obtain ⟨V, hV⟩ : ∃ v, numsR ws 3 = v := ⟨_, rfl⟩
  have hend : ∀ i rs, NusI ws 3 (i, rs) -> (¬ i < 3 \/ ¬ i < nw) -> rs = V := fun i rs h1 h2 => by rw [<-hnw] at h2; rw [<-hV, <- numZ_end h2]; exact h1.rs.symm
  have hset : ∀ (i i2 : Int) rs w, NusI ws 3 (i, rs) -> i < 3 -> ws[i.toNat]? = some w -> i + 1 = i2 -> NusI ws 3 (i2, rs.set i.toNat [pI (atoiV w)]) := fun i i2 rs w h1 h2 h3 h4 => by
   have e0 := h1.i0
   have e1 := (List.getElem?_eq_some_iff.1 h3).1
   refine ⟨by show 0 <= i2; simp only at e0; omega, by show i2 <= 3; omega, by show i2 <= _; simp only at e0; omega,?_⟩
   have := h1.rs
   show numsZ ws 3 i2 = _
   simp only at this
   rw [<-this]
   exact (numZ_set e0 h2 h3 h4).symm
  have hlen : ∀ i rs, NusI ws 3 (i, rs) -> rs.length = 3 := fun i rs h => by have e := h.rs; simp only at e; rw [<-e]; exact numZ_len ws 3 _
  have hgr : ∀ i rs, NusI ws 3 (i, rs) -> i < 3 -> ∃ z, rs[i.toNat]? = some [pI z] := fun i rs h h1 => by
   have e0 := h.i0
   have e1 := h.rs
   simp only at e0 e1
   rw [<-e1]
   unfold numsZ
   rw [List.getElem?_map, List.getElem?_range (by omega)]
   exact ⟨_, rfl⟩
  rw [hV]
  clear hV
  refine ret_by tyT_ok gz_gr mixed (fun _ => 0) Tryz.func23 rfl (by kernel_rfl) (by kernel_rfl) rfl fun P G E hc hE => ?_
  replace hat := fun s h => hc _ _ _ (hat s h)
  have l0 : E.ofN R.length = nw := by rw [hE, hRl]; exact hnw
  have q0 : E.nat 3 = 3 := by rw [hE]; rfl
  have q1 : E.ofN 3 = 3 := by rw [hE]; rfl
  have m0 : E.ple 0 3 := by rw [hE]; show (0 : Int) <= 3; decide
  have m1 : E.room 0 3 8 := by rw [hE]; exact ⟨by unfold maxLen; omega, by omega⟩
  have elt := qLti hE
  have eple := qPle hE
  have eplt : ∀ a b, a < b -> E.plt a b := fun a b h => by rw [hE]; exact h
  have enat : ∀ i, E.nat i = i.toNat := fun i => by rw [hE]; rfl
  have eaddn : ∀ i, E.addN 0 (E.nat i) = i.toNat := fun i => by rw [hE]; exact Nat.zero_add _
  have eput : ∀ rs r row, E.put rs r row = rs.set r row := fun rs r row => by rw [hE]; rfl
  have eadd := qAdd hE
  have epre : ∀ rs : List (List PV), rs.length = 3 -> E.pre 0 3 rs := fun rs h => by rw [hE]; show 0 + 3 <= rs.length; omega
  have esub : ∀ rs : List (List PV), rs.length = 3 -> E.sub rs 0 3 = rs := fun rs h => by rw [hE]; show (rs.drop 0).take 3 = rs; rw [List.drop_zero, <- h, List.take_length]
  clear hE hc
  cbv at l0
  cbv
  repeat (first | (simp only [q0]; cbv) | simp only [q0] | (refine ⟨m0,m1,?_⟩; cbv))
  refine loop_by 32 [0, 1, 5, 6] 1 (fun x : Int × List (List PV) => [.p (.ro 1 R), .p (pI 3), .osl 0 0 3, .p (pI x.1)]) (fun x => [some (.rows 1 x.2 3)]) (NusI ws 3) μ (0, [[pI 0],[pI 0],[pI 0]]) ⟨rfl, rfl, rfl, rfl, rfl⟩ hI0 ?_
  clear hI0
  rintro ⟨i, rs⟩ hI
  replace hnw : ((ws.length : Nat) : Int) = nw := hnw
  have i0 := hI.i0
  have i1 := hI.i1
  simp only at i0 i1
  rcases Classical.em (i < 3) with hlt | hlt
  ·have d1 : E.lti i 3 = true := by rw [elt]; exact decide_eq_true hlt
   rcases Classical.em (i < nw) with hlw | hlw
   ·have d2 : E.lti i nw = true := by rw [elt]; exact decide_eq_true hlw
    obtain ⟨w, hw⟩ : ∃ w, ws[i.toNat]? = some w := ⟨_, List.getElem?_eq_getElem (by omega)⟩
    have hwz := hz w (List.mem_of_getElem? hw)
    have g1 : R[E.nat i]? = some [pS w] := by rw [enat]; exact hg _ _ hw
    obtain ⟨i2, hi2⟩ : ∃ x : Int, i + 1 = x := ⟨_, rfl⟩
    obtain ⟨z, hz2⟩ := hgr i rs hI hlt
    have g2 : rs[E.addN 0 (E.nat i)]? = some [pI z] := by rw [eaddn]; exact hz2
    have p1 := eple 0 i i0
    have p2 : E.plt i (E.ofN 3) := by rw [q1]; exact eplt _ _ hlt
    have hst := hset i i2 rs w hI hlt hw hi2
    have h1 := hat w hwz
    have ep : E.put rs (E.addN 0 (E.nat i)) [pI (atoiV w)] = rs.set i.toNat [pI (atoiV w)] := by rw [eput, eaddn]
    obtain ⟨RS, hRS⟩ : ∃ y, rs.set i.toNat [pI (atoiV w)] = y := ⟨_, rfl⟩
    rw [hRS] at ep hst
    have ei := eadd i 1 (by omega) (by omega) (by omega) (by omega)
    rw [hi2] at ei
    have hM2 : μ (i2, RS) < μ (i, rs) := by rw [hμ, hμ]; show 20 - i2.toNat < 20 - i.toNat; omega
    generalize atoiV w = AV at h1 ep
    generalize atoiE w = AE at h1
    clear hend hset hlen hgr hg hI hw hwz hz hz2 hRS hi2 hat elt eple eplt enat eaddn eput eadd epre esub hμ hlt hlw i0 i1 hnw hRl m0 m1
    cbv
    repeat (first | (simp only [d1]; cbv) | simp only [d1] | (simp only [l0]; cbv) | simp only [l0] | (simp only [d2]; cbv) | simp only [d2] | (refine ⟨p1,p2,?_⟩; cbv) | (refine ⟨p1,_,g1,?_⟩; cbv) | (refine ⟨_, h1,?_⟩; cbv) | (refine ⟨_,g2,?_⟩; cbv) | (simp only [ep]; cbv) | simp only [ep] | (simp only [ei]; cbv) | simp only [ei])
    refine .mk (i2, RS) ⟨rfl, rfl, rfl, rfl, rfl⟩ ?_ ?_
    ·exact hst
    ·exact hM2
   ·have d2 : E.lti i nw = false := by rw [elt]; exact decide_eq_false hlw
    have hv := hend i rs hI (.inr (by omega))
    have hl := hlen i rs hI
    have k1 := epre rs hl
    have k2 := esub rs hl
    subst hv
    clear hend hset hlen hgr hg hI hz hat elt eple eplt enat eaddn eput eadd epre esub hμ hlt hlw i0 i1 hnw hRl m0 m1 hl
    cbv
    repeat (first | (simp only [d1]; cbv) | simp only [d1] | (simp only [l0]; cbv) | simp only [l0] | (simp only [d2]; cbv) | simp only [d2] | (refine ⟨k1,?_⟩; cbv) | (simp only [k2]; cbv) | simp only [k2])
    all_goals trivial
  ·have d1 : E.lti i 3 = false := by rw [elt]; exact decide_eq_false hlt
   have hv := hend i rs hI (.inl hlt)
   have hl := hlen i rs hI
   have k1 := epre rs hl
   have k2 := esub rs hl
   subst hv
   clear hend hset hlen hgr hg hI hz hat elt eple eplt enat eaddn eput eadd epre esub hμ hlt i0 i1 hnw hRl m0 m1 hl
   cbv
   repeat (first | (simp only [d1]; cbv) | simp only [d1] | (simp only [l0]; cbv) | simp only [l0] | (refine ⟨k1,?_⟩; cbv) | (simp only [k2]; cbv) | simp only [k2])
   all_goals trivial
 ·show RZ 23 [.ro 1 R, pI 5] (.ro 1 (numsR ws 5))
  have hI0 : NusI ws 5 (0, [[pI 0],[pI 0],[pI 0],[pI 0],[pI 0]]) := ⟨Int.le_refl _, by decide, by show (0 : Int) <= _; omega, by unfold numsZ; rfl⟩
  obtain ⟨V, hV⟩ : ∃ v, numsR ws 5 = v := ⟨_, rfl⟩
  have hend : ∀ i rs, NusI ws 5 (i, rs) -> (¬ i < 5 \/ ¬ i < nw) -> rs = V := fun i rs h1 h2 => by rw [<-hnw] at h2; rw [<-hV, <- numZ_end h2]; exact h1.rs.symm
  have hset : ∀ (i i2 : Int) rs w, NusI ws 5 (i, rs) -> i < 5 -> ws[i.toNat]? = some w -> i + 1 = i2 -> NusI ws 5 (i2, rs.set i.toNat [pI (atoiV w)]) := fun i i2 rs w h1 h2 h3 h4 => by
   have e0 := h1.i0
   have e1 := (List.getElem?_eq_some_iff.1 h3).1
   refine ⟨by show 0 <= i2; simp only at e0; omega, by show i2 <= 5; omega, by show i2 <= _; simp only at e0; omega,?_⟩
   have := h1.rs
   show numsZ ws 5 i2 = _
   simp only at this
   rw [<-this]
   exact (numZ_set e0 h2 h3 h4).symm
  have hlen : ∀ i rs, NusI ws 5 (i, rs) -> rs.length = 5 := fun i rs h => by have e := h.rs; simp only at e; rw [<-e]; exact numZ_len ws 5 _
  have hgr : ∀ i rs, NusI ws 5 (i, rs) -> i < 5 -> ∃ z, rs[i.toNat]? = some [pI z] := fun i rs h h1 => by
   have e0 := h.i0
   have e1 := h.rs
   simp only at e0 e1
   rw [<-e1]
   unfold numsZ
   rw [List.getElem?_map, List.getElem?_range (by omega)]
   exact ⟨_, rfl⟩
  rw [hV]
  clear hV
  refine ret_by tyT_ok gz_gr mixed (fun _ => 0) Tryz.func23 rfl (by kernel_rfl) (by kernel_rfl) rfl fun P G E hc hE => ?_
  replace hat := fun s h => hc _ _ _ (hat s h)
  have l0 : E.ofN R.length = nw := by rw [hE, hRl]; exact hnw
  have q0 : E.nat 5 = 5 := by rw [hE]; rfl
  have q1 : E.ofN 5 = 5 := by rw [hE]; rfl
  have m0 : E.ple 0 5 := by rw [hE]; show (0 : Int) <= 5; decide
  have m1 : E.room 0 5 8 := by rw [hE]; exact ⟨by unfold maxLen; omega, by omega⟩
  have elt := qLti hE
  have eple := qPle hE
  have eplt : ∀ a b, a < b -> E.plt a b := fun a b h => by rw [hE]; exact h
  have enat : ∀ i, E.nat i = i.toNat := fun i => by rw [hE]; rfl
  have eaddn : ∀ i, E.addN 0 (E.nat i) = i.toNat := fun i => by rw [hE]; exact Nat.zero_add _
  have eput : ∀ rs r row, E.put rs r row = rs.set r row := fun rs r row => by rw [hE]; rfl
  have eadd := qAdd hE
  have epre : ∀ rs : List (List PV), rs.length = 5 -> E.pre 0 5 rs := fun rs h => by rw [hE]; show 0 + 5 <= rs.length; omega
  have esub : ∀ rs : List (List PV), rs.length = 5 -> E.sub rs 0 5 = rs := fun rs h => by rw [hE]; show (rs.drop 0).take 5 = rs; rw [List.drop_zero, <- h, List.take_length]
  clear hE hc
  cbv at l0
  cbv
  repeat (first | (simp only [q0]; cbv) | simp only [q0] | (refine ⟨m0,m1,?_⟩; cbv))
  refine loop_by 32 [0, 1, 5, 6] 1 (fun x : Int × List (List PV) => [.p (.ro 1 R), .p (pI 5), .osl 0 0 5, .p (pI x.1)]) (fun x => [some (.rows 1 x.2 3)]) (NusI ws 5) μ (0, [[pI 0],[pI 0],[pI 0],[pI 0],[pI 0]]) ⟨rfl, rfl, rfl, rfl, rfl⟩ hI0 ?_
  clear hI0
  rintro ⟨i, rs⟩ hI
  replace hnw : ((ws.length : Nat) : Int) = nw := hnw
  have i0 := hI.i0
  have i1 := hI.i1
  simp only at i0 i1
  rcases Classical.em (i < 5) with hlt | hlt
  ·have d1 : E.lti i 5 = true := by rw [elt]; exact decide_eq_true hlt
   rcases Classical.em (i < nw) with hlw | hlw
   ·have d2 : E.lti i nw = true := by rw [elt]; exact decide_eq_true hlw
    obtain ⟨w, hw⟩ : ∃ w, ws[i.toNat]? = some w := ⟨_, List.getElem?_eq_getElem (by omega)⟩
    have hwz := hz w (List.mem_of_getElem? hw)
    have g1 : R[E.nat i]? = some [pS w] := by rw [enat]; exact hg _ _ hw
    obtain ⟨i2, hi2⟩ : ∃ x : Int, i + 1 = x := ⟨_, rfl⟩
    obtain ⟨z, hz2⟩ := hgr i rs hI hlt
    have g2 : rs[E.addN 0 (E.nat i)]? = some [pI z] := by rw [eaddn]; exact hz2
    have p1 := eple 0 i i0
    have p2 : E.plt i (E.ofN 5) := by rw [q1]; exact eplt _ _ hlt
    have hst := hset i i2 rs w hI hlt hw hi2
    have h1 := hat w hwz
    have ep : E.put rs (E.addN 0 (E.nat i)) [pI (atoiV w)] = rs.set i.toNat [pI (atoiV w)] := by rw [eput, eaddn]
    obtain ⟨RS, hRS⟩ : ∃ y, rs.set i.toNat [pI (atoiV w)] = y := ⟨_, rfl⟩
    rw [hRS] at ep hst
    have ei := eadd i 1 (by omega) (by omega) (by omega) (by omega)
    rw [hi2] at ei
    have hM2 : μ (i2, RS) < μ (i, rs) := by rw [hμ, hμ]; show 20 - i2.toNat < 20 - i.toNat; omega
    generalize atoiV w = AV at h1 ep
    generalize atoiE w = AE at h1
    clear hend hset hlen hgr hg hI hw hwz hz hz2 hRS hi2 hat elt eple eplt enat eaddn eput eadd epre esub hμ hlt hlw i0 i1 hnw hRl m0 m1
    cbv
    repeat (first | (simp only [d1]; cbv) | simp only [d1] | (simp only [l0]; cbv) | simp only [l0] | (simp only [d2]; cbv) | simp only [d2] | (refine ⟨p1,p2,?_⟩; cbv) | (refine ⟨p1,_,g1,?_⟩; cbv) | (refine ⟨_, h1,?_⟩; cbv) | (refine ⟨_,g2,?_⟩; cbv) | (simp only [ep]; cbv) | simp only [ep] | (simp only [ei]; cbv) | simp only [ei])
    refine .mk (i2, RS) ⟨rfl, rfl, rfl, rfl, rfl⟩ ?_ ?_
    ·exact hst
    ·exact hM2
   ·have d2 : E.lti i nw = false := by rw [elt]; exact decide_eq_false hlw
    have hv := hend i rs hI (.inr (by omega))
    have hl := hlen i rs hI
    have k1 := epre rs hl
    have k2 := esub rs hl
    subst hv
    clear hend hset hlen hgr hg hI hz hat elt eple eplt enat eaddn eput eadd epre esub hμ hlt hlw i0 i1 hnw hRl m0 m1 hl
    cbv
    repeat (first | (simp only [d1]; cbv) | simp only [d1] | (simp only [l0]; cbv) | simp only [l0] | (simp only [d2]; cbv) | simp only [d2] | (refine ⟨k1,?_⟩; cbv) | (simp only [k2]; cbv) | simp only [k2])
    all_goals trivial
  ·have d1 : E.lti i 5 = false := by rw [elt]; exact decide_eq_false hlt
   have hv := hend i rs hI (.inl hlt)
   have hl := hlen i rs hI
   have k1 := epre rs hl
   have k2 := esub rs hl
   subst hv
   clear hend hset hlen hgr hg hI hz hat elt eple eplt enat eaddn eput eadd epre esub hμ hlt i0 i1 hnw hRl m0 m1 hl
   cbv
   repeat (first | (simp only [d1]; cbv) | simp only [d1] | (simp only [l0]; cbv) | simp only [l0] | (refine ⟨k1,?_⟩; cbv) | (simp only [k2]; cbv) | simp only [k2])
   all_goals trivial
theorem litV_bad {s : ByteArray} {ts : List Tk} {p : Nat × Int} (h : lexB s.data.toList = (ts, some p)) : litV s = ⟨#[]⟩ := by
 unfold litV
 rw [h]
 rcases ts with _ | ⟨x, _ | ⟨y, l⟩⟩ <;> rfl
theorem litV_one {s : ByteArray} {x : Tk} (h : lexB s.data.toList = ([x], none)) : litV s = if x.k = 4 then bL x.t else ⟨#[]⟩ := by unfold litV; rw [h]
theorem litV_not {s : ByteArray} {ts : List Tk} (h : lexB s.data.toList = (ts, none)) (hl : ts.length ≠ 1) : litV s = ⟨#[]⟩ := by
 unfold litV
 rw [h]
 rcases ts with _ | ⟨x, _ | ⟨y, l⟩⟩
 ·rfl
 ·exact absurd rfl hl
 ·rfl
set_option maxHeartbeats 2000000 in
theorem blit_ret (s : ByteArray) (hs : s.size <= 900000) : RZ 24 [pS s] (pS (litV s)) := by
 have hx := lZ (lex_ret s hs)
 cases h : lexB s.data.toList with
 | mk ts er =>
  cases er with
  | some p =>
   obtain ⟨m, e⟩ := p
   rw [litV_bad h]
   rw [lexR_bad h] at hx
   have hne : e ≠ 0 := lexF_ne _ s.data.toList m e (congrArg Prod.snd h)
   generalize ((s.size : Nat) : Int) - ((m : Nat) : Int) = z at hx
   refine ret_by tyT_ok gz_gr mixed (fun _ => 0) Tryz.func24 rfl (by kernel_rfl) (by kernel_rfl) rfl fun P G E hc hE => ?_
   replace hx := hc _ _ _ hx
   have d1 : decide (e = 0) = false := decide_eq_false hne
   clear hE hc hne h
   cbv
   repeat (first | (refine ⟨_, hx,?_⟩; cbv) | (simp only [d1]; cbv) | simp only [d1])
   all_goals trivial
  | none =>
   rw [lexR_ok h] at hx
   rcases Classical.em (ts.length = 1) with hl | hl
   ·obtain ⟨x, rfl⟩ := List.length_eq_one_iff.1 hl
    rw [litV_one h]
    have hr : tkRows ((s.size : Nat) : Int) [x] = [[pI x.k, pS (bL x.t), pI (((s.size : Nat) : Int) - ((x.rem : Nat) : Int))]] := rfl
    rw [hr] at hx
    generalize ((s.size : Nat) : Int) - ((x.rem : Nat) : Int) = z at hx
    obtain ⟨T, hT⟩ : ∃ y, bL x.t = y := ⟨_, rfl⟩
    rw [hT] at hx ⊢
    obtain ⟨k, hk⟩ : ∃ y, x.k = y := ⟨_, rfl⟩
    rw [hk] at hx ⊢
    clear hr hl h hT hk
    rcases Classical.em (k = 4) with h4 | h4
    ·subst h4
     rw [if_pos rfl]
     refine ret_by tyT_ok gz_gr mixed (fun _ => 0) Tryz.func24 rfl (by kernel_rfl) (by kernel_rfl) rfl fun P G E hc hE => ?_
     replace hx := hc _ _ _ hx
     have n1 : E.ofN 1 = 1 := by rw [hE]; rfl
     have n0 : E.nat 0 = 0 := by rw [hE]; rfl
     have p0 : E.ple 0 0 := by rw [hE]; exact Int.le_refl 0
     have g0 : [[pI 4, pS T, pI z]][E.nat 0]? = some [pI 4, pS T, pI z] := by rw [n0]; rfl
     clear hE hc
     cbv
     repeat (first | (refine ⟨_, hx,?_⟩; cbv) | (simp only [n1]; cbv) | simp only [n1] | (refine ⟨p0,_,g0,?_⟩; cbv) | (simp only [n0]; cbv) | simp only [n0])
     all_goals trivial
    ·rw [if_neg h4]
     refine ret_by tyT_ok gz_gr mixed (fun _ => 0) Tryz.func24 rfl (by kernel_rfl) (by kernel_rfl) rfl fun P G E hc hE => ?_
     replace hx := hc _ _ _ hx
     have n1 : E.ofN 1 = 1 := by rw [hE]; rfl
     have n0 : E.nat 0 = 0 := by rw [hE]; rfl
     have p0 : E.ple 0 0 := by rw [hE]; exact Int.le_refl 0
     have g0 : [[pI k, pS T, pI z]][E.nat 0]? = some [pI k, pS T, pI z] := by rw [n0]; rfl
     have d1 : decide (k = 4) = false := decide_eq_false h4
     clear hE hc h4
     cbv
     repeat (first | (refine ⟨_, hx,?_⟩; cbv) | (simp only [n1]; cbv) | simp only [n1] | (refine ⟨p0,_,g0,?_⟩; cbv) | (simp only [n0]; cbv) | simp only [n0] | (simp only [d1]; cbv) | simp only [d1])
     all_goals trivial
   ·rw [litV_not h hl]
    obtain ⟨R, hR⟩ : ∃ y, tkRows ((s.size : Nat) : Int) ts = y := ⟨_, rfl⟩
    have hRl : R.length = ts.length := by rw [<-hR]; exact tkRows_len _ _
    rw [hR] at hx
    refine ret_by tyT_ok gz_gr mixed (fun _ => 0) Tryz.func24 rfl (by kernel_rfl) (by kernel_rfl) rfl fun P G E hc hE => ?_
    replace hx := hc _ _ _ hx
    obtain ⟨m, hm⟩ : ∃ m : Int, ((ts.length : Nat) : Int) = m := ⟨_, rfl⟩
    have l0 : E.ofN R.length = m := by rw [hE, hRl]; exact hm
    have d1 : decide (m = 1) = false := decide_eq_false (by omega)
    clear hE hc h hl hR hRl hm
    cbv at l0
    cbv
    repeat (first | (refine ⟨_, hx,?_⟩; cbv) | (simp only [l0]; cbv) | simp only [l0] | (simp only [d1]; cbv) | simp only [d1])
    all_goals trivial
end Go.Proofs.YtjefbgfohijaoaaGreatDoor
