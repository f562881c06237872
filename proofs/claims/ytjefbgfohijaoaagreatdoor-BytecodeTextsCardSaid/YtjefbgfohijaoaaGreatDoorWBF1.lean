/- Own work: bytecode.Format. -/
import Derived.Test.YtjefbgfohijaoaaGreatDoorWBF0
import Derived.Test.YtjefbgfohijaoaaGreatDoorWRefDesc
import Derived.Test.YtjefbgfohijaoaaGreatDoorWGB
namespace Go.Proofs.YtjefbgfohijaoaaGreatDoor
open Go.RowKit
set_option maxRecDepth 100000
set_option linter.unusedSimpArgs false
abbrev IZ (n : Int) : Prop := -9223372036854775808 <= n /\ n <= 9223372036854775807
def Qt (s : ByteArray) : ByteArray := bL (quo (repairL s.data.toList))
def wFunc : ByteArray := ⟨#[102, 117, 110, 99]⟩
def wConst : ByteArray := ⟨#[99, 111, 110, 115, 116]⟩
def wHandler : ByteArray := ⟨#[104, 97, 110, 100, 108, 101, 114]⟩
def headW (f : Fn) : List ByteArray := [wFunc, itoaS f.kind, itoaS f.params, itoaS f.locals, Qt f.name]
def cstW (c : Cst) : List ByteArray := [wConst, if c.kind = 2 then Qt c.str else itoaS c.int]
def insW (x : Ins) : List ByteArray := nameOf x.op :: ((if operandOf x.op = 0 then [] else [itoaS x.a]) ++ (if operandOf x.op = 4 then [itoaS x.b] else []))
def hdlW (h : Hdl) : List ByteArray := [wHandler, itoaS h.lo, itoaS h.hi, itoaS h.tg, itoaS h.dp, itoaS h.sc]
def lnW (ws : List ByteArray) : Bs := lnB (wB ws)
def tail2 (f : Fn) : Bs := f.hdls.flatMap fun h => lnW (hdlW h)
def tail1 (f : Fn) : Bs := (f.code.flatMap fun x => lnW (insW x)) ++ tail2 f
def tail0 (f : Fn) : Bs := (f.consts.flatMap fun c => lnW (cstW c)) ++ tail1 f
def fmtB (f : Fn) : Bs := lnW (headW f) ++ tail0 f
structure FmOk (f : Fn) : Prop where
 kd : IZ f.kind
 pr : IZ f.params
 lc : IZ f.locals
 nm : f.name.size <= 1000000
 ci : ∀ c ∈ f.consts, IZ c.int
 cs : ∀ c ∈ f.consts, c.str.size <= 1000000
 op : ∀ x ∈ f.code, 1 <= x.op /\ x.op <= 53
 ca : ∀ x ∈ f.code, IZ x.a /\ IZ x.b
 hd : ∀ h ∈ f.hdls, IZ h.lo /\ IZ h.hi /\ IZ h.tg /\ IZ h.dp /\ IZ h.sc
 sz : (fmtB f).length <= 90000000
 l0 : f.consts.length <= 90000000
 l1 : f.code.length <= 90000000
 l2 : f.hdls.length <= 90000000
structure FmI (F : Bs) (n : Int) (rest : Int -> Bs) (x : Int × Nat × List (List PV)) : Prop where
 i0 : 0 <= x.1
 i1 : x.1 <= n
 l : ∃ l : Bs, l ++ rest x.1 = F /\ l.length = x.2.1 /\ lR l = x.2.2
theorem desc_ret (op : Int) (h0 : 1 <= op) (h1 : op <= 53) : V0 13 [pI op] (.tup [.agg [pS (nameOf op), pI (operandOf op), pI (popsOf op), pI (pushesOf op), pB (cntOf op), pI (jmpOf op), pB (endsOf op)], pI 0]) :=
 ret_v Tryz.func13 (by kernel_rfl) (by kernel_rfl) [.int .i64 op] _ fun w _ => (desc_in op w h0 h1).mono fun e w' ⟨h1, h2⟩ => ⟨_, h1, h2, fun R => by
  refine .tup [_, _] [_, _] rfl fun j a v ha hv => ?_
  match j, ha, hv with
  | 0, ha, hv =>
   cases ha
   cases hv
   refine .agg [_, _, _, _, _, _, _] [_, _, _, _, _, _, _] rfl fun j a v ha hv => ?_
   match j, ha, hv with
   | 0, ha, hv => cases ha; cases hv; exact .v _
   | 1, ha, hv => cases ha; cases hv; exact .v _
   | 2, ha, hv => cases ha; cases hv; exact .v _
   | 3, ha, hv => cases ha; cases hv; exact .v _
   | 4, ha, hv => cases ha; cases hv; exact .v _
   | 5, ha, hv => cases ha; cases hv; exact .v _
   | 6, ha, hv => cases ha; cases hv; exact .v _
   | j + 7, ha, hv => simp at ha
  | 1, ha, hv => cases ha; cases hv; exact .v _
  | j + 2, ha, hv => simp at ha⟩
set_option maxHeartbeats 4000000 in
theorem format_ret (f : Fn) (hf : FmOk f) : RZ 8 [.agg (pFn f)] (pS (bL (fmtB f))) := by
 have hdg := fun (n : Int) (h : IZ n) => digits_ret n h
 have hfi := fun (n : Int) (h : IZ n) => fmtInt_ret n h
 have hqt := fun (s : ByteArray) (h : s.size <= 1000000) => show RZ 17 [pS s] (pS (Qt s)) from lZ (quote_ret s h)
 have hde := fun (op : Int) (h0 : 1 <= op) (h1 : op <= 53) => vZ (desc_ret op h0 h1)
 have hln := fun (A : AV) (hA : SelfA A) (ws : List ByteArray) (rows : List (List PV)) (hr : pSs ws = rows) (l L2 : Bs) (hL : l ++ lnW ws = L2) (hb : L2.length <= 90000000) (hw : ws.length <= 100) (m M : Nat) (rs RS : List (List PV)) (hm : l.length = m) (hrs : lR l = rs) (hM : L2.length = M) (hRS : lR L2 = RS) => line_m A hA ws rows hr l L2 hL hb hw m M rs RS hm hrs hM hRS
 have hst := fun (A : AV) (l : Bs) (m : Nat) (rs : List (List PV)) (hm : l.length = m) (hrs : lR l = rs) (T : ByteArray) (hT : bL l = T) (hb : l.length <= 90000000) => show MZ 19 [.own 0 0] [some (.box [A, .osl 1 0 m] 51 none), some (.rows 1 rs 5)] (.p (pS T)) [none, none] from hm ▸ hrs ▸ hT ▸ mZ (string_m A l (by omega))
 have hsz := hf.sz
 obtain ⟨FT, hFT⟩ : ∃ y, bL (fmtB f) = y := ⟨_, rfl⟩
 rw [hFT]
 have hkd := hdg f.kind hf.kd
 have hpr := hdg f.params hf.pr
 have hlc := hdg f.locals hf.lc
 have hnm := hqt f.name hf.nm
 obtain ⟨L1, hL1⟩ : ∃ y, lnW (headW f) = y := ⟨_, rfl⟩
 have hF1 : L1 ++ tail0 f = fmtB f := by rw [<-hL1]; rfl
 have hL1s : L1.length <= 90000000 := by
  have := congrArg List.length hF1
  rw [List.length_append] at this
  omega
 have hhead := hln (.p (.v (.pointer none))) (.inl rfl) (headW f) [[pS wFunc], [pS (itoaS f.kind)], [pS (itoaS f.params)], [pS (itoaS f.locals)], [pS (Qt f.name)]] rfl [] L1 hL1 hL1s (by show 5 <= 100; decide) 0 _ [] _ rfl rfl rfl rfl
 obtain ⟨M1, hM1⟩ : ∃ y, L1.length = y := ⟨_, rfl⟩
 obtain ⟨RS1, hRS1⟩ : ∃ y, lR L1 = y := ⟨_, rfl⟩
 rw [hM1, hRS1] at hhead
 obtain ⟨F, hF⟩ : ∃ y, fmtB f = y := ⟨_, rfl⟩
 rw [hF] at hF1 hsz hFT
 obtain ⟨n0, hn0⟩ : ∃ n : Int, (((pCons f.consts).length : Nat) : Int) = n := ⟨_, rfl⟩
 obtain ⟨n1, hn1⟩ : ∃ n : Int, (((pCode f.code).length : Nat) : Int) = n := ⟨_, rfl⟩
 obtain ⟨n2, hn2⟩ : ∃ n : Int, (((pHdls f.hdls).length : Nat) : Int) = n := ⟨_, rfl⟩
 have hI0 : FmI F n0 (fun i => (f.consts.drop i.toNat).flatMap (fun c => lnW (cstW c)) ++ tail1 f) (0, M1, RS1) := ⟨Int.le_refl _, by show 0 <= n0; omega, L1, hF1, hM1, hRS1⟩
 have hg0 : ∀ i : Int, 0 <= i -> i < n0 -> ∃ c, f.consts[i.toNat]? = some c /\ (pCons f.consts)[i.toNat]? = some [pI c.kind, pI c.int, pS c.str] := fun i h0 h1 => by
  have hl : i.toNat < f.consts.length := by unfold pCons at hn0; rw [List.length_map] at hn0; omega
  refine ⟨_, List.getElem?_eq_getElem hl,?_⟩
  unfold pCons
  rw [List.getElem?_map, List.getElem?_eq_getElem hl]
  rfl
 have hg1 : ∀ i : Int, 0 <= i -> i < n1 -> ∃ c, f.code[i.toNat]? = some c /\ (pCode f.code)[i.toNat]? = some [pI c.op, pI c.a, pI c.b] := fun i h0 h1 => by
  have hl : i.toNat < f.code.length := by unfold pCode at hn1; rw [List.length_map] at hn1; omega
  refine ⟨_, List.getElem?_eq_getElem hl,?_⟩
  unfold pCode
  rw [List.getElem?_map, List.getElem?_eq_getElem hl]
  rfl
 have hg2 : ∀ i : Int, 0 <= i -> i < n2 -> ∃ c, f.hdls[i.toNat]? = some c /\ (pHdls f.hdls)[i.toNat]? = some [pI c.lo, pI c.hi, pI c.tg, pI c.dp, pI c.sc] := fun i h0 h1 => by
  have hl : i.toNat < f.hdls.length := by unfold pHdls at hn2; rw [List.length_map] at hn2; omega
  refine ⟨_, List.getElem?_eq_getElem hl,?_⟩
  unfold pHdls
  rw [List.getElem?_map, List.getElem?_eq_getElem hl]
  rfl
 have he0 : (f.consts.drop n0.toNat) = [] := by
  unfold pCons at hn0
  rw [List.length_map] at hn0
  exact List.drop_of_length_le (by omega)
 have he1 : (f.code.drop n1.toNat) = [] := by
  unfold pCode at hn1
  rw [List.length_map] at hn1
  exact List.drop_of_length_le (by omega)
 have he2 : (f.hdls.drop n2.toNat) = [] := by
  unfold pHdls at hn2
  rw [List.length_map] at hn2
  exact List.drop_of_length_le (by omega)
 have hn0p : 0 <= n0 := by omega
 have hn1p : 0 <= n1 := by omega
 have hn2p : 0 <= n2 := by omega
 have hn0l : n0 <= 90000000 := by have := hf.l0; unfold pCons at hn0; rw [List.length_map] at hn0; omega
 have hn1l : n1 <= 90000000 := by have := hf.l1; unfold pCode at hn1; rw [List.length_map] at hn1; omega
 have hn2l : n2 <= 90000000 := by have := hf.l2; unfold pHdls at hn2; rw [List.length_map] at hn2; omega
 obtain ⟨μ, hμ⟩ : ∃ μ : Int × Nat × List (List PV) -> Nat, ∀ x, μ x = 2000000000 - x.1.toNat := ⟨_, fun _ => rfl⟩
 unfold pFn
 obtain ⟨CN, hCN⟩ : ∃ y, pCons f.consts = y := ⟨_, rfl⟩
 obtain ⟨CD, hCD⟩ : ∃ y, pCode f.code = y := ⟨_, rfl⟩
 obtain ⟨HD, hHD⟩ : ∃ y, pHdls f.hdls = y := ⟨_, rfl⟩
 rw [hCN] at hn0 hg0
 rw [hCD] at hn1 hg1
 rw [hHD] at hn2 hg2
 rw [hCN, hCD, hHD]
 unfold wFunc at hhead
 generalize itoaS f.kind = S1 at hkd hhead
 generalize itoaS f.params = S2 at hpr hhead
 generalize itoaS f.locals = S3 at hlc hhead
 generalize Qt f.name = S4 at hnm hhead
 generalize f.kind = kd at hkd ⊢
 generalize f.params = pr at hpr ⊢
 generalize f.locals = lc at hlc ⊢
 generalize f.name = nm at hnm ⊢
 refine ret_bym tyT_ok gz_gr mixed (fun n => match n with | 2 => 11 | 24 => 14 | _ => 0) Tryz.func8 rfl (by kernel_rfl) (by kernel_rfl) rfl fun P G E hc hM3 hE => ?_
 replace hdg := fun (n : Int) (h : IZ n) => hc _ _ _ (hdg n h)
 replace hfi := fun (n : Int) (h : IZ n) => hc _ _ _ (hfi n h)
 replace hqt := fun (s : ByteArray) (h : s.size <= 1000000) => hc _ _ _ (hqt s h)
 replace hde := fun (op : Int) (h0 : 1 <= op) (h1 : op <= 53) => hc _ _ _ (hde op h0 h1)
 replace hln := fun (A : AV) (hA : SelfA A) (ws : List ByteArray) (rows : List (List PV)) (hr : pSs ws = rows) (l L2 : Bs) (hL : l ++ lnW ws = L2) (hb : L2.length <= 90000000) (hw : ws.length <= 100) (m M : Nat) (rs RS : List (List PV)) (hm : l.length = m) (hrs : lR l = rs) (hM : L2.length = M) (hRS : lR L2 = RS) => hM3 _ _ _ _ _ (hln A hA ws rows hr l L2 hL hb hw m M rs RS hm hrs hM hRS)
 replace hst := fun (A : AV) (l : Bs) (m : Nat) (rs : List (List PV)) (hm : l.length = m) (hrs : lR l = rs) (T : ByteArray) (hT : bL l = T) (hb : l.length <= 90000000) => hM3 _ _ _ _ _ (hst A l m rs hm hrs T hT hb)
 replace hkd := hc _ _ _ hkd
 replace hpr := hc _ _ _ hpr
 replace hlc := hc _ _ _ hlc
 replace hnm := hc _ _ _ hnm
 replace hhead := hM3 _ _ _ _ _ hhead
 have l0 : E.ofN CN.length = n0 := by rw [hE]; exact hn0
 have l1 : E.ofN CD.length = n1 := by rw [hE]; exact hn1
 have l2 : E.ofN HD.length = n2 := by rw [hE]; exact hn2
 have elt := qLti hE
 have eple := qPle hE
 have enat : ∀ i, E.nat i = i.toNat := fun i => by rw [hE]; rfl
 have eadd := qAdd hE
 have eroom : ∀ m : Nat, m <= 2000000 -> E.room m 1 16 := fun m h => by rw [hE]; exact ⟨by unfold maxLen; omega, by omega⟩
 have eaddN : ∀ m k : Nat, E.addN m k = m + k := fun m k => by rw [hE]; rfl
 have eapp : ∀ (rs : List (List PV)) (m : Nat) P, m = rs.length -> E.app rs m P = rs ++ P := fun rs m P h => by rw [hE]; show rs.take m ++ P = _; rw [h, List.take_length]
 have epre : ∀ (m : Nat) (rs : List (List PV)), m <= rs.length -> E.pre 0 m rs := fun m rs h => by rw [hE]; show 0 + m <= rs.length; omega
 have esub : ∀ (rs : List (List PV)) (m : Nat), m = rs.length -> E.sub rs 0 m = rs := fun rs m h => by rw [hE]; show (rs.drop 0).take m = rs; rw [List.drop_zero, h, List.take_length]
 clear hE hc hM3
 cbv at l0 l1 l2
 cbv
 repeat (first | (refine ⟨_, hkd,?_⟩; cbv) | (refine ⟨_, hpr,?_⟩; cbv) | (refine ⟨_, hlc,?_⟩; cbv) | (refine ⟨_, hnm,?_⟩; cbv))
 refine .mk _ _ (Wk.trans (wk_frzSE (d := 25) (l := 2) (n := 5) rfl rfl (Nat.le_refl 5) rfl) (wk_nil (k := 1) (j := 1) 1 5 rfl rfl)) [1, 3] _ _ _ _ hhead rfl rfl rfl ?_
 clear hkd hpr hlc hnm hhead
 cbv
 repeat (first | (simp only [l0]; cbv) | simp only [l0])
 refine loop_by 111 [1, 3, 28, 29, 30] 4 (fun x : Int × Nat × List (List PV) => [.own 0 0, .own 1 0, .p (.ro 3 CN), .p (pI n0), .p (pI x.1)]) (fun x => [some (.box [.p (pS nm), .p (pI kd), .p (pI pr), .p (pI lc), .p (.ro 3 CD), .p (.ro 3 CN), .p (.ro 5 HD)] 33 none), some (.box [.own 1 0, .osl 3 0 x.2.1] 51 none), none, some (.rows 1 x.2.2 5)]) (FmI F n0 (fun i => (f.consts.drop i.toNat).flatMap (fun c => lnW (cstW c)) ++ tail1 f)) μ (0, M1, RS1) ⟨rfl, rfl, rfl, rfl, rfl⟩ hI0 ?_
 clear hI0
 rintro ⟨i, m, rs⟩ ⟨i0, i1, l, hl, hlm, hlr⟩
 simp only at i0 i1 hl hlm hlr
 have hlF := congrArg List.length hl
 simp only [List.length_append] at hlF
 replace hsz : F.length <= 90000000 := hsz
 rcases Classical.em (i < n0) with hlt | hlt
 ·have d1 : E.lti i n0 = true := by rw [elt]; exact decide_eq_true hlt
  obtain ⟨c, hci, g1⟩ := hg0 i i0 hlt
  rw [<-enat] at g1
  have hcm := List.mem_of_getElem? hci
  have p1 := eple 0 i i0
  obtain ⟨i2, hi2⟩ : ∃ y : Int, i + 1 = y := ⟨_, rfl⟩
  have ei := eadd i 1 (by omega) (by omega) (by omega) (by omega)
  rw [hi2] at ei
  have hdrop : f.consts.drop i.toNat = c :: f.consts.drop i2.toNat := by
   rw [show i2.toNat = i.toNat + 1 by omega, List.drop_eq_getElem_cons (List.getElem?_eq_some_iff.1 hci).1, (List.getElem?_eq_some_iff.1 hci).2]
  obtain ⟨L2, hL2⟩ : ∃ y, l ++ lnW (cstW c) = y := ⟨_, rfl⟩
  have hl2 : L2 ++ ((f.consts.drop i2.toNat).flatMap (fun c => lnW (cstW c)) ++ tail1 f) = F := by
   rw [hdrop, List.flatMap_cons] at hl
   rw [<-hL2, <- hl]
   simp
  have hL2s : L2.length <= 90000000 := by
   have := congrArg List.length hl2
   simp only [List.length_append] at this
   omega
  obtain ⟨M, hM⟩ : ∃ y, L2.length = y := ⟨_, rfl⟩
  obtain ⟨RS, hRS⟩ : ∃ y, lR L2 = y := ⟨_, rfl⟩
  have hI2 : FmI F n0 (fun i => (f.consts.drop i.toNat).flatMap (fun c => lnW (cstW c)) ++ tail1 f) (i2, M, RS) := ⟨by show 0 <= i2; omega, by show i2 <= n0; omega, L2, hl2, hM, hRS⟩
  have hM2 : μ (i2, M, RS) < μ (i, m, rs) := by
   rw [hμ, hμ]
   show 2000000000 - i2.toNat < 2000000000 - i.toNat
   omega
  have hlines := fun rows hr => hln (.own 0 0) (.inr rfl) (cstW c) rows hr l L2 hL2 hL2s (by show 2 <= 100; decide) m M rs RS hlm hlr hM hRS
  unfold cstW wConst at hlines
  have hck := hf.ci c hcm
  have hcs := hf.cs c hcm
  have hqc := hqt c.str hcs
  have hfc := hfi c.int hck
  by_cases hk : c.kind = 2
  ·have f1 : decide (c.kind = 2) = true := decide_eq_true hk
   rw [if_pos hk] at hlines
   have hli := hlines _ rfl
   unfold pSs at hli
   simp only [List.map_cons, List.map_nil] at hli
   obtain ⟨k, z, s⟩ := c
   simp only at g1 f1 hqc hli
   generalize Qt s = Q at hqc hli
   clear hdg hfi hqt hde hln hst elt eple enat eadd esub eapp eaddN epre eroom hg0 hg1 hg2 hlines hck hcs hfc hdrop hl2 hL2 hM hRS hL2s hlF hl hlm hlr hci hcm hi2 hμ hk hlt
   cbv
   repeat (first | (simp only [d1]; cbv) | simp only [d1] | (refine ⟨p1,_,g1,?_⟩; cbv) | (simp only [f1]; cbv) | simp only [f1] | (refine ⟨_, hqc,?_⟩; cbv))
   refine .mk _ _ (wk_frzSE (d := 40) (l := 5) (n := 2) rfl rfl (Nat.le_refl 2) rfl) [1, 3] _ _ _ _ hli rfl rfl rfl ?_
   cbv
   repeat (first | (simp only [ei]; cbv) | simp only [ei])
   refine .mk (i2, M, RS) ⟨rfl, rfl, rfl, rfl, rfl⟩ ?_ ?_
   ·exact hI2
   ·exact hM2
  ·have f1 : decide (c.kind = 2) = false := decide_eq_false hk
   rw [if_neg hk] at hlines
   have hli := hlines _ rfl
   unfold pSs at hli
   simp only [List.map_cons, List.map_nil] at hli
   obtain ⟨k, z, s⟩ := c
   simp only at g1 f1 hfc hli
   generalize itoaS z = Q at hfc hli
   clear hdg hfi hqt hde hln hst elt eple enat eadd esub eapp eaddN epre eroom hg0 hg1 hg2 hlines hck hcs hqc hdrop hl2 hL2 hM hRS hL2s hlF hl hlm hlr hci hcm hi2 hμ hk hlt
   cbv
   repeat (first | (simp only [d1]; cbv) | simp only [d1] | (refine ⟨p1,_,g1,?_⟩; cbv) | (simp only [f1]; cbv) | simp only [f1] | (refine ⟨_, hfc,?_⟩; cbv))
   refine .mk _ _ (wk_frzSE (d := 45) (l := 5) (n := 2) rfl rfl (Nat.le_refl 2) rfl) [1, 3] _ _ _ _ hli rfl rfl rfl ?_
   cbv
   repeat (first | (simp only [ei]; cbv) | simp only [ei])
   refine .mk (i2, M, RS) ⟨rfl, rfl, rfl, rfl, rfl⟩ ?_ ?_
   ·exact hI2
   ·exact hM2
 ·have d1 : E.lti i n0 = false := by rw [elt]; exact decide_eq_false hlt
  have hin : i = n0 := by omega
  subst hin
  rw [he0, List.flatMap_nil, List.nil_append] at hl
  have hJ0 : FmI F n1 (fun i => (f.code.drop i.toNat).flatMap (fun x => lnW (insW x)) ++ tail2 f) (0, m, rs) := ⟨Int.le_refl _, hn1p, l, hl, hlm, hlr⟩
  clear hlF hl hlm hlr l hg0 he0 hqt hfi hlt
  cbv
  repeat (first | (simp only [d1]; cbv) | simp only [d1] | (simp only [l1]; cbv) | simp only [l1])
  refine loop_by 111 [1, 3, 49, 50, 51] 4 (fun x : Int × Nat × List (List PV) => [.own 0 0, .own 1 0, .p (.ro 3 CD), .p (pI n1), .p (pI x.1)]) (fun x => [some (.box [.p (pS nm), .p (pI kd), .p (pI pr), .p (pI lc), .p (.ro 3 CD), .p (.ro 3 CN), .p (.ro 5 HD)] 33 none), some (.box [.own 1 0, .osl 3 0 x.2.1] 51 none), none, some (.rows 1 x.2.2 5)]) (FmI F n1 (fun i => (f.code.drop i.toNat).flatMap (fun c => lnW (insW c)) ++ tail2 f)) μ (0, m, rs) ⟨rfl, rfl, rfl, rfl, rfl⟩ hJ0 ?_
  clear hJ0 d1 l1 i0 i1 l0
  rintro ⟨i, m, rs⟩ ⟨i0, i1, l, hl, hlm, hlr⟩
  simp only at i0 i1 hl hlm hlr
  have hlF := congrArg List.length hl
  simp only [List.length_append] at hlF
  replace hsz : F.length <= 90000000 := hsz
  rcases Classical.em (i < n1) with hlt | hlt
  ·have d1 : E.lti i n1 = true := by rw [elt]; exact decide_eq_true hlt
   obtain ⟨c, hci, g1⟩ := hg1 i i0 hlt
   rw [<-enat] at g1
   have hcm := List.mem_of_getElem? hci
   have p1 := eple 0 i i0
   obtain ⟨i2, hi2⟩ : ∃ y : Int, i + 1 = y := ⟨_, rfl⟩
   have ei := eadd i 1 (by omega) (by omega) (by omega) (by omega)
   rw [hi2] at ei
   have hdrop : f.code.drop i.toNat = c :: f.code.drop i2.toNat := by
    rw [show i2.toNat = i.toNat + 1 by omega, List.drop_eq_getElem_cons (List.getElem?_eq_some_iff.1 hci).1, (List.getElem?_eq_some_iff.1 hci).2]
   obtain ⟨L2, hL2⟩ : ∃ y, l ++ lnW (insW c) = y := ⟨_, rfl⟩
   have hl2 : L2 ++ ((f.code.drop i2.toNat).flatMap (fun c => lnW (insW c)) ++ tail2 f) = F := by
    rw [hdrop, List.flatMap_cons] at hl
    rw [<-hL2, <- hl]
    simp
   have hL2s : L2.length <= 90000000 := by
    have := congrArg List.length hl2
    simp only [List.length_append] at this
    omega
   obtain ⟨M, hM⟩ : ∃ y, L2.length = y := ⟨_, rfl⟩
   obtain ⟨RS, hRS⟩ : ∃ y, lR L2 = y := ⟨_, rfl⟩
   have hI2 : FmI F n1 (fun i => (f.code.drop i.toNat).flatMap (fun c => lnW (insW c)) ++ tail2 f) (i2, M, RS) := ⟨by show 0 <= i2; omega, by show i2 <= n1; omega, L2, hl2, hM, hRS⟩
   have hM2 : μ (i2, M, RS) < μ (i, m, rs) := by
    rw [hμ, hμ]
    show 2000000000 - i2.toNat < 2000000000 - i.toNat
    omega
   have hlines := fun rows hr => hln (.own 0 0) (.inr rfl) (insW c) rows hr l L2 hL2 hL2s (by unfold insW; split <;> split <;> simp) m M rs RS hlm hlr hM hRS
   have hco := hf.op c hcm
   have hca := hf.ca c hcm
   have hds := hde c.op hco.1 hco.2
   have hda := hdg c.a hca.1
   have hdb := hdg c.b hca.2
   unfold insW at hlines
   obtain ⟨op, a, b⟩ := c
   simp only at g1 hds hda hdb hlines
   generalize nameOf op = N at hds hlines
   generalize operandOf op = od at hds hlines
   generalize popsOf op = po at hds
   generalize pushesOf op = pu at hds
   generalize cntOf op = cn at hds
   generalize jmpOf op = jm at hds
   generalize endsOf op = en at hds
   generalize itoaS a = SA at hda hlines
   generalize itoaS b = SB at hdb hlines
   have q1 : E.sub [[pS SA]] 0 1 = [[pS SA]] := esub _ 1 rfl
   have q2 : E.app [[pS N]] 1 [[pS SA]] = [[pS N], [pS SA]] := eapp _ 1 _ rfl
   have q3 : E.addN 1 1 = 2 := eaddN 1 1
   have q4 : E.sub [[pS SB]] 0 1 = [[pS SB]] := esub _ 1 rfl
   have q5 : E.app [[pS N], [pS SA]] 2 [[pS SB]] = [[pS N], [pS SA], [pS SB]] := eapp _ 2 _ rfl
   have q6 : E.addN 2 1 = 3 := eaddN 2 1
   have k1 := epre 1 [[pS SA]] (Nat.le_refl 1)
   have k2 := epre 1 [[pS N]] (Nat.le_refl 1)
   have k3 := eroom 1 (by decide)
   have k4 := epre 1 [[pS SB]] (Nat.le_refl 1)
   have k5 := epre 2 [[pS N], [pS SA]] (Nat.le_refl 2)
   have k6 := eroom 2 (by decide)
   by_cases ho0 : od = 0
   ·have f1 : decide (od = 0) = true := decide_eq_true ho0
    have f2 : decide (od = 4) = false := decide_eq_false (by omega)
    rw [if_pos ho0, if_neg (show ¬ od = 4 by omega)] at hlines
    have hli := hlines _ rfl
    unfold pSs at hli
    simp only [List.map_cons, List.map_nil, List.append_nil, List.nil_append] at hli
    clear hdg hde hln hst elt eple enat eadd esub eapp eaddN epre eroom hg1 hg2 hlines hco hca hdrop hl2 hL2 hM hRS hL2s hlF hl hlm hlr hci hcm hi2 hμ hlt
    cbv
    repeat (first | (simp only [d1]; cbv) | simp only [d1] | (refine ⟨p1,_,g1,?_⟩; cbv) | (refine ⟨_, hds,?_⟩; cbv) | (simp only [f1]; cbv) | simp only [f1] | (simp only [f2]; cbv) | simp only [f2])
    refine .mk _ _ (wk_frzSE (d := 82) (l := 6) (n := 1) rfl rfl (Nat.le_refl 1) rfl) [1, 3] _ _ _ _ hli rfl rfl rfl ?_
    cbv
    repeat (first | (simp only [ei]; cbv) | simp only [ei])
    refine .mk (i2, M, RS) ⟨rfl, rfl, rfl, rfl, rfl⟩ ?_ ?_
    ·exact hI2
    ·exact hM2
   ·have f1 : decide (od = 0) = false := decide_eq_false ho0
    rw [if_neg ho0] at hlines
    by_cases ho4 : od = 4
    ·have f2 : decide (od = 4) = true := decide_eq_true ho4
     rw [if_pos ho4] at hlines
     have hli := hlines _ rfl
     unfold pSs at hli
     simp only [List.map_cons, List.map_nil, List.append_nil, List.nil_append, List.cons_append] at hli
     clear hdg hde hln hst elt eple enat eadd esub eapp eaddN epre eroom hg1 hg2 hlines hco hca hdrop hl2 hL2 hM hRS hL2s hlF hl hlm hlr hci hcm hi2 hμ hlt
     cbv
     repeat (first | (simp only [d1]; cbv) | simp only [d1] | (refine ⟨p1,_,g1,?_⟩; cbv) | (refine ⟨_, hds,?_⟩; cbv) | (simp only [f1]; cbv) | simp only [f1] | (refine ⟨_, hda,?_⟩; cbv) | (refine ⟨k1,k2,k3,?_⟩; cbv) | (simp only [q1,q2,q3]; cbv) | simp only [q1,q2,q3] | (simp only [f2]; cbv) | simp only [f2] | (refine ⟨_, hdb,?_⟩; cbv) | (refine ⟨k4,k5,k6,?_⟩; cbv) | (simp only [q4,q5,q6]; cbv) | simp only [q4,q5,q6])
     refine .mk _ _ (wk_frzSE (d := 82) (l := 6) (n := 3) rfl rfl (Nat.le_refl 3) rfl) [1, 3] _ _ _ _ hli rfl rfl rfl ?_
     cbv
     repeat (first | (simp only [ei]; cbv) | simp only [ei])
     refine .mk (i2, M, RS) ⟨rfl, rfl, rfl, rfl, rfl⟩ ?_ ?_
     ·exact hI2
     ·exact hM2
    ·have f2 : decide (od = 4) = false := decide_eq_false ho4
     rw [if_neg ho4] at hlines
     have hli := hlines _ rfl
     unfold pSs at hli
     simp only [List.map_cons, List.map_nil, List.append_nil, List.nil_append, List.cons_append] at hli
     clear hdg hde hln hst elt eple enat eadd esub eapp eaddN epre eroom hg1 hg2 hlines hco hca hdrop hl2 hL2 hM hRS hL2s hlF hl hlm hlr hci hcm hi2 hμ hlt
     cbv
     repeat (first | (simp only [d1]; cbv) | simp only [d1] | (refine ⟨p1,_,g1,?_⟩; cbv) | (refine ⟨_, hds,?_⟩; cbv) | (simp only [f1]; cbv) | simp only [f1] | (refine ⟨_, hda,?_⟩; cbv) | (refine ⟨k1,k2,k3,?_⟩; cbv) | (simp only [q1,q2,q3]; cbv) | simp only [q1,q2,q3] | (simp only [f2]; cbv) | simp only [f2])
     refine .mk _ _ (wk_frzSE (d := 82) (l := 6) (n := 2) rfl rfl (Nat.le_refl 2) rfl) [1, 3] _ _ _ _ hli rfl rfl rfl ?_
     cbv
     repeat (first | (simp only [ei]; cbv) | simp only [ei])
     refine .mk (i2, M, RS) ⟨rfl, rfl, rfl, rfl, rfl⟩ ?_ ?_
     ·exact hI2
     ·exact hM2
  ·have d1 : E.lti i n1 = false := by rw [elt]; exact decide_eq_false hlt
   have hin : i = n1 := by omega
   subst hin
   rw [he1, List.flatMap_nil, List.nil_append] at hl
   have hK0 : FmI F n2 (fun i => (f.hdls.drop i.toNat).flatMap (fun c => lnW (hdlW c)) ++ []) (0, m, rs) := ⟨Int.le_refl _, hn2p, l, by rw [List.append_nil]; exact hl, hlm, hlr⟩
   clear hlF hl hlm hlr l hg1 he1 hde hlt
   cbv
   repeat (first | (simp only [d1]; cbv) | simp only [d1] | (simp only [l2]; cbv) | simp only [l2])
   refine loop_by 111 [1, 3, 86, 87, 88] 4 (fun x : Int × Nat × List (List PV) => [.own 0 0, .own 1 0, .p (.ro 5 HD), .p (pI n2), .p (pI x.1)]) (fun x => [some (.box [.p (pS nm), .p (pI kd), .p (pI pr), .p (pI lc), .p (.ro 3 CD), .p (.ro 3 CN), .p (.ro 5 HD)] 33 none), some (.box [.own 1 0, .osl 3 0 x.2.1] 51 none), none, some (.rows 1 x.2.2 5)]) (FmI F n2 (fun i => (f.hdls.drop i.toNat).flatMap (fun c => lnW (hdlW c)) ++ [])) μ (0, m, rs) ⟨rfl, rfl, rfl, rfl, rfl⟩ hK0 ?_
   clear hK0 d1 l2 i0 i1
   rintro ⟨i, m, rs⟩ ⟨i0, i1, l, hl, hlm, hlr⟩
   simp only at i0 i1 hl hlm hlr
   have hlF := congrArg List.length hl
   simp only [List.length_append] at hlF
   replace hsz : F.length <= 90000000 := hsz
   rcases Classical.em (i < n2) with hlt | hlt
   ·have d1 : E.lti i n2 = true := by rw [elt]; exact decide_eq_true hlt
    obtain ⟨c, hci, g1⟩ := hg2 i i0 hlt
    rw [<-enat] at g1
    have hcm := List.mem_of_getElem? hci
    have p1 := eple 0 i i0
    obtain ⟨i2, hi2⟩ : ∃ y : Int, i + 1 = y := ⟨_, rfl⟩
    have ei := eadd i 1 (by omega) (by omega) (by omega) (by omega)
    rw [hi2] at ei
    have hdrop : f.hdls.drop i.toNat = c :: f.hdls.drop i2.toNat := by
     rw [show i2.toNat = i.toNat + 1 by omega, List.drop_eq_getElem_cons (List.getElem?_eq_some_iff.1 hci).1, (List.getElem?_eq_some_iff.1 hci).2]
    obtain ⟨L2, hL2⟩ : ∃ y, l ++ lnW (hdlW c) = y := ⟨_, rfl⟩
    have hl2 : L2 ++ ((f.hdls.drop i2.toNat).flatMap (fun c => lnW (hdlW c)) ++ []) = F := by
     rw [hdrop, List.flatMap_cons] at hl
     rw [<-hL2, <- hl]
     simp
    have hL2s : L2.length <= 90000000 := by
     have := congrArg List.length hl2
     simp only [List.length_append] at this
     omega
    obtain ⟨M, hM⟩ : ∃ y, L2.length = y := ⟨_, rfl⟩
    obtain ⟨RS, hRS⟩ : ∃ y, lR L2 = y := ⟨_, rfl⟩
    have hI2 : FmI F n2 (fun i => (f.hdls.drop i.toNat).flatMap (fun c => lnW (hdlW c)) ++ []) (i2, M, RS) := ⟨by show 0 <= i2; omega, by show i2 <= n2; omega, L2, hl2, hM, hRS⟩
    have hM2 : μ (i2, M, RS) < μ (i, m, rs) := by
     rw [hμ, hμ]
     show 2000000000 - i2.toNat < 2000000000 - i.toNat
     omega
    have hli := hln (.own 0 0) (.inr rfl) (hdlW c) _ rfl l L2 hL2 hL2s (by show 6 <= 100; decide) m M rs RS hlm hlr hM hRS
    have hch := hf.hd c hcm
    have h1 := hdg c.lo hch.1
    have h2 := hdg c.hi hch.2.1
    have h3 := hdg c.tg hch.2.2.1
    have h4 := hdg c.dp hch.2.2.2.1
    have h5 := hdg c.sc hch.2.2.2.2
    unfold hdlW wHandler pSs at hli
    simp only [List.map_cons, List.map_nil] at hli
    obtain ⟨lo, hi, tg, dp, sc⟩ := c
    simp only at g1 h1 h2 h3 h4 h5 hli
    generalize itoaS lo = T1 at h1 hli
    generalize itoaS hi = T2 at h2 hli
    generalize itoaS tg = T3 at h3 hli
    generalize itoaS dp = T4 at h4 hli
    generalize itoaS sc = T5 at h5 hli
    clear hdg hln hst elt eple enat eadd esub eapp eaddN epre eroom hg2 hch hdrop hl2 hL2 hM hRS hL2s hlF hl hlm hlr hci hcm hi2 hμ hlt
    cbv
    repeat (first | (simp only [d1]; cbv) | simp only [d1] | (refine ⟨p1,_,g1,?_⟩; cbv) | (refine ⟨_, h1,?_⟩; cbv) | (refine ⟨_, h2,?_⟩; cbv) | (refine ⟨_, h3,?_⟩; cbv) | (refine ⟨_, h4,?_⟩; cbv) | (refine ⟨_, h5,?_⟩; cbv))
    refine .mk _ _ (wk_frzSE (d := 107) (l := 5) (n := 6) rfl rfl (Nat.le_refl 6) rfl) [1, 3] _ _ _ _ hli rfl rfl rfl ?_
    cbv
    repeat (first | (simp only [ei]; cbv) | simp only [ei])
    refine .mk (i2, M, RS) ⟨rfl, rfl, rfl, rfl, rfl⟩ ?_ ?_
    ·exact hI2
    ·exact hM2
   ·have d1 : E.lti i n2 = false := by rw [elt]; exact decide_eq_false hlt
    have hin : i = n2 := by omega
    subst hin
    rw [he2, List.flatMap_nil, List.append_nil, List.append_nil] at hl
    have hs := hst (.own 0 0) l m rs hlm hlr FT (by rw [hl]; exact hFT) (by omega)
    clear hdg hln hst elt eple enat eadd esub eapp eaddN epre eroom hg2 he2 hlF hl hlm hlr hμ hlt
    cbv
    repeat (first | (simp only [d1]; cbv) | simp only [d1])
    refine .mk _ _ (Wk.refl _ _) [1, 3] _ _ _ _ hs rfl rfl rfl ?_
    cbv
    all_goals trivial
end Go.Proofs.YtjefbgfohijaoaaGreatDoor
