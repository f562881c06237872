/- Own work: package knapsackref27: Format. -/
import Derived.Test.YtjefbgfohijaoaaGreatDoorWBF2
namespace Go.Proofs.YtjefbgfohijaoaaGreatDoor
open Go.RowKit
set_option maxRecDepth 100000
set_option linter.unusedSimpArgs false
theorem rdes_ret (op : Int) (h0 : 1 <= op) (h1 : op <= 53) : V0 32 [pI op] (.agg [pS (nameOf op), pI (operandOf op), pI (popsOf op), pI (pushesOf op), pB (cntOf op), pI (jmpOf op), pB (endsOf op)]) :=
 ret_v Tryz.func32 (by kernel_rfl) (by kernel_rfl) [.int .i64 op] _ fun w _ => (rdesc_in op w h0 h1).mono fun e w' ⟨h1, h2⟩ => ⟨_, h1, h2, fun R => by
  refine .agg [_, _, _, _, _, _, _] [_, _, _, _, _, _, _] rfl fun j a v ha hv => ?_
  match j, ha, hv with
  | 0, ha, hv => cases ha; cases hv; exact .v _
  | 1, ha, hv => cases ha; cases hv; exact .v _
  | 2, ha, hv => cases ha; cases hv; exact .v _
  | 3, ha, hv => cases ha; cases hv; exact .v _
  | 4, ha, hv => cases ha; cases hv; exact .v _
  | 5, ha, hv => cases ha; cases hv; exact .v _
  | 6, ha, hv => cases ha; cases hv; exact .v _
  | j + 7, ha, hv => simp at ha⟩
structure RfI (F : Bs) (n : Int) (rest : Int -> Bs) (x : Int × ByteArray) : Prop where
 i0 : 0 <= x.1
 i1 : x.1 <= n
 l : x.2.data.toList ++ rest x.1 = F
theorem ba_add (a b : ByteArray) : (a ++ b).data.toList = a.data.toList ++ b.data.toList := by rw [ByteArray.data_append, Array.toList_append]
theorem bL_dat (l : Bs) : (bL l).data.toList = l := by unfold bL; simp
theorem bL_sz (l : Bs) : (bL l).size = l.length := rfl
theorem sz_dat (s : ByteArray) : s.data.toList.length = s.size := rfl
theorem name_sz (op : Int) : (nameOf op).size <= 1000 := by
 show (nameBytes.getD op.toNat []).length <= 1000
 by_cases h : op.toNat < 60
 ·have key := List.all_eq_true.1 (show ((List.range 60).all fun n => decide ((nameBytes.getD n []).length <= 1000)) = true by decide +kernel) op.toNat (List.mem_range.2 h)
  exact of_decide_eq_true key
 ·have hl : nameBytes.length <= 60 := by decide +kernel
  rw [List.getD_eq_getElem?_getD, List.getElem?_eq_none (by omega)]
  decide
set_option maxHeartbeats 4000000 in
theorem rformat_ret (f : Fn) (hf : FmOk f) (hkd : ∀ c ∈ f.consts, c.kind = 1 \/ c.kind = 2) : RZ 10 [.agg (pFn f)] (pS (bL (fmtB f))) := by
 have hdg := fun (n : Int) (h : IZ n) => rdigits_ret n h
 have hqt := fun (s : ByteArray) (h : s.size <= 1000000) => show RZ 31 [pS s] (pS (Qt s)) from vZ (rquote_ret s h)
 have hde := fun (op : Int) (h0 : 1 <= op) (h1 : op <= 53) => vZ (rdes_ret op h0 h1)
 have hln := fun (s : ByteArray) (ns : List Int) (hs : s.size <= 1000000) (hn9 : ns.length <= 100) (hz : ∀ x ∈ ns, IZ x) => rline_ret s ns hs hn9 hz
 have hl0 := fun (s : ByteArray) (hs : s.size <= 1000000) => rline_nil s hs
 have hsz := hf.sz
 obtain ⟨F, hF⟩ : ∃ y, fmtB f = y := ⟨_, rfl⟩
 rw [hF] at hsz
 obtain ⟨FT, hFT⟩ : ∃ y, bL (fmtB f) = y := ⟨_, rfl⟩
 rw [hFT]
 rw [hF] at hFT
 have hfin : ∀ o : ByteArray, o.data.toList = F -> o = FT := fun o h => by rw [<-hFT, <- h]; rfl
 have hkd1 := hdg f.kind hf.kd
 have hpr := hdg f.params hf.pr
 have hlc := hdg f.locals hf.lc
 have hnm := hqt f.name hf.nm
 obtain ⟨n0, hn0⟩ : ∃ n : Int, (((pCons f.consts).length : Nat) : Int) = n := ⟨_, rfl⟩
 obtain ⟨n1, hn1⟩ : ∃ n : Int, (((pCode f.code).length : Nat) : Int) = n := ⟨_, rfl⟩
 obtain ⟨n2, hn2⟩ : ∃ n : Int, (((pHdls f.hdls).length : Nat) : Int) = n := ⟨_, rfl⟩
 have hg0 : ∀ i : Int, 0 <= i -> i < n0 -> ∃ c, f.consts[i.toNat]? = some c /\ (pCons f.consts)[i.toNat]? = some [pI c.kind, pI c.int, pS c.str] := fun i h0 h1 => by
  have hl : i.toNat < f.consts.length := by unfold pCons at hn0; rw [List.length_map] at hn0; omega
  refine ⟨_, List.getElem?_eq_getElem hl,?_⟩
  unfold pCons
  rw [List.getElem?_map, List.getElem?_eq_getElem hl]
  rfl
 have hg1 : ∀ i : Int, 0 <= i -> i < n1 -> ∃ c, f.code[i.toNat]? = some c /\ (pCode f.code)[i.toNat]? = some [pI c.op, pI c.a, pI c.b] := fun i h0 h1 => by
  have hl : i.toNat < f.code.length := by unfold pCode at hn1; rw [List.length_map] at hn1; omega
  refine ⟨_, List.getElem?_eq_getElem hl,?_⟩
  unfold pCode
  rw [List.getElem?_map, List.getElem?_eq_getElem hl]
  rfl
 have hg2 : ∀ i : Int, 0 <= i -> i < n2 -> ∃ c, f.hdls[i.toNat]? = some c /\ (pHdls f.hdls)[i.toNat]? = some [pI c.lo, pI c.hi, pI c.tg, pI c.dp, pI c.sc] := fun i h0 h1 => by
  have hl : i.toNat < f.hdls.length := by unfold pHdls at hn2; rw [List.length_map] at hn2; omega
  refine ⟨_, List.getElem?_eq_getElem hl,?_⟩
  unfold pHdls
  rw [List.getElem?_map, List.getElem?_eq_getElem hl]
  rfl
 have he0 : (f.consts.drop n0.toNat) = [] := by
  unfold pCons at hn0
  rw [List.length_map] at hn0
  exact List.drop_of_length_le (by omega)
 have he1 : (f.code.drop n1.toNat) = [] := by
  unfold pCode at hn1
  rw [List.length_map] at hn1
  exact List.drop_of_length_le (by omega)
 have he2 : (f.hdls.drop n2.toNat) = [] := by
  unfold pHdls at hn2
  rw [List.length_map] at hn2
  exact List.drop_of_length_le (by omega)
 have hn0p : 0 <= n0 := by omega
 have hn1p : 0 <= n1 := by omega
 have hn2p : 0 <= n2 := by omega
 have hn0l : n0 <= 90000000 := by have := hf.l0; unfold pCons at hn0; rw [List.length_map] at hn0; omega
 have hn1l : n1 <= 90000000 := by have := hf.l1; unfold pCode at hn1; rw [List.length_map] at hn1; omega
 have hn2l : n2 <= 90000000 := by have := hf.l2; unfold pHdls at hn2; rw [List.length_map] at hn2; omega
 obtain ⟨μ, hμ⟩ : ∃ μ : Int × ByteArray -> Nat, ∀ x, μ x = 2000000000 - x.1.toNat := ⟨_, fun _ => rfl⟩
 unfold pFn
 obtain ⟨CN, hCN⟩ : ∃ y, pCons f.consts = y := ⟨_, rfl⟩
 obtain ⟨CD, hCD⟩ : ∃ y, pCode f.code = y := ⟨_, rfl⟩
 obtain ⟨HD, hHD⟩ : ∃ y, pHdls f.hdls = y := ⟨_, rfl⟩
 rw [hCN] at hn0 hg0
 rw [hCD] at hn1 hg1
 rw [hHD] at hn2 hg2
 rw [hCN, hCD, hHD]
 generalize hS1 : itoaS f.kind = S1 at hkd1
 generalize hS2 : itoaS f.params = S2 at hpr
 generalize hS3 : itoaS f.locals = S3 at hlc
 generalize hS4 : Qt f.name = S4 at hnm
 obtain ⟨A1, hA1⟩ : ∃ y, (⟨#[102, 117, 110, 99, 32]⟩ : ByteArray) ++ S1 = y := ⟨_, rfl⟩
 obtain ⟨A2, hA2⟩ : ∃ y, A1 ++ (⟨#[32]⟩ : ByteArray) = y := ⟨_, rfl⟩
 obtain ⟨A3, hA3⟩ : ∃ y, A2 ++ S2 = y := ⟨_, rfl⟩
 obtain ⟨A4, hA4⟩ : ∃ y, A3 ++ (⟨#[32]⟩ : ByteArray) = y := ⟨_, rfl⟩
 obtain ⟨A5, hA5⟩ : ∃ y, A4 ++ S3 = y := ⟨_, rfl⟩
 obtain ⟨A6, hA6⟩ : ∃ y, A5 ++ (⟨#[32]⟩ : ByteArray) = y := ⟨_, rfl⟩
 obtain ⟨A7, hA7⟩ : ∃ y, A6 ++ S4 = y := ⟨_, rfl⟩
 obtain ⟨A8, hA8⟩ : ∃ y, A7 ++ (⟨#[10]⟩ : ByteArray) = y := ⟨_, rfl⟩
 have hA8d : A8.data.toList = lnW (headW f) := by
  rw [<-hA8, <- hA7, <- hA6, <- hA5, <- hA4, <- hA3, <- hA2, <- hA1, <- hS1, <- hS2, <- hS3, <- hS4]
  simp only [ba_add]
  unfold lnW lnB wB headW wFunc
  simp [joinB]
 have hI0 : RfI F n0 (fun i => (f.consts.drop i.toNat).flatMap (fun c => lnW (cstW c)) ++ tail1 f) (0, A8) := ⟨Int.le_refl _, hn0p, by rw [<-hF]; show A8.data.toList ++ _ = lnW (headW f) ++ tail0 f; rw [hA8d]; rfl⟩
 have hs8 : A8.size <= 90000000 := by
  have := congrArg List.length hI0.l
  simp only [List.length_append] at this
  have e := sz_dat A8
  omega
 have hz1 : A1.size = 5 + S1.size := by rw [<-hA1]; exact ByteArray.size_append
 have hz2 : A2.size = A1.size + 1 := by rw [<-hA2]; exact ByteArray.size_append
 have hz3 : A3.size = A2.size + S2.size := by rw [<-hA3]; exact ByteArray.size_append
 have hz4 : A4.size = A3.size + 1 := by rw [<-hA4]; exact ByteArray.size_append
 have hz5 : A5.size = A4.size + S3.size := by rw [<-hA5]; exact ByteArray.size_append
 have hz6 : A6.size = A5.size + 1 := by rw [<-hA6]; exact ByteArray.size_append
 have hz7 : A7.size = A6.size + S4.size := by rw [<-hA7]; exact ByteArray.size_append
 have hz8 : A8.size = A7.size + 1 := by rw [<-hA8]; exact ByteArray.size_append
 clear hS1 hS2 hS3 hS4 hA8d
 generalize f.kind = kd at hkd1 ⊢
 generalize f.params = pr at hpr ⊢
 generalize f.locals = lc at hlc ⊢
 generalize f.name = nm at hnm ⊢
 refine ret_by tyT_ok gz_gr mixed (fun n => match n with | 1 => 18 | _ => 0) Tryz.func10 rfl (by kernel_rfl) (by kernel_rfl) rfl fun P G E hc hE => ?_
 replace hdg := fun (n : Int) (h : IZ n) => hc _ _ _ (hdg n h)
 replace hqt := fun (s : ByteArray) (h : s.size <= 1000000) => hc _ _ _ (hqt s h)
 replace hde := fun (op : Int) (h0 : 1 <= op) (h1 : op <= 53) => hc _ _ _ (hde op h0 h1)
 replace hln := fun (s : ByteArray) (ns : List Int) (hs : s.size <= 1000000) (hn9 : ns.length <= 100) (hz : ∀ x ∈ ns, IZ x) => hc _ _ _ (hln s ns hs hn9 hz)
 replace hl0 := fun (s : ByteArray) (hs : s.size <= 1000000) => hc _ _ _ (hl0 s hs)
 replace hkd1 := hc _ _ _ hkd1
 replace hpr := hc _ _ _ hpr
 replace hlc := hc _ _ _ hlc
 replace hnm := hc _ _ _ hnm
 have l0 : E.ofN CN.length = n0 := by rw [hE]; exact hn0
 have l1 : E.ofN CD.length = n1 := by rw [hE]; exact hn1
 have l2 : E.ofN HD.length = n2 := by rw [hE]; exact hn2
 have elt := qLti hE
 have eple := qPle hE
 have enat : ∀ i, E.nat i = i.toNat := fun i => by rw [hE]; rfl
 have eadd := qAdd hE
 have ecat : ∀ a b : ByteArray, a.size <= 100000000 -> b.size <= 100000000 -> E.cat a b := fun a b h1 h2 => by rw [hE]; show ((a.size : Nat) : Int) + ((b.size : Nat) : Int) <= _; omega
 have ejoin : ∀ a b, E.add a b = a ++ b := fun a b => by rw [hE]; rfl
 have epre : ∀ (m : Nat) (rs : List (List PV)), m <= rs.length -> E.pre 0 m rs := fun m rs h => by rw [hE]; show 0 + m <= rs.length; omega
 have esub : ∀ (rs : List (List PV)) (m : Nat), m = rs.length -> E.sub rs 0 m = rs := fun rs m h => by rw [hE]; show (rs.drop 0).take m = rs; rw [List.drop_zero, h, List.take_length]
 have j1 := (ejoin _ _).trans hA1
 have j2 := (ejoin _ _).trans hA2
 have j3 := (ejoin _ _).trans hA3
 have j4 := (ejoin _ _).trans hA4
 have j5 := (ejoin _ _).trans hA5
 have j6 := (ejoin _ _).trans hA6
 have j7 := (ejoin _ _).trans hA7
 have j8 := (ejoin _ _).trans hA8
 have c1 := ecat ⟨#[102, 117, 110, 99, 32]⟩ S1 (by decide) (by omega)
 have c2 := ecat A1 ⟨#[32]⟩ (by omega) (by decide)
 have c3 := ecat A2 S2 (by omega) (by omega)
 have c4 := ecat A3 ⟨#[32]⟩ (by omega) (by decide)
 have c5 := ecat A4 S3 (by omega) (by omega)
 have c6 := ecat A5 ⟨#[32]⟩ (by omega) (by decide)
 have c7 := ecat A6 S4 (by omega) (by omega)
 have c8 := ecat A7 ⟨#[10]⟩ (by omega) (by decide)
 clear hE hc hA1 hA2 hA3 hA4 hA5 hA6 hA7 hA8 hz1 hz2 hz3 hz4 hz5 hz6 hz7 hz8
 cbv at l0 l1 l2
 cbv
 repeat (first | (refine ⟨_, hkd1,?_⟩; cbv) | (refine ⟨_, hpr,?_⟩; cbv) | (refine ⟨_, hlc,?_⟩; cbv) | (refine ⟨_, hnm,?_⟩; cbv) | (refine ⟨c1,c2,c3,c4,c5,c6,c7,c8,?_⟩; cbv) | (refine ⟨c1,?_⟩; cbv) | (refine ⟨c2,?_⟩; cbv) | (refine ⟨c3,?_⟩; cbv) | (refine ⟨c4,?_⟩; cbv) | (refine ⟨c5,?_⟩; cbv) | (refine ⟨c6,?_⟩; cbv) | (refine ⟨c7,?_⟩; cbv) | (refine ⟨c8,?_⟩; cbv) | (simp only [j1]; cbv) | simp only [j1] | (simp only [j2]; cbv) | simp only [j2] | (simp only [j3]; cbv) | simp only [j3] | (simp only [j4]; cbv) | simp only [j4] | (simp only [j5]; cbv) | simp only [j5] | (simp only [j6]; cbv) | simp only [j6] | (simp only [j7]; cbv) | simp only [j7] | (simp only [j8]; cbv) | simp only [j8])
 refine loop_by 137 [1, 3, 4] 1 (fun x : Int × ByteArray => [.own 0 0, .p (pS x.2), .p (pI x.1)]) (fun _ => [some (.box [.p (pS nm), .p (pI kd), .p (pI pr), .p (pI lc), .p (.ro 3 CD), .p (.ro 3 CN), .p (.ro 5 HD)] 33 none)]) (RfI F n0 (fun i => (f.consts.drop i.toNat).flatMap (fun c => lnW (cstW c)) ++ tail1 f)) μ (0, A8) ⟨rfl, rfl, rfl, rfl, rfl⟩ hI0 ?_
 clear hI0 hs8 hkd1 hpr hlc hnm c1 c2 c3 c4 c5 c6 c7 c8 j1 j2 j3 j4 j5 j6 j7 j8
 rintro ⟨i, out⟩ ⟨i0, i1, hl⟩
 simp only at i0 i1 hl
 have hlF := congrArg List.length hl
 simp only [List.length_append, sz_dat] at hlF
 replace hsz : F.length <= 90000000 := hsz
 rcases Classical.em (i < n0) with hlt | hlt
 ·have d1 : E.lti i n0 = true := by rw [elt]; exact decide_eq_true hlt
  obtain ⟨c, hci, g1⟩ := hg0 i i0 hlt
  rw [<-enat] at g1
  have hcm := List.mem_of_getElem? hci
  have p1 := eple 0 i i0
  obtain ⟨i2, hi2⟩ : ∃ y : Int, i + 1 = y := ⟨_, rfl⟩
  have ei := eadd i 1 (by omega) (by omega) (by omega) (by omega)
  rw [hi2] at ei
  have hdrop : f.consts.drop i.toNat = c :: f.consts.drop i2.toNat := by
   rw [show i2.toNat = i.toNat + 1 by omega, List.drop_eq_getElem_cons (List.getElem?_eq_some_iff.1 hci).1, (List.getElem?_eq_some_iff.1 hci).2]
  have hstep : ∀ O2 : ByteArray, O2.data.toList = out.data.toList ++ lnW (cstW c) -> RfI F n0 (fun i => (f.consts.drop i.toNat).flatMap (fun c => lnW (cstW c)) ++ tail1 f) (i2, O2) := fun O2 h => by
   refine ⟨by show 0 <= i2; omega, by show i2 <= n0; omega,?_⟩
   show O2.data.toList ++ ((f.consts.drop i2.toNat).flatMap (fun c => lnW (cstW c)) ++ tail1 f) = F
   rw [hdrop, List.flatMap_cons] at hl
   rw [h, <- hl]
   simp
  have hM2 : ∀ O2, μ (i2, O2) < μ (i, out) := fun O2 => by
   rw [hμ, hμ]
   show 2000000000 - i2.toNat < 2000000000 - i.toNat
   omega
  have hlw : (lnW (cstW c)).length <= 90000000 := by
   rw [hdrop, List.flatMap_cons] at hl
   have := congrArg List.length hl
   simp only [List.length_append] at this
   omega
  have hck := hf.ci c hcm
  have hcs := hf.cs c hcm
  have hkc := hkd c hcm
  have hqc := hqt c.str hcs
  have hfc := hdg c.int hck
  by_cases hk : c.kind = 1
  ·have f1 : decide (c.kind = 1) = true := decide_eq_true hk
   obtain ⟨DD, hDD⟩ : ∃ y, itoaS c.int = y := ⟨_, rfl⟩
   rw [hDD] at hfc
   obtain ⟨B1, hB1⟩ : ∃ y, (⟨#[99, 111, 110, 115, 116, 32]⟩ : ByteArray) ++ DD = y := ⟨_, rfl⟩
   obtain ⟨B2, hB2⟩ : ∃ y, B1 ++ (⟨#[10]⟩ : ByteArray) = y := ⟨_, rfl⟩
   obtain ⟨O2, hO2⟩ : ∃ y, out ++ B2 = y := ⟨_, rfl⟩
   have hO2d : O2.data.toList = out.data.toList ++ lnW (cstW c) := by
    rw [<-hO2, <- hB2, <- hB1, <- hDD]
    simp only [ba_add]
    unfold lnW lnB wB cstW wConst
    simp [joinB, hk]
   have hI2 := hstep O2 hO2d
   have hM3 := hM2 O2
   have z1 : B1.size = 6 + DD.size := by rw [<-hB1]; exact ByteArray.size_append
   have z2 : B2.size = B1.size + 1 := by rw [<-hB2]; exact ByteArray.size_append
   have zz : out.size + B2.size = O2.size := by rw [<-hO2]; exact ByteArray.size_append.symm
   have zo : O2.size <= 180000000 := by
    have := congrArg List.length hO2d
    rw [List.length_append, sz_dat, sz_dat] at this
    omega
   have zb : B2.size <= 90000000 := by
    have := congrArg List.length hO2d
    rw [List.length_append, sz_dat, sz_dat] at this
    omega
   have b1 := (ejoin _ _).trans hB1
   have b2 := (ejoin _ _).trans hB2
   have b3 := (ejoin _ _).trans hO2
   have e1 := ecat ⟨#[99, 111, 110, 115, 116, 32]⟩ DD (by decide) (by omega)
   have e2 := ecat B1 ⟨#[10]⟩ (by omega) (by decide)
   have e3 := ecat out B2 (by omega) (by omega)
   obtain ⟨k, z, s⟩ := c
   simp only at g1 f1 hfc
   clear hdg hqt hde hln hl0 elt eple enat eadd ecat ejoin epre esub hg0 hg1 hg2 hstep hM2 hlw hdrop hlF hl hci hcm hi2 hμ hlt hfin hFT hF hck hcs hkc hqc hDD hB1 hB2 hO2 hO2d z1 z2 zz zo zb hk
   cbv
   repeat (first | (simp only [l0]; cbv) | simp only [l0] | (simp only [d1]; cbv) | simp only [d1] | (refine ⟨p1,_,g1,?_⟩; cbv) | (simp only [f1]; cbv) | simp only [f1] | (refine ⟨p1,_,g1,?_⟩; cbv) | (refine ⟨_, hfc,?_⟩; cbv) | (refine ⟨e1,?_⟩; cbv) | (simp only [b1]; cbv) | simp only [b1] | (refine ⟨e2,?_⟩; cbv) | (simp only [b2]; cbv) | simp only [b2] | (refine ⟨e3,?_⟩; cbv) | (simp only [b3]; cbv) | simp only [b3] | (refine ⟨e1,e2,e3,?_⟩; cbv) | (simp only [b1,b2,b3]; cbv) | simp only [b1,b2,b3] | (simp only [ei]; cbv) | simp only [ei])
   refine .mk (i2, O2) ⟨rfl, rfl, rfl, rfl, rfl⟩ ?_ ?_
   ·exact hI2
   ·exact hM3
  ·have f1 : decide (c.kind = 1) = false := decide_eq_false hk
   have hk2 : c.kind = 2 := by omega
   obtain ⟨DD, hDD⟩ : ∃ y, Qt c.str = y := ⟨_, rfl⟩
   rw [hDD] at hqc
   obtain ⟨B1, hB1⟩ : ∃ y, (⟨#[99, 111, 110, 115, 116, 32]⟩ : ByteArray) ++ DD = y := ⟨_, rfl⟩
   obtain ⟨B2, hB2⟩ : ∃ y, B1 ++ (⟨#[10]⟩ : ByteArray) = y := ⟨_, rfl⟩
   obtain ⟨O2, hO2⟩ : ∃ y, out ++ B2 = y := ⟨_, rfl⟩
   have hO2d : O2.data.toList = out.data.toList ++ lnW (cstW c) := by
    rw [<-hO2, <- hB2, <- hB1, <- hDD]
    simp only [ba_add]
    unfold lnW lnB wB cstW wConst
    simp [joinB, hk2]
   have hI2 := hstep O2 hO2d
   have hM3 := hM2 O2
   have z1 : B1.size = 6 + DD.size := by rw [<-hB1]; exact ByteArray.size_append
   have z2 : B2.size = B1.size + 1 := by rw [<-hB2]; exact ByteArray.size_append
   have zz : out.size + B2.size = O2.size := by rw [<-hO2]; exact ByteArray.size_append.symm
   have zo : O2.size <= 180000000 := by
    have := congrArg List.length hO2d
    rw [List.length_append, sz_dat, sz_dat] at this
    omega
   have zb : B2.size <= 90000000 := by
    have := congrArg List.length hO2d
    rw [List.length_append, sz_dat, sz_dat] at this
    omega
   have b1 := (ejoin _ _).trans hB1
   have b2 := (ejoin _ _).trans hB2
   have b3 := (ejoin _ _).trans hO2
   have e1 := ecat ⟨#[99, 111, 110, 115, 116, 32]⟩ DD (by decide) (by omega)
   have e2 := ecat B1 ⟨#[10]⟩ (by omega) (by decide)
   have e3 := ecat out B2 (by omega) (by omega)
   obtain ⟨k, z, s⟩ := c
   simp only at g1 f1 hqc
   clear hdg hqt hde hln hl0 elt eple enat eadd ecat ejoin epre esub hg0 hg1 hg2 hstep hM2 hlw hdrop hlF hl hci hcm hi2 hμ hlt hfin hFT hF hck hcs hkc hfc hDD hB1 hB2 hO2 hO2d z1 z2 zz zo zb hk hk2
   cbv
   repeat (first | (simp only [l0]; cbv) | simp only [l0] | (simp only [d1]; cbv) | simp only [d1] | (refine ⟨p1,_,g1,?_⟩; cbv) | (simp only [f1]; cbv) | simp only [f1] | (refine ⟨p1,_,g1,?_⟩; cbv) | (refine ⟨_, hqc,?_⟩; cbv) | (refine ⟨e1,?_⟩; cbv) | (simp only [b1]; cbv) | simp only [b1] | (refine ⟨e2,?_⟩; cbv) | (simp only [b2]; cbv) | simp only [b2] | (refine ⟨e3,?_⟩; cbv) | (simp only [b3]; cbv) | simp only [b3] | (refine ⟨e1,e2,e3,?_⟩; cbv) | (simp only [b1,b2,b3]; cbv) | simp only [b1,b2,b3] | (simp only [ei]; cbv) | simp only [ei])
   refine .mk (i2, O2) ⟨rfl, rfl, rfl, rfl, rfl⟩ ?_ ?_
   ·exact hI2
   ·exact hM3
 ·have d1 : E.lti i n0 = false := by rw [elt]; exact decide_eq_false hlt
  have hin : i = n0 := by omega
  subst hin
  rw [he0, List.flatMap_nil, List.nil_append] at hl
  have hJ0 : RfI F n1 (fun i => (f.code.drop i.toNat).flatMap (fun c => lnW (insW c)) ++ tail2 f) (0, out) := ⟨Int.le_refl _, hn1p, hl⟩
  clear hlF hl hg0 he0 hqt hlt
  cbv
  repeat (first | (simp only [l0]; cbv) | simp only [l0] | (simp only [d1]; cbv) | simp only [d1])
  refine loop_by 137 [1, 3, 5] 1 (fun x : Int × ByteArray => [.own 0 0, .p (pS x.2), .p (pI x.1)]) (fun _ => [some (.box [.p (pS nm), .p (pI kd), .p (pI pr), .p (pI lc), .p (.ro 3 CD), .p (.ro 3 CN), .p (.ro 5 HD)] 33 none)]) (RfI F n1 (fun i => (f.code.drop i.toNat).flatMap (fun c => lnW (insW c)) ++ tail2 f)) μ (0, out) ⟨rfl, rfl, rfl, rfl, rfl⟩ hJ0 ?_
  clear hJ0 d1 i0 i1 l0
  rintro ⟨i, out⟩ ⟨i0, i1, hl⟩
  simp only at i0 i1 hl
  have hlF := congrArg List.length hl
  simp only [List.length_append, sz_dat] at hlF
  replace hsz : F.length <= 90000000 := hsz
  rcases Classical.em (i < n1) with hlt | hlt
  ·have d1 : E.lti i n1 = true := by rw [elt]; exact decide_eq_true hlt
   obtain ⟨c, hci, g1⟩ := hg1 i i0 hlt
   rw [<-enat] at g1
   have hcm := List.mem_of_getElem? hci
   have p1 := eple 0 i i0
   obtain ⟨i2, hi2⟩ : ∃ y : Int, i + 1 = y := ⟨_, rfl⟩
   have ei := eadd i 1 (by omega) (by omega) (by omega) (by omega)
   rw [hi2] at ei
   have hdrop : f.code.drop i.toNat = c :: f.code.drop i2.toNat := by
    rw [show i2.toNat = i.toNat + 1 by omega, List.drop_eq_getElem_cons (List.getElem?_eq_some_iff.1 hci).1, (List.getElem?_eq_some_iff.1 hci).2]
   have hstep : ∀ O2 : ByteArray, O2.data.toList = out.data.toList ++ lnW (insW c) -> RfI F n1 (fun i => (f.code.drop i.toNat).flatMap (fun c => lnW (insW c)) ++ tail2 f) (i2, O2) := fun O2 h => by
    refine ⟨by show 0 <= i2; omega, by show i2 <= n1; omega,?_⟩
    show O2.data.toList ++ ((f.code.drop i2.toNat).flatMap (fun c => lnW (insW c)) ++ tail2 f) = F
    rw [hdrop, List.flatMap_cons] at hl
    rw [h, <- hl]
    simp
   have hM2 : ∀ O2, μ (i2, O2) < μ (i, out) := fun O2 => by
    rw [hμ, hμ]
    show 2000000000 - i2.toNat < 2000000000 - i.toNat
    omega
   have hlw : (lnW (insW c)).length <= 90000000 := by
    rw [hdrop, List.flatMap_cons] at hl
    have := congrArg List.length hl
    simp only [List.length_append] at this
    omega
   have hco := hf.op c hcm
   have hca := hf.ca c hcm
   have hds := hde c.op hco.1 hco.2
   have hNs := name_sz c.op
   obtain ⟨T, hT⟩ : ∃ y, bL (lnW (insW c)) = y := ⟨_, rfl⟩
   have hTd : T.data.toList = lnW (insW c) := by rw [<-hT]; exact bL_dat _
   have hTs : T.size = (lnW (insW c)).length := by rw [<-hT]; rfl
   obtain ⟨O2, hO2⟩ : ∃ y, out ++ T = y := ⟨_, rfl⟩
   have hO2d : O2.data.toList = out.data.toList ++ lnW (insW c) := by rw [<-hO2, ba_add, hTd]
   have hI2 := hstep O2 hO2d
   have hM3 := hM2 O2
   have b3 := (ejoin _ _).trans hO2
   have e3 := ecat out T (by omega) (by omega)
   unfold insW at hT
   obtain ⟨op, a, b⟩ := c
   simp only at g1 hds hca hNs hT
   generalize nameOf op = N at hds hT hNs
   generalize operandOf op = od at hds hT
   generalize popsOf op = po at hds
   generalize pushesOf op = pu at hds
   generalize cntOf op = cn at hds
   generalize jmpOf op = jm at hds
   generalize endsOf op = en at hds
   have q1 : E.sub [[pI a]] 0 1 = [[pI a]] := esub _ 1 rfl
   have q2 : E.sub [[pI a], [pI b]] 0 2 = [[pI a], [pI b]] := esub _ 2 rfl
   have k1 := epre 1 [[pI a]] (Nat.le_refl 1)
   have k2 := epre 2 [[pI a], [pI b]] (Nat.le_refl 2)
   by_cases ho0 : od = 0
   ·have f1 : decide (od = 0) = true := decide_eq_true ho0
    rw [if_pos ho0, if_neg (show ¬ od = 4 by omega)] at hT
    have hli := hl0 N (by omega)
    rw [show bL (lnN N []) = T from hT] at hli
    clear hdg hde hln hl0 elt eple enat eadd ecat ejoin epre esub hg1 hg2 hstep hM2 hlw hdrop hlF hl hci hcm hi2 hμ hlt hfin hFT hF hco hca hNs hT hTd hTs hO2 hO2d q1 q2 k1 k2
    cbv
    repeat (first | (simp only [l1]; cbv) | simp only [l1] | (simp only [d1]; cbv) | simp only [d1] | (refine ⟨p1,_,g1,?_⟩; cbv) | (refine ⟨_, hds,?_⟩; cbv) | (simp only [f1]; cbv) | simp only [f1] | (refine ⟨_, hli,?_⟩; cbv) | (refine ⟨e3,?_⟩; cbv) | (simp only [b3]; cbv) | simp only [b3] | (simp only [ei]; cbv) | simp only [ei])
    refine .mk (i2, O2) ⟨rfl, rfl, rfl, rfl, rfl⟩ ?_ ?_
    ·exact hI2
    ·exact hM3
   ·have f1 : decide (od = 0) = false := decide_eq_false ho0
    rw [if_neg ho0] at hT
    by_cases ho4 : od = 4
    ·have f2 : decide (od = 4) = true := decide_eq_true ho4
     rw [if_pos ho4] at hT
     have hli := hln N [a, b] (by omega) (by simp) (by
      intro x hx
      simp only [List.mem_cons, List.not_mem_nil, or_false] at hx
      rcases hx with rfl | rfl
      ·exact hca.1
      ·exact hca.2)
     rw [show bL (lnN N [a, b]) = T from hT] at hli
     unfold pIs at hli
     simp only [List.map_cons, List.map_nil] at hli
     clear hdg hde hln hl0 elt eple enat eadd ecat ejoin epre esub hg1 hg2 hstep hM2 hlw hdrop hlF hl hci hcm hi2 hμ hlt hfin hFT hF hco hca hNs hT hTd hTs hO2 hO2d q1 k1
     cbv
     repeat (first | (simp only [l1]; cbv) | simp only [l1] | (simp only [d1]; cbv) | simp only [d1] | (refine ⟨p1,_,g1,?_⟩; cbv) | (refine ⟨_, hds,?_⟩; cbv) | (simp only [f1]; cbv) | simp only [f1] | (simp only [f2]; cbv) | simp only [f2])
     simp only [q2]
     refine .inl ⟨k2, _, hli,?_⟩
     cbv
     repeat (first | (refine ⟨e3,?_⟩; cbv) | (simp only [b3]; cbv) | simp only [b3] | (simp only [ei]; cbv) | simp only [ei])
     refine .mk (i2, O2) ⟨rfl, rfl, rfl, rfl, rfl⟩ ?_ ?_
     ·exact hI2
     ·exact hM3
    ·have f2 : decide (od = 4) = false := decide_eq_false ho4
     rw [if_neg ho4] at hT
     have hli := hln N [a] (by omega) (by simp) (by
      intro x hx
      simp only [List.mem_cons, List.not_mem_nil, or_false] at hx
      subst hx
      exact hca.1)
     rw [show bL (lnN N [a]) = T from hT] at hli
     unfold pIs at hli
     simp only [List.map_cons, List.map_nil] at hli
     clear hdg hde hln hl0 elt eple enat eadd ecat ejoin epre esub hg1 hg2 hstep hM2 hlw hdrop hlF hl hci hcm hi2 hμ hlt hfin hFT hF hco hca hNs hT hTd hTs hO2 hO2d q2 k2
     cbv
     repeat (first | (simp only [l1]; cbv) | simp only [l1] | (simp only [d1]; cbv) | simp only [d1] | (refine ⟨p1,_,g1,?_⟩; cbv) | (refine ⟨_, hds,?_⟩; cbv) | (simp only [f1]; cbv) | simp only [f1] | (simp only [f2]; cbv) | simp only [f2])
     simp only [q1]
     refine .inl ⟨k1, _, hli,?_⟩
     cbv
     repeat (first | (refine ⟨e3,?_⟩; cbv) | (simp only [b3]; cbv) | simp only [b3] | (simp only [ei]; cbv) | simp only [ei])
     refine .mk (i2, O2) ⟨rfl, rfl, rfl, rfl, rfl⟩ ?_ ?_
     ·exact hI2
     ·exact hM3
  ·have d1 : E.lti i n1 = false := by rw [elt]; exact decide_eq_false hlt
   have hin : i = n1 := by omega
   subst hin
   rw [he1, List.flatMap_nil, List.nil_append] at hl
   have hK0 : RfI F n2 (fun i => (f.hdls.drop i.toNat).flatMap (fun c => lnW (hdlW c)) ++ []) (0, out) := ⟨Int.le_refl _, hn2p, by rw [List.append_nil]; exact hl⟩
   clear hlF hl hg1 he1 hde hlt
   cbv
   repeat (first | (simp only [l1]; cbv) | simp only [l1] | (simp only [d1]; cbv) | simp only [d1])
   refine loop_by 137 [1, 3, 8] 1 (fun x : Int × ByteArray => [.own 0 0, .p (pS x.2), .p (pI x.1)]) (fun _ => [some (.box [.p (pS nm), .p (pI kd), .p (pI pr), .p (pI lc), .p (.ro 3 CD), .p (.ro 3 CN), .p (.ro 5 HD)] 33 none)]) (RfI F n2 (fun i => (f.hdls.drop i.toNat).flatMap (fun c => lnW (hdlW c)) ++ [])) μ (0, out) ⟨rfl, rfl, rfl, rfl, rfl⟩ hK0 ?_
   clear hK0 d1 i0 i1
   rintro ⟨i, out⟩ ⟨i0, i1, hl⟩
   simp only at i0 i1 hl
   have hlF := congrArg List.length hl
   simp only [List.length_append, sz_dat] at hlF
   replace hsz : F.length <= 90000000 := hsz
   rcases Classical.em (i < n2) with hlt | hlt
   ·have d1 : E.lti i n2 = true := by rw [elt]; exact decide_eq_true hlt
    obtain ⟨c, hci, g1⟩ := hg2 i i0 hlt
    rw [<-enat] at g1
    have hcm := List.mem_of_getElem? hci
    have p1 := eple 0 i i0
    obtain ⟨i2, hi2⟩ : ∃ y : Int, i + 1 = y := ⟨_, rfl⟩
    have ei := eadd i 1 (by omega) (by omega) (by omega) (by omega)
    rw [hi2] at ei
    have hdrop : f.hdls.drop i.toNat = c :: f.hdls.drop i2.toNat := by
     rw [show i2.toNat = i.toNat + 1 by omega, List.drop_eq_getElem_cons (List.getElem?_eq_some_iff.1 hci).1, (List.getElem?_eq_some_iff.1 hci).2]
    have hstep : ∀ O2 : ByteArray, O2.data.toList = out.data.toList ++ lnW (hdlW c) -> RfI F n2 (fun i => (f.hdls.drop i.toNat).flatMap (fun c => lnW (hdlW c)) ++ []) (i2, O2) := fun O2 h => by
     refine ⟨by show 0 <= i2; omega, by show i2 <= n2; omega,?_⟩
     show O2.data.toList ++ ((f.hdls.drop i2.toNat).flatMap (fun c => lnW (hdlW c)) ++ []) = F
     rw [hdrop, List.flatMap_cons] at hl
     rw [h, <- hl]
     simp
    have hM2 : ∀ O2, μ (i2, O2) < μ (i, out) := fun O2 => by
     rw [hμ, hμ]
     show 2000000000 - i2.toNat < 2000000000 - i.toNat
     omega
    have hlw : (lnW (hdlW c)).length <= 90000000 := by
     rw [hdrop, List.flatMap_cons] at hl
     have := congrArg List.length hl
     simp only [List.length_append] at this
     omega
    have hch := hf.hd c hcm
    obtain ⟨T, hT⟩ : ∃ y, bL (lnW (hdlW c)) = y := ⟨_, rfl⟩
    have hTd : T.data.toList = lnW (hdlW c) := by rw [<-hT]; exact bL_dat _
    have hTs : T.size = (lnW (hdlW c)).length := by rw [<-hT]; rfl
    obtain ⟨O2, hO2⟩ : ∃ y, out ++ T = y := ⟨_, rfl⟩
    have hO2d : O2.data.toList = out.data.toList ++ lnW (hdlW c) := by rw [<-hO2, ba_add, hTd]
    have hI2 := hstep O2 hO2d
    have hM3 := hM2 O2
    have b3 := (ejoin _ _).trans hO2
    have e3 := ecat out T (by omega) (by omega)
    obtain ⟨lo, hi, tg, dp, sc⟩ := c
    simp only at g1 hch
    have hli := hln wHandler [lo, hi, tg, dp, sc] (by decide) (by simp) (by
     intro x hx
     simp only [List.mem_cons, List.not_mem_nil, or_false] at hx
     rcases hx with rfl | rfl | rfl | rfl | rfl
     ·exact hch.1
     ·exact hch.2.1
     ·exact hch.2.2.1
     ·exact hch.2.2.2.1
     ·exact hch.2.2.2.2)
    rw [show bL (lnN wHandler [lo, hi, tg, dp, sc]) = T from hT] at hli
    unfold pIs wHandler at hli
    simp only [List.map_cons, List.map_nil] at hli
    have q1 : E.sub [[pI lo], [pI hi], [pI tg], [pI dp], [pI sc]] 0 5 = [[pI lo], [pI hi], [pI tg], [pI dp], [pI sc]] := esub _ 5 rfl
    have k1 := epre 5 [[pI lo], [pI hi], [pI tg], [pI dp], [pI sc]] (Nat.le_refl 5)
    clear hdg hln hl0 elt eple enat eadd ecat ejoin epre esub hg2 hstep hM2 hlw hdrop hlF hl hci hcm hi2 hμ hlt hfin hFT hF hch hT hTd hTs hO2 hO2d
    cbv
    repeat (first | (simp only [l2]; cbv) | simp only [l2] | (simp only [d1]; cbv) | simp only [d1] | (refine ⟨p1,_,g1,?_⟩; cbv))
    simp only [q1]
    refine .inl ⟨k1, _, hli,?_⟩
    cbv
    repeat (first | (refine ⟨e3,?_⟩; cbv) | (simp only [b3]; cbv) | simp only [b3] | (simp only [ei]; cbv) | simp only [ei])
    refine .mk (i2, O2) ⟨rfl, rfl, rfl, rfl, rfl⟩ ?_ ?_
    ·exact hI2
    ·exact hM3
   ·have d1 : E.lti i n2 = false := by rw [elt]; exact decide_eq_false hlt
    have hin : i = n2 := by omega
    subst hin
    rw [he2, List.flatMap_nil, List.append_nil, List.append_nil] at hl
    have ho := hfin out hl
    subst ho
    clear hdg hln hl0 elt eple enat eadd ecat ejoin epre esub hg2 he2 hlF hl hμ hlt hfin hFT hF
    cbv
    repeat (first | (simp only [l2]; cbv) | simp only [l2] | (simp only [d1]; cbv) | simp only [d1])
end Go.Proofs.YtjefbgfohijaoaaGreatDoor
