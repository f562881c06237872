/- Own work: bytecode.Parse returns what the plain parser makes. -/
import Derived.Test.YtjefbgfohijaoaaGreatDoorWBP4
import Derived.Test.YtjefbgfohijaoaaGreatDoorWGN
namespace Go.Proofs.YtjefbgfohijaoaaGreatDoor
open Go.RowKit
set_option maxRecDepth 100000
set_option linter.unusedSimpArgs false
theorem pSs_at {ws : List ByteArray} {k : Nat} {t : ByteArray} (h : ws[k]? = some t) : (pSs ws)[k]? = some [pS t] := by
 unfold pSs
 rw [List.getElem?_map, h]
 rfl
theorem pSs_len (ws : List ByteArray) : (pSs ws).length = ws.length := by unfold pSs; rw [List.length_map]
theorem pCode_app (l : List Ins) (x : Ins) : pCode l ++ [pIns x] = pCode (l ++ [x]) := by unfold pCode; rw [List.map_append]; rfl
theorem pCons_app (l : List Cst) (x : Cst) : pCons l ++ [pCst x] = pCons (l ++ [x]) := by unfold pCons; rw [List.map_append]; rfl
theorem pHdls_app (l : List Hdl) (x : Hdl) : pHdls l ++ [pHdl x] = pHdls (l ++ [x]) := by unfold pHdls; rw [List.map_append]; rfl
abbrev sv7 (s : ByteArray) (PR : List (List PV)) (n i : Int) : List AV := [.p (pS s), .own 0 0, .p (pI 0), .own 1 0, .p (.ro 1 PR), .p (pI n), .p (pI i)]
abbrev lv7 : List Nat := [0, 2, 3, 4, 16, 17, 18]
abbrev boxE (y : PG) : ABlk := .box [.p (pS y.nm), .p (pI y.k), .p (pI y.p), .p (pI y.l), .p (.ro 3 y.ra), .p (.ro 3 y.rb), .p (.ro 5 y.rc)] 33 none
set_option maxHeartbeats 8000000 in
theorem parse_ret (s : ByteArray) (hs : s.size <= 50000) : RZ 9 [pS s] (parseR s) := by
 obtain ⟨ps, hps⟩ : ∃ y, linesP s = y := ⟨_, rfl⟩
 have htl : (bL (Lib.trimSuffix s.data.toList nlS.data.toList)).size <= s.size := Lib.trimSuffix_le s.data.toList nlS.data.toList
 have hmem : ∀ l ∈ ps, l.size <= 50000 := fun l hl => by
  rw [<-hps] at hl
  have : l.size <= _ := splS_mem hl
  omega
 have hpl : ps.length <= 50001 := by
  rw [<-hps]
  have := splS_len (c := 10) (s := bL (Lib.trimSuffix s.data.toList nlS.data.toList))
  change (linesP s).length <= _ at this
  omega
 have hts := show RZ 21 [pS s, pS ⟨#[10]⟩] (pS (bL (Lib.trimSuffix s.data.toList nlS.data.toList))) from trimSuf_ret s nlS (by omega)
 have hsp := show RZ 20 [pS (bL (Lib.trimSuffix s.data.toList nlS.data.toList)), pS ⟨#[10]⟩] (.ro 1 (pSs (splS nlS (bL (Lib.trimSuffix s.data.toList nlS.data.toList))))) from split_ret (bL (Lib.trimSuffix s.data.toList nlS.data.toList)) nlS (by omega) (by decide)
 rw [show splS nlS (bL (Lib.trimSuffix s.data.toList nlS.data.toList)) = ps from hps] at hsp
 obtain ⟨T1, hT1⟩ : ∃ y, bL (Lib.trimSuffix s.data.toList nlS.data.toList) = y := ⟨_, rfl⟩
 rw [hT1] at hts hsp
 clear hT1 htl
 have hpne : ps ≠ [] := by rw [<-hps]; exact splS_ne _ _
 obtain ⟨PR, hPR⟩ : ∃ y, pSs ps = y := ⟨_, rfl⟩
 have hgp : ∀ (k : Nat) t, ps[k]? = some t -> PR[k]? = some [pS t] := fun k t h => by rw [<-hPR]; exact pSs_at h
 have hPl : PR.length = ps.length := by rw [<-hPR]; exact pSs_len ps
 rw [hPR] at hsp
 clear hPR
 obtain ⟨n, hn⟩ : ∃ y : Int, ((ps.length : Nat) : Int) = y := ⟨_, rfl⟩
 have hn1 : 1 <= n := by have := List.length_pos_iff.2 hpne; omega
 have hnone : ∀ l, ps[0]? = some l -> headP l = none -> parseR s = .tup [pZ, pI 4] := fun l h1 h2 => by
  cases ps with
  | nil => cases h1
  | cons a r => cases h1; exact ln_none hps h2
 have hfirst : ∀ l f, ps[0]? = some l -> headP l = some f -> LnPI s ps (gOf 1 f) := fun l f h1 h2 => by
  cases ps with
  | nil => cases h1
  | cons a r => cases h1; exact ln_first hps h2
 have hend := fun f (h : rawP s = some f) => ln_end h
 have hW := fun f (h : rawP s = some f) => raw_W h
 have hsl := fun (l : ByteArray) (h : l.size <= 50000) => show RZ 20 [pS l, pS ⟨#[32]⟩] (.ro 1 (pSs (splS spS l))) from split_ret l spS (by omega) (by decide)
 have hsn := fun (l : ByteArray) (h : l.size <= 50000) => show RZ 22 [pS l, pS ⟨#[32]⟩, pI 5] (.ro 1 (pSs (splN 5 spS l))) from splitN_ret l spS 5 (by omega) (by decide) (by decide) (by decide)
 have hnu := fun (ws : List ByteArray) (hz : ∀ w ∈ ws, w.size <= 2000000) (hl : ws.length <= 2000000) (n : Nat) (hn : n = 2 \/ n = 3 \/ n = 5) => numbers_ret ws hz hl n hn
 have hli := fun l (h : l.size <= 900000) => blit_ret l h
 have hpi := fun l (h : l.size <= 2000000) => pint_ret l h
 have htp := fun l => show RZ 25 [pS l, pS ⟨#[99, 111, 110, 115, 116, 32]⟩] (pS (restP l)) from trimPre_ret l cstPre
 have hhp := fun l => show RZ 26 [pS l, pS ⟨#[34]⟩] (pB (Lib.hasPrefix l.data.toList [34])) from vZ (hasPre_ret l ⟨#[34]⟩)
 have hop := fun w => operation_ret w
 have hfo := fun f hz => formed1_ret f hz 4096 (by decide) (by decide)
 have hfm := fun f hz => format_ret f hz
 obtain ⟨V, hV⟩ : ∃ y, parseR s = y := ⟨_, rfl⟩
 rw [hV] at hnone ⊢
 have hend2 : ∀ f, rawP s = some f -> (if formedB f 4096 = true /\ bL (fmtB f) = s then PV.tup [.agg (pFn f), pI 0] else .tup [pZ, pI 4]) = V := fun f h => by rw [<-hV]; exact (hend f h).symm
 clear hV hend hps hpne
 obtain ⟨μ, hμ⟩ : ∃ μ : PG -> Nat, ∀ y, μ y = 60000 - y.i.toNat := ⟨_, fun _ => rfl⟩
 refine ret_cut tyT_ok gz_gr (f := 9) (c := ((Tryz.f9).body.getD .skip)) Tryz.func9 rfl (by kernel_rfl) (of_decide_eq_true (by kernel_rfl)) ?_
 refine Seg.cutK0 2 143 [0, 2, 3, 4] 2 (fun _ : Unit => [.p (pS s), .own 0 0, .p (pI 0), .own 1 0]) (fun _ => [some boxZ, some boxZ]) (fun _ => True) tyT_ok mixed (fun _ => 0) (by kernel_rfl) ?_ ?_
 ·intro P G E hc hM hE
  clear hE hc hM
  clear hts hsp hgp hsl hsn hnu hli hpi htp hhp hop hfo hfm hnone hend2 hμ
  cbv
  exact .mk () ⟨rfl, rfl, rfl, rfl, rfl⟩ trivial
 intro _ _
 refine Seg.cut 143 [0, 2, 3, 4] 2 (fun _ : PG => [.p (pS s), .own 0 0, .p (pI 0), .own 1 0]) (fun y => [some boxZ, some (boxE y)]) (fun y => ∃ f, y = gOf 0 f /\ rawP s = some f) ?_ ?_
 ·refine Seg.cut 143 lv7 2 (fun _ : Unit => sv7 s PR n 0) (fun _ => [some boxZ, some boxZ]) (fun _ => True) ?_ ?_
  ·refine Seg.of0 tyT_ok mixed (fun _ => 0) (by kernel_rfl) fun P G E hc hM hE => ?_
   replace hts := hc _ _ _ hts
   replace hsp := hc _ _ _ hsp
   have l0 : E.ofN PR.length = n := by rw [hE, hPl]; exact hn
   clear hE hc hM hgp hsl hsn hnu hli hpi htp hhp hop hfo hfm hnone hend2 hμ
   cbv at l0
   cbv
   repeat (first | (refine ⟨_, hts,?_⟩; cbv) | (refine ⟨_, hsp,?_⟩; cbv) | (simp only [l0]; cbv) | simp only [l0])
   exact .mk () ⟨rfl, rfl, rfl, rfl, rfl⟩ trivial
  intro _ _
  clear hts hsp
  refine Seg.block ?_
  refine Seg.wk (wk_nil (k := 1) (j := 4) 3 41 rfl rfl) ?_
  refine Seg.wk (wk_nil (k := 1) (j := 5) 3 47 rfl rfl) ?_
  refine Seg.wk (wk_nil (k := 1) (j := 6) 5 58 rfl rfl) ?_
  have hI0 : LnPI s ps (gOf 0 fn0) := ⟨Int.le_refl 0, by show (0 : Int) <= _; omega, fn0, rfl, .inl ⟨rfl, rfl⟩, Int.le_refl 0⟩
  refine Seg.loop 143 lv7 5 (fun y : PG => sv7 s PR n y.i) (fun y => hP y) (LnPI s ps) μ (gOf 0 fn0) ⟨rfl, rfl, rfl, rfl, rfl⟩ hI0 ?_
  clear hI0
  rintro ⟨i, nm, k, p, lc, ra, na, rb, nb, rc, nc⟩ ⟨i0, i1, f, hy, hf, hfl⟩
  simp only at i0 i1 hy hf hfl
  unfold gOf at hy
  injection hy with _ e1 e2 e3 e4 e5 e6 e7 e8 e9 e10
  rcases Classical.em (i < n) with hlt | hlt
  ·obtain ⟨l, hl⟩ : ∃ l, ps[i.toNat]? = some l := ⟨_, List.getElem?_eq_getElem (by omega)⟩
   have hll := hmem l (List.mem_of_getElem? hl)
   have hgl := hgp _ _ hl
   obtain ⟨i2, hi2⟩ : ∃ x : Int, i + 1 = x := ⟨_, rfl⟩
   refine Seg.cutK0 2 143 lv7 5 (fun _ : Unit => sv7 s PR n i) (fun _ => hP ⟨i, nm, k, p, lc, ra, na, rb, nb, rc, nc⟩) (fun _ => True) tyT_ok mixed (fun _ => 0) (by kernel_rfl) ?_ ?_
   ·intro P G E hc hM hE
    have d1 : E.lti i n = true := by rw [hE]; exact decide_eq_true hlt
    clear hE hc hM hend2 hf e1 e2 e3 e4 e5 e6 e7 e8 e9 e10 hgp hsl hsn hnu hli hpi htp hhp hop hfo hfm hnone hμ
    cbv
    repeat (first | (simp only [d1]; cbv) | simp only [d1])
    exact .mk () ⟨rfl, rfl, rfl, rfl, rfl⟩ trivial
   intro _ _
   refine Seg.cut 143 lv7 5 (fun _ : PG => sv7 s PR n i) (fun y => hP y) (fun y => LnPI s ps y /\ y.i = i2) ?_ ?_
   ·refine Seg.block ?_
    have hsl1 := hsl l hll
    obtain ⟨W, hW'⟩ : ∃ y, splS spS l = y := ⟨_, rfl⟩
    rw [hW'] at hsl1
    obtain ⟨WR, hWR⟩ : ∃ y, pSs W = y := ⟨_, rfl⟩
    rw [hWR] at hsl1
    refine Seg.cutK0 2 143 [0, 2, 3, 4, 16, 17, 18, 5, 6, 7] 5 (fun _ : Unit => [.p (pS s), .own 0 0, .p (pI 0), .own 1 0, .p (.ro 1 PR), .p (pI n), .p (pI i), .p (pI i), .p (pS l), .p (.ro 1 WR)]) (fun _ => hP ⟨i, nm, k, p, lc, ra, na, rb, nb, rc, nc⟩) (fun _ => True) tyT_ok mixed (fun _ => 0) (by kernel_rfl) ?_ ?_
    ·intro P G E hc hM hE
     replace hsl1 := hc _ _ _ hsl1
     have p1 : E.ple 0 i := by rw [hE]; exact i0
     have g1 : PR[E.nat i]? = some [pS l] := by rw [hE]; exact hgl
     clear hE hc hM hend2 hf e1 e2 e3 e4 e5 e6 e7 e8 e9 e10 hgp hsl hsn hnu hli hpi htp hhp hop hfo hfm hnone hμ hWR hW'
     cbv
     repeat (first | (refine ⟨p1,_,g1,?_⟩; cbv) | (refine ⟨_, hsl1,?_⟩; cbv))
     exact .mk () ⟨rfl, rfl, rfl, rfl, rfl⟩ trivial
    intro _ _
    clear hsl1
    refine Seg.block ?_
    rcases Classical.em (i = 0) with hi0 | hi0
    ·subst hi0
     refine Seg.cut 143 [0, 2, 3, 4, 16, 17, 18, 6, 44] 5 (fun _ : Unit => [.p (pS s), .own 0 0, .p (pI 0), .own 1 0, .p (.ro 1 PR), .p (pI n), .p (pI 0), .p (pS l), .p (pB true)]) (fun _ => hP ⟨0, nm, k, p, lc, ra, na, rb, nb, rc, nc⟩) (fun _ => True) ?_ ?_
     ·refine Seg.of0 tyT_ok mixed (fun _ => 0) (by kernel_rfl) fun P G E hc hM hE => ?_
      clear hE hc hM hend2 hf e1 e2 e3 e4 e5 e6 e7 e8 e9 e10 hgp hsl hsn hnu hli hpi htp hhp hop hfo hfm hnone hμ hWR hW'
      cbv
      exact .mk () ⟨rfl, rfl, rfl, rfl, rfl⟩ trivial
     intro _ _
     refine Seg.condT rfl ?_
     have hsn1 := hsn l hll
     cases hh : headP l with
     | none =>
      have hv := hnone l hl hh
      have hlen5 : (splN 5 spS l).length < 5 := by
       unfold headP at hh
       split at hh
       ·assumption
       ·cases hh
      obtain ⟨WN, hWN⟩ : ∃ y, pSs (splN 5 spS l) = y := ⟨_, rfl⟩
      have hwl : WN.length < 5 := by rw [<-hWN, pSs_len]; exact hlen5
      rw [hWN] at hsn1
      obtain ⟨m, hm⟩ : ∃ m : Int, ((WN.length : Nat) : Int) = m := ⟨_, rfl⟩
      subst hv
      refine Seg.cutK0 2 143 [] 0 (fun _ : Unit => []) (fun _ => []) (fun _ => False) tyT_ok mixed (fun _ => 0) (by kernel_rfl) ?_ (fun _ h => h.elim)
      intro P G E hc hM hE
      replace hsn1 := hc _ _ _ hsn1
      have l0 : E.ofN WN.length = m := by rw [hE]; exact hm
      have d1 : E.lti m 5 = true := by rw [hE]; exact decide_eq_true (by omega)
      clear hE hc hM hend2 hf e1 e2 e3 e4 e5 e6 e7 e8 e9 e10 hgp hsl hsn hnu hli hpi htp hhp hop hfo hfm hnone hμ hWR hW' hm hwl hWN hlen5 hh
      cbv at l0
      cbv
      repeat (first | (refine ⟨_, hsn1,?_⟩; cbv) | (simp only [l0]; cbv) | simp only [l0] | (simp only [d1]; cbv) | simp only [d1])
      all_goals trivial
     | some f1 =>
      have hF := hfirst l f1 hl hh
      have h51 : (splN 5 spS l).length <= 5 := Nat.le_trans (Lib.splitB_length_le spS 0 (min 5 (l.size + 1) - 1) l) (by omega)
      have hmN : ∀ w ∈ splN 5 spS l, w.size <= 50000 := fun w hw => Nat.le_trans (splN_mem hw) hll
      have hhd := hh
      unfold headP at hhd
      split at hhd
      ·cases hhd
      rename_i h5
      obtain ⟨a0, a1, a2, a3, a4, hWN⟩ : ∃ a0 a1 a2 a3 a4, splN 5 spS l = [a0, a1, a2, a3, a4] := by
       generalize splN 5 spS l = L at h5 h51
       match L, h5, h51 with
       | [a0, a1, a2, a3, a4], _, _ => exact ⟨a0, a1, a2, a3, a4, rfl⟩
       | [], h, _ => exact absurd (by decide) h
       | [_], h, _ => exact absurd (by simp) h
       | [_, _], h, _ => exact absurd (by simp) h
       | [_, _, _], h, _ => exact absurd (by simp) h
       | [_, _, _, _], h, _ => exact absurd (by simp) h
       | _ :: _ :: _ :: _ :: _ :: _ :: _, _, h => simp only [List.length_cons] at h; omega
      rw [hWN] at hsn1 hhd hmN
      have hnum := hnu [a1, a2, a3, a4] (fun w hw => by have := hmN w (List.mem_cons_of_mem _ hw); omega) (by show 4 <= 2000000; decide) 3 (.inr (.inl rfl))
      have hlt4 := hli a4 (by have := hmN a4 (by simp); omega)
      injection hhd with hhd
      have hz0 : f1.kind = numAt [a1, a2, a3, a4] 0 := by rw [<-hhd]; rfl
      have hz1 : f1.params = numAt [a1, a2, a3, a4] 1 := by rw [<-hhd]; rfl
      have hz2 : f1.locals = numAt [a1, a2, a3, a4] 2 := by rw [<-hhd]; rfl
      have hzn : f1.name = litV a4 := by rw [<-hhd]; rfl
      have hzc : f1.code = [] /\ f1.consts = [] /\ f1.hdls = [] := by rw [<-hhd]; exact ⟨rfl, rfl, rfl⟩
      have hnr : numsR [a1, a2, a3, a4] 3 = [[pI (numAt [a1, a2, a3, a4] 0)], [pI (numAt [a1, a2, a3, a4] 1)], [pI (numAt [a1, a2, a3, a4] 2)]] := rfl
      rw [hnr] at hnum
      rw [<-hz0, <- hz1, <- hz2] at hnum
      rw [<-hzn] at hlt4
      have hg1 : gOf 1 f1 = ⟨1, f1.name, f1.kind, f1.params, f1.locals, [], 0, [], 0, [], 0⟩ := by unfold gOf; rw [hzc.1, hzc.2.1, hzc.2.2]; rfl
      rw [hg1] at hF
      have hra : ra = [] /\ na = 0 /\ rb = [] /\ nb = 0 /\ rc = [] /\ nc = 0 := by
       rcases hf with h | h
       ·obtain ⟨_, rfl⟩ := h
        exact ⟨e5, e6, e7, e8, e9, e10⟩
       ·omega
      obtain ⟨rfl, rfl, rfl, rfl, rfl, rfl⟩ := hra
      have hi2' : i2 = 1 := by omega
      subst hi2'
      generalize f1.kind = z0 at hnum hF
      generalize f1.params = z1 at hnum hF
      generalize f1.locals = z2 at hnum hF
      generalize f1.name = zn at hlt4 hF
      clear hz0 hz1 hz2 hzn hzc hnr hhd hh h5 h51 hmN hg1 hWN e1 e2 e3 e4 e5 e6 e7 e8 e9 e10 hf hfl hWR hW' hend2 hgp hsl hsn hnu hli hpi htp hhp hop hfo hfm hnone hfirst
      rw [show pSs [a0, a1, a2, a3, a4] = [[pS a0], [pS a1], [pS a2], [pS a3], [pS a4]] from rfl] at hsn1
      rw [show pSs [a1, a2, a3, a4] = [[pS a1], [pS a2], [pS a3], [pS a4]] from rfl] at hnum
      refine Seg.cutK0 3 143 [0, 2, 3, 4, 16, 17, 18, 7, 8] 5 (fun _ : Unit => [.p (pS s), .own 0 0, .p (pI 0), .own 1 0, .p (.ro 1 PR), .p (pI n), .p (pI 0), .p (.ro 1 [[pS a0], [pS a1], [pS a2], [pS a3], [pS a4]]), .p (.ro 1 [[pI z0], [pI z1], [pI z2]])]) (fun _ => hP ⟨0, nm, k, p, lc, [], 0, [], 0, [], 0⟩) (fun _ => True) tyT_ok mixed (fun _ => 0) (by kernel_rfl) ?_ ?_
      ·intro P G E hc hM hE
       replace hsn1 := hc _ _ _ hsn1
       replace hnum := hc _ _ _ hnum
       have p0 : E.ple 0 0 := by rw [hE]; exact Int.le_refl 0
       have p01 : E.ple 0 1 := by rw [hE]; show (0 : Int) <= 1; decide
       have n0 : E.nat 0 = 0 := by rw [hE]; rfl
       have n1 : E.nat 1 = 1 := by rw [hE]; rfl
       have n2 : E.nat 2 = 2 := by rw [hE]; rfl
       have n3 : E.nat 3 = 3 := by rw [hE]; rfl
       have n4 : E.nat 4 = 4 := by rw [hE]; rfl
       have n5 : E.nat 5 = 5 := by rw [hE]; rfl
       have p02 : E.ple 0 2 := by rw [hE]; show (0 : Int) <= 2; decide
       have p03 : E.ple 0 3 := by rw [hE]; show (0 : Int) <= 3; decide
       have p04 : E.ple 0 4 := by rw [hE]; show (0 : Int) <= 4; decide
       have l5 : E.ofN 5 = 5 := by rw [hE]; rfl
       have d1 : E.lti 5 5 = false := by rw [hE]; rfl
       have p15 : E.ple 1 5 := by rw [hE]; show (1 : Int) <= 5; decide
       have p55 : E.ple 5 5 := by rw [hE]; exact Int.le_refl 5
       have c1 : E.cut [[pS a0], [pS a1], [pS a2], [pS a3], [pS a4]] 1 5 = [[pS a1], [pS a2], [pS a3], [pS a4]] := by rw [hE]; rfl
       clear hE hc hM hμ
       cbv
       repeat (first | (refine ⟨_, hsn1,?_⟩; cbv) | (simp only [l5]; cbv) | simp only [l5] | (simp only [d1]; cbv) | simp only [d1] | (refine ⟨p01,p15,p55,?_⟩; cbv) | (simp only [n1,n5]; cbv) | simp only [n1,n5] | (simp only [c1]; cbv) | simp only [c1] | (refine ⟨_, hnum,?_⟩; cbv))
       exact .mk () ⟨rfl, rfl, rfl, rfl, rfl⟩ trivial
      intro _ _
      refine Seg.regM0 tyT_ok mixed 17 [14, 16] (fun i => match i with | 14 => 1 | 16 => 2 | _ => 0) (by kernel_rfl) fun P G E hc hM hE => ?_
      replace hlt4 := hc _ _ _ hlt4
      have p0 : E.ple 0 0 := by rw [hE]; exact Int.le_refl 0
      have p01 : E.ple 0 1 := by rw [hE]; show (0 : Int) <= 1; decide
      have n0 : E.nat 0 = 0 := by rw [hE]; rfl
      have n1 : E.nat 1 = 1 := by rw [hE]; rfl
      have n2 : E.nat 2 = 2 := by rw [hE]; rfl
      have n3 : E.nat 3 = 3 := by rw [hE]; rfl
      have n4 : E.nat 4 = 4 := by rw [hE]; rfl
      have n5 : E.nat 5 = 5 := by rw [hE]; rfl
      have p02 : E.ple 0 2 := by rw [hE]; show (0 : Int) <= 2; decide
      have p03 : E.ple 0 3 := by rw [hE]; show (0 : Int) <= 3; decide
      have p04 : E.ple 0 4 := by rw [hE]; show (0 : Int) <= 4; decide
      clear hE hc hM hμ hsn1 hnum
      cbv
      repeat (first | (refine ⟨p0,_,rfl,?_⟩; cbv) | (refine ⟨p01,_,rfl,?_⟩; cbv) | (refine ⟨p02,_,rfl,?_⟩; cbv) | (refine ⟨p04,_,rfl,?_⟩; cbv) | (refine ⟨_, hlt4,?_⟩; cbv) | (simp only [n0]; cbv) | simp only [n0] | (simp only [n1]; cbv) | simp only [n1] | (simp only [n2]; cbv) | simp only [n2] | (simp only [n4]; cbv) | simp only [n4])
      refine ⟨.mk (by repeat' (first | exact trivial | refine ⟨rfl,?_⟩)),?_⟩
      cbv
      repeat (first | (refine ⟨p0,_,rfl,?_⟩; cbv) | (refine ⟨p01,_,rfl,?_⟩; cbv) | (refine ⟨p02,_,rfl,?_⟩; cbv) | (refine ⟨p04,_,rfl,?_⟩; cbv) | (refine ⟨_, hlt4,?_⟩; cbv) | (simp only [n0]; cbv) | simp only [n0] | (simp only [n1]; cbv) | simp only [n1] | (simp only [n2]; cbv) | simp only [n2] | (simp only [n4]; cbv) | simp only [n4])
      refine ⟨.mk (by repeat' (first | exact trivial | refine ⟨rfl,?_⟩)),?_⟩
      cbv
      repeat (first | (refine ⟨p0,_,rfl,?_⟩; cbv) | (refine ⟨p01,_,rfl,?_⟩; cbv) | (refine ⟨p02,_,rfl,?_⟩; cbv) | (refine ⟨p04,_,rfl,?_⟩; cbv) | (refine ⟨_, hlt4,?_⟩; cbv) | (simp only [n0]; cbv) | simp only [n0] | (simp only [n1]; cbv) | simp only [n1] | (simp only [n2]; cbv) | simp only [n2] | (simp only [n4]; cbv) | simp only [n4])
      refine ⟨.mk (by repeat' (first | exact trivial | refine ⟨rfl,?_⟩)),?_⟩
      cbv
      exact .mk ⟨1, zn, z0, z1, z2, [], 0, [], 0, [], 0⟩ ⟨rfl, rfl, rfl, rfl, rfl⟩ ⟨hF, rfl⟩
    ·have hi1 : 1 <= i := by omega
     have hr : rawP s = some (bodyP f (ps.drop i.toNat)) := by
      rcases hf with h | h
      ·exact absurd h.1 hi0
      ·exact h.2
     have hnx := ln_next hi1 hr hl hfl
     rw [hi2] at hnx
     have hmW : ∀ w ∈ W, w.size <= 50000 := fun w hw => by rw [<-hW'] at hw; exact Nat.le_trans (splS_mem hw) hll
     have hlW : W.length <= 50001 := by
      rw [<-hW']
      have : (splS spS l).length <= l.size + 1 := splS_len
      omega
     obtain ⟨w0, ws, rfl⟩ : ∃ a b, W = a :: b := by
      cases W with
      | nil => exact absurd hW' (splS_ne _ _)
      | cons a b => exact ⟨a, b, rfl⟩
     have hd : (splS spS l).headD ⟨#[]⟩ = w0 := by rw [hW']; rfl
     have hdr : (splS spS l).drop 1 = ws := by rw [hW']; rfl
     have hW0 : WR[0]? = some [pS w0] := by rw [<-hWR]; rfl
     have hWl : WR.length = ws.length + 1 := by rw [<-hWR, pSs_len]; rfl
     have hWd : WR.drop 1 = pSs ws := by rw [<-hWR]; rfl
     obtain ⟨nW, hnW⟩ : ∃ m : Int, ((WR.length : Nat) : Int) = m := ⟨_, rfl⟩
     have hb1 : na <= 60000 := by rw [e6]; omega
     have hb2 : nb <= 60000 := by rw [e8]; omega
     have hb3 : nc <= 60000 := by rw [e10]; omega
     have hl1 : ra.length = na := by rw [e5, e6]; unfold pCode; rw [List.length_map]
     have hl2 : rb.length = nb := by rw [e7, e8]; unfold pCons; rw [List.length_map]
     have hl3 : rc.length = nc := by rw [e9, e10]; unfold pHdls; rw [List.length_map]
     refine Seg.cut 143 [0, 2, 3, 4, 16, 17, 18, 6, 7, 44] 5 (fun _ : Unit => [.p (pS s), .own 0 0, .p (pI 0), .own 1 0, .p (.ro 1 PR), .p (pI n), .p (pI i), .p (pS l), .p (.ro 1 WR), .p (pB false)]) (fun _ => hP ⟨i, nm, k, p, lc, ra, na, rb, nb, rc, nc⟩) (fun _ => True) ?_ ?_
     ·refine Seg.of0 tyT_ok mixed (fun _ => 0) (by kernel_rfl) fun P G E hc hM hE => ?_
      have d1 : decide (i = 0) = false := decide_eq_false hi0
      clear hE hc hM hend2 hf e1 e2 e3 e4 e5 e6 e7 e8 e9 e10 hgp hsl hsn hnu hli hpi htp hhp hop hfo hfm hnone hμ hWR hW' hnx hmW hlW hd hdr hW0 hWl hWd
      cbv
      repeat (first | (simp only [d1]; cbv) | simp only [d1])
      exact .mk () ⟨rfl, rfl, rfl, rfl, rfl⟩ trivial
     intro _ _
     refine Seg.condF rfl ?_
     rcases Classical.em (w0 = wConst) with hc0 | hc0
     ·obtain ⟨RL, hRL⟩ : ∃ y, restP l = y := ⟨_, rfl⟩
      have htp1 := htp l
      have hrs : RL.size <= 50000 := by rw [<-hRL]; exact Nat.le_trans (restP_size l) hll
      have hhp1 := hhp RL
      rw [hRL] at htp1
      cases hpq : Lib.hasPrefix RL.data.toList [34] with
      | true =>
       rw [hpq] at hhp1
       have hlt1 := hli RL (by omega)
       obtain ⟨LV, hLV⟩ : ∃ y, litV RL = y := ⟨_, rfl⟩
       rw [hLV] at hlt1
       have hline : lineP l f = { f with consts := f.consts ++ [⟨2, 0, LV⟩] } := by
        unfold lineP
        rw [hd, if_pos hc0, hRL, if_pos hpq, hLV]
       obtain ⟨RR2, hRR2⟩ : ∃ y, rb ++ [[pI 2, pI 0, pS LV]] = y := ⟨_, rfl⟩
       obtain ⟨M2, hM2'⟩ : ∃ y, nb + 1 = y := ⟨_, rfl⟩
       have hfin : LnPI s ps ⟨i2, nm, k, p, lc, ra, na, RR2, M2, rc, nc⟩ /\ i2 = i2 := by
        rw [hline] at hnx
        unfold gOf at hnx
        simp only at hnx
        rw [<-pCons_app, List.length_append, <- e1, <- e2, <- e3, <- e4, <- e5, <- e6, <- e7, <- e8, <- e9, <- e10] at hnx
        rw [<-hRR2, <- hM2']
        exact ⟨hnx, rfl⟩
       refine Seg.of0 tyT_ok mixed (fun n => match n with | 17 => 6 | 22 => 19 | 7 => 14 | _ => 0) (by kernel_rfl) fun P G E hc hM hE => ?_
       replace htp1 := hc _ _ _ htp1
       replace hhp1 := hc _ _ _ hhp1
       replace hlt1 := hc _ _ _ hlt1
       have p0 : E.ple 0 0 := by rw [hE]; exact Int.le_refl 0
       have p01 : E.ple 0 1 := by rw [hE]; show (0 : Int) <= 1; decide
       have n0 : E.nat 0 = 0 := by rw [hE]; rfl
       have n1 : E.nat 1 = 1 := by rw [hE]; rfl
       have n2 : E.nat 2 = 2 := by rw [hE]; rfl
       have n3 : E.nat 3 = 3 := by rw [hE]; rfl
       have n4 : E.nat 4 = 4 := by rw [hE]; rfl
       have n5 : E.nat 5 = 5 := by rw [hE]; rfl
       have p02 : E.ple 0 2 := by rw [hE]; show (0 : Int) <= 2; decide
       have p03 : E.ple 0 3 := by rw [hE]; show (0 : Int) <= 3; decide
       have p04 : E.ple 0 4 := by rw [hE]; show (0 : Int) <= 4; decide
       have p4 : E.room nb 1 32 := by rw [hE]; exact ⟨by unfold maxLen; omega, by omega⟩
       have p5 : E.pre 0 nb rb := by rw [hE]; show 0 + nb <= rb.length; omega
       have a2 : E.addN nb 1 = M2 := by rw [hE]; exact hM2'
       have r3 : E.app rb nb [[pI 2, pI 0, pS LV]] = RR2 := by rw [hE]; show rb.take nb ++ [[pI 2, pI 0, pS LV]] = RR2; rw [show nb = rb.length by omega, List.take_length]; exact hRR2
       have p6 : E.pre 0 1 [[pI 2, pI 0, pS LV]] := by rw [hE]; exact Nat.le_refl 1
       have q1 : E.sub [[pI 2, pI 0, pS LV]] 0 1 = [[pI 2, pI 0, pS LV]] := by rw [hE]; rfl
       have g0 : WR[E.nat 0]? = some [pS w0] := by rw [n0]; exact hW0
       have q0 : E.eq w0 ⟨#[99, 111, 110, 115, 116]⟩ = true := by rw [hE]; exact decide_eq_true hc0
       clear hE hc hM hμ e1 e2 e3 e4 e5 e6 e7 e8 e9 e10 hf hfl hWR hW' hend2 hgp hsl hsn hnu hli hpi htp hhp hop hfo hfm hnone hfirst hr hmW hlW hb1 hb2 hb3 hl1 hl2 hl3 hgl hll hl hnx hline hRR2 hM2' hLV hRL hrs hpq hd hdr hW0 hWl hWd hnW hmem hpl hPl hn hn1 hW
       cbv
       repeat (first | (refine ⟨p0,_,g0,?_⟩; cbv) | (simp only [q0]; cbv) | simp only [q0] | (refine ⟨_, htp1,?_⟩; cbv) | (refine ⟨_, hhp1,?_⟩; cbv) | (refine ⟨_, hlt1,?_⟩; cbv) | (refine ⟨p6,p5,p4,?_⟩; cbv) | (refine ⟨p5,p4,?_⟩; cbv) | (simp only [q1]; cbv) | simp only [q1] | (simp only [r3,a2]; cbv) | simp only [r3,a2])
       exact .mk ⟨i2, nm, k, p, lc, ra, na, RR2, M2, rc, nc⟩ ⟨rfl, rfl, rfl, rfl, rfl⟩ hfin
      | false =>
       rw [hpq] at hhp1
       have hpi1 := hpi RL (by omega)
       obtain ⟨LV, hLV⟩ : ∃ y, pintV RL = y := ⟨_, rfl⟩
       obtain ⟨LE, hLE⟩ : ∃ y, pintE RL = y := ⟨_, rfl⟩
       rw [hLV, hLE] at hpi1
       have hline : lineP l f = { f with consts := f.consts ++ [⟨1, LV, ⟨#[]⟩⟩] } := by
        unfold lineP
        rw [hd, if_pos hc0, hRL, if_neg (by rw [hpq]; decide), hLV]
       obtain ⟨RR2, hRR2⟩ : ∃ y, rb ++ [[pI 1, pI LV, pS ⟨#[]⟩]] = y := ⟨_, rfl⟩
       obtain ⟨M2, hM2'⟩ : ∃ y, nb + 1 = y := ⟨_, rfl⟩
       have hfin : LnPI s ps ⟨i2, nm, k, p, lc, ra, na, RR2, M2, rc, nc⟩ /\ i2 = i2 := by
        rw [hline] at hnx
        unfold gOf at hnx
        simp only at hnx
        rw [<-pCons_app, List.length_append, <- e1, <- e2, <- e3, <- e4, <- e5, <- e6, <- e7, <- e8, <- e9, <- e10] at hnx
        rw [<-hRR2, <- hM2']
        exact ⟨hnx, rfl⟩
       refine Seg.of0 tyT_ok mixed (fun n => match n with | 17 => 6 | 22 => 19 | 7 => 14 | _ => 0) (by kernel_rfl) fun P G E hc hM hE => ?_
       replace htp1 := hc _ _ _ htp1
       replace hhp1 := hc _ _ _ hhp1
       replace hpi1 := hc _ _ _ hpi1
       have p0 : E.ple 0 0 := by rw [hE]; exact Int.le_refl 0
       have p01 : E.ple 0 1 := by rw [hE]; show (0 : Int) <= 1; decide
       have n0 : E.nat 0 = 0 := by rw [hE]; rfl
       have n1 : E.nat 1 = 1 := by rw [hE]; rfl
       have n2 : E.nat 2 = 2 := by rw [hE]; rfl
       have n3 : E.nat 3 = 3 := by rw [hE]; rfl
       have n4 : E.nat 4 = 4 := by rw [hE]; rfl
       have n5 : E.nat 5 = 5 := by rw [hE]; rfl
       have p02 : E.ple 0 2 := by rw [hE]; show (0 : Int) <= 2; decide
       have p03 : E.ple 0 3 := by rw [hE]; show (0 : Int) <= 3; decide
       have p04 : E.ple 0 4 := by rw [hE]; show (0 : Int) <= 4; decide
       have p4 : E.room nb 1 32 := by rw [hE]; exact ⟨by unfold maxLen; omega, by omega⟩
       have p5 : E.pre 0 nb rb := by rw [hE]; show 0 + nb <= rb.length; omega
       have a2 : E.addN nb 1 = M2 := by rw [hE]; exact hM2'
       have r3 : E.app rb nb [[pI 1, pI LV, pS ⟨#[]⟩]] = RR2 := by rw [hE]; show rb.take nb ++ [[pI 1, pI LV, pS ⟨#[]⟩]] = RR2; rw [show nb = rb.length by omega, List.take_length]; exact hRR2
       have p6 : E.pre 0 1 [[pI 1, pI LV, pS ⟨#[]⟩]] := by rw [hE]; exact Nat.le_refl 1
       have q1 : E.sub [[pI 1, pI LV, pS ⟨#[]⟩]] 0 1 = [[pI 1, pI LV, pS ⟨#[]⟩]] := by rw [hE]; rfl
       have g0 : WR[E.nat 0]? = some [pS w0] := by rw [n0]; exact hW0
       have q0 : E.eq w0 ⟨#[99, 111, 110, 115, 116]⟩ = true := by rw [hE]; exact decide_eq_true hc0
       clear hE hc hM hμ e1 e2 e3 e4 e5 e6 e7 e8 e9 e10 hf hfl hWR hW' hend2 hgp hsl hsn hnu hli hpi htp hhp hop hfo hfm hnone hfirst hr hmW hlW hb1 hb2 hb3 hl1 hl2 hl3 hgl hll hl hnx hline hRR2 hM2' hLV hLE hRL hrs hpq hd hdr hW0 hWl hWd hnW hmem hpl hPl hn hn1 hW
       cbv
       repeat (first | (refine ⟨p0,_,g0,?_⟩; cbv) | (simp only [q0]; cbv) | simp only [q0] | (refine ⟨_, htp1,?_⟩; cbv) | (refine ⟨_, hhp1,?_⟩; cbv) | (refine ⟨_, hpi1,?_⟩; cbv) | (refine ⟨p6,p5,p4,?_⟩; cbv) | (refine ⟨p5,p4,?_⟩; cbv) | (simp only [q1]; cbv) | simp only [q1] | (simp only [r3,a2]; cbv) | simp only [r3,a2])
       exact .mk ⟨i2, nm, k, p, lc, ra, na, RR2, M2, rc, nc⟩ ⟨rfl, rfl, rfl, rfl, rfl⟩ hfin
     ·rcases Classical.em (w0 = wHandler) with hc1 | hc1
      ·have hnum := hnu ws (fun w hw => by have := hmW w (List.mem_cons_of_mem _ hw); omega) (by simp only [List.length_cons] at hlW; omega) 5 (.inr (.inr rfl))
       rw [show numsR ws 5 = [[pI (numAt ws 0)], [pI (numAt ws 1)], [pI (numAt ws 2)], [pI (numAt ws 3)], [pI (numAt ws 4)]] from rfl] at hnum
       have hline : lineP l f = { f with hdls := f.hdls ++ [⟨numAt ws 0, numAt ws 1, numAt ws 2, numAt ws 3, numAt ws 4⟩] } := by
        unfold lineP
        rw [hd, hdr, if_neg hc0, if_pos hc1]
       generalize numAt ws 0 = z0 at hnum hline
       generalize numAt ws 1 = z1 at hnum hline
       generalize numAt ws 2 = z2 at hnum hline
       generalize numAt ws 3 = z3 at hnum hline
       generalize numAt ws 4 = z4 at hnum hline
       rw [<-hWd] at hnum
       obtain ⟨RR2, hRR2⟩ : ∃ y, rc ++ [[pI z0, pI z1, pI z2, pI z3, pI z4]] = y := ⟨_, rfl⟩
       obtain ⟨M2, hM2'⟩ : ∃ y, nc + 1 = y := ⟨_, rfl⟩
       obtain ⟨WD, hWD⟩ : ∃ y, WR.drop 1 = y := ⟨_, rfl⟩
       rw [hWD] at hnum
       have hfin : LnPI s ps ⟨i2, nm, k, p, lc, ra, na, rb, nb, RR2, M2⟩ /\ i2 = i2 := by
        rw [hline] at hnx
        unfold gOf at hnx
        simp only at hnx
        rw [<-pHdls_app, List.length_append, <- e1, <- e2, <- e3, <- e4, <- e5, <- e6, <- e7, <- e8, <- e9, <- e10] at hnx
        rw [<-hRR2, <- hM2']
        exact ⟨hnx, rfl⟩
       refine Seg.of0 tyT_ok mixed (fun n => match n with | 17 => 6 | 22 => 19 | 7 => 14 | _ => 0) (by kernel_rfl) fun P G E hc hM hE => ?_
       replace hnum := hc _ _ _ hnum
       have p0 : E.ple 0 0 := by rw [hE]; exact Int.le_refl 0
       have p01 : E.ple 0 1 := by rw [hE]; show (0 : Int) <= 1; decide
       have n0 : E.nat 0 = 0 := by rw [hE]; rfl
       have n1 : E.nat 1 = 1 := by rw [hE]; rfl
       have n2 : E.nat 2 = 2 := by rw [hE]; rfl
       have n3 : E.nat 3 = 3 := by rw [hE]; rfl
       have n4 : E.nat 4 = 4 := by rw [hE]; rfl
       have n5 : E.nat 5 = 5 := by rw [hE]; rfl
       have p02 : E.ple 0 2 := by rw [hE]; show (0 : Int) <= 2; decide
       have p03 : E.ple 0 3 := by rw [hE]; show (0 : Int) <= 3; decide
       have p04 : E.ple 0 4 := by rw [hE]; show (0 : Int) <= 4; decide
       have p4 : E.room nc 1 40 := by rw [hE]; exact ⟨by unfold maxLen; omega, by omega⟩
       have p5 : E.pre 0 nc rc := by rw [hE]; show 0 + nc <= rc.length; omega
       have a2 : E.addN nc 1 = M2 := by rw [hE]; exact hM2'
       have r3 : E.app rc nc [[pI z0, pI z1, pI z2, pI z3, pI z4]] = RR2 := by rw [hE]; show rc.take nc ++ [[pI z0, pI z1, pI z2, pI z3, pI z4]] = RR2; rw [show nc = rc.length by omega, List.take_length]; exact hRR2
       have p6 : E.pre 0 1 [[pI z0, pI z1, pI z2, pI z3, pI z4]] := by rw [hE]; exact Nat.le_refl 1
       have q1 : E.sub [[pI z0, pI z1, pI z2, pI z3, pI z4]] 0 1 = [[pI z0, pI z1, pI z2, pI z3, pI z4]] := by rw [hE]; rfl
       have g0 : WR[E.nat 0]? = some [pS w0] := by rw [n0]; exact hW0
       have q0 : E.eq w0 ⟨#[99, 111, 110, 115, 116]⟩ = false := by rw [hE]; exact decide_eq_false hc0
       have q2 : E.eq w0 ⟨#[104, 97, 110, 100, 108, 101, 114]⟩ = true := by rw [hE]; exact decide_eq_true hc1
       have lw : E.ofN WR.length = nW := by rw [hE]; exact hnW
       have p1w : E.ple 1 nW := by rw [hE]; show (1 : Int) <= nW; omega
       have pww : E.ple nW nW := by rw [hE]; exact Int.le_refl nW
       have cw : E.cut WR (E.nat 1) (E.nat nW) = WD := by rw [hE, <- hWD, <- hnW]; show (WR.take ((WR.length : Nat) : Int).toNat).drop 1 = _; rw [Int.toNat_natCast, List.take_length]
       clear hE hc hM hμ e1 e2 e3 e4 e5 e6 e7 e8 e9 e10 hf hfl hWR hW' hend2 hgp hsl hsn hnu hli hpi htp hhp hop hfo hfm hnone hfirst hr hmW hlW hb1 hb2 hb3 hl1 hl2 hl3 hgl hll hl hnx hline hRR2 hM2' hWD hd hdr hW0 hWl hWd hnW hmem hpl hPl hn hn1 hW
       cbv at lw
       cbv
       repeat (first | (refine ⟨p0,_,g0,?_⟩; cbv) | (simp only [q0]; cbv) | simp only [q0] | (refine ⟨p0,_,g0,?_⟩; cbv) | (simp only [q2]; cbv) | simp only [q2] | (simp only [lw]; cbv) | simp only [lw] | (refine ⟨p01,p1w,pww,?_⟩; cbv) | (simp only [cw]; cbv) | simp only [cw] | (refine ⟨_, hnum,?_⟩; cbv) | (refine ⟨p0,_,rfl,?_⟩; cbv) | (refine ⟨p01,_,rfl,?_⟩; cbv) | (refine ⟨p02,_,rfl,?_⟩; cbv) | (refine ⟨p03,_,rfl,?_⟩; cbv) | (refine ⟨p04,_,rfl,?_⟩; cbv) | (simp only [n0]; cbv) | simp only [n0] | (simp only [n1]; cbv) | simp only [n1] | (simp only [n2]; cbv) | simp only [n2] | (simp only [n3]; cbv) | simp only [n3] | (simp only [n4]; cbv) | simp only [n4] | (refine ⟨p6,p5,p4,?_⟩; cbv) | (refine ⟨p5,p4,?_⟩; cbv) | (simp only [q1]; cbv) | simp only [q1] | (simp only [r3,a2]; cbv) | simp only [r3,a2])
       exact .mk ⟨i2, nm, k, p, lc, ra, na, rb, nb, RR2, M2⟩ ⟨rfl, rfl, rfl, rfl, rfl⟩ hfin
      ·have hnum := hnu ws (fun w hw => by have := hmW w (List.mem_cons_of_mem _ hw); omega) (by simp only [List.length_cons] at hlW; omega) 2 (.inl rfl)
       rw [show numsR ws 2 = [[pI (numAt ws 0)], [pI (numAt ws 1)]] from rfl] at hnum
       have hop1 := hop w0
       have hline : lineP l f = { f with code := f.code ++ [⟨opOf w0, numAt ws 0, numAt ws 1⟩] } := by
        unfold lineP
        rw [hd, hdr, if_neg hc0, if_neg hc1]
       generalize numAt ws 0 = z0 at hnum hline
       generalize numAt ws 1 = z1 at hnum hline
       generalize opOf w0 = z2 at hop1 hline
       rw [<-hWd] at hnum
       obtain ⟨RR2, hRR2⟩ : ∃ y, ra ++ [[pI z2, pI z0, pI z1]] = y := ⟨_, rfl⟩
       obtain ⟨M2, hM2'⟩ : ∃ y, na + 1 = y := ⟨_, rfl⟩
       obtain ⟨WD, hWD⟩ : ∃ y, WR.drop 1 = y := ⟨_, rfl⟩
       rw [hWD] at hnum
       have hfin : LnPI s ps ⟨i2, nm, k, p, lc, RR2, M2, rb, nb, rc, nc⟩ /\ i2 = i2 := by
        rw [hline] at hnx
        unfold gOf at hnx
        simp only at hnx
        rw [<-pCode_app, List.length_append, <- e1, <- e2, <- e3, <- e4, <- e5, <- e6, <- e7, <- e8, <- e9, <- e10] at hnx
        rw [<-hRR2, <- hM2']
        exact ⟨hnx, rfl⟩
       refine Seg.of0 tyT_ok mixed (fun n => match n with | 17 => 6 | 22 => 19 | 7 => 14 | _ => 0) (by kernel_rfl) fun P G E hc hM hE => ?_
       replace hnum := hc _ _ _ hnum
       replace hop1 := hc _ _ _ hop1
       have p0 : E.ple 0 0 := by rw [hE]; exact Int.le_refl 0
       have p01 : E.ple 0 1 := by rw [hE]; show (0 : Int) <= 1; decide
       have n0 : E.nat 0 = 0 := by rw [hE]; rfl
       have n1 : E.nat 1 = 1 := by rw [hE]; rfl
       have n2 : E.nat 2 = 2 := by rw [hE]; rfl
       have n3 : E.nat 3 = 3 := by rw [hE]; rfl
       have n4 : E.nat 4 = 4 := by rw [hE]; rfl
       have n5 : E.nat 5 = 5 := by rw [hE]; rfl
       have p02 : E.ple 0 2 := by rw [hE]; show (0 : Int) <= 2; decide
       have p03 : E.ple 0 3 := by rw [hE]; show (0 : Int) <= 3; decide
       have p04 : E.ple 0 4 := by rw [hE]; show (0 : Int) <= 4; decide
       have p4 : E.room na 1 24 := by rw [hE]; exact ⟨by unfold maxLen; omega, by omega⟩
       have p5 : E.pre 0 na ra := by rw [hE]; show 0 + na <= ra.length; omega
       have a2 : E.addN na 1 = M2 := by rw [hE]; exact hM2'
       have r3 : E.app ra na [[pI z2, pI z0, pI z1]] = RR2 := by rw [hE]; show ra.take na ++ [[pI z2, pI z0, pI z1]] = RR2; rw [show na = ra.length by omega, List.take_length]; exact hRR2
       have p6 : E.pre 0 1 [[pI z2, pI z0, pI z1]] := by rw [hE]; exact Nat.le_refl 1
       have q1 : E.sub [[pI z2, pI z0, pI z1]] 0 1 = [[pI z2, pI z0, pI z1]] := by rw [hE]; rfl
       have g0 : WR[E.nat 0]? = some [pS w0] := by rw [n0]; exact hW0
       have q0 : E.eq w0 ⟨#[99, 111, 110, 115, 116]⟩ = false := by rw [hE]; exact decide_eq_false hc0
       have q2 : E.eq w0 ⟨#[104, 97, 110, 100, 108, 101, 114]⟩ = false := by rw [hE]; exact decide_eq_false hc1
       have lw : E.ofN WR.length = nW := by rw [hE]; exact hnW
       have p1w : E.ple 1 nW := by rw [hE]; show (1 : Int) <= nW; omega
       have pww : E.ple nW nW := by rw [hE]; exact Int.le_refl nW
       have cw : E.cut WR (E.nat 1) (E.nat nW) = WD := by rw [hE, <- hWD, <- hnW]; show (WR.take ((WR.length : Nat) : Int).toNat).drop 1 = _; rw [Int.toNat_natCast, List.take_length]
       clear hE hc hM hμ e1 e2 e3 e4 e5 e6 e7 e8 e9 e10 hf hfl hWR hW' hend2 hgp hsl hsn hnu hli hpi htp hhp hop hfo hfm hnone hfirst hr hmW hlW hb1 hb2 hb3 hl1 hl2 hl3 hgl hll hl hnx hline hRR2 hM2' hWD hd hdr hW0 hWl hWd hnW hmem hpl hPl hn hn1 hW
       cbv at lw
       cbv
       repeat (first | (refine ⟨p0,_,g0,?_⟩; cbv) | (simp only [q0]; cbv) | simp only [q0] | (refine ⟨p0,_,g0,?_⟩; cbv) | (simp only [q2]; cbv) | simp only [q2] | (simp only [lw]; cbv) | simp only [lw] | (refine ⟨p01,p1w,pww,?_⟩; cbv) | (simp only [cw]; cbv) | simp only [cw] | (refine ⟨_, hnum,?_⟩; cbv) | (refine ⟨_, hop1,?_⟩; cbv) | (refine ⟨p0,_,rfl,?_⟩; cbv) | (refine ⟨p01,_,rfl,?_⟩; cbv) | (simp only [n0]; cbv) | simp only [n0] | (simp only [n1]; cbv) | simp only [n1] | (refine ⟨p6,p5,p4,?_⟩; cbv) | (refine ⟨p5,p4,?_⟩; cbv) | (simp only [q1]; cbv) | simp only [q1] | (simp only [r3,a2]; cbv) | simp only [r3,a2])
       exact .mk ⟨i2, nm, k, p, lc, RR2, M2, rb, nb, rc, nc⟩ ⟨rfl, rfl, rfl, rfl, rfl⟩ hfin
   obtain ⟨nm0, k0, p0, lc0, ra0, na0, rb0, nb0, rc0, nc0, hold⟩ : ∃ a b c d e f g h j l, (⟨i, a, b, c, d, e, f, g, h, j, l⟩ : PG) = ⟨i, nm, k, p, lc, ra, na, rb, nb, rc, nc⟩ := ⟨_, _, _, _, _, _, _, _, _, _, rfl⟩
   rw [<-hold]
   clear hold
   rintro ⟨i', nm, k, p, lc, ra, na, rb, nb, rc, nc⟩ ⟨hI, hi'⟩
   simp only at hi'
   subst hi'
   refine Seg.of0 tyT_ok mixed (fun _ => 0) (by kernel_rfl) fun P G E hc hM hE => ?_
   have ei : E.wadd .i64 i 1 = i' := by rw [hE, <- hi2]; exact wrap_i64_in (by omega) (by omega)
   have hM2 : μ ⟨i', nm, k, p, lc, ra, na, rb, nb, rc, nc⟩ < μ ⟨i, nm0, k0, p0, lc0, ra0, na0, rb0, nb0, rc0, nc0⟩ := by rw [hμ, hμ]; show 60000 - i'.toNat < 60000 - i.toNat; omega
   clear hE hc hM hμ hend2 hgp hsl hsn hnu hli hpi htp hhp hop hfo hfm hnone hf hfl hl hll hgl
   cbv
   repeat (first | (simp only [ei]; cbv) | simp only [ei])
   exact .mk ⟨i', nm, k, p, lc, ra, na, rb, nb, rc, nc⟩ ⟨rfl, rfl, rfl, rfl, rfl⟩ hI hM2
  ·have hin : i = n := by omega
   have hr : rawP s = some f := by
    rcases hf with h | h
    ·omega
    ·rw [h.2, List.drop_of_length_le (by omega)]
     rfl
   have hl1 : ra.length = na := by rw [e5, e6]; unfold pCode; rw [List.length_map]
   have hl2 : rb.length = nb := by rw [e7, e8]; unfold pCons; rw [List.length_map]
   have hl3 : rc.length = nc := by rw [e9, e10]; unfold pHdls; rw [List.length_map]
   have t1 : ra.take na = ra := by rw [<-hl1, List.take_length]
   have t2 : rb.take nb = rb := by rw [<-hl2, List.take_length]
   have t3 : rc.take nc = rc := by rw [<-hl3, List.take_length]
   have hfin : ∃ f, (⟨0, nm, k, p, lc, ra, na, rb, nb, rc, nc⟩ : PG) = gOf 0 f /\ rawP s = some f := ⟨f, by unfold gOf; rw [e1, e2, e3, e4, e5, e6, e7, e8, e9, e10], hr⟩
   have u1 : na <= ra.length := by omega
   have u2 : nb <= rb.length := by omega
   have u3 : nc <= rc.length := by omega
   refine Seg.cutK0 2 143 [] 0 (fun _ : Unit => []) (fun _ => []) (fun _ => False) tyT_ok mixed (fun _ => 0) (by kernel_rfl) ?_ (fun _ h => h.elim)
   intro P G E hc hM hE
   have d1 : E.lti i n = false := by rw [hE]; exact decide_eq_false hlt
   clear hE hc hM hμ hend2 hgp hsl hsn hnu hli hpi htp hhp hop hfo hfm hnone hf e1 e2 e3 e4 e5 e6 e7 e8 e9 e10 hfl hr hl1 hl2 hl3 hin hlt hfirst hW
   cbv
   repeat (first | (simp only [d1]; cbv) | simp only [d1])
   exact .wk ⟨0, nm, k, p, lc, ra, na, rb, nb, rc, nc⟩ _ _ ((wk_frzE (k := 1) (j := 4) (l := 2) rfl rfl rfl u1 t1).trans ((wk_frzE (k := 1) (j := 5) (l := 3) rfl rfl rfl u2 t2).trans (wk_frzE (k := 1) (j := 6) (l := 4) rfl rfl rfl u3 t3))) ⟨rfl, rfl, rfl, rfl, rfl⟩ hfin
 rintro y ⟨f, hy, hraw⟩
 subst hy
 have hv := hend2 f hraw
 have hw := hW f hraw
 have hsz := sz_of (f := f) (by omega)
 have hfo1 := hfo f hsz
 have hfmo := fun (h : formedB f 4096 = true) => hfm f (fm_of h (Int.le_refl _) hw.2.z (by omega))
 clear hsz hw hW hnone hfirst hts hsp hgp hsl hsn hnu hli hpi htp hhp hop hfo hfm hμ hraw hend2
 unfold gOf
 unfold pFn at hfo1 hfmo hv
 cases hB : formedB f 4096 with
 | false =>
  rw [hB, if_neg (by simp)] at hv
  rw [hB] at hfo1
  subst hv
  clear hfmo
  generalize pCode f.code = c1 at hfo1 ⊢
  generalize pCons f.consts = c2 at hfo1 ⊢
  generalize pHdls f.hdls = c3 at hfo1 ⊢
  generalize f.name = x1 at hfo1 ⊢
  generalize f.kind = x2 at hfo1 ⊢
  generalize f.params = x3 at hfo1 ⊢
  generalize f.locals = x4 at hfo1 ⊢
  refine Seg.of0 tyT_ok mixed (fun _ => 0) (by kernel_rfl) fun P G E hc hM hE => ?_
  replace hfo1 := hc _ _ _ hfo1
  clear hE hc hM hB
  cbv
  repeat (first | (refine ⟨_, hfo1,?_⟩; cbv))
  all_goals trivial
 | true =>
  have hfm1 := hfmo hB
  rw [hB] at hfo1
  obtain ⟨FT, hFT⟩ : ∃ y, bL (fmtB f) = y := ⟨_, rfl⟩
  rw [hFT] at hfm1 hv
  clear hfmo
  rcases Classical.em (FT = s) with he | he
  ·rw [if_pos ⟨hB, he⟩] at hv
   subst hv
   clear hB hFT
   generalize pCode f.code = c1 at hfo1 hfm1 ⊢
   generalize pCons f.consts = c2 at hfo1 hfm1 ⊢
   generalize pHdls f.hdls = c3 at hfo1 hfm1 ⊢
   generalize f.name = x1 at hfo1 hfm1 ⊢
   generalize f.kind = x2 at hfo1 hfm1 ⊢
   generalize f.params = x3 at hfo1 hfm1 ⊢
   generalize f.locals = x4 at hfo1 hfm1 ⊢
   refine Seg.of0 tyT_ok mixed (fun _ => 0) (by kernel_rfl) fun P G E hc hM hE => ?_
   replace hfo1 := hc _ _ _ hfo1
   replace hfm1 := hc _ _ _ hfm1
   have d1 : E.eq FT s = true := by rw [hE]; exact decide_eq_true he
   clear hE hc hM he
   cbv
   repeat (first | (refine ⟨_, hfo1,?_⟩; cbv) | (refine ⟨_, hfm1,?_⟩; cbv) | (simp only [d1]; cbv) | simp only [d1])
   all_goals trivial
  ·rw [if_neg (fun h => he h.2)] at hv
   subst hv
   clear hB hFT
   generalize pCode f.code = c1 at hfo1 hfm1 ⊢
   generalize pCons f.consts = c2 at hfo1 hfm1 ⊢
   generalize pHdls f.hdls = c3 at hfo1 hfm1 ⊢
   generalize f.name = x1 at hfo1 hfm1 ⊢
   generalize f.kind = x2 at hfo1 hfm1 ⊢
   generalize f.params = x3 at hfo1 hfm1 ⊢
   generalize f.locals = x4 at hfo1 hfm1 ⊢
   refine Seg.of0 tyT_ok mixed (fun _ => 0) (by kernel_rfl) fun P G E hc hM hE => ?_
   replace hfo1 := hc _ _ _ hfo1
   replace hfm1 := hc _ _ _ hfm1
   have d1 : E.eq FT s = false := by rw [hE]; exact decide_eq_false he
   clear hE hc hM he
   cbv
   repeat (first | (refine ⟨_, hfo1,?_⟩; cbv) | (refine ⟨_, hfm1,?_⟩; cbv) | (simp only [d1]; cbv) | simp only [d1])
   all_goals trivial
end Go.Proofs.YtjefbgfohijaoaaGreatDoor
