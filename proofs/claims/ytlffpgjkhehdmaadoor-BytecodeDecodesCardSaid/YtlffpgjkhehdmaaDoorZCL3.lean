/- Own work: knapsacklaw27.BytecodeDecodes returns true. -/
import Derived.Test.YtlffpgjkhehdmaaDoorZCL2
namespace Go.Proofs.YtlffpgjkhehdmaaDoor
open Go.RowKit
set_option maxRecDepth 100000
set_option linter.unusedSimpArgs false

/-- at the heads of the loops -/
structure UpD (n : Nat) (i : Int) : Prop where
  i0 : 0 ≤ i
  i1 : i ≤ n
set_option maxHeartbeats 2000000 in
theorem ldecodes_ret (d : ByteArray) : RT 12 [pS d] (pB true) := by
  have ha := awake_ret
  obtain ⟨dz, hdz⟩ : ∃ z : Int, ((d.size : Nat) : Int) = z := ⟨_, rfl⟩
  by_cases hbig : 1000 < dz
  · refine ret_by tyT_ok tabs_gr mixed (fun _ => 0) Tryd.func12 rfl (by kernel_rfl) (by kernel_rfl) rfl fun P G E hc hE => ?_
    replace ha := hc _ _ _ ha
    have z1 : E.size d = dz := by rw [hE]; exact hdz
    have z2 : E.lti 1000 dz = true := by rw [hE]; exact decide_eq_true hbig
    clear hE
    cbv
    repeat (first | (refine ⟨_, ha, ?_⟩; cbv) | (simp only [z1]; cbv) | simp only [z1] | (simp only [z2]; cbv) | simp only [z2])
  · have hd := decode_ret d (by omega)
    unfold pDec at hd
    cases hok : decOk d with
    | false =>
      rw [hok] at hd
      simp only [Bool.false_eq_true, if_false] at hd
      unfold pZero at hd
      refine ret_by tyT_ok tabs_gr mixed (fun _ => 0) Tryd.func12 rfl (by kernel_rfl) (by kernel_rfl) rfl fun P G E hc hE => ?_
      replace ha := hc _ _ _ ha
      replace hd := hc _ _ _ hd
      have z1 : E.size d = dz := by rw [hE]; exact hdz
      have z2 : E.lti 1000 dz = false := by rw [hE]; exact decide_eq_false hbig
      have k2 : E.ofN 0 = 0 := by rw [hE]; rfl
      clear hE
      cbv
      repeat (first | (refine ⟨_, ha, ?_⟩; cbv) | (simp only [z1]; cbv) | simp only [z1] | (simp only [z2]; cbv) | simp only [z2] | (refine ⟨_, hd, ?_⟩; cbv) | (simp only [k2]; cbv) | simp only [k2])
    | true =>
      rw [hok] at hd
      simp only [if_true] at hd
      obtain ⟨hpf, hbs, hbl, hR⟩ := dec_ok hok (by omega)
      have hcd := rProg_d d
      have hws := rProg_sz d (by omega)
      have hln := rProg_len d
      obtain ⟨fs, hfs⟩ : ∃ x, (rProg d).1 = x := ⟨_, rfl⟩
      rw [hfs] at hd hpf hbs hbl hR hcd hws hln
      have hf := rformed_ret fs hws (by omega)
      rw [hpf] at hf
      have hre := upV (rencode_r fs (by omega) hln hR)
      rw [hbs] at hre
      have hg : ∀ (k : Nat) x, fs[k]? = some x → (pFns fs)[k]? = some (pFn x) := fun k x h => pFns_at h
      have hl : (pFns fs).length = fs.length := by simp [pFns]
      have hcc : ∀ (k j : Nat) x c, fs[k]? = some x → x.consts[j]? = some c → (pCons x.consts)[j]? = some [pI c.kind, pI c.int, pS c.str] ∧ ((c.kind = 1 ∧ c.str = ⟨#[]⟩) ∨ (c.kind = 2 ∧ c.int = 0)) := fun k j x c hk hj => by
        refine ⟨by unfold pCons; rw [List.getElem?_map, hj]; rfl, ?_⟩
        have h1 := hcd x (List.mem_of_getElem? hk) c (List.mem_of_getElem? hj)
        rcases (hR x (List.mem_of_getElem? hk)).k c (List.mem_of_getElem? hj) with h2 | h2
        · exact .inl ⟨h2, h1.e (by omega)⟩
        · exact .inr ⟨h2, h1.z h2⟩
      have hcl : ∀ (k : Nat) x, fs[k]? = some x → (pCons x.consts).length = x.consts.length ∧ x.consts.length ≤ 10000 := fun k x hk => ⟨by simp [pCons], (hR x (List.mem_of_getElem? hk)).i.l2⟩
      obtain ⟨n, hnn⟩ : ∃ n, fs.length = n := ⟨_, rfl⟩
      obtain ⟨nz, hnz⟩ : ∃ z : Int, ((n : Nat) : Int) = z := ⟨_, rfl⟩
      rw [hnn] at hl hln
      obtain ⟨μ, hμ⟩ : ∃ μ : Int → Nat, ∀ i, μ i = 200000 - i.toNat := ⟨_, fun _ => rfl⟩
      have hx0 : UpD n 0 := ⟨Int.le_refl _, Int.natCast_nonneg _⟩
      unfold pProg at *
      unfold pFn at hg
      generalize pFns fs = F at *
      clear hfs hbs hbl hR hcd hws hpf hok
      refine ret_by tyT_ok tabs_gr mixed (fun _ => 0) Tryd.func12 rfl (by kernel_rfl) (by kernel_rfl) rfl fun P G E hc hE => ?_
      replace ha := hc _ _ _ ha
      replace hd := hc _ _ _ hd
      replace hf := hc _ _ _ hf
      replace hre := hc _ _ _ hre
      have z1 : E.size d = dz := by rw [hE]; exact hdz
      have z2 : E.lti 1000 dz = false := by rw [hE]; exact decide_eq_false hbig
      have k1 : E.eq d d = true := by rw [hE]; exact decide_eq_true rfl
      have k0 : E.eq ⟨#[]⟩ ⟨#[]⟩ = true := by rw [hE]; rfl
      have elt : ∀ a b, E.lti a b = decide (a < b) := fun a b => by rw [hE]; rfl
      have eofn : ∀ n, E.ofN n = (n : Int) := fun n => by rw [hE]; rfl
      have enat : ∀ i, E.nat i = i.toNat := fun i => by rw [hE]; rfl
      have eple : ∀ a b, a ≤ b → E.ple a b := fun a b h => by rw [hE]; exact h
      have eadd : ∀ a b : Int, -1000000 ≤ a → a ≤ 1000000 → -1000000 ≤ b → b ≤ 1000000 → E.wadd .i64 a b = a + b := fun a b h0 h1 h2 h3 => by rw [hE]; exact wrap_i64_in (by omega) (by omega)
      have v1 : E.ofN n = nz := (eofn n).trans hnz
      clear hE
      cbv at hl
      cbv
      repeat (first | (refine ⟨_, ha, ?_⟩; cbv) | (simp only [z1]; cbv) | simp only [z1] | (simp only [z2]; cbv) | simp only [z2] | (refine ⟨_, hd, ?_⟩; cbv))
      refine loop_by 84 [0, 3, 5] 1 (fun i : Int => [.p (pS d), .own 0 0, .p (pI i)]) (fun _ => [some (.box [.p (.ro 7 F)] 33 none)]) (UpD n) μ 0 ⟨rfl, rfl, rfl, rfl, rfl⟩ hx0 ?_
      clear hx0
      rintro i ⟨i0, i1⟩
      replace hnn : fs.length = n := hnn
      replace hnz : ((n : Nat) : Int) = nz := hnz
      replace hln : n ≤ 4096 := hln
      replace i1 : i ≤ (n : Int) := i1
      replace eofn : ∀ n : Nat, E.ofN n = (n : Int) := eofn
      have dd := elt i nz
      by_cases hi : i < nz
      · rw [decide_eq_true hi] at dd
        obtain ⟨x, hx⟩ : ∃ x, fs[i.toNat]? = some x := ⟨_, List.getElem?_eq_getElem (by omega)⟩
        have gr := hg _ _ hx
        rw [← enat] at gr
        have p3 := eple 0 i i0
        have ei := eadd i 1 (by omega) (by omega) (by omega) (by omega)
        have hM2 : μ (E.wadd .i64 i 1) < μ i := by rw [hμ, hμ, ei]; omega
        have hI2 : UpD n (E.wadd .i64 i 1) := by rw [ei]; exact ⟨by omega, by omega⟩
        obtain ⟨hcx, hcm⟩ := hcl _ x hx
        have hcj := fun j c => hcc _ j x c hx
        obtain ⟨nc, hnc⟩ : ∃ n, x.consts.length = n := ⟨_, rfl⟩
        rw [hnc] at hcx hcm
        obtain ⟨CS, hCS⟩ : ∃ y, pCons x.consts = y := ⟨_, rfl⟩
        rw [hCS] at hcx hcj gr
        generalize x.name = x1 at *
        generalize x.kind = x2 at *
        generalize x.params = x3 at *
        generalize x.locals = x4 at *
        generalize pCode x.code = x5 at *
        generalize pHdls x.hdls = x7 at *
        have hy0 : UpD nc 0 := ⟨Int.le_refl _, Int.natCast_nonneg _⟩
        clear hg hcc hcl hx hCS
        cbv at hcx
        cbv
        repeat (first | (simp only [hl]; cbv) | simp only [hl] | (simp only [v1]; cbv) | simp only [v1] | (simp only [dd]; cbv) | simp only [dd])
        refine loop_by 84 [0, 3, 5, 6] 1 (fun j : Int => [.p (pS d), .own 0 0, .p (pI i), .p (pI j)]) (fun _ => [some (.box [.p (.ro 7 F)] 33 none)]) (UpD nc) μ 0 ⟨rfl, rfl, rfl, rfl, rfl⟩ hy0 ?_
        clear hy0
        rintro j ⟨j0, j1⟩
        replace hnc : x.consts.length = nc := hnc
        replace hcm : nc ≤ 10000 := hcm
        replace j1 : j ≤ (nc : Int) := j1
        replace eofn : ∀ n : Nat, E.ofN n = (n : Int) := eofn
        have d2 : E.lti j (E.ofN nc) = decide (j < (nc : Int)) := by rw [eofn, elt]
        rcases Classical.em (j < (nc : Int)) with hj | hj
        · rw [decide_eq_true hj] at d2
          obtain ⟨c, hcc⟩ : ∃ c, x.consts[j.toNat]? = some c := ⟨_, List.getElem?_eq_getElem (by omega)⟩
          obtain ⟨gc, hk⟩ := hcj _ _ hcc
          rw [← enat] at gc
          have p4 := eple 0 j j0
          have ej := eadd j 1 (by omega) (by omega) (by omega) (by omega)
          have hM3 : μ (E.wadd .i64 j 1) < μ j := by rw [hμ, hμ, ej]; omega
          have hI3 : UpD nc (E.wadd .i64 j 1) := by rw [ej]; exact ⟨by omega, by omega⟩
          obtain ⟨ck, ci, cs⟩ := c
          simp only at gc hk
          clear hcj hcc
          rcases hk with ⟨rfl, rfl⟩ | ⟨rfl, rfl⟩
          · have u1 : decide ((1 : Int) = 2) = false := rfl
            have u2 : decide ((1 : Int) = 1) = true := rfl
            cbv
            repeat (first | (refine ⟨p3,_,gr, ?_⟩; cbv) | (simp only [hcx]; cbv) | simp only [hcx] | (simp only [d2]; cbv) | simp only [d2] | (refine ⟨p4,_,gc, ?_⟩; cbv) | (simp only [k0]; cbv) | simp only [k0] | (simp only [u2]; cbv) | simp only [u2] | (simp only [u1]; cbv) | simp only [u1])
            refine .mk (E.wadd .i64 j 1) ⟨rfl, rfl, rfl, rfl, rfl⟩ ?_ ?_
            · exact hI3
            · exact hM3
          · have u1 : decide ((2 : Int) = 2) = true := rfl
            have u2 : decide ((2 : Int) = 1) = false := rfl
            have u3 : decide ((0 : Int) = 0) = true := rfl
            cbv
            repeat (first | (refine ⟨p3,_,gr, ?_⟩; cbv) | (simp only [hcx]; cbv) | simp only [hcx] | (simp only [d2]; cbv) | simp only [d2] | (refine ⟨p4,_,gc, ?_⟩; cbv) | (simp only [u2]; cbv) | simp only [u2] | (simp only [u1]; cbv) | simp only [u1] | (simp only [u3]; cbv) | simp only [u3])
            refine .mk (E.wadd .i64 j 1) ⟨rfl, rfl, rfl, rfl, rfl⟩ ?_ ?_
            · exact hI3
            · exact hM3
        · rw [decide_eq_false hj] at d2
          clear hcj
          cbv
          repeat (first | (refine ⟨p3,_,gr, ?_⟩; cbv) | (simp only [hcx]; cbv) | simp only [hcx] | (simp only [d2]; cbv) | simp only [d2])
          refine .mk (E.wadd .i64 i 1) ⟨rfl, rfl, rfl, rfl, rfl⟩ ?_ ?_
          · exact hI2
          · exact hM2
      · rw [decide_eq_false hi] at dd
        clear hg hcc hcl
        cbv
        repeat (first | (simp only [hl]; cbv) | simp only [hl] | (simp only [v1]; cbv) | simp only [v1] | (simp only [dd]; cbv) | simp only [dd] | (refine ⟨_, hf, ?_⟩; cbv) | (refine ⟨_, hre, ?_⟩; cbv) | (simp only [k1]; cbv) | simp only [k1])
end Go.Proofs.YtlffpgjkhehdmaaDoor
