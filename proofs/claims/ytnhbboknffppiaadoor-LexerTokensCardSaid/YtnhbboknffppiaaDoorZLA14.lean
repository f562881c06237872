/- Own work: package knapsackref25: Before, Lex. -/
import Derived.Test.YtnhbboknffppiaaDoorZLA13
import Derived.Test.YtnhbboknffppiaaDoorZLC2
namespace Go.Proofs.YtnhbboknffppiaaDoor
open Go.RowKit
set_option maxRecDepth 100000
set_option linter.unusedSimpArgs false

/-- what Before returns -/
def befR (s : ByteArray) : PV := match lexB s.data.toList with
  | (ts, none) => .tup [.ro 3 (tkRows (s.size : Nat) ts), pI 0, pI 0]
  | (ts, some p) => .tup [.ro 3 (tkRows (s.size : Nat) ts), pI ((s.size : Nat) - (p.1 : Nat)), pI p.2]
def befQ (n : Int) (TS : List Tk) (ER : Option (Nat × Int)) : PV := match ER with
  | none => .tup [.ro 3 (tkRows n TS), pI 0, pI 0]
  | some p => .tup [.ro 3 (tkRows n TS), pI (n - (p.1 : Nat)), pI p.2]
set_option maxHeartbeats 4000000 in
theorem before_ret (s : ByteArray) (hs : s.size ≤ 900000) : V0 19 [pS s] (befR s) := by
  obtain ⟨TS, ER, hL⟩ : ∃ a b, lexB s.data.toList = (a, b) := ⟨_, _, rfl⟩
  have hres : befR s = befQ (s.size : Nat) TS ER := by
    unfold befR befQ
    rw [hL]
    cases ER <;> rfl
  obtain ⟨n, hn⟩ : ∃ n : Int, ((s.size : Nat) : Int) = n := ⟨_, rfl⟩
  rw [hres, hn]
  have hI0 : ScI s n TS ER (0, 0, []) := ⟨Int.le_refl _, by show 0 ≤ n; omega, [], rfl, rfl, by show (0 : Int) ≤ 0; omega, by show TS = [] ++ (lexB s.data.toList).1; rw [hL]; rfl, by show ER = (lexB s.data.toList).2; rw [hL]⟩
  obtain ⟨RV, hRV⟩ : ∃ x, befQ n TS ER = x := ⟨_, rfl⟩
  rw [hRV]
  obtain ⟨μ, hμ⟩ : ∃ μ : Int → Nat, ∀ x, μ x = 2000000000 - x.toNat := ⟨_, fun _ => rfl⟩
  have hsk := fun (i : Int) (r : Bs) (b : Bool) (e : Int) (h0 : 0 ≤ i) (h1 : i ≤ n) (hR : skp (rst s i) = (r, b)) (he : n - (r.length : Nat) = e) => show V0 29 [pS s, pI i] (.tup [pI e, pB b]) from he ▸ hn ▸ rskip_ret s i r b h0 (by omega) (by omega) hR
  have hnx := fun (i : Int) (h0 : 0 ≤ i) (h1 : i < n) => rtok_ret s i h0 (by omega) hs
  refine ret_by tyT_ok g0_gr mixed (fun _ => 0) Tryd.func19 rfl (by kernel_rfl) (by kernel_rfl) rfl fun P G E hc hE => ?_
  replace hsk := fun (i : Int) (r : Bs) (b : Bool) (e : Int) (h0 : 0 ≤ i) (h1 : i ≤ n) (hR : skp (rst s i) = (r, b)) (he : n - (r.length : Nat) = e) => hc _ _ _ (hsk i r b e h0 h1 hR he)
  replace hnx := fun (i : Int) (h0 : 0 ≤ i) (h1 : i < n) => hc _ _ _ (hnx i h0 h1)
  have z1 : E.size s = n := by rw [hE]; exact hn
  have d0 : E.lti 1048576 n = false := by rw [hE]; exact decide_eq_false (by omega)
  have eadd : ∀ a b : Int, -1000000000 ≤ a → a ≤ 1000000000 → -1000000000 ≤ b → b ≤ 1000000000 → E.wadd .i64 a b = a + b := fun a b h0 h1 h2 h3 => by rw [hE]; exact wrap_i64_in (by omega) (by omega)
  have eroom : ∀ m : Nat, m ≤ 2000000 → E.room m 1 32 := fun m h => by rw [hE]; exact ⟨by unfold maxLen; omega, by omega⟩
  have eaddN : ∀ m : Nat, E.addN m 1 = m + 1 := fun m => by rw [hE]; rfl
  have eapp : ∀ (rs : List (List PV)) (m : Nat) x, m = rs.length → E.app rs m [x] = rs ++ [x] := fun rs m x h => by rw [hE]; show rs.take m ++ [x] = _; rw [h, List.take_length]
  have epre : ∀ (m : Nat) (rs : List (List PV)), m ≤ rs.length → E.pre 0 m rs := fun m rs h => by rw [hE]; show 0 + m ≤ rs.length; omega
  have esub : ∀ (m : Nat) (rs : List (List PV)), m = rs.length → E.sub rs 0 m = rs := fun m rs h => by rw [hE]; show (rs.drop 0).take m = rs; rw [List.drop_zero, h, List.take_length]
  have es1 : ∀ x : List PV, E.sub [x] 0 1 = [x] := fun x => by rw [hE]; rfl
  clear hE hc
  cbv
  repeat (first | (simp only [z1]; cbv) | simp only [z1] | (simp only [d0]; cbv) | simp only [d0])
  refine LoopA.wk (wk_nilS (d := 5) 3 30 rfl) ?_
  refine loop_by 49 [0, 5, 6] 1 (fun x : Int × Nat × List (List PV) => [.p (pS s), .osl 0 0 x.2.1, .p (pI x.1)]) (fun x => [some (.rows 3 x.2.2 30)]) (ScI s n TS ER) (fun x => μ x.1) (0, 0, []) ⟨rfl, rfl, rfl, rfl, rfl⟩ hI0 ?_
  clear hI0 d0
  rintro ⟨i, m, rs⟩ ⟨i0, i1, done, hrs, hm, hdl, hTS, hER⟩
  simp only at i0 i1 hrs hm hdl hTS hER
  replace hn : ((s.size : Nat) : Int) = n := hn
  replace hm : done.length = m := hm
  replace hdl : ((done.length : Nat) : Int) ≤ i := hdl
  have hrl := rst_len s i
  obtain ⟨r, b, hrb⟩ : ∃ r b, skp (rst s i) = (r, b) := ⟨_, _, rfl⟩
  have hle := skp_le (rst s i)
  rw [hrb] at hle
  simp only at hle
  obtain ⟨v, hv⟩ := skp_suf (rst s i)
  rw [hrb] at hv
  simp only at hv
  obtain ⟨f, hf⟩ : ∃ x : Int, n - (r.length : Nat) = x := ⟨_, rfl⟩
  have hs1 := hsk i r b f i0 i1 hrb hf
  have hlv : (rst s i).length = v.length + r.length := by rw [hv, List.length_append]
  have hrf : r = rst s f := by
    have := suf_rst i0 hv
    rw [show i + ((v.length : Nat) : Int) = f by omega] at this
    exact this
  have hat := skp_at _ r b hrb
  have hml : m = rs.length := by rw [hrs, tkRows_len, hm]
  have p0 := epre m rs (by omega)
  have t0 := esub m rs hml
  cases b with
  | false =>
    have hx := lex_open uB repairL hrb
    change lexB (rst s i) = _ at hx
    rw [hx] at hTS hER
    simp only [List.append_nil] at hTS hER
    have hv2 : RV = .tup [.ro 3 rs, pI f, pI 4] := by
      rw [← hRV, hER, hTS, hrs, ← hf]
      rfl
    subst hv2
    clear hRV hnx hsk hrs hm hdl hTS hER hrl hrb hle hv hf hlv hrf hat hx hμ hn hs hL hres eadd eroom eaddN eapp epre esub es1 hml
    cbv
    repeat (first | (refine ⟨_, hs1, ?_⟩; cbv) | (refine ⟨p0, ?_⟩; cbv) | (simp only [t0]; cbv) | simp only [t0])
    all_goals trivial
  | true =>
    rcases hat.2 rfl with hrn | ⟨c, r', hrc, hw, hk⟩
    · have hx := lex_end uB repairL (l := rst s i) (by rw [hrb, hrn])
      change lexB (rst s i) = _ at hx
      rw [hx] at hTS hER
      simp only [List.append_nil] at hTS hER
      have hv2 : RV = .tup [.ro 3 rs, pI 0, pI 0] := by rw [← hRV, hER, hTS, hrs]; rfl
      have hfn : f = n := by rw [← hf, hrn]; show n - 0 = n; omega
      have d1 : decide (n = n) = true := decide_eq_true rfl
      subst hv2 hfn
      clear hRV hnx hsk hrs hm hdl hTS hER hrl hrb hle hv hf hlv hrf hat hx hμ hn hs hL hrn hres eadd eroom eaddN eapp epre esub es1 hml
      cbv
      repeat (first | (refine ⟨_, hs1, ?_⟩; cbv) | (simp only [z1]; cbv) | simp only [z1] | (simp only [d1]; cbv) | simp only [d1] | (refine ⟨p0, ?_⟩; cbv) | (simp only [t0]; cbv) | simp only [t0])
      all_goals trivial
    · have hr0 : 0 < r.length := by rw [hrc]; simp
      have d1 : decide (f = n) = false := decide_eq_false (by omega)
      have hnx1 := hnx f (by omega) (by omega)
      cases htok : tokL uB repairL r with
      | bad e =>
        have hx := lex_bad uB repairL hrb (by rw [hrc]; exact List.cons_ne_nil _ _) htok
        change lexB (rst s i) = _ at hx
        rw [hx] at hTS hER
        simp only [List.append_nil] at hTS hER
        rw [rtokR_bad (by rw [← hrf]; exact htok)] at hnx1
        have he0 : decide (e = 0) = false := decide_eq_false (tok_bad_ne htok)
        have hv2 : RV = .tup [.ro 3 rs, pI f, pI e] := by
          rw [← hRV, hER, hTS, hrs, ← hf]
          rfl
        subst hv2
        clear hRV hnx hsk hrs hm hdl hTS hER hrl hrb hle hv hf hlv hrf hat hx hμ hn hs hL hrc hw hk hr0 htok hres eadd eroom eaddN eapp epre esub es1 hml
        cbv
        repeat (first | (refine ⟨_, hs1, ?_⟩; cbv) | (simp only [z1]; cbv) | simp only [z1] | (simp only [d1]; cbv) | simp only [d1] | (refine ⟨_, hnx1, ?_⟩; cbv) | (simp only [he0]; cbv) | simp only [he0] | (refine ⟨p0, ?_⟩; cbv) | (simp only [t0]; cbv) | simp only [t0])
        all_goals trivial
      | ok k t r2 =>
        have hx := lex_tok uB repairL hrb htok
        change lexB (rst s i) = (_ :: (lexB r2).1, (lexB r2).2) at hx
        rw [hx] at hTS hER
        simp only at hTS hER
        rw [rtokR_ok (by rw [← hrf]; exact htok), hn] at hnx1
        unfold pTk at hnx1
        have hlt := tok_lt uB repairL htok
        obtain ⟨w, hw1, hw2, _⟩ := tokL_app uB repairL htok
        obtain ⟨e1, he1⟩ : ∃ x : Int, n - (r2.length : Nat) = x := ⟨_, rfl⟩
        rw [he1] at hnx1
        obtain ⟨e2, he2⟩ : ∃ x : Int, e1 - f = x := ⟨_, rfl⟩
        rw [he2] at hnx1
        have hrf2 : rst s f = w ++ r2 := by rw [← hrf, hw2]
        have hrl2 := congrArg List.length hw2
        rw [List.length_append] at hrl2
        have hr2 : r2 = rst s e1 := by
          have := suf_rst (by omega) hrf2
          rw [show f + ((w.length : Nat) : Int) = e1 by omega] at this
          exact this
        obtain ⟨T, hT⟩ : ∃ x, bL t = x := ⟨_, rfl⟩
        rw [hT] at hnx1
        obtain ⟨RS2, hRS2⟩ : ∃ x, rs ++ [[pI k, pS T, pI f]] = x := ⟨_, rfl⟩
        have a1 := eapp rs m [pI k, pS T, pI f] hml
        rw [hRS2] at a1
        have a2 := eaddN m
        obtain ⟨m1, hm1⟩ : ∃ x, m + 1 = x := ⟨_, rfl⟩
        rw [hm1] at a2
        have a3 := es1 [pI k, pS T, pI f]
        have p4 := eroom m (by omega)
        have p5 := epre 1 [[pI k, pS T, pI f]] (Nat.le_refl 1)
        have e5 := eadd f e2 (by omega) (by omega) (by omega) (by omega)
        rw [show f + e2 = e1 by omega] at e5
        have hI2 : ScI s n TS ER (e1, m1, RS2) := by
          refine ⟨by show 0 ≤ e1; omega, by show e1 ≤ n; omega, done ++ [⟨k, t, r.length⟩], ?_, ?_, ?_, ?_, ?_⟩
          · show RS2 = _
            rw [← hRS2, tkRows_app, hrs]
            show _ = tkRows n done ++ [[pI k, pS (bL t), pI (n - (r.length : Nat))]]
            rw [hT, hf]
          · show (done ++ [_]).length = m1
            rw [List.length_append, hm]
            exact hm1
          · show (((done ++ [(⟨k, t, r.length⟩ : Tk)]).length : Nat) : Int) ≤ e1
            rw [List.length_append, List.length_singleton]
            omega
          · show TS = (done ++ [_]) ++ (lexB (rst s e1)).1
            rw [hTS, ← hr2]
            simp
          · show ER = (lexB (rst s e1)).2
            rw [hER, ← hr2]
        have hM2 : μ e1 < μ i := by rw [hμ, hμ]; omega
        have f0 : decide ((0 : Int) = 0) = true := rfl
        clear hRV hnx hsk hrs hm hdl hTS hER hrl hrb hle hv hf hlv hrf hat hx hμ hn hs hL hrc hw hk hr0 htok hlt hw1 hw2 he1 he2 hrf2 hrl2 hr2 hT hml hRS2 hm1 hres eadd eroom eaddN eapp epre esub es1 t0
        cbv
        repeat (first | (refine ⟨_, hs1, ?_⟩; cbv) | (simp only [z1]; cbv) | simp only [z1] | (simp only [d1]; cbv) | simp only [d1] | (refine ⟨_, hnx1, ?_⟩; cbv) | (simp only [f0]; cbv) | simp only [f0] | (refine ⟨p5,p0,p4, ?_⟩; cbv) | (simp only [a3,a1,a2]; cbv) | simp only [a3,a1,a2] | (simp only [e5]; cbv) | simp only [e5])
        refine .mk (e1, m1, RS2) ⟨rfl, rfl, rfl, rfl, rfl⟩ ?_ ?_
        · exact hI2
        · exact hM2
set_option maxHeartbeats 2000000 in
theorem rlex_ret (s : ByteArray) (hs : s.size ≤ 900000) : V0 13 [pS s] (lexR s) := by
  have hb := before_ret s hs
  unfold befR at hb
  obtain ⟨TS, ER, hL⟩ : ∃ a b, lexB s.data.toList = (a, b) := ⟨_, _, rfl⟩
  rw [hL] at hb
  cases ER with
  | none =>
    rw [lexR_ok hL]
    simp only at hb
    generalize tkRows (s.size : Nat) TS = RS at *
    have f0 : decide ((0 : Int) = 0) = true := rfl
    refine ret_by tyT_ok g0_gr mixed (fun _ => 0) Tryd.func13 rfl (by kernel_rfl) (by kernel_rfl) rfl fun P G E hc hE => ?_
    replace hb := hc _ _ _ hb
    clear hE hc hL
    cbv
    repeat (first | (refine ⟨_, hb, ?_⟩; cbv) | (simp only [f0]; cbv) | simp only [f0])
  | some p =>
    obtain ⟨m, e⟩ := p
    rw [lexR_bad hL]
    have he : e ≠ 0 := lexF_ne _ _ m e (congrArg Prod.snd hL)
    have d1 : decide (e = 0) = false := decide_eq_false he
    simp only at hb
    generalize tkRows (s.size : Nat) TS = RS at *
    obtain ⟨f, hf⟩ : ∃ x : Int, ((s.size : Nat) : Int) - (m : Nat) = x := ⟨_, rfl⟩
    rw [hf] at hb ⊢
    refine ret_by tyT_ok g0_gr mixed (fun _ => 0) Tryd.func13 rfl (by kernel_rfl) (by kernel_rfl) rfl fun P G E hc hE => ?_
    replace hb := hc _ _ _ hb
    clear hE hc hL he hf
    cbv
    repeat (first | (refine ⟨_, hb, ?_⟩; cbv) | (simp only [d1]; cbv) | simp only [d1])
end Go.Proofs.YtnhbboknffppiaaDoor
