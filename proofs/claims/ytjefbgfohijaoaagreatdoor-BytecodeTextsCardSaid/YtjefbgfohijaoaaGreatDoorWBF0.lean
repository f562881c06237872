/- Own work: what the text of a function is made of: numbers in decimal, words joined, a line written into a builder. -/
import Derived.Test.YtjefbgfohijaoaaGreatDoorWPD
import Derived.Test.YtjefbgfohijaoaaGreatDoorWLQ2
import Derived.Lib.AppendIntMem
import Derived.Lib.Join
namespace Go.Proofs.YtjefbgfohijaoaaGreatDoor
open Go.RowKit
set_option maxRecDepth 100000
set_option linter.unusedSimpArgs false
structure GZ (w : World) : Prop where
 gl : GL w
 pow10 : Lib.TabIs Tryz.prog w "internal/strconv.uint64pow10" .u64 Lib.pow10Tab
theorem gz_gr : ∀ w w', Gr w w' -> GZ w -> GZ w' := fun w w' hg h => ⟨gl_gr w w' hg h.gl, (Lib.tabBelow_of_tabIs h.pow10) w' hg⟩
abbrev RZ (f : FuncId) (l : List PV) (r : PV) : Prop := Ret Tryz.prog GZ f l r
abbrev MZ (f : FuncId) (l : List AV) (H : AH) (r : AV) (K : AH) : Prop := RetM Tryz.prog GZ f l H r K
theorem lZ {f : FuncId} {l : List PV} {r : PV} (h : RL f l r) : RZ f l r := ⟨h.1, fun w B args hG => h.2 w B args hG.gl⟩
theorem tZ {f : FuncId} {l : List PV} {r : PV} (h : RT f l r) : RZ f l r := ⟨h.1, fun w B args hG => h.2 w B args hG.gl.utf8⟩
theorem vZ {f : FuncId} {l : List PV} {r : PV} (h : V0 f l r) : RZ f l r := lZ (upL h)
theorem mZ {f : FuncId} {l : List AV} {H : AH} {r : AV} {K : AH} (h : VM f l H r K) : MZ f l H r K :=
 ⟨h.1, fun B w ι args tags htl hC => h.2 B w ι args tags htl ⟨fun _ _ => trivial, hC.own⟩⟩
def itoaS (n : Int) : ByteArray := ⟨(Lib.itoa n).toArray⟩
theorem fmtInt_ret (n : Int) (h : -9223372036854775808 <= n /\ n <= 9223372036854775807) : RZ 18 [pI n, pI 10] (pS (itoaS n)) :=
 ret_v Tryz.func18 (by kernel_rfl) (by kernel_rfl) [.int .i64 n, .int .i64 10] _ fun w hG => (Tryz.strconv_FormatInt_10 n h.1 h.2 w hG.pow10).mono fun e w' ⟨h1, k, os, h2⟩ => ⟨_, h1, by subst h2; exact Lib.below_grow _ _ (Nat.le_refl _) _ _, fun _ => .v _⟩
theorem itoa_ret (n : Int) (h : -9223372036854775808 <= n /\ n <= 9223372036854775807) : RZ 43 [pI n] (pS (itoaS n)) :=
 ret_v Tryz.func43 (by kernel_rfl) (by kernel_rfl) [.int .i64 n] _ fun w hG => (Tryz.strconv_Itoa n h.1 h.2 w hG.pow10).mono fun e w' ⟨h1, k, os, h2⟩ => ⟨_, h1, by subst h2; exact Lib.below_grow _ _ (Nat.le_refl _) _ _, fun _ => .v _⟩
theorem digits_ret (n : Int) (h : -9223372036854775808 <= n /\ n <= 9223372036854775807) : RZ 16 [pI n] (pS (itoaS n)) := by
 have hi := itoa_ret n h
 obtain ⟨T, hT⟩ : ∃ T, itoaS n = T := ⟨_, rfl⟩
 rw [hT] at hi ⊢
 clear hT
 refine ret_by tyT_ok gz_gr mixed (fun _ => 0) Tryz.func16 rfl (by kernel_rfl) (by kernel_rfl) rfl fun P G E hc hE => ?_
 replace hi := hc _ _ _ hi
 clear hE hc
 cbv
 repeat (first | (refine ⟨_, hi,?_⟩; cbv))
def pSs (l : List ByteArray) : List (List PV) := l.map fun s => [pS s]
theorem enters2 {P : Program} {G : World -> Prop} {f : FuncId} {a b : PV} {r : PV} (he : ∀ (args : Array Value) (w : World), (callFunc f args).run P w = .ok (.enter f args) w)
  (h : ∀ (w : World) (B : Nat -> Prop) (v u : Value), G w -> RepP w B a v -> RepP w B b u -> Calls P f #[v, u] w fun e w' => Gr w w' /\ Ends w' (fun b => B b \/ w.heap.size <= b) r e) : Ret P G f [a, b] r :=
 ⟨he, fun w B args hG hl hr => by
  match args, hl with
  | [v, u], _ => exact h w B v u hG (hr 0 a v rfl rfl) (hr 1 b u rfl rfl)⟩
theorem repP_str {w : World} {R : Nat -> Prop} {s : ByteArray} {v : Value} (h : RepP w R (pS s) v) : v = .string s := by cases h; rfl
theorem sjoin_ret (xs : List ByteArray) (sep : ByteArray) (h1 : xs.length <= 1000) (h2 : (Lib.join (xs.map (·.data.toList)) sep.data.toList).length <= 100000000) : V0 42 [.ro 1 (pSs xs), pS sep] (pS (bL (Lib.join (xs.map (·.data.toList)) sep.data.toList))) :=
 enters2 (enters Tryz.func42 (by kernel_rfl) (by kernel_rfl)) fun w B v u hG hv hu => by
  have := repP_str hu
  subst this
  have hpl : (pSs xs).length = xs.length := by unfold pSs; rw [List.length_map]
  obtain ⟨R, hR⟩ : ∃ y, pSs xs = y := ⟨_, rfl⟩
  rw [hR] at hv hpl
  cases hv with
  | ro0 s A cap =>
   have : xs = [] := List.eq_nil_of_length_eq_zero (by rw [<-hpl]; rfl)
   subst this
   refine (Tryz.strings_Join_none A cap sep w).mono fun e w' ⟨h3, h4⟩ => ?_
   subst h3 h4
   exact ⟨Gr.refl _, .ret (.v _)⟩
  | ro s rows b o cap vs hRb hb hcap hs hc hr =>
   have hcell : ∀ (j : Nat) x, xs[j]? = some x -> w.cell? ⟨b, o + j, none⟩ = some (.string x) := fun j x hx => by
    have hrow : R[j]? = some [pS x] := by rw [<-hR]; unfold pSs; rw [List.getElem?_map, hx]; rfl
    have h3 := (hc j 0 [pS x] (pS x) hrow rfl).1
    have h4 := repP_str (hr j 0 [pS x] (pS x) hrow rfl)
    rw [h4] at h3
    rw [show o + (j * 1 + 0) = o + j by omega] at h3
    exact h3
   rw [hpl] at hcap ⊢
   exact (Tryz.strings_Join b o cap xs sep w hcell hb (by omega) hcap (by omega)).mono fun e w' ⟨h3, h4⟩ => by
    subst h3
    exact ⟨h4, .ret (.v _)⟩
theorem joinB_inter : ∀ (l : List Bs), [32].intercalate l = joinB l
 | [] => rfl
 | [x] => by simp [List.intercalate, joinB]
 | x :: y :: l => by
  have ih := joinB_inter (y :: l)
  unfold List.intercalate at ih ⊢
  rw [List.intersperse_cons_cons]
  show x ++ ([32] ++ (List.intersperse [32] (y :: l)).flatten) = x ++ 32 :: joinB (y :: l)
  rw [ih]
  rfl
def lnB (ws : List Bs) : Bs := joinB ws ++ [10]
def wB (ws : List ByteArray) : List Bs := ws.map (·.data.toList)
set_option maxHeartbeats 2000000 in
theorem writeString_m (A : AV) (hA : SelfA A) (l : List UInt8) (s : ByteArray) (k : Int) (hk : ((s.size : Nat) : Int) = k) (hb : l.length + s.size <= 1000000000) :
  VM 41 [.own 0 0, .p (pS s)] (bH A l) (.p (.tup [pI k, .v .nilIface])) (bH (.own 0 0) (l ++ s.data.toList)) := by
 have hcc := copyCheck_m A hA l
 unfold bH at hcc ⊢
 obtain ⟨rs, hrs⟩ : ∃ x, lR l = x := ⟨_, rfl⟩
 obtain ⟨m, hm⟩ : ∃ x, l.length = x := ⟨_, rfl⟩
 have hml : m = rs.length := by rw [<-hm, <- hrs, lR_len]
 rw [hrs, hm] at hcc
 rw [hrs, hm]
 rw [hm] at hb
 have hRS : rs ++ lR s.data.toList = lR (l ++ s.data.toList) := by rw [lR_app, hrs]
 have hM : m + s.size = (l ++ s.data.toList).length := by rw [List.length_append, hm]; rfl
 obtain ⟨RS, hRS2⟩ : ∃ x, lR (l ++ s.data.toList) = x := ⟨_, rfl⟩
 obtain ⟨M, hM2⟩ : ∃ x, (l ++ s.data.toList).length = x := ⟨_, rfl⟩
 rw [hRS2] at hRS
 rw [hM2] at hM
 rw [hRS2, hM2]
 obtain ⟨q, hq⟩ : ∃ q : Nat, s.size = q := ⟨_, rfl⟩
 rw [hq] at hM hb
 rcases hA with rfl | rfl
 all_goals
  refine retm_cut tyT_ok (f := 41) Tryz.func41 rfl (by kernel_rfl) (of_decide_eq_true (by kernel_rfl)) fun tags htl => ?_
  match tags, htl with
  | [t0, t1], _ =>
   refine Seg.of tyT_ok mixed (fun _ => 0) (by kernel_rfl) (fun E => retQM E tyT Tryz.f41.results.toList [t0, t1] (.p (.tup [pI k, .v .nilIface])) [some (.box [.own 0 0, .osl 1 0 M] 51 none), some (.rows 1 RS 5)]) fun P G E hc hM3 hE => ?_
   replace hcc := hM3 _ _ _ _ _ hcc
   have z1 : E.size s = k := by rw [hE]; exact hk
   have z2 : E.nat k = q := by rw [hE]; show k.toNat = q; omega
   have p5 : E.pre 0 m rs := by rw [hE]; show 0 + m <= rs.length; omega
   have p4 : E.room m q 1 := by rw [hE]; exact ⟨by unfold maxLen; omega, by omega⟩
   have a2 : E.addN m q = M := by rw [hE]; exact hM
   have r3 : E.app rs m (E.brows s) = RS := by rw [hE]; show rs.take m ++ bytesRows s = RS; rw [hml, List.take_length, lR_bytes]; exact hRS
   clear hE hc hM3 hRS hM hml hrs hm hb hk hq
   cbv
   refine .mk _ _ (Wk.refl _ _) [0, 1] _ _ _ _ hcc rfl rfl rfl ?_
   cbv
   repeat (first | (simp only [z1,z2]; cbv) | simp only [z1,z2] | (refine ⟨p5,p4,?_⟩; cbv) | (simp only [r3,a2]; cbv) | simp only [r3,a2])
   all_goals trivial
theorem join_eq (ws : List ByteArray) : Lib.join (ws.map (·.data.toList)) [32] = joinB (wB ws) := joinB_inter _
set_option maxHeartbeats 2000000 in
theorem line_m (A : AV) (hA : SelfA A) (ws : List ByteArray) (rows : List (List PV)) (hr : pSs ws = rows) (l L2 : Bs) (hL : l ++ lnB (wB ws) = L2) (hb : L2.length <= 90000000) (hw : ws.length <= 100) (m M : Nat) (rs RS : List (List PV)) (hm : l.length = m) (hrs : lR l = rs) (hM : L2.length = M) (hRS : lR L2 = RS) :
  MZ 15 [.own 0 0, .p (.ro 1 rows)] [some (.box [A, .osl 1 0 m] 51 none), some (.rows 1 rs 5)] (.p (.tup [])) [some (.box [.own 0 0, .osl 1 0 M] 51 none), some (.rows 1 RS 5)] := by
 have hll : l.length + ((joinB (wB ws)).length + 1) = L2.length := by rw [<-hL]; unfold lnB; rw [List.length_append, List.length_append, List.length_singleton]
 have hj := vZ (sjoin_ret ws ⟨#[32]⟩ (by omega) (by rw [show (⟨#[32]⟩ : ByteArray).data.toList = [32] from rfl, join_eq]; omega))
 rw [show (⟨#[32]⟩ : ByteArray).data.toList = [32] from rfl, join_eq, hr] at hj
 obtain ⟨J, hJ⟩ : ∃ y, bL (joinB (wB ws)) = y := ⟨_, rfl⟩
 rw [hJ] at hj
 have hJd : J.data.toList = joinB (wB ws) := by rw [<-hJ]; unfold bL; simp
 have hJs : J.size = (joinB (wB ws)).length := by rw [<-hJ]; rfl
 obtain ⟨K, hK⟩ : ∃ y, J ++ ⟨#[10]⟩ = y := ⟨_, rfl⟩
 have hKd : K.data.toList = lnB (wB ws) := by rw [<-hK, ByteArray.data_append, Array.toList_append, hJd]; rfl
 have hKs : K.size = J.size + 1 := by rw [<-hK]; exact ByteArray.size_append
 obtain ⟨k, hk⟩ : ∃ k : Int, ((K.size : Nat) : Int) = k := ⟨_, rfl⟩
 have hws := mZ (writeString_m A hA l K k hk (by omega))
 rw [hKd, hL] at hws
 unfold bH at hws
 rw [hm, hrs, hM, hRS] at hws
 rcases hA with rfl | rfl
 all_goals
  refine retm_cut tyT_ok (f := 15) Tryz.func15 rfl (by kernel_rfl) (of_decide_eq_true (by kernel_rfl)) fun tags htl => ?_
  match tags, htl with
  | [t0, t1], _ =>
   refine Seg.of tyT_ok mixed (fun _ => 0) (by kernel_rfl) (fun E => retQM E tyT Tryz.f15.results.toList [t0, t1] (.p (.tup [])) [some (.box [.own 0 0, .osl 1 0 M] 51 none), some (.rows 1 RS 5)]) fun P G E hc hM3 hE => ?_
   replace hj := hc _ _ _ hj
   replace hws := hM3 _ _ _ _ _ hws
   have j1 : E.add J ⟨#[10]⟩ = K := by rw [hE]; exact hK
   have c1 : E.cat J ⟨#[10]⟩ := by
    rw [hE]
    show ((J.size : Nat) : Int) + 1 <= 9223372036854775807
    omega
   clear hE hc hM3 hll hJ hJd hJs hK hKd hKs hk hL hb hm hrs hM hRS
   cbv
   repeat (first | (refine ⟨_, hj,?_⟩; cbv) | (refine ⟨c1,?_⟩; cbv) | (simp only [j1]; cbv) | simp only [j1])
   refine .mk _ _ (Wk.refl _ _) [0, 1] _ _ _ _ hws rfl rfl rfl ?_
   cbv
   all_goals trivial
end Go.Proofs.YtjefbgfohijaoaaGreatDoor
