/- Own work, plain: what Parse makes of a text; the text of a well-formed function is parsed as the function. -/
import Derived.Test.YtjefbgfohijaoaaGreatDoorWBF3
import Derived.Test.YtjefbgfohijaoaaGreatDoorWLC2
import Derived.Test.YtjefbgfohijaoaaGreatDoorWGP
import Derived.Test.YtjefbgfohijaoaaGreatDoorWGV
namespace Go.Proofs.YtjefbgfohijaoaaGreatDoor
open Go.RowKit
set_option maxRecDepth 100000
set_option linter.unusedSimpArgs false
def splS (sep s : ByteArray) : List ByteArray := Lib.splitB sep 0 (Lib.countB s sep) s
def splN (n : Nat) (sep s : ByteArray) : List ByteArray := Lib.splitB sep 0 (min n (s.size + 1) - 1) s
def atoiV (s : ByteArray) : Int := match Lib.atoiAll s.data.toList with
 | .ok v => v
 | .range => Lib.atoiSat s.data.toList
 | _ => 0
def pintV (s : ByteArray) : Int := match Lib.parseIntB 64 s.data.toList with
 | .ok v => v
 | .range => Lib.intSat 64 s.data.toList
 | _ => 0
def litV (s : ByteArray) : ByteArray := match lexB s.data.toList with
 | ([x], none) => if x.k = 4 then bL x.t else ⟨#[]⟩
 | _ => ⟨#[]⟩
def nlS : ByteArray := ⟨#[10]⟩
def spS : ByteArray := ⟨#[32]⟩
def cstPre : ByteArray := ⟨#[99, 111, 110, 115, 116, 32]⟩
def numAt (ws : List ByteArray) (i : Nat) : Int := match ws[i]? with
 | some w => atoiV w
 | none => 0
def opOf (s : ByteArray) : Int := match nameBytes.findIdx? (· == s.data.toList) with
 | some i => ((i : Nat) : Int)
 | none => 0
def restP (l : ByteArray) : ByteArray := bL (Lib.trimPrefix l.data.toList cstPre.data.toList)
def lineP (l : ByteArray) (f : Fn) : Fn :=
 if (splS spS l).headD ⟨#[]⟩ = wConst then
  (if Lib.hasPrefix (restP l).data.toList [34] = true then { f with consts := f.consts ++ [⟨2, 0, litV (restP l)⟩] } else { f with consts := f.consts ++ [⟨1, pintV (restP l), ⟨#[]⟩⟩] })
 else if (splS spS l).headD ⟨#[]⟩ = wHandler then
  { f with hdls := f.hdls ++ [⟨numAt ((splS spS l).drop 1) 0, numAt ((splS spS l).drop 1) 1, numAt ((splS spS l).drop 1) 2, numAt ((splS spS l).drop 1) 3, numAt ((splS spS l).drop 1) 4⟩] }
 else { f with code := f.code ++ [⟨opOf ((splS spS l).headD ⟨#[]⟩), numAt ((splS spS l).drop 1) 0, numAt ((splS spS l).drop 1) 1⟩] }
def headP (l : ByteArray) : Option Fn :=
 if (splN 5 spS l).length < 5 then none else some ⟨litV (((splN 5 spS l)[4]?).getD ⟨#[]⟩), numAt ((splN 5 spS l).drop 1) 0, numAt ((splN 5 spS l).drop 1) 1, numAt ((splN 5 spS l).drop 1) 2, [], [], []⟩
def fn0 : Fn := ⟨⟨#[]⟩, 0, 0, 0, [], [], []⟩
def linesP (s : ByteArray) : List ByteArray := splS nlS (bL (Lib.trimSuffix s.data.toList nlS.data.toList))
def bodyP (f : Fn) (ls : List ByteArray) : Fn := ls.foldl (fun f l => lineP l f) f
def rawP (s : ByteArray) : Option Fn := match linesP s with
 | [] => none
 | l :: ls => (headP l).map fun f => bodyP f ls
def endP (s : ByteArray) (f : Fn) : Option Fn := if formedB f 4096 = true /\ bL (fmtB f) = s then some f else none
def parseP (s : ByteArray) : Option Fn := (rawP s).bind (endP s)
theorem splS_data (c : UInt8) (s : ByteArray) : (splS ⟨#[c]⟩ s).map (·.data.toList) = Lib.split s.data.toList [c] := by
 unfold splS
 rw [Lib.splitB_data]
 rfl
theorem map_dat_inj : ∀ {a b : List ByteArray}, a.map (·.data.toList) = b.map (·.data.toList) -> a = b
 | [], [], _ => rfl
 | [], _ :: _, h => by cases h
 | _ :: _, [], h => by cases h
 | x :: a, y :: b, h => by
  simp only [List.map_cons] at h
  injection h with h1 h2
  rw [bl_inj h1, map_dat_inj h2]
theorem splS_of (c : UInt8) (s : ByteArray) (ws : List ByteArray) (h : Lib.split s.data.toList [c] = ws.map (·.data.toList)) : splS ⟨#[c]⟩ s = ws := map_dat_inj (by rw [splS_data, h])
def lineS (ws : List ByteArray) : ByteArray := bL (joinB (wB ws))
theorem splS_line (ws : List ByteArray) (hne : ws ≠ []) (h : ∀ w ∈ ws, (32 : UInt8) ∉ w.data.toList) : splS spS (lineS ws) = ws := by
 refine splS_of 32 _ ws ?_
 unfold lineS
 rw [bL_dat, <- joinC_32]
 unfold wB
 refine split_joinC _ (by simpa using hne) fun w hw => ?_
 obtain ⟨x, hx, rfl⟩ := List.mem_map.1 hw
 exact h x hx
theorem joinB_no {c : UInt8} (hc : c ≠ 32) : ∀ l : List Bs, (∀ w ∈ l, c ∉ w) -> c ∉ joinB l
 | [], _ => by simp [joinB]
 | [x], h => h x (List.mem_cons_self ..)
 | x :: y :: l, h => by
  have ih := joinB_no hc (y :: l) fun w hw => h w (List.mem_cons_of_mem _ hw)
  rw [joinB]
  simp only [List.mem_append, List.mem_cons, not_or]
  exact ⟨h x (List.mem_cons_self ..), hc, ih⟩
theorem line_no10 (ws : List ByteArray) (h : ∀ w ∈ ws, (10 : UInt8) ∉ w.data.toList) : (10 : UInt8) ∉ joinB (wB ws) := joinB_no (by decide) _ fun w hw => by
 unfold wB at hw
 obtain ⟨x, hx, rfl⟩ := List.mem_map.1 hw
 exact h x hx
theorem itoa_no {c : UInt8} (hc : c = 10 \/ c = 32 \/ c = 34) (n : Int) : c ∉ (itoaS n).data.toList := by
 intro hm
 have hm2 : c ∈ Lib.itoa n := hm
 unfold Lib.itoa at hm2
 split at hm2
 ·rcases List.mem_cons.1 hm2 with h | h
  ·rcases hc with rfl | rfl | rfl <;> exact absurd h (by decide)
  ·have := dec_digits _ c h
   rcases hc with rfl | rfl | rfl <;> exact absurd this (by decide)
 ·have := dec_digits _ c hm2
  rcases hc with rfl | rfl | rfl <;> exact absurd this (by decide)
theorem names_ok : (nameBytes.all fun l => !l.contains 10 && !l.contains 32 && decide (l ≠ wConst.data.toList) && decide (l ≠ wHandler.data.toList)) = true := by decide +kernel
theorem nameB_mem (op : Int) (h0 : 1 <= op) (h1 : op <= 53) : (nameOf op).data.toList ∈ nameBytes := by
 unfold nameOf
 rw [show (⟨(nameBytes.getD op.toNat []).toArray⟩ : ByteArray).data.toList = nameBytes.getD op.toNat [] by simp]
 have hl : op.toNat < nameBytes.length := by show op.toNat < 54; omega
 rw [List.getD_eq_getElem?_getD, List.getElem?_eq_getElem hl, Option.getD_some]
 exact List.getElem_mem hl
theorem name_no (op : Int) (h0 : 1 <= op) (h1 : op <= 53) : (10 : UInt8) ∉ (nameOf op).data.toList /\ (32 : UInt8) ∉ (nameOf op).data.toList /\ nameOf op ≠ wConst /\ nameOf op ≠ wHandler := by
 have := List.all_eq_true.1 names_ok _ (nameB_mem op h0 h1)
 simp only [Bool.and_eq_true, Bool.not_eq_true', List.contains_eq_mem, decide_eq_false_iff_not, decide_eq_true_eq] at this
 exact ⟨this.1.1.1, this.1.1.2, fun e => this.1.2 (by rw [e]), fun e => this.2 (by rw [e])⟩
theorem ops_ok : ((List.range 54).all fun i => decide (i = 0) || decide (nameBytes.findIdx? (· == (nameOf (i : Nat)).data.toList) = some i)) = true := by decide +kernel
theorem op_name (op : Int) (h0 : 1 <= op) (h1 : op <= 53) : opOf (nameOf op) = op := by
 obtain ⟨k, hk⟩ : ∃ k : Nat, op = (k : Int) := ⟨op.toNat, by omega⟩
 have := List.all_eq_true.1 ops_ok k (List.mem_range.2 (by omega))
 simp only [Bool.or_eq_true, decide_eq_true_eq] at this
 unfold opOf
 rcases this with h | h
 ·omega
 ·rw [hk, h]
theorem atoi_itoa (n : Int) (h0 : -9223372036854775808 <= n) (h1 : n <= 9223372036854775807) : atoiV (itoaS n) = n := by
 have h := parse_itoa n h0 h1
 rw [Lib.parseIntB_64] at h
 unfold atoiV
 rw [show (itoaS n).data.toList = Lib.itoa n by unfold itoaS; simp, h]
theorem pint_itoa (n : Int) (h0 : -9223372036854775808 <= n) (h1 : n <= 9223372036854775807) : pintV (itoaS n) = n := by
 have h := parse_itoa n h0 h1
 unfold pintV
 rw [show (itoaS n).data.toList = Lib.itoa n by unfold itoaS; simp, h]
theorem uB_lo : ∀ n, n < 128 -> uB n = [UInt8.ofNat n] := fun n h => by
 have key := List.all_eq_true.1 (show ((List.range 128).all fun n => decide (uB n = [UInt8.ofNat n])) = true by decide +kernel) n (List.mem_range.2 h)
 exact of_decide_eq_true key
theorem lit_Qt (s : ByteArray) (h : validB s = true) : litV (Qt s) = s := by
 unfold validB at h
 have h1 := repairL_valid h
 have h2 := lex_quo uB repairL uB_lo s.data.toList
 rw [h1] at h2
 unfold litV lexB Qt
 rw [h1, bL_dat, h2]
 rfl
theorem Qt_no10 (s : ByteArray) : (10 : UInt8) ∉ (Qt s).data.toList := by
 unfold Qt
 rw [bL_dat]
 exact quo_no10 _
theorem Qt_head (s : ByteArray) : Lib.hasPrefix (Qt s).data.toList [34] = true := by
 unfold Qt quo
 rw [bL_dat]
 simp [Lib.hasPrefix, List.isPrefixOf]
theorem itoa_head (n : Int) : Lib.hasPrefix (itoaS n).data.toList [34] = false := by
 cases h : (itoaS n).data.toList with
 | nil => rfl
 | cons c l =>
  have := itoa_no (c := 34) (.inr (.inr rfl)) n
  rw [h] at this
  simp only [List.mem_cons, not_or] at this
  simp [Lib.hasPrefix, List.isPrefixOf, this.1]
def cstP (c : Cst) : Cst := if c.kind = 2 then ⟨2, 0, c.str⟩ else ⟨1, c.int, ⟨#[]⟩⟩
def fnP (f : Fn) : Fn := { f with consts := f.consts.map cstP }
structure CsOk (c : Cst) : Prop where
 k : c.kind = 1 \/ (c.kind = 2 /\ validB c.str = true)
 i : IZ c.int
theorem line_cst {c : Cst} (h : CsOk c) (g : Fn) : lineP (lineS (cstW c)) g = { g with consts := g.consts ++ [cstP c] } := by
 obtain ⟨X, hX⟩ : ∃ X, (if c.kind = 2 then Qt c.str else itoaS c.int) = X := ⟨_, rfl⟩
 have hl : (lineS (cstW c)).data.toList = wConst.data.toList ++ 32 :: X.data.toList := by
  unfold lineS cstW
  rw [hX, bL_dat]
  rfl
 have hs : (splS spS (lineS (cstW c))).headD ⟨#[]⟩ = wConst := by
  have h1 := splS_data 32 (lineS (cstW c))
  rw [hl, split_cons _ _ (by decide)] at h1
  change (splS spS (lineS (cstW c))).map (·.data.toList) = _ at h1
  cases h2 : splS spS (lineS (cstW c)) with
  | nil => rw [h2] at h1; cases h1
  | cons a b =>
   rw [h2] at h1
   simp only [List.map_cons] at h1
   injection h1 with h3 h4
   exact bl_inj h3
 have hr : restP (lineS (cstW c)) = X := by
  unfold restP
  rw [hl]
  have : wConst.data.toList ++ 32 :: X.data.toList = cstPre.data.toList ++ X.data.toList := rfl
  rw [this, trimP_app]
  rfl
 unfold lineP
 rw [if_pos hs, hr]
 unfold cstP
 rcases h.k with hk | hk
 ·have hX2 : X = itoaS c.int := by rw [<-hX, if_neg (by omega)]
  rw [hX2, if_neg (by rw [itoa_head]; simp), if_neg (by omega), pint_itoa _ h.i.1 h.i.2]
 ·have hX2 : X = Qt c.str := by rw [<-hX, if_pos hk.1]
  rw [hX2, if_pos (Qt_head _), if_pos hk.1, lit_Qt _ hk.2]
theorem fold_cst : ∀ (cs : List Cst) (g : Fn), (∀ c ∈ cs, CsOk c) -> bodyP g (cs.map fun c => lineS (cstW c)) = { g with consts := g.consts ++ cs.map cstP }
 | [], g, _ => by simp [bodyP]
 | c :: cs, g, h => by
  have ih := fold_cst cs (lineP (lineS (cstW c)) g) fun x hx => h x (List.mem_cons_of_mem _ hx)
  unfold bodyP at ih ⊢
  rw [List.map_cons, List.foldl_cons, ih, line_cst (h c (List.mem_cons_self ..))]
  simp
structure HdOk (h : Hdl) : Prop where
 a : IZ h.lo
 b : IZ h.hi
 c : IZ h.tg
 d : IZ h.dp
 e : IZ h.sc
theorem numAt_n (i : Nat) : numAt [] i = 0 := rfl
theorem line_hdl {h : Hdl} (hh : HdOk h) (g : Fn) : lineP (lineS (hdlW h)) g = { g with hdls := g.hdls ++ [h] } := by
 have hs : splS spS (lineS (hdlW h)) = hdlW h := splS_line _ (by unfold hdlW; simp) fun w hw => by
  unfold hdlW at hw
  simp only [List.mem_cons, List.not_mem_nil, or_false] at hw
  rcases hw with rfl | rfl | rfl | rfl | rfl | rfl
  ·decide
  all_goals exact itoa_no (.inr (.inl rfl)) _
 unfold lineP
 rw [hs]
 unfold hdlW
 simp only [List.headD_cons, List.drop_succ_cons, List.drop_zero]
 rw [if_neg (by decide), if_pos trivial]
 show ({ g with hdls := g.hdls ++ [(⟨atoiV (itoaS h.lo), atoiV (itoaS h.hi), atoiV (itoaS h.tg), atoiV (itoaS h.dp), atoiV (itoaS h.sc)⟩ : Hdl)] } : Fn) = _
 rw [atoi_itoa _ hh.a.1 hh.a.2, atoi_itoa _ hh.b.1 hh.b.2, atoi_itoa _ hh.c.1 hh.c.2, atoi_itoa _ hh.d.1 hh.d.2, atoi_itoa _ hh.e.1 hh.e.2]
theorem fold_hdl : ∀ (cs : List Hdl) (g : Fn), (∀ c ∈ cs, HdOk c) -> bodyP g (cs.map fun c => lineS (hdlW c)) = { g with hdls := g.hdls ++ cs }
 | [], g, _ => by simp [bodyP]
 | c :: cs, g, h => by
  have ih := fold_hdl cs (lineP (lineS (hdlW c)) g) fun x hx => h x (List.mem_cons_of_mem _ hx)
  unfold bodyP at ih ⊢
  rw [List.map_cons, List.foldl_cons, ih, line_hdl (h c (List.mem_cons_self ..))]
  simp
structure InOk (x : Ins) : Prop where
 o0 : 1 <= x.op
 o1 : x.op <= 53
 a : IZ x.a
 b : IZ x.b
 az : operandOf x.op = 0 -> x.a = 0
 bz : operandOf x.op ≠ 4 -> x.b = 0
theorem insW_in (x : Ins) : ∀ w ∈ insW x, w = nameOf x.op \/ w = itoaS x.a \/ w = itoaS x.b := by
 intro w hw
 unfold insW at hw
 rcases List.mem_cons.1 hw with h | h
 ·exact .inl h
 ·rcases List.mem_append.1 h with h | h
  ·split at h
   ·cases h
   ·simp only [List.mem_cons, List.not_mem_nil, or_false] at h
    exact .inr (.inl h)
  ·split at h
   ·simp only [List.mem_cons, List.not_mem_nil, or_false] at h
    exact .inr (.inr h)
   ·cases h
theorem line_ins {x : Ins} (hx : InOk x) (g : Fn) : lineP (lineS (insW x)) g = { g with code := g.code ++ [x] } := by
 obtain ⟨_, n32, nc, nh⟩ := name_no x.op hx.o0 hx.o1
 have hs : splS spS (lineS (insW x)) = insW x := splS_line _ (by unfold insW; simp) fun w hw => by
  rcases insW_in x w hw with rfl | rfl | rfl
  ·exact n32
  ·exact itoa_no (.inr (.inl rfl)) _
  ·exact itoa_no (.inr (.inl rfl)) _
 unfold lineP
 rw [hs]
 have ha := atoi_itoa _ hx.a.1 hx.a.2
 have hb := atoi_itoa _ hx.b.1 hx.b.2
 have ho := op_name x.op hx.o0 hx.o1
 unfold insW
 simp only [List.headD_cons, List.drop_succ_cons, List.drop_zero]
 rw [if_neg nc, if_neg nh, ho]
 by_cases h0 : operandOf x.op = 0
 ·rw [if_pos h0, if_neg (by omega), List.append_nil, numAt_n, numAt_n]
  have e1 := hx.az h0
  have e2 := hx.bz (by omega)
  obtain ⟨op, a, b⟩ := x
  simp only at e1 e2
  rw [e1, e2]
 ·rw [if_neg h0]
  by_cases h4 : operandOf x.op = 4
  ·rw [if_pos h4]
   show ({ g with code := g.code ++ [(⟨x.op, atoiV (itoaS x.a), atoiV (itoaS x.b)⟩ : Ins)] } : Fn) = _
   rw [ha, hb]
  ·rw [if_neg h4]
   show ({ g with code := g.code ++ [(⟨x.op, atoiV (itoaS x.a), 0⟩ : Ins)] } : Fn) = _
   rw [ha, <- hx.bz h4]
theorem fold_ins : ∀ (cs : List Ins) (g : Fn), (∀ c ∈ cs, InOk c) -> bodyP g (cs.map fun c => lineS (insW c)) = { g with code := g.code ++ cs }
 | [], g, _ => by simp [bodyP]
 | c :: cs, g, h => by
  have ih := fold_ins cs (lineP (lineS (insW c)) g) fun x hx => h x (List.mem_cons_of_mem _ hx)
  unfold bodyP at ih ⊢
  rw [List.map_cons, List.foldl_cons, ih, line_ins (h c (List.mem_cons_self ..))]
  simp
structure HeOk (f : Fn) : Prop where
 k : IZ f.kind
 p : IZ f.params
 l : IZ f.locals
 n : validB f.name = true
theorem head_of {f : Fn} (h : HeOk f) : headP (lineS (headW f)) = some ⟨f.name, f.kind, f.params, f.locals, [], [], []⟩ := by
 have hs : splN 5 spS (lineS (headW f)) = headW f := by
  refine map_dat_inj ?_
  unfold splN
  rw [Lib.splitB_data]
  have e5 : min 5 ((lineS (headW f)).size + 1) - 1 = 4 := by
   have : 4 <= (lineS (headW f)).size := by
    show 4 <= (joinB (wB (headW f))).length
    unfold headW wB wFunc
    simp [joinB]
   omega
  rw [e5]
  have e : (lineS (headW f)).data.toList = wFunc.data.toList ++ 32 :: ((itoaS f.kind).data.toList ++ 32 :: ((itoaS f.params).data.toList ++ 32 :: ((itoaS f.locals).data.toList ++ 32 :: (Qt f.name).data.toList))) := by
   unfold lineS
   rw [bL_dat]
   rfl
  show Lib.splitK [32] 0 4 _ = _
  rw [e, splitK_cons 3 _ _ (by decide), splitK_cons 2 _ _ (itoa_no (.inr (.inl rfl)) _), splitK_cons 1 _ _ (itoa_no (.inr (.inl rfl)) _), splitK_cons 0 _ _ (itoa_no (.inr (.inl rfl)) _)]
  rfl
 unfold headP
 rw [hs]
 unfold headW
 rw [if_neg (by simp)]
 show some (⟨litV (Qt f.name), atoiV (itoaS f.kind), atoiV (itoaS f.params), atoiV (itoaS f.locals), [], [], []⟩ : Fn) = _
 rw [lit_Qt _ h.n, atoi_itoa _ h.k.1 h.k.2, atoi_itoa _ h.p.1 h.p.2, atoi_itoa _ h.l.1 h.l.2]
def allW (f : Fn) : List (List ByteArray) := headW f :: (f.consts.map cstW ++ (f.code.map insW ++ f.hdls.map hdlW))
theorem fmtB_all (f : Fn) : fmtB f = (allW f).flatMap lnW := by
 unfold fmtB tail0 tail1 tail2 allW
 simp only [List.flatMap_cons, List.flatMap_append, List.flatMap_map]
structure FnOk (f : Fn) : Prop where
 h : HeOk f
 c : ∀ x ∈ f.consts, CsOk x
 i : ∀ x ∈ f.code, InOk x
 d : ∀ x ∈ f.hdls, HdOk x
theorem allW_no10 {f : Fn} (h : FnOk f) : ∀ ws ∈ allW f, ∀ w ∈ ws, (10 : UInt8) ∉ w.data.toList := by
 intro ws hws w hw
 unfold allW at hws
 rcases List.mem_cons.1 hws with rfl | hws
 ·unfold headW at hw
  simp only [List.mem_cons, List.not_mem_nil, or_false] at hw
  rcases hw with rfl | rfl | rfl | rfl | rfl
  ·decide
  ·exact itoa_no (.inl rfl) _
  ·exact itoa_no (.inl rfl) _
  ·exact itoa_no (.inl rfl) _
  ·exact Qt_no10 _
 rcases List.mem_append.1 hws with hws | hws
 ·obtain ⟨c, _, rfl⟩ := List.mem_map.1 hws
  unfold cstW at hw
  simp only [List.mem_cons, List.not_mem_nil, or_false] at hw
  rcases hw with rfl | rfl
  ·decide
  ·split
   ·exact Qt_no10 _
   ·exact itoa_no (.inl rfl) _
 rcases List.mem_append.1 hws with hws | hws
 ·obtain ⟨x, hx, rfl⟩ := List.mem_map.1 hws
  rcases insW_in x w hw with rfl | rfl | rfl
  ·exact (name_no x.op (h.i x hx).o0 (h.i x hx).o1).1
  ·exact itoa_no (.inl rfl) _
  ·exact itoa_no (.inl rfl) _
 ·obtain ⟨x, _, rfl⟩ := List.mem_map.1 hws
  unfold hdlW at hw
  simp only [List.mem_cons, List.not_mem_nil, or_false] at hw
  rcases hw with rfl | rfl | rfl | rfl | rfl | rfl
  ·decide
  all_goals exact itoa_no (.inl rfl) _
theorem raw_fmt {f : Fn} (h : FnOk f) : rawP (bL (fmtB f)) = some (fnP f) := by
 have hl : linesP (bL (fmtB f)) = (allW f).map lineS := by
  unfold linesP
  rw [bL_dat, fmtB_all]
  refine splS_of 10 _ _ ?_
  have e : (allW f).flatMap lnW = ((allW f).map fun ws => joinB (wB ws)).flatMap (fun x => x ++ [10]) := by
   rw [List.flatMap_map]
   rfl
  rw [bL_dat, e, show nlS.data.toList = [10] from rfl, lines_of _ (by unfold allW; simp) fun w hw => by
   obtain ⟨ws, hws, rfl⟩ := List.mem_map.1 hw
   exact line_no10 ws (allW_no10 h ws hws)]
  rw [List.map_map]
  refine List.map_congr_left fun ws _ => ?_
  show joinB (wB ws) = (lineS ws).data.toList
  unfold lineS
  rw [bL_dat]
 unfold rawP
 rw [hl]
 unfold allW
 rw [List.map_cons]
 simp only
 rw [head_of h.h, Option.map_some, List.map_append, List.map_append, List.map_map, List.map_map, List.map_map]
 congr 1
 unfold bodyP
 rw [List.foldl_append, List.foldl_append]
 have e1 := fold_cst f.consts ⟨f.name, f.kind, f.params, f.locals, [], [], []⟩ h.c
 unfold bodyP at e1
 have e2 := fold_ins f.code ⟨f.name, f.kind, f.params, f.locals, [], f.consts.map cstP, []⟩ h.i
 unfold bodyP at e2
 have e3 := fold_hdl f.hdls ⟨f.name, f.kind, f.params, f.locals, f.code, f.consts.map cstP, []⟩ h.d
 unfold bodyP at e3
 simp only [List.nil_append] at e1 e2 e3
 show List.foldl _ (List.foldl _ (List.foldl _ _ (f.consts.map fun c => lineS (cstW c))) (f.code.map fun c => lineS (insW c))) (f.hdls.map fun c => lineS (hdlW c)) = _
 rw [e1, e2, e3]
 rfl
end Go.Proofs.YtjefbgfohijaoaaGreatDoor
