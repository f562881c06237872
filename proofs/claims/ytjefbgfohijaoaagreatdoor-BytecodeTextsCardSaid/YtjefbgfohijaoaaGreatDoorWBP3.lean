/- Own work, plain: how long the text of what is parsed can be. -/
import Derived.Test.YtjefbgfohijaoaaGreatDoorWBP1
import Derived.Test.YtjefbgfohijaoaaGreatDoorWPD
namespace Go.Proofs.YtjefbgfohijaoaaGreatDoor
open Go.RowKit
set_option maxRecDepth 100000
set_option linter.unusedSimpArgs false
theorem le_sumN : ∀ {l : List Nat} {x : Nat}, x ∈ l -> x <= l.sum
 | [], _, h => by cases h
 | a :: l, x, h => by
  rw [List.sum_cons]
  rcases List.mem_cons.1 h with rfl | h
  ·omega
  ·have := le_sumN h
   omega
theorem litF_size (q : UInt8) : ∀ (n : Nat) (l t r : Bs), litF uB q n l = some (t, r) -> t.length + 4 * r.length <= 4 * l.length
 | 0, _, _, _, h => by cases h
 | n + 1, [], _, _, h => by cases h
 | n + 1, c :: l, t, r, h => by
  rw [litF] at h
  split at h
  ·cases h; simp only [List.length_nil, List.length_cons]; omega
  ·split at h
   ·cases h
   ·split at h
    ·cases he : escL uB l with
     | none => rw [he] at h; cases h
     | some p =>
      rw [he] at h
      simp only [Option.map_eq_some_iff] at h
      obtain ⟨z, hz, h2⟩ := h
      cases h2
      have h3 := litF_size q n p.2 z.1 z.2 hz
      have h4 := escL_4 (t := p.1) (r := p.2) he
      have h5 := escL_lt uB he
      simp only [List.length_append, List.length_cons]
      omega
    ·simp only [Option.map_eq_some_iff] at h
     obtain ⟨z, hz, h2⟩ := h
     cases h2
     have h3 := litF_size q n l z.1 z.2 hz
     simp only [List.length_cons]
     omega
theorem tok_size {l t r : Bs} {k : Int} (h : tokL uB repairL l = .ok k t r) : t.length <= 16 * l.length := by
 cases l with
 | nil => cases h
 | cons c l =>
  rcases Classical.em (k = 4) with hk | hk
  ·subst hk
   rw [tokL] at h
   split at h
   ·rename_i hl
    injection h with h1 h2 h3
    split at h1 <;> exact absurd h1 (by decide)
   ·split at h
    ·unfold numL at h
     split at h
     ·cases h
     ·split at h
      ·cases h
      ·split at h
       ·cases h
       ·injection h with h1 h2 h3
        exact absurd h1 (by decide)
    ·split at h
     ·cases hl : lit uB c l with
      | none => rw [hl] at h; cases h
      | some z =>
       rw [hl] at h
       cases h
       have h1 := litF_size c l.length l z.1 z.2 hl
       have h2 := repairL_size z.1
       simp only [List.length_cons]
       omega
     ·cases ho : opL (c :: l) with
      | none => rw [ho] at h; cases h
      | some w =>
       rw [ho] at h
       injection h with h1 h2 h3
       exact absurd h1 (by decide)
  ·have h1 := congrArg List.length (tok_same uB repairL h hk)
   rw [List.length_append] at h1
   omega
theorem litV_size (s : ByteArray) : (litV s).size <= 16 * s.size := by
 unfold litV
 cases h : lexB s.data.toList with
 | mk ts er =>
  rcases ts with _ | ⟨x, _ | ⟨y, l⟩⟩
  ·exact Nat.zero_le _
  ·cases er with
   | some p => exact Nat.zero_le _
   | none =>
    simp only
    split
    ·show x.t.length <= 16 * s.data.toList.length
     obtain ⟨u, hu⟩ := skp_suf s.data.toList
     have hul := congrArg List.length hu
     rw [List.length_append] at hul
     unfold lexB lex at h
     rw [lexF] at h
     split at h
     ·cases h
     ·split at h
      ·cases h
      ·split at h
       ·cases h
       ·rename_i k t r ht
        have h1 := tok_size ht
        have h2 := congrArg Prod.fst h
        simp only at h2
        have h3 := (List.cons.inj h2).1
        rw [<-h3]
        show t.length <= _
        omega
    ·exact Nat.zero_le _
  ·cases er <;> exact Nat.zero_le _
theorem splitK_size (c : UInt8) : ∀ (k : Nat) (l : Bs), ((Lib.splitK [c] 0 k l).map fun w => w.length + 1).sum <= l.length + 1
 | 0, l => by simp [Lib.splitK]
 | k + 1, l => by
  rw [Lib.splitK]
  split
  ·simp
  ·rename_i h
   have hge := Lib.index_ge l [c]
   have h0 : 0 <= Lib.index l [c] := by
    rcases Int.lt_or_le (Lib.index l [c]) 0 with h1 | h1
    ·exact absurd (beq_iff_eq.2 (show Lib.index l [c] = -1 by omega)) h
    ·exact h1
   have hr := Lib.index_room l [c] h0
   have ih := splitK_size c k (l.drop ((Lib.index l [c]).toNat + [c].length))
   simp only [List.map_cons, List.sum_cons, List.length_take, List.length_drop, List.length_cons, List.length_nil] at ih hr ⊢
   omega
theorem mem_splitK (c : UInt8) (k : Nat) (l : Bs) : ∀ w ∈ Lib.splitK [c] 0 k l, w.length <= l.length := fun w hw => by
 have h := splitK_size c k l
 have h2 : w.length + 1 <= ((Lib.splitK [c] 0 k l).map fun w => w.length + 1).sum := le_sumN (List.mem_map.2 ⟨w, hw, rfl⟩)
 omega
theorem splB_mem {c : UInt8} {k : Nat} {s w : ByteArray} (h : w ∈ Lib.splitB ⟨#[c]⟩ 0 k s) : w.size <= s.size := by
 have h1 := Lib.splitB_data ⟨#[c]⟩ 0 k s
 have h2 : w.data.toList ∈ (Lib.splitB ⟨#[c]⟩ 0 k s).map (·.data.toList) := List.mem_map.2 ⟨w, h, rfl⟩
 rw [h1] at h2
 exact mem_splitK c k _ _ h2
theorem splS_mem {c : UInt8} {s w : ByteArray} (h : w ∈ splS ⟨#[c]⟩ s) : w.size <= s.size := splB_mem h
theorem splN_mem {c : UInt8} {n : Nat} {s w : ByteArray} (h : w ∈ splN n ⟨#[c]⟩ s) : w.size <= s.size := splB_mem h
theorem splB_len {c : UInt8} {k : Nat} {s : ByteArray} : (Lib.splitB ⟨#[c]⟩ 0 k s).length <= s.size + 1 := by
 have h1 := congrArg List.length (Lib.splitB_data ⟨#[c]⟩ 0 k s)
 have h2 := splitK_size c k s.data.toList
 rw [List.length_map] at h1
 have h3 : ∀ L : List Bs, L.length <= (L.map fun w => w.length + 1).sum := fun L => by
  induction L with
  | nil => exact Nat.zero_le _
  | cons a L ih => simp only [List.map_cons, List.sum_cons, List.length_cons]; omega
 change (Lib.splitB ⟨#[c]⟩ 0 k s).length = (Lib.splitK [c] 0 k s.data.toList).length at h1
 rw [h1]
 exact Nat.le_trans (h3 _) h2
theorem splS_len {c : UInt8} {s : ByteArray} : (splS ⟨#[c]⟩ s).length <= s.size + 1 := splB_len
theorem splS_ne (sep s : ByteArray) : splS sep s ≠ [] := by
 unfold splS
 cases h : Lib.countB s sep with
 | zero => simp [Lib.splitB]
 | succ k =>
  rw [Lib.splitB]
  split <;> simp
theorem lines_size (s : ByteArray) : ((linesP s).map fun w => w.size + 1).sum <= s.size + 1 := by
 have h1 := Lib.splitB_data nlS 0 (Lib.countB (bL (Lib.trimSuffix s.data.toList nlS.data.toList)) nlS) (bL (Lib.trimSuffix s.data.toList nlS.data.toList))
 have h2 := splitK_size 10 (Lib.countB (bL (Lib.trimSuffix s.data.toList nlS.data.toList)) nlS) (bL (Lib.trimSuffix s.data.toList nlS.data.toList)).data.toList
 have h3 : (linesP s).map (fun w => w.size + 1) = ((linesP s).map (·.data.toList)).map fun w => w.length + 1 := by rw [List.map_map]; rfl
 rw [h3]
 unfold linesP splS
 rw [h1]
 refine Nat.le_trans h2 ?_
 rw [bL_dat]
 have := Lib.trimSuffix_le s.data.toList nlS.data.toList
 have e : s.data.toList.length = s.size := rfl
 omega
def cW (c : Cst) : Nat := 30 + 16 * c.str.size
def fW (f : Fn) : Nat := 80 + 16 * f.name.size + (f.consts.map cW).sum + 60 * f.code.length + 130 * f.hdls.length
structure FnG (f : Fn) : Prop where
 z : ∀ c ∈ f.consts, IZ c.int
theorem pintV_in (s : ByteArray) : IZ (pintV s) := by
 unfold pintV
 have h := Lib.parseIntB_64 s.data.toList
 have h2 := Lib.intSat_64 s.data.toList
 cases hp : Lib.parseIntB 64 s.data.toList with
 | ok v => rw [hp] at h; exact Lib.atoiAll_bounds h.symm
 | range =>
  simp only
  rw [h2]
  exact Lib.atoiSat_bounds _
 | _ => show IZ 0; exact ⟨by decide, by decide⟩
theorem restP_size (l : ByteArray) : (restP l).size <= l.size := Lib.trimPrefix_le l.data.toList cstPre.data.toList
theorem line_W (l : ByteArray) (f : Fn) (h : FnG f) : fW (lineP l f) <= fW f + 256 * (l.size + 1) /\ FnG (lineP l f) := by
 unfold lineP
 have hr := restP_size l
 have hl := litV_size (restP l)
 split
 ·split
  ·refine ⟨?_, ⟨fun c hc => ?_⟩⟩
   ·unfold fW cW
    simp only [List.map_append, List.map_cons, List.map_nil, List.sum_append, List.sum_cons, List.sum_nil]
    omega
   ·rcases List.mem_append.1 hc with hc | hc
    ·exact h.z c hc
    ·simp only [List.mem_cons, List.not_mem_nil, or_false] at hc
     subst hc
     show IZ 0
     exact ⟨by decide, by decide⟩
  ·refine ⟨?_, ⟨fun c hc => ?_⟩⟩
   ·unfold fW cW
    simp only [List.map_append, List.map_cons, List.map_nil, List.sum_append, List.sum_cons, List.sum_nil]
    have : (⟨#[]⟩ : ByteArray).size = 0 := rfl
    omega
   ·rcases List.mem_append.1 hc with hc | hc
    ·exact h.z c hc
    ·simp only [List.mem_cons, List.not_mem_nil, or_false] at hc
     subst hc
     exact pintV_in _
 ·split
  ·refine ⟨?_, ⟨h.z⟩⟩
   unfold fW
   simp only [List.length_append, List.length_cons, List.length_nil]
   omega
  ·refine ⟨?_, ⟨h.z⟩⟩
   unfold fW
   simp only [List.length_append, List.length_cons, List.length_nil]
   omega
theorem body_W : ∀ (ls : List ByteArray) (f : Fn), FnG f -> fW (bodyP f ls) <= fW f + 256 * (ls.map fun w => w.size + 1).sum /\ FnG (bodyP f ls)
 | [], f, h => ⟨by simp [bodyP], h⟩
 | l :: ls, f, h => by
  obtain ⟨h1, h2⟩ := line_W l f h
  obtain ⟨h3, h4⟩ := body_W ls _ h2
  unfold bodyP at h3 h4 ⊢
  rw [List.foldl_cons]
  refine ⟨?_, h4⟩
  simp only [List.map_cons, List.sum_cons]
  omega
theorem head_W {l : ByteArray} {f : Fn} (h : headP l = some f) : fW f <= 80 + 256 * (l.size + 1) /\ FnG f := by
 unfold headP at h
 split at h
 ·cases h
 ·cases h
  refine ⟨?_, ⟨fun c hc => by cases hc⟩⟩
  unfold fW
  simp only [List.map_nil, List.sum_nil, List.length_nil]
  have hl := litV_size (((splN 5 spS l)[4]?).getD (⟨#[]⟩ : ByteArray))
  have hm : (((splN 5 spS l)[4]?).getD (⟨#[]⟩ : ByteArray)).size <= l.size := by
   cases hx : (splN 5 spS l)[4]? with
   | none => exact Nat.zero_le _
   | some w => exact splN_mem (List.mem_of_getElem? hx)
  omega
theorem raw_W {s : ByteArray} {f : Fn} (h : rawP s = some f) : fW f <= 80 + 256 * (s.size + 1) /\ FnG f := by
 unfold rawP at h
 have hs := lines_size s
 cases hl : linesP s with
 | nil => rw [hl] at h; cases h
 | cons l ls =>
  rw [hl] at h hs
  simp only [Option.map_eq_some_iff] at h
  obtain ⟨g, hg, rfl⟩ := h
  obtain ⟨h1, h2⟩ := head_W hg
  obtain ⟨h3, h4⟩ := body_W ls g h2
  refine ⟨?_, h4⟩
  simp only [List.map_cons, List.sum_cons] at hs
  omega
theorem sum_mem {α : Type} (g : α -> Nat) {l : List α} {x : α} (h : x ∈ l) : g x <= (l.map g).sum := le_sumN (List.mem_map.2 ⟨x, h, rfl⟩)
theorem len_sum {α : Type} (g : α -> Nat) (h : ∀ x, 1 <= g x) : ∀ l : List α, l.length <= (l.map g).sum
 | [] => Nat.zero_le _
 | a :: l => by
  have := len_sum g h l
  have := h a
  simp only [List.map_cons, List.sum_cons, List.length_cons]
  omega
theorem sz_of {f : Fn} (h : fW f <= 90000000) : FnSz f := by
 have h1 := len_sum cW (fun c => by unfold cW; omega) f.consts
 unfold fW at h
 refine ⟨by omega, by omega, by omega, by omega, fun c hc => ?_⟩
 have := sum_mem cW hc
 unfold cW at this h
 omega
theorem flat_len {α : Type} (g : α -> Bs) (b : α -> Nat) : ∀ l : List α, (∀ x ∈ l, (g x).length <= b x) -> (l.flatMap g).length <= (l.map b).sum
 | [], _ => Nat.zero_le _
 | a :: l, h => by
  have h1 := flat_len g b l fun x hx => h x (List.mem_cons_of_mem _ hx)
  have h2 := h a (List.mem_cons_self ..)
  simp only [List.flatMap_cons, List.length_append, List.map_cons, List.sum_cons]
  omega
theorem joinB_len : ∀ l : List Bs, (joinB l).length <= (l.map fun w => w.length + 1).sum
 | [] => Nat.zero_le _
 | [x] => by simp [joinB]
 | x :: y :: l => by
  have := joinB_len (y :: l)
  rw [joinB]
  simp only [List.length_append, List.length_cons, List.map_cons, List.sum_cons] at this ⊢
  omega
theorem lnW_len (ws : List ByteArray) : (lnW ws).length <= (ws.map fun w => w.size + 1).sum + 1 := by
 unfold lnW lnB
 have := joinB_len (wB ws)
 have e : (wB ws).map (fun w => w.length + 1) = ws.map fun w => w.size + 1 := by unfold wB; rw [List.map_map]; rfl
 rw [e] at this
 simp only [List.length_append, List.length_cons, List.length_nil]
 omega
theorem itoaS_len (n : Int) (h : IZ n) : (itoaS n).size <= 21 := Lib.itoa_length_le n h.1 h.2
theorem quo_le (x : Bs) : (quo x).length <= 4 * x.length + 2 := by
 have hlen : ∀ l : Bs, (l.flatMap qB).length <= 4 * l.length := fun l => by
  induction l with
  | nil => exact Nat.zero_le _
  | cons a l ih =>
   have := qB_len a
   simp only [List.flatMap_cons, List.length_append, List.length_cons]
   omega
 have := hlen x
 unfold quo
 simp only [List.length_cons, List.length_append, List.length_nil]
 omega
theorem Qt_len (s : ByteArray) : (Qt s).size <= 16 * s.size + 2 := by
 have h1 := quo_le (repairL s.data.toList)
 have h2 := repairL_size s.data.toList
 show (quo (repairL s.data.toList)).length <= 16 * s.data.toList.length + 2
 omega
theorem name_len (op : Int) (h0 : 1 <= op) (h1 : op <= 53) : (nameOf op).size <= 11 := by
 have hk : (nameBytes.all fun l => decide (l.length <= 11)) = true := by decide +kernel
 exact of_decide_eq_true (List.all_eq_true.1 hk _ (nameB_mem op h0 h1))
theorem sum_c (k : Nat) {α : Type} (l : List α) : (l.map fun _ => k).sum = k * l.length := by
 induction l with
 | nil => rfl
 | cons a l ih => simp only [List.map_cons, List.sum_cons, List.length_cons, ih, Nat.mul_add]; omega
theorem fmtB_len {f : Fn} (hh : IZ f.kind /\ IZ f.params /\ IZ f.locals) (hc : ∀ c ∈ f.consts, IZ c.int) (hi : ∀ x ∈ f.code, (1 <= x.op /\ x.op <= 53) /\ IZ x.a /\ IZ x.b) (hd : ∀ x ∈ f.hdls, HdOk x) : (fmtB f).length <= fW f + 20 := by
 have h1 := lnW_len (headW f)
 have h2 := flat_len (fun c => lnW (cstW c)) cW f.consts fun c hc' => by
  have h3 := lnW_len (cstW c)
  have h4 := itoaS_len c.int (hc c hc')
  have h5 := Qt_len c.str
  have h6 : wConst.size = 5 := rfl
  unfold cstW at h3
  simp only [List.map_cons, List.map_nil, List.sum_cons, List.sum_nil] at h3
  unfold cW
  unfold cstW
  split at h3
  ·rename_i hk
   rw [if_pos hk]
   omega
  ·rename_i hk
   rw [if_neg hk]
   omega
 have h7 := flat_len (fun x => lnW (insW x)) (fun _ => 60) f.code fun x hx => by
  have h3 := lnW_len (insW x)
  have h4 := itoaS_len x.a (hi x hx).2.1
  have h5 := itoaS_len x.b (hi x hx).2.2
  have h6 := name_len x.op (hi x hx).1.1 (hi x hx).1.2
  have h8 : ((insW x).map fun w => w.size + 1).sum <= 56 := by
   unfold insW
   split <;> split <;> (simp only [List.map_cons, List.map_nil, List.sum_cons, List.sum_nil, List.append_nil, List.nil_append, List.cons_append]; omega)
  show (lnW (insW x)).length <= 60
  omega
 have h9 := flat_len (fun x => lnW (hdlW x)) (fun _ => 130) f.hdls fun x hx => by
  have h3 := lnW_len (hdlW x)
  have k1 := itoaS_len _ (hd x hx).a
  have k2 := itoaS_len _ (hd x hx).b
  have k3 := itoaS_len _ (hd x hx).c
  have k4 := itoaS_len _ (hd x hx).d
  have k5 := itoaS_len _ (hd x hx).e
  have k6 : wHandler.size = 7 := rfl
  unfold hdlW at h3
  simp only [List.map_cons, List.map_nil, List.sum_cons, List.sum_nil] at h3
  show (lnW (hdlW x)).length <= 130
  unfold hdlW
  omega
 rw [sum_c] at h7 h9
 have k1 := itoaS_len _ hh.1
 have k2 := itoaS_len _ hh.2.1
 have k3 := itoaS_len _ hh.2.2
 have k4 := Qt_len f.name
 have k5 : wFunc.size = 4 := rfl
 unfold headW at h1
 simp only [List.map_cons, List.map_nil, List.sum_cons, List.sum_nil] at h1
 unfold fmtB tail0 tail1 tail2 fW
 simp only [List.length_append]
 unfold headW
 omega
theorem fn_parts {f : Fn} {n : Int} (h : formedB f n = true) (hn : n <= 4096) (hz : ∀ c ∈ f.consts, IZ c.int) : FnOk f := by
 unfold formedB headB sizeB partsB betw at h
 simp only [Bool.and_eq_true, List.all_eq_true, decide_eq_true_eq] at h
 obtain ⟨⟨_, hv, hkd, hpa, hloc⟩, ⟨h1, h2, h3⟩, h4, h5, h6⟩ := h
 refine ⟨⟨⟨by omega, by omega⟩, ⟨by omega, by omega⟩, ⟨by omega, by omega⟩, hv⟩, fun c hc => ⟨?_, hz c hc⟩, fun x hx => ?_, fun x hx => ?_⟩
 ·have h7 := h4 c hc
  unfold cstOk at h7
  simp only [Bool.or_eq_true, Bool.and_eq_true, decide_eq_true_eq] at h7
  rcases h7 with h7 | h7
  ·exact .inl h7
  ·exact .inr ⟨h7.1, h7.2.2⟩
 ·have hx := h5 x hx
  unfold fitsB argOk betw at hx
  simp only [Bool.and_eq_true, Bool.or_eq_true, decide_eq_true_eq] at hx
  obtain ⟨⟨ho, hb⟩, ha⟩ := hx
  have key : ((0 <= x.a /\ x.a <= 100000) /\ (0 <= x.b /\ x.b <= 100000)) /\ (operandOf x.op = 0 -> x.a = 0) := by
   generalize operandOf x.op = k at ha hb
   repeat' split at ha
   all_goals simp only [Bool.and_eq_true, decide_eq_true_eq, beq_iff_eq] at ha
   all_goals omega
  exact ⟨ho.1, ho.2, ⟨by omega, by omega⟩, ⟨by omega, by omega⟩, key.2, fun h => by omega⟩
 ·have hx := h6 x hx
  unfold hdlOk betw at hx
  simp only [Bool.and_eq_true, decide_eq_true_eq] at hx
  exact ⟨⟨by omega, by omega⟩, ⟨by omega, by omega⟩, ⟨by omega, by omega⟩, ⟨by omega, by omega⟩, ⟨by omega, by omega⟩⟩
theorem fm_of {f : Fn} {n : Int} (h : formedB f n = true) (hn : n <= 4096) (hz : ∀ c ∈ f.consts, IZ c.int) (hW : fW f <= 15000000) : FmOk f := by
 have hp := fn_parts h hn hz
 have hl := fmtB_len ⟨hp.h.k, hp.h.p, hp.h.l⟩ hz (fun x hx => ⟨⟨(hp.i x hx).o0, (hp.i x hx).o1⟩, (hp.i x hx).a, (hp.i x hx).b⟩) hp.d
 have h1 := len_sum cW (fun c => by unfold cW; omega) f.consts
 have hs : ∀ c ∈ f.consts, c.str.size <= 1000000 := fun c hc => by
  have h2 := sum_mem cW hc
  have h3 : cW c = 30 + 16 * c.str.size := rfl
  unfold fW at hW
  omega
 have hW2 := hW
 unfold fW at hW2
 exact ⟨hp.h.k, hp.h.p, hp.h.l, by omega, hz, hs, fun x hx => ⟨(hp.i x hx).o0, (hp.i x hx).o1⟩, fun x hx => ⟨(hp.i x hx).a, (hp.i x hx).b⟩, fun x hx => ⟨(hp.d x hx).a, (hp.d x hx).b, (hp.d x hx).c, (hp.d x hx).d, (hp.d x hx).e⟩, by omega, by omega, by omega, by omega⟩
end Go.Proofs.YtjefbgfohijaoaaGreatDoor
