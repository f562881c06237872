/- Own work: reading numbers, texts and programs from bytes, plain: what is read is what was written. -/
import Derived.Test.YtlffpgjkhehdmaaDoorZGL
import Derived.Test.YtlffpgjkhehdmaaDoorZGE
import Derived.Test.YtlffpgjkhehdmaaDoorZGG
import Derived.Test.YtlffpgjkhehdmaaDoorZGI
namespace Go.Proofs.YtlffpgjkhehdmaaDoor
open Go.RowKit

/-- the bytes of a program -/
def insB (i : Ins) : List UInt8 := zb i.op ++ (zb i.a ++ zb i.b)
def cstB (c : Cst) : List UInt8 := zb c.kind ++ (if c.kind = 2 then strB c.str else zb c.int)
def hdlB (h : Hdl) : List UInt8 := zb h.lo ++ (zb h.hi ++ (zb h.tg ++ (zb h.dp ++ zb h.sc)))
def fnB (f : Fn) : List UInt8 := strB f.name ++ ((zb f.kind ++ (zb f.params ++ zb f.locals)) ++ (natB f.code.length ++ (f.code.flatMap insB ++ (natB f.consts.length ++ (f.consts.flatMap cstB ++ (natB f.hdls.length ++ f.hdls.flatMap hdlB))))))
def progBy (fs : List Fn) : List UInt8 := natB fs.length ++ fs.flatMap fnB
/-- a reader: where it is, and its error -/
structure RS where
  at_ : Nat
  err : Int
def restL (d : ByteArray) (st : RS) : List UInt8 := d.data.toList.drop st.at_
def rUint (d : ByteArray) (st : RS) : Nat × RS := if st.err = 0 then (match numF 0 0 (restL d st) with
  | none => (0, ⟨st.at_, 3⟩)
  | some (n, k) => (n, ⟨st.at_ + k, 0⟩)) else (0, st)
def rInt (d : ByteArray) (st : RS) : Int × RS := (unzz (rUint d st).1, (rUint d st).2)
def rStr (d : ByteArray) (st : RS) : ByteArray × RS := if st.err = 0 then (match numF 0 0 (restL d st) with
  | none => (ofL [], ⟨st.at_, 3⟩)
  | some (n, k) => if (restL d st).length - k < n then (ofL [], ⟨st.at_, 3⟩) else (ofL (((restL d st).drop k).take n), ⟨st.at_ + (k + n), 0⟩)) else (ofL [], st)
def rCount (d : ByteArray) (most : Nat) (st : RS) : Nat × RS := if st.err = 0 then (match numF 0 0 (restL d st) with
  | none => (0, ⟨st.at_, 3⟩)
  | some (n, k) => if most < n then (0, ⟨st.at_, 5⟩) else (n, ⟨st.at_ + k, 0⟩)) else (0, st)
def rLoop {α : Type} (step : RS → α × RS) : Nat → RS → List α × RS
  | 0, st => ([], st)
  | n + 1, st => if st.err = 0 then ((step st).1 :: (rLoop step n (step st).2).1, (rLoop step n (step st).2).2) else ([], st)
def rIns (d : ByteArray) (st : RS) : Ins × RS :=
  (⟨(rInt d st).1, (rInt d (rInt d st).2).1, (rInt d (rInt d (rInt d st).2).2).1⟩, (rInt d (rInt d (rInt d st).2).2).2)
def rCst (d : ByteArray) (st : RS) : Cst × RS :=
  if (rInt d st).1 = 2 then (⟨(rInt d st).1, 0, (rStr d (rInt d st).2).1⟩, (rStr d (rInt d st).2).2) else (⟨(rInt d st).1, (rInt d (rInt d st).2).1, ofL []⟩, (rInt d (rInt d st).2).2)
/-- five integers -/
def rHdl (d : ByteArray) (st : RS) : Hdl × RS :=
  let a := rInt d st
  let b := rInt d a.2
  let c := rInt d b.2
  let e := rInt d c.2
  let f := rInt d e.2
  (⟨a.1, b.1, c.1, e.1, f.1⟩, f.2)
def rFn (d : ByteArray) (st : RS) : Fn × RS :=
  let nm := rStr d st
  let k := rInt d nm.2
  let p := rInt d k.2
  let l := rInt d p.2
  let nc := rCount d 65536 l.2
  let cs := rLoop (rIns d) nc.1 nc.2
  let nk := rCount d 10000 cs.2
  let ks := rLoop (rCst d) nk.1 nk.2
  let nh := rCount d 10000 ks.2
  let hs := rLoop (rHdl d) nh.1 nh.2
  (⟨nm.1, k.1, p.1, l.1, cs.1, ks.1, hs.1⟩, hs.2)
def rProg (d : ByteArray) : List Fn × RS := rLoop (rFn d) (rCount d 4096 ⟨0, 0⟩).1 (rCount d 4096 ⟨0, 0⟩).2
def rDone (d : ByteArray) (st : RS) : Int := if st.err = 0 then (if st.at_ = d.size then 0 else 3) else st.err
/-- from one place to another, with what lies between -/
structure Reads (d : ByteArray) (st : RS) (bs : List UInt8) (st' : RS) : Prop where
  e0 : st.err = 0
  e1 : st'.err = 0
  rest : restL d st = bs ++ restL d st'
  at1 : st'.at_ = st.at_ + bs.length
  le : st'.at_ ≤ d.size
theorem Reads.trans {d : ByteArray} {a b c : RS} {x y : List UInt8} (h : Reads d a x b) (h' : Reads d b y c) : Reads d a (x ++ y) c :=
  ⟨h.e0, h'.e1, by rw [h.rest, h'.rest, List.append_assoc], by rw [h'.at1, h.at1, List.length_append]; omega, h'.le⟩
theorem Reads.refl {d : ByteArray} {a : RS} (h : a.err = 0) (hl : a.at_ ≤ d.size) : Reads d a [] a := ⟨h, h, rfl, rfl, hl⟩
theorem rest_len (d : ByteArray) (st : RS) : (restL d st).length = d.size - st.at_ := by
  unfold restL
  rw [List.length_drop]
  rfl
/-- a step ahead -/
theorem reads_step {d : ByteArray} {st : RS} {bs r : List UInt8} (h0 : st.err = 0) (hl : st.at_ ≤ d.size) (h : restL d st = bs ++ r) : Reads d st bs ⟨st.at_ + bs.length, 0⟩ := by
  have h1 := rest_len d st
  rw [h, List.length_append] at h1
  refine ⟨h0, rfl, ?_, rfl, by simp only; omega⟩
  have : restL d ⟨st.at_ + bs.length, 0⟩ = (restL d st).drop bs.length := by
    unfold restL
    rw [List.drop_drop]
  rw [this, h, List.drop_left]
theorem rUint_sound {d : ByteArray} {st : RS} (hl : st.at_ ≤ d.size) (h : (rUint d st).2.err = 0) : Reads d st (natB (rUint d st).1) (rUint d st).2 ∧ (rUint d st).1 < 18446744073709551616 := by
  unfold rUint at h ⊢
  split
  · rename_i h0
    rw [if_pos h0] at h
    cases hn : numF 0 0 (restL d st) with
    | none => rw [hn] at h; cases h
    | some nk =>
      obtain ⟨n, k⟩ := nk
      obtain ⟨m, r, h1, _, h3, h4, _, h6⟩ := numF_sound _ _ _ _ _ hn
      have e : n = m := by omega
      have e2 : k = (natB m).length := by omega
      subst e
      subst e2
      exact ⟨reads_step h0 hl h1, by simp only; omega⟩
  · rename_i h0
    rw [if_neg h0] at h
    exact absurd h h0
theorem rInt_sound {d : ByteArray} {st : RS} (hl : st.at_ ≤ d.size) (h : (rInt d st).2.err = 0) : Reads d st (zb (rInt d st).1) (rInt d st).2 := by
  obtain ⟨h1, h2⟩ := rUint_sound hl h
  unfold zb rInt
  rw [zz_un h2]
  exact h1
theorem rStr_sound {d : ByteArray} {st : RS} (hl : st.at_ ≤ d.size) (h : (rStr d st).2.err = 0) : Reads d st (strB (rStr d st).1) (rStr d st).2 := by
  unfold rStr at h ⊢
  split
  · rename_i h0
    rw [if_pos h0] at h
    cases hn : numF 0 0 (restL d st) with
    | none => rw [hn] at h; cases h
    | some nk =>
      obtain ⟨n, k⟩ := nk
      obtain ⟨m, r, h1, _, h3, h4, _, h6⟩ := numF_sound _ _ _ _ _ hn
      have e : n = m := by omega
      have e2 : k = (natB m).length := by omega
      subst e
      subst e2
      rw [hn] at h
      simp only at h ⊢
      split
      · rename_i hlt
        rw [if_pos hlt] at h
        cases h
      · rename_i hlt
        have hd : (restL d st).drop (natB n).length = r := by rw [h1, List.drop_left]
        have hrl : n ≤ r.length := by
          rw [h1, List.length_append] at hlt
          omega
        have hB : strB (ofL (((restL d st).drop (natB n).length).take n)) = natB n ++ r.take n := by
          unfold strB
          rw [hd, ofL_list, ofL_size, List.length_take, Nat.min_eq_left hrl]
        have := reads_step (bs := natB n ++ r.take n) (r := r.drop n) h0 hl (by rw [h1, List.append_assoc, List.take_append_drop])
        rw [hB]
        have el : (natB n ++ r.take n).length = (natB n).length + n := by rw [List.length_append, List.length_take, Nat.min_eq_left hrl]
        rw [el] at this
        exact this
  · rename_i h0
    rw [if_neg h0] at h
    exact absurd h h0
theorem rCount_sound {d : ByteArray} {most : Nat} {st : RS} (hl : st.at_ ≤ d.size) (h : (rCount d most st).2.err = 0) : Reads d st (natB (rCount d most st).1) (rCount d most st).2 := by
  unfold rCount at h ⊢
  split
  · rename_i h0
    rw [if_pos h0] at h
    cases hn : numF 0 0 (restL d st) with
    | none => rw [hn] at h; cases h
    | some nk =>
      obtain ⟨n, k⟩ := nk
      obtain ⟨m, r, h1, _, h3, h4, _, h6⟩ := numF_sound _ _ _ _ _ hn
      have e : n = m := by omega
      have e2 : k = (natB m).length := by omega
      subst e
      subst e2
      rw [hn] at h
      simp only at h ⊢
      split
      · rename_i hlt
        rw [if_pos hlt] at h
        cases h
      · exact reads_step h0 hl h1
  · rename_i h0
    rw [if_neg h0] at h
    exact absurd h h0
/-- an error stays -/
structure Stuck {α : Type} (step : RS → α × RS) : Prop where
  e : ∀ st : RS, st.err ≠ 0 → (step st).2 = st
theorem stuck_int (d : ByteArray) : Stuck (rInt d) := ⟨fun st h => by unfold rInt rUint; rw [if_neg h]⟩
theorem stuck_str (d : ByteArray) : Stuck (rStr d) := ⟨fun st h => by unfold rStr; rw [if_neg h]⟩
theorem stuck_count (d : ByteArray) (m : Nat) : Stuck (rCount d m) := ⟨fun st h => by unfold rCount; rw [if_neg h]⟩
theorem stuck_loop {α : Type} (step : RS → α × RS) (n : Nat) : Stuck (rLoop step n) := ⟨fun st h => by
  cases n with
  | zero => rfl
  | succ n => unfold rLoop; rw [if_neg h]⟩
theorem Stuck.ok {α : Type} {step : RS → α × RS} (h : Stuck step) {st : RS} (he : (step st).2.err = 0) : st.err = 0 := by
  rcases Classical.em (st.err = 0) with h0 | h0
  · exact h0
  · rw [h.e st h0] at he; exact he
/-- what a step reads, if it ends well -/
def Sound {α : Type} (d : ByteArray) (enc : α → List UInt8) (step : RS → α × RS) : Prop := ∀ st : RS, st.at_ ≤ d.size → (step st).2.err = 0 → Reads d st (enc (step st).1) (step st).2
theorem loop_sound {α : Type} {d : ByteArray} {enc : α → List UInt8} {step : RS → α × RS} (hs : Sound d enc step) (hk : Stuck step) : ∀ (n : Nat) (st : RS), st.at_ ≤ d.size → (rLoop step n st).2.err = 0 → Reads d st ((rLoop step n st).1.flatMap enc) (rLoop step n st).2 ∧ (rLoop step n st).1.length = n
  | 0, st, hl, h => ⟨Reads.refl h hl, rfl⟩
  | n + 1, st, hl, h => by
    have h0 : st.err = 0 := (stuck_loop step (n + 1)).ok h
    unfold rLoop at h ⊢
    rw [if_pos h0] at h ⊢
    have h1 : (step st).2.err = 0 := (stuck_loop step n).ok h
    have r1 := hs st hl h1
    obtain ⟨r2, r3⟩ := loop_sound hs hk n (step st).2 r1.le h
    refine ⟨?_, by simp only [List.length_cons, r3]⟩
    simp only [List.flatMap_cons]
    exact r1.trans r2
theorem ins_sound (d : ByteArray) : Sound d insB (rIns d) := fun st hl h => by
  have h2 := (stuck_int d).ok h
  have h1 := (stuck_int d).ok h2
  have a1 := rInt_sound hl h1
  have a2 := rInt_sound a1.le h2
  exact a1.trans (a2.trans (rInt_sound a2.le h))
theorem hdl_sound (d : ByteArray) : Sound d hdlB (rHdl d) := fun st hl h => by
  have h4 := (stuck_int d).ok h
  have h3 := (stuck_int d).ok h4
  have h2 := (stuck_int d).ok h3
  have h1 := (stuck_int d).ok h2
  have a1 := rInt_sound hl h1
  have a2 := rInt_sound a1.le h2
  have a3 := rInt_sound a2.le h3
  have a4 := rInt_sound a3.le h4
  exact a1.trans (a2.trans (a3.trans (a4.trans (rInt_sound a4.le h))))
theorem cst_sound (d : ByteArray) : Sound d cstB (rCst d) := fun st hl h => by
  unfold rCst at h ⊢
  unfold cstB
  by_cases hk : (rInt d st).1 = 2
  · rw [if_pos hk] at h ⊢
    have h1 := (stuck_str d).ok h
    have a1 := rInt_sound hl h1
    simp only [if_pos hk]
    exact a1.trans (rStr_sound a1.le h)
  · rw [if_neg hk] at h ⊢
    have h1 := (stuck_int d).ok h
    have a1 := rInt_sound hl h1
    simp only [if_neg hk]
    exact a1.trans (rInt_sound a1.le h)
theorem stuck_ins (d : ByteArray) : Stuck (rIns d) := ⟨fun st h => by unfold rIns; simp only [(stuck_int d).e st h]⟩
theorem stuck_hdl (d : ByteArray) : Stuck (rHdl d) := ⟨fun st h => by unfold rHdl; simp only [(stuck_int d).e st h]⟩
theorem stuck_cst (d : ByteArray) : Stuck (rCst d) := ⟨fun st h => by
  unfold rCst
  simp only [(stuck_int d).e st h, (stuck_str d).e st h]
  split <;> rfl⟩
theorem stuck_fn (d : ByteArray) : Stuck (rFn d) := ⟨fun st h => by
  unfold rFn
  simp only [(stuck_int d).e st h, (stuck_str d).e st h, (stuck_count d 65536).e st h, (stuck_loop (rIns d) _).e st h, (stuck_count d 10000).e st h, (stuck_loop (rCst d) _).e st h, (stuck_loop (rHdl d) _).e st h]⟩
theorem fn_sound (d : ByteArray) : Sound d fnB (rFn d) := fun st hl h => by
  have g9 := (stuck_loop (rHdl d) _).ok h
  have g8 := (stuck_count d 10000).ok g9
  have g7 := (stuck_loop (rCst d) _).ok g8
  have g6 := (stuck_count d 10000).ok g7
  have g5 := (stuck_loop (rIns d) _).ok g6
  have g4 := (stuck_count d 65536).ok g5
  have g3 := (stuck_int d).ok g4
  have g2 := (stuck_int d).ok g3
  have g1 := (stuck_int d).ok g2
  have a1 := rStr_sound hl g1
  have a2 := rInt_sound a1.le g2
  have a3 := rInt_sound a2.le g3
  have a4 := rInt_sound a3.le g4
  have a5 := rCount_sound a4.le g5
  obtain ⟨a6, l6⟩ := loop_sound (ins_sound d) (stuck_ins d) _ _ a5.le g6
  have a7 := rCount_sound a6.le g7
  obtain ⟨a8, l8⟩ := loop_sound (cst_sound d) (stuck_cst d) _ _ a7.le g8
  have a9 := rCount_sound a8.le g9
  obtain ⟨a10, l10⟩ := loop_sound (hdl_sound d) (stuck_hdl d) _ _ a9.le h
  rw [← l6] at a5
  rw [← l8] at a7
  rw [← l10] at a9
  exact a1.trans ((a2.trans (a3.trans a4)).trans (a5.trans (a6.trans (a7.trans (a8.trans (a9.trans a10))))))
/-- a program that was read to the end has the bytes that were read -/
theorem prog_sound {d : ByteArray} (h : rDone d (rProg d).2 = 0) : progBy (rProg d).1 = d.data.toList := by
  unfold rDone at h
  split at h
  · rename_i h0
    split at h
    · rename_i hat
      have h1 := (stuck_loop (rFn d) _).ok h0
      have a1 := rCount_sound (st := ⟨0, 0⟩) (Nat.zero_le _) h1
      obtain ⟨a2, l2⟩ := loop_sound (fn_sound d) (stuck_fn d) _ _ a1.le h0
      have key := (a1.trans a2).rest
      have e1 : restL d ⟨0, 0⟩ = d.data.toList := rfl
      have e2 : restL d (rProg d).2 = [] := by
        refine List.eq_nil_of_length_eq_zero ?_
        rw [rest_len, hat]
        omega
      unfold progBy rProg
      rw [l2]
      unfold rProg at e2
      rw [e1, e2, List.append_nil] at key
      exact key.symm
    · cases h
  · rename_i h0
    exact absurd h h0
/-- what was written is read again -/
def Comp {α : Type} (d : ByteArray) (enc : α → List UInt8) (norm : α → α) (ok : α → Prop) (step : RS → α × RS) : Prop := ∀ (st : RS) (x : α) (r : List UInt8), ok x → st.err = 0 → st.at_ ≤ d.size → restL d st = enc x ++ r → step st = (norm x, ⟨st.at_ + (enc x).length, 0⟩)
theorem rUint_comp {d : ByteArray} {st : RS} {n : Nat} {r : List UInt8} (hn : n < 18446744073709551616) (h0 : st.err = 0) (h : restL d st = natB n ++ r) : rUint d st = (n, ⟨st.at_ + (natB n).length, 0⟩) := by
  unfold rUint
  rw [if_pos h0, h, numF_comp n 0 0 r (fun h => by omega) (by omega)]
  simp
theorem rCount_comp {d : ByteArray} {most : Nat} {st : RS} {n : Nat} {r : List UInt8} (hm : most < 18446744073709551616) (hn : n ≤ most) (h0 : st.err = 0) (h : restL d st = natB n ++ r) : rCount d most st = (n, ⟨st.at_ + (natB n).length, 0⟩) := by
  unfold rCount
  rw [if_pos h0, h, numF_comp n 0 0 r (fun h => by omega) (by omega)]
  simp only [Nat.pow_zero, Nat.mul_one, Nat.zero_add]
  rw [if_neg (by omega)]
def I64R (n : Int) : Prop := -9223372036854775808 ≤ n ∧ n < 9223372036854775808
theorem int_comp (d : ByteArray) : Comp d zb id I64R (rInt d) := fun st n r hn h0 hl h => by
  unfold rInt
  have := zzU_rng n
  rw [rUint_comp (n := (zzU n).toNat) (by omega) h0 h]
  simp only [un_zz hn.1 hn.2]
  rfl
theorem str_comp (d : ByteArray) : Comp d strB id (fun s => s.size < 18446744073709551616) (rStr d) := fun st s r hs h0 hl h => by
  unfold strB at h
  rw [List.append_assoc] at h
  unfold rStr
  rw [if_pos h0, h, numF_comp s.size 0 0 _ (fun h => by omega) (by omega)]
  simp only [Nat.pow_zero, Nat.mul_one, Nat.zero_add]
  rw [List.length_append, List.length_append, ba_len, if_neg (by omega), List.drop_left]
  have e : List.take s.size (s.data.toList ++ r) = s.data.toList := by
    rw [← ba_len, List.take_left]
  rw [e, ofL_of]
  unfold strB
  rw [List.length_append, ba_len]
  rfl
/-- behind a step -/
theorem comp_next {α : Type} {d : ByteArray} {enc : α → List UInt8} {st : RS} {x : α} {r : List UInt8} (h0 : st.err = 0) (hl : st.at_ ≤ d.size) (h : restL d st = enc x ++ r) : restL d ⟨st.at_ + (enc x).length, 0⟩ = r ∧ st.at_ + (enc x).length ≤ d.size := by
  have := reads_step h0 hl h
  exact ⟨List.append_cancel_left (this.rest.symm.trans h), this.le⟩
theorem loop_comp {α : Type} {d : ByteArray} {enc : α → List UInt8} {norm : α → α} {ok : α → Prop} {step : RS → α × RS} (hc : Comp d enc norm ok step) : ∀ (xs : List α) (st : RS) (r : List UInt8), (∀ x ∈ xs, ok x) → st.err = 0 → st.at_ ≤ d.size → restL d st = xs.flatMap enc ++ r → rLoop step xs.length st = (xs.map norm, ⟨st.at_ + (xs.flatMap enc).length, 0⟩)
  | [], ⟨a, e⟩, r, _, h0, hl, h => by
    simp only at h0
    subst h0
    rfl
  | x :: xs, st, r, hok, h0, hl, h => by
    rw [List.flatMap_cons, List.append_assoc] at h
    have h1 := hc st x _ (hok x (List.mem_cons_self ..)) h0 hl h
    obtain ⟨h2, h3⟩ := comp_next h0 hl h
    have ih := loop_comp hc xs ⟨st.at_ + (enc x).length, 0⟩ r (fun y hy => hok y (List.mem_cons_of_mem _ hy)) rfl h3 h2
    simp only [List.length_cons]
    unfold rLoop
    rw [if_pos h0, h1]
    simp only [ih, List.map_cons, List.flatMap_cons, List.length_append, Nat.add_assoc]
structure InsI (x : Ins) : Prop where
  op : I64R x.op
  a : I64R x.a
  b : I64R x.b
structure HdlI (x : Hdl) : Prop where
  lo : I64R x.lo
  hi : I64R x.hi
  tg : I64R x.tg
  dp : I64R x.dp
  sc : I64R x.sc
structure CstI (x : Cst) : Prop where
  k : I64R x.kind
  i : I64R x.int
  s : x.str.size < 18446744073709551616
def cstN (c : Cst) : Cst := if c.kind = 2 then ⟨c.kind, 0, c.str⟩ else ⟨c.kind, c.int, ofL []⟩
def fnN (f : Fn) : Fn := { f with consts := f.consts.map cstN }
structure FnI (f : Fn) : Prop where
  nm : f.name.size < 18446744073709551616
  kd : I64R f.kind
  pa : I64R f.params
  lo : I64R f.locals
  l1 : f.code.length ≤ 65536
  l2 : f.consts.length ≤ 10000
  l3 : f.hdls.length ≤ 10000
  c1 : ∀ x ∈ f.code, InsI x
  c2 : ∀ x ∈ f.consts, CstI x
  c3 : ∀ x ∈ f.hdls, HdlI x
theorem ins_comp (d : ByteArray) : Comp d insB id InsI (rIns d) := fun st x r hx h0 hl h => by
  unfold insB at h
  simp only [List.append_assoc] at h
  have a1 := int_comp d st _ _ hx.op h0 hl h
  obtain ⟨n1, m1⟩ := comp_next h0 hl h
  have a2 := int_comp d _ _ _ hx.a rfl m1 n1
  obtain ⟨n2, m2⟩ := comp_next (st := ⟨_, 0⟩) rfl m1 n1
  have a3 := int_comp d _ _ _ hx.b rfl m2 n2
  simp only [id] at a1 a2 a3
  unfold rIns
  simp only [a1, a2, a3]
  simp only [insB, List.length_append, Nat.add_assoc, id]
theorem hdl_comp (d : ByteArray) : Comp d hdlB id HdlI (rHdl d) := fun st x r hx h0 hl h => by
  unfold hdlB at h
  simp only [List.append_assoc] at h
  have a1 := int_comp d st _ _ hx.lo h0 hl h
  obtain ⟨n1, m1⟩ := comp_next h0 hl h
  have a2 := int_comp d _ _ _ hx.hi rfl m1 n1
  obtain ⟨n2, m2⟩ := comp_next (st := ⟨_, 0⟩) rfl m1 n1
  have a3 := int_comp d _ _ _ hx.tg rfl m2 n2
  obtain ⟨n3, m3⟩ := comp_next (st := ⟨_, 0⟩) rfl m2 n2
  have a4 := int_comp d _ _ _ hx.dp rfl m3 n3
  obtain ⟨n4, m4⟩ := comp_next (st := ⟨_, 0⟩) rfl m3 n3
  have a5 := int_comp d _ _ _ hx.sc rfl m4 n4
  simp only [id] at a1 a2 a3 a4 a5
  unfold rHdl
  simp only [a1, a2, a3, a4, a5]
  simp only [hdlB, List.length_append, Nat.add_assoc, id]
theorem cst_comp (d : ByteArray) : Comp d cstB cstN CstI (rCst d) := fun st x r hx h0 hl h => by
  unfold cstB at h
  rw [List.append_assoc] at h
  have a1 := int_comp d st _ _ hx.k h0 hl h
  obtain ⟨n1, m1⟩ := comp_next h0 hl h
  unfold rCst cstN cstB
  by_cases hk : x.kind = 2
  · rw [if_pos hk] at n1
    have a2 := str_comp d _ _ _ hx.s rfl m1 n1
    simp only [id] at a1 a2
    simp only [a1, if_pos hk, a2]
    simp only [List.length_append, Nat.add_assoc]
  · rw [if_neg hk] at n1
    have a2 := int_comp d _ _ _ hx.i rfl m1 n1
    simp only [id] at a1 a2
    simp only [a1, if_neg hk, a2]
    simp only [List.length_append, Nat.add_assoc]
theorem fn_comp (d : ByteArray) : Comp d fnB fnN FnI (rFn d) := fun st f r hf h0 hl h => by
  unfold fnB at h
  simp only [List.append_assoc] at h
  have a1 := str_comp d st _ _ hf.nm h0 hl h
  obtain ⟨n1, m1⟩ := comp_next h0 hl h
  have a2 := int_comp d _ _ _ hf.kd rfl m1 n1
  obtain ⟨n2, m2⟩ := comp_next (st := ⟨_, 0⟩) rfl m1 n1
  have a3 := int_comp d _ _ _ hf.pa rfl m2 n2
  obtain ⟨n3, m3⟩ := comp_next (st := ⟨_, 0⟩) rfl m2 n2
  have a4 := int_comp d _ _ _ hf.lo rfl m3 n3
  obtain ⟨n4, m4⟩ := comp_next (st := ⟨_, 0⟩) rfl m3 n3
  have a5 := rCount_comp (most := 65536) (by omega) hf.l1 (st := ⟨_, 0⟩) rfl n4
  obtain ⟨n5, m5⟩ := comp_next (st := ⟨_, 0⟩) rfl m4 n4
  have a6 := loop_comp (ins_comp d) f.code _ _ hf.c1 rfl m5 n5
  obtain ⟨n6, m6⟩ := comp_next (enc := fun x => List.flatMap insB x) (st := ⟨_, 0⟩) rfl m5 n5
  have a7 := rCount_comp (most := 10000) (by omega) hf.l2 (st := ⟨_, 0⟩) rfl n6
  obtain ⟨n7, m7⟩ := comp_next (st := ⟨_, 0⟩) rfl m6 n6
  have a8 := loop_comp (cst_comp d) f.consts _ _ hf.c2 rfl m7 n7
  obtain ⟨n8, m8⟩ := comp_next (enc := fun x => List.flatMap cstB x) (st := ⟨_, 0⟩) rfl m7 n7
  have a9 := rCount_comp (most := 10000) (by omega) hf.l3 (st := ⟨_, 0⟩) rfl n8
  obtain ⟨n9, m9⟩ := comp_next (st := ⟨_, 0⟩) rfl m8 n8
  have a10 := loop_comp (hdl_comp d) f.hdls _ _ hf.c3 rfl m9 n9
  simp only [id, List.map_id] at a1 a2 a3 a4 a5 a6 a7 a8 a9 a10
  unfold rFn
  simp only [a1, a2, a3, a4, a5, a6, a7, a8, a9, a10]
  simp only [fnB, fnN, List.length_append, Nat.add_assoc]
theorem prog_comp {fs : List Fn} (h : ∀ f ∈ fs, FnI f) (hn : fs.length ≤ 4096) : rProg (ofL (progBy fs)) = (fs.map fnN, ⟨(ofL (progBy fs)).size, 0⟩) := by
  obtain ⟨d, hd⟩ : ∃ d, ofL (progBy fs) = d := ⟨_, rfl⟩
  have h1 : restL d ⟨0, 0⟩ = natB fs.length ++ fs.flatMap fnB := by rw [← hd]; rfl
  have a1 := rCount_comp (most := 4096) (by omega) hn (st := ⟨0, 0⟩) rfl h1
  obtain ⟨n1, m1⟩ := comp_next (st := ⟨0, 0⟩) rfl (Nat.zero_le _) h1
  have a2 := loop_comp (fn_comp d) fs _ [] h rfl m1 (by rw [List.append_nil]; exact n1)
  unfold rProg
  rw [hd, a1]
  have hs : d.size = (natB fs.length).length + (fs.flatMap fnB).length := by rw [← hd, ofL_size, progBy, List.length_append]
  simp only [Nat.zero_add] at a2
  simp only [a2, hs, Nat.zero_add]
end Go.Proofs.YtlffpgjkhehdmaaDoor

/- Own work: package bytecode: a function is written. -/
namespace Go.Proofs.YtlffpgjkhehdmaaDoor
open Go.RowKit
set_option maxRecDepth 100000
set_option linter.unusedSimpArgs false

/-- at the head of a loop that writes a list -/
structure WrI {α : Type} (l : List UInt8) (enc : α → List UInt8) (xs : List α) (y : Int × List (List PV) × Nat) : Prop where
  i0 : 0 ≤ y.1
  i1 : y.1 ≤ xs.length
  st : y.2.1 = pL (l ++ (xs.take y.1.toNat).flatMap enc) ∧ y.2.2 = (l ++ (xs.take y.1.toNat).flatMap enc).length
theorem take_flat {α : Type} {enc : α → List UInt8} {xs : List α} {i : Int} {x : α} (h0 : 0 ≤ i) (h : xs[i.toNat]? = some x) : (xs.take (i + 1).toNat).flatMap enc = (xs.take i.toNat).flatMap enc ++ enc x := by
  rw [show (i + 1).toNat = i.toNat + 1 by omega, List.take_add_one, h]
  simp
theorem take_le {α : Type} {enc : α → List UInt8} (xs : List α) (k : Nat) : ((xs.take k).flatMap enc).length ≤ (xs.flatMap enc).length := by
  have := List.take_append_drop k xs
  conv => rhs; rw [← this]
  rw [List.flatMap_append, List.length_append]
  omega
theorem WrI.zero {α : Type} (l : List UInt8) (enc : α → List UInt8) (xs : List α) : WrI l enc xs (0, pL l, l.length) := ⟨Int.le_refl _, Int.natCast_nonneg _, by simp, by simp⟩
theorem WrI.next {α : Type} {l : List UInt8} {enc : α → List UInt8} {xs : List α} {i : Int} {rs : List (List PV)} {m : Nat} {x : α} (h : WrI l enc xs (i, rs, m)) (hx : xs[i.toNat]? = some x) :
    WrI l enc xs (i + 1, pL ((l ++ (xs.take i.toNat).flatMap enc) ++ enc x), ((l ++ (xs.take i.toNat).flatMap enc) ++ enc x).length) := by
  have h0 := h.i0
  have hlt := (List.getElem?_eq_some_iff.1 hx).1
  simp only at h0
  refine ⟨by simp only; omega, by simp only; omega, ?_, ?_⟩
  · simp only; rw [take_flat h0 hx, List.append_assoc]
  · simp only; rw [take_flat h0 hx, List.append_assoc]
theorem WrI.last {α : Type} {l : List UInt8} {enc : α → List UInt8} {xs : List α} {i : Int} {rs : List (List PV)} {m : Nat} (h : WrI l enc xs (i, rs, m)) (hi : ¬ i < xs.length) : rs = pL (l ++ xs.flatMap enc) ∧ m = (l ++ xs.flatMap enc).length := by
  have h1 := h.st
  simp only at h1
  rw [List.take_of_length_le (by omega)] at h1
  exact h1
set_option maxHeartbeats 4000000 in
theorem func_w (l : List UInt8) (f : Fn) (hb : (l ++ fnB f).length ≤ 800000000) (hns : f.name.size ≤ 1000000) (hl1 : f.code.length ≤ 100000) (hl2 : f.consts.length ≤ 100000) (hl3 : f.hdls.length ≤ 100000) (hcs : ∀ c ∈ f.consts, c.str.size ≤ 1000000) :
    CM 56 [.own 0 0, .p (.agg (pFn f))] (wH l) (.p (.tup [])) (wH (l ++ fnB f)) := by
  have hfl : l ++ fnB f = (((((((l ++ strB f.name) ++ [f.kind, f.params, f.locals].flatMap zb) ++ natB f.code.length) ++ f.code.flatMap insB) ++ natB f.consts.length) ++ f.consts.flatMap cstB) ++ natB f.hdls.length) ++ f.hdls.flatMap hdlB := by
    unfold fnB
    simp only [List.append_assoc, List.flatMap_cons, List.flatMap_nil, List.append_nil]
  rw [hfl] at hb ⊢
  clear hfl
  obtain ⟨l1, hl1'⟩ : ∃ x, l ++ strB f.name = x := ⟨_, rfl⟩
  rw [hl1'] at hb ⊢
  obtain ⟨l2, hl2'⟩ : ∃ x, l1 ++ [f.kind, f.params, f.locals].flatMap zb = x := ⟨_, rfl⟩
  rw [hl2'] at hb ⊢
  obtain ⟨l3, hl3'⟩ : ∃ x, l2 ++ natB f.code.length = x := ⟨_, rfl⟩
  rw [hl3'] at hb ⊢
  obtain ⟨l4, hl4'⟩ : ∃ x, l3 ++ f.code.flatMap insB = x := ⟨_, rfl⟩
  rw [hl4'] at hb ⊢
  obtain ⟨l5, hl5'⟩ : ∃ x, l4 ++ natB f.consts.length = x := ⟨_, rfl⟩
  rw [hl5'] at hb ⊢
  obtain ⟨l6, hl6'⟩ : ∃ x, l5 ++ f.consts.flatMap cstB = x := ⟨_, rfl⟩
  rw [hl6'] at hb ⊢
  obtain ⟨l7, hl7'⟩ : ∃ x, l6 ++ natB f.hdls.length = x := ⟨_, rfl⟩
  rw [hl7'] at hb ⊢
  obtain ⟨l8, hl8'⟩ : ∃ x, l7 ++ f.hdls.flatMap hdlB = x := ⟨_, rfl⟩
  rw [hl8'] at hb ⊢
  have b7 : l7.length + (f.hdls.flatMap hdlB).length ≤ 800000000 := by rw [← hl8', List.length_append] at hb; exact hb
  have b6 : l6.length ≤ 800000000 := by rw [← hl7', List.length_append] at b7; omega
  have b5 : l5.length + (f.consts.flatMap cstB).length ≤ 800000000 := by rw [← hl6', List.length_append] at b6; exact b6
  have b4 : l4.length ≤ 800000000 := by rw [← hl5', List.length_append] at b5; omega
  have b3 : l3.length + (f.code.flatMap insB).length ≤ 800000000 := by rw [← hl4', List.length_append] at b4; exact b4
  have b2 : l2.length ≤ 800000000 := by rw [← hl3', List.length_append] at b3; omega
  have b1 : l1.length ≤ 800000000 := by rw [← hl2', List.length_append] at b2; omega
  have b0 : l.length ≤ 800000000 := by rw [← hl1', List.length_append] at b1; omega
  have c1 := str_w l f.name hns (by omega)
  have c2 : CM 75 [.own 0 0, .p (.ro 1 [[cI f.kind], [cI f.params], [cI f.locals]])] (wH l1) (.p (.tup [])) (wH (l1 ++ [f.kind, f.params, f.locals].flatMap zb)) := ints_w l1 [f.kind, f.params, f.locals] (by simp) (by omega)
  have c3 := count_w l2 f.code.length (Int.natCast_nonneg _) (by omega) (by omega)
  have c5 := count_w l4 f.consts.length (Int.natCast_nonneg _) (by omega) (by omega)
  have c7 := count_w l6 f.hdls.length (Int.natCast_nonneg _) (by omega) (by omega)
  rw [hl1'] at c1
  rw [hl2'] at c2
  rw [show ((f.code.length : Nat) : Int).toNat = f.code.length by omega, hl3'] at c3
  rw [show ((f.consts.length : Nat) : Int).toNat = f.consts.length by omega, hl5'] at c5
  rw [show ((f.hdls.length : Nat) : Int).toNat = f.hdls.length by omega, hl7'] at c7
  have g4 : ∀ l' : List UInt8, l'.length ≤ 850000000 → ∀ x : Ins, CM 75 [.own 0 0, .p (.ro 1 [[cI x.op], [cI x.a], [cI x.b]])] (wH l') (.p (.tup [])) (wH (l' ++ insB x)) := fun l' h x => by
    have := ints_w l' [x.op, x.a, x.b] (by simp) (by omega)
    simp only [List.flatMap_cons, List.flatMap_nil, List.append_nil] at this
    exact this
  have g8 : ∀ l' : List UInt8, l'.length ≤ 850000000 → ∀ x : Hdl, CM 75 [.own 0 0, .p (.ro 1 [[cI x.lo], [cI x.hi], [cI x.tg], [cI x.dp], [cI x.sc]])] (wH l') (.p (.tup [])) (wH (l' ++ hdlB x)) := fun l' h x => by
    have := ints_w l' [x.lo, x.hi, x.tg, x.dp, x.sc] (by simp) (by omega)
    simp only [List.flatMap_cons, List.flatMap_nil, List.append_nil] at this
    exact this
  have g6 : ∀ l' : List UInt8, l'.length ≤ 850000000 → ∀ n : Int, CM 75 [.own 0 0, .p (.ro 1 [[cI n]])] (wH l') (.p (.tup [])) (wH (l' ++ zb n)) := fun l' h n => by
    have := ints_w l' [n] (by simp) (by omega)
    simp only [List.flatMap_cons, List.flatMap_nil, List.append_nil] at this
    exact this
  have g6i : ∀ l' : List UInt8, l'.length ≤ 850000000 → ∀ n : Int, CM 76 [.own 0 0, .p (cI n)] (wH l') (.p (.tup [])) (wH (l' ++ zb n)) := fun l' h n => int_w l' n (by omega)
  have g6s : ∀ l' : List UInt8, l'.length ≤ 850000000 → ∀ s : ByteArray, s.size ≤ 1000000 → CM 74 [.own 0 0, .p (cS s)] (wH l') (.p (.tup [])) (wH (l' ++ strB s)) := fun l' h s hs => str_w l' s hs (by omega)
  have k1 : (pCode f.code).length = f.code.length := by simp [pCode]
  have k2 : (pCons f.consts).length = f.consts.length := by simp [pCons]
  have k3 : (pHdls f.hdls).length = f.hdls.length := by simp [pHdls]
  have f1 : ∀ (k : Nat) x, f.code[k]? = some x → (pCode f.code)[k]? = some [cI x.op, cI x.a, cI x.b] := fun k x h => by unfold pCode; rw [List.getElem?_map, h]; rfl
  have f2 : ∀ (k : Nat) x, f.consts[k]? = some x → (pCons f.consts)[k]? = some [cI x.kind, cI x.int, cS x.str] := fun k x h => by unfold pCons; rw [List.getElem?_map, h]; rfl
  have f3 : ∀ (k : Nat) x, f.hdls[k]? = some x → (pHdls f.hdls)[k]? = some [cI x.lo, cI x.hi, cI x.tg, cI x.dp, cI x.sc] := fun k x h => by unfold pHdls; rw [List.getElem?_map, h]; rfl
  obtain ⟨⟨nm, kd, pa, lo, code, consts, hdls⟩, hf⟩ : ∃ x, f = x := ⟨_, rfl⟩
  subst hf
  simp only at *
  unfold wH at c1 c2 c3 c5 c7 g4 g6 g8 g6i g6s ⊢
  have w3 := WrI.zero l3 insB code
  have w5 := WrI.zero l5 cstB consts
  have w7 := WrI.zero l7 hdlB hdls
  obtain ⟨r0, e0⟩ : ∃ x, pL l = x := ⟨_, rfl⟩
  obtain ⟨r1, e1⟩ : ∃ x, pL l1 = x := ⟨_, rfl⟩
  obtain ⟨r2, e2⟩ : ∃ x, pL l2 = x := ⟨_, rfl⟩
  obtain ⟨r3, e3⟩ : ∃ x, pL l3 = x := ⟨_, rfl⟩
  obtain ⟨r4, e4⟩ : ∃ x, pL l4 = x := ⟨_, rfl⟩
  obtain ⟨r5, e5⟩ : ∃ x, pL l5 = x := ⟨_, rfl⟩
  obtain ⟨r6, e6⟩ : ∃ x, pL l6 = x := ⟨_, rfl⟩
  obtain ⟨r7, e7⟩ : ∃ x, pL l7 = x := ⟨_, rfl⟩
  obtain ⟨r8, e8⟩ : ∃ x, pL l8 = x := ⟨_, rfl⟩
  obtain ⟨m0, d0⟩ : ∃ x, l.length = x := ⟨_, rfl⟩
  obtain ⟨m1, d1⟩ : ∃ x, l1.length = x := ⟨_, rfl⟩
  obtain ⟨m2, d2⟩ : ∃ x, l2.length = x := ⟨_, rfl⟩
  obtain ⟨m3, d3⟩ : ∃ x, l3.length = x := ⟨_, rfl⟩
  obtain ⟨m4, d4⟩ : ∃ x, l4.length = x := ⟨_, rfl⟩
  obtain ⟨m5, d5⟩ : ∃ x, l5.length = x := ⟨_, rfl⟩
  obtain ⟨m6, d6⟩ : ∃ x, l6.length = x := ⟨_, rfl⟩
  obtain ⟨m7, d7⟩ : ∃ x, l7.length = x := ⟨_, rfl⟩
  obtain ⟨m8, d8⟩ : ∃ x, l8.length = x := ⟨_, rfl⟩
  rw [e0, e1, d0, d1] at c1
  rw [e1, e2, d1, d2] at c2
  rw [e2, e3, d2, d3] at c3
  rw [e4, e5, d4, d5] at c5
  rw [e6, e7, d6, d7] at c7
  rw [e3, d3] at w3
  rw [e5, d5] at w5
  rw [e7, d7] at w7
  rw [e0, d0, e8, d8]
  unfold pFn
  simp only
  obtain ⟨CD, hCD⟩ : ∃ x, pCode code = x := ⟨_, rfl⟩
  obtain ⟨CS, hCS⟩ : ∃ x, pCons consts = x := ⟨_, rfl⟩
  obtain ⟨HR, hHR⟩ : ∃ x, pHdls hdls = x := ⟨_, rfl⟩
  rw [hCD] at k1 f1 ⊢
  rw [hCS] at k2 f2 ⊢
  rw [hHR] at k3 f3 ⊢
  obtain ⟨n1, hn1⟩ : ∃ x, code.length = x := ⟨_, rfl⟩
  obtain ⟨n2, hn2⟩ : ∃ x, consts.length = x := ⟨_, rfl⟩
  obtain ⟨n3, hn3⟩ : ∃ x, hdls.length = x := ⟨_, rfl⟩
  rw [hn1] at k1 c3 hl1
  rw [hn2] at k2 c5 hl2
  rw [hn3] at k3 c7 hl3
  refine retm_cut tyT_ok (f := 56) Tryd.func56 rfl (by kernel_rfl) (of_decide_eq_true (by kernel_rfl)) fun tags htl => ?_
  match tags, htl with
  | [t0, t1], _ =>
    refine Seg.cutK 2 112 [0, 3] 3 (fun _ : Unit => [.own 0 0, .own 2 0]) (fun _ => [some (.box [.osl 1 0 m1] 103 (some t0)), some (.rows 1 r1 5), some (.box [.p (cS nm), .p (cI kd), .p (cI pa), .p (cI lo), .p (.ro 3 CD), .p (.ro 3 CS), .p (.ro 5 HR)] 50 none)]) (fun _ => True) tyT_ok mixed (fun n => match n with | 1 => 5 | 3 => 6 | 9 => 6 | 15 => 5 | 16 => 5 | 18 => 6 | _ => 0) (fun E => retQM E tyT Tryd.f56.results.toList [t0, t1] (.p (.tup [])) [some (.box [.osl 1 0 m8] 103 none), some (.rows 1 r8 5)]) (by kernel_rfl) ?_ ?_
    · intro P G E hc hM hE
      replace c1 := hM _ _ _ _ _ c1
      clear c2 c3 c5 c7
      clear g4 g6 g6i g6s g8 f1 f2 f3 w3 w5 w7
      cbv
      refine .mk _ _ (Wk.refl _ _) [0, 1] _ _ _ _ c1 rfl rfl rfl ?_
      cbv
      exact .mk () ⟨rfl, rfl, rfl, rfl, rfl⟩ trivial
    intro _ _
    clear c1
    refine Seg.cutK 1 112 [0, 3] 3 (fun _ : Unit => [.own 0 0, .own 2 0]) (fun _ => [some (.box [.osl 1 0 m2] 103 (some t0)), some (.rows 1 r2 5), some (.box [.p (cS nm), .p (cI kd), .p (cI pa), .p (cI lo), .p (.ro 3 CD), .p (.ro 3 CS), .p (.ro 5 HR)] 50 none)]) (fun _ => True) tyT_ok mixed (fun n => match n with | 1 => 5 | 3 => 6 | 9 => 6 | 15 => 5 | 16 => 5 | 18 => 6 | _ => 0) (fun E => retQM E tyT Tryd.f56.results.toList [t0, t1] (.p (.tup [])) [some (.box [.osl 1 0 m8] 103 none), some (.rows 1 r8 5)]) (by kernel_rfl) ?_ ?_
    · intro P G E hc hM hE
      replace c2 := hM _ _ _ _ _ c2
      clear c3 c5 c7
      clear g4 g6 g6i g6s g8 f1 f2 f3 w3 w5 w7
      cbv
      refine .mk _ _ (wk_frzSE (d := 23) (l := 3) (n := 3) rfl rfl (Nat.le_refl 3) rfl) [0, 1] _ _ _ _ c2 rfl rfl rfl ?_
      cbv
      exact .mk () ⟨rfl, rfl, rfl, rfl, rfl⟩ trivial
    intro _ _
    clear c2
    refine Seg.cutK 1 112 [0, 3] 3 (fun _ : Unit => [.own 0 0, .own 2 0]) (fun _ => [some (.box [.osl 1 0 m3] 103 (some t0)), some (.rows 1 r3 5), some (.box [.p (cS nm), .p (cI kd), .p (cI pa), .p (cI lo), .p (.ro 3 CD), .p (.ro 3 CS), .p (.ro 5 HR)] 50 none)]) (fun _ => True) tyT_ok mixed (fun n => match n with | 1 => 5 | 3 => 6 | 9 => 6 | 15 => 5 | 16 => 5 | 18 => 6 | _ => 0) (fun E => retQM E tyT Tryd.f56.results.toList [t0, t1] (.p (.tup [])) [some (.box [.osl 1 0 m8] 103 none), some (.rows 1 r8 5)]) (by kernel_rfl) ?_ ?_
    · intro P G E hc hM hE
      replace c3 := hM _ _ _ _ _ c3
      have eofn : ∀ n, E.ofN n = (n : Int) := fun n => by rw [hE]; rfl
      have hz := eofn n1
      rw [← hz] at c3
      clear eofn hz hE
      clear g4 g6 g6i g6s g8 f1 f2 f3 w3 w5 w7
      cbv at k1
      cbv
      repeat (first | (simp only [k1]; cbv) | simp only [k1])
      refine .mk _ _ (Wk.refl _ _) [0, 1] _ _ _ _ c3 rfl rfl rfl ?_
      cbv
      exact .mk () ⟨rfl, rfl, rfl, rfl, rfl⟩ trivial
    intro _ _
    clear c3
    refine Seg.cutK 1 112 [0, 3] 3 (fun _ : Unit => [.own 0 0, .own 2 0]) (fun _ => [some (.box [.osl 1 0 m4] 103 (some t0)), some (.rows 1 r4 5), some (.box [.p (cS nm), .p (cI kd), .p (cI pa), .p (cI lo), .p (.ro 3 CD), .p (.ro 3 CS), .p (.ro 5 HR)] 50 none)]) (fun _ => True) tyT_ok mixed (fun n => match n with | 1 => 5 | 3 => 6 | 9 => 6 | 15 => 5 | 16 => 5 | 18 => 6 | _ => 0) (fun E => retQM E tyT Tryd.f56.results.toList [t0, t1] (.p (.tup [])) [some (.box [.osl 1 0 m8] 103 none), some (.rows 1 r8 5)]) (by kernel_rfl) ?_ ?_
    · intro P G E hc hM hE
      have elt : ∀ a b, E.lti a b = decide (a < b) := fun a b => by rw [hE]; rfl
      have eofn : ∀ n, E.ofN n = (n : Int) := fun n => by rw [hE]; rfl
      have enat : ∀ i, E.nat i = i.toNat := fun i => by rw [hE]; rfl
      have eple : ∀ a b, a ≤ b → E.ple a b := fun a b h => by rw [hE]; exact h
      have eadd : ∀ a b : Int, -1000000 ≤ a → a ≤ 1000000 → -1000000 ≤ b → b ≤ 1000000 → E.wadd .i64 a b = a + b := fun a b h0 h1 h2 h3 => by rw [hE]; exact wrap_i64_in (by omega) (by omega)
      clear hE
      obtain ⟨μ, hμ⟩ : ∃ μ : Int → Nat, ∀ i, μ i = 200000 - i.toNat := ⟨_, fun _ => rfl⟩
      cbv at k1
      cbv
      simp only [k1]
      refine loop_by 112 [0, 3, 33, 34, 35] 3 (fun y : Int × List (List PV) × Nat => [.own 0 0, .own 2 0, .p (.ro 3 CD), .p (cI (E.ofN n1)), .p (cI y.1)]) (fun y => [some (.box [.osl 1 0 y.2.2] 103 (some t0)), some (.rows 1 y.2.1 5), some (.box [.p (cS nm), .p (cI kd), .p (cI pa), .p (cI lo), .p (.ro 3 CD), .p (.ro 3 CS), .p (.ro 5 HR)] 50 none)]) (WrI l3 insB code) (fun y => μ y.1) (0, r3, m3) ⟨rfl, rfl, rfl, rfl, rfl⟩ w3 ?_
      rintro ⟨i, rs, m⟩ hI
      obtain ⟨i0, i1, hr, hml⟩ := id hI
      simp only at i0 i1 hr hml
      replace hn1 : code.length = n1 := hn1
      replace eofn : ∀ n : Nat, E.ofN n = (n : Int) := eofn
      replace hμ : ∀ i : Int, μ i = 200000 - i.toNat := hμ
      replace hl1 : n1 ≤ 100000 := hl1
      have dd : E.lti i (E.ofN n1) = decide (i < (n1 : Int)) := by rw [eofn, elt]
      by_cases hi : i < (n1 : Int)
      · rw [decide_eq_true hi] at dd
        obtain ⟨x, hx⟩ : ∃ x, code[i.toNat]? = some x := ⟨_, List.getElem?_eq_getElem (by omega)⟩
        have gr := f1 _ _ hx
        rw [← enat] at gr
        have p3 := eple 0 i i0
        have ei := eadd i 1 (by omega) (by omega) (by omega) (by omega)
        have hM2 : μ (E.wadd .i64 i 1) < μ i := by rw [hμ, hμ, ei]; omega
        have hI2 := hI.next hx
        rw [← ei] at hI2
        have hlen : (l3 ++ (code.take i.toNat).flatMap insB).length ≤ 800000000 := by
          have := take_le (enc := insB) code i.toNat
          rw [List.length_append]
          omega
        obtain ⟨l', hl'⟩ : ∃ y, l3 ++ (code.take i.toNat).flatMap insB = y := ⟨_, rfl⟩
        rw [hl'] at hr hml hlen hI2
        have rc := hM _ _ _ _ _ (g4 l' (by omega) x)
        rw [← hr, ← hml] at rc
        obtain ⟨rx, hrx⟩ : ∃ y, pL (l' ++ insB x) = y := ⟨_, rfl⟩
        obtain ⟨mx, hmx⟩ : ∃ y, (l' ++ insB x).length = y := ⟨_, rfl⟩
        rw [hrx, hmx] at rc hI2
        obtain ⟨op, a, b⟩ := x
        simp only at gr rc
        clear hx hr hml hl' hlen hrx hmx hI
        clear g4 g6 g6i g6s g8 f1 f2 f3 
        cbv
        repeat (first | (simp only [k1]; cbv) | simp only [k1] | (simp only [dd]; cbv) | simp only [dd] | (refine ⟨p3,_,gr, ?_⟩; cbv))
        refine .mk _ _ (wk_frzSE (d := 46) (l := 4) (n := 3) rfl rfl (Nat.le_refl 3) rfl) [0, 1] _ _ _ _ rc rfl rfl rfl ?_
        cbv
        refine .mk (E.wadd .i64 i 1, rx, mx) ⟨rfl, rfl, rfl, rfl, rfl⟩ ?_ ?_
        · exact hI2
        · exact hM2
      · rw [decide_eq_false hi] at dd
        obtain ⟨h1, h2⟩ := hI.last (by omega)
        rw [hl4'] at h1 h2
        obtain rfl : rs = r4 := h1.trans e4
        obtain rfl : m = m4 := h2.trans d4
        clear h1 h2 hI hr hml
        clear g4 g6 g6i g6s g8 f1 f2 f3 
        cbv
        repeat (first | (simp only [k1]; cbv) | simp only [k1] | (simp only [dd]; cbv) | simp only [dd])
        exact .mk () ⟨rfl, rfl, rfl, rfl, rfl⟩ trivial
    intro _ _
    refine Seg.cutK 1 112 [0, 3] 3 (fun _ : Unit => [.own 0 0, .own 2 0]) (fun _ => [some (.box [.osl 1 0 m5] 103 (some t0)), some (.rows 1 r5 5), some (.box [.p (cS nm), .p (cI kd), .p (cI pa), .p (cI lo), .p (.ro 3 CD), .p (.ro 3 CS), .p (.ro 5 HR)] 50 none)]) (fun _ => True) tyT_ok mixed (fun n => match n with | 1 => 5 | 3 => 6 | 9 => 6 | 15 => 5 | 16 => 5 | 18 => 6 | _ => 0) (fun E => retQM E tyT Tryd.f56.results.toList [t0, t1] (.p (.tup [])) [some (.box [.osl 1 0 m8] 103 none), some (.rows 1 r8 5)]) (by kernel_rfl) ?_ ?_
    · intro P G E hc hM hE
      replace c5 := hM _ _ _ _ _ c5
      have eofn : ∀ n, E.ofN n = (n : Int) := fun n => by rw [hE]; rfl
      have hz := eofn n2
      rw [← hz] at c5
      clear eofn hz hE
      clear g4 g6 g6i g6s g8 f1 f2 f3 w3 w5 w7
      cbv at k2
      cbv
      repeat (first | (simp only [k2]; cbv) | simp only [k2])
      refine .mk _ _ (Wk.refl _ _) [0, 1] _ _ _ _ c5 rfl rfl rfl ?_
      cbv
      exact .mk () ⟨rfl, rfl, rfl, rfl, rfl⟩ trivial
    intro _ _
    clear c5
    refine Seg.cutK 1 112 [0, 3] 3 (fun _ : Unit => [.own 0 0, .own 2 0]) (fun _ => [some (.box [.osl 1 0 m6] 103 (some t0)), some (.rows 1 r6 5), some (.box [.p (cS nm), .p (cI kd), .p (cI pa), .p (cI lo), .p (.ro 3 CD), .p (.ro 3 CS), .p (.ro 5 HR)] 50 none)]) (fun _ => True) tyT_ok mixed (fun n => match n with | 1 => 5 | 3 => 6 | 9 => 6 | 15 => 5 | 16 => 5 | 18 => 6 | _ => 0) (fun E => retQM E tyT Tryd.f56.results.toList [t0, t1] (.p (.tup [])) [some (.box [.osl 1 0 m8] 103 none), some (.rows 1 r8 5)]) (by kernel_rfl) ?_ ?_
    · intro P G E hc hM hE
      have elt : ∀ a b, E.lti a b = decide (a < b) := fun a b => by rw [hE]; rfl
      have eofn : ∀ n, E.ofN n = (n : Int) := fun n => by rw [hE]; rfl
      have enat : ∀ i, E.nat i = i.toNat := fun i => by rw [hE]; rfl
      have eple : ∀ a b, a ≤ b → E.ple a b := fun a b h => by rw [hE]; exact h
      have eadd : ∀ a b : Int, -1000000 ≤ a → a ≤ 1000000 → -1000000 ≤ b → b ≤ 1000000 → E.wadd .i64 a b = a + b := fun a b h0 h1 h2 h3 => by rw [hE]; exact wrap_i64_in (by omega) (by omega)
      clear hE
      obtain ⟨μ, hμ⟩ : ∃ μ : Int → Nat, ∀ i, μ i = 200000 - i.toNat := ⟨_, fun _ => rfl⟩
      cbv at k2
      cbv
      simp only [k2]
      refine loop_by 112 [0, 3, 57, 58, 59] 3 (fun y : Int × List (List PV) × Nat => [.own 0 0, .own 2 0, .p (.ro 3 CS), .p (cI (E.ofN n2)), .p (cI y.1)]) (fun y => [some (.box [.osl 1 0 y.2.2] 103 (some t0)), some (.rows 1 y.2.1 5), some (.box [.p (cS nm), .p (cI kd), .p (cI pa), .p (cI lo), .p (.ro 3 CD), .p (.ro 3 CS), .p (.ro 5 HR)] 50 none)]) (WrI l5 cstB consts) (fun y => μ y.1) (0, r5, m5) ⟨rfl, rfl, rfl, rfl, rfl⟩ w5 ?_
      rintro ⟨i, rs, m⟩ hI
      obtain ⟨i0, i1, hr, hml⟩ := id hI
      simp only at i0 i1 hr hml
      replace hn2 : consts.length = n2 := hn2
      replace eofn : ∀ n : Nat, E.ofN n = (n : Int) := eofn
      replace hμ : ∀ i : Int, μ i = 200000 - i.toNat := hμ
      replace hl2 : n2 ≤ 100000 := hl2
      have dd : E.lti i (E.ofN n2) = decide (i < (n2 : Int)) := by rw [eofn, elt]
      by_cases hi : i < (n2 : Int)
      · rw [decide_eq_true hi] at dd
        obtain ⟨x, hx⟩ : ∃ x, consts[i.toNat]? = some x := ⟨_, List.getElem?_eq_getElem (by omega)⟩
        have gr := f2 _ _ hx
        rw [← enat] at gr
        have p3 := eple 0 i i0
        have ei := eadd i 1 (by omega) (by omega) (by omega) (by omega)
        have hM2 : μ (E.wadd .i64 i 1) < μ i := by rw [hμ, hμ, ei]; omega
        have hI2 := hI.next hx
        rw [← ei] at hI2
        have hlen : (l5 ++ (consts.take i.toNat).flatMap cstB).length ≤ 800000000 := by
          have := take_le (enc := cstB) consts i.toNat
          rw [List.length_append]
          omega
        obtain ⟨l', hl'⟩ : ∃ y, l5 ++ (consts.take i.toNat).flatMap cstB = y := ⟨_, rfl⟩
        rw [hl'] at hr hml hlen hI2
        have hs := hcs x (List.mem_of_getElem? hx)
        have rc := hM _ _ _ _ _ (g6 l' (by omega) x.kind)
        rw [← hr, ← hml] at rc
        have hlk : (l' ++ zb x.kind).length ≤ 850000000 := by have := zb_len x.kind; rw [List.length_append]; omega
        have rs2 := hM _ _ _ _ _ (g6s (l' ++ zb x.kind) hlk x.str hs)
        have ri2 := hM _ _ _ _ _ (g6i (l' ++ zb x.kind) hlk x.int)
        obtain ⟨ry, hry⟩ : ∃ y, pL (l' ++ zb x.kind) = y := ⟨_, rfl⟩
        obtain ⟨my, hmy⟩ : ∃ y, (l' ++ zb x.kind).length = y := ⟨_, rfl⟩
        rw [hry, hmy] at rc rs2 ri2
        have hce : l' ++ cstB x = (l' ++ zb x.kind) ++ (if x.kind = 2 then strB x.str else zb x.int) := by unfold cstB; rw [List.append_assoc]
        rw [hce] at hI2
        rcases Classical.em (x.kind = 2) with hk2 | hk2
        · rw [if_pos hk2] at hI2
          obtain ⟨rx, hrx⟩ : ∃ y, pL ((l' ++ zb x.kind) ++ strB x.str) = y := ⟨_, rfl⟩
          obtain ⟨mx, hmx⟩ : ∃ y, ((l' ++ zb x.kind) ++ strB x.str).length = y := ⟨_, rfl⟩
          rw [hrx, hmx] at rs2 hI2
          have u2 : decide (x.kind = 2) = true := decide_eq_true hk2
          obtain ⟨ck, ci, cs⟩ := x
          simp only at gr rc rs2 u2
          clear hx hr hml hl' hlen hrx hmx hI hry hmy hlk hce hs ri2 hk2
          clear g4 g6 g6i g6s g8 f1 f2 f3 
          cbv
          repeat (first | (simp only [k2]; cbv) | simp only [k2] | (simp only [dd]; cbv) | simp only [dd] | (refine ⟨p3,_,gr, ?_⟩; cbv))
          refine .mk _ _ (wk_frzSE (d := 66) (l := 4) (n := 1) rfl rfl (Nat.le_refl 1) rfl) [0, 1] _ _ _ _ rc rfl rfl rfl ?_
          cbv
          repeat (first | (simp only [u2]; cbv) | simp only [u2])
          refine .mk _ _ (Wk.refl _ _) [0, 1] _ _ _ _ rs2 rfl rfl rfl ?_
          cbv
          refine .mk (E.wadd .i64 i 1, rx, mx) ⟨rfl, rfl, rfl, rfl, rfl⟩ ?_ ?_
          · exact hI2
          · exact hM2
        · rw [if_neg hk2] at hI2
          obtain ⟨rx, hrx⟩ : ∃ y, pL ((l' ++ zb x.kind) ++ zb x.int) = y := ⟨_, rfl⟩
          obtain ⟨mx, hmx⟩ : ∃ y, ((l' ++ zb x.kind) ++ zb x.int).length = y := ⟨_, rfl⟩
          rw [hrx, hmx] at ri2 hI2
          have u2 : decide (x.kind = 2) = false := decide_eq_false hk2
          obtain ⟨ck, ci, cs⟩ := x
          simp only at gr rc ri2 u2
          clear hx hr hml hl' hlen hrx hmx hI hry hmy hlk hce hs rs2 hk2
          clear g4 g6 g6i g6s g8 f1 f2 f3 
          cbv
          repeat (first | (simp only [k2]; cbv) | simp only [k2] | (simp only [dd]; cbv) | simp only [dd] | (refine ⟨p3,_,gr, ?_⟩; cbv))
          refine .mk _ _ (wk_frzSE (d := 66) (l := 4) (n := 1) rfl rfl (Nat.le_refl 1) rfl) [0, 1] _ _ _ _ rc rfl rfl rfl ?_
          cbv
          repeat (first | (simp only [u2]; cbv) | simp only [u2])
          refine .mk _ _ (Wk.refl _ _) [0, 1] _ _ _ _ ri2 rfl rfl rfl ?_
          cbv
          refine .mk (E.wadd .i64 i 1, rx, mx) ⟨rfl, rfl, rfl, rfl, rfl⟩ ?_ ?_
          · exact hI2
          · exact hM2
      · rw [decide_eq_false hi] at dd
        obtain ⟨h1, h2⟩ := hI.last (by omega)
        rw [hl6'] at h1 h2
        obtain rfl : rs = r6 := h1.trans e6
        obtain rfl : m = m6 := h2.trans d6
        clear h1 h2 hI hr hml
        clear g4 g6 g6i g6s g8 f1 f2 f3 
        cbv
        repeat (first | (simp only [k2]; cbv) | simp only [k2] | (simp only [dd]; cbv) | simp only [dd])
        exact .mk () ⟨rfl, rfl, rfl, rfl, rfl⟩ trivial
    intro _ _
    refine Seg.cutK 1 112 [0, 3] 3 (fun _ : Unit => [.own 0 0, .own 2 0]) (fun _ => [some (.box [.osl 1 0 m7] 103 (some t0)), some (.rows 1 r7 5), some (.box [.p (cS nm), .p (cI kd), .p (cI pa), .p (cI lo), .p (.ro 3 CD), .p (.ro 3 CS), .p (.ro 5 HR)] 50 none)]) (fun _ => True) tyT_ok mixed (fun n => match n with | 1 => 5 | 3 => 6 | 9 => 6 | 15 => 5 | 16 => 5 | 18 => 6 | _ => 0) (fun E => retQM E tyT Tryd.f56.results.toList [t0, t1] (.p (.tup [])) [some (.box [.osl 1 0 m8] 103 none), some (.rows 1 r8 5)]) (by kernel_rfl) ?_ ?_
    · intro P G E hc hM hE
      replace c7 := hM _ _ _ _ _ c7
      have eofn : ∀ n, E.ofN n = (n : Int) := fun n => by rw [hE]; rfl
      have hz := eofn n3
      rw [← hz] at c7
      clear eofn hz hE
      clear g4 g6 g6i g6s g8 f1 f2 f3 w3 w5 w7
      cbv at k3
      cbv
      repeat (first | (simp only [k3]; cbv) | simp only [k3])
      refine .mk _ _ (Wk.refl _ _) [0, 1] _ _ _ _ c7 rfl rfl rfl ?_
      cbv
      exact .mk () ⟨rfl, rfl, rfl, rfl, rfl⟩ trivial
    intro _ _
    clear c7
    · refine Seg.of tyT_ok mixed (fun n => match n with | 1 => 5 | 3 => 6 | 9 => 6 | 15 => 5 | 16 => 5 | 18 => 6 | _ => 0) (by kernel_rfl) (fun E => retQM E tyT Tryd.f56.results.toList [t0, t1] (.p (.tup [])) [some (.box [.osl 1 0 m8] 103 none), some (.rows 1 r8 5)]) fun P G E hc hM hE => ?_
      have elt : ∀ a b, E.lti a b = decide (a < b) := fun a b => by rw [hE]; rfl
      have eofn : ∀ n, E.ofN n = (n : Int) := fun n => by rw [hE]; rfl
      have enat : ∀ i, E.nat i = i.toNat := fun i => by rw [hE]; rfl
      have eple : ∀ a b, a ≤ b → E.ple a b := fun a b h => by rw [hE]; exact h
      have eadd : ∀ a b : Int, -1000000 ≤ a → a ≤ 1000000 → -1000000 ≤ b → b ≤ 1000000 → E.wadd .i64 a b = a + b := fun a b h0 h1 h2 h3 => by rw [hE]; exact wrap_i64_in (by omega) (by omega)
      clear hE
      obtain ⟨μ, hμ⟩ : ∃ μ : Int → Nat, ∀ i, μ i = 200000 - i.toNat := ⟨_, fun _ => rfl⟩
      cbv at k3
      cbv
      simp only [k3]
      refine loop_by 112 [0, 3, 92, 93, 94] 3 (fun y : Int × List (List PV) × Nat => [.own 0 0, .own 2 0, .p (.ro 5 HR), .p (cI (E.ofN n3)), .p (cI y.1)]) (fun y => [some (.box [.osl 1 0 y.2.2] 103 (some t0)), some (.rows 1 y.2.1 5), some (.box [.p (cS nm), .p (cI kd), .p (cI pa), .p (cI lo), .p (.ro 3 CD), .p (.ro 3 CS), .p (.ro 5 HR)] 50 none)]) (WrI l7 hdlB hdls) (fun y => μ y.1) (0, r7, m7) ⟨rfl, rfl, rfl, rfl, rfl⟩ w7 ?_
      rintro ⟨i, rs, m⟩ hI
      obtain ⟨i0, i1, hr, hml⟩ := id hI
      simp only at i0 i1 hr hml
      replace hn3 : hdls.length = n3 := hn3
      replace eofn : ∀ n : Nat, E.ofN n = (n : Int) := eofn
      replace hμ : ∀ i : Int, μ i = 200000 - i.toNat := hμ
      replace hl3 : n3 ≤ 100000 := hl3
      have dd : E.lti i (E.ofN n3) = decide (i < (n3 : Int)) := by rw [eofn, elt]
      by_cases hi : i < (n3 : Int)
      · rw [decide_eq_true hi] at dd
        obtain ⟨x, hx⟩ : ∃ x, hdls[i.toNat]? = some x := ⟨_, List.getElem?_eq_getElem (by omega)⟩
        have gr := f3 _ _ hx
        rw [← enat] at gr
        have p3 := eple 0 i i0
        have ei := eadd i 1 (by omega) (by omega) (by omega) (by omega)
        have hM2 : μ (E.wadd .i64 i 1) < μ i := by rw [hμ, hμ, ei]; omega
        have hI2 := hI.next hx
        rw [← ei] at hI2
        have hlen : (l7 ++ (hdls.take i.toNat).flatMap hdlB).length ≤ 800000000 := by
          have := take_le (enc := hdlB) hdls i.toNat
          rw [List.length_append]
          omega
        obtain ⟨l', hl'⟩ : ∃ y, l7 ++ (hdls.take i.toNat).flatMap hdlB = y := ⟨_, rfl⟩
        rw [hl'] at hr hml hlen hI2
        have rc := hM _ _ _ _ _ (g8 l' (by omega) x)
        rw [← hr, ← hml] at rc
        obtain ⟨rx, hrx⟩ : ∃ y, pL (l' ++ hdlB x) = y := ⟨_, rfl⟩
        obtain ⟨mx, hmx⟩ : ∃ y, (l' ++ hdlB x).length = y := ⟨_, rfl⟩
        rw [hrx, hmx] at rc hI2
        obtain ⟨lo1, hi1, tg1, dp1, sc1⟩ := x
        simp only at gr rc
        clear hx hr hml hl' hlen hrx hmx hI
        clear g4 g6 g6i g6s g8 f1 f2 f3 
        cbv
        repeat (first | (simp only [k3]; cbv) | simp only [k3] | (simp only [dd]; cbv) | simp only [dd] | (refine ⟨p3,_,gr, ?_⟩; cbv))
        refine .mk _ _ (wk_frzSE (d := 109) (l := 4) (n := 5) rfl rfl (Nat.le_refl 5) rfl) [0, 1] _ _ _ _ rc rfl rfl rfl ?_
        cbv
        refine .mk (E.wadd .i64 i 1, rx, mx) ⟨rfl, rfl, rfl, rfl, rfl⟩ ?_ ?_
        · exact hI2
        · exact hM2
      · rw [decide_eq_false hi] at dd
        obtain ⟨h1, h2⟩ := hI.last (by omega)
        rw [hl8'] at h1 h2
        obtain rfl : rs = r8 := h1.trans e8
        obtain rfl : m = m8 := h2.trans d8
        clear h1 h2 hI hr hml
        clear g4 g6 g6i g6s g8 f1 f2 f3 
        cbv
        repeat (first | (simp only [k3]; cbv) | simp only [k3] | (simp only [dd]; cbv) | simp only [dd])
        all_goals trivial
end Go.Proofs.YtlffpgjkhehdmaaDoor

/- Own work: bytecode.Encode: the bytes of a well-formed program. -/
namespace Go.Proofs.YtlffpgjkhehdmaaDoor
open Go.RowKit
set_option maxRecDepth 100000
set_option linter.unusedSimpArgs false

theorem pFns_at {l : List Fn} {i : Nat} {x : Fn} (h : l[i]? = some x) : (pFns l)[i]? = some (pFn x) := by
  unfold pFns; rw [List.getElem?_map, h]; rfl
theorem upC {f : FuncId} {l : List AV} {H : AH} {r : AV} {K : AH} (h : CM f l H r K) : RetM Tryd.prog Tabs f l H r K :=
  ⟨h.1, fun B w ι args tags htl hC => h.2 B w ι args tags htl ⟨fun _ _ => trivial, hC.own⟩⟩
/-- a program that is not well formed -/
theorem encode_bad (fs : List Fn) (hw : ∀ f ∈ fs, FnSz f) (hn : fs.length ≤ 1000000) (hp : progF fs = false) : RT 35 [pProg fs] (.tup [pS ⟨#[]⟩, pI 3]) := by
  have hf := formed_ret fs hw hn
  rw [hp] at hf
  unfold pProg at hf ⊢
  generalize pFns fs = F at *
  refine ret_by tyT_ok tabs_gr mixed (fun _ => 0) Tryd.func35 rfl (by kernel_rfl) (by kernel_rfl) rfl fun P G E hc hE => ?_
  replace hf := hc _ _ _ hf
  cbv
  repeat (first | (refine ⟨_, hf, ?_⟩; cbv))
/-- what the writer needs of a program -/
structure EnSz (fs : List Fn) : Prop where
  tot : (progBy fs).length ≤ 800000000
  n : fs.length ≤ 4096
  nm : ∀ f ∈ fs, f.name.size ≤ 1000000
  l1 : ∀ f ∈ fs, f.code.length ≤ 100000
  l2 : ∀ f ∈ fs, f.consts.length ≤ 100000
  l3 : ∀ f ∈ fs, f.hdls.length ≤ 100000
  cs : ∀ f ∈ fs, ∀ c ∈ f.consts, c.str.size ≤ 1000000
set_option maxHeartbeats 2000000 in
theorem encode_ret (fs : List Fn) (hw : ∀ f ∈ fs, FnSz f) (hz : EnSz fs) (hp : progF fs = true) : RT 35 [pProg fs] (.tup [pS (ofL (progBy fs)), pI 0]) := by
  have hf := formed_ret fs hw (by have := hz.n; omega)
  rw [hp] at hf
  have hz1 := hz.n
  have htot := hz.tot
  have c0 := upC (count_w [] fs.length (Int.natCast_nonneg _) (by omega) (by simp))
  rw [show ((fs.length : Nat) : Int).toNat = fs.length by omega, List.nil_append] at c0
  have hg : ∀ (k : Nat) x, fs[k]? = some x → (pFns fs)[k]? = some (pFn x) := fun k x h => pFns_at h
  have hl : (pFns fs).length = fs.length := by simp [pFns]
  have hpb : progBy fs = natB fs.length ++ fs.flatMap fnB := rfl
  obtain ⟨l1, hl1⟩ : ∃ x, natB fs.length = x := ⟨_, rfl⟩
  rw [hl1] at c0 hpb
  have hrow : ∀ l' : List UInt8, ∀ f ∈ fs, (l' ++ fnB f).length ≤ 800000000 → RetM Tryd.prog Tabs 56 [.own 0 0, .p (.agg (pFn f))] (wH l') (.p (.tup [])) (wH (l' ++ fnB f)) := fun l' f h hb => upC (func_w l' f hb (hz.nm f h) (hz.l1 f h) (hz.l2 f h) (hz.l3 f h) (hz.cs f h))
  have hx0 := WrI.zero l1 fnB fs
  have hp0 : pL [] = [] := rfl
  unfold wH at c0 hrow
  rw [hp0] at c0
  obtain ⟨n, hnn⟩ : ∃ n, fs.length = n := ⟨_, rfl⟩
  rw [hnn] at hl c0 hz1
  obtain ⟨r1, e1⟩ : ∃ x, pL l1 = x := ⟨_, rfl⟩
  obtain ⟨m1, d1⟩ : ∃ x, l1.length = x := ⟨_, rfl⟩
  rw [e1, d1] at c0 hx0
  rw [hpb] at htot ⊢
  obtain ⟨tot, ht⟩ : ∃ x, l1 ++ fs.flatMap fnB = x := ⟨_, rfl⟩
  rw [ht] at htot ⊢
  have hRS : pL tot = bytesRows (ofL tot) := rfl
  have hML : (pL tot).length = tot.length := pL_len tot
  obtain ⟨RS, e2⟩ : ∃ x, pL tot = x := ⟨_, rfl⟩
  obtain ⟨M, d2⟩ : ∃ x, tot.length = x := ⟨_, rfl⟩
  obtain ⟨OUT, eo⟩ : ∃ x, ofL tot = x := ⟨_, rfl⟩
  rw [e2, d2] at hML
  rw [e2, eo] at hRS
  rw [eo]
  obtain ⟨μ, hμ⟩ : ∃ μ : Int → Nat, ∀ i, μ i = 200000 - i.toNat := ⟨_, fun _ => rfl⟩
  unfold pProg at hf ⊢
  unfold pFn at hrow hg
  generalize pFns fs = F at *
  refine ret_cut tyT_ok tabs_gr (f := 35) Tryd.func35 rfl (by kernel_rfl) (of_decide_eq_true (by kernel_rfl)) ?_
  refine Seg.cutK 4 29 [1, 4] 3 (fun _ : Unit => [.own 0 0, .own 1 0]) (fun _ => [some (.box [.p (.ro 7 F)] 33 none), some (.box [.osl 2 0 m1] 103 none), some (.rows 1 r1 5)]) (fun _ => True) tyT_ok mixed (fun _ => 0) (fun E => retQ E tyT Tryd.f35.results.toList (.tup [pS OUT, pI 0])) (by kernel_rfl) ?_ ?_
  · intro P G E hc hM hE
    replace hf := hc _ _ _ hf
    replace c0 := hM _ _ _ _ _ c0
    have eofn : ∀ n, E.ofN n = (n : Int) := fun n => by rw [hE]; rfl
    have hzn := eofn n
    rw [← hzn] at c0
    clear eofn hzn hE hrow hg hx0
    cbv at hl
    cbv
    repeat (first | (refine ⟨_, hf, ?_⟩; cbv) | (simp only [hl]; cbv) | simp only [hl])
    refine .mk _ _ (wk_nil (k := 1) (j := 0) 1 5 rfl rfl) [1, 2] _ _ _ _ c0 rfl rfl rfl ?_
    cbv
    exact .mk () ⟨rfl, rfl, rfl, rfl, rfl⟩ trivial
  intro _ _
  clear c0 hf
  refine Seg.of tyT_ok mixed (fun _ => 0) (by kernel_rfl) (fun E => retQ E tyT Tryd.f35.results.toList (.tup [pS OUT, pI 0])) fun P G E hc hM hE => ?_
  have elt : ∀ a b, E.lti a b = decide (a < b) := fun a b => by rw [hE]; rfl
  have eofn : ∀ n, E.ofN n = (n : Int) := fun n => by rw [hE]; rfl
  have enat : ∀ i, E.nat i = i.toNat := fun i => by rw [hE]; rfl
  have eple : ∀ a b, a ≤ b → E.ple a b := fun a b h => by rw [hE]; exact h
  have eadd : ∀ a b : Int, -1000000 ≤ a → a ≤ 1000000 → -1000000 ≤ b → b ≤ 1000000 → E.wadd .i64 a b = a + b := fun a b h0 h1 h2 h3 => by rw [hE]; exact wrap_i64_in (by omega) (by omega)
  have epre : E.pre 0 M RS := by rw [hE]; show 0 + M ≤ RS.length; omega
  have esub : E.sub RS 0 M = E.brows OUT := by rw [hE]; show (RS.drop 0).take M = bytesRows OUT; rw [List.drop_zero, ← hML, List.take_length]; exact hRS
  clear hE
  cbv at hl
  cbv
  simp only [hl]
  refine loop_by 29 [1, 4, 16, 17, 18] 3 (fun y : Int × List (List PV) × Nat => [.own 0 0, .own 1 0, .p (.ro 7 F), .p (pI (E.ofN n)), .p (pI y.1)]) (fun y => [some (.box [.p (.ro 7 F)] 33 none), some (.box [.osl 2 0 y.2.2] 103 none), some (.rows 1 y.2.1 5)]) (WrI l1 fnB fs) (fun y => μ y.1) (0, r1, m1) ⟨rfl, rfl, rfl, rfl, rfl⟩ hx0 ?_
  rintro ⟨i, rs, m⟩ hI
  obtain ⟨i0, i1, hr, hml⟩ := id hI
  simp only at i0 i1 hr hml
  replace hnn : fs.length = n := hnn
  replace hz1 : n ≤ 4096 := hz1
  replace htot : tot.length ≤ 800000000 := htot
  replace eofn : ∀ n : Nat, E.ofN n = (n : Int) := eofn
  replace hμ : ∀ i : Int, μ i = 200000 - i.toNat := hμ
  have dd : E.lti i (E.ofN n) = decide (i < (n : Int)) := by rw [eofn, elt]
  by_cases hi : i < (n : Int)
  · rw [decide_eq_true hi] at dd
    obtain ⟨x, hx⟩ : ∃ x, fs[i.toNat]? = some x := ⟨_, List.getElem?_eq_getElem (by omega)⟩
    have gr := hg _ _ hx
    rw [← enat] at gr
    have p3 := eple 0 i i0
    have ei := eadd i 1 (by omega) (by omega) (by omega) (by omega)
    have hM2 : μ (E.wadd .i64 i 1) < μ i := by rw [hμ, hμ, ei]; omega
    have hI2 := hI.next hx
    rw [← ei] at hI2
    have hlen : ((l1 ++ (fs.take i.toNat).flatMap fnB) ++ fnB x).length ≤ 800000000 := by
      have h1 := take_le (enc := fnB) fs (i + 1).toNat
      rw [take_flat i0 hx] at h1
      rw [← ht, List.length_append] at htot
      rw [List.length_append] at h1
      rw [List.length_append, List.length_append]
      omega
    obtain ⟨l', hl'⟩ : ∃ y, l1 ++ (fs.take i.toNat).flatMap fnB = y := ⟨_, rfl⟩
    rw [hl'] at hr hml hlen hI2
    have rc := hM _ _ _ _ _ (hrow l' x (List.mem_of_getElem? hx) hlen)
    rw [← hr, ← hml] at rc
    obtain ⟨rx, hrx⟩ : ∃ y, pL (l' ++ fnB x) = y := ⟨_, rfl⟩
    obtain ⟨mx, hmx⟩ : ∃ y, (l' ++ fnB x).length = y := ⟨_, rfl⟩
    rw [hrx, hmx] at rc hI2
    generalize pCode x.code = c1 at *
    generalize pCons x.consts = c2 at *
    generalize pHdls x.hdls = c3 at *
    generalize x.name = x1 at *
    generalize x.kind = x2 at *
    generalize x.params = x3 at *
    generalize x.locals = x4 at *
    have rc2 := rc.args (as' := [.own 0 0, .agg [.p (pS x1), .p (pI x2), .p (pI x3), .p (pI x4), .p (.ro 3 c1), .p (.ro 3 c2), .p (.ro 5 c3)]]) rfl (fun j a a' h1 h2 => by
      match j, h1, h2 with
      | 0, h1, h2 => cases h1; cases h2; exact .inl rfl
      | 1, h1, h2 => cases h1; cases h2; exact .inr ⟨_, rfl, rfl⟩
      | j + 2, h1, h2 => simp at h1)
    clear rc hrow hg hx hr hml hl' hlen hrx hmx hI
    cbv
    repeat (first | (simp only [hl]; cbv) | simp only [hl] | (simp only [dd]; cbv) | simp only [dd] | (refine ⟨p3,_,gr, ?_⟩; cbv))
    refine .mk _ _ (Wk.refl _ _) [1, 2] _ _ _ _ rc2 rfl rfl rfl ?_
    cbv
    refine .mk (E.wadd .i64 i 1, rx, mx) ⟨rfl, rfl, rfl, rfl, rfl⟩ ?_ ?_
    · exact hI2
    · exact hM2
  · rw [decide_eq_false hi] at dd
    obtain ⟨h1, h2⟩ := hI.last (by omega)
    rw [ht] at h1 h2
    obtain rfl : rs = RS := h1.trans e2
    obtain rfl : m = M := h2.trans d2
    clear h1 h2 hI hr hml hrow hg
    cbv
    repeat (first | (simp only [hl]; cbv) | simp only [hl] | (simp only [dd]; cbv) | simp only [dd] | (refine ⟨epre,_,esub, ?_⟩; cbv))
    all_goals trivial
end Go.Proofs.YtlffpgjkhehdmaaDoor
