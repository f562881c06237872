/- Own work: operations that write nothing, over values as data. -/
import Derived.Test.YtlffpgjkhehdmaaDoorAbs
import Derived.OwnWalk
import Derived.Laws.Cover4
import Derived.Laws.IdiomStrings
namespace Go.Proofs.YtlffpgjkhehdmaaDoor
open Go.RowKit

/-- what is asked of a type -/
structure TI where
  desc : TypeDesc
  size : Nat
  bytes : Nat
  zero : Value
  cmp : Bool := false
abbrev TT := TypeId → Option TI
def TOk (P : Program) (T : TT) : Prop := ∀ t i, T t = some i → (P.underlying t = some i.desc ∧ (P.info? t).map (fun j => (j.zero, j.size, j.bytes)) = some (some i.zero, i.size, i.bytes)) ∧ (i.cmp = true → P.stoodInHeld t = false ∧ P.eqGuardType P.depth t = false)
def isAggD : TypeDesc → Bool
  | .struct _ => true
  | .array _ _ => true
  | _ => false

section
variable {P : Program} {T : TT} (hT : TOk P T)
include hT
theorem t_und {t : TypeId} {i : TI} (h : T t = some i) (w : World) : (underlying t).run P w = .ok i.desc w := run_underlying (hT t i h).1.1 w
theorem t_size {t : TypeId} {i : TI} (h : T t = some i) (w : World) : (sizeOf t).run P w = .ok i.size w := by
  obtain ⟨j, hj, _, hs, _⟩ := info_parts (hT t i h).1.2
  simp [sizeOf, typeInfo, hj, hs]
theorem t_zero {t : TypeId} {i : TI} (h : T t = some i) (w : World) : (zeroValue t).run P w = .ok i.zero w := by
  obtain ⟨j, hj, hz, _, _⟩ := info_parts (hT t i h).1.2
  simp [zeroValue, typeInfo, hj, hz]
theorem t_agg {t : TypeId} {i : TI} (h : T t = some i) (w : World) : (isAgg t).run P w = .ok (isAggD i.desc) w := by
  unfold isAgg
  rw [Sem.run_bind, t_und hT h, Result.andThen_ok]
  cases i.desc <;> rfl
end

/-- a constant, as data -/
def ofV : Value → PV
  | .agg cs => .agg (cs.toList.map .v)
  | x => .v x
def aev (env : List AV) : Operand → AV
  | .tmp t => env.getD t .junk
  | .const x => .p (ofV x)
  | .global g => .p (.v (.pointer (some ⟨g, 0, none⟩)))
  | .func f => .p (.v (.func (.func f) #[] #[]))
theorem ofV_rep (w : World) (R : Nat → Prop) (x : Value) : RepP w R (ofV x) x := by
  unfold ofV
  split
  · rename_i cs
    have := RepP.agg (w := w) (R := R) (cs.toList.map .v) cs.toList (by simp) (fun j a v ha hv => by
      rw [List.getElem?_map, hv] at ha
      cases ha
      exact .v v)
    simpa using this
  · exact .v _

/-- the cells of a value -/
def avCells : AV → List AV
  | .agg cs => cs
  | .p (.agg cs) => cs.map .p
  | a => [a]

/-- a value as data -/
def AV.toP : AV → Option PV
  | .p x => some x
  | .agg cs => (toPL cs).map .agg
  | .tup cs => (toPL cs).map .tup
  | _ => none
where toPL : List AV → Option (List PV)
  | [] => some []
  | a :: as => match a.toP, toPL as with
    | some x, some xs => some (x :: xs)
    | _, _ => none
theorem toPL_get : ∀ (cs : List AV) (xs : List PV), AV.toP.toPL cs = some xs → xs.length = cs.length ∧ ∀ (j : Nat) (a : AV), cs[j]? = some a → ∃ x, xs[j]? = some x ∧ a.toP = some x
  | [], xs, h => by simp [AV.toP.toPL] at h; subst h; simp
  | a :: as, xs, h => by
    unfold AV.toP.toPL at h
    split at h
    · rename_i x ys hx hy
      cases h
      have ih := toPL_get as ys hy
      refine ⟨by simp [ih.1], fun j b hb => ?_⟩
      cases j with
      | zero => simp at hb; subst hb; exact ⟨x, rfl, hx⟩
      | succ j => simpa using ih.2 j b (by simpa using hb)
    · cases h
theorem Rep.toP {w : World} {ι : Pl} {R : Nat → Prop} {a : AV} {v : Value} (h : Rep w ι R a v) : ∀ x, a.toP = some x → RepP w R x v := by
  induction h with
  | p x v h => intro y hy; cases hy; exact h
  | own => intro y hy; cases hy
  | orw => intro y hy; cases hy
  | osl0 => intro y hy; cases hy
  | osl => intro y hy; cases hy
  | junk => intro y hy; cases hy
  | clo => intro y hy; cases hy
  | agg cs vs hl hr ih =>
    intro y hy
    unfold AV.toP at hy
    cases hp : AV.toP.toPL cs with
    | none => rw [hp] at hy; cases hy
    | some xs =>
      rw [hp] at hy; cases hy
      have hg := toPL_get cs xs hp
      refine .agg xs vs (by omega) fun j a v ha hv => ?_
      have hj : j < cs.length := by have := (List.getElem?_eq_some_iff.1 ha).1; omega
      obtain ⟨x, hx, hax⟩ := hg.2 j cs[j] (List.getElem?_eq_getElem hj)
      rw [hx] at ha; cases ha
      exact ih j cs[j] v (List.getElem?_eq_getElem hj) hv _ hax
  | tup cs vs hl hr ih =>
    intro y hy
    unfold AV.toP at hy
    cases hp : AV.toP.toPL cs with
    | none => rw [hp] at hy; cases hy
    | some xs =>
      rw [hp] at hy; cases hy
      have hg := toPL_get cs xs hp
      refine .tup xs vs (by omega) fun j a v ha hv => ?_
      have hj : j < cs.length := by have := (List.getElem?_eq_some_iff.1 ha).1; omega
      obtain ⟨x, hx, hax⟩ := hg.2 j cs[j] (List.getElem?_eq_getElem hj)
      rw [hx] at ha; cases ha
      exact ih j cs[j] v (List.getElem?_eq_getElem hj) hv _ hax

/-- data without memory, as a value -/
def PV.toV : PV → Option Value
  | .v x => some x
  | .agg cs => (toVL cs).map fun vs => .agg vs.toArray
  | _ => none
where toVL : List PV → Option (List Value)
  | [] => some []
  | a :: as => match a.toV, toVL as with
    | some x, some xs => some (x :: xs)
    | _, _ => none
theorem toVL_get : ∀ (cs : List PV) (vs : List Value), PV.toV.toVL cs = some vs → vs.length = cs.length ∧ ∀ (j : Nat) (a : PV), cs[j]? = some a → ∃ v, vs[j]? = some v ∧ a.toV = some v
  | [], vs, h => by simp [PV.toV.toVL] at h; subst h; simp
  | a :: as, vs, h => by
    unfold PV.toV.toVL at h
    split at h
    · rename_i x ys hx hy
      cases h
      have ih := toVL_get as ys hy
      refine ⟨by simp [ih.1], fun j b hb => ?_⟩
      cases j with
      | zero => simp at hb; subst hb; exact ⟨x, rfl, hx⟩
      | succ j => simpa using ih.2 j b (by simpa using hb)
    · cases h
theorem RepP.toV {w : World} {R : Nat → Prop} {p : PV} {u : Value} (h : RepP w R p u) : ∀ v, p.toV = some v → u = v := by
  induction h with
  | v x => intro v h; cases h; rfl
  | e0 => intro v h; cases h
  | ro0 => intro v h; cases h
  | ro => intro v h; cases h
  | rop => intro v h; cases h
  | tup => intro v h; cases h
  | err => intro v h; cases h
  | agg cs us hl hr ih =>
    intro v h
    unfold PV.toV at h
    cases hp : PV.toV.toVL cs with
    | none => rw [hp] at h; cases h
    | some vs =>
      rw [hp] at h; cases h
      have hg := toVL_get cs vs hp
      have : us = vs := by
        apply List.ext_getElem? 
        intro j
        rcases Nat.lt_or_ge j cs.length with hj | hj
        · obtain ⟨v, hv, hav⟩ := hg.2 j cs[j] (List.getElem?_eq_getElem hj)
          have hju : j < us.length := by omega
          have := ih j cs[j] us[j] (List.getElem?_eq_getElem hj) (List.getElem?_eq_getElem hju) v hav
          rw [hv, List.getElem?_eq_getElem hju, this]
        · rw [List.getElem?_eq_none (by omega), List.getElem?_eq_none (by omega)]
      rw [this]

/-- what a call ends with, for data -/
def Ends (w : World) (R : Nat → Prop) : PV → Ending → Prop
  | .pan ch, e => e = .panicked ch
  | r, e => ∃ v, e = .returned v ∧ RepP w R r v
theorem Ends.ret {w : World} {R : Nat → Prop} {r : PV} {v : Value} (h : RepP w R r v) : Ends w R r (.returned v) := by
  cases h <;> exact ⟨_, rfl, by constructor <;> assumption⟩
def PV.isPan : PV → Bool
  | .pan _ => true
  | _ => false
theorem Ends.val {w : World} {R : Nat → Prop} {r : PV} {e : Ending} (h : Ends w R r e) (hp : r.isPan = false) : ∃ v, e = .returned v ∧ RepP w R r v := by
  cases r <;> first | exact h | cases hp
/-- what a function returns, for data that are only read -/
def Ret (P : Program) (G : World → Prop) (f : FuncId) (as : List PV) (r : PV) : Prop :=
  (∀ (args : Array Value) (w : World), (callFunc f args).run P w = .ok (.enter f args) w) ∧
  ∀ (w : World) (B : Nat → Prop) (args : List Value), G w → as.length = args.length → (∀ (j : Nat) (a : PV) (v : Value), as[j]? = some a → args[j]? = some v → RepP w B a v) →
    Calls P f args.toArray w fun e w' => Gr w w' ∧ Ends w' (fun b => B b ∨ w.heap.size ≤ b) r e

/-- what an operation without memory comes to -/
def semP {α : Type} (P : Program) : Sem α → (α → Prop) → Prop
  | .pure a, K => K a
  | .program k, K => semP P (k P) K
  | _, _ => False
theorem semP_run {α : Type} (P : Program) (s : Sem α) (K : α → Prop) (h : semP P s K) : ∃ a, K a ∧ ∀ w, s.run P w = .ok a w := by
  induction s with
  | pure a => exact ⟨a, h, fun _ => rfl⟩
  | program k ih =>
    obtain ⟨a, h1, h2⟩ := ih P h
    exact ⟨a, h1, fun w => by simpa [Sem.run] using h2 w⟩
  | _ => cases h
theorem semP_ite {α : Type} (P : Program) (c : Prop) [Decidable c] (x y : Sem α) (K : α → Prop) : semP P (if c then x else y) K = ((c → semP P x K) ∧ (¬ c → semP P y K)) := by
  by_cases h : c <;> simp [h]

/-- strings and the wrapping of integers, kept as letters in a walk -/
structure SO where
  eq : ByteArray → ByteArray → Bool
  lt : ByteArray → ByteArray → Bool
  add : ByteArray → ByteArray → ByteArray
  ext : ByteArray → Nat → Nat → ByteArray
  size : ByteArray → Int
  get : ByteArray → Nat → Option Int
  decR : ByteArray → Nat → Int
  decW : ByteArray → Nat → Nat
  wrap : IntKind → Int → Int
  enc : Int → ByteArray
  lti : Int → Int → Bool
  lei : Int → Int → Bool
  wadd : IntKind → Int → Int → Int
  wsub : IntKind → Int → Int → Int
  wmul : IntKind → Int → Int → Int
  wquo : IntKind → Int → Int → Int
  rem : Int → Int → Int
  max : Int → Int → Int
  min : Int → Int → Int
  rrows : ByteArray → List (List PV)
  encL : List Int → ByteArray
  nat : Int → Nat
  ofN : Nat → Int
  ple : Int → Int → Prop
  plt : Int → Int → Prop
  cat : ByteArray → ByteArray → Prop
  room : Nat → Nat → Nat → Prop
  band : IntKind → Int → Int → Int
  bor : IntKind → Int → Int → Int
  bxor : IntKind → Int → Int → Int
  shl : IntKind → Int → Int → Int
  shr : IntKind → Int → Int → Int
  fits : ByteArray → Prop
  addN : Nat → Nat → Nat
  pre : Nat → Nat → List (List PV) → Prop
  app : List (List PV) → Nat → List (List PV) → List (List PV)
  sub : List (List PV) → Nat → Nat → List (List PV)
  cut : List (List PV) → Nat → Nat → List (List PV)
  put : List (List PV) → Nat → List PV → List (List PV)
/-- the code points of a string from a place on -/
def runesL (s : ByteArray) : Nat → Nat → List Int
  | 0, _ => []
  | b + 1, i => if i < s.size then ((Utf8.decode s i).1 : Int) :: runesL s b (i + (Utf8.decode s i).2) else []
def runesOf (s : ByteArray) : List Int := runesL s s.size 0
theorem runesL_eq (s : ByteArray) : ∀ (b i : Nat) (acc : Array Value), Conv.runesFrom s b i acc = acc ++ ((runesL s b i).map (Value.int .i32)).toArray
  | 0, i, acc => by simp [Conv.runesFrom, runesL]
  | b + 1, i, acc => by
    unfold Conv.runesFrom runesL
    split
    · generalize Utf8.decode s i = d
      obtain ⟨r, wd⟩ := d
      simp only
      rw [runesL_eq s b]
      simp
    · simp
theorem runesOf_eq (s : ByteArray) : Conv.runesFrom s s.size 0 #[] = ((runesOf s).map (Value.int .i32)).toArray := by
  rw [runesL_eq]; simp [runesOf]
theorem runesOf_len (s : ByteArray) : (runesOf s).length ≤ s.size := by
  have := size_runesFrom s s.size 0 #[]
  rw [runesOf_eq] at this
  simpa using this
/-- runes as the rows of a slice -/
def pR (ns : List Int) : List (List PV) := ns.map fun n => [.v (.int .i32 n)]
theorem bytes_beq (a b : ByteArray) : (a.toList == b.toList) = decide (a = b) := by
  rw [ByteArray.toList_eq, ByteArray.toList_eq]
  by_cases h : a = b
  · subst h; simp
  · have h2 : ¬ a.data = b.data := fun e => h (ByteArray.ext e)
    simp [h, h2]
def stdE : SO := ⟨fun a b => decide (a = b), fun a b => Op.bytesLess a.toList b.toList, fun a b => a ++ b, fun s l h => s.extract l h, fun s => (s.size : Nat), fun s n => (s.data.toList[n]?).map fun b => ((b.toNat : Nat) : Int), fun s p => ((Utf8.decode s p).1 : Nat), fun s p => (Utf8.decode s p).2, fun k n => k.wrap n, fun r => Utf8.encode r, fun a b => decide (a < b), fun a b => decide (a ≤ b), fun k a b => k.wrap (a + b), fun k a b => k.wrap (a - b), fun k a b => k.wrap (a * b), fun k a b => k.wrap (a.tdiv b), fun a b => a.tmod b, fun a b => if b > a then b else a, fun a b => if b < a then b else a, fun s => pR (runesOf s), runesBytes, Int.toNat, fun n => (n : Int), fun a b => a ≤ b, fun a b => a < b, fun a b => ((a.size : Nat) : Int) + ((b.size : Nat) : Int) ≤ 9223372036854775807, fun n m s => n + m ≤ maxLen ∧ (n + m) * s ≤ 140737488355328,
  fun k a b => k.wrap (BitVec.ofInt k.bits a &&& BitVec.ofInt k.bits b).toNat, fun k a b => k.wrap (BitVec.ofInt k.bits a ||| BitVec.ofInt k.bits b).toNat, fun k a b => k.wrap (BitVec.ofInt k.bits a ^^^ BitVec.ofInt k.bits b).toNat, fun k a b => k.wrap (a * 2 ^ (min b.toNat k.bits)), fun k a b => a.fdiv (2 ^ (min b.toNat k.bits)), fun s => ((s.size : Nat) : Int) ≤ 70368744177664, fun a b => a + b, fun i n rs => i + n ≤ rs.length, fun rs n rows => rs.take n ++ rows, fun rs i n => (rs.drop i).take n, fun rs l h => (rs.take h).drop l, fun rs r row => rs.set r row⟩
theorem wrap_i64_eq (n : Int) : IntKind.i64.wrap n = (n + 9223372036854775808) % 18446744073709551616 - 9223372036854775808 := by
  have e1 : ((2 : Int) ^ IntKind.i64.bits) = 18446744073709551616 := by decide
  have e2 : ((2 : Int) ^ (IntKind.i64.bits - 1)) = 9223372036854775808 := by decide
  have e3 : IntKind.i64.signed = true := rfl
  simp only [IntKind.wrap, e1, e2, e3, Bool.true_and, decide_eq_true_eq]
  split <;> omega
theorem wrap_u64_eq (n : Int) : IntKind.u64.wrap n = n % 18446744073709551616 := by
  have e1 : ((2 : Int) ^ IntKind.u64.bits) = 18446744073709551616 := by decide
  have e3 : IntKind.u64.signed = false := rfl
  simp only [IntKind.wrap, e1, e3, Bool.false_and, Bool.false_eq_true, if_false]
theorem wrap_i64_in {n : Int} (h0 : -9223372036854775808 ≤ n) (h1 : n ≤ 9223372036854775807) : IntKind.i64.wrap n = n := by rw [wrap_i64_eq]; omega

def aload (i : TI) (a : AV) (H : AH) (K : AV → Prop) : Prop :=
  match a with
  | .own k j => (match H[k]? with
    | some (some (.box cs _ _)) => if isAggD i.desc then (if j + i.size ≤ cs.length then K (.agg ((cs.drop j).take i.size)) else False) else (match cs[j]? with
      | some x => K x
      | none => False)
    | _ => False)
  | .orw k r j => (match H[k]? with
    | some (some (.rows _ rs _)) => ∃ row, rs[r]? = some row ∧ (if isAggD i.desc then (if j + i.size ≤ row.length then K (.p (.agg ((row.drop j).take i.size))) else False) else (match row[j]? with
      | some x => K (.p x)
      | none => False))
    | _ => False)
  | .p (.rop row) => if isAggD i.desc then (if i.size ≤ row.length then K (.p (.agg (row.take i.size))) else False) else (match row with
    | x :: _ => K (.p x)
    | [] => False)
  | _ => False

def afield (off : Nat) (a : AV) (K : AV → Prop) : Prop :=
  match a with
  | .own k j => K (.own k (j + off))
  | .orw k i j => K (.orw k i (j + off))
  | .p (.rop row) => K (.p (.rop (row.drop off)))
  | _ => False

def aindex (E : SO) (s : Nat) (x : AV) (i : AV) (H : AH) (K : AV → Prop) : Prop :=
  match i with
  | .p (.v (.int _ n)) => (match x with
    | .p (.ro s' rows) => s' = s ∧ E.ple 0 n ∧ ∃ row, rows[E.nat n]? = some row ∧ K (.p (.rop row))
    | .osl k i0 len => (match H[k]? with
      | some (some (.rows s' _ _)) => s' = s ∧ E.ple 0 n ∧ E.plt n (E.ofN len) ∧ K (.orw k (E.addN i0 (E.nat n)) 0)
      | _ => False)
    | _ => False)
  | _ => False

def alen (E : SO) (d : TypeDesc) (x : AV) (K : AV → Prop) : Prop :=
  match d with
  | .string => (match x with
    | .p (.v (.string s)) => K (.p (.v (.int .i64 (E.size s))))
    | _ => False)
  | .slice _ => (match x with
    | .p (.v (.slice _ n _)) => K (.p (.v (.int .i64 (E.ofN n))))
    | .p .e0 => K (.p (.v (.int .i64 0)))
    | .p (.ro _ rows) => K (.p (.v (.int .i64 (E.ofN rows.length))))
    | .osl _ _ n => K (.p (.v (.int .i64 (E.ofN n))))
    | _ => False)
  | _ => False

/-- a value whose cells are known -/
def okCell : AV → Bool
  | .junk => false
  | .p (.v x) => x.oneCell'
  | _ => true
/-- a part of the cells is replaced -/
def asetL {α : Type} (cells : List α) (off : Nat) (cs : List α) : List α := cells.take off ++ cs ++ cells.drop (off + cs.length)
def afill (place : Nat → Option (Nat × Nat)) (cells : List AV) : List (Nat × AV) → Option (List AV)
  | [] => some cells
  | (i, a) :: rest => match place i with
    | none => none
    | some (off, size) => if okCell a = true ∧ (avCells a).length = size ∧ off + size ≤ cells.length then afill place (asetL cells off (avCells a)) rest else none
def placesL (T : TT) : List Field → Option (List (Nat × Nat))
  | [] => some []
  | f :: fs => match T f.type, placesL T fs with
    | some i, some r => some ((f.offset, i.size) :: r)
    | _, _ => none

/-- a bound of a slice expression -/
def abound (x : Option AV) (d : Int) (K : Int → Prop) : Prop :=
  match x with
  | none => K d
  | some (.p (.v (.int _ n))) => K n
  | _ => False
def astrslice (E : SO) (x : AV) (lo hi : Option AV) (K : AV → Prop) : Prop :=
  match x with
  | .p (.v (.string s)) => abound hi (E.size s) fun h => abound lo 0 fun l => E.ple 0 l ∧ E.ple l h ∧ E.ple h (E.size s) ∧ K (.p (.v (.string (E.ext s (E.nat l) (E.nat h)))))
  | _ => False
def aslice (E : SO) (es : Nat) (x : AV) (lo hi : Option AV) (K : AV → Prop) : Prop :=
  match x with
  | .p (.ro s rows) => s = es ∧ (abound hi (E.ofN rows.length) fun h => abound lo 0 fun l => E.ple 0 l ∧ E.ple l h ∧ E.ple h (E.ofN rows.length) ∧ K (.p (.ro s (E.cut rows (E.nat l) (E.nat h)))))
  | .osl k i n => (match lo with
    | none => abound hi (E.ofN n) fun h => E.ple 0 h ∧ E.ple h (E.ofN n) ∧ K (.osl k i (E.nat h))
    | _ => False)
  | _ => False

def aextract (x : AV) (i : Nat) (K : AV → Prop) : Prop :=
  match x with
  | .tup cs => (match cs[i]? with
    | some a => K a
    | none => False)
  | .p (.tup cs) => (match cs[i]? with
    | some a => K (.p a)
    | none => False)
  | _ => False

/-- a field of a struct that is a value -/
def apart (x : AV) (off : Nat) (K : AV → Prop) : Prop :=
  match x with
  | .agg cs => (match cs[off]? with
    | some a => K a
    | none => False)
  | .p (.agg cs) => (match cs[off]? with
    | some a => K (.p a)
    | none => False)
  | _ => False

def acall (P : Program) (G : World → Prop) (E : SO) (T : TT) (env : List AV) (c : Call) (K : AV → Prop) : Prop :=
  match c.callee with
  | .builtin .len => (match c.args.toList, c.argTypes.toList with
    | [x], [t] => (match T t with
      | some ti => alen E ti.desc (aev env x) K
      | none => False)
    | _, _ => False)
  | .builtin .max => (match c.args.toList.map (aev env) with
    | [.p (.v (.int k a)), .p (.v (.int _ b))] => K (.p (.v (.int k (E.max a b))))
    | _ => False)
  | .builtin .min => (match c.args.toList.map (aev env) with
    | [.p (.v (.int k a)), .p (.v (.int _ b))] => K (.p (.v (.int k (E.min a b))))
    | _ => False)
  | .value (.func f) => (match AV.toP.toPL (c.args.toList.map (aev env)) with
    | some as => ∃ r, Ret P G f as r ∧ (match r.isPan with
      | true => False
      | false => K (.p r))
    | none => False)
  | _ => False

/-- two scalars -/
def abinI (P : Program) (E : SO) (op : BinOp) (t : TypeId) (k : IntKind) (a b : Int) (K : AV → Prop) : Prop :=
  match op with
  | .add => K (.p (.v (.int k (E.wadd k a b))))
  | .sub => K (.p (.v (.int k (E.wsub k a b))))
  | .mul => K (.p (.v (.int k (E.wmul k a b))))
  | .quo => b ≠ 0 ∧ K (.p (.v (.int k (E.wquo k a b))))
  | .rem => b ≠ 0 ∧ K (.p (.v (.int k (E.rem a b))))
  | .eql => K (.p (.v (.bool (decide (a = b)))))
  | .neq => K (.p (.v (.bool (!decide (a = b)))))
  | .lss => K (.p (.v (.bool (E.lti a b))))
  | .leq => K (.p (.v (.bool (E.lei a b))))
  | .gtr => K (.p (.v (.bool (E.lti b a))))
  | .geq => K (.p (.v (.bool (E.lei b a))))
  | .and => K (.p (.v (.int k (E.band k a b))))
  | .or => K (.p (.v (.int k (E.bor k a b))))
  | .xor => K (.p (.v (.int k (E.bxor k a b))))
  | op => semP P (binOp op t (.int k a) (.int k b)) fun v => K (.p (.v v))
def abinS (E : SO) (op : BinOp) (a b : ByteArray) (K : AV → Prop) : Prop :=
  match op with
  | .add => E.cat a b ∧ K (.p (.v (.string (E.add a b))))
  | .eql => K (.p (.v (.bool (E.eq a b))))
  | .neq => K (.p (.v (.bool (!E.eq a b))))
  | .lss => K (.p (.v (.bool (E.lt a b))))
  | .leq => K (.p (.v (.bool (E.lt a b || E.eq a b))))
  | .gtr => K (.p (.v (.bool (!(E.lt a b || E.eq a b)))))
  | .geq => K (.p (.v (.bool (!E.lt a b))))
  | _ => False
/-- do two cells of scalars agree -/
def eqP (E : SO) : PV → PV → Option Bool
  | .v (.int k a), .v (.int k' b) => if k = k' then some (decide (a = b)) else none
  | .v (.string a), .v (.string b) => some (E.eq a b)
  | .v (.bool a), .v (.bool b) => some (a == b)
  | _, _ => none
/-- do two structs of scalars agree, field by field -/
def eqFields (E : SO) (T : TT) : List Field → List PV → List PV → Option Bool
  | [], _, _ => some true
  | f :: fs, xs, ys => if f.name = "_" then none else (match T f.type, xs[f.offset]?, ys[f.offset]? with
    | some i, some x, some y => (match (match i.desc, x with
        | .int _, .v (.int _ _) => true
        | .string, .v (.string _) => true
        | .bool, .v (.bool _) => true
        | _, _ => false), eqP E x y, eqFields E T fs xs ys with
      | true, some b, some r => some (b && r)
      | _, _, _ => none)
    | _, _, _ => none)
def aagg : AV → Option (List PV)
  | .p (.agg cs) => some cs
  | .agg cs => AV.toP.toPL cs
  | _ => none
/-- an interface value against nil -/
def anil (c : Bool) : AV → AV → Option Bool
  | .p .err, .p (.v .nilIface) => some false
  | .p (.v (.iface _ _)), .p (.v .nilIface) => some false
  | .p (.v .nilIface), .p (.v .nilIface) => (match c with
    | true => some true
    | false => none)
  | _, _ => none
def isC : Operand → Bool
  | .const _ => true
  | _ => false
def abinN (T : TT) (op : BinOp) (t : TypeId) (b : Bool) (K : AV → Prop) : Prop :=
  match T t with
  | some i => (match i.desc, op with
    | .interface _, .eql => K (.p (.v (.bool b)))
    | .interface _, .neq => K (.p (.v (.bool (!b))))
    | _, _ => False)
  | none => False
def abin (P : Program) (E : SO) (T : TT) (op : BinOp) (t : TypeId) (a b : AV) (K : AV → Prop) : Prop :=
  match a, b with
  | .p (.v (.bool a)), .p (.v (.bool b)) => (match T t with
    | some i => (match i.desc, op with
      | .bool, .eql => K (.p (.v (.bool (a == b))))
      | .bool, .neq => K (.p (.v (.bool (a != b))))
      | _, _ => False)
    | none => False)
  | .p (.v (.int k a)), .p (.v (.int k' b)) => (match op with
    | .shl => E.ple 0 b ∧ K (.p (.v (.int k (E.shl k a b))))
    | .shr => E.ple 0 b ∧ K (.p (.v (.int k (E.shr k a b))))
    | op => if k = k' then abinI P E op t k a b K else False)
  | .p (.v (.string a)), .p (.v (.string b)) => abinS E op a b K
  | a, b => (match aagg a, aagg b, T t with
    | some xs, some ys, some i => (match i.desc, i.cmp, op with
      | .struct fs, true, .eql => (match eqFields E T fs.toList xs ys with
        | some r => K (.p (.v (.bool r)))
        | none => False)
      | .struct fs, true, .neq => (match eqFields E T fs.toList xs ys with
        | some r => K (.p (.v (.bool (!r))))
        | none => False)
      | _, _, _ => False)
    | _, _, _ => False)
def aunop (P : Program) (E : SO) (op : UnOp) (a : AV) (K : AV → Prop) : Prop :=
  match a with
  | .p (.v (.int k n)) => (match op with
    | .neg => K (.p (.v (.int k (E.wsub k 0 n))))
    | op => semP P (Op.unary op (.int k n)) fun v => K (.p (.v v)))
  | .p (.v (.bool b)) => (match op with
    | .not => K (.p (.v (.bool (!b))))
    | _ => False)
  | _ => False

def aconv (E : SO) (T : TT) (dst : TypeId) (src : TypeId) (a : AV) (K : AV → Prop) : Prop :=
  match T dst, T src, a with
  | some i, some _, .p (.v (.int _ n)) => (match i.desc with
    | .string => K (.p (.v (.string (E.enc n))))
    | .int k => K (.p (.v (.int k (E.wrap k n))))
    | _ => False)
  | some i, some _, .p (.v (.string s)) => (match i.desc with
    | .string => K (.p (.v (.string s)))
    | .slice e => (match T e with
      | some te => (match te.desc with
        | .int .i32 => E.fits s ∧ K (.p (.ro 1 (E.rrows s)))
        | _ => False)
      | none => False)
    | _ => False)
  | some i, some j, .p (.ro n rows) => (match i.desc, j.desc with
    | .string, .slice e => (match T e with
      | some te => (match te.desc with
        | .int .i32 => n = 1 ∧ ∃ ns, rows = pR ns ∧ K (.p (.v (.string (E.encL ns))))
        | _ => False)
      | none => False)
    | _, _ => False)
  | _, _, _ => False

def aq (P : Program) (G : World → Prop) (E : SO) (T : TT) (o : Oper) (env : List AV) (H : AH) (K : AV → Prop) : Prop :=
  match o.op with
  | .move x => K (aev env x)
  | .assign x => K (aev env x)
  | .pick c a b => (match aev env c with
    | .p (.v (.bool t)) => (match t with
      | true => K (aev env a)
      | false => K (aev env b))
    | _ => False)
  | .load t a => (match T t with
    | some i => aload i (aev env a) H K
    | none => False)
  | .fieldAddr s x f => (match T s with
    | some i => (match i.desc with
      | .struct fs => (match fs[f]? with
        | some fd => (match T fd.type with
          | some j => if j.size = 0 then False else afield fd.offset (aev env x) K
          | none => False)
        | none => False)
      | _ => False)
    | none => False)
  | .indexAddr t x i => (match T t with
    | some ti => (match ti.desc with
      | .slice e => (match T e with
        | some te => aindex E te.size (aev env x) (aev env i) H K
        | none => False)
      | _ => False)
    | none => False)
  | .index t x i => (match T t with
    | some ti => (match ti.desc, aev env x, aev env i with
      | .string, .p (.v (.string s)), .p (.v (.int _ n)) => E.ple 0 n ∧ ∃ b, E.get s (E.nat n) = some b ∧ K (.p (.v (.int .u8 b)))
      | _, _, _ => False)
    | none => False)
  | .slice t x lo hi none => (match T t with
    | some ti => (match ti.desc with
      | .string => astrslice E (aev env x) (lo.map (aev env)) (hi.map (aev env)) K
      | .slice e => (match T e with
        | some te => aslice E te.size (aev env x) (lo.map (aev env)) (hi.map (aev env)) K
        | none => False)
      | _ => False)
    | none => False)
  | .extract x i => aextract (aev env x) i K
  | .field s x f => (match T s with
    | some i => (match i.desc with
      | .struct fs => (match fs[f]? with
        | some fd => (match T fd.type with
          | some j => if isAggD j.desc then False else apart (aev env x) fd.offset K
          | none => False)
        | none => False)
      | _ => False)
    | none => False)
  | .makeInterface t x => (match T t with
    | some i => (match i.desc with
      | .interface _ => False
      | _ => (match (aev env x).toP.bind PV.toV with
        | some v => K (.p (.v (.iface t v)))
        | none => False))
    | none => False)
  | .makeFunc (.func f) fs cs => K (.clo f (fs.toList.map (aev env)) (cs.toList.map (aev env)))
  | .nilCheck x => (match aev env x with
    | .own k j => K (.own k j)
    | .orw k i j => K (.orw k i j)
    | .p (.rop row) => K (.p (.rop row))
    | _ => False)
  | .unOp op _ x => aunop P E op (aev env x) K
  | .convert src dst x => aconv E T dst src (aev env x) K
  | .binOp op t x y _ => (match anil (isC x || isC y) (aev env x) (aev env y) with
    | some b => abinN T op t b K
    | none => abin P E T op t (aev env x) (aev env y) K)
  | .build t parts => (match T t with
    | some i => (match i.desc with
      | .struct fs => (match placesL T fs.toList with
        | some pl => (match afill (fun n => pl[n]?) (i.zero.cells.toList.map fun x => .p (.v x)) (parts.toList.map fun (n, x) => (n, aev env x)) with
          | some cs => K (.agg cs)
          | none => False)
        | none => False)
      | _ => False)
    | none => False)
  | .call c => acall P G E T env c K
  | _ => False

/-- the operation comes to a -/
def QS (P : Program) (G : World → Prop) (o : Oper) (env : List AV) (H : AH) (a : AV) : Prop :=
  ∀ (w0 : Base) (B : Nat → Prop) (w : World) (ι : Pl) (ρ : Operand → Value), Rel w0 B w ι H → G w → (∀ x, x ∈ o.op.operands → Rep w ι (Rd B ι H) (aev env x) (ρ x)) → (∀ f, ρ (.func f) = .func (.func f) #[] #[]) →
    growUpon P (fun v w' => Gr w w' ∧ Rep w' ι (Rd B ι H) a v) ((execOp ρ o).run P w)
end Go.Proofs.YtlffpgjkhehdmaaDoor
