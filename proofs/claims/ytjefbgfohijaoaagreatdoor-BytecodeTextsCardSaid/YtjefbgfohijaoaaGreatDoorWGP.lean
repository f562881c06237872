/- Own work: the lexer, plain: white space, tokens, and what of a text a token looks at. -/
import Derived.Lib.SplitLaws
namespace Go.Proofs.YtjefbgfohijaoaaGreatDoor
set_option linter.unusedSimpArgs false
abbrev Bs := List UInt8
def ltr (c : UInt8) : Bool := decide (97 <= c /\ c <= 122) || (decide (65 <= c /\ c <= 90) || (c == 95 || c == 36))
def dgt (c : UInt8) : Bool := decide (48 <= c /\ c <= 57)
def wrd (c : UInt8) : Bool := ltr c || dgt c
def wsp (c : UInt8) : Bool := c == 32 || (c == 9 || (c == 10 || c == 13))
def dropLn : Bs -> Bs
 | [] => []
 | c :: r => if c = 10 then c :: r else dropLn r
def dropCm : Bs -> Option Bs
 | [] => none
 | c :: r => if c = 42 /\ r.head? = some 47 then some r.tail else dropCm r
theorem dropLn_le : ∀ l : Bs, (dropLn l).length <= l.length
 | [] => Nat.le_refl _
 | c :: r => by
  unfold dropLn
  split
  ·exact Nat.le_refl _
  ·have := dropLn_le r
   simp only [List.length_cons]
   omega
theorem dropCm_le : ∀ {l r : Bs}, dropCm l = some r -> r.length <= l.length
 | [], r, h => by cases h
 | c :: l, r, h => by
  unfold dropCm at h
  split at h
  ·cases h
   simp only [List.length_tail, List.length_cons]
   omega
  ·have := dropCm_le h
   simp only [List.length_cons]
   omega
def cmk (l : Bs) : Nat := if l.take 2 = [47, 47] then 1 else if l.take 2 = [47, 42] then 2 else 0
def skipL : Nat -> Bs -> Bs × Bool
 | 0, l => (l, true)
 | _ + 1, [] => ([], true)
 | n + 1, c :: r => if wsp c then skipL n r else if cmk (c :: r) = 1 then skipL n (dropLn (r.drop 1)) else if cmk (c :: r) = 2 then (match dropCm (r.drop 1) with
  | none => (c :: r, false)
  | some r' => skipL n r') else (c :: r, true)
theorem skipL_fuel : ∀ (n m : Nat) (l : Bs), l.length <= n -> l.length <= m -> skipL n l = skipL m l
 | 0, m, l, h, _ => by
  have : l = [] := List.eq_nil_of_length_eq_zero (by omega)
  subst this
  cases m <;> rfl
 | n + 1, 0, l, _, h => by
  have : l = [] := List.eq_nil_of_length_eq_zero (by omega)
  subst this
  rfl
 | n + 1, m + 1, [], _, _ => rfl
 | n + 1, m + 1, c :: r, h, h' => by
  simp only [List.length_cons] at h h'
  unfold skipL
  split
  ·exact skipL_fuel n m r (by omega) (by omega)
  ·split
   ·have h1 := dropLn_le (r.drop 1)
    have h2 : (r.drop 1).length <= r.length := by simp
    exact skipL_fuel n m _ (by omega) (by omega)
   ·split
    ·split
     ·rfl
     ·rename_i r' hr
      have h1 := dropCm_le hr
      have h2 : (r.drop 1).length <= r.length := by simp
      exact skipL_fuel n m _ (by omega) (by omega)
    ·rfl
def skp (l : Bs) : Bs × Bool := skipL l.length l
theorem skp_nil : skp [] = ([], true) := rfl
theorem skp_ws {c : UInt8} {r : Bs} (h : wsp c = true) : skp (c :: r) = skp r := by
 show skipL (r.length + 1) (c :: r) = skipL r.length r
 rw [skipL, if_pos h]
theorem skp_ln {c : UInt8} {r : Bs} (h : wsp c = false) (h1 : cmk (c :: r) = 1) : skp (c :: r) = skp (dropLn (r.drop 1)) := by
 show skipL (r.length + 1) (c :: r) = _
 rw [skipL, if_neg (by rw [h]; decide), if_pos h1]
 have h3 := dropLn_le (r.drop 1)
 have h2 : (r.drop 1).length <= r.length := by simp
 exact skipL_fuel _ _ _ (by omega) (Nat.le_refl _)
theorem skp_cm {c : UInt8} {r r' : Bs} (h : wsp c = false) (h1 : cmk (c :: r) = 2) (h2 : dropCm (r.drop 1) = some r') : skp (c :: r) = skp r' := by
 show skipL (r.length + 1) (c :: r) = _
 rw [skipL, if_neg (by rw [h]; decide), if_neg (by rw [h1]; decide), if_pos h1, h2]
 have h3 := dropCm_le h2
 have h4 : (r.drop 1).length <= r.length := by simp
 exact skipL_fuel _ _ _ (by omega) (Nat.le_refl _)
theorem skp_open {c : UInt8} {r : Bs} (h : wsp c = false) (h1 : cmk (c :: r) = 2) (h2 : dropCm (r.drop 1) = none) : skp (c :: r) = (c :: r, false) := by
 show skipL (r.length + 1) (c :: r) = _
 rw [skipL, if_neg (by rw [h]; decide), if_neg (by rw [h1]; decide), if_pos h1, h2]
theorem skp_stop {c : UInt8} {r : Bs} (h : wsp c = false) (h1 : cmk (c :: r) = 0) : skp (c :: r) = (c :: r, true) := by
 show skipL (r.length + 1) (c :: r) = _
 rw [skipL, if_neg (by rw [h]; decide), if_neg (by rw [h1]; decide), if_neg (by rw [h1]; decide)]
theorem cmk_cases (l : Bs) : cmk l = 0 \/ cmk l = 1 \/ cmk l = 2 := by
 unfold cmk
 split
 ·exact .inr (.inl rfl)
 ·split
  ·exact .inr (.inr rfl)
  ·exact .inl rfl
theorem skp_ind {motive : Bs -> Prop} (nil : motive []) (ws : ∀ c r, wsp c = true -> motive r -> motive (c :: r))
  (ln : ∀ c r, wsp c = false -> cmk (c :: r) = 1 -> motive (dropLn (r.drop 1)) -> motive (c :: r))
  (cm : ∀ c r r', wsp c = false -> cmk (c :: r) = 2 -> dropCm (r.drop 1) = some r' -> motive r' -> motive (c :: r))
  (opn : ∀ c r, wsp c = false -> cmk (c :: r) = 2 -> dropCm (r.drop 1) = none -> motive (c :: r))
  (stop : ∀ c r, wsp c = false -> cmk (c :: r) = 0 -> motive (c :: r)) : ∀ (n : Nat) (l : Bs), l.length <= n -> motive l
 | 0, l, h => by
  have : l = [] := List.eq_nil_of_length_eq_zero (by omega)
  subst this
  exact nil
 | n + 1, [], _ => nil
 | n + 1, c :: r, h => by
  simp only [List.length_cons] at h
  have h4 : (r.drop 1).length <= r.length := by simp
  have rec_ := skp_ind nil ws ln cm opn stop n
  cases hw : wsp c with
  | true => exact ws c r hw (rec_ r (by omega))
  | false =>
   rcases cmk_cases (c :: r) with hk | hk | hk
   ·exact stop c r hw hk
   ·have := dropLn_le (r.drop 1)
    exact ln c r hw hk (rec_ _ (by omega))
   ·cases hd : dropCm (r.drop 1) with
    | none => exact opn c r hw hk hd
    | some r' =>
     have := dropCm_le hd
     exact cm c r r' hw hk hd (rec_ _ (by omega))
theorem dropLn_app : ∀ (l : Bs), dropLn l ≠ [] -> ∃ u, l = u ++ dropLn l /\ ∀ r', dropLn (u ++ 10 :: r') = 10 :: r'
 | [], h => absurd rfl h
 | c :: r, h => by
  by_cases hc : c = 10
  ·refine ⟨[], ?_, fun r' => ?_⟩
   ·unfold dropLn; rw [if_pos hc]; rfl
   ·show dropLn (10 :: r') = _
    unfold dropLn; rw [if_pos rfl]
  ·unfold dropLn at h ⊢
   rw [if_neg hc] at h ⊢
   obtain ⟨u, h1, h2⟩ := dropLn_app r h
   refine ⟨c :: u, by rw [List.cons_append, <- h1], fun r' => ?_⟩
   show dropLn (c :: (u ++ 10 :: r')) = _
   rw [dropLn, if_neg hc]
   exact h2 r'
theorem dropCm_app : ∀ {l r : Bs}, dropCm l = some r -> ∃ u, l = u ++ r /\ ∀ r', dropCm (u ++ r') = some r'
 | [], r, h => by cases h
 | c :: l, r, h => by
  unfold dropCm at h
  split at h
  ·rename_i hc
   cases h
   cases l with
   | nil => simp at hc
   | cons d l =>
    simp only [List.head?_cons, Option.some.injEq] at hc
    obtain ⟨rfl, rfl⟩ := hc
    exact ⟨[42, 47], rfl, fun r' => by
     show dropCm (42 :: 47 :: r') = _
     rw [dropCm, if_pos ⟨rfl, rfl⟩]
     rfl⟩
  ·rename_i hc
   obtain ⟨u, h1, h2⟩ := dropCm_app h
   cases u with
   | nil =>
    have h3 := h2 []
    cases h3
   | cons d u =>
    refine ⟨c :: d :: u, by rw [h1]; rfl, fun r' => ?_⟩
    show dropCm (c :: (d :: u ++ r')) = _
    rw [dropCm, if_neg (by
     rw [h1] at hc
     exact hc)]
    exact h2 r'
theorem cmk_form {c : UInt8} {r : Bs} {k : Nat} (h : cmk (c :: r) = k) (hk : k ≠ 0) : ∃ d r', r = d :: r' := by
 cases r with
 | nil =>
  unfold cmk at h
  rw [if_neg (by simp), if_neg (by simp)] at h
  exact absurd h.symm hk
 | cons d r' => exact ⟨d, r', rfl⟩
theorem skp_le : ∀ l : Bs, (skp l).1.length <= l.length := by
 intro l
 refine skp_ind (motive := fun l => (skp l).1.length <= l.length) ?_ ?_ ?_ ?_ ?_ ?_ l.length l (Nat.le_refl _)
 ·rw [skp_nil]; exact Nat.le_refl _
 ·intro c r hw ih
  rw [skp_ws hw, List.length_cons]; omega
 ·intro c r hw hk ih
  rw [skp_ln hw hk, List.length_cons]
  have := dropLn_le (r.drop 1)
  have h2 : (r.drop 1).length <= r.length := by simp
  omega
 ·intro c r r' hw hk hd ih
  rw [skp_cm hw hk hd, List.length_cons]
  have := dropCm_le hd
  have h2 : (r.drop 1).length <= r.length := by simp
  omega
 ·intro c r hw hk hd
  rw [skp_open hw hk hd]; exact Nat.le_refl _
 ·intro c r hw hk
  rw [skp_stop hw hk]; exact Nat.le_refl _
theorem skp_at : ∀ (l : Bs) (r : Bs) (b : Bool), skp l = (r, b) -> (b = false -> r.take 2 = [47, 42]) /\ (b = true -> r = [] \/ ∃ c r', r = c :: r' /\ wsp c = false /\ cmk (c :: r') = 0) := by
 intro l
 refine skp_ind (motive := fun l => ∀ (r : Bs) (b : Bool), skp l = (r, b) -> (b = false -> r.take 2 = [47, 42]) /\ (b = true -> r = [] \/ ∃ c r', r = c :: r' /\ wsp c = false /\ cmk (c :: r') = 0)) ?_ ?_ ?_ ?_ ?_ ?_ l.length l (Nat.le_refl _)
 ·intro r b h
  rw [skp_nil] at h
  cases h
  exact ⟨fun h => by (cases h), fun _ => .inl rfl⟩
 ·intro c l hw ih r b h
  rw [skp_ws hw] at h
  exact ih r b h
 ·intro c l hw hk ih r b h
  rw [skp_ln hw hk] at h
  exact ih r b h
 ·intro c l l' hw hk hd ih r b h
  rw [skp_cm hw hk hd] at h
  exact ih r b h
 ·intro c l hw hk hd r b h
  rw [skp_open hw hk hd] at h
  cases h
  refine ⟨fun _ => ?_, fun h => by (cases h)⟩
  unfold cmk at hk
  split at hk
  ·cases hk
  ·split at hk
   ·rename_i h; exact h
   ·cases hk
 ·intro c l hw hk r b h
  rw [skp_stop hw hk] at h
  cases h
  exact ⟨fun h => by (cases h), fun _ => .inr ⟨c, l, rfl, hw, hk⟩⟩
theorem skp_self {c : UInt8} {r : Bs} (h : wsp c = false) (h1 : cmk (c :: r) = 0) : skp (c :: r) = (c :: r, true) := skp_stop h h1
end Go.Proofs.YtjefbgfohijaoaaGreatDoor

/- Own work: the lexer, plain: tokens. -/
namespace Go.Proofs.YtjefbgfohijaoaaGreatDoor
set_option linter.unusedSimpArgs false
def kwL : List Bs := [[97, 115, 121, 110, 99], [97, 119, 97, 105, 116], [98, 114, 101, 97, 107], [99, 111, 110, 115, 116], [99, 111, 110, 116, 105, 110, 117, 101], [100, 101, 108, 101, 116, 101], [101, 108, 115, 101], [102, 97, 108, 115, 101], [102, 105, 110, 97, 108, 108, 121], [102, 111, 114], [102, 117, 110, 99, 116, 105, 111, 110], [105, 102], [105, 110], [105, 110, 115, 116, 97, 110, 99, 101, 111, 102], [108, 101, 116], [110, 101, 119], [110, 117, 108, 108], [111, 102], [114, 101, 116, 117, 114, 110], [116, 104, 105, 115], [116, 104, 114, 111, 119], [116, 114, 117, 101], [116, 114, 121], [99, 97, 116, 99, 104], [116, 121, 112, 101, 111, 102], [117, 110, 100, 101, 102, 105, 110, 101, 100], [119, 104, 105, 108, 101], [121, 105, 101, 108, 100]]
def op3L : List Bs := [[61, 61, 61], [33, 61, 61]]
def op2L : List Bs := [[43, 61], [45, 61], [42, 61], [61, 61], [33, 61], [60, 61], [62, 61], [38, 38], [124, 124], [63, 63], [61, 62], [43, 43], [45, 45]]
def op1L : List Bs := [[123], [125], [40], [41], [91], [93], [59], [44], [46], [63], [58], [61], [43], [45], [42], [47], [37], [33], [60], [62]]
def isKw (w : Bs) : Bool := kwL.any (· == w)
def opL (l : Bs) : Option Bs := if op3L.any (· == l.take 3) then some (l.take 3) else if op2L.any (· == l.take 2) then some (l.take 2) else if op1L.any (· == l.take 1) then some (l.take 1) else none
def hexv (c : UInt8) : Option Nat := if 48 <= c /\ c <= 57 then some (c.toNat - 48) else if 97 <= c /\ c <= 102 then some (c.toNat - 87) else if 65 <= c /\ c <= 70 then some (c.toNat - 55) else none
def isHex (c : UInt8) : Bool := (hexv c).isSome
def hexN (l : Bs) : Nat := l.foldl (fun n c => 16 * n + (hexv c).getD 0) 0
def decN (l : Bs) : Nat := l.foldl (fun n c => 10 * n + (c.toNat - 48)) 0
def ptOk (n : Nat) : Bool := decide (n <= 1114111) && !(decide (55296 <= n) && decide (n <= 57343))
def escT (c : UInt8) : Option UInt8 := if c = 110 then some 10 else if c = 116 then some 9 else if c = 114 then some 13 else if c = 98 then some 8 else if c = 92 \/ c = 34 \/ c = 39 then some c else none
section
variable (U : Nat -> Bs) (Rp : Bs -> Bs)
def ptL : Bs -> Option (Bs × Bs)
 | [] => none
 | c :: r => if c = 123 then (match r.dropWhile isHex with
  | [] => none
  | d :: r' => if d = 125 /\ 1 <= (r.takeWhile isHex).length /\ (r.takeWhile isHex).length <= 6 /\ ptOk (hexN (r.takeWhile isHex)) = true then some (U (hexN (r.takeWhile isHex)), r') else none) else none
def hxL : Bs -> Option (Bs × Bs)
 | a :: b :: r => (match hexv a, hexv b with
  | some x, some y => some (U (16 * x + y), r)
  | _, _ => none)
 | _ => none
def escL : Bs -> Option (Bs × Bs)
 | [] => none
 | c :: r => (match escT c with
  | some d => some ([d], r)
  | none => if c = 48 then (if r.head?.any dgt then none else some ([0], r)) else if c = 120 then hxL U r else if c = 117 then ptL U r else none)
def litF (q : UInt8) : Nat -> Bs -> Option (Bs × Bs)
 | 0, _ => none
 | _ + 1, [] => none
 | n + 1, c :: r => if c = q then some ([], r) else if c = 10 \/ c = 13 then none else if c = 92 then (match escL U r with
  | none => none
  | some p => (litF q n p.2).map fun z => (p.1 ++ z.1, z.2)) else (litF q n r).map fun z => (c :: z.1, z.2)
def lit (q : UInt8) (l : Bs) : Option (Bs × Bs) := litF U q l.length l
end
inductive TR where
 | bad (e : Int)
 | ok (k : Int) (t : Bs) (r : Bs)
def numL (l : Bs) : TR :=
 if (l.takeWhile dgt).head? = some 48 /\ 1 < (l.takeWhile dgt).length then .bad 4 else if (l.dropWhile dgt).head?.any ltr then .bad 4 else if 9223372036854775807 < decN (l.takeWhile dgt) then .bad 5 else .ok 3 (l.takeWhile dgt) (l.dropWhile dgt)
def tokL (U : Nat -> Bs) (Rp : Bs -> Bs) : Bs -> TR
 | [] => .bad 4
 | c :: r => if ltr c then .ok (if isKw ((c :: r).takeWhile wrd) then 2 else 1) ((c :: r).takeWhile wrd) ((c :: r).dropWhile wrd) else if dgt c then numL (c :: r) else if c = 34 \/ c = 39 then (match lit U c r with
  | none => .bad 4
  | some z => .ok 4 (Rp z.1) z.2) else (match opL (c :: r) with
  | none => .bad 4
  | some w => .ok 5 w ((c :: r).drop w.length))
def LkA (r r' : Bs) : Prop := r'.head? = r.head? \/ r'.head? = some 32 \/ r'.head? = some 10 \/ r' = []
theorem tw_app {p : UInt8 -> Bool} : ∀ (u r : Bs), (∀ c ∈ u, p c = true) -> (∀ c, r.head? = some c -> p c = false) -> (u ++ r).takeWhile p = u /\ (u ++ r).dropWhile p = r
 | [], [], _, _ => ⟨rfl, rfl⟩
 | [], c :: r, _, h => by
  have := h c rfl
  simp [this]
 | c :: u, r, h, h' => by
  have h1 := h c (List.mem_cons_self ..)
  have h2 := tw_app u r (fun x hx => h x (List.mem_cons_of_mem _ hx)) h'
  simp only [List.cons_append, List.takeWhile_cons, List.dropWhile_cons, h1, if_true]
  exact ⟨by rw [h2.1], h2.2⟩
theorem tw_all {p : UInt8 -> Bool} : ∀ (l : Bs), (∀ c ∈ l.takeWhile p, p c = true) /\ (∀ c, (l.dropWhile p).head? = some c -> p c = false) /\ l.takeWhile p ++ l.dropWhile p = l
 | [] => ⟨fun c h => (by cases h), fun c h => (by cases h), rfl⟩
 | c :: l => by
  have ih := tw_all (p := p) l
  cases hc : p c with
  | true =>
   simp only [List.takeWhile_cons, List.dropWhile_cons, hc, if_true]
   refine ⟨fun x hx => ?_, ih.2.1, by rw [List.cons_append, ih.2.2]⟩
   rcases List.mem_cons.1 hx with rfl | hx
   ·exact hc
   ·exact ih.1 x hx
  | false =>
   simp only [List.takeWhile_cons, List.dropWhile_cons, hc, Bool.false_eq_true, if_false]
   exact ⟨fun x hx => (by cases hx), fun x hx => by cases hx; exact hc, rfl⟩
theorem la_of {p : UInt8 -> Bool} {r r' : Bs} (h : LkA r r') (h32 : p 32 = false) (h10 : p 10 = false) (hr : ∀ c, r.head? = some c -> p c = false) : ∀ c, r'.head? = some c -> p c = false := fun c hc => by
 rcases h with h | h | h | h
 ·exact hr c (by rw [<-h]; exact hc)
 ·rw [h] at hc; cases hc; exact h32
 ·rw [h] at hc; cases hc; exact h10
 ·rw [h] at hc; cases hc
end Go.Proofs.YtjefbgfohijaoaaGreatDoor

/- Own work: the lexer, plain: a token does not look far behind itself, and a line feed ends every token. -/
namespace Go.Proofs.YtjefbgfohijaoaaGreatDoor
set_option linter.unusedSimpArgs false
set_option linter.unusedSectionVars false
section
variable (U : Nat -> Bs) (Rp : Bs -> Bs)
theorem hxL_app : ∀ {l : Bs} {t r : Bs}, hxL U l = some (t, r) -> ∃ u, u ≠ [] /\ l = u ++ r /\ ∀ r', hxL U (u ++ r') = some (t, r')
 | [], _, _, h => by cases h
 | [_], _, _, h => by cases h
 | a :: b :: l, t, r, h => by
  rw [hxL] at h
  cases ha : hexv a with
  | none => rw [ha] at h; cases h
  | some x =>
   cases hb : hexv b with
   | none => rw [ha, hb] at h; cases h
   | some y =>
    rw [ha, hb] at h
    cases h
    exact ⟨[a, b], List.cons_ne_nil _ _, rfl, fun r' => by
     show hxL U (a :: b :: r') = _
     rw [hxL]
     rw [ha, hb]⟩
theorem ptL_app : ∀ {l : Bs} {t r : Bs}, ptL U l = some (t, r) -> ∃ u, u ≠ [] /\ l = u ++ r /\ ∀ r', ptL U (u ++ r') = some (t, r')
 | [], _, _, h => by cases h
 | c :: l, t, r, h => by
  rw [ptL] at h
  split at h
  ·rename_i hc
   subst hc
   obtain ⟨h1, h2, h3⟩ := tw_all (p := isHex) l
   cases hd : l.dropWhile isHex with
   | nil => rw [hd] at h; cases h
   | cons d r2 =>
    rw [hd] at h h3 h2
    simp only at h
    split at h
    ·rename_i hg
     cases h
     obtain ⟨rfl, hg2⟩ := hg
     refine ⟨123 :: (l.takeWhile isHex ++ [125]), List.cons_ne_nil _ _, ?_, fun r' => ?_⟩
     ·rw [List.cons_append, List.append_assoc]
      show 123 :: l = 123 :: (l.takeWhile isHex ++ 125 :: r)
      rw [h3]
     ·have h4 := tw_app (p := isHex) (l.takeWhile isHex) (125 :: r') h1 (fun c hc => by cases hc; decide)
      rw [List.cons_append, List.append_assoc]
      show ptL U (123 :: (l.takeWhile isHex ++ 125 :: r')) = _
      rw [ptL]
      rw [if_pos rfl, h4.1, h4.2]
      exact if_pos ⟨rfl, hg2⟩
    ·cases h
  ·cases h
theorem escL_app : ∀ {l : Bs} {t r : Bs}, escL U l = some (t, r) -> ∃ u, u ≠ [] /\ l = u ++ r /\ ∀ r', r'.head? = r.head? -> escL U (u ++ r') = some (t, r')
 | [], _, _, h => by cases h
 | c :: l, t, r, h => by
  rw [escL] at h
  cases ht : escT c with
  | some d =>
   rw [ht] at h
   cases h
   exact ⟨[c], List.cons_ne_nil _ _, rfl, fun r' _ => by
    show escL U (c :: r') = _
    rw [escL]
    rw [ht]⟩
  | none =>
   rw [ht] at h
   simp only at h
   split at h
   ·rename_i hc
    split at h
    ·cases h
    ·rename_i hd
     cases h
     exact ⟨[c], List.cons_ne_nil _ _, rfl, fun r' hr => by
      show escL U (c :: r') = _
      rw [escL]
      rw [ht]
      simp only
      rw [if_pos hc, hr, if_neg hd]⟩
   ·rename_i hc
    split at h
    ·rename_i hx
     obtain ⟨u, h1, h2, h3⟩ := hxL_app U h
     exact ⟨c :: u, List.cons_ne_nil _ _, by rw [h2]; rfl, fun r' _ => by
      show escL U (c :: (u ++ r')) = _
      rw [escL]
      rw [ht]
      simp only
      rw [if_neg hc, if_pos hx, h3]⟩
    ·rename_i hx
     split at h
     ·rename_i hu
      obtain ⟨u, h1, h2, h3⟩ := ptL_app U h
      exact ⟨c :: u, List.cons_ne_nil _ _, by rw [h2]; rfl, fun r' _ => by
       show escL U (c :: (u ++ r')) = _
       rw [escL]
       rw [ht]
       simp only
       rw [if_neg hc, if_neg hx, if_pos hu, h3]⟩
     ·cases h
theorem escL_lt {l : Bs} {p : Bs × Bs} (h : escL U l = some p) : p.2.length < l.length := by
 obtain ⟨t, r⟩ := p
 obtain ⟨u, h1, h2, _⟩ := escL_app U h
 have : 0 < u.length := List.length_pos_iff.2 h1
 rw [h2, List.length_append]
 show r.length < _
 omega
theorem litF_fuel (q : UInt8) : ∀ (n m : Nat) (l : Bs), l.length <= n -> l.length <= m -> litF U q n l = litF U q m l
 | 0, m, l, h, _ => by
  have : l = [] := List.eq_nil_of_length_eq_zero (by omega)
  subst this
  cases m <;> rfl
 | n + 1, 0, l, _, h => by
  have : l = [] := List.eq_nil_of_length_eq_zero (by omega)
  subst this
  rfl
 | n + 1, m + 1, [], _, _ => rfl
 | n + 1, m + 1, c :: r, h, h' => by
  simp only [List.length_cons] at h h'
  rw [litF, litF]
  split
  ·rfl
  ·split
   ·rfl
   ·split
    ·cases he : escL U r with
     | none => rfl
     | some p =>
      have := escL_lt U he
      simp only
      rw [litF_fuel q n m p.2 (by omega) (by omega)]
    ·rw [litF_fuel q n m r (by omega) (by omega)]
theorem lit_nil (q : UInt8) : lit U q [] = none := rfl
theorem lit_end (q : UInt8) (r : Bs) : lit U q (q :: r) = some ([], r) := by
 show litF U q (r.length + 1) (q :: r) = _
 rw [litF, if_pos rfl]
theorem lit_brk {q c : UInt8} (r : Bs) (h : c ≠ q) (h1 : c = 10 \/ c = 13) : lit U q (c :: r) = none := by
 show litF U q (r.length + 1) (c :: r) = _
 rw [litF, if_neg h, if_pos h1]
theorem lit_esc0 {q c : UInt8} {r : Bs} (h : c ≠ q) (h1 : ¬ (c = 10 \/ c = 13)) (h2 : c = 92) (h3 : escL U r = none) : lit U q (c :: r) = none := by
 show litF U q (r.length + 1) (c :: r) = _
 rw [litF, if_neg h, if_neg h1, if_pos h2, h3]
theorem lit_esc {q c : UInt8} {r : Bs} {p : Bs × Bs} (h : c ≠ q) (h1 : ¬ (c = 10 \/ c = 13)) (h2 : c = 92) (h3 : escL U r = some p) : lit U q (c :: r) = (lit U q p.2).map fun z => (p.1 ++ z.1, z.2) := by
 show litF U q (r.length + 1) (c :: r) = _
 rw [litF, if_neg h, if_neg h1, if_pos h2, h3]
 simp only
 have := escL_lt U h3
 unfold lit
 rw [litF_fuel U q r.length p.2.length p.2 (by omega) (Nat.le_refl _)]
theorem lit_chr {q c : UInt8} (r : Bs) (h : c ≠ q) (h1 : ¬ (c = 10 \/ c = 13)) (h2 : c ≠ 92) : lit U q (c :: r) = (lit U q r).map fun z => (c :: z.1, z.2) := by
 show litF U q (r.length + 1) (c :: r) = _
 rw [litF, if_neg h, if_neg h1, if_neg h2]
 rfl
theorem lit_ind (q : UInt8) {motive : Bs -> Prop} (nil : motive []) (end_ : ∀ r, motive (q :: r)) (brk : ∀ c r, c ≠ q -> (c = 10 \/ c = 13) -> motive (c :: r))
  (esc0 : ∀ c r, c ≠ q -> ¬ (c = 10 \/ c = 13) -> c = 92 -> escL U r = none -> motive (c :: r)) (esc : ∀ c r p, c ≠ q -> ¬ (c = 10 \/ c = 13) -> c = 92 -> escL U r = some p -> motive p.2 -> motive (c :: r))
  (chr : ∀ c r, c ≠ q -> ¬ (c = 10 \/ c = 13) -> c ≠ 92 -> motive r -> motive (c :: r)) : ∀ (n : Nat) (l : Bs), l.length <= n -> motive l
 | 0, l, h => by
  have : l = [] := List.eq_nil_of_length_eq_zero (by omega)
  subst this
  exact nil
 | n + 1, [], _ => nil
 | n + 1, c :: r, h => by
  simp only [List.length_cons] at h
  have rec_ := lit_ind q nil end_ brk esc0 esc chr n
  by_cases h1 : c = q
  ·subst h1; exact end_ r
  ·by_cases h2 : c = 10 \/ c = 13
   ·exact brk c r h1 h2
   ·by_cases h3 : c = 92
    ·cases he : escL U r with
     | none => exact esc0 c r h1 h2 h3 he
     | some p =>
      have := escL_lt U he
      exact esc c r p h1 h2 h3 he (rec_ _ (by omega))
    ·exact chr c r h1 h2 h3 (rec_ r (by omega))
theorem lit_app (q : UInt8) : ∀ (l : Bs), ∀ t r, lit U q l = some (t, r) -> ∃ u, u ≠ [] /\ l = u ++ r /\ ∀ r', lit U q (u ++ r') = some (t, r') := by
 intro l
 refine lit_ind U q (motive := fun l => ∀ t r, lit U q l = some (t, r) -> ∃ u, u ≠ [] /\ l = u ++ r /\ ∀ r', lit U q (u ++ r') = some (t, r')) ?_ ?_ ?_ ?_ ?_ ?_ l.length l (Nat.le_refl _)
 ·intro t r h
  rw [lit_nil] at h; cases h
 ·intro l t r h
  rw [lit_end] at h
  cases h
  exact ⟨[q], List.cons_ne_nil _ _, rfl, fun r' => lit_end U q r'⟩
 ·intro c l h1 h2 t r h
  rw [lit_brk U l h1 h2] at h; cases h
 ·intro c l h1 h2 h3 he t r h
  rw [lit_esc0 U h1 h2 h3 he] at h; cases h
 ·intro c l p h1 h2 h3 he ih t r h
  rw [lit_esc U h1 h2 h3 he] at h
  cases hl : lit U q p.2 with
  | none => rw [hl] at h; cases h
  | some z =>
   rw [hl] at h
   cases h
   obtain ⟨u2, g1, g2, g3⟩ := ih z.1 z.2 hl
   obtain ⟨u1, k1, k2, k3⟩ := escL_app U (t := p.1) (r := p.2) he
   refine ⟨c :: (u1 ++ u2), List.cons_ne_nil _ _, by rw [k2, g2]; simp, fun r' => ?_⟩
   show lit U q (c :: ((u1 ++ u2) ++ r')) = _
   have h5 : escL U ((u1 ++ u2) ++ r') = some (p.1, u2 ++ r') := by
    rw [List.append_assoc]
    refine k3 _ ?_
    rw [g2]
    cases u2 with
    | nil => exact absurd rfl g1
    | cons x y => rfl
   rw [lit_esc U h1 h2 h3 h5]
   show (lit U q (u2 ++ r')).map _ = _
   rw [g3]
   rfl
 ·intro c l h1 h2 h3 ih t r h
  rw [lit_chr U l h1 h2 h3] at h
  cases hl : lit U q l with
  | none => rw [hl] at h; cases h
  | some z =>
   rw [hl] at h
   cases h
   obtain ⟨u, g1, g2, g3⟩ := ih z.1 z.2 hl
   refine ⟨c :: u, List.cons_ne_nil _ _, by rw [g2]; rfl, fun r' => ?_⟩
   show lit U q (c :: (u ++ r')) = _
   rw [lit_chr U _ h1 h2 h3, g3]
   rfl
end
end Go.Proofs.YtjefbgfohijaoaaGreatDoor

/- Own work: the lexer, plain: what follows a token; two texts. -/
namespace Go.Proofs.YtjefbgfohijaoaaGreatDoor
set_option linter.unusedSimpArgs false
set_option linter.unusedSectionVars false
theorem op_len {L : List Bs} {k : Nat} (hk : (L.all fun w => decide (w.length = k)) = true) {l : Bs} (h : L.any (· == l.take k) = true) : k <= l.length := by
 obtain ⟨w, hw, he⟩ := List.any_eq_true.1 h
 have h2 := List.all_eq_true.1 hk w hw
 simp only [decide_eq_true_eq] at h2
 have h3 : w = l.take k := by simpa using he
 rw [h3] at h2
 simp only [List.length_take] at h2
 omega
theorem opL_some {l w : Bs} (h : opL l = some w) : w ≠ [] /\ l = w ++ l.drop w.length /\ w.length <= l.length := by
 have key : ∀ k, 0 < k -> k <= l.length -> l.take k = w -> w ≠ [] /\ l = w ++ l.drop w.length /\ w.length <= l.length := fun k h0 hk e => by
  subst e
  have h1 : (l.take k).length = k := by rw [List.length_take]; omega
  refine ⟨fun e => ?_, by rw [h1, List.take_append_drop], by omega⟩
  rw [e] at h1
  simp at h1
  omega
 unfold opL at h
 split at h
 ·rename_i hc
  exact key 3 (by decide) (op_len (by decide) hc) (Option.some.inj h)
 ·split at h
  ·rename_i hc
   exact key 2 (by decide) (op_len (by decide) hc) (Option.some.inj h)
  ·split at h
   ·rename_i hc
    exact key 1 (by decide) (op_len (by decide) hc) (Option.some.inj h)
   ·cases h
theorem op3_2 {l : Bs} (h : op3L.any (· == l.take 3) = true) : op2L.any (· == l.take 2) = true := by
 obtain ⟨w, hw, he⟩ := List.any_eq_true.1 h
 have h3 : w = l.take 3 := by simpa using he
 have h4 : l.take 2 = w.take 2 := by rw [h3, List.take_take]; rfl
 rw [h4]
 exact List.all_eq_true.1 (show (op3L.all fun w => op2L.any (· == w.take 2)) = true by decide) w hw
theorem op2_bad {a b : UInt8} (hb : b = 32 \/ b = 10) : op2L.any (· == [a, b]) = false := by
 rw [List.any_eq_false]
 intro w hw he
 have h3 : w = [a, b] := by simpa using he
 have h4 := List.all_eq_true.1 (show (op2L.all fun w => !w.contains 32 && !w.contains 10) = true by decide) w hw
 rw [h3] at h4
 rcases hb with rfl | rfl <;> simp at h4
theorem op3_bad {a b c : UInt8} (hc : c = 32 \/ c = 10) : op3L.any (· == [a, b, c]) = false := by
 rw [List.any_eq_false]
 intro w hw he
 have h3 : w = [a, b, c] := by simpa using he
 have h4 := List.all_eq_true.1 (show (op3L.all fun w => !w.contains 32 && !w.contains 10) = true by decide) w hw
 rw [h3] at h4
 rcases hc with rfl | rfl <;> simp at h4
theorem op_short {L : List Bs} {k : Nat} (hk : (L.all fun w => decide (w.length = k)) = true) {x : Bs} (h : x.length ≠ k) : L.any (· == x) = false := by
 rw [List.any_eq_false]
 intro w hw he
 have h2 := List.all_eq_true.1 hk w hw
 simp only [decide_eq_true_eq] at h2
 have h3 : w = x := by simpa using he
 rw [h3] at h2
 exact h h2
theorem opL_app {l w : Bs} (h : opL l = some w) {r' : Bs} (hr : LkA (l.drop w.length) r') : opL (w ++ r') = some w := by
 unfold opL at h
 split at h
 ·rename_i hc
  cases h
  have hl := op_len (by decide) hc
  have h1 : (l.take 3).length = 3 := by rw [List.length_take]; omega
  have h2 : (l.take 3 ++ r').take 3 = l.take 3 := by rw [List.take_append_of_le_length (by omega), List.take_take]; rfl
  unfold opL
  rw [h2, if_pos hc]
 ·rename_i h3
  split at h
  ·rename_i hc
   cases h
   have hl := op_len (by decide) hc
   obtain ⟨a, b, l2, rfl⟩ : ∃ a b l2, l = a :: b :: l2 := by
    match l, hl with
    | a :: b :: l2, _ => exact ⟨a, b, l2, rfl⟩
   have hr' : LkA l2 r' := hr
   have h2 : op3L.any (· == ([a, b] ++ r').take 3) = false := by
    cases r' with
    | nil => exact op_short (k := 3) (by decide) (by simp)
    | cons c r' =>
     show op3L.any (· == [a, b, c]) = false
     rcases hr' with e | e | e | e
     ·cases l2 with
      | nil => cases e
      | cons d l2 =>
       cases e
       exact Bool.eq_false_iff.2 h3
     ·cases e; exact op3_bad (.inl rfl)
     ·cases e; exact op3_bad (.inr rfl)
     ·cases e
   show opL ([a, b] ++ r') = some [a, b]
   unfold opL
   rw [if_neg (by rw [h2]; decide)]
   have h5 : ([a, b] ++ r').take 2 = [a, b] := rfl
   rw [h5]
   have hc' : op2L.any (· == [a, b]) = true := hc
   rw [if_pos hc']
  ·rename_i h2n
   split at h
   ·rename_i hc
    cases h
    have hl := op_len (by decide) hc
    obtain ⟨a, l2, rfl⟩ : ∃ a l2, l = a :: l2 := by
     match l, hl with
     | a :: l2, _ => exact ⟨a, l2, rfl⟩
    have hr' : LkA l2 r' := hr
    have h2 : op2L.any (· == ([a] ++ r').take 2) = false := by
     cases r' with
     | nil => exact op_short (k := 2) (by decide) (by simp)
     | cons c r' =>
      show op2L.any (· == [a, c]) = false
      rcases hr' with e | e | e | e
      ·cases l2 with
       | nil => cases e
       | cons d l2 =>
        cases e
        exact Bool.eq_false_iff.2 h2n
      ·cases e; exact op2_bad (.inl rfl)
      ·cases e; exact op2_bad (.inr rfl)
      ·cases e
    have h4 : op3L.any (· == ([a] ++ r').take 3) = false := by
     cases h5 : op3L.any (· == ([a] ++ r').take 3) with
     | false => rfl
     | true =>
      have := op3_2 h5
      rw [h2] at this
      cases this
    show opL ([a] ++ r') = some [a]
    unfold opL
    rw [if_neg (by rw [h4]; decide), if_neg (by rw [h2]; decide)]
    have h5 : ([a] ++ r').take 1 = [a] := rfl
    rw [h5]
    have hc' : op1L.any (· == [a]) = true := hc
    rw [if_pos hc']
   ·cases h
section
variable (U : Nat -> Bs) (Rp : Bs -> Bs)
theorem numL_app {l t r : Bs} {k : Int} (h : numL l = .ok k t r) (hd : ∃ c l', l = c :: l' /\ dgt c = true) : ∃ u, u ≠ [] /\ l = u ++ r /\ (∃ c u', u = c :: u' /\ dgt c = true) /\ ∀ r', LkA r r' -> numL (u ++ r') = .ok k t r' := by
 obtain ⟨h1, h2, h3⟩ := tw_all (p := dgt) l
 obtain ⟨c, l', rfl, hc⟩ := hd
 have hcons : (c :: l').takeWhile dgt = c :: l'.takeWhile dgt := by rw [List.takeWhile_cons, hc]; rfl
 unfold numL at h
 split at h
 ·cases h
 ·rename_i g1
  split at h
  ·cases h
  ·rename_i g2
   split at h
   ·cases h
   ·rename_i g3
    cases h
    refine ⟨(c :: l').takeWhile dgt, by rw [hcons]; exact List.cons_ne_nil _ _, h3.symm, ⟨c, _, hcons, hc⟩, fun r' hr => ?_⟩
    have h4 := tw_app (p := dgt) ((c :: l').takeWhile dgt) r' h1 (la_of hr (by decide) (by decide) h2)
    have h5 : ¬ (r'.head?.any ltr = true) := fun h => by
     cases hh : r'.head? with
     | none => rw [hh] at h; cases h
     | some x =>
      rw [hh] at h
      have h6 : ∀ y, ((c :: l').dropWhile dgt).head? = some y -> ltr y = false := fun y hy => by
       rw [hy] at g2
       exact Bool.eq_false_iff.2 g2
      have h7 := la_of (p := ltr) hr (by decide) (by decide) h6 x hh
      rw [show (some x).any ltr = ltr x from rfl, h7] at h
      cases h
    unfold numL
    rw [h4.1, h4.2, if_neg g1, if_neg h5, if_neg g3]
theorem tokL_app {l t r : Bs} {k : Int} (h : tokL U Rp l = .ok k t r) : ∃ u, u ≠ [] /\ l = u ++ r /\ ∀ r', LkA r r' -> tokL U Rp (u ++ r') = .ok k t r' := by
 cases l with
 | nil => cases h
 | cons c l =>
  rw [tokL] at h
  split at h
  ·rename_i hc
   cases h
   obtain ⟨h1, h2, h3⟩ := tw_all (p := wrd) (c :: l)
   have hw : wrd c = true := by unfold wrd; rw [hc]; rfl
   have hcons : (c :: l).takeWhile wrd = c :: l.takeWhile wrd := by rw [List.takeWhile_cons, hw]; rfl
   refine ⟨(c :: l).takeWhile wrd, by rw [hcons]; exact List.cons_ne_nil _ _, h3.symm, fun r' hr => ?_⟩
   have h4 := tw_app (p := wrd) ((c :: l).takeWhile wrd) r' h1 (la_of hr (by decide) (by decide) h2)
   rw [hcons] at h4 ⊢
   show tokL U Rp (c :: (l.takeWhile wrd ++ r')) = _
   rw [tokL]
   rw [if_pos hc]
   have h5 : c :: (l.takeWhile wrd ++ r') = (c :: l.takeWhile wrd) ++ r' := rfl
   rw [h5, h4.1, h4.2]
  ·rename_i hc
   split at h
   ·rename_i hd
    obtain ⟨u, h1, h2, ⟨c', u', rfl, hd'⟩, h3⟩ := numL_app h ⟨c, l, rfl, hd⟩
    refine ⟨c' :: u', h1, h2, fun r' hr => ?_⟩
    have hcc : c = c' := by
     have := congrArg List.head? h2
     simpa using this
    subst hcc
    show tokL U Rp (c :: (u' ++ r')) = _
    rw [tokL]
    rw [if_neg hc, if_pos hd]
    exact h3 r' hr
   ·rename_i hd
    split at h
    ·rename_i hq
     cases hl : lit U c l with
     | none => rw [hl] at h; cases h
     | some z =>
      rw [hl] at h
      cases h
      obtain ⟨u, h1, h2, h3⟩ := lit_app U c l z.1 z.2 hl
      refine ⟨c :: u, List.cons_ne_nil _ _, by rw [List.cons_append, <- h2], fun r' _ => ?_⟩
      show tokL U Rp (c :: (u ++ r')) = _
      rw [tokL]
      rw [if_neg hc, if_neg hd, if_pos hq, h3]
    ·rename_i hq
     cases ho : opL (c :: l) with
     | none => rw [ho] at h; cases h
     | some w =>
      rw [ho] at h
      cases h
      obtain ⟨h1, h2, h3⟩ := opL_some ho
      refine ⟨t, h1, h2, fun r' hr => ?_⟩
      have h4 := opL_app ho hr
      cases t with
      | nil => exact absurd rfl h1
      | cons x w =>
       have hcc : c = x := by
        have := congrArg List.head? h2
        simpa using this
       subst hcc
       show tokL U Rp (c :: (w ++ r')) = _
       rw [tokL]
       rw [if_neg hc, if_neg hd, if_neg hq]
       have h5 : c :: (w ++ r') = (c :: w) ++ r' := rfl
       rw [h5, h4]
       simp only
       rw [List.drop_left]
end
end Go.Proofs.YtjefbgfohijaoaaGreatDoor

/- Own work: the lexer, plain: all tokens of a text; two texts; white space between tokens. -/
namespace Go.Proofs.YtjefbgfohijaoaaGreatDoor
set_option linter.unusedSimpArgs false
set_option linter.unusedSectionVars false
structure Tk where
 k : Int
 t : Bs
 rem : Nat
def Tk.up (n : Nat) (x : Tk) : Tk := ⟨x.k, x.t, x.rem + n⟩
section
variable (U : Nat -> Bs) (Rp : Bs -> Bs)
def lexF : Nat -> Bs -> List Tk × Option (Nat × Int)
 | 0, _ => ([], none)
 | n + 1, l => if (skp l).2 = false then ([], some ((skp l).1.length, 4)) else if (skp l).1 = [] then ([], none) else (match tokL U Rp (skp l).1 with
  | .bad e => ([], some ((skp l).1.length, e))
  | .ok k t r => (⟨k, t, (skp l).1.length⟩ :: (lexF n r).1, (lexF n r).2))
def lex (l : Bs) : List Tk × Option (Nat × Int) := lexF U Rp (l.length + 1) l
theorem tok_lt {l t r : Bs} {k : Int} (h : tokL U Rp l = .ok k t r) : r.length < l.length := by
 obtain ⟨u, h1, h2, _⟩ := tokL_app U Rp h
 have : 0 < u.length := List.length_pos_iff.2 h1
 rw [h2, List.length_append]
 omega
theorem lexF_fuel : ∀ (n m : Nat) (l : Bs), l.length < n -> l.length < m -> lexF U Rp n l = lexF U Rp m l
 | 0, m, l, h, _ => by omega
 | n + 1, 0, l, _, h => by omega
 | n + 1, m + 1, l, h, h' => by
  rw [lexF, lexF]
  split
  ·rfl
  ·split
   ·rfl
   ·cases ht : tokL U Rp (skp l).1 with
    | bad e => rfl
    | ok k t r =>
     have h1 := tok_lt U Rp ht
     have h2 := skp_le l
     simp only
     rw [lexF_fuel n m r (by omega) (by omega)]
theorem lex_skp {a b : Bs} (h : skp a = skp b) : lex U Rp a = lex U Rp b := by
 unfold lex
 rw [lexF_fuel U Rp (a.length + 1) (a.length + b.length + 1) a (by omega) (by omega), lexF_fuel U Rp (b.length + 1) (a.length + b.length + 1) b (by omega) (by omega)]
 rw [lexF, lexF, h]
theorem lex_open {l r : Bs} (h : skp l = (r, false)) : lex U Rp l = ([], some (r.length, 4)) := by
 unfold lex
 rw [lexF, h]
 rfl
theorem lex_end {l : Bs} (h : skp l = ([], true)) : lex U Rp l = ([], none) := by
 unfold lex
 rw [lexF, h]
 rfl
theorem lex_bad {l r : Bs} {e : Int} (h : skp l = (r, true)) (hr : r ≠ []) (ht : tokL U Rp r = .bad e) : lex U Rp l = ([], some (r.length, e)) := by
 unfold lex
 rw [lexF, h]
 simp only [hr, ht, if_false, Bool.true_eq_false]
theorem lex_tok {l r t r2 : Bs} {k : Int} (h : skp l = (r, true)) (ht : tokL U Rp r = .ok k t r2) : lex U Rp l = (⟨k, t, r.length⟩ :: (lex U Rp r2).1, (lex U Rp r2).2) := by
 have hr : r ≠ [] := fun e => by rw [e] at ht; cases ht
 have h1 := tok_lt U Rp ht
 have h2 := skp_le l
 rw [h] at h2
 simp only at h2
 unfold lex
 rw [lexF_fuel U Rp (r2.length + 1) l.length r2 (by omega) (by omega)]
 rw [lexF]
 rw [h]
 simp only [hr, ht, if_false, Bool.true_eq_false]
theorem skp_suf (l : Bs) : ∃ u, l = u ++ (skp l).1 := by
 refine skp_ind (motive := fun l => ∃ u, l = u ++ (skp l).1) ?_ ?_ ?_ ?_ ?_ ?_ l.length l (Nat.le_refl _)
 ·exact ⟨[], rfl⟩
 ·intro c r hw ⟨u, ih⟩
  rw [skp_ws hw]
  exact ⟨c :: u, by rw [List.cons_append, <- ih]⟩
 ·intro c r hw hk ⟨u, ih⟩
  rw [skp_ln hw hk]
  obtain ⟨d, l2, rfl⟩ := cmk_form hk (by decide)
  have ih' : dropLn l2 = u ++ (skp (dropLn l2)).1 := ih
  obtain ⟨v, hv⟩ : ∃ v, l2 = v ++ dropLn l2 := by
   cases hd : dropLn l2 with
   | nil => exact ⟨l2, by simp⟩
   | cons x y =>
    obtain ⟨v, h3, _⟩ := dropLn_app l2 (by rw [hd]; exact List.cons_ne_nil _ _)
    exact ⟨v, by rw [<-hd]; exact h3⟩
  refine ⟨c :: d :: (v ++ u),?_⟩
  show c :: d :: l2 = c :: d :: ((v ++ u) ++ (skp (dropLn l2)).1)
  rw [List.append_assoc, <- ih', <- hv]
 ·intro c r r' hw hk hd ⟨u, ih⟩
  rw [skp_cm hw hk hd]
  obtain ⟨d, l2, rfl⟩ := cmk_form hk (by decide)
  obtain ⟨v, h3, _⟩ := dropCm_app hd
  have h3' : l2 = v ++ r' := h3
  refine ⟨c :: d :: (v ++ u),?_⟩
  show c :: d :: l2 = c :: d :: ((v ++ u) ++ (skp r').1)
  rw [List.append_assoc, <- ih, <- h3']
 ·intro c r hw hk hd
  rw [skp_open hw hk hd]
  exact ⟨[], rfl⟩
 ·intro c r hw hk
  rw [skp_stop hw hk]
  exact ⟨[], rfl⟩
end
end Go.Proofs.YtjefbgfohijaoaaGreatDoor

/- Own work: the lexer, plain: literals of any text; tokens joined by blanks. -/
namespace Go.Proofs.YtjefbgfohijaoaaGreatDoor
set_option linter.unusedSimpArgs false
set_option linter.unusedSectionVars false
def hexd (n : Nat) : UInt8 := if n < 10 then UInt8.ofNat (48 + n) else UInt8.ofNat (87 + n)
def qB (c : UInt8) : Bs := if c = 34 \/ c = 92 then [92, c] else if c = 10 then [92, 110] else if c = 9 then [92, 116] else if c = 13 then [92, 114] else if c = 8 then [92, 98] else if c.toNat < 32 \/ c = 127 then [92, 120, hexd (c.toNat / 16), hexd (c.toNat % 16)] else [c]
def quo (x : Bs) : Bs := 34 :: (x.flatMap qB ++ [34])
theorem hexd_all : ((List.range 256).all fun n => decide (hexv (hexd (n / 16)) = some (n / 16)) && decide (hexv (hexd (n % 16)) = some (n % 16))) = true := by decide +kernel
section
variable (U : Nat -> Bs) (Rp : Bs -> Bs)
theorem lit_quo (hU : ∀ n, n < 128 -> U n = [UInt8.ofNat n]) (r : Bs) : ∀ x : Bs, lit U 34 (x.flatMap qB ++ 34 :: r) = some (x, r)
 | [] => lit_end U 34 r
 | c :: x => by
  have ih := lit_quo hU r x
  rw [List.flatMap_cons, List.append_assoc]
  generalize hz : x.flatMap qB ++ 34 :: r = z at ih ⊢
  have esc : ∀ (d : UInt8) (y : Bs), escL U (d :: y) = some ([c], z) -> lit U 34 (92 :: d :: y) = some (c :: x, r) := fun d y h => by
   rw [lit_esc U (by decide) (by decide) rfl h, ih]
   rfl
  unfold qB
  split
  ·rename_i h
   refine esc c z ?_
   rw [escL]
   rcases h with rfl | rfl <;> rfl
  ·rename_i h1
   split
   ·rename_i h; subst h; exact esc 110 z rfl
   ·rename_i h2
    split
    ·rename_i h; subst h; exact esc 116 z rfl
    ·split
     ·rename_i h; subst h; exact esc 114 z rfl
     ·rename_i h4
      split
      ·rename_i h; subst h; exact esc 98 z rfl
      ·split
       ·rename_i h
        refine esc 120 _ ?_
        have hc := List.all_eq_true.1 hexd_all c.toNat (List.mem_range.2 c.toNat_lt)
        simp only [Bool.and_eq_true, decide_eq_true_eq] at hc
        show hxL U (hexd (c.toNat / 16) :: hexd (c.toNat % 16) :: z) = _
        rw [hxL]
        rw [hc.1, hc.2]
        simp only
        have e : 16 * (c.toNat / 16) + c.toNat % 16 = c.toNat := Nat.div_add_mod _ _
        have hl : c.toNat < 128 := by
         rcases h with h | h
         ·omega
         ·subst h; decide
        rw [e, hU _ hl, UInt8.ofNat_toNat]
       ·show lit U 34 (c :: z) = _
        rw [lit_chr U z (fun e => h1 (.inl e)) (by rintro (e | e); exact h2 e; exact h4 e) (fun e => h1 (.inr e)), ih]
        rfl
theorem tok_quo (hU : ∀ n, n < 128 -> U n = [UInt8.ofNat n]) (x r : Bs) : skp (quo x ++ r) = (quo x ++ r, true) /\ tokL U Rp (quo x ++ r) = .ok 4 (Rp x) r := by
 refine ⟨?_,?_⟩
 ·refine skp_self (c := 34) (by decide) ?_
  unfold cmk
  rw [if_neg (by simp), if_neg (by simp)]
 ·show tokL U Rp (34 :: ((x.flatMap qB ++ [34]) ++ r)) = _
  rw [tokL]
  rw [if_neg (by decide), if_neg (by decide), if_pos (.inl rfl)]
  have : (x.flatMap qB ++ [34]) ++ r = x.flatMap qB ++ 34 :: r := by simp
  rw [this, lit_quo U hU r x]
theorem lex_quo (hU : ∀ n, n < 128 -> U n = [UInt8.ofNat n]) (x : Bs) : lex U Rp (quo x) = ([⟨4, Rp x, (quo x).length⟩], none) := by
 have h := tok_quo U Rp hU x []
 rw [List.append_nil] at h
 rw [lex_tok U Rp h.1 h.2, lex_end U Rp skp_nil]
structure One (w : Bs) (k : Int) (t : Bs) : Prop where
 s : skp w = (w, true)
 t : tokL U Rp w = .ok k t []
theorem One.cat {w t : Bs} {k : Int} (h : One U Rp w k t) (z : Bs) : lex U Rp (w ++ 32 :: z) = (⟨k, t, w.length + 1 + z.length⟩ :: (lex U Rp z).1, (lex U Rp z).2) := by
 obtain ⟨u, h1, h2, h3⟩ := tokL_app U Rp h.t
 rw [List.append_nil] at h2
 subst h2
 have h4 := h3 (32 :: z) (.inr (.inl rfl))
 have hat := skp_at w w true h.s
 rcases hat.2 rfl with e | ⟨c, r', e, hw, hk⟩
 ·exact absurd e h1
 ·subst e
  have hck : cmk (c :: (r' ++ 32 :: z)) = 0 := by
   cases r' with
   | cons p q => exact hk
   | nil =>
    show cmk (c :: 32 :: z) = 0
    unfold cmk
    rw [if_neg (by simp), if_neg (by simp)]
  have hsk : skp ((c :: r') ++ 32 :: z) = ((c :: r') ++ 32 :: z, true) := skp_self hw hck
  rw [lex_tok U Rp hsk h4]
  have h5 : lex U Rp (32 :: z) = lex U Rp z := lex_skp U Rp (skp_ws (by decide))
  rw [h5]
  have h6 : ((c :: r') ++ 32 :: z).length = (c :: r').length + 1 + z.length := by
   rw [List.length_append, List.length_cons (a := 32)]; omega
  rw [h6]
theorem One.lex {w t : Bs} {k : Int} (h : One U Rp w k t) : lex U Rp w = ([⟨k, t, w.length⟩], none) := by
 rw [lex_tok U Rp h.s h.t, lex_end U Rp skp_nil]
theorem tok_same {l t r : Bs} {k : Int} (h : tokL U Rp l = .ok k t r) (hk : k ≠ 4) : l = t ++ r := by
 cases l with
 | nil => cases h
 | cons c l =>
  rw [tokL] at h
  split at h
  ·cases h
   exact (tw_all (p := wrd) (c :: l)).2.2.symm
  ·split at h
   ·unfold numL at h
    split at h
    ·cases h
    ·split at h
     ·cases h
     ·split at h
      ·cases h
      ·cases h
       exact (tw_all (p := dgt) (c :: l)).2.2.symm
   ·split at h
    ·cases hl : lit U c l with
     | none => rw [hl] at h; cases h
     | some z => rw [hl] at h; cases h; exact absurd rfl hk
    ·cases ho : opL (c :: l) with
     | none => rw [ho] at h; cases h
     | some w =>
      rw [ho] at h
      cases h
      exact (opL_some ho).2.1
def joinB : List Bs -> Bs
 | [] => []
 | [x] => x
 | x :: y :: l => x ++ 32 :: joinB (y :: l)
end
end Go.Proofs.YtjefbgfohijaoaaGreatDoor

/- Own work, plain: a text that is cut at a byte. -/
namespace Go.Proofs.YtjefbgfohijaoaaGreatDoor
open Go.Lib
set_option linter.unusedSimpArgs false
theorem index_one {c : UInt8} : ∀ (w r : Bs), c ∉ w -> index (w ++ c :: r) [c] = ((w.length : Nat) : Int)
 | [], r, _ => by
  show index (c :: r) [c] = 0
  rw [index]; simp [List.isPrefixOf]
 | b :: w, r, h => by
  have h1 : b ≠ c := fun e => h (by rw [e]; exact List.mem_cons_self ..)
  have ih := index_one w r (fun e => h (List.mem_cons_of_mem _ e))
  show index (b :: (w ++ c :: r)) [c] = _
  rw [index, ih]
  have hp : ([c] : List UInt8).isPrefixOf (b :: (w ++ c :: r)) = false := by simp [List.isPrefixOf, Ne.symm h1]
  rw [hp]
  have : ¬ (((w.length : Nat) : Int) == -1) = true := fun e => by have := beq_iff_eq.1 e; omega
  rw [if_neg (by simp), if_neg this, List.length_cons]
  omega
theorem index_no {c : UInt8} : ∀ (w : Bs), c ∉ w -> index w [c] = -1
 | [], _ => by rw [index]; simp
 | b :: w, h => by
  have h1 : b ≠ c := fun e => h (by rw [e]; exact List.mem_cons_self ..)
  have ih := index_no w (fun e => h (List.mem_cons_of_mem _ e))
  rw [index, ih]
  have hp : ([c] : List UInt8).isPrefixOf (b :: w) = false := by simp [List.isPrefixOf, Ne.symm h1]
  rw [hp]
  simp
theorem splitK_cons {c : UInt8} (k : Nat) (w r : Bs) (h : c ∉ w) : splitK [c] 0 (k + 1) (w ++ c :: r) = w :: splitK [c] 0 k r := by
 rw [splitK, index_one w r h]
 have h2 : ¬ (((w.length : Nat) : Int) == -1) = true := fun e => by have := beq_iff_eq.1 e; omega
 rw [if_neg h2]
 have h3 : ((w.length : Nat) : Int).toNat = w.length := by omega
 rw [h3]
 have h4 : (w ++ c :: r).take (w.length + 0) = w := by rw [Nat.add_zero, List.take_left']; rfl
 have h5 : (w ++ c :: r).drop (w.length + [c].length) = r := by
  rw [<-List.drop_drop, List.drop_left']
  ·rfl
  ·rfl
 rw [h4, h5]
theorem splitK_one {c : UInt8} (k : Nat) (w : Bs) (h : c ∉ w) : splitK [c] 0 k w = [w] := by
 cases k with
 | zero => rfl
 | succ k => rw [splitK, index_no w h]; rfl
theorem split_cons {c : UInt8} (w r : Bs) (h : c ∉ w) : split (w ++ c :: r) [c] = w :: split r [c] := by
 unfold split
 rw [count_one, count_one]
 have : (w ++ c :: r).count c = r.count c + 1 := by
  rw [List.count_append, List.count_eq_zero_of_not_mem h, List.count_cons_self]; omega
 rw [this, splitK_cons _ w r h]
theorem split_one {c : UInt8} (w : Bs) (h : c ∉ w) : split w [c] = [w] := splitK_one _ w h
def joinC (c : UInt8) : List Bs -> Bs
 | [] => []
 | [x] => x
 | x :: y :: l => x ++ c :: joinC c (y :: l)
theorem joinC_32 : ∀ l : List Bs, joinC 32 l = joinB l
 | [] => rfl
 | [_] => rfl
 | x :: y :: l => by rw [joinC, joinB, joinC_32 (y :: l)]
theorem split_joinC {c : UInt8} : ∀ ws : List Bs, ws ≠ [] -> (∀ w ∈ ws, c ∉ w) -> split (joinC c ws) [c] = ws
 | [], h, _ => absurd rfl h
 | [x], _, h => split_one x (h x (List.mem_cons_self ..))
 | x :: y :: l, _, h => by
  rw [joinC, split_cons x _ (h x (List.mem_cons_self ..)), split_joinC (y :: l) (List.cons_ne_nil _ _) (fun w hw => h w (List.mem_cons_of_mem _ hw))]
theorem flat_joinC (c : UInt8) : ∀ L : List Bs, L ≠ [] -> L.flatMap (fun x => x ++ [c]) = joinC c L ++ [c]
 | [], h => absurd rfl h
 | [x], _ => by simp [joinC]
 | x :: y :: l, _ => by
  rw [List.flatMap_cons, flat_joinC c (y :: l) (List.cons_ne_nil _ _), joinC]
  simp
theorem suf_app (a b : Bs) : b.isSuffixOf (a ++ b) = true := by rw [List.isSuffixOf_iff_suffix]; exact List.suffix_append a b
theorem pre_app (a b : Bs) : a.isPrefixOf (a ++ b) = true := by rw [List.isPrefixOf_iff_prefix]; exact List.prefix_append a b
theorem trimS_app (a b : Bs) : trimSuffix (a ++ b) b = a := by
 unfold trimSuffix hasSuffix
 rw [if_pos (suf_app a b), List.length_append, Nat.add_sub_cancel, List.take_left']
 rfl
theorem trimP_app (a b : Bs) : trimPrefix (a ++ b) a = b := by
 unfold trimPrefix hasPrefix
 rw [if_pos (pre_app a b), List.drop_left']
 rfl
theorem lines_of (L : List Bs) (h : L ≠ []) (h10 : ∀ w ∈ L, 10 ∉ w) : split (trimSuffix (L.flatMap (fun x => x ++ [10])) [10]) [10] = L := by
 rw [flat_joinC 10 L h, trimS_app, split_joinC L h h10]
theorem qB_no10 (c : UInt8) : (10 : UInt8) ∉ qB c := by
 unfold qB
 split
 ·rename_i h
  intro hm
  simp only [List.mem_cons, List.not_mem_nil, or_false] at hm
  rcases hm with hm | hm
  ·exact absurd hm (by decide)
  ·subst hm; rcases h with h | h <;> exact absurd h (by decide)
 split
 ·decide
 split
 ·decide
 split
 ·decide
 split
 ·decide
 split
 ·have hx : ∀ n, n < 16 -> hexd n ≠ 10 := fun n hn => by
   have : ((List.range 16).all fun n => decide (hexd n ≠ 10)) = true := by decide +kernel
   have := List.all_eq_true.1 this n (List.mem_range.2 hn)
   exact of_decide_eq_true this
  intro hm
  simp only [List.mem_cons, List.not_mem_nil, or_false] at hm
  have hc := c.toNat_lt
  rcases hm with hm | hm | hm | hm
  ·exact absurd hm (by decide)
  ·exact absurd hm (by decide)
  ·exact hx _ (by omega) hm.symm
  ·exact hx _ (by omega) hm.symm
 ·rename_i h1 h2 _ _ _ _
  intro hm
  simp only [List.mem_cons, List.not_mem_nil, or_false] at hm
  exact h2 hm.symm
theorem quo_no10 (x : Bs) : (10 : UInt8) ∉ quo x := by
 unfold quo
 intro hm
 simp only [List.mem_cons, List.mem_append, List.mem_flatMap, List.not_mem_nil, or_false] at hm
 rcases hm with hm | ⟨c, _, hm⟩ | hm
 ·exact absurd hm (by decide)
 ·exact qB_no10 c hm
 ·exact absurd hm (by decide)
end Go.Proofs.YtjefbgfohijaoaaGreatDoor
