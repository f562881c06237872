/- Own work: the lexer, plain: white space, tokens, and what of a text a token looks at. -/
namespace Go.Proofs.YtnhbboknffppiaaDoor
set_option linter.unusedSimpArgs false

abbrev Bs := List UInt8
def ltr (c : UInt8) : Bool := decide (97 ≤ c ∧ c ≤ 122) || (decide (65 ≤ c ∧ c ≤ 90) || (c == 95 || c == 36))
def dgt (c : UInt8) : Bool := decide (48 ≤ c ∧ c ≤ 57)
def wrd (c : UInt8) : Bool := ltr c || dgt c
def wsp (c : UInt8) : Bool := c == 32 || (c == 9 || (c == 10 || c == 13))

/-- behind the mark of a line comment -/
def dropLn : Bs → Bs
  | [] => []
  | c :: r => if c = 10 then c :: r else dropLn r
/-- behind the mark of a comment: what follows its end -/
def dropCm : Bs → Option Bs
  | [] => none
  | c :: r => if c = 42 ∧ r.head? = some 47 then some r.tail else dropCm r
theorem dropLn_le : ∀ l : Bs, (dropLn l).length ≤ l.length
  | [] => Nat.le_refl _
  | c :: r => by
    unfold dropLn
    split
    · exact Nat.le_refl _
    · have := dropLn_le r
      simp only [List.length_cons]
      omega
theorem dropCm_le : ∀ {l r : Bs}, dropCm l = some r → r.length ≤ l.length
  | [], r, h => by cases h
  | c :: l, r, h => by
    unfold dropCm at h
    split at h
    · cases h
      simp only [List.length_tail, List.length_cons]
      omega
    · have := dropCm_le h
      simp only [List.length_cons]
      omega
/-- the two bytes that begin a comment: 1 for a line, 2 for the other -/
def cmk (l : Bs) : Nat := if l.take 2 = [47, 47] then 1 else if l.take 2 = [47, 42] then 2 else 0
/-- what follows white space and comments; false: a comment that does not end begins there -/
def skipL : Nat → Bs → Bs × Bool
  | 0, l => (l, true)
  | _ + 1, [] => ([], true)
  | n + 1, c :: r => if wsp c then skipL n r else if cmk (c :: r) = 1 then skipL n (dropLn (r.drop 1)) else if cmk (c :: r) = 2 then (match dropCm (r.drop 1) with
    | none => (c :: r, false)
    | some r' => skipL n r') else (c :: r, true)
theorem skipL_fuel : ∀ (n m : Nat) (l : Bs), l.length ≤ n → l.length ≤ m → skipL n l = skipL m l
  | 0, m, l, h, _ => by
    have : l = [] := List.eq_nil_of_length_eq_zero (by omega)
    subst this
    cases m <;> rfl
  | n + 1, 0, l, _, h => by
    have : l = [] := List.eq_nil_of_length_eq_zero (by omega)
    subst this
    rfl
  | n + 1, m + 1, [], _, _ => rfl
  | n + 1, m + 1, c :: r, h, h' => by
    simp only [List.length_cons] at h h'
    unfold skipL
    split
    · exact skipL_fuel n m r (by omega) (by omega)
    · split
      · have h1 := dropLn_le (r.drop 1)
        have h2 : (r.drop 1).length ≤ r.length := by simp
        exact skipL_fuel n m _ (by omega) (by omega)
      · split
        · split
          · rfl
          · rename_i r' hr
            have h1 := dropCm_le hr
            have h2 : (r.drop 1).length ≤ r.length := by simp
            exact skipL_fuel n m _ (by omega) (by omega)
        · rfl
def skp (l : Bs) : Bs × Bool := skipL l.length l
theorem skp_nil : skp [] = ([], true) := rfl
theorem skp_ws {c : UInt8} {r : Bs} (h : wsp c = true) : skp (c :: r) = skp r := by
  show skipL (r.length + 1) (c :: r) = skipL r.length r
  rw [skipL, if_pos h]
theorem skp_ln {c : UInt8} {r : Bs} (h : wsp c = false) (h1 : cmk (c :: r) = 1) : skp (c :: r) = skp (dropLn (r.drop 1)) := by
  show skipL (r.length + 1) (c :: r) = _
  rw [skipL, if_neg (by rw [h]; decide), if_pos h1]
  have h3 := dropLn_le (r.drop 1)
  have h2 : (r.drop 1).length ≤ r.length := by simp
  exact skipL_fuel _ _ _ (by omega) (Nat.le_refl _)
theorem skp_cm {c : UInt8} {r r' : Bs} (h : wsp c = false) (h1 : cmk (c :: r) = 2) (h2 : dropCm (r.drop 1) = some r') : skp (c :: r) = skp r' := by
  show skipL (r.length + 1) (c :: r) = _
  rw [skipL, if_neg (by rw [h]; decide), if_neg (by rw [h1]; decide), if_pos h1, h2]
  have h3 := dropCm_le h2
  have h4 : (r.drop 1).length ≤ r.length := by simp
  exact skipL_fuel _ _ _ (by omega) (Nat.le_refl _)
theorem skp_open {c : UInt8} {r : Bs} (h : wsp c = false) (h1 : cmk (c :: r) = 2) (h2 : dropCm (r.drop 1) = none) : skp (c :: r) = (c :: r, false) := by
  show skipL (r.length + 1) (c :: r) = _
  rw [skipL, if_neg (by rw [h]; decide), if_neg (by rw [h1]; decide), if_pos h1, h2]
theorem skp_stop {c : UInt8} {r : Bs} (h : wsp c = false) (h1 : cmk (c :: r) = 0) : skp (c :: r) = (c :: r, true) := by
  show skipL (r.length + 1) (c :: r) = _
  rw [skipL, if_neg (by rw [h]; decide), if_neg (by rw [h1]; decide), if_neg (by rw [h1]; decide)]
theorem cmk_cases (l : Bs) : cmk l = 0 ∨ cmk l = 1 ∨ cmk l = 2 := by
  unfold cmk
  split
  · exact .inr (.inl rfl)
  · split
    · exact .inr (.inr rfl)
    · exact .inl rfl
/-- a way to prove something of all texts -/
theorem skp_ind {motive : Bs → Prop} (nil : motive []) (ws : ∀ c r, wsp c = true → motive r → motive (c :: r))
    (ln : ∀ c r, wsp c = false → cmk (c :: r) = 1 → motive (dropLn (r.drop 1)) → motive (c :: r))
    (cm : ∀ c r r', wsp c = false → cmk (c :: r) = 2 → dropCm (r.drop 1) = some r' → motive r' → motive (c :: r))
    (opn : ∀ c r, wsp c = false → cmk (c :: r) = 2 → dropCm (r.drop 1) = none → motive (c :: r))
    (stop : ∀ c r, wsp c = false → cmk (c :: r) = 0 → motive (c :: r)) : ∀ (n : Nat) (l : Bs), l.length ≤ n → motive l
  | 0, l, h => by
    have : l = [] := List.eq_nil_of_length_eq_zero (by omega)
    subst this
    exact nil
  | n + 1, [], _ => nil
  | n + 1, c :: r, h => by
    simp only [List.length_cons] at h
    have h4 : (r.drop 1).length ≤ r.length := by simp
    have rec_ := skp_ind nil ws ln cm opn stop n
    cases hw : wsp c with
    | true => exact ws c r hw (rec_ r (by omega))
    | false =>
      rcases cmk_cases (c :: r) with hk | hk | hk
      · exact stop c r hw hk
      · have := dropLn_le (r.drop 1)
        exact ln c r hw hk (rec_ _ (by omega))
      · cases hd : dropCm (r.drop 1) with
        | none => exact opn c r hw hk hd
        | some r' =>
          have := dropCm_le hd
          exact cm c r r' hw hk hd (rec_ _ (by omega))
/-- what is dropped of a line, and of a comment -/
theorem dropLn_app : ∀ (l : Bs), dropLn l ≠ [] → ∃ u, l = u ++ dropLn l ∧ ∀ r', dropLn (u ++ 10 :: r') = 10 :: r'
  | [], h => absurd rfl h
  | c :: r, h => by
    by_cases hc : c = 10
    · refine ⟨[], ?_, fun r' => ?_⟩
      · unfold dropLn; rw [if_pos hc]; rfl
      · show dropLn (10 :: r') = _
        unfold dropLn; rw [if_pos rfl]
    · unfold dropLn at h ⊢
      rw [if_neg hc] at h ⊢
      obtain ⟨u, h1, h2⟩ := dropLn_app r h
      refine ⟨c :: u, by rw [List.cons_append, ← h1], fun r' => ?_⟩
      show dropLn (c :: (u ++ 10 :: r')) = _
      rw [dropLn, if_neg hc]
      exact h2 r'
theorem dropLn_head : ∀ (l : Bs) (c : UInt8) (r : Bs), dropLn l = c :: r → c = 10
  | [], c, r, h => by cases h
  | x :: l, c, r, h => by
    unfold dropLn at h
    split at h
    · rename_i e
      cases h; exact e
    · exact dropLn_head l c r h
theorem dropLn_open : ∀ (l : Bs), dropLn l = [] → ∀ r', dropLn (l ++ 10 :: r') = 10 :: r'
  | [], _, r' => by
    show dropLn (10 :: r') = _
    rw [dropLn, if_pos rfl]
  | c :: l, h, r' => by
    unfold dropLn at h
    split at h
    · cases h
    · rename_i hc
      show dropLn (c :: (l ++ 10 :: r')) = _
      rw [dropLn, if_neg hc]
      exact dropLn_open l h r'
theorem dropCm_app : ∀ {l r : Bs}, dropCm l = some r → ∃ u, l = u ++ r ∧ ∀ r', dropCm (u ++ r') = some r'
  | [], r, h => by cases h
  | c :: l, r, h => by
    unfold dropCm at h
    split at h
    · rename_i hc
      cases h
      cases l with
      | nil => simp at hc
      | cons d l =>
        simp only [List.head?_cons, Option.some.injEq] at hc
        obtain ⟨rfl, rfl⟩ := hc
        exact ⟨[42, 47], rfl, fun r' => by
          show dropCm (42 :: 47 :: r') = _
          rw [dropCm, if_pos ⟨rfl, rfl⟩]
          rfl⟩
    · rename_i hc
      obtain ⟨u, h1, h2⟩ := dropCm_app h
      cases u with
      | nil =>
        have h3 := h2 []
        cases h3
      | cons d u =>
        refine ⟨c :: d :: u, by rw [h1]; rfl, fun r' => ?_⟩
        show dropCm (c :: (d :: u ++ r')) = _
        rw [dropCm, if_neg (by
          rw [h1] at hc
          exact hc)]
        exact h2 r'
theorem cmk_two {c d : UInt8} {r r' : Bs} : cmk (c :: d :: r) = cmk (c :: d :: r') := rfl
theorem cmk_form {c : UInt8} {r : Bs} {k : Nat} (h : cmk (c :: r) = k) (hk : k ≠ 0) : ∃ d r', r = d :: r' := by
  cases r with
  | nil =>
    unfold cmk at h
    rw [if_neg (by simp), if_neg (by simp)] at h
    exact absurd h.symm hk
  | cons d r' => exact ⟨d, r', rfl⟩
theorem skp_le : ∀ l : Bs, (skp l).1.length ≤ l.length := by
  intro l
  refine skp_ind (motive := fun l => (skp l).1.length ≤ l.length) ?_ ?_ ?_ ?_ ?_ ?_ l.length l (Nat.le_refl _)
  · rw [skp_nil]; exact Nat.le_refl _
  · intro c r hw ih
    rw [skp_ws hw, List.length_cons]; omega
  · intro c r hw hk ih
    rw [skp_ln hw hk, List.length_cons]
    have := dropLn_le (r.drop 1)
    have h2 : (r.drop 1).length ≤ r.length := by simp
    omega
  · intro c r r' hw hk hd ih
    rw [skp_cm hw hk hd, List.length_cons]
    have := dropCm_le hd
    have h2 : (r.drop 1).length ≤ r.length := by simp
    omega
  · intro c r hw hk hd
    rw [skp_open hw hk hd]; exact Nat.le_refl _
  · intro c r hw hk
    rw [skp_stop hw hk]; exact Nat.le_refl _
/-- what lies before a token does not look at it -/
theorem skp_app : ∀ (l : Bs), ∀ r, skp l = (r, true) → r ≠ [] → ∃ u, l = u ++ r ∧ ∀ r', skp (u ++ r') = skp r' := by
  intro l
  refine skp_ind (motive := fun l => ∀ r, skp l = (r, true) → r ≠ [] → ∃ u, l = u ++ r ∧ ∀ r', skp (u ++ r') = skp r') ?_ ?_ ?_ ?_ ?_ ?_ l.length l (Nat.le_refl _)
  · intro r h hn
    rw [skp_nil] at h
    cases h
    exact absurd rfl hn
  · intro c l hw ih r h hn
    rw [skp_ws hw] at h
    obtain ⟨u, h1, h2⟩ := ih r h hn
    exact ⟨c :: u, by rw [h1]; rfl, fun r' => by rw [List.cons_append, skp_ws hw]; exact h2 r'⟩
  · intro c l hw hk ih r h hn
    rw [skp_ln hw hk] at h
    obtain ⟨d, l2, rfl⟩ := cmk_form hk (by decide)
    obtain ⟨u, h1, h2⟩ := ih r h hn
    have hne : dropLn l2 ≠ [] := fun e => by
      have e2 : dropLn ((d :: l2).drop 1) = [] := e
      rw [e2] at h
      rw [skp_nil] at h
      cases h
      exact hn rfl
    obtain ⟨v, h3, h4⟩ := dropLn_app l2 hne
    have h1' : dropLn l2 = u ++ r := h1
    cases u with
    | nil =>
      -- the line feed would be the token
      exfalso
      have h5 : dropLn l2 = r := h1'
      cases hd : dropLn l2 with
      | nil => exact hne hd
      | cons x y =>
        have hx := dropLn_head l2 x y hd
        subst hx
        have h6 : skp (10 :: y) = (r, true) := by rw [← hd]; exact h
        rw [← h5, hd] at h6
        rw [skp_ws (by decide)] at h6
        have h7 := skp_le y
        rw [h6] at h7
        simp only [List.length_cons] at h7
        omega
    | cons x u =>
      have hx : x = 10 := by
        refine dropLn_head l2 x (u ++ r) ?_
        rw [h1']; rfl
      subst hx
      refine ⟨c :: d :: (v ++ 10 :: u), ?_, fun r' => ?_⟩
      · show c :: d :: l2 = c :: d :: ((v ++ 10 :: u) ++ r)
        rw [h1'] at h3
        rw [h3]
        simp
      · have h5 := h2 r'
        show skp (c :: d :: ((v ++ 10 :: u) ++ r')) = _
        rw [skp_ln hw (by rw [cmk_two (r' := l2)]; exact hk)]
        show skp (dropLn ((v ++ 10 :: u) ++ r')) = _
        rw [List.append_assoc, List.cons_append, h4]
        exact h5
  · intro c l l' hw hk hd ih r h hn
    rw [skp_cm hw hk hd] at h
    obtain ⟨d, l2, rfl⟩ := cmk_form hk (by decide)
    obtain ⟨u, h1, h2⟩ := ih r h hn
    obtain ⟨v, h3, h4⟩ := dropCm_app hd
    have h3' : l2 = v ++ l' := h3
    refine ⟨c :: d :: (v ++ u), ?_, fun r' => ?_⟩
    · rw [h3', h1]; simp
    · show skp (c :: d :: ((v ++ u) ++ r')) = _
      rw [skp_cm hw (by rw [cmk_two (r' := l2)]; exact hk) (r' := u ++ r') (by
        show dropCm ((v ++ u) ++ r') = _
        rw [List.append_assoc]; exact h4 _)]
      exact h2 r'
  · intro c l hw hk hd r h hn
    rw [skp_open hw hk hd] at h
    cases h
  · intro c l hw hk r h hn
    rw [skp_stop hw hk] at h
    cases h
    exact ⟨[], rfl, fun r' => rfl⟩
/-- a text without tokens, and a line feed -/
theorem skp_nl : ∀ (l : Bs), skp l = ([], true) → ∀ r', skp (l ++ 10 :: r') = skp r' := by
  intro l
  refine skp_ind (motive := fun l => skp l = ([], true) → ∀ r', skp (l ++ 10 :: r') = skp r') ?_ ?_ ?_ ?_ ?_ ?_ l.length l (Nat.le_refl _)
  · intro _ r'
    exact skp_ws (by decide)
  · intro c l hw ih h r'
    rw [skp_ws hw] at h
    rw [List.cons_append, skp_ws hw]
    exact ih h r'
  · intro c l hw hk ih h r'
    rw [skp_ln hw hk] at h
    obtain ⟨d, l2, rfl⟩ := cmk_form hk (by decide)
    rw [List.cons_append, List.cons_append, skp_ln hw (by rw [cmk_two (r' := l2)]; exact hk)]
    show skp (dropLn (l2 ++ 10 :: r')) = _
    have h' : skp (dropLn l2) = ([], true) := h
    have ih' : ∀ r', skp (dropLn l2 ++ 10 :: r') = skp r' := ih h
    cases hd : dropLn l2 with
    | nil => rw [dropLn_open l2 hd, skp_ws (by decide)]
    | cons x y =>
      obtain ⟨v, h3, h4⟩ := dropLn_app l2 (by rw [hd]; exact List.cons_ne_nil _ _)
      have hx := dropLn_head l2 x y hd
      subst hx
      rw [hd] at h3
      have h5 := ih' r'
      rw [hd] at h5
      rw [h3, List.append_assoc, List.cons_append, h4]
      exact h5
  · intro c l l' hw hk hd ih h r'
    rw [skp_cm hw hk hd] at h
    obtain ⟨d, l2, rfl⟩ := cmk_form hk (by decide)
    obtain ⟨v, h3, h4⟩ := dropCm_app hd
    have h3' : l2 = v ++ l' := h3
    rw [List.cons_append, List.cons_append, skp_cm hw (by rw [cmk_two (r' := l2)]; exact hk) (r' := l' ++ 10 :: r') (by
      show dropCm (l2 ++ 10 :: r') = _
      rw [h3', List.append_assoc]; exact h4 _)]
    exact ih h r'
  · intro c l hw hk hd h
    rw [skp_open hw hk hd] at h
    cases h
  · intro c l hw hk h
    rw [skp_stop hw hk] at h
    cases h
/-- where skipping stops: at the end, at a comment that is open, or at a byte that begins neither -/
theorem skp_at : ∀ (l : Bs) (r : Bs) (b : Bool), skp l = (r, b) → (b = false → r.take 2 = [47, 42]) ∧ (b = true → r = [] ∨ ∃ c r', r = c :: r' ∧ wsp c = false ∧ cmk (c :: r') = 0) := by
  intro l
  refine skp_ind (motive := fun l => ∀ (r : Bs) (b : Bool), skp l = (r, b) → (b = false → r.take 2 = [47, 42]) ∧ (b = true → r = [] ∨ ∃ c r', r = c :: r' ∧ wsp c = false ∧ cmk (c :: r') = 0)) ?_ ?_ ?_ ?_ ?_ ?_ l.length l (Nat.le_refl _)
  · intro r b h
    rw [skp_nil] at h
    cases h
    exact ⟨fun h => by (cases h), fun _ => .inl rfl⟩
  · intro c l hw ih r b h
    rw [skp_ws hw] at h
    exact ih r b h
  · intro c l hw hk ih r b h
    rw [skp_ln hw hk] at h
    exact ih r b h
  · intro c l l' hw hk hd ih r b h
    rw [skp_cm hw hk hd] at h
    exact ih r b h
  · intro c l hw hk hd r b h
    rw [skp_open hw hk hd] at h
    cases h
    refine ⟨fun _ => ?_, fun h => by (cases h)⟩
    unfold cmk at hk
    split at hk
    · cases hk
    · split at hk
      · rename_i h; exact h
      · cases hk
  · intro c l hw hk r b h
    rw [skp_stop hw hk] at h
    cases h
    exact ⟨fun h => by (cases h), fun _ => .inr ⟨c, l, rfl, hw, hk⟩⟩
theorem skp_self {c : UInt8} {r : Bs} (h : wsp c = false) (h1 : cmk (c :: r) = 0) : skp (c :: r) = (c :: r, true) := skp_stop h h1
end Go.Proofs.YtnhbboknffppiaaDoor

/- Own work: the lexer, plain: tokens. -/
namespace Go.Proofs.YtnhbboknffppiaaDoor
set_option linter.unusedSimpArgs false

def kwL : List Bs := [[97, 115, 121, 110, 99], [97, 119, 97, 105, 116], [98, 114, 101, 97, 107], [99, 111, 110, 115, 116], [99, 111, 110, 116, 105, 110, 117, 101], [100, 101, 108, 101, 116, 101], [101, 108, 115, 101], [102, 97, 108, 115, 101], [102, 105, 110, 97, 108, 108, 121], [102, 111, 114], [102, 117, 110, 99, 116, 105, 111, 110], [105, 102], [105, 110], [105, 110, 115, 116, 97, 110, 99, 101, 111, 102], [108, 101, 116], [110, 101, 119], [110, 117, 108, 108], [111, 102], [114, 101, 116, 117, 114, 110], [116, 104, 105, 115], [116, 104, 114, 111, 119], [116, 114, 117, 101], [116, 114, 121], [99, 97, 116, 99, 104], [116, 121, 112, 101, 111, 102], [117, 110, 100, 101, 102, 105, 110, 101, 100], [119, 104, 105, 108, 101], [121, 105, 101, 108, 100]]
def op3L : List Bs := [[61, 61, 61], [33, 61, 61]]
def op2L : List Bs := [[43, 61], [45, 61], [42, 61], [61, 61], [33, 61], [60, 61], [62, 61], [38, 38], [124, 124], [63, 63], [61, 62], [43, 43], [45, 45]]
def op1L : List Bs := [[123], [125], [40], [41], [91], [93], [59], [44], [46], [63], [58], [61], [43], [45], [42], [47], [37], [33], [60], [62]]
def isKw (w : Bs) : Bool := kwL.any (· == w)
/-- the operator at a place -/
def opL (l : Bs) : Option Bs := if op3L.any (· == l.take 3) then some (l.take 3) else if op2L.any (· == l.take 2) then some (l.take 2) else if op1L.any (· == l.take 1) then some (l.take 1) else none
def hexv (c : UInt8) : Option Nat := if 48 ≤ c ∧ c ≤ 57 then some (c.toNat - 48) else if 97 ≤ c ∧ c ≤ 102 then some (c.toNat - 87) else if 65 ≤ c ∧ c ≤ 70 then some (c.toNat - 55) else none
def isHex (c : UInt8) : Bool := (hexv c).isSome
def hexN (l : Bs) : Nat := l.foldl (fun n c => 16 * n + (hexv c).getD 0) 0
def decN (l : Bs) : Nat := l.foldl (fun n c => 10 * n + (c.toNat - 48)) 0
def ptOk (n : Nat) : Bool := decide (n ≤ 1114111) && !(decide (55296 ≤ n) && decide (n ≤ 57343))
def escT (c : UInt8) : Option UInt8 := if c = 110 then some 10 else if c = 116 then some 9 else if c = 114 then some 13 else if c = 98 then some 8 else if c = 92 ∨ c = 34 ∨ c = 39 then some c else none
section
variable (U : Nat → Bs) (Rp : Bs → Bs)
/-- behind the letter u: a code point in braces -/
def ptL : Bs → Option (Bs × Bs)
  | [] => none
  | c :: r => if c = 123 then (match r.dropWhile isHex with
    | [] => none
    | d :: r' => if d = 125 ∧ 1 ≤ (r.takeWhile isHex).length ∧ (r.takeWhile isHex).length ≤ 6 ∧ ptOk (hexN (r.takeWhile isHex)) = true then some (U (hexN (r.takeWhile isHex)), r') else none) else none
/-- behind the letter x: two digits -/
def hxL : Bs → Option (Bs × Bs)
  | a :: b :: r => (match hexv a, hexv b with
    | some x, some y => some (U (16 * x + y), r)
    | _, _ => none)
  | _ => none
/-- behind a backslash: what is denoted, and the rest -/
def escL : Bs → Option (Bs × Bs)
  | [] => none
  | c :: r => (match escT c with
    | some d => some ([d], r)
    | none => if c = 48 then (if r.head?.any dgt then none else some ([0], r)) else if c = 120 then hxL U r else if c = 117 then ptL U r else none)
/-- behind the quotation mark q: what is denoted, and the rest -/
def litF (q : UInt8) : Nat → Bs → Option (Bs × Bs)
  | 0, _ => none
  | _ + 1, [] => none
  | n + 1, c :: r => if c = q then some ([], r) else if c = 10 ∨ c = 13 then none else if c = 92 then (match escL U r with
    | none => none
    | some p => (litF q n p.2).map fun z => (p.1 ++ z.1, z.2)) else (litF q n r).map fun z => (c :: z.1, z.2)
def lit (q : UInt8) (l : Bs) : Option (Bs × Bs) := litF U q l.length l
end
/-- a token: its kind, its text and the rest; or the error -/
inductive TR where
  | bad (e : Int)
  | ok (k : Int) (t : Bs) (r : Bs)
def numL (l : Bs) : TR :=
  if (l.takeWhile dgt).head? = some 48 ∧ 1 < (l.takeWhile dgt).length then .bad 4 else if (l.dropWhile dgt).head?.any ltr then .bad 4 else if 9223372036854775807 < decN (l.takeWhile dgt) then .bad 5 else .ok 3 (l.takeWhile dgt) (l.dropWhile dgt)
def tokL (U : Nat → Bs) (Rp : Bs → Bs) : Bs → TR
  | [] => .bad 4
  | c :: r => if ltr c then .ok (if isKw ((c :: r).takeWhile wrd) then 2 else 1) ((c :: r).takeWhile wrd) ((c :: r).dropWhile wrd) else if dgt c then numL (c :: r) else if c = 34 ∨ c = 39 then (match lit U c r with
    | none => .bad 4
    | some z => .ok 4 (Rp z.1) z.2) else (match opL (c :: r) with
    | none => .bad 4
    | some w => .ok 5 w ((c :: r).drop w.length))
/-- how a rest may change without the token before it looking at it -/
def LkA (r r' : Bs) : Prop := r'.head? = r.head? ∨ r'.head? = some 32 ∨ r'.head? = some 10 ∨ r' = []
theorem tw_app {p : UInt8 → Bool} : ∀ (u r : Bs), (∀ c ∈ u, p c = true) → (∀ c, r.head? = some c → p c = false) → (u ++ r).takeWhile p = u ∧ (u ++ r).dropWhile p = r
  | [], [], _, _ => ⟨rfl, rfl⟩
  | [], c :: r, _, h => by
    have := h c rfl
    simp [this]
  | c :: u, r, h, h' => by
    have h1 := h c (List.mem_cons_self ..)
    have h2 := tw_app u r (fun x hx => h x (List.mem_cons_of_mem _ hx)) h'
    simp only [List.cons_append, List.takeWhile_cons, List.dropWhile_cons, h1, if_true]
    exact ⟨by rw [h2.1], h2.2⟩
theorem tw_all {p : UInt8 → Bool} : ∀ (l : Bs), (∀ c ∈ l.takeWhile p, p c = true) ∧ (∀ c, (l.dropWhile p).head? = some c → p c = false) ∧ l.takeWhile p ++ l.dropWhile p = l
  | [] => ⟨fun c h => (by cases h), fun c h => (by cases h), rfl⟩
  | c :: l => by
    have ih := tw_all (p := p) l
    cases hc : p c with
    | true =>
      simp only [List.takeWhile_cons, List.dropWhile_cons, hc, if_true]
      refine ⟨fun x hx => ?_, ih.2.1, by rw [List.cons_append, ih.2.2]⟩
      rcases List.mem_cons.1 hx with rfl | hx
      · exact hc
      · exact ih.1 x hx
    | false =>
      simp only [List.takeWhile_cons, List.dropWhile_cons, hc, Bool.false_eq_true, if_false]
      exact ⟨fun x hx => (by cases hx), fun x hx => by cases hx; exact hc, rfl⟩
theorem la_of {p : UInt8 → Bool} {r r' : Bs} (h : LkA r r') (h32 : p 32 = false) (h10 : p 10 = false) (hr : ∀ c, r.head? = some c → p c = false) : ∀ c, r'.head? = some c → p c = false := fun c hc => by
  rcases h with h | h | h | h
  · exact hr c (by rw [← h]; exact hc)
  · rw [h] at hc; cases hc; exact h32
  · rw [h] at hc; cases hc; exact h10
  · rw [h] at hc; cases hc
end Go.Proofs.YtnhbboknffppiaaDoor

/- Own work: the lexer, plain: a token does not look far behind itself, and a line feed ends every token. -/
namespace Go.Proofs.YtnhbboknffppiaaDoor
set_option linter.unusedSimpArgs false
set_option linter.unusedSectionVars false

section
variable (U : Nat → Bs) (Rp : Bs → Bs)
theorem hxL_app : ∀ {l : Bs} {t r : Bs}, hxL U l = some (t, r) → ∃ u, u ≠ [] ∧ l = u ++ r ∧ ∀ r', hxL U (u ++ r') = some (t, r')
  | [], _, _, h => by cases h
  | [_], _, _, h => by cases h
  | a :: b :: l, t, r, h => by
    rw [hxL] at h
    cases ha : hexv a with
    | none => rw [ha] at h; cases h
    | some x =>
      cases hb : hexv b with
      | none => rw [ha, hb] at h; cases h
      | some y =>
        rw [ha, hb] at h
        cases h
        exact ⟨[a, b], List.cons_ne_nil _ _, rfl, fun r' => by
          show hxL U (a :: b :: r') = _
          rw [hxL]
          rw [ha, hb]⟩
theorem ptL_app : ∀ {l : Bs} {t r : Bs}, ptL U l = some (t, r) → ∃ u, u ≠ [] ∧ l = u ++ r ∧ ∀ r', ptL U (u ++ r') = some (t, r')
  | [], _, _, h => by cases h
  | c :: l, t, r, h => by
    rw [ptL] at h
    split at h
    · rename_i hc
      subst hc
      obtain ⟨h1, h2, h3⟩ := tw_all (p := isHex) l
      cases hd : l.dropWhile isHex with
      | nil => rw [hd] at h; cases h
      | cons d r2 =>
        rw [hd] at h h3 h2
        simp only at h
        split at h
        · rename_i hg
          cases h
          obtain ⟨rfl, hg2⟩ := hg
          refine ⟨123 :: (l.takeWhile isHex ++ [125]), List.cons_ne_nil _ _, ?_, fun r' => ?_⟩
          · rw [List.cons_append, List.append_assoc]
            show 123 :: l = 123 :: (l.takeWhile isHex ++ 125 :: r)
            rw [h3]
          · have h4 := tw_app (p := isHex) (l.takeWhile isHex) (125 :: r') h1 (fun c hc => by cases hc; decide)
            rw [List.cons_append, List.append_assoc]
            show ptL U (123 :: (l.takeWhile isHex ++ 125 :: r')) = _
            rw [ptL]
            rw [if_pos rfl, h4.1, h4.2]
            exact if_pos ⟨rfl, hg2⟩
        · cases h
    · cases h
theorem escL_app : ∀ {l : Bs} {t r : Bs}, escL U l = some (t, r) → ∃ u, u ≠ [] ∧ l = u ++ r ∧ ∀ r', r'.head? = r.head? → escL U (u ++ r') = some (t, r')
  | [], _, _, h => by cases h
  | c :: l, t, r, h => by
    rw [escL] at h
    cases ht : escT c with
    | some d =>
      rw [ht] at h
      cases h
      exact ⟨[c], List.cons_ne_nil _ _, rfl, fun r' _ => by
        show escL U (c :: r') = _
        rw [escL]
        rw [ht]⟩
    | none =>
      rw [ht] at h
      simp only at h
      split at h
      · rename_i hc
        split at h
        · cases h
        · rename_i hd
          cases h
          exact ⟨[c], List.cons_ne_nil _ _, rfl, fun r' hr => by
            show escL U (c :: r') = _
            rw [escL]
            rw [ht]
            simp only
            rw [if_pos hc, hr, if_neg hd]⟩
      · rename_i hc
        split at h
        · rename_i hx
          obtain ⟨u, h1, h2, h3⟩ := hxL_app U h
          exact ⟨c :: u, List.cons_ne_nil _ _, by rw [h2]; rfl, fun r' _ => by
            show escL U (c :: (u ++ r')) = _
            rw [escL]
            rw [ht]
            simp only
            rw [if_neg hc, if_pos hx, h3]⟩
        · rename_i hx
          split at h
          · rename_i hu
            obtain ⟨u, h1, h2, h3⟩ := ptL_app U h
            exact ⟨c :: u, List.cons_ne_nil _ _, by rw [h2]; rfl, fun r' _ => by
              show escL U (c :: (u ++ r')) = _
              rw [escL]
              rw [ht]
              simp only
              rw [if_neg hc, if_neg hx, if_pos hu, h3]⟩
          · cases h
theorem escL_lt {l : Bs} {p : Bs × Bs} (h : escL U l = some p) : p.2.length < l.length := by
  obtain ⟨t, r⟩ := p
  obtain ⟨u, h1, h2, _⟩ := escL_app U h
  have : 0 < u.length := List.length_pos_iff.2 h1
  rw [h2, List.length_append]
  show r.length < _
  omega
theorem hxL_nl (z : Bs) : ∀ (l : Bs), hxL U (l ++ 10 :: z) = (hxL U l).map fun p => (p.1, p.2 ++ 10 :: z)
  | [] => by
    cases z with
    | nil => rfl
    | cons b z =>
      show hxL U (10 :: b :: z) = none
      rw [hxL]
      rw [show hexv 10 = none by decide]
  | [a] => by
    show hxL U (a :: 10 :: z) = none
    rw [hxL]
    rw [show hexv 10 = none by decide]
    cases hexv a <;> rfl
  | a :: b :: l => by
    show hxL U (a :: b :: (l ++ 10 :: z)) = _
    rw [hxL, hxL]
    cases hexv a with
    | none => rfl
    | some x =>
      cases hexv b with
      | none => rfl
      | some y => rfl
theorem tw_nl {p : UInt8 → Bool} (h10 : p 10 = false) (z l : Bs) : (l ++ 10 :: z).takeWhile p = l.takeWhile p ∧ (l ++ 10 :: z).dropWhile p = l.dropWhile p ++ 10 :: z := by
  obtain ⟨h1, h2, h3⟩ := tw_all (p := p) l
  have h4 := tw_app (p := p) (l.takeWhile p) (l.dropWhile p ++ 10 :: z) h1 (fun c hc => by
    cases hd : l.dropWhile p with
    | nil => rw [hd] at hc; cases hc; exact h10
    | cons x y => rw [hd] at hc h2; cases hc; exact h2 _ rfl)
  rw [← List.append_assoc, h3] at h4
  exact h4
theorem ptL_nl (z : Bs) : ∀ (l : Bs), ptL U (l ++ 10 :: z) = (ptL U l).map fun p => (p.1, p.2 ++ 10 :: z)
  | [] => by
    show ptL U (10 :: z) = none
    rw [ptL]
    rw [if_neg (by decide)]
  | c :: l => by
    show ptL U (c :: (l ++ 10 :: z)) = _
    rw [ptL, ptL]
    by_cases hc : c = 123
    · rw [if_pos hc, if_pos hc]
      obtain ⟨h1, h2⟩ := tw_nl (p := isHex) (by decide) z l
      rw [h1, h2]
      cases hd : l.dropWhile isHex with
      | nil => exact if_neg (fun h => by have := h.1; revert this; decide)
      | cons d r =>
        have e : (d :: r) ++ 10 :: z = d :: (r ++ 10 :: z) := rfl
        rw [e]
        simp only
        by_cases hg : d = 125 ∧ 1 ≤ (l.takeWhile isHex).length ∧ (l.takeWhile isHex).length ≤ 6 ∧ ptOk (hexN (l.takeWhile isHex)) = true
        · rw [if_pos hg, if_pos hg]; rfl
        · rw [if_neg hg, if_neg hg]; rfl
    · rw [if_neg hc, if_neg hc]; rfl
theorem escL_nl (z : Bs) : ∀ (l : Bs), escL U (l ++ 10 :: z) = (escL U l).map fun p => (p.1, p.2 ++ 10 :: z)
  | [] => by
    show escL U (10 :: z) = none
    rw [escL]
    rw [show escT 10 = none by decide]
    simp only
    rw [if_neg (by decide), if_neg (by decide), if_neg (by decide)]
  | c :: l => by
    show escL U (c :: (l ++ 10 :: z)) = _
    rw [escL, escL]
    cases escT c with
    | some d => rfl
    | none =>
      simp only
      split
      · have hh : (l ++ 10 :: z).head?.any dgt = l.head?.any dgt := by
          cases l with
          | nil => exact (by decide : (some (10 : UInt8)).any dgt = false)
          | cons a b => rfl
        rw [hh]
        split
        · rfl
        · rfl
      · split
        · exact hxL_nl U z l
        · split
          · exact ptL_nl U z l
          · rfl
theorem litF_fuel (q : UInt8) : ∀ (n m : Nat) (l : Bs), l.length ≤ n → l.length ≤ m → litF U q n l = litF U q m l
  | 0, m, l, h, _ => by
    have : l = [] := List.eq_nil_of_length_eq_zero (by omega)
    subst this
    cases m <;> rfl
  | n + 1, 0, l, _, h => by
    have : l = [] := List.eq_nil_of_length_eq_zero (by omega)
    subst this
    rfl
  | n + 1, m + 1, [], _, _ => rfl
  | n + 1, m + 1, c :: r, h, h' => by
    simp only [List.length_cons] at h h'
    rw [litF, litF]
    split
    · rfl
    · split
      · rfl
      · split
        · cases he : escL U r with
          | none => rfl
          | some p =>
            have := escL_lt U he
            simp only
            rw [litF_fuel q n m p.2 (by omega) (by omega)]
        · rw [litF_fuel q n m r (by omega) (by omega)]
theorem lit_nil (q : UInt8) : lit U q [] = none := rfl
theorem lit_end (q : UInt8) (r : Bs) : lit U q (q :: r) = some ([], r) := by
  show litF U q (r.length + 1) (q :: r) = _
  rw [litF, if_pos rfl]
theorem lit_brk {q c : UInt8} (r : Bs) (h : c ≠ q) (h1 : c = 10 ∨ c = 13) : lit U q (c :: r) = none := by
  show litF U q (r.length + 1) (c :: r) = _
  rw [litF, if_neg h, if_pos h1]
theorem lit_esc0 {q c : UInt8} {r : Bs} (h : c ≠ q) (h1 : ¬ (c = 10 ∨ c = 13)) (h2 : c = 92) (h3 : escL U r = none) : lit U q (c :: r) = none := by
  show litF U q (r.length + 1) (c :: r) = _
  rw [litF, if_neg h, if_neg h1, if_pos h2, h3]
theorem lit_esc {q c : UInt8} {r : Bs} {p : Bs × Bs} (h : c ≠ q) (h1 : ¬ (c = 10 ∨ c = 13)) (h2 : c = 92) (h3 : escL U r = some p) : lit U q (c :: r) = (lit U q p.2).map fun z => (p.1 ++ z.1, z.2) := by
  show litF U q (r.length + 1) (c :: r) = _
  rw [litF, if_neg h, if_neg h1, if_pos h2, h3]
  simp only
  have := escL_lt U h3
  unfold lit
  rw [litF_fuel U q r.length p.2.length p.2 (by omega) (Nat.le_refl _)]
theorem lit_chr {q c : UInt8} (r : Bs) (h : c ≠ q) (h1 : ¬ (c = 10 ∨ c = 13)) (h2 : c ≠ 92) : lit U q (c :: r) = (lit U q r).map fun z => (c :: z.1, z.2) := by
  show litF U q (r.length + 1) (c :: r) = _
  rw [litF, if_neg h, if_neg h1, if_neg h2]
  rfl
theorem lit_ind (q : UInt8) {motive : Bs → Prop} (nil : motive []) (end_ : ∀ r, motive (q :: r)) (brk : ∀ c r, c ≠ q → (c = 10 ∨ c = 13) → motive (c :: r))
    (esc0 : ∀ c r, c ≠ q → ¬ (c = 10 ∨ c = 13) → c = 92 → escL U r = none → motive (c :: r)) (esc : ∀ c r p, c ≠ q → ¬ (c = 10 ∨ c = 13) → c = 92 → escL U r = some p → motive p.2 → motive (c :: r))
    (chr : ∀ c r, c ≠ q → ¬ (c = 10 ∨ c = 13) → c ≠ 92 → motive r → motive (c :: r)) : ∀ (n : Nat) (l : Bs), l.length ≤ n → motive l
  | 0, l, h => by
    have : l = [] := List.eq_nil_of_length_eq_zero (by omega)
    subst this
    exact nil
  | n + 1, [], _ => nil
  | n + 1, c :: r, h => by
    simp only [List.length_cons] at h
    have rec_ := lit_ind q nil end_ brk esc0 esc chr n
    by_cases h1 : c = q
    · subst h1; exact end_ r
    · by_cases h2 : c = 10 ∨ c = 13
      · exact brk c r h1 h2
      · by_cases h3 : c = 92
        · cases he : escL U r with
          | none => exact esc0 c r h1 h2 h3 he
          | some p =>
            have := escL_lt U he
            exact esc c r p h1 h2 h3 he (rec_ _ (by omega))
        · exact chr c r h1 h2 h3 (rec_ r (by omega))
theorem lit_app (q : UInt8) : ∀ (l : Bs), ∀ t r, lit U q l = some (t, r) → ∃ u, u ≠ [] ∧ l = u ++ r ∧ ∀ r', lit U q (u ++ r') = some (t, r') := by
  intro l
  refine lit_ind U q (motive := fun l => ∀ t r, lit U q l = some (t, r) → ∃ u, u ≠ [] ∧ l = u ++ r ∧ ∀ r', lit U q (u ++ r') = some (t, r')) ?_ ?_ ?_ ?_ ?_ ?_ l.length l (Nat.le_refl _)
  · intro t r h
    rw [lit_nil] at h; cases h
  · intro l t r h
    rw [lit_end] at h
    cases h
    exact ⟨[q], List.cons_ne_nil _ _, rfl, fun r' => lit_end U q r'⟩
  · intro c l h1 h2 t r h
    rw [lit_brk U l h1 h2] at h; cases h
  · intro c l h1 h2 h3 he t r h
    rw [lit_esc0 U h1 h2 h3 he] at h; cases h
  · intro c l p h1 h2 h3 he ih t r h
    rw [lit_esc U h1 h2 h3 he] at h
    cases hl : lit U q p.2 with
    | none => rw [hl] at h; cases h
    | some z =>
      rw [hl] at h
      cases h
      obtain ⟨u2, g1, g2, g3⟩ := ih z.1 z.2 hl
      obtain ⟨u1, k1, k2, k3⟩ := escL_app U (t := p.1) (r := p.2) he
      refine ⟨c :: (u1 ++ u2), List.cons_ne_nil _ _, by rw [k2, g2]; simp, fun r' => ?_⟩
      show lit U q (c :: ((u1 ++ u2) ++ r')) = _
      have h5 : escL U ((u1 ++ u2) ++ r') = some (p.1, u2 ++ r') := by
        rw [List.append_assoc]
        refine k3 _ ?_
        rw [g2]
        cases u2 with
        | nil => exact absurd rfl g1
        | cons x y => rfl
      rw [lit_esc U h1 h2 h3 h5]
      show (lit U q (u2 ++ r')).map _ = _
      rw [g3]
      rfl
  · intro c l h1 h2 h3 ih t r h
    rw [lit_chr U l h1 h2 h3] at h
    cases hl : lit U q l with
    | none => rw [hl] at h; cases h
    | some z =>
      rw [hl] at h
      cases h
      obtain ⟨u, g1, g2, g3⟩ := ih z.1 z.2 hl
      refine ⟨c :: u, List.cons_ne_nil _ _, by rw [g2]; rfl, fun r' => ?_⟩
      show lit U q (c :: (u ++ r')) = _
      rw [lit_chr U _ h1 h2 h3, g3]
      rfl
theorem lit_nl {q : UInt8} (hq : q ≠ 10) (z : Bs) : ∀ (l : Bs), lit U q (l ++ 10 :: z) = (lit U q l).map fun p => (p.1, p.2 ++ 10 :: z) := by
  intro l
  refine lit_ind U q (motive := fun l => lit U q (l ++ 10 :: z) = (lit U q l).map fun p => (p.1, p.2 ++ 10 :: z)) ?_ ?_ ?_ ?_ ?_ ?_ l.length l (Nat.le_refl _)
  · show lit U q (10 :: z) = _
    rw [lit_brk U z (Ne.symm hq) (.inl rfl), lit_nil]
    rfl
  · intro l
    rw [List.cons_append, lit_end, lit_end]
    rfl
  · intro c l h1 h2
    rw [List.cons_append, lit_brk U _ h1 h2, lit_brk U _ h1 h2]
    rfl
  · intro c l h1 h2 h3 he
    have h5 := escL_nl U z l
    rw [he] at h5
    rw [List.cons_append, lit_esc0 U h1 h2 h3 h5, lit_esc0 U h1 h2 h3 he]
    rfl
  · intro c l p h1 h2 h3 he ih
    have h5 := escL_nl U z l
    rw [he] at h5
    rw [List.cons_append, lit_esc U h1 h2 h3 h5, lit_esc U h1 h2 h3 he]
    show (lit U q (p.2 ++ 10 :: z)).map _ = _
    rw [ih]
    cases lit U q p.2 <;> rfl
  · intro c l h1 h2 h3 ih
    rw [List.cons_append, lit_chr U _ h1 h2 h3, lit_chr U _ h1 h2 h3, ih]
    cases lit U q l <;> rfl
end
end Go.Proofs.YtnhbboknffppiaaDoor

/- Own work: the lexer, plain: what follows a token; two texts. -/
namespace Go.Proofs.YtnhbboknffppiaaDoor
set_option linter.unusedSimpArgs false
set_option linter.unusedSectionVars false

theorem take_nl {k : Nat} {l z : Bs} (h : l.length < k) : 10 ∈ (l ++ 10 :: z).take k := by
  rw [List.take_append]
  refine List.mem_append_right _ ?_
  obtain ⟨m, hm⟩ : ∃ m, k - l.length = m + 1 := ⟨k - l.length - 1, by omega⟩
  rw [hm, List.take_succ_cons]
  exact List.mem_cons_self ..
theorem take_in {k : Nat} {l z : Bs} (h : k ≤ l.length) : (l ++ z).take k = l.take k := List.take_append_of_le_length h
/-- membership in a list of operators of k bytes -/
theorem op_nl {L : List Bs} {k : Nat} (hk : (L.all fun w => decide (w.length = k) && !w.contains 10) = true) (l z : Bs) : L.any (· == (l ++ 10 :: z).take k) = L.any (· == l.take k) := by
  rcases Nat.lt_or_ge l.length k with h | h
  · have h1 : L.any (· == (l ++ 10 :: z).take k) = false := by
      rw [List.any_eq_false]
      intro w hw he
      have h2 := List.all_eq_true.1 hk w hw
      simp only [Bool.and_eq_true, decide_eq_true_eq, Bool.not_eq_true', List.contains_eq_mem, decide_eq_false_iff_not] at h2
      have h3 : w = (l ++ 10 :: z).take k := by simpa using he
      exact h2.2 (by rw [h3]; exact take_nl h)
    have h2 : L.any (· == l.take k) = false := by
      rw [List.any_eq_false]
      intro w hw he
      have h2 := List.all_eq_true.1 hk w hw
      simp only [Bool.and_eq_true, decide_eq_true_eq] at h2
      have h3 : w = l.take k := by simpa using he
      have h4 : (l.take k).length ≤ l.length := by simp; omega
      rw [← h3] at h4
      omega
    rw [h1, h2]
  · rw [take_in h]
theorem op_len {L : List Bs} {k : Nat} (hk : (L.all fun w => decide (w.length = k)) = true) {l : Bs} (h : L.any (· == l.take k) = true) : k ≤ l.length := by
  obtain ⟨w, hw, he⟩ := List.any_eq_true.1 h
  have h2 := List.all_eq_true.1 hk w hw
  simp only [decide_eq_true_eq] at h2
  have h3 : w = l.take k := by simpa using he
  rw [h3] at h2
  simp only [List.length_take] at h2
  omega
theorem opL_some {l w : Bs} (h : opL l = some w) : w ≠ [] ∧ l = w ++ l.drop w.length ∧ w.length ≤ l.length := by
  have key : ∀ k, 0 < k → k ≤ l.length → l.take k = w → w ≠ [] ∧ l = w ++ l.drop w.length ∧ w.length ≤ l.length := fun k h0 hk e => by
    subst e
    have h1 : (l.take k).length = k := by rw [List.length_take]; omega
    refine ⟨fun e => ?_, by rw [h1, List.take_append_drop], by omega⟩
    rw [e] at h1
    simp at h1
    omega
  unfold opL at h
  split at h
  · rename_i hc
    exact key 3 (by decide) (op_len (by decide) hc) (Option.some.inj h)
  · split at h
    · rename_i hc
      exact key 2 (by decide) (op_len (by decide) hc) (Option.some.inj h)
    · split at h
      · rename_i hc
        exact key 1 (by decide) (op_len (by decide) hc) (Option.some.inj h)
      · cases h
theorem opL_nl (l z : Bs) : opL (l ++ 10 :: z) = opL l := by
  unfold opL
  rw [op_nl (by decide), op_nl (by decide), op_nl (by decide)]
  split
  · rename_i h
    rw [take_in (op_len (by decide) h)]
  · split
    · rename_i h
      rw [take_in (op_len (by decide) h)]
    · split
      · rename_i h
        rw [take_in (op_len (by decide) h)]
      · rfl
/-- three bytes are an operator only where two of them are -/
theorem op3_2 {l : Bs} (h : op3L.any (· == l.take 3) = true) : op2L.any (· == l.take 2) = true := by
  obtain ⟨w, hw, he⟩ := List.any_eq_true.1 h
  have h3 : w = l.take 3 := by simpa using he
  have h4 : l.take 2 = w.take 2 := by rw [h3, List.take_take]; rfl
  rw [h4]
  exact List.all_eq_true.1 (show (op3L.all fun w => op2L.any (· == w.take 2)) = true by decide) w hw
theorem op2_bad {a b : UInt8} (hb : b = 32 ∨ b = 10) : op2L.any (· == [a, b]) = false := by
  rw [List.any_eq_false]
  intro w hw he
  have h3 : w = [a, b] := by simpa using he
  have h4 := List.all_eq_true.1 (show (op2L.all fun w => !w.contains 32 && !w.contains 10) = true by decide) w hw
  rw [h3] at h4
  rcases hb with rfl | rfl <;> simp at h4
theorem op3_bad {a b c : UInt8} (hc : c = 32 ∨ c = 10) : op3L.any (· == [a, b, c]) = false := by
  rw [List.any_eq_false]
  intro w hw he
  have h3 : w = [a, b, c] := by simpa using he
  have h4 := List.all_eq_true.1 (show (op3L.all fun w => !w.contains 32 && !w.contains 10) = true by decide) w hw
  rw [h3] at h4
  rcases hc with rfl | rfl <;> simp at h4
theorem op_short {L : List Bs} {k : Nat} (hk : (L.all fun w => decide (w.length = k)) = true) {x : Bs} (h : x.length ≠ k) : L.any (· == x) = false := by
  rw [List.any_eq_false]
  intro w hw he
  have h2 := List.all_eq_true.1 hk w hw
  simp only [decide_eq_true_eq] at h2
  have h3 : w = x := by simpa using he
  rw [h3] at h2
  exact h h2
theorem opL_app {l w : Bs} (h : opL l = some w) {r' : Bs} (hr : LkA (l.drop w.length) r') : opL (w ++ r') = some w := by
  unfold opL at h
  split at h
  · rename_i hc
    cases h
    have hl := op_len (by decide) hc
    have h1 : (l.take 3).length = 3 := by rw [List.length_take]; omega
    have h2 : (l.take 3 ++ r').take 3 = l.take 3 := by rw [List.take_append_of_le_length (by omega), List.take_take]; rfl
    unfold opL
    rw [h2, if_pos hc]
  · rename_i h3
    split at h
    · rename_i hc
      cases h
      have hl := op_len (by decide) hc
      obtain ⟨a, b, l2, rfl⟩ : ∃ a b l2, l = a :: b :: l2 := by
        match l, hl with
        | a :: b :: l2, _ => exact ⟨a, b, l2, rfl⟩
      have hr' : LkA l2 r' := hr
      have h2 : op3L.any (· == ([a, b] ++ r').take 3) = false := by
        cases r' with
        | nil => exact op_short (k := 3) (by decide) (by simp)
        | cons c r' =>
          show op3L.any (· == [a, b, c]) = false
          rcases hr' with e | e | e | e
          · cases l2 with
            | nil => cases e
            | cons d l2 =>
              cases e
              exact Bool.eq_false_iff.2 h3
          · cases e; exact op3_bad (.inl rfl)
          · cases e; exact op3_bad (.inr rfl)
          · cases e
      show opL ([a, b] ++ r') = some [a, b]
      unfold opL
      rw [if_neg (by rw [h2]; decide)]
      have h5 : ([a, b] ++ r').take 2 = [a, b] := rfl
      rw [h5]
      have hc' : op2L.any (· == [a, b]) = true := hc
      rw [if_pos hc']
    · rename_i h2n
      split at h
      · rename_i hc
        cases h
        have hl := op_len (by decide) hc
        obtain ⟨a, l2, rfl⟩ : ∃ a l2, l = a :: l2 := by
          match l, hl with
          | a :: l2, _ => exact ⟨a, l2, rfl⟩
        have hr' : LkA l2 r' := hr
        have h2 : op2L.any (· == ([a] ++ r').take 2) = false := by
          cases r' with
          | nil => exact op_short (k := 2) (by decide) (by simp)
          | cons c r' =>
            show op2L.any (· == [a, c]) = false
            rcases hr' with e | e | e | e
            · cases l2 with
              | nil => cases e
              | cons d l2 =>
                cases e
                exact Bool.eq_false_iff.2 h2n
            · cases e; exact op2_bad (.inl rfl)
            · cases e; exact op2_bad (.inr rfl)
            · cases e
        have h4 : op3L.any (· == ([a] ++ r').take 3) = false := by
          cases h5 : op3L.any (· == ([a] ++ r').take 3) with
          | false => rfl
          | true =>
            have := op3_2 h5
            rw [h2] at this
            cases this
        show opL ([a] ++ r') = some [a]
        unfold opL
        rw [if_neg (by rw [h4]; decide), if_neg (by rw [h2]; decide)]
        have h5 : ([a] ++ r').take 1 = [a] := rfl
        rw [h5]
        have hc' : op1L.any (· == [a]) = true := hc
        rw [if_pos hc']
      · cases h

section
variable (U : Nat → Bs) (Rp : Bs → Bs)
theorem numL_app {l t r : Bs} {k : Int} (h : numL l = .ok k t r) (hd : ∃ c l', l = c :: l' ∧ dgt c = true) : ∃ u, u ≠ [] ∧ l = u ++ r ∧ (∃ c u', u = c :: u' ∧ dgt c = true) ∧ ∀ r', LkA r r' → numL (u ++ r') = .ok k t r' := by
  obtain ⟨h1, h2, h3⟩ := tw_all (p := dgt) l
  obtain ⟨c, l', rfl, hc⟩ := hd
  have hcons : (c :: l').takeWhile dgt = c :: l'.takeWhile dgt := by rw [List.takeWhile_cons, hc]; rfl
  unfold numL at h
  split at h
  · cases h
  · rename_i g1
    split at h
    · cases h
    · rename_i g2
      split at h
      · cases h
      · rename_i g3
        cases h
        refine ⟨(c :: l').takeWhile dgt, by rw [hcons]; exact List.cons_ne_nil _ _, h3.symm, ⟨c, _, hcons, hc⟩, fun r' hr => ?_⟩
        have h4 := tw_app (p := dgt) ((c :: l').takeWhile dgt) r' h1 (la_of hr (by decide) (by decide) h2)
        have h5 : ¬ (r'.head?.any ltr = true) := fun h => by
          cases hh : r'.head? with
          | none => rw [hh] at h; cases h
          | some x =>
            rw [hh] at h
            have h6 : ∀ y, ((c :: l').dropWhile dgt).head? = some y → ltr y = false := fun y hy => by
              rw [hy] at g2
              exact Bool.eq_false_iff.2 g2
            have h7 := la_of (p := ltr) hr (by decide) (by decide) h6 x hh
            rw [show (some x).any ltr = ltr x from rfl, h7] at h
            cases h
        unfold numL
        rw [h4.1, h4.2, if_neg g1, if_neg h5, if_neg g3]
theorem numL_nl (l z : Bs) : numL (l ++ 10 :: z) = match numL l with | .bad e => .bad e | .ok k t r => .ok k t (r ++ 10 :: z) := by
  obtain ⟨h1, h2⟩ := tw_nl (p := dgt) (by decide) z l
  have h3 : ((l ++ 10 :: z).dropWhile dgt).head?.any ltr = (l.dropWhile dgt).head?.any ltr := by
    rw [h2]
    cases l.dropWhile dgt with
    | nil => exact (by decide : (some (10 : UInt8)).any ltr = false)
    | cons a b => rfl
  unfold numL
  rw [h3, h1]
  split
  · rfl
  · split
    · rfl
    · split
      · rfl
      · rw [h2]
theorem tokL_app {l t r : Bs} {k : Int} (h : tokL U Rp l = .ok k t r) : ∃ u, u ≠ [] ∧ l = u ++ r ∧ ∀ r', LkA r r' → tokL U Rp (u ++ r') = .ok k t r' := by
  cases l with
  | nil => cases h
  | cons c l =>
    rw [tokL] at h
    split at h
    · rename_i hc
      cases h
      obtain ⟨h1, h2, h3⟩ := tw_all (p := wrd) (c :: l)
      have hw : wrd c = true := by unfold wrd; rw [hc]; rfl
      have hcons : (c :: l).takeWhile wrd = c :: l.takeWhile wrd := by rw [List.takeWhile_cons, hw]; rfl
      refine ⟨(c :: l).takeWhile wrd, by rw [hcons]; exact List.cons_ne_nil _ _, h3.symm, fun r' hr => ?_⟩
      have h4 := tw_app (p := wrd) ((c :: l).takeWhile wrd) r' h1 (la_of hr (by decide) (by decide) h2)
      rw [hcons] at h4 ⊢
      show tokL U Rp (c :: (l.takeWhile wrd ++ r')) = _
      rw [tokL]
      rw [if_pos hc]
      have h5 : c :: (l.takeWhile wrd ++ r') = (c :: l.takeWhile wrd) ++ r' := rfl
      rw [h5, h4.1, h4.2]
    · rename_i hc
      split at h
      · rename_i hd
        obtain ⟨u, h1, h2, ⟨c', u', rfl, hd'⟩, h3⟩ := numL_app h ⟨c, l, rfl, hd⟩
        refine ⟨c' :: u', h1, h2, fun r' hr => ?_⟩
        have hcc : c = c' := by
          have := congrArg List.head? h2
          simpa using this
        subst hcc
        show tokL U Rp (c :: (u' ++ r')) = _
        rw [tokL]
        rw [if_neg hc, if_pos hd]
        exact h3 r' hr
      · rename_i hd
        split at h
        · rename_i hq
          cases hl : lit U c l with
          | none => rw [hl] at h; cases h
          | some z =>
            rw [hl] at h
            cases h
            obtain ⟨u, h1, h2, h3⟩ := lit_app U c l z.1 z.2 hl
            refine ⟨c :: u, List.cons_ne_nil _ _, by rw [List.cons_append, ← h2], fun r' _ => ?_⟩
            show tokL U Rp (c :: (u ++ r')) = _
            rw [tokL]
            rw [if_neg hc, if_neg hd, if_pos hq, h3]
        · rename_i hq
          cases ho : opL (c :: l) with
          | none => rw [ho] at h; cases h
          | some w =>
            rw [ho] at h
            cases h
            obtain ⟨h1, h2, h3⟩ := opL_some ho
            refine ⟨t, h1, h2, fun r' hr => ?_⟩
            have h4 := opL_app ho hr
            cases t with
            | nil => exact absurd rfl h1
            | cons x w =>
              have hcc : c = x := by
                have := congrArg List.head? h2
                simpa using this
              subst hcc
              show tokL U Rp (c :: (w ++ r')) = _
              rw [tokL]
              rw [if_neg hc, if_neg hd, if_neg hq]
              have h5 : c :: (w ++ r') = (c :: w) ++ r' := rfl
              rw [h5, h4]
              simp only
              rw [List.drop_left]
theorem tokL_nl (z : Bs) : ∀ (l : Bs), l ≠ [] → tokL U Rp (l ++ 10 :: z) = match tokL U Rp l with | .bad e => .bad e | .ok k t r => .ok k t (r ++ 10 :: z)
  | [], h => absurd rfl h
  | c :: l, _ => by
    show tokL U Rp (c :: (l ++ 10 :: z)) = _
    rw [tokL, tokL]
    split
    · obtain ⟨h1, h2⟩ := tw_nl (p := wrd) (by decide) z (c :: l)
      have h5 : c :: (l ++ 10 :: z) = (c :: l) ++ 10 :: z := rfl
      rw [h5, h1, h2]
    · split
      · exact numL_nl (c :: l) z
      · split
        · rename_i hq
          rw [lit_nl U (by rintro rfl; revert hq; decide) z l]
          cases lit U c l <;> rfl
        · have h5 : c :: (l ++ 10 :: z) = (c :: l) ++ 10 :: z := rfl
          rw [h5, opL_nl]
          cases ho : opL (c :: l) with
          | none => rfl
          | some w =>
            obtain ⟨_, _, h3⟩ := opL_some ho
            simp only
            rw [List.drop_append_of_le_length h3]
end
end Go.Proofs.YtnhbboknffppiaaDoor

/- Own work: the lexer, plain: all tokens of a text; two texts; white space between tokens. -/
namespace Go.Proofs.YtnhbboknffppiaaDoor
set_option linter.unusedSimpArgs false
set_option linter.unusedSectionVars false

/-- a token that was found; rem: how long the text is from its first byte on -/
structure Tk where
  k : Int
  t : Bs
  rem : Nat
def Tk.up (n : Nat) (x : Tk) : Tk := ⟨x.k, x.t, x.rem + n⟩
section
variable (U : Nat → Bs) (Rp : Bs → Bs)
/-- the tokens before the first error, and the error with its place -/
def lexF : Nat → Bs → List Tk × Option (Nat × Int)
  | 0, _ => ([], none)
  | n + 1, l => if (skp l).2 = false then ([], some ((skp l).1.length, 4)) else if (skp l).1 = [] then ([], none) else (match tokL U Rp (skp l).1 with
    | .bad e => ([], some ((skp l).1.length, e))
    | .ok k t r => (⟨k, t, (skp l).1.length⟩ :: (lexF n r).1, (lexF n r).2))
def lex (l : Bs) : List Tk × Option (Nat × Int) := lexF U Rp (l.length + 1) l
theorem tok_lt {l t r : Bs} {k : Int} (h : tokL U Rp l = .ok k t r) : r.length < l.length := by
  obtain ⟨u, h1, h2, _⟩ := tokL_app U Rp h
  have : 0 < u.length := List.length_pos_iff.2 h1
  rw [h2, List.length_append]
  omega
theorem lexF_fuel : ∀ (n m : Nat) (l : Bs), l.length < n → l.length < m → lexF U Rp n l = lexF U Rp m l
  | 0, m, l, h, _ => by omega
  | n + 1, 0, l, _, h => by omega
  | n + 1, m + 1, l, h, h' => by
    rw [lexF, lexF]
    split
    · rfl
    · split
      · rfl
      · cases ht : tokL U Rp (skp l).1 with
        | bad e => rfl
        | ok k t r =>
          have h1 := tok_lt U Rp ht
          have h2 := skp_le l
          simp only
          rw [lexF_fuel n m r (by omega) (by omega)]
theorem lex_skp {a b : Bs} (h : skp a = skp b) : lex U Rp a = lex U Rp b := by
  unfold lex
  rw [lexF_fuel U Rp (a.length + 1) (a.length + b.length + 1) a (by omega) (by omega), lexF_fuel U Rp (b.length + 1) (a.length + b.length + 1) b (by omega) (by omega)]
  rw [lexF, lexF, h]
theorem lex_open {l r : Bs} (h : skp l = (r, false)) : lex U Rp l = ([], some (r.length, 4)) := by
  unfold lex
  rw [lexF, h]
  rfl
theorem lex_end {l : Bs} (h : skp l = ([], true)) : lex U Rp l = ([], none) := by
  unfold lex
  rw [lexF, h]
  rfl
theorem lex_bad {l r : Bs} {e : Int} (h : skp l = (r, true)) (hr : r ≠ []) (ht : tokL U Rp r = .bad e) : lex U Rp l = ([], some (r.length, e)) := by
  unfold lex
  rw [lexF, h]
  simp only [hr, ht, if_false, Bool.true_eq_false]
theorem lex_tok {l r t r2 : Bs} {k : Int} (h : skp l = (r, true)) (ht : tokL U Rp r = .ok k t r2) : lex U Rp l = (⟨k, t, r.length⟩ :: (lex U Rp r2).1, (lex U Rp r2).2) := by
  have hr : r ≠ [] := fun e => by rw [e] at ht; cases ht
  have h1 := tok_lt U Rp ht
  have h2 := skp_le l
  rw [h] at h2
  simp only at h2
  unfold lex
  rw [lexF_fuel U Rp (r2.length + 1) l.length r2 (by omega) (by omega)]
  rw [lexF]
  rw [h]
  simp only [hr, ht, if_false, Bool.true_eq_false]
theorem skp_suf (l : Bs) : ∃ u, l = u ++ (skp l).1 := by
  refine skp_ind (motive := fun l => ∃ u, l = u ++ (skp l).1) ?_ ?_ ?_ ?_ ?_ ?_ l.length l (Nat.le_refl _)
  · exact ⟨[], rfl⟩
  · intro c r hw ⟨u, ih⟩
    rw [skp_ws hw]
    exact ⟨c :: u, by rw [List.cons_append, ← ih]⟩
  · intro c r hw hk ⟨u, ih⟩
    rw [skp_ln hw hk]
    obtain ⟨d, l2, rfl⟩ := cmk_form hk (by decide)
    have ih' : dropLn l2 = u ++ (skp (dropLn l2)).1 := ih
    obtain ⟨v, hv⟩ : ∃ v, l2 = v ++ dropLn l2 := by
      cases hd : dropLn l2 with
      | nil => exact ⟨l2, by simp⟩
      | cons x y =>
        obtain ⟨v, h3, _⟩ := dropLn_app l2 (by rw [hd]; exact List.cons_ne_nil _ _)
        exact ⟨v, by rw [← hd]; exact h3⟩
    refine ⟨c :: d :: (v ++ u), ?_⟩
    show c :: d :: l2 = c :: d :: ((v ++ u) ++ (skp (dropLn l2)).1)
    rw [List.append_assoc, ← ih', ← hv]
  · intro c r r' hw hk hd ⟨u, ih⟩
    rw [skp_cm hw hk hd]
    obtain ⟨d, l2, rfl⟩ := cmk_form hk (by decide)
    obtain ⟨v, h3, _⟩ := dropCm_app hd
    have h3' : l2 = v ++ r' := h3
    refine ⟨c :: d :: (v ++ u), ?_⟩
    show c :: d :: l2 = c :: d :: ((v ++ u) ++ (skp r').1)
    rw [List.append_assoc, ← ih, ← h3']
  · intro c r hw hk hd
    rw [skp_open hw hk hd]
    exact ⟨[], rfl⟩
  · intro c r hw hk
    rw [skp_stop hw hk]
    exact ⟨[], rfl⟩
theorem cmk_nl {c : UInt8} {r : Bs} (h : cmk (c :: r) = 0) (z : Bs) : cmk (c :: (r ++ 10 :: z)) = 0 := by
  cases r with
  | nil =>
    show cmk (c :: 10 :: z) = 0
    unfold cmk
    rw [if_neg (by simp), if_neg (by simp)]
  | cons d r => exact h
/-- TWO TEXTS with a line feed between -/
theorem lex_two (t : Bs) : ∀ (n : Nat) (s : Bs), s.length ≤ n →
    ((lex U Rp s).2 = none → lex U Rp (s ++ 10 :: t) = ((lex U Rp s).1.map (Tk.up (t.length + 1)) ++ (lex U Rp t).1, (lex U Rp t).2)) ∧
    ∀ m e, (lex U Rp s).2 = some (m, e) → (lex U Rp (s ++ 10 :: t)).2 = some (m + (t.length + 1), e) ∨ ∃ u r, s = u ++ r ∧ r.length = m ∧ r.take 2 = [47, 42] := by
  intro n
  induction n with
  | zero =>
    intro s h
    have : s = [] := List.eq_nil_of_length_eq_zero (by omega)
    subst this
    have h1 : lex U Rp [] = ([], none) := lex_end U Rp skp_nil
    rw [h1]
    refine ⟨fun _ => ?_, fun m e h => by cases h⟩
    have h2 : lex U Rp ([] ++ 10 :: t) = lex U Rp t := lex_skp U Rp (skp_nl [] skp_nil t)
    rw [h2]
    rfl
  | succ n ih =>
    intro s hs
    obtain ⟨u, hu⟩ := skp_suf s
    obtain ⟨r, b, hrb⟩ : ∃ r b, skp s = (r, b) := ⟨_, _, rfl⟩
    have hat := skp_at s r b hrb
    rw [hrb] at hu
    simp only at hu
    cases b with
    | false =>
      rw [lex_open U Rp hrb]
      refine ⟨fun h => (by cases h), fun m e h => ?_⟩
      cases h
      exact .inr ⟨u, r, hu, rfl, hat.1 rfl⟩
    | true =>
      rcases hat.2 rfl with rfl | ⟨c, r', rfl, hw, hk⟩
      · rw [lex_end U Rp hrb]
        refine ⟨fun _ => ?_, fun m e h => by cases h⟩
        have h2 : lex U Rp (s ++ 10 :: t) = lex U Rp t := lex_skp U Rp (skp_nl s hrb t)
        rw [h2]
        rfl
      · obtain ⟨u', hu', happ⟩ := skp_app s _ hrb (List.cons_ne_nil _ _)
        have hsk : skp (s ++ 10 :: t) = ((c :: r') ++ 10 :: t, true) := by
          rw [hu', List.append_assoc, happ]
          exact skp_self hw (cmk_nl hk t)
        have htn := tokL_nl U Rp t (c :: r') (List.cons_ne_nil _ _)
        cases ht : tokL U Rp (c :: r') with
        | bad e =>
          rw [ht] at htn
          rw [lex_bad U Rp hrb (List.cons_ne_nil _ _) ht]
          refine ⟨fun h => (by cases h), fun m e' h => .inl ?_⟩
          cases h
          rw [lex_bad U Rp hsk (by simp) htn]
          simp only [List.length_append, List.length_cons]
        | ok k x r2 =>
          rw [ht] at htn
          have hlt := tok_lt U Rp ht
          have hle := skp_le s
          rw [hrb] at hle
          simp only at hle
          obtain ⟨ih1, ih2⟩ := ih r2 (by omega)
          rw [lex_tok U Rp hrb ht, lex_tok U Rp hsk htn]
          refine ⟨fun h => ?_, fun m e h => ?_⟩
          · rw [ih1 h]
            simp only [List.map_cons, List.cons_append, Tk.up, List.length_append, List.length_cons]
            rw [show r'.length + (t.length + 1) + 1 = r'.length + 1 + (t.length + 1) by omega]
          · rcases ih2 m e h with h5 | ⟨v, r3, h5, h6, h7⟩
            · exact .inl h5
            · obtain ⟨w, _, hw2, _⟩ := tokL_app U Rp ht
              exact .inr ⟨u ++ w ++ v, r3, by rw [hu, hw2, h5]; simp, h6, h7⟩
/-- WHITE SPACE before a token -/
theorem lex_gap {g : Bs} (hg : ∀ r, skp (32 :: (g ++ r)) = skp r) : ∀ (n : Nat) (s : Bs) (ts : List Tk), lex U Rp s = (ts, none) → n < ts.length →
    ∃ a b, s = a ++ b ∧ (∀ x, ts[n]? = some x → x.rem = b.length) ∧ lex U Rp (a ++ 32 :: (g ++ b)) = ((ts.take n).map (Tk.up (g.length + 1)) ++ ts.drop n, none) := by
  intro n
  induction n with
  | zero =>
    intro s ts h hn
    obtain ⟨r, b, hrb⟩ : ∃ r b, skp s = (r, b) := ⟨_, _, rfl⟩
    have hat := skp_at s r b hrb
    cases b with
    | false => rw [lex_open U Rp hrb] at h; cases h
    | true =>
      rcases hat.2 rfl with rfl | ⟨c, r', rfl, hw, hk⟩
      · rw [lex_end U Rp hrb] at h; cases h; simp at hn
      · obtain ⟨u', hu', happ⟩ := skp_app s _ hrb (List.cons_ne_nil _ _)
        refine ⟨u', c :: r', hu', fun x hx => ?_, ?_⟩
        · cases ht : tokL U Rp (c :: r') with
          | bad e => rw [lex_bad U Rp hrb (List.cons_ne_nil _ _) ht] at h; cases h
          | ok k y r2 =>
            rw [lex_tok U Rp hrb ht] at h
            have h1 := congrArg Prod.fst h
            simp only at h1
            rw [← h1] at hx
            cases hx
            rfl
        · have h2 : lex U Rp (u' ++ 32 :: (g ++ c :: r')) = lex U Rp s := by
            refine lex_skp U Rp ?_
            rw [happ, hg, hrb, skp_self hw hk]
          rw [h2, h]
          rfl
  | succ n ih =>
    intro s ts h hn
    obtain ⟨r, b, hrb⟩ : ∃ r b, skp s = (r, b) := ⟨_, _, rfl⟩
    have hat := skp_at s r b hrb
    cases b with
    | false => rw [lex_open U Rp hrb] at h; cases h
    | true =>
      rcases hat.2 rfl with rfl | ⟨c, r', rfl, hw, hk⟩
      · rw [lex_end U Rp hrb] at h; cases h; simp at hn
      · obtain ⟨u', hu', happ⟩ := skp_app s _ hrb (List.cons_ne_nil _ _)
        cases ht : tokL U Rp (c :: r') with
        | bad e => rw [lex_bad U Rp hrb (List.cons_ne_nil _ _) ht] at h; cases h
        | ok k y r2 =>
          rw [lex_tok U Rp hrb ht] at h
          obtain ⟨ts2, hts2⟩ : ∃ x, lex U Rp r2 = (x, none) := by
            refine ⟨(lex U Rp r2).1, ?_⟩
            have h1 := congrArg Prod.snd h
            simp only at h1
            rw [← h1]
          rw [hts2] at h
          cases h
          simp only [List.length_cons] at hn
          obtain ⟨a2, b2, h1, h2, h3⟩ := ih r2 ts2 hts2 (by omega)
          obtain ⟨w, w1, w2, w3⟩ := tokL_app U Rp ht
          have hla : LkA r2 (a2 ++ 32 :: (g ++ b2)) := by
            cases a2 with
            | nil => exact .inr (.inl rfl)
            | cons p q => rw [h1]; exact .inl rfl
          refine ⟨u' ++ (w ++ a2), b2, by rw [hu', w2, h1]; simp, fun x hx => h2 x (by simpa using hx), ?_⟩
          have htk := w3 _ hla
          cases w with
          | nil => exact absurd rfl w1
          | cons d w =>
            have hdc : c = d := by
              have := congrArg List.head? w2
              simpa using this
            subst hdc
            have hr' : r' = w ++ r2 := by
              have := congrArg List.tail w2
              simpa using this
            have hck : cmk (c :: (w ++ (a2 ++ 32 :: (g ++ b2)))) = 0 := by
              rw [hr'] at hk
              cases w with
              | cons p q => exact hk
              | nil =>
                cases a2 with
                | cons p q =>
                  rw [h1] at hk
                  exact hk
                | nil =>
                  show cmk (c :: 32 :: (g ++ b2)) = 0
                  unfold cmk
                  rw [if_neg (by simp), if_neg (by simp)]
            have hsk : skp ((u' ++ (c :: w ++ a2)) ++ 32 :: (g ++ b2)) = (c :: w ++ (a2 ++ 32 :: (g ++ b2)), true) := by
              have h5 : (u' ++ (c :: w ++ a2)) ++ 32 :: (g ++ b2) = u' ++ (c :: (w ++ (a2 ++ 32 :: (g ++ b2)))) := by simp
              rw [h5, happ]
              exact skp_self hw hck
            rw [lex_tok U Rp hsk htk, h3]
            simp only [List.take_succ_cons, List.map_cons, List.drop_succ_cons, List.cons_append, Tk.up]
            have h6 : (c :: (w ++ (a2 ++ 32 :: (g ++ b2)))).length = (c :: r').length + (g.length + 1) := by
              rw [hr', h1]
              simp only [List.length_cons, List.length_append]
              omega
            rw [h6]
end
end Go.Proofs.YtnhbboknffppiaaDoor

/- Own work: the lexer, plain: literals of any text; tokens joined by blanks. -/
namespace Go.Proofs.YtnhbboknffppiaaDoor
set_option linter.unusedSimpArgs false
set_option linter.unusedSectionVars false

def hexd (n : Nat) : UInt8 := if n < 10 then UInt8.ofNat (48 + n) else UInt8.ofNat (87 + n)
/-- a byte of a literal -/
def qB (c : UInt8) : Bs := if c = 34 ∨ c = 92 then [92, c] else if c = 10 then [92, 110] else if c = 9 then [92, 116] else if c = 13 then [92, 114] else if c = 8 then [92, 98] else if c.toNat < 32 ∨ c = 127 then [92, 120, hexd (c.toNat / 16), hexd (c.toNat % 16)] else [c]
def quo (x : Bs) : Bs := 34 :: (x.flatMap qB ++ [34])
theorem hexd_all : ((List.range 256).all fun n => decide (hexv (hexd (n / 16)) = some (n / 16)) && decide (hexv (hexd (n % 16)) = some (n % 16))) = true := by decide +kernel
section
variable (U : Nat → Bs) (Rp : Bs → Bs)
theorem lit_quo (hU : ∀ n, n < 128 → U n = [UInt8.ofNat n]) (r : Bs) : ∀ x : Bs, lit U 34 (x.flatMap qB ++ 34 :: r) = some (x, r)
  | [] => lit_end U 34 r
  | c :: x => by
    have ih := lit_quo hU r x
    rw [List.flatMap_cons, List.append_assoc]
    generalize hz : x.flatMap qB ++ 34 :: r = z at ih ⊢
    have esc : ∀ (d : UInt8) (y : Bs), escL U (d :: y) = some ([c], z) → lit U 34 (92 :: d :: y) = some (c :: x, r) := fun d y h => by
      rw [lit_esc U (by decide) (by decide) rfl h, ih]
      rfl
    unfold qB
    split
    · rename_i h
      refine esc c z ?_
      rw [escL]
      rcases h with rfl | rfl <;> rfl
    · rename_i h1
      split
      · rename_i h; subst h; exact esc 110 z rfl
      · rename_i h2
        split
        · rename_i h; subst h; exact esc 116 z rfl
        · split
          · rename_i h; subst h; exact esc 114 z rfl
          · rename_i h4
            split
            · rename_i h; subst h; exact esc 98 z rfl
            · split
              · rename_i h
                refine esc 120 _ ?_
                have hc := List.all_eq_true.1 hexd_all c.toNat (List.mem_range.2 c.toNat_lt)
                simp only [Bool.and_eq_true, decide_eq_true_eq] at hc
                show hxL U (hexd (c.toNat / 16) :: hexd (c.toNat % 16) :: z) = _
                rw [hxL]
                rw [hc.1, hc.2]
                simp only
                have e : 16 * (c.toNat / 16) + c.toNat % 16 = c.toNat := Nat.div_add_mod _ _
                have hl : c.toNat < 128 := by
                  rcases h with h | h
                  · omega
                  · subst h; decide
                rw [e, hU _ hl, UInt8.ofNat_toNat]
              · show lit U 34 (c :: z) = _
                rw [lit_chr U z (fun e => h1 (.inl e)) (by rintro (e | e); exact h2 e; exact h4 e) (fun e => h1 (.inr e)), ih]
                rfl
/-- A LITERAL of any text is one token -/
theorem tok_quo (hU : ∀ n, n < 128 → U n = [UInt8.ofNat n]) (x r : Bs) : skp (quo x ++ r) = (quo x ++ r, true) ∧ tokL U Rp (quo x ++ r) = .ok 4 (Rp x) r := by
  refine ⟨?_, ?_⟩
  · refine skp_self (c := 34) (by decide) ?_
    unfold cmk
    rw [if_neg (by simp), if_neg (by simp)]
  · show tokL U Rp (34 :: ((x.flatMap qB ++ [34]) ++ r)) = _
    rw [tokL]
    rw [if_neg (by decide), if_neg (by decide), if_pos (.inl rfl)]
    have : (x.flatMap qB ++ [34]) ++ r = x.flatMap qB ++ 34 :: r := by simp
    rw [this, lit_quo U hU r x]
theorem lex_quo (hU : ∀ n, n < 128 → U n = [UInt8.ofNat n]) (x : Bs) : lex U Rp (quo x) = ([⟨4, Rp x, (quo x).length⟩], none) := by
  have h := tok_quo U Rp hU x []
  rw [List.append_nil] at h
  rw [lex_tok U Rp h.1 h.2, lex_end U Rp skp_nil]
/-- a text that is one token -/
structure One (w : Bs) (k : Int) (t : Bs) : Prop where
  s : skp w = (w, true)
  t : tokL U Rp w = .ok k t []
theorem One.cat {w t : Bs} {k : Int} (h : One U Rp w k t) (z : Bs) : lex U Rp (w ++ 32 :: z) = (⟨k, t, w.length + 1 + z.length⟩ :: (lex U Rp z).1, (lex U Rp z).2) := by
  obtain ⟨u, h1, h2, h3⟩ := tokL_app U Rp h.t
  rw [List.append_nil] at h2
  subst h2
  have h4 := h3 (32 :: z) (.inr (.inl rfl))
  have hat := skp_at w w true h.s
  rcases hat.2 rfl with e | ⟨c, r', e, hw, hk⟩
  · exact absurd e h1
  · subst e
    have hck : cmk (c :: (r' ++ 32 :: z)) = 0 := by
      cases r' with
      | cons p q => exact hk
      | nil =>
        show cmk (c :: 32 :: z) = 0
        unfold cmk
        rw [if_neg (by simp), if_neg (by simp)]
    have hsk : skp ((c :: r') ++ 32 :: z) = ((c :: r') ++ 32 :: z, true) := skp_self hw hck
    rw [lex_tok U Rp hsk h4]
    have h5 : lex U Rp (32 :: z) = lex U Rp z := lex_skp U Rp (skp_ws (by decide))
    rw [h5]
    have h6 : ((c :: r') ++ 32 :: z).length = (c :: r').length + 1 + z.length := by
      rw [List.length_append, List.length_cons (a := 32)]; omega
    rw [h6]
theorem One.lex {w t : Bs} {k : Int} (h : One U Rp w k t) : lex U Rp w = ([⟨k, t, w.length⟩], none) := by
  rw [lex_tok U Rp h.s h.t, lex_end U Rp skp_nil]
theorem tok_same {l t r : Bs} {k : Int} (h : tokL U Rp l = .ok k t r) (hk : k ≠ 4) : l = t ++ r := by
  cases l with
  | nil => cases h
  | cons c l =>
    rw [tokL] at h
    split at h
    · cases h
      exact (tw_all (p := wrd) (c :: l)).2.2.symm
    · split at h
      · unfold numL at h
        split at h
        · cases h
        · split at h
          · cases h
          · split at h
            · cases h
            · cases h
              exact (tw_all (p := dgt) (c :: l)).2.2.symm
      · split at h
        · cases hl : lit U c l with
          | none => rw [hl] at h; cases h
          | some z => rw [hl] at h; cases h; exact absurd rfl hk
        · cases ho : opL (c :: l) with
          | none => rw [ho] at h; cases h
          | some w =>
            rw [ho] at h
            cases h
            exact (opL_some ho).2.1
/-- a text whose one token is all of it -/
theorem one_of {w : Bs} {k : Int} {m : Nat} (h : lex U Rp w = ([⟨k, w, m⟩], none)) (hk : k ≠ 4) : One U Rp w k w := by
  obtain ⟨u, hu⟩ := skp_suf w
  obtain ⟨r, b, hrb⟩ : ∃ r b, skp w = (r, b) := ⟨_, _, rfl⟩
  have hat := skp_at w r b hrb
  rw [hrb] at hu
  simp only at hu
  cases b with
  | false => rw [lex_open U Rp hrb] at h; cases h
  | true =>
    rcases hat.2 rfl with rfl | ⟨c, r', rfl, hw, hk'⟩
    · rw [lex_end U Rp hrb] at h; cases h
    · cases ht : tokL U Rp (c :: r') with
      | bad e => rw [lex_bad U Rp hrb (List.cons_ne_nil _ _) ht] at h; cases h
      | ok k2 t2 r2 =>
        rw [lex_tok U Rp hrb ht] at h
        have h1 := congrArg Prod.fst h
        simp only at h1
        have h2 := (List.cons.inj h1).1
        have ek : k2 = k := congrArg Tk.k h2
        have et : t2 = w := congrArg Tk.t h2
        subst ek et
        have h3 := tok_same U Rp ht hk
        have h4 : (c :: r').length = t2.length + r2.length := by rw [h3, List.length_append]
        have h5 : t2.length = u.length + (c :: r').length := by
          have := congrArg List.length hu
          rw [List.length_append] at this
          exact this
        have hu0 : u = [] := List.eq_nil_of_length_eq_zero (by omega)
        have hr0 : r2 = [] := List.eq_nil_of_length_eq_zero (by omega)
        subst hu0 hr0
        rw [List.nil_append] at hu
        exact ⟨by rw [hrb, ← hu], by rw [← hu] at ht; exact ht⟩
def joinB : List Bs → Bs
  | [] => []
  | [x] => x
  | x :: y :: l => x ++ 32 :: joinB (y :: l)
/-- TOKENS JOINED by blanks -/
theorem lex_join : ∀ (l : List (Bs × Int × Bs)), (∀ x ∈ l, One U Rp x.1 x.2.1 x.2.2) → ∃ ts, lex U Rp (joinB (l.map (·.1))) = (ts, none) ∧ ts.map (fun x => (x.k, x.t)) = l.map (·.2)
  | [], _ => ⟨[], lex_end U Rp skp_nil, rfl⟩
  | [x], h => ⟨_, One.lex U Rp (h x (List.mem_cons_self ..)), rfl⟩
  | x :: y :: l, h => by
    obtain ⟨ts, h1, h2⟩ := lex_join (y :: l) (fun z hz => h z (List.mem_cons_of_mem _ hz))
    have h3 := One.cat U Rp (h x (List.mem_cons_self ..)) (joinB ((y :: l).map (·.1)))
    rw [h1] at h3
    exact ⟨_, h3, by rw [List.map_cons, h2]; rfl⟩
end
end Go.Proofs.YtnhbboknffppiaaDoor

/- Own work: the lexer, plain: words and numbers. -/
namespace Go.Proofs.YtnhbboknffppiaaDoor
set_option linter.unusedSimpArgs false
set_option linter.unusedSectionVars false

theorem dgt_ltr : ∀ c : UInt8, dgt c = true → ltr c = false ∧ wsp c = false ∧ c ≠ 47 := by
  intro c h
  unfold dgt at h
  simp only [decide_eq_true_eq] at h
  have h1 : 48 ≤ c.toNat := UInt8.le_iff_toNat_le.1 h.1
  have h2 : c.toNat ≤ 57 := UInt8.le_iff_toNat_le.1 h.2
  have key := List.all_eq_true.1 (show ((List.range 256).all fun n => !(decide (48 ≤ n) && decide (n ≤ 57)) || (!ltr (UInt8.ofNat n) && (!wsp (UInt8.ofNat n) && decide (UInt8.ofNat n ≠ 47)))) = true by decide +kernel) c.toNat (List.mem_range.2 c.toNat_lt)
  rw [UInt8.ofNat_toNat] at key
  simp only [h1, h2, decide_true, Bool.and_self, Bool.not_true, Bool.false_or, Bool.and_eq_true, Bool.not_eq_true', decide_eq_true_eq] at key
  exact key
theorem ltr_ok : ∀ c : UInt8, ltr c = true → wsp c = false ∧ c ≠ 47 := by
  intro c h
  have key := List.all_eq_true.1 (show ((List.range 256).all fun n => !ltr (UInt8.ofNat n) || (!wsp (UInt8.ofNat n) && decide (UInt8.ofNat n ≠ 47))) = true by decide +kernel) c.toNat (List.mem_range.2 c.toNat_lt)
  rw [UInt8.ofNat_toNat] at key
  simp only [h, Bool.not_true, Bool.false_or, Bool.and_eq_true, Bool.not_eq_true', decide_eq_true_eq] at key
  exact key
theorem cmk_0 {c : UInt8} (r : Bs) (h : c ≠ 47) : cmk (c :: r) = 0 := by
  unfold cmk
  rw [if_neg, if_neg]
  · cases r with
    | nil => simp
    | cons d r => simp [h]
  · cases r with
    | nil => simp
    | cons d r => simp [h]
/-- the digits of a number -/
def dig (n : Nat) : Bs := if n < 10 then [UInt8.ofNat (48 + n)] else dig (n / 10) ++ [UInt8.ofNat (48 + n % 10)]
termination_by n
decreasing_by omega
theorem dig_lt {n : Nat} (h : n < 10) : dig n = [UInt8.ofNat (48 + n)] := by rw [dig, if_pos h]
theorem dig_ge {n : Nat} (h : ¬ n < 10) : dig n = dig (n / 10) ++ [UInt8.ofNat (48 + n % 10)] := by rw [dig, if_neg h]
theorem d_nat {m : Nat} (h : m < 10) : (UInt8.ofNat (48 + m)).toNat = 48 + m := by
  rw [UInt8.toNat_ofNat']; omega
theorem d_dgt {m : Nat} (h : m < 10) : dgt (UInt8.ofNat (48 + m)) = true := by
  have := d_nat h
  unfold dgt
  simp only [decide_eq_true_eq]
  exact ⟨UInt8.le_iff_toNat_le.2 (by rw [this]; show 48 ≤ 48 + m; omega), UInt8.le_iff_toNat_le.2 (by rw [this]; show 48 + m ≤ 57; omega)⟩
theorem dig_spec : ∀ (k n : Nat), n ≤ k → (∀ c ∈ dig n, dgt c = true) ∧ dig n ≠ [] ∧ decN (dig n) = n ∧ (0 < n → (dig n).head? ≠ some 48)
  | k, n, h => by
    by_cases hn : n < 10
    · rw [dig_lt hn]
      refine ⟨fun c hc => ?_, List.cons_ne_nil _ _, ?_, fun h0 e => ?_⟩
      · rcases List.mem_cons.1 hc with rfl | hc
        · exact d_dgt hn
        · cases hc
      · show 10 * 0 + ((UInt8.ofNat (48 + n)).toNat - 48) = n
        rw [d_nat hn]; omega
      · have h1 : UInt8.ofNat (48 + n) = 48 := Option.some.inj e
        have h2 := congrArg UInt8.toNat h1
        rw [d_nat hn] at h2
        have h3 : (48 : UInt8).toNat = 48 := rfl
        omega
    · rw [dig_ge hn]
      cases k with
      | zero => omega
      | succ k =>
        obtain ⟨h1, h2, h3, h4⟩ := dig_spec k (n / 10) (by omega)
        refine ⟨fun c hc => ?_, by simp, ?_, fun _ => ?_⟩
        · rcases List.mem_append.1 hc with hc | hc
          · exact h1 c hc
          · rcases List.mem_cons.1 hc with rfl | hc
            · exact d_dgt (by omega)
            · cases hc
        · unfold decN at h3 ⊢
          rw [List.foldl_append, h3]
          show 10 * (n / 10) + ((UInt8.ofNat (48 + n % 10)).toNat - 48) = n
          rw [d_nat (by omega)]; omega
        · cases hd : dig (n / 10) with
          | nil => exact absurd hd h2
          | cons a b =>
            rw [hd] at h4
            exact h4 (by omega)
section
variable (U : Nat → Bs) (Rp : Bs → Bs)
theorem tok_num {l : Bs} (h : ∀ c ∈ l, dgt c = true) (hn : l ≠ []) : skp l = (l, true) ∧ tokL U Rp l = numL l ∧ l.takeWhile dgt = l ∧ l.dropWhile dgt = [] := by
  cases l with
  | nil => exact absurd rfl hn
  | cons c l =>
    have hc := h c (List.mem_cons_self ..)
    obtain ⟨h1, h2, h3⟩ := dgt_ltr c hc
    have h4 := tw_app (p := dgt) (c :: l) [] h (fun x hx => by cases hx)
    rw [List.append_nil] at h4
    refine ⟨skp_self h2 (cmk_0 l h3), ?_, h4.1, h4.2⟩
    rw [tokL]
    rw [if_neg (by rw [h1]; decide), if_pos hc]
/-- NUMBERS -/
theorem lex_dig (n : Nat) : lex U Rp (dig n) = if 9223372036854775807 < n then ([], some ((dig n).length, 5)) else ([⟨3, dig n, (dig n).length⟩], none) := by
  obtain ⟨h1, h2, h3, h4⟩ := dig_spec n n (Nat.le_refl _)
  obtain ⟨k1, k2, k3, k4⟩ := tok_num U Rp h1 h2
  have hz : ¬ ((dig n).head? = some 48 ∧ 1 < (dig n).length) := fun ⟨e1, e2⟩ => by
    by_cases hn : n < 10
    · rw [dig_lt hn] at e2; simp at e2
    · exact h4 (by omega) e1
  have hnum : numL (dig n) = if 9223372036854775807 < n then .bad 5 else .ok 3 (dig n) [] := by
    unfold numL
    rw [k3, k4, if_neg hz, if_neg (by simp), h3]
  split
  · rename_i h
    rw [lex_bad U Rp k1 h2 (by rw [k2, hnum, if_pos h])]
  · rename_i h
    rw [lex_tok U Rp k1 (by rw [k2, hnum, if_neg h]), lex_end U Rp skp_nil]
theorem lex_zeros (n z : Nat) (hz : 0 < z) : lex U Rp (32 :: (List.replicate z 48 ++ dig n)) = ([], some ((List.replicate z 48 ++ dig n).length, 4)) := by
  obtain ⟨h1, h2, h3, h4⟩ := dig_spec n n (Nat.le_refl _)
  have hall : ∀ c ∈ List.replicate z 48 ++ dig n, dgt c = true := fun c hc => by
    rcases List.mem_append.1 hc with hc | hc
    · rw [List.eq_of_mem_replicate hc]; decide
    · exact h1 c hc
  have hne : List.replicate z (48 : UInt8) ++ dig n ≠ [] := fun e => h2 (List.append_eq_nil_iff.1 e).2
  obtain ⟨k1, k2, k3, k4⟩ := tok_num U Rp hall hne
  have hp : 0 < (dig n).length := List.length_pos_iff.2 h2
  obtain ⟨m, rfl⟩ : ∃ m, z = m + 1 := ⟨z - 1, by omega⟩
  have hnum : numL (List.replicate (m + 1) 48 ++ dig n) = .bad 4 := by
    unfold numL
    rw [k3, if_pos ⟨rfl, by rw [List.length_append, List.length_replicate]; omega⟩]
  have h5 : skp (32 :: (List.replicate (m + 1) 48 ++ dig n)) = (List.replicate (m + 1) 48 ++ dig n, true) := by
    rw [skp_ws (by decide), k1]
  rw [lex_bad U Rp h5 hne (by rw [k2, hnum])]
/-- WORDS -/
theorem lex_kw {w : Bs} (h : isKw w = true) : One U Rp w 2 w := by
  obtain ⟨x, hx, he⟩ := List.any_eq_true.1 h
  have hxw : x = w := by simpa using he
  subst hxw
  have h1 := List.all_eq_true.1 (show (kwL.all fun w => w.all ltr && !w.isEmpty) = true by decide +kernel) x hx
  simp only [Bool.and_eq_true, List.all_eq_true, Bool.not_eq_true', List.isEmpty_eq_false_iff] at h1
  obtain ⟨h1, h2⟩ := h1
  cases x with
  | nil => exact absurd rfl h2
  | cons c l =>
    have hc := h1 c (List.mem_cons_self ..)
    obtain ⟨k1, k2⟩ := ltr_ok c hc
    have h4 := tw_app (p := wrd) (c :: l) [] (fun y hy => by unfold wrd; rw [h1 y hy]; rfl) (fun y hy => by cases hy)
    rw [List.append_nil] at h4
    refine ⟨skp_self k1 (cmk_0 l k2), ?_⟩
    rw [tokL]
    rw [if_pos hc, h4.1, h4.2, h]
    rfl
theorem one_kw {w : Bs} (h : One U Rp w 2 w) : isKw w = true := by
  have ht := h.t
  cases w with
  | nil => cases ht
  | cons c l =>
    rw [tokL] at ht
    split at ht
    · have h1 : (c :: l).takeWhile wrd = c :: l := by
        injection ht
      rw [h1] at ht
      cases hk : isKw (c :: l) with
      | true => rfl
      | false =>
        rw [hk] at ht
        injection ht with e1 e2 e3
        cases e1
    · split at ht
      · unfold numL at ht
        split at ht
        · cases ht
        · split at ht
          · cases ht
          · split at ht
            · cases ht
            · injection ht with e1 e2 e3
              cases e1
      · split at ht
        · cases hl : lit U c l with
          | none => rw [hl] at ht; cases ht
          | some z => rw [hl] at ht; injection ht with e1 e2 e3; cases e1
        · cases ho : opL (c :: l) with
          | none => rw [ho] at ht; cases ht
          | some w => rw [ho] at ht; injection ht with e1 e2 e3; cases e1
end
end Go.Proofs.YtnhbboknffppiaaDoor
