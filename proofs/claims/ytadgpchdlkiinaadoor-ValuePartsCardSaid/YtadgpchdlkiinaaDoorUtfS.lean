/- Own work, plain: texts as lists of code points, cut and searched. -/
import Derived.Test.YtadgpchdlkiinaaDoorUtfO
import Derived.Lib.IndexMore
namespace Go.Proofs.YtadgpchdlkiinaaDoor
open Go.Lib

def VR (L : List Int) : Prop := ∀ r ∈ L, ∃ q : Nat, validR q ∧ r = (q : Int)
def encs (L : List Int) : List UInt8 := L.flatMap encL
theorem encs_nil : encs [] = [] := rfl
theorem encs_cons (r : Int) (L : List Int) : encs (r :: L) = encL r ++ encs L := by simp [encs]
theorem encs_app (L M : List Int) : encs (L ++ M) = encs L ++ encs M := by simp [encs]
theorem vr_cons {r : Int} {L : List Int} (h : VR (r :: L)) : (∃ q : Nat, validR q ∧ r = (q : Int)) ∧ VR L := ⟨h r (by simp), fun x hx => h x (by simp [hx])⟩
theorem vr_take {L : List Int} (h : VR L) (n : Nat) : VR (L.take n) := fun r hr => h r (List.mem_of_mem_take hr)
theorem vr_drop {L : List Int} (h : VR L) (n : Nat) : VR (L.drop n) := fun r hr => h r (List.mem_of_mem_drop hr)
/-- a byte that begins no code point -/
def cont (c : UInt8) : Prop := 128 ≤ c.toNat ∧ c.toNat < 192
theorem enc_head (q : Nat) (hq : validR q) : ∃ b bs, encL (q : Int) = b :: bs ∧ ¬ cont b ∧ ∀ c ∈ bs, cont c := by
  rw [encL_bytes q hq]
  unfold validR at hq
  unfold bytesN cont
  split
  · refine ⟨_, _, rfl, ?_, by simp⟩
    rw [u8n _ (by omega)]; omega
  split
  · refine ⟨_, _, rfl, ?_, ?_⟩
    · rw [u8n _ (by omega)]; omega
    · intro c hc
      obtain ⟨m, hm, rfl⟩ := List.mem_map.1 hc
      simp only [List.mem_cons, List.not_mem_nil, or_false] at hm
      subst hm
      rw [u8n _ (by omega)]; omega
  split
  · refine ⟨_, _, rfl, ?_, ?_⟩
    · rw [u8n _ (by omega)]; omega
    · intro c hc
      obtain ⟨m, hm, rfl⟩ := List.mem_map.1 hc
      simp only [List.mem_cons, List.not_mem_nil, or_false] at hm
      rcases hm with rfl | rfl
      · rw [u8n _ (by omega)]; omega
      · rw [u8n _ (by omega)]; omega
  · refine ⟨_, _, rfl, ?_, ?_⟩
    · rw [u8n _ (by omega)]; omega
    · intro c hc
      obtain ⟨m, hm, rfl⟩ := List.mem_map.1 hc
      simp only [List.mem_cons, List.not_mem_nil, or_false] at hm
      rcases hm with rfl | rfl | rfl
      · rw [u8n _ (by omega)]; omega
      · rw [u8n _ (by omega)]; omega
      · rw [u8n _ (by omega)]; omega
theorem enc_pos (q : Nat) (hq : validR q) : 1 ≤ (encL (q : Int)).length := by
  obtain ⟨b, bs, h, _, _⟩ := enc_head q hq
  rw [h]; simp
theorem dec_valid (l : List UInt8) (hne : l ≠ []) : validR (decodeL l).1 := by
  by_cases hc : (decodeL l).1 = 65533 ∧ (decodeL l).2 = 1
  · rw [hc.1]; unfold validR; omega
  · have he := encode_decode l hne hc
    rw [← encL_eq] at he
    obtain ⟨q, hq, hqe⟩ := encL_valid ((decodeL l).1 : Int)
    have hd := dec_enc q hq (l.drop (decodeL l).2)
    rw [← hqe, he, List.take_append_drop] at hd
    rw [hd]; exact hq
theorem runesB_vr : ∀ (n : Nat) (l : List UInt8), VR (runesB n l)
  | 0, _ => fun r hr => by simp [runesB] at hr
  | n + 1, l => by
    unfold runesB
    split
    · exact fun r hr => by simp at hr
    · rename_i hne
      intro r hr
      rcases List.mem_cons.1 hr with rfl | hr
      · exact ⟨_, dec_valid l hne, rfl⟩
      · exact runesB_vr n _ r hr
theorem repair_encs : ∀ (n : Nat) (l : List UInt8), l.length ≤ n → repairL l = encs (runesB n l)
  | 0, l, h => by
    have : l = [] := List.eq_nil_of_length_eq_zero (by omega)
    subst this; rfl
  | n + 1, l, h => by
    unfold runesB
    split
    · rename_i he; subst he; rfl
    · rename_i hne
      have hw := decodeL_width l hne
      rw [repairL_step l hne, encs_cons, repair_encs n (l.drop (decodeL l).2) (by rw [List.length_drop]; have := List.length_pos_iff.2 hne; omega)]
theorem runes_encs : ∀ (L : List Int) (n : Nat), VR L → (encs L).length ≤ n → runesB n (encs L) = L
  | [], n, _, _ => by cases n <;> simp [runesB, encs]
  | r :: L, n, hv, hn => by
    obtain ⟨⟨q, hq, rfl⟩, hL⟩ := vr_cons hv
    have hp := enc_pos q hq
    rw [encs_cons, List.length_append] at hn
    cases n with
    | zero => omega
    | succ n =>
      rw [encs_cons]
      unfold runesB
      rw [if_neg (by intro h; have := congrArg List.length h; rw [List.length_append, List.length_nil] at this; omega), dec_enc q hq]
      simp only [List.drop_left]
      rw [runes_encs L n hL (by omega)]
theorem encs_len (L : List Int) : VR L → L.length ≤ (encs L).length := by
  induction L with
  | nil => intro _; simp
  | cons r L ih =>
    intro hv
    obtain ⟨⟨q, hq, rfl⟩, hL⟩ := vr_cons hv
    have := enc_pos q hq
    have := ih hL
    rw [encs_cons, List.length_append, List.length_cons]; omega
theorem encs_le : ∀ (L : List Int), (encs L).length ≤ 4 * L.length
  | [] => by simp [encs]
  | r :: L => by
    have := encL_length r
    have := encs_le L
    rw [encs_cons, List.length_append, List.length_cons]; omega
/-- a text that begins another one -/
theorem encs_prefix : ∀ (M R : List Int), VR M → VR R → encs M <+: encs R → M <+: R
  | [], R, _, _, _ => List.nil_prefix
  | m :: M, R, hM, hR, ⟨t, ht⟩ => by
    obtain ⟨⟨q, hq, rfl⟩, hM'⟩ := vr_cons hM
    have hp := enc_pos q hq
    rw [encs_cons] at ht
    cases R with
    | nil =>
      have := congrArg List.length ht
      rw [List.length_append, List.length_append, encs_nil, List.length_nil] at this
      omega
    | cons r R =>
      obtain ⟨⟨p, hpv, rfl⟩, hR'⟩ := vr_cons hR
      rw [encs_cons, List.append_assoc] at ht
      have h1 := dec_enc q hq (encs M ++ t)
      rw [ht, dec_enc p hpv] at h1
      have e : p = q := congrArg Prod.fst h1
      subst e
      have ht' := List.append_cancel_left ht
      obtain ⟨u, hu⟩ := encs_prefix M R hM' hR' ⟨t, ht'⟩
      exact ⟨u, by rw [← hu]; rfl⟩
theorem prefix_encs {M R : List Int} (h : M <+: R) : encs M <+: encs R := by
  obtain ⟨t, rfl⟩ := h
  exact ⟨encs t, by rw [encs_app]⟩
theorem encs_ne {M : List Int} (hM : VR M) (h : M ≠ []) : ∃ c N, encs M = c :: N ∧ ¬ cont c := by
  cases M with
  | nil => exact absurd rfl h
  | cons m M =>
    obtain ⟨⟨q, hq, rfl⟩, _⟩ := vr_cons hM
    obtain ⟨b, bs, hb, hn, _⟩ := enc_head q hq
    exact ⟨b, bs ++ encs M, by rw [encs_cons, hb]; rfl, hn⟩
/-- the first place of a list in another one -/
def idxR : List Int → List Int → Int
  | [], m => if m = [] then 0 else -1
  | b :: l, m => if m <+: b :: l then 0 else if idxR l m = -1 then -1 else idxR l m + 1
theorem index_cont (X : List UInt8) (c : UInt8) (N : List UInt8) (hc : ¬ cont c) : ∀ bs : List UInt8, (∀ b ∈ bs, cont b) → index (bs ++ X) (c :: N) = if index X (c :: N) = -1 then -1 else index X (c :: N) + (bs.length : Nat)
  | [], _ => by
    simp only [List.nil_append, List.length_nil]
    split
    · assumption
    · simp
  | b :: bs, h => by
    have ih := index_cont X c N hc bs fun x hx => h x (by simp [hx])
    have hbc : ¬ (c :: N) <+: b :: (bs ++ X) := by
      intro hp
      rw [List.cons_prefix_cons] at hp
      exact hc (hp.1 ▸ h b (by simp))
    rw [List.cons_append]
    have hpf : (c :: N).isPrefixOf (b :: (bs ++ X)) = false := by
      rw [Bool.eq_false_iff]
      intro hh
      exact hbc (List.isPrefixOf_iff_prefix.1 hh)
    conv => lhs; unfold index
    rw [hpf, ih]
    have hge := index_ge X (c :: N)
    by_cases he : index X (c :: N) = -1
    · simp [he]
    · have h2 : ¬ (index X (c :: N) + (bs.length : Nat)) = -1 := by omega
      simp [he, h2]
      omega
theorem index_encs (M : List Int) (hM : VR M) : ∀ (R : List Int), VR R → (idxR R M = -1 ∧ index (encs R) (encs M) = -1) ∨ ∃ j : Nat, j ≤ R.length ∧ idxR R M = j ∧ index (encs R) (encs M) = (((encs (R.take j)).length : Nat) : Int)
  | [], _ => by
    by_cases hm : M = []
    · subst hm; right; exact ⟨0, by simp, by simp [idxR], by simp [encs, index]⟩
    · left
      obtain ⟨c, N, h, _⟩ := encs_ne hM hm
      rw [h]
      exact ⟨by simp [idxR, hm], by simp [encs, index]⟩
  | r :: R, hR => by
    obtain ⟨⟨q, hq, rfl⟩, hR'⟩ := vr_cons hR
    obtain ⟨b, bs, hb, hn, hcs⟩ := enc_head q hq
    have e1 : encs ((q : Int) :: R) = b :: (bs ++ encs R) := by rw [encs_cons, hb]; rfl
    by_cases hp : M <+: (q : Int) :: R
    · right
      refine ⟨0, by simp, by unfold idxR; rw [if_pos hp]; rfl, ?_⟩
      have := prefix_encs hp
      rw [e1] at this ⊢
      unfold index
      rw [if_pos (List.isPrefixOf_iff_prefix.2 this)]
      simp [encs]
    · have hm : M ≠ [] := fun h => hp (by subst h; exact List.nil_prefix)
      have hnp : ¬ encs M <+: encs ((q : Int) :: R) := fun h => hp (encs_prefix M _ hM hR h)
      obtain ⟨c, N, hcN, hcc⟩ := encs_ne hM hm
      have hix : index (encs ((q : Int) :: R)) (encs M) = if index (encs R) (encs M) = -1 then -1 else index (encs R) (encs M) + (bs.length : Nat) + 1 := by
        rw [e1] at hnp ⊢
        have hpf : (encs M).isPrefixOf (b :: (bs ++ encs R)) = false := by
          rw [Bool.eq_false_iff]
          intro hh
          exact hnp (List.isPrefixOf_iff_prefix.1 hh)
        conv => lhs; unfold index
        have hge := index_ge (encs R) (encs M)
        rw [hpf]
        rw [hcN] at hge ⊢
        rw [index_cont (encs R) c N hcc bs hcs]
        by_cases he : index (encs R) (c :: N) = -1
        · simp [he]
        · have h2 : ¬ (index (encs R) (c :: N) + (bs.length : Nat)) = -1 := by omega
          simp [he, h2]
      have hidx : idxR ((q : Int) :: R) M = if idxR R M = -1 then -1 else idxR R M + 1 := by
        conv => lhs; unfold idxR
        rw [if_neg hp]
      rw [hix, hidx]
      rcases index_encs M hM R hR' with ⟨h1, h2⟩ | ⟨j, hj, h1, h2⟩
      · left; rw [h1, h2]; simp
      · right
        refine ⟨j + 1, by simp; omega, ?_, ?_⟩
        · rw [h1, if_neg (by omega)]; omega
        · rw [h2, if_neg (by omega), List.take_succ_cons, encs_cons, hb, List.length_append, List.length_cons]
          omega
/-- what idxR is -/
theorem idxR_spec (M : List Int) : ∀ R : List Int, (idxR R M = -1 ∧ ∀ j, j ≤ R.length → ¬ M <+: R.drop j) ∨ ∃ j : Nat, idxR R M = j ∧ j ≤ R.length ∧ M <+: R.drop j ∧ ∀ i, i < j → ¬ M <+: R.drop i
  | [] => by
    by_cases hm : M = []
    · subst hm; right; exact ⟨0, by simp [idxR], by simp, by simp, by intro i hi; omega⟩
    · left
      refine ⟨by simp [idxR, hm], fun j _ h => hm ?_⟩
      simpa using h
  | r :: R => by
    by_cases hp : M <+: r :: R
    · right; exact ⟨0, by unfold idxR; rw [if_pos hp]; rfl, by simp, hp, by intro i hi; omega⟩
    · have hidx : idxR (r :: R) M = if idxR R M = -1 then -1 else idxR R M + 1 := by
        conv => lhs; unfold idxR
        rw [if_neg hp]
      rw [hidx]
      rcases idxR_spec M R with ⟨h1, h2⟩ | ⟨j, h1, h2, h3, h4⟩
      · left
        refine ⟨by rw [h1]; rfl, fun j hj => ?_⟩
        cases j with
        | zero => exact hp
        | succ j => exact h2 j (by simpa using hj)
      · right
        refine ⟨j + 1, by rw [h1, if_neg (by omega)]; omega, by simpa using h2, h3, fun i hi => ?_⟩
        cases i with
        | zero => exact hp
        | succ i => exact h4 i (by omega)
/-- a list of code points as a text -/
def enB (L : List Int) : ByteArray := ⟨(encs L).toArray⟩
theorem enB_list (L : List Int) : (enB L).data.toList = encs L := by simp [enB]
theorem enB_size (L : List Int) : (enB L).size = (encs L).length := by simp [enB, ByteArray.size]
/-- where the n-th code point begins -/
def offs (L : List Int) (n : Nat) : Nat := (encs (L.take n)).length
theorem offs_zero (L : List Int) : offs L 0 = 0 := by simp [offs, encs]
theorem offs_len {L : List Int} {n : Nat} (h : L.length ≤ n) : offs L n = (encs L).length := by unfold offs; rw [List.take_of_length_le h]
theorem encs_split (L : List Int) (n : Nat) : encs L = encs (L.take n) ++ encs (L.drop n) := by rw [← encs_app, List.take_append_drop]
theorem offs_le (L : List Int) (n : Nat) : offs L n ≤ (encs L).length := by
  rw [encs_split L n, List.length_append]; unfold offs; omega
theorem encs_drop (L : List Int) (n : Nat) : (encs L).drop (offs L n) = encs (L.drop n) := by
  conv => lhs; rw [encs_split L n]
  unfold offs
  rw [List.drop_left]
theorem offs_succ (L : List Int) (n : Nat) (r : Int) (h : L[n]? = some r) : offs L (n + 1) = offs L n + (encL r).length := by
  unfold offs
  rw [List.take_add_one, h, encs_app, List.length_append]
  simp [encs]
theorem offs_mono (L : List Int) {a b : Nat} (h : a ≤ b) : offs L a ≤ offs L b := by
  obtain ⟨d, rfl⟩ := Nat.le.dest h
  unfold offs
  rw [List.take_add, encs_app, List.length_append]; omega
theorem dec_at {L : List Int} (hv : VR L) {n : Nat} {r : Int} (h : L[n]? = some r) : ∃ q : Nat, r = (q : Int) ∧ decodeL ((encs L).drop (offs L n)) = (q, (encL r).length) := by
  obtain ⟨q, hq, rfl⟩ := hv r (List.mem_of_getElem? h)
  refine ⟨q, rfl, ?_⟩
  obtain ⟨hn, he⟩ := List.getElem?_eq_some_iff.1 h
  rw [encs_drop, List.drop_eq_getElem_cons hn, he, encs_cons, dec_enc q hq]
theorem enB_ext (L : List Int) (a b : Nat) (h : a ≤ b) : (enB L).extract (offs L a) (offs L b) = enB ((L.take b).drop a) := by
  apply ByteArray.ext
  rw [ByteArray.data_extract]
  apply Array.toList_inj.1
  rw [Array.toList_extract, List.extract_eq_take_drop]
  have e1 : (enB L).data.toList = encs L := enB_list L
  have e2 : (enB ((L.take b).drop a)).data.toList = encs ((L.take b).drop a) := enB_list _
  rw [e1, e2, encs_drop]
  have hb : encs (L.drop a) = encs ((L.drop a).take (b - a)) ++ encs ((L.drop a).drop (b - a)) := encs_split _ _
  have hl : offs L b - offs L a = (encs ((L.drop a).take (b - a))).length := by
    obtain ⟨d, rfl⟩ := Nat.le.dest h
    unfold offs
    rw [List.take_add, encs_app, List.length_append]
    simp
  rw [hl, hb, List.take_left, List.drop_take]
theorem enB_app (L M : List Int) : enB (L ++ M) = enB L ++ enB M := by
  apply ByteArray.ext
  rw [ByteArray.data_append]
  simp [enB, encs_app]
theorem repair_enB (s : ByteArray) : repairS s = enB (runesB s.size s.data.toList) := by
  unfold repairS enB
  rw [repair_encs s.size s.data.toList (by simp)]
end Go.Proofs.YtadgpchdlkiinaaDoor
