/- Own work: a loop over values as data: what is forgotten at its head. -/
import Derived.Test.YtlffpgjkhehdmaaDoorAbsH
namespace Go.Proofs.YtlffpgjkhehdmaaDoor
open Go.RowKit

/-- the slots that live on -/
def picks (env : List AV) (live : List Nat) : List AV := live.map fun t => env.getD t .junk
def lookE (t : Nat) : List Nat → List AV → AV
  | l :: ls, v :: vs => (match Nat.beq t l with
    | true => v
    | false => lookE t ls vs)
  | _, _ => .junk
def spreadE (live : List Nat) (vs : List AV) : Nat → Nat → List AV
  | 0, _ => []
  | n + 1, t => lookE t live vs :: spreadE live vs n (t + 1)
theorem spreadE_len (live : List Nat) (vs : List AV) : ∀ (n t : Nat), (spreadE live vs n t).length = n
  | 0, _ => rfl
  | n + 1, t => by simp [spreadE, spreadE_len live vs n]
theorem spreadE_get (live : List Nat) (vs : List AV) : ∀ (n t i : Nat), i < n → (spreadE live vs n t)[i]? = some (lookE (t + i) live vs)
  | 0, _, _, h => by omega
  | n + 1, t, 0, _ => by simp [spreadE]
  | n + 1, t, i + 1, h => by
    simp only [spreadE, List.getElem?_cons_succ]
    rw [spreadE_get live vs n (t + 1) i (by omega), show t + 1 + i = t + (i + 1) by omega]
theorem lookE_picks (env : List AV) (t : Nat) : ∀ (live : List Nat), lookE t live (picks env live) = env.getD t .junk ∧ env.getD t .junk ∈ picks env live ∨ lookE t live (picks env live) = .junk
  | [] => .inr rfl
  | l :: ls => by
    simp only [picks, List.map_cons, lookE]
    split
    · rename_i h
      have e := Nat.eq_of_beq_eq_true h
      subst e
      exact .inl ⟨rfl, by simp⟩
    · rcases lookE_picks env t ls with ⟨h1, h2⟩ | h
      · exact .inl ⟨h1, List.mem_cons_of_mem _ h2⟩
      · exact .inr h

/-- the state at the head of a loop is that of a ghost -/
structure HeadIs {γ : Type} (n : Nat) (live : List Nat) (m : Nat) (S : γ → List AV) (h : γ → AH) (env : List AV) (H : AH) (x : γ) : Prop where
  len : env.length = n
  slots : picks env live = S x
  mem : H.take m = h x
  low : AV.low.lowL m (S x) = true
  hlow : hlow m (h x) = true
theorem HeadIs.wk {γ : Type} {n : Nat} {live : List Nat} {m : Nat} {S : γ → List AV} {h : γ → AH} {env : List AV} {H : AH} {x : γ} (hh : HeadIs n live m S h env H x) : Wk env H (spreadE live (S x) n 0) (h x) := by
  obtain ⟨h1, h2, h3, h4, h5⟩ := hh
  rw [← h2] at h4 ⊢
  rw [← h3] at h5 ⊢
  intro w0 B w ι tmps _ hR hE
  refine ⟨ι.take m, hR.trunc h5, by rw [spreadE_len, ← h1]; exact hE.len, fun t a v ha hv => ?_⟩
  have ht : t < n := by
    have := (List.getElem?_eq_some_iff.1 ha).1
    rw [spreadE_len] at this; exact this
  rw [spreadE_get _ _ _ _ _ ht, Nat.zero_add] at ha
  cases ha
  rcases lookE_picks env t live with ⟨e, hm⟩ | e
  · rw [e]
    have hx : env[t]? = some (env.getD t .junk) := by
      rw [List.getD_eq_getElem?_getD, List.getElem?_eq_getElem (by omega)]; rfl
    obtain ⟨j, hj⟩ := List.getElem?_of_mem hm
    exact (hE.at_ t _ v hx hv).trunc rd_take (lowL_get h4 hj)
  · rw [e]; exact .junk _
/-- a round has come to the head again -/
inductive Again {γ : Type} (n : Nat) (live : List Nat) (m : Nat) (S : γ → List AV) (h : γ → AH) (I : γ → Prop) (μ : γ → Nat) (k : Nat) (env : List AV) (H : AH) : Prop
  | mk (y : γ) (hh : HeadIs n live m S h env H y) (hI : I y) (hμ : μ y < k)
/-- a loop: the slots 'live' and the first m blocks are told by a ghost -/
theorem loop_by {γ : Type} (n : Nat) (live : List Nat) (m : Nat) (S : γ → List AV) (h : γ → AH) (I : γ → Prop) (μ : γ → Nat) (x0 : γ) {body : (Exit → List AV → AH → Prop) → List AV → AH → Prop} {Q : Exit → List AV → AH → Prop} {env : List AV} {H : AH}
    (h0 : HeadIs n live m S h env H x0) (hI : I x0)
    (hr : ∀ x, I x → body (thenA (Again n live m S h I μ (μ x)) Q) (spreadE live (S x) n 0) (h x)) : LoopA body Q env H := by
  refine .mk (fun k env H => ∃ x, I x ∧ env = spreadE live (S x) n 0 ∧ H = h x ∧ μ x = k) (Again n live m S h I μ) ⟨_, _, _, h0.wk, x0, hI, rfl, rfl, rfl⟩ ?_ ?_
  · rintro k env' H' ⟨y, hh, hI, hμ⟩
    exact ⟨_, _, _, hh.wk, ⟨y, hI, rfl, rfl, rfl⟩, hμ⟩
  · rintro k env H ⟨x, hx, rfl, rfl, rfl⟩
    exact hr x hx
/-- a round has come to the head again, if need be by way of a weaker description -/
inductive AgainW {γ : Type} (n : Nat) (live : List Nat) (m : Nat) (S : γ → List AV) (h : γ → AH) (I : γ → Prop) (μ : γ → Nat) (k : Nat) (env : List AV) (H : AH) : Prop
  | mk (y : γ) (hh : HeadIs n live m S h env H y) (hI : I y) (hμ : μ y < k)
  | wk (y : γ) (env1 : List AV) (H1 : AH) (hw : Wk env H env1 H1) (hh : HeadIs n live m S h env1 H1 y) (hI : I y) (hμ : μ y < k)
theorem loop_byW {γ : Type} (n : Nat) (live : List Nat) (m : Nat) (S : γ → List AV) (h : γ → AH) (I : γ → Prop) (μ : γ → Nat) (x0 : γ) {body : (Exit → List AV → AH → Prop) → List AV → AH → Prop} {Q : Exit → List AV → AH → Prop} {env : List AV} {H : AH}
    (h0 : HeadIs n live m S h env H x0) (hI : I x0)
    (hr : ∀ x, I x → body (thenA (AgainW n live m S h I μ (μ x)) Q) (spreadE live (S x) n 0) (h x)) : LoopA body Q env H := by
  refine .mk (fun k env H => ∃ x, I x ∧ env = spreadE live (S x) n 0 ∧ H = h x ∧ μ x = k) (AgainW n live m S h I μ) ⟨_, _, _, h0.wk, x0, hI, rfl, rfl, rfl⟩ ?_ ?_
  · rintro k env' H' h'
    cases h' with
    | mk y hh hI hμ => exact ⟨_, _, _, hh.wk, ⟨y, hI, rfl, rfl, rfl⟩, hμ⟩
    | wk y env1 H1 hw hh hI hμ => exact ⟨_, _, _, hw.trans hh.wk, ⟨y, hI, rfl, rfl, rfl⟩, hμ⟩
  · rintro k env H ⟨x, hx, rfl, rfl, rfl⟩
    exact hr x hx
end Go.Proofs.YtlffpgjkhehdmaaDoor
