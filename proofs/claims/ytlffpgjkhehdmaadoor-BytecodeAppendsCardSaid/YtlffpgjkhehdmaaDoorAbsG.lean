/- Own work: the walk over values as data, for whole functions. -/
import Derived.Test.YtlffpgjkhehdmaaDoorAbsF
namespace Go.Proofs.YtlffpgjkhehdmaaDoor
open Go.RowKit

def thenA (next : List AV → AH → Prop) (Q : Exit → List AV → AH → Prop) : Exit → List AV → AH → Prop
  | .normal, env, H => next env H
  | e, env, H => Q e env H
def blockA (id : Nat) (Q : Exit → List AV → AH → Prop) : Exit → List AV → AH → Prop
  | .exit i, env, H => if i = id then Q .normal env H else Q (.exit i) env H
  | e, env, H => Q e env H
/-- what a loop asks for: I k: what holds at its head, with a measure; N k: what a round comes to that began with measure k -/
inductive LoopA (body : (Exit → List AV → AH → Prop) → List AV → AH → Prop) (Q : Exit → List AV → AH → Prop) (env : List AV) (H : AH) : Prop
  | mk (I N : Nat → List AV → AH → Prop) (h0 : ∃ k env' H', Wk env H env' H' ∧ I k env' H') (hN : ∀ k env' H', N k env' H' → ∃ k2 env2 H2, Wk env' H' env2 H2 ∧ I k2 env2 H2 ∧ k2 < k)
    (hr : ∀ k env H, I k env H → body (thenA (N k) Q) env H)

def awp (P : Program) (G : World → Prop) (E : SO) (T : TT) (kOf : Nat → Nat) : Code → (Exit → List AV → AH → Prop) → List AV → AH → Prop
  | .skip, Q, env, H => Q .normal env H
  | .region id ops draw, Q, env, H => if draw = true then
      adraw P G E T ops.toList H (kOf id) ops.toList env fun env1 => aallocs T ops.toList (kOf id) env1 (kOf id) ops.toList env1 H fun env2 H2 => aops P G E T ops.toList Q (ops.toList.drop (kOf id)) env2 H2
    else aops P G E T ops.toList Q ops.toList env H
  | .seq a b, Q, env, H => awp P G E T kOf a (thenA (awp P G E T kOf b Q) Q) env H
  | .cond c a b, Q, env, H => (match aev env c with
    | .p (.v (.bool x)) => (match x with
      | true => awp P G E T kOf a Q env H
      | false => awp P G E T kOf b Q env H)
    | _ => False)
  | .block id c, Q, env, H => awp P G E T kOf c (blockA id Q) env H
  | .loop c, Q, env, H => LoopA (awp P G E T kOf c) Q env H
  | .exit id, Q, env, H => Q (.exit id) env H
  | .ret, Q, env, H => Q .ret env H
  | _, _, _, _ => False

def codeOk (nt : Nat) (kOf : Nat → Nat) : Code → Bool
  | .region id ops draw => !draw || regionOk nt ops.toList (kOf id)
  | .seq a b => codeOk nt kOf a && codeOk nt kOf b
  | .cond _ a b => codeOk nt kOf a && codeOk nt kOf b
  | .block _ c => codeOk nt kOf c
  | .loop c => codeOk nt kOf c
  | _ => true

theorem least {p : Nat → Prop} (h : ∃ n, p n) : ∃ n, p n ∧ ∀ m, p m → n ≤ m := by
  obtain ⟨n, hn⟩ := h
  induction n using Nat.strongRecOn with
  | _ n ih =>
    rcases Classical.em (∃ m, m < n ∧ p m) with ⟨m, hm, hp⟩ | hno
    · exact ih m hm hp
    · exact ⟨n, hn, fun m hm => Classical.byContradiction fun hlt => hno ⟨m, by omega, hm⟩⟩

section
variable {P : Program} {G : World → Prop} {T : TT} {w0 : Base} {B : Nat → Prop} {nt : Nat}

theorem post_then {next : List AV → AH → Prop} {Q : Exit → List AV → AH → Prop} (K : Act → World → Prop) (hK : ∀ env H a w, next env H → St w0 B nt env H a w → K a w) : ∀ e a w, Post w0 B nt (thenA next Q) e a w → Exit.then K (Post w0 B nt Q) e a w := by
  rintro e a w ⟨env, H, h, hS⟩
  cases e with
  | normal => exact hK env H a w h hS
  | exit id => exact ⟨env, H, h, hS⟩
  | goto l => exact ⟨env, H, h, hS⟩
  | ret => exact ⟨env, H, h, hS⟩
  | panic c => exact ⟨env, H, h, hS⟩
  | outgrown => exact ⟨env, H, h, hS⟩

theorem awp_sound (hT : TOk P T) (hG0 : ∀ w, GrX w0 w → G w) (hB0 : ∀ b, w0.own b → B b) (hm : P.follows .mixedOrders = true) (kOf : Nat → Nat) : ∀ (c : Code), codeOk nt kOf c = true → ∀ (Q : Exit → List AV → AH → Prop) (env : List AV) (H : AH) (a : Act) (w : World), awp P G stdE T kOf c Q env H → St w0 B nt env H a w → c.wp P (Post w0 B nt Q) a w
  | .skip, _, Q, env, H, a, w, h, hS => wp_skip ⟨env, H, h, hS⟩
  | .region id ops draw, hok, Q, env, H, a, w, h, hS => by
    obtain ⟨l⟩ := ops
    unfold awp at h
    split at h
    · rename_i hd
      subst hd
      simp only [codeOk, Bool.not_true, Bool.false_or] at hok
      exact adrawn_sound hT hG0 hB0 hm hok h hS
    · rename_i hd
      have hd' : draw = false := by simpa using hd
      subst hd'
      exact wp_region_list (aops_sound hT hG0 hB0 _ env H a w h hS)
  | .seq x y, hok, Q, env, H, a, w, h, hS => by
    simp only [codeOk, Bool.and_eq_true] at hok
    unfold awp at h
    refine wp_seq (wp_mono (awp_sound hT hG0 hB0 hm kOf x hok.1 _ env H a w h hS) ?_)
    exact post_then _ fun env H a w h hS => awp_sound hT hG0 hB0 hm kOf y hok.2 Q env H a w h hS
  | .cond c x y, hok, Q, env, H, a, w, h, hS => by
    simp only [codeOk, Bool.and_eq_true] at hok
    unfold awp at h
    split at h
    · rename_i b e
      obtain ⟨ι, hR, hE⟩ := hS.rep
      have hc := hE.eval c
      rw [e] at hc
      refine wp_cond_split (rep_v hc) (fun hb => ?_) (fun hb => ?_)
      · subst hb; exact awp_sound hT hG0 hB0 hm kOf x hok.1 Q env H a w h hS
      · subst hb; exact awp_sound hT hG0 hB0 hm kOf y hok.2 Q env H a w h hS
    · cases h
  | .block id c, hok, Q, env, H, a, w, h, hS => by
    simp only [codeOk] at hok
    unfold awp at h
    refine wp_block (wp_mono (awp_sound hT hG0 hB0 hm kOf c hok _ env H a w h hS) ?_)
    rintro e a w ⟨env, H, h, hS⟩
    cases e with
    | exit i =>
      simp only [blockA] at h
      simp only [Exit.inBlock]
      split at h
      · rename_i e; rw [if_pos e]; exact ⟨env, H, h, hS⟩
      · rename_i e; rw [if_neg e]; exact ⟨env, H, h, hS⟩
    | normal => exact ⟨env, H, h, hS⟩
    | goto l => exact ⟨env, H, h, hS⟩
    | ret => exact ⟨env, H, h, hS⟩
    | panic c => exact ⟨env, H, h, hS⟩
    | outgrown => exact ⟨env, H, h, hS⟩
  | .loop c, hok, Q, env, H, a, w, h, hS => by
    classical
    simp only [codeOk] at hok
    unfold awp at h
    obtain ⟨I, N, ⟨k1, env1, H1, hw1, hI1⟩, hN, hround⟩ := h
    have hwk : ∀ env H env' H' a w, Wk env H env' H' → St w0 B nt env H a w → St w0 B nt env' H' a w := fun env H env' H' a w hw hS => by
      obtain ⟨ι, hR, hE⟩ := hS.rep
      exact ⟨hS.defers, hS.size, hw w0 B w ι a.tmps hB0 hR hE⟩
    have key : ∃ f : Act → World → Nat, (∀ a w, (∃ k env H, I k env H ∧ St w0 B nt env H a w) → ∃ env H, I (f a w) env H ∧ St w0 B nt env H a w) ∧ ∀ a w k env H, I k env H → St w0 B nt env H a w → f a w ≤ k := by
      refine ⟨fun a w => if h : ∃ n, ∃ env H, I n env H ∧ St w0 B nt env H a w then Classical.choose (least h) else 0, fun a w hex => ?_, fun a w k env H h1 h2 => ?_⟩
      · simp only [hex, dif_pos]
        exact (Classical.choose_spec (least hex)).1
      · have hex : ∃ n, ∃ env H, I n env H ∧ St w0 B nt env H a w := ⟨_, env, H, h1, h2⟩
        simp only [hex, dif_pos]
        exact (Classical.choose_spec (least hex)).2 _ ⟨env, H, h1, h2⟩
    obtain ⟨f, hf1, hf2⟩ := key
    refine wp_loop (fun a w => ∃ k env H, I k env H ∧ St w0 B nt env H a w) f ⟨k1, env1, H1, hI1, hwk _ _ _ _ a w hw1 hS⟩ fun a' w' hI => ?_
    obtain ⟨env2, H2, hI2, hS2⟩ := hf1 a' w' hI
    refine wp_mono (awp_sound hT hG0 hB0 hm kOf c hok _ env2 H2 a' w' (hround _ env2 H2 hI2) hS2) ?_
    refine post_then _ fun env3 H3 a3 w3 hn3 hS3 => ?_
    obtain ⟨k4, env4, H4, hw4, hI4, hlt⟩ := hN _ _ _ hn3
    have hS4 := hwk _ _ _ _ a3 w3 hw4 hS3
    refine ⟨⟨k4, env4, H4, hI4, hS4⟩, ?_⟩
    have := hf2 a3 w3 k4 env4 H4 hI4 hS4
    omega
  | .exit id, _, Q, env, H, a, w, h, hS => wp_exit ⟨env, H, h, hS⟩
  | .ret, _, Q, env, H, a, w, h, hS => wp_ret ⟨env, H, h, hS⟩
  | .rangeFunc _ _ _ _, _, _, _, _, _, _, h, _ => h.elim
  | .scope _, _, _, _, _, _, _, h, _ => h.elim
  | .label _, _, _, _, _, _, _, h, _ => h.elim
  | .goto _, _, _, _, _, _, _, h, _ => h.elim
  | .refuse _, _, _, _, _, _, _, h, _ => h.elim

end
end Go.Proofs.YtlffpgjkhehdmaaDoor
