/- Own work: the rule of Rg for a region whose operations have one value each in every world that has grown. -/
import Derived.Test.YtjefbgfohijaoaaGreatDoorWGD
namespace Go.Proofs.YtjefbgfohijaoaaGreatDoor
open Go.RowKit
section
variable {P : Program} {Q : Exit -> Act -> World -> Prop}
theorem putAll_congr {ops : Array Oper} {vs us : Nat -> Value} (a : Act) : ∀ k, (∀ i, i < k -> ((ops[i]?).bind (·.dst)).isSome = true -> vs i = us i) -> putAll ops vs k a = putAll ops us k a
 | 0, _ => rfl
 | k + 1, h => by
  unfold putAll
  rw [putAll_congr a k fun i hi => h i (by omega)]
  cases hd : (ops[k]?).bind (·.dst) with
  | none => rfl
  | some t => rw [h k (by omega) (by rw [hd]; rfl)]
def ConstStep (P : Program) (ops : Array Oper) (W : World) (vals : Nat -> Value) (a0 : Act) (i : Nat) : Prop :=
 ∀ (o : Oper), ops[i]? = some o -> ∀ (ρ : Operand -> Value) (w : World), Gr W w -> (∀ c, ρ (.const c) = c) -> (∀ f, ρ (.func f) = .func (.func f) #[] #[]) -> (∀ g, ρ (.global g) = .pointer (some ⟨g, 0, none⟩)) →
  (∀ (d : Nat) (t : Tmp), rgDep ops i d t = true -> ρ (.tmp t) = vals d) -> (∀ (t : Tmp), rgFree ops t = true -> ρ (.tmp t) = a0.eval (.tmp t)) →
  if Region.wanted o (yieldedE ops ρ) then growUpon P (fun v w' => Gr w w' /\ v = vals i) ((execOp ρ o).run P w) else vals i = undef
theorem growUpon_mono {R R' : Value -> World -> Prop} {r : Result Next} (h : growUpon P R r) (hR : ∀ v w, R v w -> R' v w) : growUpon P R' r := by
 cases r with
 | ok n w =>
  cases n <;> simp only [growUpon] at h ⊢
  ·exact hR _ _ h
  ·exact hR _ _ h
  ·exact h.mono fun e w' ⟨v, he, hr⟩ => ⟨v, he, hR _ _ hr⟩
 | halt x w => simp only [growUpon] at h
theorem wp_region_const {id : Nat} {l : List Oper} {a : Act} {w : World} (k r : Nat) (vals : Nat -> Value)
  (hm : P.follows .mixedOrders = true) (hB : rgB l.toArray k r = true) (hlt : (l.all fun o => match o.dst with | some t => decide (t < a.tmps.size) | none => true) = true) (hk : k <= l.length)
  (hstep : ∀ i, i < k -> ConstStep P l.toArray w vals a i)
  (hend : ∀ (w' : World), Gr w w' -> wpList P l.toArray Q (l.drop k) (putAll l.toArray vals k a) w') :
  (Code.region id l.toArray true).wp P Q a w := by
 refine wp_region_gr k r (fun i v _ => v = vals i) hm hB hlt hk (fun _ _ _ _ _ h => h) (fun i hi => ?_) (fun vs w' hg hV => ?_)
 ·intro o ho ρ w' hC h1 h2 h3 h4 h5
  have := hstep i hi o ho ρ w' hC h1 h2 h3 h4 h5
  split
  ·rename_i hw
   rw [if_pos hw] at this
   exact growUpon_mono this fun v w'' h => ⟨hC.trans h.1, h.1, h.2⟩
  ·rename_i hw
   rw [if_neg hw] at this
   exact this.symm
 ·rw [putAll_congr a k hV]
  exact hend w' hg
end
end Go.Proofs.YtjefbgfohijaoaaGreatDoor
