/- Own work: a body cut behind its first statements; what it comes to is not looked at there. -/
import Derived.Test.YtnhbboknffppiaaDoorZGN
namespace Go.Proofs.YtnhbboknffppiaaDoor
open Go.RowKit

section
variable {P : Program} {G : World → Prop} {T : TT} {nt : Nat}
theorem Seg.cutK0 {γ : Type} (k : Nat) (n : Nat) (live : List Nat) (m : Nat) (S : γ → List AV) (h : γ → AH) (I : γ → Prop) (hT : TOk P T) (hm : P.follows .mixedOrders = true) (kOf : Nat → Nat) {c : Code} {Q : Exit → List AV → AH → Prop} {env : List AV} {H : AH} (hok : codeOk nt kOf (headK k c) = true)
    (h1 : ∀ (P' : Program) (G' : World → Prop) (E : SO), (∀ f l r, Ret P G f l r → Ret P' G' f l r) → (∀ f as H r H', RetM P G f as H r H' → RetM P' G' f as H r H') → E = stdE → awp P' G' E T kOf (headK k c) (thenA (CutIs n live m S h I) Q) env H)
    (h2 : ∀ y, I y → Seg P G nt (tailK k c) Q (spreadE live (S y) n 0) (h y)) : Seg P G nt c Q env H :=
  Seg.cutK k n live m S h I hT hm kOf (fun _ => Q) hok h1 h2
theorem Seg.regM0 (hT : TOk P T) (hm : P.follows .mixedOrders = true) {id : Nat} {ops : Array Oper} (k : Nat) (M : List Nat) (lo : Nat → Nat) (hok : regionOkM nt ops.toList k M lo = true) {Q : Exit → List AV → AH → Prop} {env : List AV} {H : AH}
    (h : ∀ (P' : Program) (G' : World → Prop) (E : SO), (∀ f l r, Ret P G f l r → Ret P' G' f l r) → (∀ f as H r H', RetM P G f as H r H' → RetM P' G' f as H r H') → E = stdE → aregM P' G' E T ops.toList M lo k M 0 [] [] env H fun env2 H2 => aops P' G' E T ops.toList Q (ops.toList.drop k) env2 H2) : Seg P G nt (.region id ops true) Q env H :=
  Seg.regM hT hm k M lo hok (fun _ => Q) h
end
end Go.Proofs.YtnhbboknffppiaaDoor
