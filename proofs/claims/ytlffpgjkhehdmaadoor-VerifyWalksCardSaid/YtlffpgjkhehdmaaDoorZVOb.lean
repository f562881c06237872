/- Own work: a slice of bytes as an argument. -/
import Derived.Test.YtlffpgjkhehdmaaDoorZGG
import Derived.Test.YtlffpgjkhehdmaaDoorZVL7
namespace Go.Proofs.YtlffpgjkhehdmaaDoor
open Go.ChangeShapes Go.WideShapes Go.ChangeAt Go.RowKit Go.Lib Go.Shelf Go.ChangeMaps
set_option maxRecDepth 100000

section
variable {H : Type} {enc : TypeId × Value → H} {w : World} {base : Nat} {spare : Nat → Bool} {held : Bool}
theorem c_u8 : Tryd.prog.cellsOf 5 = 1 := by kernel_rfl
theorem read_u8 (fuel : Nat) (cs : List Value) (x : DataW H × List MemPlace) (h : DataW.trod enc Tryd.prog w base spare held fuel 5 cs = some x) : ∃ a : Int, cs = [.int .u8 a] ∧ (0 ≤ a ∧ a ≤ 255) := by
  obtain ⟨n, h1, _, hw⟩ := DataW.trod_int Tryd.underlying5 h
  exact ⟨n, h1, wfu8w hw⟩
theorem one_u8 (x : Int) (j : Nat) (v : Value) (h : [Value.int .u8 x][j]? = some v) : v.oneCell' = true := by
  match j, h with
  | 0, h => cases h; rfl
  | j + 1, h => simp at h
theorem open_bytes {r : Reach} {b0 : Nat} {v : Value} {d : DataW H} {p : List MemPlace} (hv : Value.okWide Tryd.prog w r b0 42 v) (h : DataW.Trod enc Tryd.prog w base spare held 42 v d p) :
    ∃ ws : List Int, RepP w (fun _ => True) (.ro 1 (pW ws)) v ∧ ∀ b ∈ ws, 0 ≤ b ∧ b ≤ 255 := by
  obtain ⟨a0, len, cap, rfl⟩ := okWide_slice Tryd.underlying42 hv
  obtain ⟨fuel, hf⟩ := h
  obtain ⟨A, ws, c, e, hA, q, la, _⟩ := read_rows (cells := fun n : Int => [Value.int .u8 n]) (Q := fun n : Int => 0 ≤ n ∧ n ≤ 255) Tryd.underlying42 c_u8 (by decide) (fun _ => rfl) read_u8 hf
  have e : Value.slice a0 len cap = .slice A ws.length c := by simpa [Value.cells] using e
  rw [e]
  exact ⟨ws, rep_sl (cells := fun n : Int => [Value.int .u8 n]) (pc := fun n : Int => [pU6 n]) (fun _ => rfl) (fun _ => rfl) (by decide) la hA (fun x _ => one_u8 x) fun x _ => repV (cells := fun n : Int => [Value.int .u8 n]) (pc := fun n : Int => [pU6 n]) (fun _ => rfl) x, q⟩
end
end Go.Proofs.YtlffpgjkhehdmaaDoor
