/- Own work: what the library's functions that package value calls return. -/
import Derived.Test.YtadgpchdlkiinaaDoorTypes
import Derived.Test.YtadgpchdlkiinaaDoorRetLib
import Derived.Test.YtadgpchdlkiinaaDoorShelf
import Derived.Test.YtadgpchdlkiinaaDoorShelfV
import Derived.Lib.AppendIntMem
import Derived.Test.YtadgpchdlkiinaaDoorRepairP
namespace Go.Proofs.YtadgpchdlkiinaaDoor
open Go.RowKit

def Tabs (w : World) : Prop := Lib.Utf8Tabs (Tryd.laysValid_ren.g 3) (Tryd.laysValid_ren.g 4) w
theorem cell_gr {w w' : World} (h : Gr w w') {a : Addr} {v : Value} (hc : w.cell? a = some v) : w'.cell? a = some v := by
  rw [Below.cell h (block_lt_of_cell hc)]; exact hc
theorem Tabs.gr {w w' : World} (h : Tabs w) (hg : Gr w w') : Tabs w' :=
  ⟨fun c hc => cell_gr hg (h.1 c hc), fun i hi => ⟨cell_gr hg (h.2 i hi).1, cell_gr hg (h.2 i hi).2⟩⟩
/-- the tables of the library are laid -/
structure Good (w : World) : Prop where
  utf8 : Tabs w
  pow10 : Lib.TabIs Tryd.prog w "internal/strconv.uint64pow10" .u64 Lib.pow10Tab
theorem good_gr : ∀ w w', Gr w w' → Good w → Good w' := fun _ w' hg h => ⟨h.utf8.gr hg, (Lib.tabBelow_of_tabIs h.pow10) w' hg⟩
abbrev R (f : FuncId) (l : List PV) (r : PV) : Prop := Ret Tryd.prog Good f l r
abbrev pI (n : Int) : PV := .v (.int .i64 n)
abbrev pB (b : Bool) : PV := .v (.bool b)
abbrev pS (s : ByteArray) : PV := .v (.string s)

def validB (s : ByteArray) : Bool := Lib.validD s.data.toList
theorem valid_ret (s : ByteArray) (hs : s.size ≤ 9223372036854775807) : R 64 [pS s] (pB (validB s)) :=
  ret_v Tryd.func64 (by kernel_rfl) (by kernel_rfl) [.string s] _ fun w hG => (Any.utf8_ValidString Tryd.laysValid s w hs hG.utf8).mono fun e w' ⟨h1, h2⟩ => ⟨_, h1, h2, fun _ => .v _⟩
theorem formatInt_ret (n : Int) (h0 : -9223372036854775808 ≤ n) (h1 : n ≤ 9223372036854775807) : R 56 [pI n, pI 10] (pS ⟨(Lib.itoa n).toArray⟩) :=
  ret_v Tryd.func56 (by kernel_rfl) (by kernel_rfl) [.int .i64 n, .int .i64 10] _ fun w hG => (Tryd.strconv_FormatInt_10 n h0 h1 w hG.pow10).mono fun e w' ⟨h1, k, os, h2⟩ => ⟨_, h1, by subst h2; exact Lib.below_grow _ _ (Nat.le_refl _) _ _, fun _ => .v _⟩
theorem formatBool_ret (b : Bool) : R 55 [pB b] (pS ⟨(Lib.formatBool b).toArray⟩) :=
  ret_v Tryd.func55 (by kernel_rfl) (by kernel_rfl) [.bool b] _ fun w hG => (Tryd.strconv_FormatBool b w).mono fun e w' ⟨h1, h2⟩ => ⟨_, h1, by subst h2; exact Gr.refl _, fun _ => .v _⟩
def txtTrue : ByteArray := ⟨#[116, 114, 117, 101]⟩
def txtFalse : ByteArray := ⟨#[102, 97, 108, 115, 101]⟩
theorem formatTrue_ret : R 55 [pB true] (pS txtTrue) := formatBool_ret true
theorem formatFalse_ret : R 55 [pB false] (pS txtFalse) := formatBool_ret false
end Go.Proofs.YtadgpchdlkiinaaDoor
