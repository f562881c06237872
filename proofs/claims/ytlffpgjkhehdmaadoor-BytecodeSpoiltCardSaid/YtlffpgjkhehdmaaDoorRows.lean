/-
  NARROWER THAN 'FOR EVERY INPUT', by the rows' own cells (each row's printed sentence says how): BytecodeTable: laid · BytecodeAppends: laid · BytecodeSame: laid · VerifyChecks: laid · VerifyWalks: laid · VerifyLess: laid · VerifyRefuses: laid · VerifyShapes: laid · VerifyLines: laid · BytecodeDecodes: laid · BytecodeFormed: laid · VerifyAppends: laid · BytecodeEncodes: laid · BytecodeSpoilt: laid.
  DERIVED. THE GIVEN ROWS OF THIS SEAT. 14 by the template 'for every input the law returns true; each argument reads behind the call as it read before'; 0 by the template 'total and deterministic' (their statements: YtlffpgjkhehdmaaDoorTotals.lean).
  GIVEN WITH THE SEED: the statements are not yours to turn. If you find one false, say at which input.
  Laid BY PROGRAM, IN A SANDBOX (cutbox-rows.mjs): the forced cells as the released guide's own fill.sh prints them over the translation 6af822e107e9cc8f… (all of the seat's roots in one cut). By AI agents, Wed Nov 11 2026. No macro, syntax, notation, axiom, sorry.
-/
import Derived.Test.YtlffpgjkhehdmaaDoorChecked
import GoSem.PinnedTables
import GoSem.Claim
import GoSem.ClaimJoined
import GoSem.ClaimMapViews
import Derived.JoinedTies
import Derived.KernelRfl
namespace Go.Proofs.YtlffpgjkhehdmaaDoor
/- THE CELL 'sum', in the pinned program and in every row, IS THE sha256 OF THE DUMP (.gsa) THAT YtlffpgjkhehdmaaDoorProg.lean LOADS. Nothing in Lean hashes anything: it is a label: what it is worth is what the hold of that sum in a sandbox is worth. -/
noncomputable def Tryd.pinned : Pinned := { name := "ytlffpgjkhehdmaadoor", sum := "6af822e107e9cc8fc23868c73cf77b1a0f164cc41e1bc3e07bf416779ded8f65", checked := Tryd.checked }
namespace Rows
def none {H : Type} : Left H := { results := [], args := [] }

/- WHAT THE LISTED PACKAGE-LEVEL VARIABLES READ AS WHEN THE CALL BEGINS. Each datum BY PROGRAM (the guide's laid-datum.mjs) off the statement by which the dump's own 'gosem.cut.vars' lays the variable. In a bare row this is a premise. The card (YtlffpgjkhehdmaaDoorCards.lean) ties it to the program's text. -/
def laid_unicode_utf8_acceptRanges {H : Type} : DataW H := .agg [.agg [.lit (.int .u8 128), .lit (.int .u8 191)], .agg [.lit (.int .u8 160), .lit (.int .u8 191)], .agg [.lit (.int .u8 128), .lit (.int .u8 159)], .agg [.lit (.int .u8 144), .lit (.int .u8 191)], .agg [.lit (.int .u8 128), .lit (.int .u8 143)], .agg [.lit (.int .u8 0), .lit (.int .u8 0)], .agg [.lit (.int .u8 0), .lit (.int .u8 0)], .agg [.lit (.int .u8 0), .lit (.int .u8 0)], .agg [.lit (.int .u8 0), .lit (.int .u8 0)], .agg [.lit (.int .u8 0), .lit (.int .u8 0)], .agg [.lit (.int .u8 0), .lit (.int .u8 0)], .agg [.lit (.int .u8 0), .lit (.int .u8 0)], .agg [.lit (.int .u8 0), .lit (.int .u8 0)], .agg [.lit (.int .u8 0), .lit (.int .u8 0)], .agg [.lit (.int .u8 0), .lit (.int .u8 0)], .agg [.lit (.int .u8 0), .lit (.int .u8 0)]]
/-- One of Go's own tables, pinned by name: the form's constant. -/
def laid_unicode_utf8_first : DataW Unit := Go.Pinned.utf8First

/-- 'knapsacklaw27.BytecodeTable': WHATEVER THE INPUT: true; the input reads as it did. -/
def bytecodeTableSpec : ChangeSpec := { name := "bytecodeTable", fn := fun _ => fun
  | [d] => { results := [.lit (.bool true)], args := [d] }
  | _ => none }
def bytecodeTableRow : OpenClaim := { program := "ytlffpgjkhehdmaadoor", sum := "6af822e107e9cc8fc23868c73cf77b1a0f164cc41e1bc3e07bf416779ded8f65", func := "knapsack/knapsacklaw27.BytecodeTable", spec := "bytecodeTable", named := ["unicode/utf8.first", "unicode/utf8.acceptRanges"], apart := false, laid := [("unicode/utf8.acceptRanges", laid_unicode_utf8_acceptRanges), ("unicode/utf8.first", laid_unicode_utf8_first)] }
def BytecodeTableSaid : Prop := bytecodeTableRow.holds Tryd.pinned (OpenSpec.ofChange bytecodeTableSpec)

/-- ITS FALSE NEIGHBOUR: 'it returns false'. Refute it at one input. -/
def bytecodeTableWrong : ChangeSpec := { name := "bytecodeTable", fn := fun _ => fun
  | [d] => { results := [.lit (.bool false)], args := [d] }
  | _ => none }
def BytecodeTableWrongFalsely : Prop := bytecodeTableRow.holds Tryd.pinned (OpenSpec.ofChange bytecodeTableWrong)

/-- 'knapsacklaw27.BytecodeAppends': WHATEVER THE INPUT: true; the input reads as it did. -/
def bytecodeAppendsSpec : ChangeSpec := { name := "bytecodeAppends", fn := fun _ => fun
  | [d1, d2, d3] => { results := [.lit (.bool true)], args := [d1, d2, d3] }
  | _ => none }
def bytecodeAppendsRow : OpenClaim := { program := "ytlffpgjkhehdmaadoor", sum := "6af822e107e9cc8fc23868c73cf77b1a0f164cc41e1bc3e07bf416779ded8f65", func := "knapsack/knapsacklaw27.BytecodeAppends", spec := "bytecodeAppends", named := ["unicode/utf8.first", "unicode/utf8.acceptRanges"], apart := false, laid := [("unicode/utf8.acceptRanges", laid_unicode_utf8_acceptRanges), ("unicode/utf8.first", laid_unicode_utf8_first)] }
def BytecodeAppendsSaid : Prop := bytecodeAppendsRow.holds Tryd.pinned (OpenSpec.ofChange bytecodeAppendsSpec)

/-- ITS FALSE NEIGHBOUR: 'it returns false'. Refute it at one input. -/
def bytecodeAppendsWrong : ChangeSpec := { name := "bytecodeAppends", fn := fun _ => fun
  | [d1, d2, d3] => { results := [.lit (.bool false)], args := [d1, d2, d3] }
  | _ => none }
def BytecodeAppendsWrongFalsely : Prop := bytecodeAppendsRow.holds Tryd.pinned (OpenSpec.ofChange bytecodeAppendsWrong)

/-- 'knapsacklaw27.BytecodeSame': WHATEVER THE INPUT: true; the input reads as it did. -/
def bytecodeSameSpec : ChangeSpec := { name := "bytecodeSame", fn := fun _ => fun
  | [d1, d2] => { results := [.lit (.bool true)], args := [d1, d2] }
  | _ => none }
def bytecodeSameRow : OpenClaim := { program := "ytlffpgjkhehdmaadoor", sum := "6af822e107e9cc8fc23868c73cf77b1a0f164cc41e1bc3e07bf416779ded8f65", func := "knapsack/knapsacklaw27.BytecodeSame", spec := "bytecodeSame", named := ["unicode/utf8.first", "unicode/utf8.acceptRanges"], apart := false, laid := [("unicode/utf8.acceptRanges", laid_unicode_utf8_acceptRanges), ("unicode/utf8.first", laid_unicode_utf8_first)] }
def BytecodeSameSaid : Prop := bytecodeSameRow.holds Tryd.pinned (OpenSpec.ofChange bytecodeSameSpec)

/-- ITS FALSE NEIGHBOUR: 'it returns false'. Refute it at one input. -/
def bytecodeSameWrong : ChangeSpec := { name := "bytecodeSame", fn := fun _ => fun
  | [d1, d2] => { results := [.lit (.bool false)], args := [d1, d2] }
  | _ => none }
def BytecodeSameWrongFalsely : Prop := bytecodeSameRow.holds Tryd.pinned (OpenSpec.ofChange bytecodeSameWrong)

/-- 'knapsacklaw29.VerifyChecks': WHATEVER THE INPUT: true; the input reads as it did. -/
def verifyChecksSpec : ChangeSpec := { name := "verifyChecks", fn := fun _ => fun
  | [d] => { results := [.lit (.bool true)], args := [d] }
  | _ => none }
def verifyChecksRow : OpenClaim := { program := "ytlffpgjkhehdmaadoor", sum := "6af822e107e9cc8fc23868c73cf77b1a0f164cc41e1bc3e07bf416779ded8f65", func := "knapsack/knapsacklaw29.VerifyChecks", spec := "verifyChecks", unfollowed := true, recurses := true, named := ["unicode/utf8.first", "unicode/utf8.acceptRanges"], apart := false, laid := [("unicode/utf8.acceptRanges", laid_unicode_utf8_acceptRanges), ("unicode/utf8.first", laid_unicode_utf8_first)] }
def VerifyChecksSaid : Prop := verifyChecksRow.holds Tryd.pinned (OpenSpec.ofChange verifyChecksSpec)

/-- ITS FALSE NEIGHBOUR: 'it returns false'. Refute it at one input. -/
def verifyChecksWrong : ChangeSpec := { name := "verifyChecks", fn := fun _ => fun
  | [d] => { results := [.lit (.bool false)], args := [d] }
  | _ => none }
def VerifyChecksWrongFalsely : Prop := verifyChecksRow.holds Tryd.pinned (OpenSpec.ofChange verifyChecksWrong)

/-- 'knapsacklaw29.VerifyWalks': WHATEVER THE INPUT: true; the input reads as it did. -/
def verifyWalksSpec : ChangeSpec := { name := "verifyWalks", fn := fun _ => fun
  | [d1, d2, d3] => { results := [.lit (.bool true)], args := [d1, d2, d3] }
  | _ => none }
def verifyWalksRow : OpenClaim := { program := "ytlffpgjkhehdmaadoor", sum := "6af822e107e9cc8fc23868c73cf77b1a0f164cc41e1bc3e07bf416779ded8f65", func := "knapsack/knapsacklaw29.VerifyWalks", spec := "verifyWalks", unfollowed := true, recurses := true, named := ["unicode/utf8.first", "unicode/utf8.acceptRanges"], apart := false, laid := [("unicode/utf8.acceptRanges", laid_unicode_utf8_acceptRanges), ("unicode/utf8.first", laid_unicode_utf8_first)] }
def VerifyWalksSaid : Prop := verifyWalksRow.holds Tryd.pinned (OpenSpec.ofChange verifyWalksSpec)

/-- ITS FALSE NEIGHBOUR: 'it returns false'. Refute it at one input. -/
def verifyWalksWrong : ChangeSpec := { name := "verifyWalks", fn := fun _ => fun
  | [d1, d2, d3] => { results := [.lit (.bool false)], args := [d1, d2, d3] }
  | _ => none }
def VerifyWalksWrongFalsely : Prop := verifyWalksRow.holds Tryd.pinned (OpenSpec.ofChange verifyWalksWrong)

/-- 'knapsacklaw29.VerifyLess': WHATEVER THE INPUT: true; the input reads as it did. -/
def verifyLessSpec : ChangeSpec := { name := "verifyLess", fn := fun _ => fun
  | [d1, d2, d3] => { results := [.lit (.bool true)], args := [d1, d2, d3] }
  | _ => none }
def verifyLessRow : OpenClaim := { program := "ytlffpgjkhehdmaadoor", sum := "6af822e107e9cc8fc23868c73cf77b1a0f164cc41e1bc3e07bf416779ded8f65", func := "knapsack/knapsacklaw29.VerifyLess", spec := "verifyLess", unfollowed := true, recurses := true, named := ["unicode/utf8.first", "unicode/utf8.acceptRanges"], apart := false, laid := [("unicode/utf8.acceptRanges", laid_unicode_utf8_acceptRanges), ("unicode/utf8.first", laid_unicode_utf8_first)] }
def VerifyLessSaid : Prop := verifyLessRow.holds Tryd.pinned (OpenSpec.ofChange verifyLessSpec)

/-- ITS FALSE NEIGHBOUR: 'it returns false'. Refute it at one input. -/
def verifyLessWrong : ChangeSpec := { name := "verifyLess", fn := fun _ => fun
  | [d1, d2, d3] => { results := [.lit (.bool false)], args := [d1, d2, d3] }
  | _ => none }
def VerifyLessWrongFalsely : Prop := verifyLessRow.holds Tryd.pinned (OpenSpec.ofChange verifyLessWrong)

/-- 'knapsacklaw29.VerifyRefuses': WHATEVER THE INPUT: true; the input reads as it did. -/
def verifyRefusesSpec : ChangeSpec := { name := "verifyRefuses", fn := fun _ => fun
  | [d1, d2] => { results := [.lit (.bool true)], args := [d1, d2] }
  | _ => none }
def verifyRefusesRow : OpenClaim := { program := "ytlffpgjkhehdmaadoor", sum := "6af822e107e9cc8fc23868c73cf77b1a0f164cc41e1bc3e07bf416779ded8f65", func := "knapsack/knapsacklaw29.VerifyRefuses", spec := "verifyRefuses", unfollowed := true, recurses := true, named := ["unicode/utf8.first", "unicode/utf8.acceptRanges"], apart := false, laid := [("unicode/utf8.acceptRanges", laid_unicode_utf8_acceptRanges), ("unicode/utf8.first", laid_unicode_utf8_first)] }
def VerifyRefusesSaid : Prop := verifyRefusesRow.holds Tryd.pinned (OpenSpec.ofChange verifyRefusesSpec)

/-- ITS FALSE NEIGHBOUR: 'it returns false'. Refute it at one input. -/
def verifyRefusesWrong : ChangeSpec := { name := "verifyRefuses", fn := fun _ => fun
  | [d1, d2] => { results := [.lit (.bool false)], args := [d1, d2] }
  | _ => none }
def VerifyRefusesWrongFalsely : Prop := verifyRefusesRow.holds Tryd.pinned (OpenSpec.ofChange verifyRefusesWrong)

/-- 'knapsacklaw29.VerifyShapes': WHATEVER THE INPUT: true; the input reads as it did. -/
def verifyShapesSpec : ChangeSpec := { name := "verifyShapes", fn := fun _ => fun
  | [d1, d2] => { results := [.lit (.bool true)], args := [d1, d2] }
  | _ => none }
def verifyShapesRow : OpenClaim := { program := "ytlffpgjkhehdmaadoor", sum := "6af822e107e9cc8fc23868c73cf77b1a0f164cc41e1bc3e07bf416779ded8f65", func := "knapsack/knapsacklaw29.VerifyShapes", spec := "verifyShapes", unfollowed := true, recurses := true, named := ["unicode/utf8.first", "unicode/utf8.acceptRanges"], apart := false, laid := [("unicode/utf8.acceptRanges", laid_unicode_utf8_acceptRanges), ("unicode/utf8.first", laid_unicode_utf8_first)] }
def VerifyShapesSaid : Prop := verifyShapesRow.holds Tryd.pinned (OpenSpec.ofChange verifyShapesSpec)

/-- ITS FALSE NEIGHBOUR: 'it returns false'. Refute it at one input. -/
def verifyShapesWrong : ChangeSpec := { name := "verifyShapes", fn := fun _ => fun
  | [d1, d2] => { results := [.lit (.bool false)], args := [d1, d2] }
  | _ => none }
def VerifyShapesWrongFalsely : Prop := verifyShapesRow.holds Tryd.pinned (OpenSpec.ofChange verifyShapesWrong)

/-- 'knapsacklaw29.VerifyLines': WHATEVER THE INPUT: true; the input reads as it did. -/
def verifyLinesSpec : ChangeSpec := { name := "verifyLines", fn := fun _ => fun
  | [d1, d2] => { results := [.lit (.bool true)], args := [d1, d2] }
  | _ => none }
def verifyLinesRow : OpenClaim := { program := "ytlffpgjkhehdmaadoor", sum := "6af822e107e9cc8fc23868c73cf77b1a0f164cc41e1bc3e07bf416779ded8f65", func := "knapsack/knapsacklaw29.VerifyLines", spec := "verifyLines", unfollowed := true, recurses := true, named := ["unicode/utf8.first", "unicode/utf8.acceptRanges"], apart := false, laid := [("unicode/utf8.acceptRanges", laid_unicode_utf8_acceptRanges), ("unicode/utf8.first", laid_unicode_utf8_first)] }
def VerifyLinesSaid : Prop := verifyLinesRow.holds Tryd.pinned (OpenSpec.ofChange verifyLinesSpec)

/-- ITS FALSE NEIGHBOUR: 'it returns false'. Refute it at one input. -/
def verifyLinesWrong : ChangeSpec := { name := "verifyLines", fn := fun _ => fun
  | [d1, d2] => { results := [.lit (.bool false)], args := [d1, d2] }
  | _ => none }
def VerifyLinesWrongFalsely : Prop := verifyLinesRow.holds Tryd.pinned (OpenSpec.ofChange verifyLinesWrong)

/-- 'knapsacklaw27.BytecodeDecodes': WHATEVER THE INPUT: true; the input reads as it did. -/
def bytecodeDecodesSpec : ChangeSpec := { name := "bytecodeDecodes", fn := fun _ => fun
  | [d] => { results := [.lit (.bool true)], args := [d] }
  | _ => none }
def bytecodeDecodesRow : OpenClaim := { program := "ytlffpgjkhehdmaadoor", sum := "6af822e107e9cc8fc23868c73cf77b1a0f164cc41e1bc3e07bf416779ded8f65", func := "knapsack/knapsacklaw27.BytecodeDecodes", spec := "bytecodeDecodes", named := ["unicode/utf8.first", "unicode/utf8.acceptRanges"], apart := false, laid := [("unicode/utf8.acceptRanges", laid_unicode_utf8_acceptRanges), ("unicode/utf8.first", laid_unicode_utf8_first)] }
def BytecodeDecodesSaid : Prop := bytecodeDecodesRow.holds Tryd.pinned (OpenSpec.ofChange bytecodeDecodesSpec)

/-- ITS FALSE NEIGHBOUR: 'it returns false'. Refute it at one input. -/
def bytecodeDecodesWrong : ChangeSpec := { name := "bytecodeDecodes", fn := fun _ => fun
  | [d] => { results := [.lit (.bool false)], args := [d] }
  | _ => none }
def BytecodeDecodesWrongFalsely : Prop := bytecodeDecodesRow.holds Tryd.pinned (OpenSpec.ofChange bytecodeDecodesWrong)

/-- 'knapsacklaw27.BytecodeFormed': WHATEVER THE INPUT: true; the input reads as it did. -/
def bytecodeFormedSpec : ChangeSpec := { name := "bytecodeFormed", fn := fun _ => fun
  | [d] => { results := [.lit (.bool true)], args := [d] }
  | _ => none }
def bytecodeFormedRow : OpenClaim := { program := "ytlffpgjkhehdmaadoor", sum := "6af822e107e9cc8fc23868c73cf77b1a0f164cc41e1bc3e07bf416779ded8f65", func := "knapsack/knapsacklaw27.BytecodeFormed", spec := "bytecodeFormed", named := ["unicode/utf8.first", "unicode/utf8.acceptRanges"], apart := false, laid := [("unicode/utf8.acceptRanges", laid_unicode_utf8_acceptRanges), ("unicode/utf8.first", laid_unicode_utf8_first)] }
def BytecodeFormedSaid : Prop := bytecodeFormedRow.holds Tryd.pinned (OpenSpec.ofChange bytecodeFormedSpec)

/-- ITS FALSE NEIGHBOUR: 'it returns false'. Refute it at one input. -/
def bytecodeFormedWrong : ChangeSpec := { name := "bytecodeFormed", fn := fun _ => fun
  | [d] => { results := [.lit (.bool false)], args := [d] }
  | _ => none }
def BytecodeFormedWrongFalsely : Prop := bytecodeFormedRow.holds Tryd.pinned (OpenSpec.ofChange bytecodeFormedWrong)

/-- 'knapsacklaw29.VerifyAppends': WHATEVER THE INPUT: true; the input reads as it did. -/
def verifyAppendsSpec : ChangeSpec := { name := "verifyAppends", fn := fun _ => fun
  | [d1, d2] => { results := [.lit (.bool true)], args := [d1, d2] }
  | _ => none }
def verifyAppendsRow : OpenClaim := { program := "ytlffpgjkhehdmaadoor", sum := "6af822e107e9cc8fc23868c73cf77b1a0f164cc41e1bc3e07bf416779ded8f65", func := "knapsack/knapsacklaw29.VerifyAppends", spec := "verifyAppends", unfollowed := true, recurses := true, named := ["unicode/utf8.first", "unicode/utf8.acceptRanges"], apart := false, laid := [("unicode/utf8.acceptRanges", laid_unicode_utf8_acceptRanges), ("unicode/utf8.first", laid_unicode_utf8_first)] }
def VerifyAppendsSaid : Prop := verifyAppendsRow.holds Tryd.pinned (OpenSpec.ofChange verifyAppendsSpec)

/-- ITS FALSE NEIGHBOUR: 'it returns false'. Refute it at one input. -/
def verifyAppendsWrong : ChangeSpec := { name := "verifyAppends", fn := fun _ => fun
  | [d1, d2] => { results := [.lit (.bool false)], args := [d1, d2] }
  | _ => none }
def VerifyAppendsWrongFalsely : Prop := verifyAppendsRow.holds Tryd.pinned (OpenSpec.ofChange verifyAppendsWrong)

/-- 'knapsacklaw27.BytecodeEncodes': WHATEVER THE INPUT: true; the input reads as it did. -/
def bytecodeEncodesSpec : ChangeSpec := { name := "bytecodeEncodes", fn := fun _ => fun
  | [d] => { results := [.lit (.bool true)], args := [d] }
  | _ => none }
def bytecodeEncodesRow : OpenClaim := { program := "ytlffpgjkhehdmaadoor", sum := "6af822e107e9cc8fc23868c73cf77b1a0f164cc41e1bc3e07bf416779ded8f65", func := "knapsack/knapsacklaw27.BytecodeEncodes", spec := "bytecodeEncodes", named := ["unicode/utf8.first", "unicode/utf8.acceptRanges"], apart := false, laid := [("unicode/utf8.acceptRanges", laid_unicode_utf8_acceptRanges), ("unicode/utf8.first", laid_unicode_utf8_first)] }
def BytecodeEncodesSaid : Prop := bytecodeEncodesRow.holds Tryd.pinned (OpenSpec.ofChange bytecodeEncodesSpec)

/-- ITS FALSE NEIGHBOUR: 'it returns false'. Refute it at one input. -/
def bytecodeEncodesWrong : ChangeSpec := { name := "bytecodeEncodes", fn := fun _ => fun
  | [d] => { results := [.lit (.bool false)], args := [d] }
  | _ => none }
def BytecodeEncodesWrongFalsely : Prop := bytecodeEncodesRow.holds Tryd.pinned (OpenSpec.ofChange bytecodeEncodesWrong)

/-- 'knapsacklaw27.BytecodeSpoilt': WHATEVER THE INPUT: true; the input reads as it did. -/
def bytecodeSpoiltSpec : ChangeSpec := { name := "bytecodeSpoilt", fn := fun _ => fun
  | [d1, d2, d3] => { results := [.lit (.bool true)], args := [d1, d2, d3] }
  | _ => none }
def bytecodeSpoiltRow : OpenClaim := { program := "ytlffpgjkhehdmaadoor", sum := "6af822e107e9cc8fc23868c73cf77b1a0f164cc41e1bc3e07bf416779ded8f65", func := "knapsack/knapsacklaw27.BytecodeSpoilt", spec := "bytecodeSpoilt", named := ["unicode/utf8.first", "unicode/utf8.acceptRanges"], apart := false, laid := [("unicode/utf8.acceptRanges", laid_unicode_utf8_acceptRanges), ("unicode/utf8.first", laid_unicode_utf8_first)] }
def BytecodeSpoiltSaid : Prop := bytecodeSpoiltRow.holds Tryd.pinned (OpenSpec.ofChange bytecodeSpoiltSpec)

/-- ITS FALSE NEIGHBOUR: 'it returns false'. Refute it at one input. -/
def bytecodeSpoiltWrong : ChangeSpec := { name := "bytecodeSpoilt", fn := fun _ => fun
  | [d1, d2, d3] => { results := [.lit (.bool false)], args := [d1, d2, d3] }
  | _ => none }
def BytecodeSpoiltWrongFalsely : Prop := bytecodeSpoiltRow.holds Tryd.pinned (OpenSpec.ofChange bytecodeSpoiltWrong)

/- THE SECOND FORM. 'bulk': how many values and letters a reading holds, each counted each time it is reached (what is shared counts as often as it is met; a slice's spare places count too). A statement '..UptoSaid' is the law's where the arguments, and the package variables that the reading takes, are together of bulk at most 1048576: NARROWER than '..Said'. Prove '..Said' where nothing that the law and all that it calls make is longer than what came in: it says more and counts as full. Else prove '..UptoSaid'. A law counts once. -/
mutual
def uptoBulk {H : Type} : DataW H → Nat
  | .lit (.string bytes) => bytes.length + 1
  | .lit _ => 1
  | .nil => 1
  | .ptr d => uptoBulk d + 1
  | .slice elems spare => uptoBulkAll elems + uptoBulkAll spare + 1
  | .agg parts => uptoBulkAll parts + 1
  | .iface _ d => uptoBulk d + 1
  | .map entries => uptoBulkEntries entries + 1
  | .held _ => 1
def uptoBulkAll {H : Type} : List (DataW H) → Nat
  | [] => 0
  | d :: r => uptoBulk d + uptoBulkAll r
def uptoBulkEntries {H : Type} : List (Lit × DataW H) → Nat
  | [] => 0
  | x :: r => uptoBulkEntry x + uptoBulkEntries r
def uptoBulkEntry {H : Type} : Lit × DataW H → Nat
  | (.string bytes, d) => bytes.length + uptoBulk d + 1
  | (_, d) => uptoBulk d + 1
 end
def uptoSmall : (H : Type) → List (DataW H) → Bool := fun _ ds => decide (uptoBulkAll ds ≤ 1048576)
def OpenSpec.upto (s : _root_.Go.ChangeSpec) : _root_.Go.OpenSpec := { _root_.Go.OpenSpec.ofChange s with cond := some uptoSmall }

/-- 'knapsacklaw27.BytecodeTable', WHERE WHAT IT READS IS OF BULK AT MOST 1048576: true; the input reads as it did. -/
def bytecodeTableUptoRow : OpenClaim := { program := "ytlffpgjkhehdmaadoor", sum := "6af822e107e9cc8fc23868c73cf77b1a0f164cc41e1bc3e07bf416779ded8f65", func := "knapsack/knapsacklaw27.BytecodeTable", spec := "bytecodeTable", named := ["unicode/utf8.first", "unicode/utf8.acceptRanges"], apart := false, laid := [("unicode/utf8.acceptRanges", laid_unicode_utf8_acceptRanges), ("unicode/utf8.first", laid_unicode_utf8_first)], narrowed := true }
def BytecodeTableUptoSaid : Prop := bytecodeTableUptoRow.holds Tryd.pinned (OpenSpec.upto bytecodeTableSpec)

/-- 'knapsacklaw27.BytecodeAppends', WHERE WHAT IT READS IS OF BULK AT MOST 1048576: true; the input reads as it did. -/
def bytecodeAppendsUptoRow : OpenClaim := { program := "ytlffpgjkhehdmaadoor", sum := "6af822e107e9cc8fc23868c73cf77b1a0f164cc41e1bc3e07bf416779ded8f65", func := "knapsack/knapsacklaw27.BytecodeAppends", spec := "bytecodeAppends", named := ["unicode/utf8.first", "unicode/utf8.acceptRanges"], apart := false, laid := [("unicode/utf8.acceptRanges", laid_unicode_utf8_acceptRanges), ("unicode/utf8.first", laid_unicode_utf8_first)], narrowed := true }
def BytecodeAppendsUptoSaid : Prop := bytecodeAppendsUptoRow.holds Tryd.pinned (OpenSpec.upto bytecodeAppendsSpec)

/-- 'knapsacklaw27.BytecodeSame', WHERE WHAT IT READS IS OF BULK AT MOST 1048576: true; the input reads as it did. -/
def bytecodeSameUptoRow : OpenClaim := { program := "ytlffpgjkhehdmaadoor", sum := "6af822e107e9cc8fc23868c73cf77b1a0f164cc41e1bc3e07bf416779ded8f65", func := "knapsack/knapsacklaw27.BytecodeSame", spec := "bytecodeSame", named := ["unicode/utf8.first", "unicode/utf8.acceptRanges"], apart := false, laid := [("unicode/utf8.acceptRanges", laid_unicode_utf8_acceptRanges), ("unicode/utf8.first", laid_unicode_utf8_first)], narrowed := true }
def BytecodeSameUptoSaid : Prop := bytecodeSameUptoRow.holds Tryd.pinned (OpenSpec.upto bytecodeSameSpec)

/-- 'knapsacklaw29.VerifyChecks', WHERE WHAT IT READS IS OF BULK AT MOST 1048576: true; the input reads as it did. -/
def verifyChecksUptoRow : OpenClaim := { program := "ytlffpgjkhehdmaadoor", sum := "6af822e107e9cc8fc23868c73cf77b1a0f164cc41e1bc3e07bf416779ded8f65", func := "knapsack/knapsacklaw29.VerifyChecks", spec := "verifyChecks", unfollowed := true, recurses := true, named := ["unicode/utf8.first", "unicode/utf8.acceptRanges"], apart := false, laid := [("unicode/utf8.acceptRanges", laid_unicode_utf8_acceptRanges), ("unicode/utf8.first", laid_unicode_utf8_first)], narrowed := true }
def VerifyChecksUptoSaid : Prop := verifyChecksUptoRow.holds Tryd.pinned (OpenSpec.upto verifyChecksSpec)

/-- 'knapsacklaw29.VerifyWalks', WHERE WHAT IT READS IS OF BULK AT MOST 1048576: true; the input reads as it did. -/
def verifyWalksUptoRow : OpenClaim := { program := "ytlffpgjkhehdmaadoor", sum := "6af822e107e9cc8fc23868c73cf77b1a0f164cc41e1bc3e07bf416779ded8f65", func := "knapsack/knapsacklaw29.VerifyWalks", spec := "verifyWalks", unfollowed := true, recurses := true, named := ["unicode/utf8.first", "unicode/utf8.acceptRanges"], apart := false, laid := [("unicode/utf8.acceptRanges", laid_unicode_utf8_acceptRanges), ("unicode/utf8.first", laid_unicode_utf8_first)], narrowed := true }
def VerifyWalksUptoSaid : Prop := verifyWalksUptoRow.holds Tryd.pinned (OpenSpec.upto verifyWalksSpec)

/-- 'knapsacklaw29.VerifyLess', WHERE WHAT IT READS IS OF BULK AT MOST 1048576: true; the input reads as it did. -/
def verifyLessUptoRow : OpenClaim := { program := "ytlffpgjkhehdmaadoor", sum := "6af822e107e9cc8fc23868c73cf77b1a0f164cc41e1bc3e07bf416779ded8f65", func := "knapsack/knapsacklaw29.VerifyLess", spec := "verifyLess", unfollowed := true, recurses := true, named := ["unicode/utf8.first", "unicode/utf8.acceptRanges"], apart := false, laid := [("unicode/utf8.acceptRanges", laid_unicode_utf8_acceptRanges), ("unicode/utf8.first", laid_unicode_utf8_first)], narrowed := true }
def VerifyLessUptoSaid : Prop := verifyLessUptoRow.holds Tryd.pinned (OpenSpec.upto verifyLessSpec)

/-- 'knapsacklaw29.VerifyRefuses', WHERE WHAT IT READS IS OF BULK AT MOST 1048576: true; the input reads as it did. -/
def verifyRefusesUptoRow : OpenClaim := { program := "ytlffpgjkhehdmaadoor", sum := "6af822e107e9cc8fc23868c73cf77b1a0f164cc41e1bc3e07bf416779ded8f65", func := "knapsack/knapsacklaw29.VerifyRefuses", spec := "verifyRefuses", unfollowed := true, recurses := true, named := ["unicode/utf8.first", "unicode/utf8.acceptRanges"], apart := false, laid := [("unicode/utf8.acceptRanges", laid_unicode_utf8_acceptRanges), ("unicode/utf8.first", laid_unicode_utf8_first)], narrowed := true }
def VerifyRefusesUptoSaid : Prop := verifyRefusesUptoRow.holds Tryd.pinned (OpenSpec.upto verifyRefusesSpec)

/-- 'knapsacklaw29.VerifyShapes', WHERE WHAT IT READS IS OF BULK AT MOST 1048576: true; the input reads as it did. -/
def verifyShapesUptoRow : OpenClaim := { program := "ytlffpgjkhehdmaadoor", sum := "6af822e107e9cc8fc23868c73cf77b1a0f164cc41e1bc3e07bf416779ded8f65", func := "knapsack/knapsacklaw29.VerifyShapes", spec := "verifyShapes", unfollowed := true, recurses := true, named := ["unicode/utf8.first", "unicode/utf8.acceptRanges"], apart := false, laid := [("unicode/utf8.acceptRanges", laid_unicode_utf8_acceptRanges), ("unicode/utf8.first", laid_unicode_utf8_first)], narrowed := true }
def VerifyShapesUptoSaid : Prop := verifyShapesUptoRow.holds Tryd.pinned (OpenSpec.upto verifyShapesSpec)

/-- 'knapsacklaw29.VerifyLines', WHERE WHAT IT READS IS OF BULK AT MOST 1048576: true; the input reads as it did. -/
def verifyLinesUptoRow : OpenClaim := { program := "ytlffpgjkhehdmaadoor", sum := "6af822e107e9cc8fc23868c73cf77b1a0f164cc41e1bc3e07bf416779ded8f65", func := "knapsack/knapsacklaw29.VerifyLines", spec := "verifyLines", unfollowed := true, recurses := true, named := ["unicode/utf8.first", "unicode/utf8.acceptRanges"], apart := false, laid := [("unicode/utf8.acceptRanges", laid_unicode_utf8_acceptRanges), ("unicode/utf8.first", laid_unicode_utf8_first)], narrowed := true }
def VerifyLinesUptoSaid : Prop := verifyLinesUptoRow.holds Tryd.pinned (OpenSpec.upto verifyLinesSpec)

/-- 'knapsacklaw27.BytecodeDecodes', WHERE WHAT IT READS IS OF BULK AT MOST 1048576: true; the input reads as it did. -/
def bytecodeDecodesUptoRow : OpenClaim := { program := "ytlffpgjkhehdmaadoor", sum := "6af822e107e9cc8fc23868c73cf77b1a0f164cc41e1bc3e07bf416779ded8f65", func := "knapsack/knapsacklaw27.BytecodeDecodes", spec := "bytecodeDecodes", named := ["unicode/utf8.first", "unicode/utf8.acceptRanges"], apart := false, laid := [("unicode/utf8.acceptRanges", laid_unicode_utf8_acceptRanges), ("unicode/utf8.first", laid_unicode_utf8_first)], narrowed := true }
def BytecodeDecodesUptoSaid : Prop := bytecodeDecodesUptoRow.holds Tryd.pinned (OpenSpec.upto bytecodeDecodesSpec)

/-- 'knapsacklaw27.BytecodeFormed', WHERE WHAT IT READS IS OF BULK AT MOST 1048576: true; the input reads as it did. -/
def bytecodeFormedUptoRow : OpenClaim := { program := "ytlffpgjkhehdmaadoor", sum := "6af822e107e9cc8fc23868c73cf77b1a0f164cc41e1bc3e07bf416779ded8f65", func := "knapsack/knapsacklaw27.BytecodeFormed", spec := "bytecodeFormed", named := ["unicode/utf8.first", "unicode/utf8.acceptRanges"], apart := false, laid := [("unicode/utf8.acceptRanges", laid_unicode_utf8_acceptRanges), ("unicode/utf8.first", laid_unicode_utf8_first)], narrowed := true }
def BytecodeFormedUptoSaid : Prop := bytecodeFormedUptoRow.holds Tryd.pinned (OpenSpec.upto bytecodeFormedSpec)

/-- 'knapsacklaw29.VerifyAppends', WHERE WHAT IT READS IS OF BULK AT MOST 1048576: true; the input reads as it did. -/
def verifyAppendsUptoRow : OpenClaim := { program := "ytlffpgjkhehdmaadoor", sum := "6af822e107e9cc8fc23868c73cf77b1a0f164cc41e1bc3e07bf416779ded8f65", func := "knapsack/knapsacklaw29.VerifyAppends", spec := "verifyAppends", unfollowed := true, recurses := true, named := ["unicode/utf8.first", "unicode/utf8.acceptRanges"], apart := false, laid := [("unicode/utf8.acceptRanges", laid_unicode_utf8_acceptRanges), ("unicode/utf8.first", laid_unicode_utf8_first)], narrowed := true }
def VerifyAppendsUptoSaid : Prop := verifyAppendsUptoRow.holds Tryd.pinned (OpenSpec.upto verifyAppendsSpec)

/-- 'knapsacklaw27.BytecodeEncodes', WHERE WHAT IT READS IS OF BULK AT MOST 1048576: true; the input reads as it did. -/
def bytecodeEncodesUptoRow : OpenClaim := { program := "ytlffpgjkhehdmaadoor", sum := "6af822e107e9cc8fc23868c73cf77b1a0f164cc41e1bc3e07bf416779ded8f65", func := "knapsack/knapsacklaw27.BytecodeEncodes", spec := "bytecodeEncodes", named := ["unicode/utf8.first", "unicode/utf8.acceptRanges"], apart := false, laid := [("unicode/utf8.acceptRanges", laid_unicode_utf8_acceptRanges), ("unicode/utf8.first", laid_unicode_utf8_first)], narrowed := true }
def BytecodeEncodesUptoSaid : Prop := bytecodeEncodesUptoRow.holds Tryd.pinned (OpenSpec.upto bytecodeEncodesSpec)

/-- 'knapsacklaw27.BytecodeSpoilt', WHERE WHAT IT READS IS OF BULK AT MOST 1048576: true; the input reads as it did. -/
def bytecodeSpoiltUptoRow : OpenClaim := { program := "ytlffpgjkhehdmaadoor", sum := "6af822e107e9cc8fc23868c73cf77b1a0f164cc41e1bc3e07bf416779ded8f65", func := "knapsack/knapsacklaw27.BytecodeSpoilt", spec := "bytecodeSpoilt", named := ["unicode/utf8.first", "unicode/utf8.acceptRanges"], apart := false, laid := [("unicode/utf8.acceptRanges", laid_unicode_utf8_acceptRanges), ("unicode/utf8.first", laid_unicode_utf8_first)], narrowed := true }
def BytecodeSpoiltUptoSaid : Prop := bytecodeSpoiltUptoRow.holds Tryd.pinned (OpenSpec.upto bytecodeSpoiltSpec)

end Rows
end Go.Proofs.YtlffpgjkhehdmaaDoor
