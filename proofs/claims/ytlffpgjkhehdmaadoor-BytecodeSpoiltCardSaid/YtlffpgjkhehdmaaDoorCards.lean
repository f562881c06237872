/-
  DERIVED. GIVEN WITH THE SEED: THE CARDS: each row of YtlffpgjkhehdmaaDoorRows.lean that lists a variable, with what it lists TIED to the program's text (the seventh form; the later family's looks); each row that meets fmt, with fmt's text TOLD by the authors' own Lean function (tested against real Go, not proved from fmt's source: count such statements apart). THE CARD IS WHAT COUNTS. Prove the row's statement (the work); the ties are given (YtlffpgjkhehdmaaDoorTie.lean); close each card by the builder's one call (the guide's Derived/Test/ToyasCard.lean, 'card_holds'). Laid BY PROGRAM, IN A SANDBOX (cutbox-door.mjs). By AI agents, Wed Nov 11 2026. No macro, syntax, notation, axiom, sorry.
-/
import Derived.Test.YtlffpgjkhehdmaaDoorRows
import GoSem.ClaimSeven
namespace Go.Proofs.YtlffpgjkhehdmaaDoor
namespace Rows

/-- THE TIED CARD OF 'knapsacklaw27.BytecodeTable'. -/
def bytecodeTableCard : Claim7 := { stood := { row := bytecodeTableRow, standIns := [], harness := (true, "3c1315e70c58aa5725bbe52e4fb293e3c24ccfccf60fbd43a7af25d0d5ad505c"), looks := true }, kinds := [], alts := [], laidByText := true, laidKinds := [.data, .pinned], laidTests := true, laidLooks := .later }
def BytecodeTableCardSaid : Prop := Claim7.holds Tryd.pinned (.plain (OpenSpec.ofChange bytecodeTableSpec)) bytecodeTableCard

/-- THE TIED CARD OF 'knapsacklaw27.BytecodeAppends'. -/
def bytecodeAppendsCard : Claim7 := { stood := { row := bytecodeAppendsRow, standIns := [], harness := (true, "3c1315e70c58aa5725bbe52e4fb293e3c24ccfccf60fbd43a7af25d0d5ad505c"), looks := true }, kinds := [], alts := [], laidByText := true, laidKinds := [.data, .pinned], laidTests := true, laidLooks := .later }
def BytecodeAppendsCardSaid : Prop := Claim7.holds Tryd.pinned (.plain (OpenSpec.ofChange bytecodeAppendsSpec)) bytecodeAppendsCard

/-- THE TIED CARD OF 'knapsacklaw27.BytecodeSame'. -/
def bytecodeSameCard : Claim7 := { stood := { row := bytecodeSameRow, standIns := [], harness := (true, "3c1315e70c58aa5725bbe52e4fb293e3c24ccfccf60fbd43a7af25d0d5ad505c"), looks := true }, kinds := [], alts := [], laidByText := true, laidKinds := [.data, .pinned], laidTests := true, laidLooks := .later }
def BytecodeSameCardSaid : Prop := Claim7.holds Tryd.pinned (.plain (OpenSpec.ofChange bytecodeSameSpec)) bytecodeSameCard

/-- THE TIED CARD OF 'knapsacklaw29.VerifyChecks'. -/
def verifyChecksCard : Claim7 := { stood := { row := verifyChecksRow, standIns := [], harness := (true, "3c1315e70c58aa5725bbe52e4fb293e3c24ccfccf60fbd43a7af25d0d5ad505c"), looks := true }, kinds := [], alts := [], laidByText := true, laidKinds := [.data, .pinned], laidTests := true, laidLooks := .later }
def VerifyChecksCardSaid : Prop := Claim7.holds Tryd.pinned (.plain (OpenSpec.ofChange verifyChecksSpec)) verifyChecksCard

/-- THE TIED CARD OF 'knapsacklaw29.VerifyWalks'. -/
def verifyWalksCard : Claim7 := { stood := { row := verifyWalksRow, standIns := [], harness := (true, "3c1315e70c58aa5725bbe52e4fb293e3c24ccfccf60fbd43a7af25d0d5ad505c"), looks := true }, kinds := [], alts := [], laidByText := true, laidKinds := [.data, .pinned], laidTests := true, laidLooks := .later }
def VerifyWalksCardSaid : Prop := Claim7.holds Tryd.pinned (.plain (OpenSpec.ofChange verifyWalksSpec)) verifyWalksCard

/-- THE TIED CARD OF 'knapsacklaw29.VerifyLess'. -/
def verifyLessCard : Claim7 := { stood := { row := verifyLessRow, standIns := [], harness := (true, "3c1315e70c58aa5725bbe52e4fb293e3c24ccfccf60fbd43a7af25d0d5ad505c"), looks := true }, kinds := [], alts := [], laidByText := true, laidKinds := [.data, .pinned], laidTests := true, laidLooks := .later }
def VerifyLessCardSaid : Prop := Claim7.holds Tryd.pinned (.plain (OpenSpec.ofChange verifyLessSpec)) verifyLessCard

/-- THE TIED CARD OF 'knapsacklaw29.VerifyRefuses'. -/
def verifyRefusesCard : Claim7 := { stood := { row := verifyRefusesRow, standIns := [], harness := (true, "3c1315e70c58aa5725bbe52e4fb293e3c24ccfccf60fbd43a7af25d0d5ad505c"), looks := true }, kinds := [], alts := [], laidByText := true, laidKinds := [.data, .pinned], laidTests := true, laidLooks := .later }
def VerifyRefusesCardSaid : Prop := Claim7.holds Tryd.pinned (.plain (OpenSpec.ofChange verifyRefusesSpec)) verifyRefusesCard

/-- THE TIED CARD OF 'knapsacklaw29.VerifyShapes'. -/
def verifyShapesCard : Claim7 := { stood := { row := verifyShapesRow, standIns := [], harness := (true, "3c1315e70c58aa5725bbe52e4fb293e3c24ccfccf60fbd43a7af25d0d5ad505c"), looks := true }, kinds := [], alts := [], laidByText := true, laidKinds := [.data, .pinned], laidTests := true, laidLooks := .later }
def VerifyShapesCardSaid : Prop := Claim7.holds Tryd.pinned (.plain (OpenSpec.ofChange verifyShapesSpec)) verifyShapesCard

/-- THE TIED CARD OF 'knapsacklaw29.VerifyLines'. -/
def verifyLinesCard : Claim7 := { stood := { row := verifyLinesRow, standIns := [], harness := (true, "3c1315e70c58aa5725bbe52e4fb293e3c24ccfccf60fbd43a7af25d0d5ad505c"), looks := true }, kinds := [], alts := [], laidByText := true, laidKinds := [.data, .pinned], laidTests := true, laidLooks := .later }
def VerifyLinesCardSaid : Prop := Claim7.holds Tryd.pinned (.plain (OpenSpec.ofChange verifyLinesSpec)) verifyLinesCard

/-- THE TIED CARD OF 'knapsacklaw27.BytecodeDecodes'. -/
def bytecodeDecodesCard : Claim7 := { stood := { row := bytecodeDecodesRow, standIns := [], harness := (true, "3c1315e70c58aa5725bbe52e4fb293e3c24ccfccf60fbd43a7af25d0d5ad505c"), looks := true }, kinds := [], alts := [], laidByText := true, laidKinds := [.data, .pinned], laidTests := true, laidLooks := .later }
def BytecodeDecodesCardSaid : Prop := Claim7.holds Tryd.pinned (.plain (OpenSpec.ofChange bytecodeDecodesSpec)) bytecodeDecodesCard

/-- THE TIED CARD OF 'knapsacklaw27.BytecodeFormed'. -/
def bytecodeFormedCard : Claim7 := { stood := { row := bytecodeFormedRow, standIns := [], harness := (true, "3c1315e70c58aa5725bbe52e4fb293e3c24ccfccf60fbd43a7af25d0d5ad505c"), looks := true }, kinds := [], alts := [], laidByText := true, laidKinds := [.data, .pinned], laidTests := true, laidLooks := .later }
def BytecodeFormedCardSaid : Prop := Claim7.holds Tryd.pinned (.plain (OpenSpec.ofChange bytecodeFormedSpec)) bytecodeFormedCard

/-- THE TIED CARD OF 'knapsacklaw29.VerifyAppends'. -/
def verifyAppendsCard : Claim7 := { stood := { row := verifyAppendsRow, standIns := [], harness := (true, "3c1315e70c58aa5725bbe52e4fb293e3c24ccfccf60fbd43a7af25d0d5ad505c"), looks := true }, kinds := [], alts := [], laidByText := true, laidKinds := [.data, .pinned], laidTests := true, laidLooks := .later }
def VerifyAppendsCardSaid : Prop := Claim7.holds Tryd.pinned (.plain (OpenSpec.ofChange verifyAppendsSpec)) verifyAppendsCard

/-- THE TIED CARD OF 'knapsacklaw27.BytecodeEncodes'. -/
def bytecodeEncodesCard : Claim7 := { stood := { row := bytecodeEncodesRow, standIns := [], harness := (true, "3c1315e70c58aa5725bbe52e4fb293e3c24ccfccf60fbd43a7af25d0d5ad505c"), looks := true }, kinds := [], alts := [], laidByText := true, laidKinds := [.data, .pinned], laidTests := true, laidLooks := .later }
def BytecodeEncodesCardSaid : Prop := Claim7.holds Tryd.pinned (.plain (OpenSpec.ofChange bytecodeEncodesSpec)) bytecodeEncodesCard

/-- THE TIED CARD OF 'knapsacklaw27.BytecodeSpoilt'. -/
def bytecodeSpoiltCard : Claim7 := { stood := { row := bytecodeSpoiltRow, standIns := [], harness := (true, "3c1315e70c58aa5725bbe52e4fb293e3c24ccfccf60fbd43a7af25d0d5ad505c"), looks := true }, kinds := [], alts := [], laidByText := true, laidKinds := [.data, .pinned], laidTests := true, laidLooks := .later }
def BytecodeSpoiltCardSaid : Prop := Claim7.holds Tryd.pinned (.plain (OpenSpec.ofChange bytecodeSpoiltSpec)) bytecodeSpoiltCard

/-- THE SECOND FORM's CARD OF 'knapsacklaw27.BytecodeTable'. -/
def bytecodeTableUptoCard : Claim7 := { stood := { row := bytecodeTableUptoRow, standIns := [], harness := (true, "3c1315e70c58aa5725bbe52e4fb293e3c24ccfccf60fbd43a7af25d0d5ad505c"), looks := true }, kinds := [], alts := [], laidByText := true, laidKinds := [.data, .pinned], laidTests := true, laidLooks := .later }
def BytecodeTableUptoCardSaid : Prop := Claim7.holds Tryd.pinned (.plain (OpenSpec.upto bytecodeTableSpec)) bytecodeTableUptoCard

/-- THE SECOND FORM's CARD OF 'knapsacklaw27.BytecodeAppends'. -/
def bytecodeAppendsUptoCard : Claim7 := { stood := { row := bytecodeAppendsUptoRow, standIns := [], harness := (true, "3c1315e70c58aa5725bbe52e4fb293e3c24ccfccf60fbd43a7af25d0d5ad505c"), looks := true }, kinds := [], alts := [], laidByText := true, laidKinds := [.data, .pinned], laidTests := true, laidLooks := .later }
def BytecodeAppendsUptoCardSaid : Prop := Claim7.holds Tryd.pinned (.plain (OpenSpec.upto bytecodeAppendsSpec)) bytecodeAppendsUptoCard

/-- THE SECOND FORM's CARD OF 'knapsacklaw27.BytecodeSame'. -/
def bytecodeSameUptoCard : Claim7 := { stood := { row := bytecodeSameUptoRow, standIns := [], harness := (true, "3c1315e70c58aa5725bbe52e4fb293e3c24ccfccf60fbd43a7af25d0d5ad505c"), looks := true }, kinds := [], alts := [], laidByText := true, laidKinds := [.data, .pinned], laidTests := true, laidLooks := .later }
def BytecodeSameUptoCardSaid : Prop := Claim7.holds Tryd.pinned (.plain (OpenSpec.upto bytecodeSameSpec)) bytecodeSameUptoCard

/-- THE SECOND FORM's CARD OF 'knapsacklaw29.VerifyChecks'. -/
def verifyChecksUptoCard : Claim7 := { stood := { row := verifyChecksUptoRow, standIns := [], harness := (true, "3c1315e70c58aa5725bbe52e4fb293e3c24ccfccf60fbd43a7af25d0d5ad505c"), looks := true }, kinds := [], alts := [], laidByText := true, laidKinds := [.data, .pinned], laidTests := true, laidLooks := .later }
def VerifyChecksUptoCardSaid : Prop := Claim7.holds Tryd.pinned (.plain (OpenSpec.upto verifyChecksSpec)) verifyChecksUptoCard

/-- THE SECOND FORM's CARD OF 'knapsacklaw29.VerifyWalks'. -/
def verifyWalksUptoCard : Claim7 := { stood := { row := verifyWalksUptoRow, standIns := [], harness := (true, "3c1315e70c58aa5725bbe52e4fb293e3c24ccfccf60fbd43a7af25d0d5ad505c"), looks := true }, kinds := [], alts := [], laidByText := true, laidKinds := [.data, .pinned], laidTests := true, laidLooks := .later }
def VerifyWalksUptoCardSaid : Prop := Claim7.holds Tryd.pinned (.plain (OpenSpec.upto verifyWalksSpec)) verifyWalksUptoCard

/-- THE SECOND FORM's CARD OF 'knapsacklaw29.VerifyLess'. -/
def verifyLessUptoCard : Claim7 := { stood := { row := verifyLessUptoRow, standIns := [], harness := (true, "3c1315e70c58aa5725bbe52e4fb293e3c24ccfccf60fbd43a7af25d0d5ad505c"), looks := true }, kinds := [], alts := [], laidByText := true, laidKinds := [.data, .pinned], laidTests := true, laidLooks := .later }
def VerifyLessUptoCardSaid : Prop := Claim7.holds Tryd.pinned (.plain (OpenSpec.upto verifyLessSpec)) verifyLessUptoCard

/-- THE SECOND FORM's CARD OF 'knapsacklaw29.VerifyRefuses'. -/
def verifyRefusesUptoCard : Claim7 := { stood := { row := verifyRefusesUptoRow, standIns := [], harness := (true, "3c1315e70c58aa5725bbe52e4fb293e3c24ccfccf60fbd43a7af25d0d5ad505c"), looks := true }, kinds := [], alts := [], laidByText := true, laidKinds := [.data, .pinned], laidTests := true, laidLooks := .later }
def VerifyRefusesUptoCardSaid : Prop := Claim7.holds Tryd.pinned (.plain (OpenSpec.upto verifyRefusesSpec)) verifyRefusesUptoCard

/-- THE SECOND FORM's CARD OF 'knapsacklaw29.VerifyShapes'. -/
def verifyShapesUptoCard : Claim7 := { stood := { row := verifyShapesUptoRow, standIns := [], harness := (true, "3c1315e70c58aa5725bbe52e4fb293e3c24ccfccf60fbd43a7af25d0d5ad505c"), looks := true }, kinds := [], alts := [], laidByText := true, laidKinds := [.data, .pinned], laidTests := true, laidLooks := .later }
def VerifyShapesUptoCardSaid : Prop := Claim7.holds Tryd.pinned (.plain (OpenSpec.upto verifyShapesSpec)) verifyShapesUptoCard

/-- THE SECOND FORM's CARD OF 'knapsacklaw29.VerifyLines'. -/
def verifyLinesUptoCard : Claim7 := { stood := { row := verifyLinesUptoRow, standIns := [], harness := (true, "3c1315e70c58aa5725bbe52e4fb293e3c24ccfccf60fbd43a7af25d0d5ad505c"), looks := true }, kinds := [], alts := [], laidByText := true, laidKinds := [.data, .pinned], laidTests := true, laidLooks := .later }
def VerifyLinesUptoCardSaid : Prop := Claim7.holds Tryd.pinned (.plain (OpenSpec.upto verifyLinesSpec)) verifyLinesUptoCard

/-- THE SECOND FORM's CARD OF 'knapsacklaw27.BytecodeDecodes'. -/
def bytecodeDecodesUptoCard : Claim7 := { stood := { row := bytecodeDecodesUptoRow, standIns := [], harness := (true, "3c1315e70c58aa5725bbe52e4fb293e3c24ccfccf60fbd43a7af25d0d5ad505c"), looks := true }, kinds := [], alts := [], laidByText := true, laidKinds := [.data, .pinned], laidTests := true, laidLooks := .later }
def BytecodeDecodesUptoCardSaid : Prop := Claim7.holds Tryd.pinned (.plain (OpenSpec.upto bytecodeDecodesSpec)) bytecodeDecodesUptoCard

/-- THE SECOND FORM's CARD OF 'knapsacklaw27.BytecodeFormed'. -/
def bytecodeFormedUptoCard : Claim7 := { stood := { row := bytecodeFormedUptoRow, standIns := [], harness := (true, "3c1315e70c58aa5725bbe52e4fb293e3c24ccfccf60fbd43a7af25d0d5ad505c"), looks := true }, kinds := [], alts := [], laidByText := true, laidKinds := [.data, .pinned], laidTests := true, laidLooks := .later }
def BytecodeFormedUptoCardSaid : Prop := Claim7.holds Tryd.pinned (.plain (OpenSpec.upto bytecodeFormedSpec)) bytecodeFormedUptoCard

/-- THE SECOND FORM's CARD OF 'knapsacklaw29.VerifyAppends'. -/
def verifyAppendsUptoCard : Claim7 := { stood := { row := verifyAppendsUptoRow, standIns := [], harness := (true, "3c1315e70c58aa5725bbe52e4fb293e3c24ccfccf60fbd43a7af25d0d5ad505c"), looks := true }, kinds := [], alts := [], laidByText := true, laidKinds := [.data, .pinned], laidTests := true, laidLooks := .later }
def VerifyAppendsUptoCardSaid : Prop := Claim7.holds Tryd.pinned (.plain (OpenSpec.upto verifyAppendsSpec)) verifyAppendsUptoCard

/-- THE SECOND FORM's CARD OF 'knapsacklaw27.BytecodeEncodes'. -/
def bytecodeEncodesUptoCard : Claim7 := { stood := { row := bytecodeEncodesUptoRow, standIns := [], harness := (true, "3c1315e70c58aa5725bbe52e4fb293e3c24ccfccf60fbd43a7af25d0d5ad505c"), looks := true }, kinds := [], alts := [], laidByText := true, laidKinds := [.data, .pinned], laidTests := true, laidLooks := .later }
def BytecodeEncodesUptoCardSaid : Prop := Claim7.holds Tryd.pinned (.plain (OpenSpec.upto bytecodeEncodesSpec)) bytecodeEncodesUptoCard

/-- THE SECOND FORM's CARD OF 'knapsacklaw27.BytecodeSpoilt'. -/
def bytecodeSpoiltUptoCard : Claim7 := { stood := { row := bytecodeSpoiltUptoRow, standIns := [], harness := (true, "3c1315e70c58aa5725bbe52e4fb293e3c24ccfccf60fbd43a7af25d0d5ad505c"), looks := true }, kinds := [], alts := [], laidByText := true, laidKinds := [.data, .pinned], laidTests := true, laidLooks := .later }
def BytecodeSpoiltUptoCardSaid : Prop := Claim7.holds Tryd.pinned (.plain (OpenSpec.upto bytecodeSpoiltSpec)) bytecodeSpoiltUptoCard
end Rows
end Go.Proofs.YtlffpgjkhehdmaaDoor
