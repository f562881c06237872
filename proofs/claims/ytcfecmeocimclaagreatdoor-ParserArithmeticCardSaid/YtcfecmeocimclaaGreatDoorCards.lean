/-
  DERIVED. GIVEN WITH THE SEED: THE CARDS: each row of YtcfecmeocimclaaGreatDoorRows.lean that lists a variable, with what it lists TIED to the program's text (the seventh form; the later family's looks); each row that meets fmt, with fmt's text TOLD by the authors' own Lean function (tested against real Go, not proved from fmt's source: count such statements apart). THE CARD IS WHAT COUNTS. Prove the row's statement (the work); the ties are given (YtcfecmeocimclaaGreatDoorTie.lean); close each card by the builder's one call (the guide's Derived/Test/ToyasCard.lean, 'card_holds'). Laid BY PROGRAM, IN A SANDBOX (cutbox-door.mjs). By AI agents, Wed Nov 11 2026. No macro, syntax, notation, axiom, sorry.
-/
import Derived.Test.YtcfecmeocimclaaGreatDoorRows
import GoSem.ClaimSeven
namespace Go.Proofs.YtcfecmeocimclaaGreatDoor
namespace Rows

/-- THE TIED CARD OF 'knapsacklaw26.ParserDeep'. -/
def parserDeepCard : Claim7 := { stood := { row := parserDeepRow, standIns := [], harness := (true, "3efbbb68fabdaea2c428bb4fc786608ceeea12033ea67dd6e0f8e48849bfb076"), looks := true }, kinds := [], alts := [], laidByText := true, laidKinds := [.data, .data, .data, .data, .sentinel, .sentinel, .pinned], laidTests := true, laidLooks := .later }
def ParserDeepCardSaid : Prop := Claim7.holds Tryz.pinned (.plain (OpenSpec.ofChange parserDeepSpec)) parserDeepCard

/-- THE TIED CARD OF 'knapsacklaw26.ParserArithmetic'. -/
def parserArithmeticCard : Claim7 := { stood := { row := parserArithmeticRow, standIns := [], harness := (true, "3efbbb68fabdaea2c428bb4fc786608ceeea12033ea67dd6e0f8e48849bfb076"), looks := true }, kinds := [], alts := [], laidByText := true, laidKinds := [.data, .data, .data, .data, .sentinel, .sentinel, .pinned], laidTests := true, laidLooks := .later }
def ParserArithmeticCardSaid : Prop := Claim7.holds Tryz.pinned (.plain (OpenSpec.ofChange parserArithmeticSpec)) parserArithmeticCard

/-- THE TIED CARD OF 'knapsacklaw26.ParserSame'. -/
def parserSameCard : Claim7 := { stood := { row := parserSameRow, standIns := [], harness := (true, "3efbbb68fabdaea2c428bb4fc786608ceeea12033ea67dd6e0f8e48849bfb076"), looks := true }, kinds := [], alts := [], laidByText := true, laidKinds := [.data, .data, .data, .data, .sentinel, .sentinel, .pinned], laidTests := true, laidLooks := .later }
def ParserSameCardSaid : Prop := Claim7.holds Tryz.pinned (.plain (OpenSpec.ofChange parserSameSpec)) parserSameCard

/-- THE TIED CARD OF 'knapsacklaw26.ParserTwo'. -/
def parserTwoCard : Claim7 := { stood := { row := parserTwoRow, standIns := [], harness := (true, "3efbbb68fabdaea2c428bb4fc786608ceeea12033ea67dd6e0f8e48849bfb076"), looks := true }, kinds := [], alts := [], laidByText := true, laidKinds := [.data, .data, .data, .data, .sentinel, .sentinel, .pinned], laidTests := true, laidLooks := .later }
def ParserTwoCardSaid : Prop := Claim7.holds Tryz.pinned (.plain (OpenSpec.ofChange parserTwoSpec)) parserTwoCard

/-- THE TIED CARD OF 'knapsacklaw26.ParserParens'. -/
def parserParensCard : Claim7 := { stood := { row := parserParensRow, standIns := [], harness := (true, "3efbbb68fabdaea2c428bb4fc786608ceeea12033ea67dd6e0f8e48849bfb076"), looks := true }, kinds := [], alts := [], laidByText := true, laidKinds := [.data, .data, .data, .data, .sentinel, .sentinel, .pinned], laidTests := true, laidLooks := .later }
def ParserParensCardSaid : Prop := Claim7.holds Tryz.pinned (.plain (OpenSpec.ofChange parserParensSpec)) parserParensCard

/-- THE TIED CARD OF 'knapsacklaw26.ParserCanonical'. -/
def parserCanonicalCard : Claim7 := { stood := { row := parserCanonicalRow, standIns := [], harness := (true, "3efbbb68fabdaea2c428bb4fc786608ceeea12033ea67dd6e0f8e48849bfb076"), looks := true }, kinds := [], alts := [], laidByText := true, laidKinds := [.data, .data, .data, .data, .sentinel, .sentinel, .pinned], laidTests := true, laidLooks := .later }
def ParserCanonicalCardSaid : Prop := Claim7.holds Tryz.pinned (.plain (OpenSpec.ofChange parserCanonicalSpec)) parserCanonicalCard

/-- THE SECOND FORM's CARD OF 'knapsacklaw26.ParserDeep'. -/
def parserDeepUptoCard : Claim7 := { stood := { row := parserDeepUptoRow, standIns := [], harness := (true, "3efbbb68fabdaea2c428bb4fc786608ceeea12033ea67dd6e0f8e48849bfb076"), looks := true }, kinds := [], alts := [], laidByText := true, laidKinds := [.data, .data, .data, .data, .sentinel, .sentinel, .pinned], laidTests := true, laidLooks := .later }
def ParserDeepUptoCardSaid : Prop := Claim7.holds Tryz.pinned (.plain (OpenSpec.upto parserDeepSpec)) parserDeepUptoCard

/-- THE SECOND FORM's CARD OF 'knapsacklaw26.ParserArithmetic'. -/
def parserArithmeticUptoCard : Claim7 := { stood := { row := parserArithmeticUptoRow, standIns := [], harness := (true, "3efbbb68fabdaea2c428bb4fc786608ceeea12033ea67dd6e0f8e48849bfb076"), looks := true }, kinds := [], alts := [], laidByText := true, laidKinds := [.data, .data, .data, .data, .sentinel, .sentinel, .pinned], laidTests := true, laidLooks := .later }
def ParserArithmeticUptoCardSaid : Prop := Claim7.holds Tryz.pinned (.plain (OpenSpec.upto parserArithmeticSpec)) parserArithmeticUptoCard

/-- THE SECOND FORM's CARD OF 'knapsacklaw26.ParserSame'. -/
def parserSameUptoCard : Claim7 := { stood := { row := parserSameUptoRow, standIns := [], harness := (true, "3efbbb68fabdaea2c428bb4fc786608ceeea12033ea67dd6e0f8e48849bfb076"), looks := true }, kinds := [], alts := [], laidByText := true, laidKinds := [.data, .data, .data, .data, .sentinel, .sentinel, .pinned], laidTests := true, laidLooks := .later }
def ParserSameUptoCardSaid : Prop := Claim7.holds Tryz.pinned (.plain (OpenSpec.upto parserSameSpec)) parserSameUptoCard

/-- THE SECOND FORM's CARD OF 'knapsacklaw26.ParserTwo'. -/
def parserTwoUptoCard : Claim7 := { stood := { row := parserTwoUptoRow, standIns := [], harness := (true, "3efbbb68fabdaea2c428bb4fc786608ceeea12033ea67dd6e0f8e48849bfb076"), looks := true }, kinds := [], alts := [], laidByText := true, laidKinds := [.data, .data, .data, .data, .sentinel, .sentinel, .pinned], laidTests := true, laidLooks := .later }
def ParserTwoUptoCardSaid : Prop := Claim7.holds Tryz.pinned (.plain (OpenSpec.upto parserTwoSpec)) parserTwoUptoCard

/-- THE SECOND FORM's CARD OF 'knapsacklaw26.ParserParens'. -/
def parserParensUptoCard : Claim7 := { stood := { row := parserParensUptoRow, standIns := [], harness := (true, "3efbbb68fabdaea2c428bb4fc786608ceeea12033ea67dd6e0f8e48849bfb076"), looks := true }, kinds := [], alts := [], laidByText := true, laidKinds := [.data, .data, .data, .data, .sentinel, .sentinel, .pinned], laidTests := true, laidLooks := .later }
def ParserParensUptoCardSaid : Prop := Claim7.holds Tryz.pinned (.plain (OpenSpec.upto parserParensSpec)) parserParensUptoCard

/-- THE SECOND FORM's CARD OF 'knapsacklaw26.ParserCanonical'. -/
def parserCanonicalUptoCard : Claim7 := { stood := { row := parserCanonicalUptoRow, standIns := [], harness := (true, "3efbbb68fabdaea2c428bb4fc786608ceeea12033ea67dd6e0f8e48849bfb076"), looks := true }, kinds := [], alts := [], laidByText := true, laidKinds := [.data, .data, .data, .data, .sentinel, .sentinel, .pinned], laidTests := true, laidLooks := .later }
def ParserCanonicalUptoCardSaid : Prop := Claim7.holds Tryz.pinned (.plain (OpenSpec.upto parserCanonicalSpec)) parserCanonicalUptoCard
end Rows
end Go.Proofs.YtcfecmeocimclaaGreatDoor
