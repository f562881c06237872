/-
  DERIVED. GIVEN WITH THE SEED: THE CARDS: each row of YtadgpchdlkiinaaDoorRows.lean that lists a variable, with what it lists TIED to the program's text (the seventh form; the later family's looks); each row that meets fmt, with fmt's text TOLD by the authors' own Lean function (tested against real Go, not proved from fmt's source: count such statements apart). THE CARD IS WHAT COUNTS. Prove the row's statement (the work); the ties are given (YtadgpchdlkiinaaDoorTie.lean); close each card by the builder's one call (the guide's Derived/Test/ToyasCard.lean, 'card_holds'). Laid BY PROGRAM, IN A SANDBOX (cutbox-door.mjs). By AI agents, Wed Nov 11 2026. No macro, syntax, notation, axiom, sorry.
-/
import Derived.Test.YtadgpchdlkiinaaDoorRows
import GoSem.ClaimSeven
namespace Go.Proofs.YtadgpchdlkiinaaDoor
namespace Rows

/-- THE TIED CARD OF 'knapsacklaw30.ValueNormal'. -/
def valueNormalCard : Claim7 := { stood := { row := valueNormalRow, standIns := [], harness := (true, "44ae15c1b1a314f009827bfb5855d0797196a2da5756e4019a8ef51f348c2b54"), looks := true }, kinds := [], alts := [], laidByText := true, laidKinds := [.data, .data, .data, .data, .pinned], laidTests := true, laidLooks := .later }
def ValueNormalCardSaid : Prop := Claim7.holds Tryd.pinned (.plain (OpenSpec.ofChange valueNormalSpec)) valueNormalCard

/-- THE TIED CARD OF 'knapsacklaw30.ValueEquals'. -/
def valueEqualsCard : Claim7 := { stood := { row := valueEqualsRow, standIns := [], harness := (true, "44ae15c1b1a314f009827bfb5855d0797196a2da5756e4019a8ef51f348c2b54"), looks := true }, kinds := [], alts := [], laidByText := true, laidKinds := [.data, .data, .data, .data, .pinned], laidTests := true, laidLooks := .later }
def ValueEqualsCardSaid : Prop := Claim7.holds Tryd.pinned (.plain (OpenSpec.ofChange valueEqualsSpec)) valueEqualsCard

/-- THE TIED CARD OF 'knapsacklaw30.ValueBinary'. -/
def valueBinaryCard : Claim7 := { stood := { row := valueBinaryRow, standIns := [], harness := (true, "44ae15c1b1a314f009827bfb5855d0797196a2da5756e4019a8ef51f348c2b54"), looks := true }, kinds := [], alts := [], laidByText := true, laidKinds := [.data, .data, .data, .data, .pinned], laidTests := true, laidLooks := .later }
def ValueBinaryCardSaid : Prop := Claim7.holds Tryd.pinned (.plain (OpenSpec.ofChange valueBinarySpec)) valueBinaryCard

/-- THE TIED CARD OF 'knapsacklaw30.ValueDivides'. -/
def valueDividesCard : Claim7 := { stood := { row := valueDividesRow, standIns := [], harness := (true, "44ae15c1b1a314f009827bfb5855d0797196a2da5756e4019a8ef51f348c2b54"), looks := true }, kinds := [], alts := [], laidByText := true, laidKinds := [.data, .data, .data, .data, .pinned], laidTests := true, laidLooks := .later }
def ValueDividesCardSaid : Prop := Claim7.holds Tryd.pinned (.plain (OpenSpec.ofChange valueDividesSpec)) valueDividesCard

/-- THE TIED CARD OF 'knapsacklaw30.ValueOrders'. -/
def valueOrdersCard : Claim7 := { stood := { row := valueOrdersRow, standIns := [], harness := (true, "44ae15c1b1a314f009827bfb5855d0797196a2da5756e4019a8ef51f348c2b54"), looks := true }, kinds := [], alts := [], laidByText := true, laidKinds := [.data, .data, .data, .data, .pinned], laidTests := true, laidLooks := .later }
def ValueOrdersCardSaid : Prop := Claim7.holds Tryd.pinned (.plain (OpenSpec.ofChange valueOrdersSpec)) valueOrdersCard

/-- THE TIED CARD OF 'knapsacklaw30.ValueTells'. -/
def valueTellsCard : Claim7 := { stood := { row := valueTellsRow, standIns := [], harness := (true, "44ae15c1b1a314f009827bfb5855d0797196a2da5756e4019a8ef51f348c2b54"), looks := true }, kinds := [], alts := [], laidByText := true, laidKinds := [.data, .data, .data, .data, .pinned], laidTests := true, laidLooks := .later }
def ValueTellsCardSaid : Prop := Claim7.holds Tryd.pinned (.plain (OpenSpec.ofChange valueTellsSpec)) valueTellsCard

/-- THE TIED CARD OF 'knapsacklaw30.ValueTexts'. -/
def valueTextsCard : Claim7 := { stood := { row := valueTextsRow, standIns := [], harness := (true, "44ae15c1b1a314f009827bfb5855d0797196a2da5756e4019a8ef51f348c2b54"), looks := true }, kinds := [], alts := [], laidByText := true, laidKinds := [.data, .data, .data, .data, .pinned], laidTests := true, laidLooks := .later }
def ValueTextsCardSaid : Prop := Claim7.holds Tryd.pinned (.plain (OpenSpec.ofChange valueTextsSpec)) valueTextsCard

/-- THE TIED CARD OF 'knapsacklaw30.ValueParts'. -/
def valuePartsCard : Claim7 := { stood := { row := valuePartsRow, standIns := [], harness := (true, "44ae15c1b1a314f009827bfb5855d0797196a2da5756e4019a8ef51f348c2b54"), looks := true }, kinds := [], alts := [], laidByText := true, laidKinds := [.data, .data, .data, .data, .pinned], laidTests := true, laidLooks := .later }
def ValuePartsCardSaid : Prop := Claim7.holds Tryd.pinned (.plain (OpenSpec.ofChange valuePartsSpec)) valuePartsCard

/-- THE TIED CARD OF 'knapsacklaw30.ValueNumbers'. -/
def valueNumbersCard : Claim7 := { stood := { row := valueNumbersRow, standIns := [], harness := (true, "44ae15c1b1a314f009827bfb5855d0797196a2da5756e4019a8ef51f348c2b54"), looks := true }, kinds := [], alts := [], laidByText := true, laidKinds := [.data, .data, .data, .data, .sentinel, .sentinel, .pinned], laidTests := true, laidLooks := .later }
def ValueNumbersCardSaid : Prop := Claim7.holds Tryd.pinned (.plain (OpenSpec.ofChange valueNumbersSpec)) valueNumbersCard

/-- THE TIED CARD OF 'knapsacklaw30.ValueUnary'. -/
def valueUnaryCard : Claim7 := { stood := { row := valueUnaryRow, standIns := [], harness := (true, "44ae15c1b1a314f009827bfb5855d0797196a2da5756e4019a8ef51f348c2b54"), looks := true }, kinds := [], alts := [], laidByText := true, laidKinds := [.data, .data, .data, .data, .sentinel, .sentinel, .pinned], laidTests := true, laidLooks := .later }
def ValueUnaryCardSaid : Prop := Claim7.holds Tryd.pinned (.plain (OpenSpec.ofChange valueUnarySpec)) valueUnaryCard

/-- THE SECOND FORM's CARD OF 'knapsacklaw30.ValueNormal'. -/
def valueNormalUptoCard : Claim7 := { stood := { row := valueNormalUptoRow, standIns := [], harness := (true, "44ae15c1b1a314f009827bfb5855d0797196a2da5756e4019a8ef51f348c2b54"), looks := true }, kinds := [], alts := [], laidByText := true, laidKinds := [.data, .data, .data, .data, .pinned], laidTests := true, laidLooks := .later }
def ValueNormalUptoCardSaid : Prop := Claim7.holds Tryd.pinned (.plain (OpenSpec.upto valueNormalSpec)) valueNormalUptoCard

/-- THE SECOND FORM's CARD OF 'knapsacklaw30.ValueEquals'. -/
def valueEqualsUptoCard : Claim7 := { stood := { row := valueEqualsUptoRow, standIns := [], harness := (true, "44ae15c1b1a314f009827bfb5855d0797196a2da5756e4019a8ef51f348c2b54"), looks := true }, kinds := [], alts := [], laidByText := true, laidKinds := [.data, .data, .data, .data, .pinned], laidTests := true, laidLooks := .later }
def ValueEqualsUptoCardSaid : Prop := Claim7.holds Tryd.pinned (.plain (OpenSpec.upto valueEqualsSpec)) valueEqualsUptoCard

/-- THE SECOND FORM's CARD OF 'knapsacklaw30.ValueBinary'. -/
def valueBinaryUptoCard : Claim7 := { stood := { row := valueBinaryUptoRow, standIns := [], harness := (true, "44ae15c1b1a314f009827bfb5855d0797196a2da5756e4019a8ef51f348c2b54"), looks := true }, kinds := [], alts := [], laidByText := true, laidKinds := [.data, .data, .data, .data, .pinned], laidTests := true, laidLooks := .later }
def ValueBinaryUptoCardSaid : Prop := Claim7.holds Tryd.pinned (.plain (OpenSpec.upto valueBinarySpec)) valueBinaryUptoCard

/-- THE SECOND FORM's CARD OF 'knapsacklaw30.ValueDivides'. -/
def valueDividesUptoCard : Claim7 := { stood := { row := valueDividesUptoRow, standIns := [], harness := (true, "44ae15c1b1a314f009827bfb5855d0797196a2da5756e4019a8ef51f348c2b54"), looks := true }, kinds := [], alts := [], laidByText := true, laidKinds := [.data, .data, .data, .data, .pinned], laidTests := true, laidLooks := .later }
def ValueDividesUptoCardSaid : Prop := Claim7.holds Tryd.pinned (.plain (OpenSpec.upto valueDividesSpec)) valueDividesUptoCard

/-- THE SECOND FORM's CARD OF 'knapsacklaw30.ValueOrders'. -/
def valueOrdersUptoCard : Claim7 := { stood := { row := valueOrdersUptoRow, standIns := [], harness := (true, "44ae15c1b1a314f009827bfb5855d0797196a2da5756e4019a8ef51f348c2b54"), looks := true }, kinds := [], alts := [], laidByText := true, laidKinds := [.data, .data, .data, .data, .pinned], laidTests := true, laidLooks := .later }
def ValueOrdersUptoCardSaid : Prop := Claim7.holds Tryd.pinned (.plain (OpenSpec.upto valueOrdersSpec)) valueOrdersUptoCard

/-- THE SECOND FORM's CARD OF 'knapsacklaw30.ValueTells'. -/
def valueTellsUptoCard : Claim7 := { stood := { row := valueTellsUptoRow, standIns := [], harness := (true, "44ae15c1b1a314f009827bfb5855d0797196a2da5756e4019a8ef51f348c2b54"), looks := true }, kinds := [], alts := [], laidByText := true, laidKinds := [.data, .data, .data, .data, .pinned], laidTests := true, laidLooks := .later }
def ValueTellsUptoCardSaid : Prop := Claim7.holds Tryd.pinned (.plain (OpenSpec.upto valueTellsSpec)) valueTellsUptoCard

/-- THE SECOND FORM's CARD OF 'knapsacklaw30.ValueTexts'. -/
def valueTextsUptoCard : Claim7 := { stood := { row := valueTextsUptoRow, standIns := [], harness := (true, "44ae15c1b1a314f009827bfb5855d0797196a2da5756e4019a8ef51f348c2b54"), looks := true }, kinds := [], alts := [], laidByText := true, laidKinds := [.data, .data, .data, .data, .pinned], laidTests := true, laidLooks := .later }
def ValueTextsUptoCardSaid : Prop := Claim7.holds Tryd.pinned (.plain (OpenSpec.upto valueTextsSpec)) valueTextsUptoCard

/-- THE SECOND FORM's CARD OF 'knapsacklaw30.ValueParts'. -/
def valuePartsUptoCard : Claim7 := { stood := { row := valuePartsUptoRow, standIns := [], harness := (true, "44ae15c1b1a314f009827bfb5855d0797196a2da5756e4019a8ef51f348c2b54"), looks := true }, kinds := [], alts := [], laidByText := true, laidKinds := [.data, .data, .data, .data, .pinned], laidTests := true, laidLooks := .later }
def ValuePartsUptoCardSaid : Prop := Claim7.holds Tryd.pinned (.plain (OpenSpec.upto valuePartsSpec)) valuePartsUptoCard

/-- THE SECOND FORM's CARD OF 'knapsacklaw30.ValueNumbers'. -/
def valueNumbersUptoCard : Claim7 := { stood := { row := valueNumbersUptoRow, standIns := [], harness := (true, "44ae15c1b1a314f009827bfb5855d0797196a2da5756e4019a8ef51f348c2b54"), looks := true }, kinds := [], alts := [], laidByText := true, laidKinds := [.data, .data, .data, .data, .sentinel, .sentinel, .pinned], laidTests := true, laidLooks := .later }
def ValueNumbersUptoCardSaid : Prop := Claim7.holds Tryd.pinned (.plain (OpenSpec.upto valueNumbersSpec)) valueNumbersUptoCard

/-- THE SECOND FORM's CARD OF 'knapsacklaw30.ValueUnary'. -/
def valueUnaryUptoCard : Claim7 := { stood := { row := valueUnaryUptoRow, standIns := [], harness := (true, "44ae15c1b1a314f009827bfb5855d0797196a2da5756e4019a8ef51f348c2b54"), looks := true }, kinds := [], alts := [], laidByText := true, laidKinds := [.data, .data, .data, .data, .sentinel, .sentinel, .pinned], laidTests := true, laidLooks := .later }
def ValueUnaryUptoCardSaid : Prop := Claim7.holds Tryd.pinned (.plain (OpenSpec.upto valueUnarySpec)) valueUnaryUptoCard
end Rows
end Go.Proofs.YtadgpchdlkiinaaDoor
