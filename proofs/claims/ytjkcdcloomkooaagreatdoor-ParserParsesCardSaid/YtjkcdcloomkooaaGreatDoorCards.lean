/-
  DERIVED. GIVEN WITH THE SEED: THE CARDS: each row of YtjkcdcloomkooaaGreatDoorRows.lean that lists a variable, with what it lists TIED to the program's text (the seventh form; the later family's looks); each row that meets fmt, with fmt's text TOLD by the authors' own Lean function (tested against real Go, not proved from fmt's source: count such statements apart). THE CARD IS WHAT COUNTS. Prove the row's statement (the work); the ties are given (YtjkcdcloomkooaaGreatDoorTie.lean); close each card by the builder's one call (the guide's Derived/Test/ToyasCard.lean, 'card_holds'). Laid BY PROGRAM, IN A SANDBOX (cutbox-door.mjs). By AI agents, Wed Nov 11 2026. No macro, syntax, notation, axiom, sorry.
-/
import Derived.Test.YtjkcdcloomkooaaGreatDoorRows
import GoSem.ClaimSeven
namespace Go.Proofs.YtjkcdcloomkooaaGreatDoor
namespace Rows

/-- THE TIED CARD OF 'knapsacklaw26.ParserParses'. -/
def parserParsesCard : Claim7 := { stood := { row := parserParsesRow, standIns := [], harness := (true, "befff74708a95c684476d8c32e18c03d080ec2d8a6ff3b662e37622a036d6d69"), looks := true }, kinds := [], alts := [], laidByText := true, laidKinds := [.data, .data, .data, .data, .sentinel, .sentinel, .pinned], laidTests := true, laidLooks := .later }
def ParserParsesCardSaid : Prop := Claim7.holds Tryz.pinned (.plain (OpenSpec.ofChange parserParsesSpec)) parserParsesCard

/-- THE TIED CARD OF 'knapsacklaw26.ParserExpressions'. -/
def parserExpressionsCard : Claim7 := { stood := { row := parserExpressionsRow, standIns := [], harness := (true, "befff74708a95c684476d8c32e18c03d080ec2d8a6ff3b662e37622a036d6d69"), looks := true }, kinds := [], alts := [], laidByText := true, laidKinds := [.data, .data, .data, .data, .sentinel, .sentinel, .pinned], laidTests := true, laidLooks := .later }
def ParserExpressionsCardSaid : Prop := Claim7.holds Tryz.pinned (.plain (OpenSpec.ofChange parserExpressionsSpec)) parserExpressionsCard

/-- THE SECOND FORM's CARD OF 'knapsacklaw26.ParserParses'. -/
def parserParsesUptoCard : Claim7 := { stood := { row := parserParsesUptoRow, standIns := [], harness := (true, "befff74708a95c684476d8c32e18c03d080ec2d8a6ff3b662e37622a036d6d69"), looks := true }, kinds := [], alts := [], laidByText := true, laidKinds := [.data, .data, .data, .data, .sentinel, .sentinel, .pinned], laidTests := true, laidLooks := .later }
def ParserParsesUptoCardSaid : Prop := Claim7.holds Tryz.pinned (.plain (OpenSpec.upto parserParsesSpec)) parserParsesUptoCard

/-- THE SECOND FORM's CARD OF 'knapsacklaw26.ParserExpressions'. -/
def parserExpressionsUptoCard : Claim7 := { stood := { row := parserExpressionsUptoRow, standIns := [], harness := (true, "befff74708a95c684476d8c32e18c03d080ec2d8a6ff3b662e37622a036d6d69"), looks := true }, kinds := [], alts := [], laidByText := true, laidKinds := [.data, .data, .data, .data, .sentinel, .sentinel, .pinned], laidTests := true, laidLooks := .later }
def ParserExpressionsUptoCardSaid : Prop := Claim7.holds Tryz.pinned (.plain (OpenSpec.upto parserExpressionsSpec)) parserExpressionsUptoCard
end Rows
end Go.Proofs.YtjkcdcloomkooaaGreatDoor
