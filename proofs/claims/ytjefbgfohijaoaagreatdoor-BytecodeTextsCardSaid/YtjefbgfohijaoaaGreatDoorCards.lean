/-
  DERIVED. GIVEN WITH THE SEED: THE CARDS: each row of YtjefbgfohijaoaaGreatDoorRows.lean that lists a variable, with what it lists TIED to the program's text (the seventh form; the later family's looks); each row that meets fmt, with fmt's text TOLD by the authors' own Lean function (tested against real Go, not proved from fmt's source: count such statements apart). THE CARD IS WHAT COUNTS. Prove the row's statement (the work); the ties are given (YtjefbgfohijaoaaGreatDoorTie.lean); close each card by the builder's one call (the guide's Derived/Test/ToyasCard.lean, 'card_holds'). Laid BY PROGRAM, IN A SANDBOX (cutbox-door.mjs). By AI agents, Wed Nov 11 2026. No macro, syntax, notation, axiom, sorry.
-/
import Derived.Test.YtjefbgfohijaoaaGreatDoorRows
import GoSem.ClaimSeven
namespace Go.Proofs.YtjefbgfohijaoaaGreatDoor
namespace Rows

/-- THE TIED CARD OF 'knapsacklaw27.BytecodeTexts'. -/
def bytecodeTextsCard : Claim7 := { stood := { row := bytecodeTextsRow, standIns := [], harness := (true, "0a1ef5963dc028d96a77cb527b8290684f4e135c62fb4295bdebef8df1de11e6"), looks := true }, kinds := [], alts := [], laidByText := true, laidKinds := [.data, .data, .data, .data, .sentinel, .sentinel, .pinned], laidTests := true, laidLooks := .later }
def BytecodeTextsCardSaid : Prop := Claim7.holds Tryz.pinned (.plain (OpenSpec.ofChange bytecodeTextsSpec)) bytecodeTextsCard

/-- THE TIED CARD OF 'knapsacklaw27.BytecodeParses'. -/
def bytecodeParsesCard : Claim7 := { stood := { row := bytecodeParsesRow, standIns := [], harness := (true, "0a1ef5963dc028d96a77cb527b8290684f4e135c62fb4295bdebef8df1de11e6"), looks := true }, kinds := [], alts := [], laidByText := true, laidKinds := [.data, .data, .data, .data, .sentinel, .sentinel, .pinned], laidTests := true, laidLooks := .later }
def BytecodeParsesCardSaid : Prop := Claim7.holds Tryz.pinned (.plain (OpenSpec.ofChange bytecodeParsesSpec)) bytecodeParsesCard

/-- THE SECOND FORM's CARD OF 'knapsacklaw27.BytecodeTexts'. -/
def bytecodeTextsUptoCard : Claim7 := { stood := { row := bytecodeTextsUptoRow, standIns := [], harness := (true, "0a1ef5963dc028d96a77cb527b8290684f4e135c62fb4295bdebef8df1de11e6"), looks := true }, kinds := [], alts := [], laidByText := true, laidKinds := [.data, .data, .data, .data, .sentinel, .sentinel, .pinned], laidTests := true, laidLooks := .later }
def BytecodeTextsUptoCardSaid : Prop := Claim7.holds Tryz.pinned (.plain (OpenSpec.upto bytecodeTextsSpec)) bytecodeTextsUptoCard

/-- THE SECOND FORM's CARD OF 'knapsacklaw27.BytecodeParses'. -/
def bytecodeParsesUptoCard : Claim7 := { stood := { row := bytecodeParsesUptoRow, standIns := [], harness := (true, "0a1ef5963dc028d96a77cb527b8290684f4e135c62fb4295bdebef8df1de11e6"), looks := true }, kinds := [], alts := [], laidByText := true, laidKinds := [.data, .data, .data, .data, .sentinel, .sentinel, .pinned], laidTests := true, laidLooks := .later }
def BytecodeParsesUptoCardSaid : Prop := Claim7.holds Tryz.pinned (.plain (OpenSpec.upto bytecodeParsesSpec)) bytecodeParsesUptoCard
end Rows
end Go.Proofs.YtjefbgfohijaoaaGreatDoor
