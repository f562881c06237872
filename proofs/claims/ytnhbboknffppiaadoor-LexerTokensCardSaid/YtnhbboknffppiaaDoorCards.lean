/-
  DERIVED. GIVEN WITH THE SEED: THE CARDS: each row of YtnhbboknffppiaaDoorRows.lean that lists a variable, with what it lists TIED to the program's text (the seventh form; the later family's looks); each row that meets fmt, with fmt's text TOLD by the authors' own Lean function (tested against real Go, not proved from fmt's source: count such statements apart). THE CARD IS WHAT COUNTS. Prove the row's statement (the work); the ties are given (YtnhbboknffppiaaDoorTie.lean); close each card by the builder's one call (the guide's Derived/Test/ToyasCard.lean, 'card_holds'). Laid BY PROGRAM, IN A SANDBOX (cutbox-door.mjs). By AI agents, Wed Nov 11 2026. No macro, syntax, notation, axiom, sorry.
-/
import Derived.Test.YtnhbboknffppiaaDoorRows
import GoSem.ClaimSeven
namespace Go.Proofs.YtnhbboknffppiaaDoor
namespace Rows

/-- THE TIED CARD OF 'knapsacklaw25.LexerCuts'. -/
def lexerCutsCard : Claim7 := { stood := { row := lexerCutsRow, standIns := [], harness := (true, "754c997769e36875a4fa5a4683e8a60e5b03af7b00928a6442278577f359b876"), looks := true }, kinds := [], alts := [], laidByText := true, laidKinds := [.data, .data, .data, .data, .sentinel, .sentinel, .pinned], laidTests := true, laidLooks := .later }
def LexerCutsCardSaid : Prop := Claim7.holds Tryd.pinned (.plain (OpenSpec.ofChange lexerCutsSpec)) lexerCutsCard

/-- THE TIED CARD OF 'knapsacklaw25.LexerSpaces'. -/
def lexerSpacesCard : Claim7 := { stood := { row := lexerSpacesRow, standIns := [], harness := (true, "754c997769e36875a4fa5a4683e8a60e5b03af7b00928a6442278577f359b876"), looks := true }, kinds := [], alts := [], laidByText := true, laidKinds := [.data, .data, .data, .data, .sentinel, .sentinel, .pinned], laidTests := true, laidLooks := .later }
def LexerSpacesCardSaid : Prop := Claim7.holds Tryd.pinned (.plain (OpenSpec.ofChange lexerSpacesSpec)) lexerSpacesCard

/-- THE TIED CARD OF 'knapsacklaw25.LexerTwo'. -/
def lexerTwoCard : Claim7 := { stood := { row := lexerTwoRow, standIns := [], harness := (true, "754c997769e36875a4fa5a4683e8a60e5b03af7b00928a6442278577f359b876"), looks := true }, kinds := [], alts := [], laidByText := true, laidKinds := [.data, .data, .data, .data, .sentinel, .sentinel, .pinned], laidTests := true, laidLooks := .later }
def LexerTwoCardSaid : Prop := Claim7.holds Tryd.pinned (.plain (OpenSpec.ofChange lexerTwoSpec)) lexerTwoCard

/-- THE TIED CARD OF 'knapsacklaw25.LexerWords'. -/
def lexerWordsCard : Claim7 := { stood := { row := lexerWordsRow, standIns := [], harness := (true, "754c997769e36875a4fa5a4683e8a60e5b03af7b00928a6442278577f359b876"), looks := true }, kinds := [], alts := [], laidByText := true, laidKinds := [.data, .data, .data, .data, .sentinel, .sentinel, .pinned], laidTests := true, laidLooks := .later }
def LexerWordsCardSaid : Prop := Claim7.holds Tryd.pinned (.plain (OpenSpec.ofChange lexerWordsSpec)) lexerWordsCard

/-- THE TIED CARD OF 'knapsacklaw25.LexerNumbers'. -/
def lexerNumbersCard : Claim7 := { stood := { row := lexerNumbersRow, standIns := [], harness := (true, "754c997769e36875a4fa5a4683e8a60e5b03af7b00928a6442278577f359b876"), looks := true }, kinds := [], alts := [], laidByText := true, laidKinds := [.data, .data, .data, .data, .sentinel, .sentinel, .pinned], laidTests := true, laidLooks := .later }
def LexerNumbersCardSaid : Prop := Claim7.holds Tryd.pinned (.plain (OpenSpec.ofChange lexerNumbersSpec)) lexerNumbersCard

/-- THE TIED CARD OF 'knapsacklaw25.LexerTokens'. -/
def lexerTokensCard : Claim7 := { stood := { row := lexerTokensRow, standIns := [], harness := (true, "754c997769e36875a4fa5a4683e8a60e5b03af7b00928a6442278577f359b876"), looks := true }, kinds := [], alts := [], laidByText := true, laidKinds := [.data, .data, .data, .data, .sentinel, .sentinel, .pinned], laidTests := true, laidLooks := .later }
def LexerTokensCardSaid : Prop := Claim7.holds Tryd.pinned (.plain (OpenSpec.ofChange lexerTokensSpec)) lexerTokensCard

/-- THE TIED CARD OF 'knapsacklaw25.LexerQuotes'. -/
def lexerQuotesCard : Claim7 := { stood := { row := lexerQuotesRow, standIns := [], harness := (true, "754c997769e36875a4fa5a4683e8a60e5b03af7b00928a6442278577f359b876"), looks := true }, kinds := [], alts := [], laidByText := true, laidKinds := [.data, .data, .data, .data, .sentinel, .sentinel, .pinned], laidTests := true, laidLooks := .later }
def LexerQuotesCardSaid : Prop := Claim7.holds Tryd.pinned (.plain (OpenSpec.ofChange lexerQuotesSpec)) lexerQuotesCard

/-- THE TIED CARD OF 'knapsacklaw25.LexerJoins'. -/
def lexerJoinsCard : Claim7 := { stood := { row := lexerJoinsRow, standIns := [], harness := (true, "754c997769e36875a4fa5a4683e8a60e5b03af7b00928a6442278577f359b876"), looks := true }, kinds := [], alts := [], laidByText := true, laidKinds := [.data, .data, .data, .data, .sentinel, .sentinel, .pinned], laidTests := true, laidLooks := .later }
def LexerJoinsCardSaid : Prop := Claim7.holds Tryd.pinned (.plain (OpenSpec.ofChange lexerJoinsSpec)) lexerJoinsCard

/-- THE SECOND FORM's CARD OF 'knapsacklaw25.LexerCuts'. -/
def lexerCutsUptoCard : Claim7 := { stood := { row := lexerCutsUptoRow, standIns := [], harness := (true, "754c997769e36875a4fa5a4683e8a60e5b03af7b00928a6442278577f359b876"), looks := true }, kinds := [], alts := [], laidByText := true, laidKinds := [.data, .data, .data, .data, .sentinel, .sentinel, .pinned], laidTests := true, laidLooks := .later }
def LexerCutsUptoCardSaid : Prop := Claim7.holds Tryd.pinned (.plain (OpenSpec.upto lexerCutsSpec)) lexerCutsUptoCard

/-- THE SECOND FORM's CARD OF 'knapsacklaw25.LexerSpaces'. -/
def lexerSpacesUptoCard : Claim7 := { stood := { row := lexerSpacesUptoRow, standIns := [], harness := (true, "754c997769e36875a4fa5a4683e8a60e5b03af7b00928a6442278577f359b876"), looks := true }, kinds := [], alts := [], laidByText := true, laidKinds := [.data, .data, .data, .data, .sentinel, .sentinel, .pinned], laidTests := true, laidLooks := .later }
def LexerSpacesUptoCardSaid : Prop := Claim7.holds Tryd.pinned (.plain (OpenSpec.upto lexerSpacesSpec)) lexerSpacesUptoCard

/-- THE SECOND FORM's CARD OF 'knapsacklaw25.LexerTwo'. -/
def lexerTwoUptoCard : Claim7 := { stood := { row := lexerTwoUptoRow, standIns := [], harness := (true, "754c997769e36875a4fa5a4683e8a60e5b03af7b00928a6442278577f359b876"), looks := true }, kinds := [], alts := [], laidByText := true, laidKinds := [.data, .data, .data, .data, .sentinel, .sentinel, .pinned], laidTests := true, laidLooks := .later }
def LexerTwoUptoCardSaid : Prop := Claim7.holds Tryd.pinned (.plain (OpenSpec.upto lexerTwoSpec)) lexerTwoUptoCard

/-- THE SECOND FORM's CARD OF 'knapsacklaw25.LexerWords'. -/
def lexerWordsUptoCard : Claim7 := { stood := { row := lexerWordsUptoRow, standIns := [], harness := (true, "754c997769e36875a4fa5a4683e8a60e5b03af7b00928a6442278577f359b876"), looks := true }, kinds := [], alts := [], laidByText := true, laidKinds := [.data, .data, .data, .data, .sentinel, .sentinel, .pinned], laidTests := true, laidLooks := .later }
def LexerWordsUptoCardSaid : Prop := Claim7.holds Tryd.pinned (.plain (OpenSpec.upto lexerWordsSpec)) lexerWordsUptoCard

/-- THE SECOND FORM's CARD OF 'knapsacklaw25.LexerNumbers'. -/
def lexerNumbersUptoCard : Claim7 := { stood := { row := lexerNumbersUptoRow, standIns := [], harness := (true, "754c997769e36875a4fa5a4683e8a60e5b03af7b00928a6442278577f359b876"), looks := true }, kinds := [], alts := [], laidByText := true, laidKinds := [.data, .data, .data, .data, .sentinel, .sentinel, .pinned], laidTests := true, laidLooks := .later }
def LexerNumbersUptoCardSaid : Prop := Claim7.holds Tryd.pinned (.plain (OpenSpec.upto lexerNumbersSpec)) lexerNumbersUptoCard

/-- THE SECOND FORM's CARD OF 'knapsacklaw25.LexerTokens'. -/
def lexerTokensUptoCard : Claim7 := { stood := { row := lexerTokensUptoRow, standIns := [], harness := (true, "754c997769e36875a4fa5a4683e8a60e5b03af7b00928a6442278577f359b876"), looks := true }, kinds := [], alts := [], laidByText := true, laidKinds := [.data, .data, .data, .data, .sentinel, .sentinel, .pinned], laidTests := true, laidLooks := .later }
def LexerTokensUptoCardSaid : Prop := Claim7.holds Tryd.pinned (.plain (OpenSpec.upto lexerTokensSpec)) lexerTokensUptoCard

/-- THE SECOND FORM's CARD OF 'knapsacklaw25.LexerQuotes'. -/
def lexerQuotesUptoCard : Claim7 := { stood := { row := lexerQuotesUptoRow, standIns := [], harness := (true, "754c997769e36875a4fa5a4683e8a60e5b03af7b00928a6442278577f359b876"), looks := true }, kinds := [], alts := [], laidByText := true, laidKinds := [.data, .data, .data, .data, .sentinel, .sentinel, .pinned], laidTests := true, laidLooks := .later }
def LexerQuotesUptoCardSaid : Prop := Claim7.holds Tryd.pinned (.plain (OpenSpec.upto lexerQuotesSpec)) lexerQuotesUptoCard

/-- THE SECOND FORM's CARD OF 'knapsacklaw25.LexerJoins'. -/
def lexerJoinsUptoCard : Claim7 := { stood := { row := lexerJoinsUptoRow, standIns := [], harness := (true, "754c997769e36875a4fa5a4683e8a60e5b03af7b00928a6442278577f359b876"), looks := true }, kinds := [], alts := [], laidByText := true, laidKinds := [.data, .data, .data, .data, .sentinel, .sentinel, .pinned], laidTests := true, laidLooks := .later }
def LexerJoinsUptoCardSaid : Prop := Claim7.holds Tryd.pinned (.plain (OpenSpec.upto lexerJoinsSpec)) lexerJoinsUptoCard
end Rows
end Go.Proofs.YtnhbboknffppiaaDoor
