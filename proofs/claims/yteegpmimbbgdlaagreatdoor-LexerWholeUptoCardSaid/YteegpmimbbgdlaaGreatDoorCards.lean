/-
  DERIVED. GIVEN WITH THE SEED: THE CARDS: each row of YteegpmimbbgdlaaGreatDoorRows.lean that lists a variable, with what it lists TIED to the program's text (the seventh form; the later family's looks); each row that meets fmt, with fmt's text TOLD by the authors' own Lean function (tested against real Go, not proved from fmt's source: count such statements apart). THE CARD IS WHAT COUNTS. Prove the row's statement (the work); the ties are given (YteegpmimbbgdlaaGreatDoorTie.lean); close each card by the builder's one call (the guide's Derived/Test/ToyasCard.lean, 'card_holds'). Laid BY PROGRAM, IN A SANDBOX (cutbox-door.mjs). By AI agents, Wed Nov 11 2026. No macro, syntax, notation, axiom, sorry.
-/
import Derived.Test.YteegpmimbbgdlaaGreatDoorRows
import GoSem.ClaimSeven
namespace Go.Proofs.YteegpmimbbgdlaaGreatDoor
namespace Rows

/-- THE TIED CARD OF 'hornbeamlaw03.LexerTells'. -/
def lexerTellsCard : Claim7 := { stood := { row := lexerTellsRow, standIns := [], harness := (true, "74d2bc7cfac0acb882673e358686d60a2ad9a1885d0fab932db9bee7f5821f3b"), looks := true }, kinds := [], alts := [], laidByText := true, laidKinds := [.data, .data, .widerDeep, .widerDeep, .data, .data, .data, .data, .data, .data, .sentinel, .sentinel, .pinned, .pinned, .pinned], laidTests := true, laidLooks := .later }
def LexerTellsCardSaid : Prop := Claim7.holds Tryz.pinned (.plain (OpenSpec.ofChange lexerTellsSpec)) lexerTellsCard

/-- THE TIED CARD OF 'hornbeamlaw03.LexerPlains'. -/
def lexerPlainsCard : Claim7 := { stood := { row := lexerPlainsRow, standIns := [], harness := (true, "74d2bc7cfac0acb882673e358686d60a2ad9a1885d0fab932db9bee7f5821f3b"), looks := true }, kinds := [], alts := [], laidByText := true, laidKinds := [.data, .data, .widerDeep, .widerDeep, .data, .data, .data, .data, .data, .data, .sentinel, .sentinel, .pinned, .pinned, .pinned], laidTests := true, laidLooks := .later }
def LexerPlainsCardSaid : Prop := Claim7.holds Tryz.pinned (.plain (OpenSpec.ofChange lexerPlainsSpec)) lexerPlainsCard

/-- THE TIED CARD OF 'hornbeamlaw03.LexerTiles'. -/
def lexerTilesCard : Claim7 := { stood := { row := lexerTilesRow, standIns := [], harness := (true, "74d2bc7cfac0acb882673e358686d60a2ad9a1885d0fab932db9bee7f5821f3b"), looks := true }, kinds := [], alts := [], laidByText := true, laidKinds := [.data, .data, .widerDeep, .widerDeep, .data, .data, .data, .data, .data, .data, .sentinel, .sentinel, .pinned, .pinned, .pinned], laidTests := true, laidLooks := .later }
def LexerTilesCardSaid : Prop := Claim7.holds Tryz.pinned (.plain (OpenSpec.ofChange lexerTilesSpec)) lexerTilesCard

/-- THE TIED CARD OF 'hornbeamlaw03.LexerJoins'. -/
def lexerJoinsCard : Claim7 := { stood := { row := lexerJoinsRow, standIns := [], harness := (true, "74d2bc7cfac0acb882673e358686d60a2ad9a1885d0fab932db9bee7f5821f3b"), looks := true }, kinds := [], alts := [], laidByText := true, laidKinds := [.data, .data, .widerDeep, .widerDeep, .data, .data, .data, .data, .data, .data, .sentinel, .sentinel, .pinned, .pinned, .pinned], laidTests := true, laidLooks := .later }
def LexerJoinsCardSaid : Prop := Claim7.holds Tryz.pinned (.plain (OpenSpec.ofChange lexerJoinsSpec)) lexerJoinsCard

/-- THE TIED CARD OF 'hornbeamlaw03.LexerQuotes'. -/
def lexerQuotesCard : Claim7 := { stood := { row := lexerQuotesRow, standIns := [], harness := (true, "74d2bc7cfac0acb882673e358686d60a2ad9a1885d0fab932db9bee7f5821f3b"), looks := true }, kinds := [], alts := [], laidByText := true, laidKinds := [.data, .data, .widerDeep, .widerDeep, .data, .data, .data, .data, .data, .data, .sentinel, .sentinel, .pinned, .pinned, .pinned], laidTests := true, laidLooks := .later }
def LexerQuotesCardSaid : Prop := Claim7.holds Tryz.pinned (.plain (OpenSpec.ofChange lexerQuotesSpec)) lexerQuotesCard

/-- THE TIED CARD OF 'hornbeamlaw03.LexerNumbers'. -/
def lexerNumbersCard : Claim7 := { stood := { row := lexerNumbersRow, standIns := [], harness := (true, "74d2bc7cfac0acb882673e358686d60a2ad9a1885d0fab932db9bee7f5821f3b"), looks := true }, kinds := [], alts := [], laidByText := true, laidKinds := [.data, .data, .widerDeep, .widerDeep, .data, .data, .data, .data, .data, .data, .sentinel, .sentinel, .pinned, .pinned, .pinned], laidTests := true, laidLooks := .later }
def LexerNumbersCardSaid : Prop := Claim7.holds Tryz.pinned (.plain (OpenSpec.ofChange lexerNumbersSpec)) lexerNumbersCard

/-- THE TIED CARD OF 'hornbeamlaw03.LexerChars'. -/
def lexerCharsCard : Claim7 := { stood := { row := lexerCharsRow, standIns := [], harness := (true, "74d2bc7cfac0acb882673e358686d60a2ad9a1885d0fab932db9bee7f5821f3b"), looks := true }, kinds := [], alts := [], laidByText := true, laidKinds := [.data, .data, .widerDeep, .widerDeep, .data, .data, .data, .data, .data, .data, .sentinel, .sentinel, .pinned, .pinned, .pinned], laidTests := true, laidLooks := .later }
def LexerCharsCardSaid : Prop := Claim7.holds Tryz.pinned (.plain (OpenSpec.ofChange lexerCharsSpec)) lexerCharsCard

/-- THE TIED CARD OF 'hornbeamlaw03.LexerWhole'. -/
def lexerWholeCard : Claim7 := { stood := { row := lexerWholeRow, standIns := [], harness := (true, "74d2bc7cfac0acb882673e358686d60a2ad9a1885d0fab932db9bee7f5821f3b"), looks := true }, kinds := [], alts := [], laidByText := true, laidKinds := [.data, .data, .widerDeep, .widerDeep, .data, .data, .data, .data, .data, .data, .sentinel, .sentinel, .pinned, .pinned, .pinned], laidTests := true, laidLooks := .later }
def LexerWholeCardSaid : Prop := Claim7.holds Tryz.pinned (.plain (OpenSpec.ofChange lexerWholeSpec)) lexerWholeCard

/-- THE SECOND FORM's CARD OF 'hornbeamlaw03.LexerTells'. -/
def lexerTellsUptoCard : Claim7 := { stood := { row := lexerTellsUptoRow, standIns := [], harness := (true, "74d2bc7cfac0acb882673e358686d60a2ad9a1885d0fab932db9bee7f5821f3b"), looks := true }, kinds := [], alts := [], laidByText := true, laidKinds := [.data, .data, .widerDeep, .widerDeep, .data, .data, .data, .data, .data, .data, .sentinel, .sentinel, .pinned, .pinned, .pinned], laidTests := true, laidLooks := .later }
def LexerTellsUptoCardSaid : Prop := Claim7.holds Tryz.pinned (.plain (OpenSpec.upto lexerTellsSpec)) lexerTellsUptoCard

/-- THE SECOND FORM's CARD OF 'hornbeamlaw03.LexerPlains'. -/
def lexerPlainsUptoCard : Claim7 := { stood := { row := lexerPlainsUptoRow, standIns := [], harness := (true, "74d2bc7cfac0acb882673e358686d60a2ad9a1885d0fab932db9bee7f5821f3b"), looks := true }, kinds := [], alts := [], laidByText := true, laidKinds := [.data, .data, .widerDeep, .widerDeep, .data, .data, .data, .data, .data, .data, .sentinel, .sentinel, .pinned, .pinned, .pinned], laidTests := true, laidLooks := .later }
def LexerPlainsUptoCardSaid : Prop := Claim7.holds Tryz.pinned (.plain (OpenSpec.upto lexerPlainsSpec)) lexerPlainsUptoCard

/-- THE SECOND FORM's CARD OF 'hornbeamlaw03.LexerTiles'. -/
def lexerTilesUptoCard : Claim7 := { stood := { row := lexerTilesUptoRow, standIns := [], harness := (true, "74d2bc7cfac0acb882673e358686d60a2ad9a1885d0fab932db9bee7f5821f3b"), looks := true }, kinds := [], alts := [], laidByText := true, laidKinds := [.data, .data, .widerDeep, .widerDeep, .data, .data, .data, .data, .data, .data, .sentinel, .sentinel, .pinned, .pinned, .pinned], laidTests := true, laidLooks := .later }
def LexerTilesUptoCardSaid : Prop := Claim7.holds Tryz.pinned (.plain (OpenSpec.upto lexerTilesSpec)) lexerTilesUptoCard

/-- THE SECOND FORM's CARD OF 'hornbeamlaw03.LexerJoins'. -/
def lexerJoinsUptoCard : Claim7 := { stood := { row := lexerJoinsUptoRow, standIns := [], harness := (true, "74d2bc7cfac0acb882673e358686d60a2ad9a1885d0fab932db9bee7f5821f3b"), looks := true }, kinds := [], alts := [], laidByText := true, laidKinds := [.data, .data, .widerDeep, .widerDeep, .data, .data, .data, .data, .data, .data, .sentinel, .sentinel, .pinned, .pinned, .pinned], laidTests := true, laidLooks := .later }
def LexerJoinsUptoCardSaid : Prop := Claim7.holds Tryz.pinned (.plain (OpenSpec.upto lexerJoinsSpec)) lexerJoinsUptoCard

/-- THE SECOND FORM's CARD OF 'hornbeamlaw03.LexerQuotes'. -/
def lexerQuotesUptoCard : Claim7 := { stood := { row := lexerQuotesUptoRow, standIns := [], harness := (true, "74d2bc7cfac0acb882673e358686d60a2ad9a1885d0fab932db9bee7f5821f3b"), looks := true }, kinds := [], alts := [], laidByText := true, laidKinds := [.data, .data, .widerDeep, .widerDeep, .data, .data, .data, .data, .data, .data, .sentinel, .sentinel, .pinned, .pinned, .pinned], laidTests := true, laidLooks := .later }
def LexerQuotesUptoCardSaid : Prop := Claim7.holds Tryz.pinned (.plain (OpenSpec.upto lexerQuotesSpec)) lexerQuotesUptoCard

/-- THE SECOND FORM's CARD OF 'hornbeamlaw03.LexerNumbers'. -/
def lexerNumbersUptoCard : Claim7 := { stood := { row := lexerNumbersUptoRow, standIns := [], harness := (true, "74d2bc7cfac0acb882673e358686d60a2ad9a1885d0fab932db9bee7f5821f3b"), looks := true }, kinds := [], alts := [], laidByText := true, laidKinds := [.data, .data, .widerDeep, .widerDeep, .data, .data, .data, .data, .data, .data, .sentinel, .sentinel, .pinned, .pinned, .pinned], laidTests := true, laidLooks := .later }
def LexerNumbersUptoCardSaid : Prop := Claim7.holds Tryz.pinned (.plain (OpenSpec.upto lexerNumbersSpec)) lexerNumbersUptoCard

/-- THE SECOND FORM's CARD OF 'hornbeamlaw03.LexerChars'. -/
def lexerCharsUptoCard : Claim7 := { stood := { row := lexerCharsUptoRow, standIns := [], harness := (true, "74d2bc7cfac0acb882673e358686d60a2ad9a1885d0fab932db9bee7f5821f3b"), looks := true }, kinds := [], alts := [], laidByText := true, laidKinds := [.data, .data, .widerDeep, .widerDeep, .data, .data, .data, .data, .data, .data, .sentinel, .sentinel, .pinned, .pinned, .pinned], laidTests := true, laidLooks := .later }
def LexerCharsUptoCardSaid : Prop := Claim7.holds Tryz.pinned (.plain (OpenSpec.upto lexerCharsSpec)) lexerCharsUptoCard

/-- THE SECOND FORM's CARD OF 'hornbeamlaw03.LexerWhole'. -/
def lexerWholeUptoCard : Claim7 := { stood := { row := lexerWholeUptoRow, standIns := [], harness := (true, "74d2bc7cfac0acb882673e358686d60a2ad9a1885d0fab932db9bee7f5821f3b"), looks := true }, kinds := [], alts := [], laidByText := true, laidKinds := [.data, .data, .widerDeep, .widerDeep, .data, .data, .data, .data, .data, .data, .sentinel, .sentinel, .pinned, .pinned, .pinned], laidTests := true, laidLooks := .later }
def LexerWholeUptoCardSaid : Prop := Claim7.holds Tryz.pinned (.plain (OpenSpec.upto lexerWholeSpec)) lexerWholeUptoCard
end Rows
end Go.Proofs.YteegpmimbbgdlaaGreatDoor
