/-
  DERIVED. GIVEN WITH THE SEED: THE CARDS: each row of YtmglkdekjkgflaaGreatDoorRows.lean that lists a variable, with what it lists TIED to the program's text (the seventh form; the later family's looks); each row that meets fmt, with fmt's text TOLD by the authors' own Lean function (tested against real Go, not proved from fmt's source: count such statements apart). THE CARD IS WHAT COUNTS. Prove the row's statement (the work); the ties are given (YtmglkdekjkgflaaGreatDoorTie.lean); close each card by the builder's one call (the guide's Derived/Test/ToyasCard.lean, 'card_holds'). Laid BY PROGRAM, IN A SANDBOX (cutbox-door.mjs). By AI agents, Wed Nov 11 2026. No macro, syntax, notation, axiom, sorry.
-/
import Derived.Test.YtmglkdekjkgflaaGreatDoorRows
import GoSem.ClaimSeven
namespace Go.Proofs.YtmglkdekjkgflaaGreatDoor
namespace Rows

/-- THE TIED CARD OF 'hornbeamlaw05.ParserSkips'. -/
def parserSkipsCard : Claim7 := { stood := { row := parserSkipsRow, standIns := [], harness := (true, "09f4a9adf0eb1676b04e763db224554a2d412c66fab48baa5566307ddce71d78"), looks := true }, kinds := [], alts := [], laidByText := true, laidKinds := [.data, .data, .widerDeep, .widerDeep, .data, .data, .data, .data, .data, .data, .sentinel, .sentinel, .listed, .data, .pinned, .pinned, .pinned], laidTests := true, laidLooks := .later }
def ParserSkipsCardSaid : Prop := Claim7.holds Tryz.pinned (.plain (OpenSpec.ofChange parserSkipsSpec)) parserSkipsCard

/-- THE TIED CARD OF 'hornbeamlaw05.ParserNone'. -/
def parserNoneCard : Claim7 := { stood := { row := parserNoneRow, standIns := [], harness := (true, "09f4a9adf0eb1676b04e763db224554a2d412c66fab48baa5566307ddce71d78"), looks := true }, kinds := [], alts := [], laidByText := true, laidKinds := [.data, .data, .widerDeep, .widerDeep, .data, .data, .data, .data, .data, .data, .sentinel, .sentinel, .listed, .data, .pinned, .pinned, .pinned], laidTests := true, laidLooks := .later }
def ParserNoneCardSaid : Prop := Claim7.holds Tryz.pinned (.plain (OpenSpec.ofChange parserNoneSpec)) parserNoneCard

/-- THE TIED CARD OF 'hornbeamlaw06.WriterNone'. -/
def writerNoneCard : Claim7 := { stood := { row := writerNoneRow, standIns := [], harness := (true, "09f4a9adf0eb1676b04e763db224554a2d412c66fab48baa5566307ddce71d78"), looks := true }, kinds := [], alts := [], laidByText := true, laidKinds := [.data, .data, .widerDeep, .widerDeep, .data, .data, .data, .data, .data, .data, .sentinel, .sentinel, .listed, .data, .pinned, .pinned, .pinned], laidTests := true, laidLooks := .later }
def WriterNoneCardSaid : Prop := Claim7.holds Tryz.pinned (.plain (OpenSpec.ofChange writerNoneSpec)) writerNoneCard

/-- THE SECOND FORM's CARD OF 'hornbeamlaw05.ParserSkips'. -/
def parserSkipsUptoCard : Claim7 := { stood := { row := parserSkipsUptoRow, standIns := [], harness := (true, "09f4a9adf0eb1676b04e763db224554a2d412c66fab48baa5566307ddce71d78"), looks := true }, kinds := [], alts := [], laidByText := true, laidKinds := [.data, .data, .widerDeep, .widerDeep, .data, .data, .data, .data, .data, .data, .sentinel, .sentinel, .listed, .data, .pinned, .pinned, .pinned], laidTests := true, laidLooks := .later }
def ParserSkipsUptoCardSaid : Prop := Claim7.holds Tryz.pinned (.plain (OpenSpec.upto parserSkipsSpec)) parserSkipsUptoCard

/-- THE SECOND FORM's CARD OF 'hornbeamlaw05.ParserNone'. -/
def parserNoneUptoCard : Claim7 := { stood := { row := parserNoneUptoRow, standIns := [], harness := (true, "09f4a9adf0eb1676b04e763db224554a2d412c66fab48baa5566307ddce71d78"), looks := true }, kinds := [], alts := [], laidByText := true, laidKinds := [.data, .data, .widerDeep, .widerDeep, .data, .data, .data, .data, .data, .data, .sentinel, .sentinel, .listed, .data, .pinned, .pinned, .pinned], laidTests := true, laidLooks := .later }
def ParserNoneUptoCardSaid : Prop := Claim7.holds Tryz.pinned (.plain (OpenSpec.upto parserNoneSpec)) parserNoneUptoCard

/-- THE SECOND FORM's CARD OF 'hornbeamlaw06.WriterNone'. -/
def writerNoneUptoCard : Claim7 := { stood := { row := writerNoneUptoRow, standIns := [], harness := (true, "09f4a9adf0eb1676b04e763db224554a2d412c66fab48baa5566307ddce71d78"), looks := true }, kinds := [], alts := [], laidByText := true, laidKinds := [.data, .data, .widerDeep, .widerDeep, .data, .data, .data, .data, .data, .data, .sentinel, .sentinel, .listed, .data, .pinned, .pinned, .pinned], laidTests := true, laidLooks := .later }
def WriterNoneUptoCardSaid : Prop := Claim7.holds Tryz.pinned (.plain (OpenSpec.upto writerNoneSpec)) writerNoneUptoCard
end Rows
end Go.Proofs.YtmglkdekjkgflaaGreatDoor
