/-
  DERIVED. GIVEN WITH THE SEED: THE CARDS: each row of YtnipmfaikiaipaaGreatDoorRows.lean that lists a variable, with what it lists TIED to the program's text (the seventh form; the later family's looks); each row that meets fmt, with fmt's text TOLD by the authors' own Lean function (tested against real Go, not proved from fmt's source: count such statements apart). THE CARD IS WHAT COUNTS. Prove the row's statement (the work); the ties are given (YtnipmfaikiaipaaGreatDoorTie.lean); close each card by the builder's one call (the guide's Derived/Test/ToyasCard.lean, 'card_holds'). Laid BY PROGRAM, IN A SANDBOX (cutbox-door.mjs). By AI agents, Wed Nov 11 2026. No macro, syntax, notation, axiom, sorry.
-/
import Derived.Test.YtnipmfaikiaipaaGreatDoorRows
import GoSem.ClaimSeven
namespace Go.Proofs.YtnipmfaikiaipaaGreatDoor
namespace Rows

/-- THE TIED CARD OF 'hornbeamlaw05.ParserSkips'. -/
def parserSkipsCard : Claim7 := { stood := { row := parserSkipsRow, standIns := [], harness := (true, "a8f3c3d954a425daaec625bdf5bcca98b5c577ffcb9c5a8a42f7f8a36ba0cbc3"), looks := true }, kinds := [], alts := [], laidByText := true, laidKinds := [.data, .data, .widerDeep, .widerDeep, .data, .data, .data, .data, .data, .data, .sentinel, .sentinel, .listed, .data, .pinned, .pinned, .pinned], laidTests := true, laidLooks := .later }
def ParserSkipsCardSaid : Prop := Claim7.holds Tryz.pinned (.plain (OpenSpec.ofChange parserSkipsSpec)) parserSkipsCard

/-- THE TIED CARD OF 'hornbeamlaw06.WriterAtoms'. -/
def writerAtomsCard : Claim7 := { stood := { row := writerAtomsRow, standIns := [], harness := (true, "a8f3c3d954a425daaec625bdf5bcca98b5c577ffcb9c5a8a42f7f8a36ba0cbc3"), looks := true }, kinds := [], alts := [], laidByText := true, laidKinds := [.data, .data, .widerDeep, .widerDeep, .data, .data, .data, .data, .data, .data, .sentinel, .sentinel, .listed, .data, .pinned, .pinned, .pinned], laidTests := true, laidLooks := .later }
def WriterAtomsCardSaid : Prop := Claim7.holds Tryz.pinned (.plain (OpenSpec.ofChange writerAtomsSpec)) writerAtomsCard

/-- THE TIED CARD OF 'hornbeamlaw06.WriterNames'. -/
def writerNamesCard : Claim7 := { stood := { row := writerNamesRow, standIns := [], harness := (true, "a8f3c3d954a425daaec625bdf5bcca98b5c577ffcb9c5a8a42f7f8a36ba0cbc3"), looks := true }, kinds := [], alts := [], laidByText := true, laidKinds := [.data, .data, .widerDeep, .widerDeep, .data, .data, .data, .data, .data, .data, .sentinel, .sentinel, .listed, .data, .pinned, .pinned, .pinned], laidTests := true, laidLooks := .later }
def WriterNamesCardSaid : Prop := Claim7.holds Tryz.pinned (.plain (OpenSpec.ofChange writerNamesSpec)) writerNamesCard

/-- THE SECOND FORM's CARD OF 'hornbeamlaw05.ParserSkips'. -/
def parserSkipsUptoCard : Claim7 := { stood := { row := parserSkipsUptoRow, standIns := [], harness := (true, "a8f3c3d954a425daaec625bdf5bcca98b5c577ffcb9c5a8a42f7f8a36ba0cbc3"), looks := true }, kinds := [], alts := [], laidByText := true, laidKinds := [.data, .data, .widerDeep, .widerDeep, .data, .data, .data, .data, .data, .data, .sentinel, .sentinel, .listed, .data, .pinned, .pinned, .pinned], laidTests := true, laidLooks := .later }
def ParserSkipsUptoCardSaid : Prop := Claim7.holds Tryz.pinned (.plain (OpenSpec.upto parserSkipsSpec)) parserSkipsUptoCard

/-- THE SECOND FORM's CARD OF 'hornbeamlaw06.WriterAtoms'. -/
def writerAtomsUptoCard : Claim7 := { stood := { row := writerAtomsUptoRow, standIns := [], harness := (true, "a8f3c3d954a425daaec625bdf5bcca98b5c577ffcb9c5a8a42f7f8a36ba0cbc3"), looks := true }, kinds := [], alts := [], laidByText := true, laidKinds := [.data, .data, .widerDeep, .widerDeep, .data, .data, .data, .data, .data, .data, .sentinel, .sentinel, .listed, .data, .pinned, .pinned, .pinned], laidTests := true, laidLooks := .later }
def WriterAtomsUptoCardSaid : Prop := Claim7.holds Tryz.pinned (.plain (OpenSpec.upto writerAtomsSpec)) writerAtomsUptoCard

/-- THE SECOND FORM's CARD OF 'hornbeamlaw06.WriterNames'. -/
def writerNamesUptoCard : Claim7 := { stood := { row := writerNamesUptoRow, standIns := [], harness := (true, "a8f3c3d954a425daaec625bdf5bcca98b5c577ffcb9c5a8a42f7f8a36ba0cbc3"), looks := true }, kinds := [], alts := [], laidByText := true, laidKinds := [.data, .data, .widerDeep, .widerDeep, .data, .data, .data, .data, .data, .data, .sentinel, .sentinel, .listed, .data, .pinned, .pinned, .pinned], laidTests := true, laidLooks := .later }
def WriterNamesUptoCardSaid : Prop := Claim7.holds Tryz.pinned (.plain (OpenSpec.upto writerNamesSpec)) writerNamesUptoCard
end Rows
end Go.Proofs.YtnipmfaikiaipaaGreatDoor
