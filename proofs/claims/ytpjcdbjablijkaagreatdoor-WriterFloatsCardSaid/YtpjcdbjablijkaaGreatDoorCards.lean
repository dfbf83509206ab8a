/-
  DERIVED. GIVEN WITH THE SEED: THE CARDS: each row of YtpjcdbjablijkaaGreatDoorRows.lean that lists a variable, with what it lists TIED to the program's text (the seventh form; the later family's looks); each row that meets fmt, with fmt's text TOLD by the authors' own Lean function (tested against real Go, not proved from fmt's source: count such statements apart). THE CARD IS WHAT COUNTS. Prove the row's statement (the work); the ties are given (YtpjcdbjablijkaaGreatDoorTie.lean); close each card by the builder's one call (the guide's Derived/Test/ToyasCard.lean, 'card_holds'). Laid BY PROGRAM, IN A SANDBOX (cutbox-door.mjs). By AI agents, Wed Nov 11 2026. No macro, syntax, notation, axiom, sorry.
-/
import Derived.Test.YtpjcdbjablijkaaGreatDoorRows
import GoSem.ClaimSeven
namespace Go.Proofs.YtpjcdbjablijkaaGreatDoor
namespace Rows

/-- THE TIED CARD OF 'hornbeamlaw06.WriterFloats'. -/
def writerFloatsCard : Claim7 := { stood := { row := writerFloatsRow, standIns := [], harness := (true, "95651d53eb1ee7838ecce429ab2232fe7494bba219589a705a3f1232c3d19cdd"), looks := true }, kinds := [], alts := [], laidByText := true, laidKinds := [.data, .data, .widerDeep, .widerDeep, .data, .data, .data, .data, .data, .data, .sentinel, .sentinel, .listed, .data, .pinned, .pinned, .pinned], laidTests := true, laidLooks := .later }
def WriterFloatsCardSaid : Prop := Claim7.holds Tryz.pinned (.plain (OpenSpec.ofChange writerFloatsSpec)) writerFloatsCard

/-- THE SECOND FORM's CARD OF 'hornbeamlaw06.WriterFloats'. -/
def writerFloatsUptoCard : Claim7 := { stood := { row := writerFloatsUptoRow, standIns := [], harness := (true, "95651d53eb1ee7838ecce429ab2232fe7494bba219589a705a3f1232c3d19cdd"), looks := true }, kinds := [], alts := [], laidByText := true, laidKinds := [.data, .data, .widerDeep, .widerDeep, .data, .data, .data, .data, .data, .data, .sentinel, .sentinel, .listed, .data, .pinned, .pinned, .pinned], laidTests := true, laidLooks := .later }
def WriterFloatsUptoCardSaid : Prop := Claim7.holds Tryz.pinned (.plain (OpenSpec.upto writerFloatsSpec)) writerFloatsUptoCard
end Rows
end Go.Proofs.YtpjcdbjablijkaaGreatDoor
