/-
  DERIVED. GIVEN WITH THE SEED: THE CARDS: each row of YtpocgkiamgipdaaGreatDoorRows.lean that lists a variable, with what it lists TIED to the program's text (the seventh form; the later family's looks); each row that meets fmt, with fmt's text TOLD by the authors' own Lean function (tested against real Go, not proved from fmt's source: count such statements apart). THE CARD IS WHAT COUNTS. Prove the row's statement (the work); the ties are given (YtpocgkiamgipdaaGreatDoorTie.lean); close each card by the builder's one call (the guide's Derived/Test/ToyasCard.lean, 'card_holds'). Laid BY PROGRAM, IN A SANDBOX (cutbox-door.mjs). By AI agents, Wed Nov 11 2026. No macro, syntax, notation, axiom, sorry.
-/
import Derived.Test.YtpocgkiamgipdaaGreatDoorRows
import GoSem.ClaimSeven
namespace Go.Proofs.YtpocgkiamgipdaaGreatDoor
namespace Rows

/-- THE TIED CARD OF 'hornbeamlaw05.ParserSound'. -/
def parserSoundCard : Claim7 := { stood := { row := parserSoundRow, standIns := [], harness := (true, "3138a8e9076796bffdb8a030082b3d5ad250efef88c8122aec925ce54ec036de"), looks := true }, kinds := [], alts := [], laidByText := true, laidKinds := [.data, .data, .widerDeep, .widerDeep, .data, .data, .data, .data, .data, .data, .sentinel, .sentinel, .listed, .data, .pinned, .pinned, .pinned], laidTests := true, laidLooks := .later }
def ParserSoundCardSaid : Prop := Claim7.holds Tryz.pinned (.plain (OpenSpec.ofChange parserSoundSpec)) parserSoundCard

/-- THE TIED CARD OF 'hornbeamlaw05.ParserSpaced'. -/
def parserSpacedCard : Claim7 := { stood := { row := parserSpacedRow, standIns := [], harness := (true, "3138a8e9076796bffdb8a030082b3d5ad250efef88c8122aec925ce54ec036de"), looks := true }, kinds := [], alts := [], laidByText := true, laidKinds := [.data, .data, .widerDeep, .widerDeep, .data, .data, .data, .data, .data, .data, .sentinel, .sentinel, .listed, .data, .pinned, .pinned, .pinned], laidTests := true, laidLooks := .later }
def ParserSpacedCardSaid : Prop := Claim7.holds Tryz.pinned (.plain (OpenSpec.ofChange parserSpacedSpec)) parserSpacedCard

/-- THE SECOND FORM's CARD OF 'hornbeamlaw05.ParserSound'. -/
def parserSoundUptoCard : Claim7 := { stood := { row := parserSoundUptoRow, standIns := [], harness := (true, "3138a8e9076796bffdb8a030082b3d5ad250efef88c8122aec925ce54ec036de"), looks := true }, kinds := [], alts := [], laidByText := true, laidKinds := [.data, .data, .widerDeep, .widerDeep, .data, .data, .data, .data, .data, .data, .sentinel, .sentinel, .listed, .data, .pinned, .pinned, .pinned], laidTests := true, laidLooks := .later }
def ParserSoundUptoCardSaid : Prop := Claim7.holds Tryz.pinned (.plain (OpenSpec.upto parserSoundSpec)) parserSoundUptoCard

/-- THE SECOND FORM's CARD OF 'hornbeamlaw05.ParserSpaced'. -/
def parserSpacedUptoCard : Claim7 := { stood := { row := parserSpacedUptoRow, standIns := [], harness := (true, "3138a8e9076796bffdb8a030082b3d5ad250efef88c8122aec925ce54ec036de"), looks := true }, kinds := [], alts := [], laidByText := true, laidKinds := [.data, .data, .widerDeep, .widerDeep, .data, .data, .data, .data, .data, .data, .sentinel, .sentinel, .listed, .data, .pinned, .pinned, .pinned], laidTests := true, laidLooks := .later }
def ParserSpacedUptoCardSaid : Prop := Claim7.holds Tryz.pinned (.plain (OpenSpec.upto parserSpacedSpec)) parserSpacedUptoCard
end Rows
end Go.Proofs.YtpocgkiamgipdaaGreatDoor
