/-
  DERIVED. GIVEN WITH THE SEED: THE CARDS: each row of YtjifnmilimdfdaaGreatDoorRows.lean that lists a variable, with what it lists TIED to the program's text (the seventh form; the later family's looks); each row that meets fmt, with fmt's text TOLD by the authors' own Lean function (tested against real Go, not proved from fmt's source: count such statements apart). THE CARD IS WHAT COUNTS. Prove the row's statement (the work); the ties are given (YtjifnmilimdfdaaGreatDoorTie.lean); close each card by the builder's one call (the guide's Derived/Test/ToyasCard.lean, 'card_holds'). Laid BY PROGRAM, IN A SANDBOX (cutbox-door.mjs). By AI agents, Wed Nov 11 2026. No macro, syntax, notation, axiom, sorry.
-/
import Derived.Test.YtjifnmilimdfdaaGreatDoorRows
import GoSem.ClaimSeven
namespace Go.Proofs.YtjifnmilimdfdaaGreatDoor
namespace Rows

/-- THE TIED CARD OF 'hornbeamlaw18.FdpropNone'. -/
def fdpropNoneCard : Claim7 := { stood := { row := fdpropNoneRow, standIns := [], harness := (true, "c01d953ef88989a120dd006305fde0e923ba29245de9725d637690b6114d1f71"), looks := true }, kinds := [], alts := [], laidByText := true, laidKinds := [.data, .data, .data, .data, .pinned], laidTests := true, laidLooks := .later }
def FdpropNoneCardSaid : Prop := Claim7.holds Tryz.pinned (.plain (OpenSpec.ofChange fdpropNoneSpec)) fdpropNoneCard

/-- THE TIED CARD OF 'hornbeamlaw19.FdlabelNone'. -/
def fdlabelNoneCard : Claim7 := { stood := { row := fdlabelNoneRow, standIns := [], harness := (true, "c01d953ef88989a120dd006305fde0e923ba29245de9725d637690b6114d1f71"), looks := true }, kinds := [], alts := [], laidByText := true, laidKinds := [.data, .data, .data, .data, .pinned], laidTests := true, laidLooks := .later }
def FdlabelNoneCardSaid : Prop := Claim7.holds Tryz.pinned (.plain (OpenSpec.ofChange fdlabelNoneSpec)) fdlabelNoneCard

/-- THE SECOND FORM's CARD OF 'hornbeamlaw18.FdpropNone'. -/
def fdpropNoneUptoCard : Claim7 := { stood := { row := fdpropNoneUptoRow, standIns := [], harness := (true, "c01d953ef88989a120dd006305fde0e923ba29245de9725d637690b6114d1f71"), looks := true }, kinds := [], alts := [], laidByText := true, laidKinds := [.data, .data, .data, .data, .pinned], laidTests := true, laidLooks := .later }
def FdpropNoneUptoCardSaid : Prop := Claim7.holds Tryz.pinned (.plain (OpenSpec.upto fdpropNoneSpec)) fdpropNoneUptoCard

/-- THE SECOND FORM's CARD OF 'hornbeamlaw19.FdlabelNone'. -/
def fdlabelNoneUptoCard : Claim7 := { stood := { row := fdlabelNoneUptoRow, standIns := [], harness := (true, "c01d953ef88989a120dd006305fde0e923ba29245de9725d637690b6114d1f71"), looks := true }, kinds := [], alts := [], laidByText := true, laidKinds := [.data, .data, .data, .data, .pinned], laidTests := true, laidLooks := .later }
def FdlabelNoneUptoCardSaid : Prop := Claim7.holds Tryz.pinned (.plain (OpenSpec.upto fdlabelNoneSpec)) fdlabelNoneUptoCard
end Rows
end Go.Proofs.YtjifnmilimdfdaaGreatDoor
