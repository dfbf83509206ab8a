/- LexerNumbers's card: an integer is read the same in decimal, binary, octal and hexadecimal digits: the law answers true for every input that its row lets in. -/
import Derived.Test.YteegpmimbbgdlaaGreatDoorNuNone
import Derived.ProofKit
import Derived.Test.YteegpmimbbgdlaaGreatDoorNuWit
import Derived.Test.YteegpmimbbgdlaaGreatDoorFactsNu
namespace Go.Proofs.YteegpmimbbgdlaaGreatDoor
open Go Go.Proofs.YteegpmimbbgdlaaGreatDoor.Ab Go.ChangeShapes Go.WideShapes Go.ChangeAt Go.RowKit
namespace Nu
set_option maxRecDepth 100000 in
theorem lifted (os : Os) (started : os.Started) (H : Type) (enc : TypeId × Value → H) (F : Stop.Interp) :
    ReturnsInHanded {} Tryz.checked os 8 .any ((OpenSpec.ofChange Rows.lexerNumbersSpec).preRow enc Tryz.prog Tryz.f8 Rows.lexerNumbersRow.domain false Rows.lexerNumbersRow.laid) (((OpenSpec.ofChange Rows.lexerNumbersSpec).at F).post enc Tryz.prog Tryz.f8 false true false false) := by
  obtain ⟨x, hx⟩ := Option.isSome_iff_exists.1 (w_reads os enc)
  refine returnsInHanded_of_row (C := Tryz.checked) (s := OpenSpec.ofChange Rows.lexerNumbersSpec) own started noInit8 Tryz.func8
    (witness_row (enc := enc) (C := Tryz.checked) (World.laidAll Tryz.prog os Rows.lexerNumbersRow.laid) wargs (World.laidAll_os _ _ _) (w_shaped os) (okw8 os)
      (OpenSpec.preRow_of_cond 8 hx rfl (fun k hk => by cases hk) (sized8 os enc) (w_laid os))) ?_
  intro W base args ds gs before hval hW _ _ hsz hL hsh _
  exact contract H enc W base args ds gs before hval hW hsz hL hsh
set_option maxRecDepth 1000000 in
theorem said : Rows.LexerNumbersSaid :=
  OpenClaim.holds_of_cond (p := Tryz.pinned) (s := OpenSpec.ofChange Rows.lexerNumbersSpec) (c := Rows.lexerNumbersRow) 8 Tryz.f8 rfl rfl rfl rfl rfl rfl rfl ⟨rfl, rfl, rfl, rfl, rfl⟩ rfl rfl rfl rfl rfl funcNamed8 Tryz.func8 NuFacts.closed
    inst8 wrap8 (fun os started H enc _ F => by rw [OpenClaim.pre_eq_preRow]; exact lifted os started H enc F)
end Nu
theorem lexerNumbers_card : Rows.LexerNumbersCardSaid :=
  Claim7.holds_tied_plain_at .later [] _ _ _ _ Nu.said (fun _ h => by cases h) (by kernel_rfl) (fun _ h => by cases h) lexerNumbers_row_tie rfl ⟨rfl, rfl⟩ (by kernel_rfl) rfl Nu.plain (by kernel_rfl)
#print axioms lexerNumbers_card
end Go.Proofs.YteegpmimbbgdlaaGreatDoor
