/- LexerChars's card: 0' and any character is that character's number, and an escape of it means it too: the law answers true for every input that its row lets in. -/
import Derived.Test.YteegpmimbbgdlaaGreatDoorChNone
import Derived.ProofKit
import Derived.Test.YteegpmimbbgdlaaGreatDoorChWit
import Derived.Test.YteegpmimbbgdlaaGreatDoorFactsCh
namespace Go.Proofs.YteegpmimbbgdlaaGreatDoor
open Go Go.Proofs.YteegpmimbbgdlaaGreatDoor.Ab Go.ChangeShapes Go.WideShapes Go.ChangeAt Go.RowKit
namespace Ch
set_option maxRecDepth 100000 in
theorem lifted (os : Os) (started : os.Started) (H : Type) (enc : TypeId × Value → H) (F : Stop.Interp) :
    ReturnsInHanded {} Tryz.checked os 9 .any ((OpenSpec.ofChange Rows.lexerCharsSpec).preRow enc Tryz.prog Tryz.f9 Rows.lexerCharsRow.domain false Rows.lexerCharsRow.laid) (((OpenSpec.ofChange Rows.lexerCharsSpec).at F).post enc Tryz.prog Tryz.f9 false true false false) := by
  obtain ⟨x, hx⟩ := Option.isSome_iff_exists.1 (w_reads os enc)
  refine returnsInHanded_of_row (C := Tryz.checked) (s := OpenSpec.ofChange Rows.lexerCharsSpec) own started noInit9 Tryz.func9
    (witness_row (enc := enc) (C := Tryz.checked) (World.laidAll Tryz.prog os Rows.lexerCharsRow.laid) wargs (World.laidAll_os _ _ _) (w_shaped os) (okw9 os)
      (OpenSpec.preRow_of_cond 8 hx rfl (fun k hk => by cases hk) (sized9 os enc) (w_laid os))) ?_
  intro W base args ds gs before hval hW _ _ _ hL hsh _
  exact contract H enc W base args ds gs before hval hW hL hsh
set_option maxRecDepth 1000000 in
theorem said : Rows.LexerCharsSaid :=
  OpenClaim.holds_of_cond (p := Tryz.pinned) (s := OpenSpec.ofChange Rows.lexerCharsSpec) (c := Rows.lexerCharsRow) 9 Tryz.f9 rfl rfl rfl rfl rfl rfl rfl ⟨rfl, rfl, rfl, rfl, rfl⟩ rfl rfl rfl rfl rfl funcNamed9 Tryz.func9 ChFacts.closed
    inst9 wrap9 (fun os started H enc _ F => by rw [OpenClaim.pre_eq_preRow]; exact lifted os started H enc F)
end Ch
theorem lexerChars_card : Rows.LexerCharsCardSaid :=
  Claim7.holds_tied_plain_at .later [] _ _ _ _ Ch.said (fun _ h => by cases h) (by kernel_rfl) (fun _ h => by cases h) lexerChars_row_tie rfl ⟨rfl, rfl⟩ (by kernel_rfl) rfl Ch.plain (by kernel_rfl)
#print axioms lexerChars_card
end Go.Proofs.YteegpmimbbgdlaaGreatDoor
