/- LexerQuotes's card: any name may be written between quotes and is read as itself: the law answers true for every input that its row lets in. -/
import Derived.Test.YteegpmimbbgdlaaGreatDoorQtNone
import Derived.ProofKit
import Derived.Test.YteegpmimbbgdlaaGreatDoorQtWit
import Derived.Test.YteegpmimbbgdlaaGreatDoorFactsQt
namespace Go.Proofs.YteegpmimbbgdlaaGreatDoor
open Go Go.Proofs.YteegpmimbbgdlaaGreatDoor.Ab Go.ChangeShapes Go.WideShapes Go.ChangeAt Go.RowKit
namespace Qt
set_option maxRecDepth 100000 in
theorem lifted (os : Os) (started : os.Started) (H : Type) (enc : TypeId × Value → H) (F : Stop.Interp) :
    ReturnsInHanded {} Tryz.checked os 7 .any ((OpenSpec.ofChange Rows.lexerQuotesSpec).preRow enc Tryz.prog Tryz.f7 Rows.lexerQuotesRow.domain false Rows.lexerQuotesRow.laid) (((OpenSpec.ofChange Rows.lexerQuotesSpec).at F).post enc Tryz.prog Tryz.f7 false true false false) := by
  obtain ⟨x, hx⟩ := Option.isSome_iff_exists.1 (w_reads os enc)
  refine returnsInHanded_of_row (C := Tryz.checked) (s := OpenSpec.ofChange Rows.lexerQuotesSpec) own started noInit7 Tryz.func7
    (witness_row (enc := enc) (C := Tryz.checked) (World.laidAll Tryz.prog os Rows.lexerQuotesRow.laid) wargs (World.laidAll_os _ _ _) (w_shaped os) (okw7 os)
      (OpenSpec.preRow_of_cond 8 hx rfl (fun k hk => by cases hk) (sized7 os enc) (w_laid os))) ?_
  intro W base args ds gs before hval hW _ _ hsz hL hsh _
  exact contract H enc W base args ds gs before hval hW hsz hL hsh
set_option maxRecDepth 1000000 in
theorem said : Rows.LexerQuotesSaid :=
  OpenClaim.holds_of_cond (p := Tryz.pinned) (s := OpenSpec.ofChange Rows.lexerQuotesSpec) (c := Rows.lexerQuotesRow) 7 Tryz.f7 rfl rfl rfl rfl rfl rfl rfl ⟨rfl, rfl, rfl, rfl, rfl⟩ rfl rfl rfl rfl rfl funcNamed7 Tryz.func7 QtFacts.closed
    inst7 wrap7 (fun os started H enc _ F => by rw [OpenClaim.pre_eq_preRow]; exact lifted os started H enc F)
end Qt
theorem lexerQuotes_card : Rows.LexerQuotesCardSaid :=
  Claim7.holds_tied_plain_at .later [] _ _ _ _ Qt.said (fun _ h => by cases h) (by kernel_rfl) (fun _ h => by cases h) lexerQuotes_row_tie rfl ⟨rfl, rfl⟩ (by kernel_rfl) rfl Qt.plain (by kernel_rfl)
#print axioms lexerQuotes_card
end Go.Proofs.YteegpmimbbgdlaaGreatDoor
