/- ParserNone's card: whatever the text and the place, nothing is read without operators' table or outside of the text; the law answers true for every input that its row lets in. -/
import Derived.Test.YtmglkdekjkgflaaGreatDoorPaNone
import Derived.ProofKit
import Derived.Test.YtmglkdekjkgflaaGreatDoorPaWit
import Derived.Test.YtmglkdekjkgflaaGreatDoorFactsPa
namespace Go.Proofs.YtmglkdekjkgflaaGreatDoor
open Go Go.Proofs.YtmglkdekjkgflaaGreatDoor.Ab Go.ChangeShapes Go.WideShapes Go.ChangeAt Go.RowKit
namespace Pa
set_option maxRecDepth 100000 in
theorem lifted (os : Os) (started : os.Started) (H : Type) (enc : TypeId × Value → H) (F : Stop.Interp) :
    ReturnsInHanded {} Tryz.checked os 4 .any ((OpenSpec.ofChange Rows.parserNoneSpec).preRow enc Tryz.prog Tryz.f4 Rows.parserNoneRow.domain false Rows.parserNoneRow.laid) (((OpenSpec.ofChange Rows.parserNoneSpec).at F).post enc Tryz.prog Tryz.f4 false true false false) := by
  obtain ⟨x, hx⟩ := Option.isSome_iff_exists.1 (w_reads os enc)
  refine returnsInHanded_of_row (C := Tryz.checked) (s := OpenSpec.ofChange Rows.parserNoneSpec) own started noInit4 Tryz.func4
    (witness_row (enc := enc) (C := Tryz.checked) (World.laidAll Tryz.prog os Rows.parserNoneRow.laid) wargs (World.laidAll_os _ _ _) (w_shaped os) (okw4 os)
      (OpenSpec.preRow_of_cond 8 hx rfl (fun k hk => by cases hk) (sized4 os enc) (w_laid os))) ?_
  intro W base args ds gs before hval hW _ _ _ hL hsh _
  exact contract H enc W base args ds gs before hval hW hL hsh
set_option maxRecDepth 1000000 in
theorem said : Rows.ParserNoneSaid :=
  OpenClaim.holds_of_cond (p := Tryz.pinned) (s := OpenSpec.ofChange Rows.parserNoneSpec) (c := Rows.parserNoneRow) 4 Tryz.f4 rfl rfl rfl rfl rfl rfl rfl ⟨rfl, rfl, rfl, rfl, rfl⟩ rfl rfl rfl rfl rfl funcNamed4 Tryz.func4 PaFacts.closed
    inst4 wrap4 (fun os started H enc _ F => by rw [OpenClaim.pre_eq_preRow]; exact lifted os started H enc F)
end Pa
theorem parserNone_card : Rows.ParserNoneCardSaid :=
  Claim7.holds_tied_plain_at .later [] _ _ _ _ Pa.said (fun _ h => by cases h) (by kernel_rfl) (fun _ h => by cases h) parserNone_row_tie rfl ⟨rfl, rfl⟩ (by kernel_rfl) rfl Pa.plain (by kernel_rfl)
#print axioms parserNone_card
end Go.Proofs.YtmglkdekjkgflaaGreatDoor
