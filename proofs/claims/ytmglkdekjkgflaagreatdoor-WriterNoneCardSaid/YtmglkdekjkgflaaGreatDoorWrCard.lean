/- WriterNone's card: whatever the term and the options, without operators' table nothing is written; the law answers true for every input that its row lets in. -/
import Derived.Test.YtmglkdekjkgflaaGreatDoorWrNone
import Derived.ProofKit
import Derived.Test.YtmglkdekjkgflaaGreatDoorWrWit
import Derived.Test.YtmglkdekjkgflaaGreatDoorFactsWr
namespace Go.Proofs.YtmglkdekjkgflaaGreatDoor
open Go Go.Proofs.YtmglkdekjkgflaaGreatDoor.Ab Go.ChangeShapes Go.WideShapes Go.ChangeAt Go.RowKit
namespace Wr
set_option maxRecDepth 100000 in
theorem lifted (os : Os) (started : os.Started) (H : Type) (enc : TypeId × Value → H) (F : Stop.Interp) :
    ReturnsInHanded {} Tryz.checked os 5 .any ((OpenSpec.ofChange Rows.writerNoneSpec).preRow enc Tryz.prog Tryz.f5 Rows.writerNoneRow.domain false Rows.writerNoneRow.laid) (((OpenSpec.ofChange Rows.writerNoneSpec).at F).post enc Tryz.prog Tryz.f5 false true false false) := by
  obtain ⟨x, hx⟩ := Option.isSome_iff_exists.1 (w_reads os enc)
  refine returnsInHanded_of_row (C := Tryz.checked) (s := OpenSpec.ofChange Rows.writerNoneSpec) own started noInit5 Tryz.func5
    (witness_row (enc := enc) (C := Tryz.checked) (World.laidAll Tryz.prog os Rows.writerNoneRow.laid) wargs (World.laidAll_os _ _ _) (w_shaped os) (okw5 os)
      (OpenSpec.preRow_of_cond 8 hx rfl (fun k hk => by cases hk) (sized5 os enc) (w_laid os))) ?_
  intro W base args ds gs before hval hW _ _ _ hL hsh _
  exact contract H enc W base args ds gs before hval hW hL hsh
set_option maxRecDepth 1000000 in
theorem said : Rows.WriterNoneSaid :=
  OpenClaim.holds_of_cond (p := Tryz.pinned) (s := OpenSpec.ofChange Rows.writerNoneSpec) (c := Rows.writerNoneRow) 5 Tryz.f5 rfl rfl rfl rfl rfl rfl rfl ⟨rfl, rfl, rfl, rfl, rfl⟩ rfl rfl rfl rfl rfl funcNamed5 Tryz.func5 WrFacts.closed
    inst5 wrap5 (fun os started H enc _ F => by rw [OpenClaim.pre_eq_preRow]; exact lifted os started H enc F)
end Wr
theorem writerNone_card : Rows.WriterNoneCardSaid :=
  Claim7.holds_tied_plain_at .later [] _ _ _ _ Wr.said (fun _ h => by cases h) (by kernel_rfl) (fun _ h => by cases h) writerNone_row_tie rfl ⟨rfl, rfl⟩ (by kernel_rfl) rfl Wr.plain (by kernel_rfl)
#print axioms writerNone_card
end Go.Proofs.YtmglkdekjkgflaaGreatDoor
