/- WriterFloats's card: any float is written with the fewest digits that are read as it again, as the document says, and lexer reads the text as that float: the law answers true for every input that its row lets in. -/
import Derived.Test.YtpjcdbjablijkaaGreatDoorWfWit
import Derived.ProofKit
import Derived.Test.YtpjcdbjablijkaaGreatDoorFactsWf
namespace Go.Proofs.YtpjcdbjablijkaaGreatDoor
open Go Go.Proofs.YtpjcdbjablijkaaGreatDoor.Ab Go.ChangeShapes Go.WideShapes Go.ChangeAt Go.RowKit
namespace Wf
set_option maxRecDepth 100000 in
theorem lifted (os : Os) (started : os.Started) (H : Type) (enc : TypeId × Value → H) (F : Stop.Interp) :
    ReturnsInHanded {} Tryz.checked os 3 .any ((OpenSpec.ofChange Rows.writerFloatsSpec).preRow enc Tryz.prog Tryz.f3 Rows.writerFloatsRow.domain false Rows.writerFloatsRow.laid) (((OpenSpec.ofChange Rows.writerFloatsSpec).at F).post enc Tryz.prog Tryz.f3 false true false false) := by
  obtain ⟨x, hx⟩ := Option.isSome_iff_exists.1 (w_reads os enc)
  refine returnsInHanded_of_row (C := Tryz.checked) (s := (OpenSpec.ofChange Rows.writerFloatsSpec)) own started noInit3 Tryz.func3
    (witness_row (enc := enc) (C := Tryz.checked) (World.laidAll Tryz.prog os Rows.writerFloatsRow.laid) wargs (World.laidAll_os _ _ _) (w_shaped os) (okw3 os)
      (OpenSpec.preRow_of_cond 8 hx rfl (fun k hk => by cases hk) (sized3 os enc) (w_laid os))) ?_
  intro W base args ds gs before hval hW _ _ hsz hL hsh _
  exact contract H enc W base args ds gs before hval hW hsz hL hsh
set_option maxRecDepth 1000000 in
theorem said : Rows.WriterFloatsSaid :=
  OpenClaim.holds_of_cond (p := Tryz.pinned) (s := (OpenSpec.ofChange Rows.writerFloatsSpec)) (c := Rows.writerFloatsRow) 3 Tryz.f3 rfl rfl rfl rfl rfl rfl rfl ⟨rfl, rfl, rfl, rfl, rfl⟩ rfl rfl rfl rfl rfl funcNamed3 Tryz.func3 WfFacts.closed
    inst3 wrap3 (fun os started H enc _ F => by rw [OpenClaim.pre_eq_preRow]; exact lifted os started H enc F)
end Wf
theorem writerFloats_card : Rows.WriterFloatsCardSaid :=
  Claim7.holds_tied_plain_at .later [] _ _ _ _ Wf.said (fun _ h => by cases h) (by kernel_rfl) (fun _ h => by cases h) writerFloats_row_tie rfl ⟨rfl, rfl⟩ (by kernel_rfl) rfl Wf.plain (by kernel_rfl)
#print axioms writerFloats_card
end Go.Proofs.YtpjcdbjablijkaaGreatDoor
