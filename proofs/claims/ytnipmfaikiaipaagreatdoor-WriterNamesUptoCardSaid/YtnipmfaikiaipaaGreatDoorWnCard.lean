/- WriterNames's card, second form: a name that is written is one token, which is that name: the law answers true for every input of bulk at most 1048576 that its row lets in. -/
import Derived.Test.YtnipmfaikiaipaaGreatDoorWnNone
import Derived.ProofKit
import Derived.Test.YtnipmfaikiaipaaGreatDoorWnWit
import Derived.Test.YtnipmfaikiaipaaGreatDoorFactsWn
namespace Go.Proofs.YtnipmfaikiaipaaGreatDoor
open Go Go.Proofs.YtnipmfaikiaipaaGreatDoor.Ab Go.ChangeShapes Go.WideShapes Go.ChangeAt Go.RowKit
namespace Wn
set_option maxRecDepth 100000 in
theorem lifted (os : Os) (started : os.Started) (H : Type) (enc : TypeId × Value → H) (F : Stop.Interp) :
    ReturnsInHanded {} Tryz.checked os 5 .any ((Rows.OpenSpec.upto Rows.writerNamesSpec).preRow enc Tryz.prog Tryz.f5 Rows.writerNamesUptoRow.domain false Rows.writerNamesUptoRow.laid) (((Rows.OpenSpec.upto Rows.writerNamesSpec).at F).post enc Tryz.prog Tryz.f5 false true false false) := by
  obtain ⟨x, hx⟩ := Option.isSome_iff_exists.1 (w_reads os enc)
  have hsm := w_small os enc
  rw [hx] at hsm
  refine returnsInHanded_of_row (C := Tryz.checked) (s := (Rows.OpenSpec.upto Rows.writerNamesSpec)) own started noInit5 Tryz.func5
    (witness_row (enc := enc) (C := Tryz.checked) (World.laidAll Tryz.prog os Rows.writerNamesUptoRow.laid) wargs (World.laidAll_os _ _ _) (w_shaped os) (okw5 os)
      (OpenSpec.preRow_of_cond 8 hx rfl (fun k hk => by cases hk; exact hsm) (sized5 os enc) (w_laid os))) ?_
  intro W base args ds gs before hval hW _ hk hsz hL hsh _
  exact contract H enc W base args ds gs before hval hW (hk _ rfl) hL hsh
set_option maxRecDepth 1000000 in
theorem said : Rows.WriterNamesUptoSaid :=
  OpenClaim.holds_of_cond (p := Tryz.pinned) (s := (Rows.OpenSpec.upto Rows.writerNamesSpec)) (c := Rows.writerNamesUptoRow) 5 Tryz.f5 rfl rfl rfl rfl rfl rfl rfl ⟨rfl, rfl, rfl, rfl, rfl⟩ rfl rfl rfl rfl rfl funcNamed5 Tryz.func5 WnFacts.closed
    inst5 wrap5 (fun os started H enc _ F => by rw [OpenClaim.pre_eq_preRow]; exact lifted os started H enc F)
end Wn
theorem writerNamesUpto_card : Rows.WriterNamesUptoCardSaid :=
  Claim7.holds_tied_plain_at .later [] _ _ _ _ Wn.said (fun _ h => by cases h) (by kernel_rfl) (fun _ h => by cases h) writerNamesUpto_row_tie rfl ⟨rfl, rfl⟩ (by kernel_rfl) rfl Wn.plain (by kernel_rfl)
#print axioms writerNamesUpto_card
end Go.Proofs.YtnipmfaikiaipaaGreatDoor
