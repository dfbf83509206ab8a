/- WriterAtoms's card, second form: any name is written as the document says: the law answers true for every input of bulk at most 1048576 that its row lets in. -/
import Derived.Test.YtnipmfaikiaipaaGreatDoorWaWit
import Derived.Test.YtnipmfaikiaipaaGreatDoorFactsWa
namespace Go.Proofs.YtnipmfaikiaipaaGreatDoor
open Go Go.Proofs.YtnipmfaikiaipaaGreatDoor.Ab Go.ChangeShapes Go.WideShapes Go.ChangeAt Go.RowKit
namespace Wa
set_option maxRecDepth 100000 in
theorem lifted (os : Os) (started : os.Started) (H : Type) (enc : TypeId × Value → H) (F : Stop.Interp) :
    ReturnsInHanded {} Tryz.checked os 4 .any ((Rows.OpenSpec.upto Rows.writerAtomsSpec).preRow enc Tryz.prog Tryz.f4 Rows.writerAtomsUptoRow.domain false Rows.writerAtomsUptoRow.laid) (((Rows.OpenSpec.upto Rows.writerAtomsSpec).at F).post enc Tryz.prog Tryz.f4 false true false false) := by
  obtain ⟨x, hx⟩ := Option.isSome_iff_exists.1 (gm os enc)
  have hsm := gq os enc
  rw [hx] at hsm
  refine returnsInHanded_of_row (C := Tryz.checked) (s := (Rows.OpenSpec.upto Rows.writerAtomsSpec)) own started gp Tryz.func4
    (Zo (enc := enc) (C := Tryz.checked) (World.laidAll Tryz.prog os Rows.writerAtomsUptoRow.laid) gQ (World.laidAll_os _ _ _) (gV os) (gz os)
      (OpenSpec.preRow_of_cond 8 hx rfl (fun k hk => by cases hk; exact hsm) (gr os enc) (gu os))) ?_
  intro W base args ds gs before hval hW _ hk hsz hL hsh _
  exact contract H enc W base args ds gs before hval hW (hk _ rfl) hL hsh
set_option maxRecDepth 1000000 in
theorem said : Rows.WriterAtomsUptoSaid :=
  OpenClaim.holds_of_cond (p := Tryz.pinned) (s := (Rows.OpenSpec.upto Rows.writerAtomsSpec)) (c := Rows.writerAtomsUptoRow) 4 Tryz.f4 rfl rfl rfl rfl rfl rfl rfl ⟨rfl, rfl, rfl, rfl, rfl⟩ rfl rfl rfl rfl rfl gS Tryz.func4 WaFacts.closed
    gx gv (fun os started H enc _ F => by rw [OpenClaim.pre_eq_preRow]; exact lifted os started H enc F)
end Wa
theorem writerAtomsUpto_card : Rows.WriterAtomsUptoCardSaid :=
  Claim7.holds_tied_plain_at .later [] _ _ _ _ Wa.said (fun _ h => by cases h) (by kernel_rfl) (fun _ h => by cases h) writerAtomsUpto_row_tie rfl ⟨rfl, rfl⟩ (by kernel_rfl) rfl Wa.plain (by kernel_rfl)
#print axioms writerAtomsUpto_card
end Go.Proofs.YtnipmfaikiaipaaGreatDoor
