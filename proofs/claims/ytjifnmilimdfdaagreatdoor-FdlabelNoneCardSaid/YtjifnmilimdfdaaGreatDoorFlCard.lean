/- FdlabelNone's card: the law answers true for every input that its row lets in. -/
import Derived.Test.YtjifnmilimdfdaaGreatDoorFlNone
import Derived.ProofKit
import Derived.Test.YtjifnmilimdfdaaGreatDoorFlWit
import Derived.Test.YtjifnmilimdfdaaGreatDoorFactsFl
namespace Go.Proofs.YtjifnmilimdfdaaGreatDoor
open Go Go.Proofs.YtjifnmilimdfdaaGreatDoor.Ab Go.ChangeShapes Go.WideShapes Go.ChangeAt Go.RowKit
namespace Fl
set_option maxRecDepth 100000 in
theorem lifted (os : Os) (started : os.Started) (H : Type) (enc : TypeId × Value → H) (F : Stop.Interp) :
    ReturnsInHanded {} Tryz.checked os 4 .any ((OpenSpec.ofChange Rows.fdlabelNoneSpec).preRow enc Tryz.prog Tryz.f4 Rows.fdlabelNoneRow.domain false Rows.fdlabelNoneRow.laid) (((OpenSpec.ofChange Rows.fdlabelNoneSpec).at F).post enc Tryz.prog Tryz.f4 false true false false) := by
  obtain ⟨x, hx⟩ := Option.isSome_iff_exists.1 (w_reads os enc)
  refine returnsInHanded_of_row (C := Tryz.checked) (s := OpenSpec.ofChange Rows.fdlabelNoneSpec) own started noInit4 Tryz.func4
    (witness_row (enc := enc) (C := Tryz.checked) (World.laidAll Tryz.prog os Rows.fdlabelNoneRow.laid) wargs (World.laidAll_os _ _ _) (w_shaped os) (okw4 os)
      (OpenSpec.preRow_of_cond 8 hx rfl (fun k hk => by cases hk) (sized4 os enc) (w_laid os))) ?_
  intro W base args ds gs before hval hW _ _ _ hL hsh _
  exact contract H enc W base args ds gs before hval hW hL hsh
set_option maxRecDepth 1000000 in
theorem said : Rows.FdlabelNoneSaid :=
  OpenClaim.holds_of_cond (p := Tryz.pinned) (s := OpenSpec.ofChange Rows.fdlabelNoneSpec) (c := Rows.fdlabelNoneRow) 4 Tryz.f4 rfl rfl rfl rfl rfl rfl rfl ⟨rfl, rfl, rfl, rfl, rfl⟩ rfl rfl rfl rfl rfl funcNamed4 Tryz.func4 FlFacts.closed
    inst4 wrap4 (fun os started H enc _ F => by rw [OpenClaim.pre_eq_preRow]; exact lifted os started H enc F)
end Fl
theorem fdlabelNone_card : Rows.FdlabelNoneCardSaid :=
  Claim7.holds_tied_plain_at .later [] _ _ _ _ Fl.said (fun _ h => by cases h) (by kernel_rfl) (fun _ h => by cases h) fdlabelNone_row_tie rfl ⟨rfl, rfl⟩ (by kernel_rfl) rfl Fl.plain (by kernel_rfl)
#print axioms fdlabelNone_card
end Go.Proofs.YtjifnmilimdfdaaGreatDoor
