/- FdpropNone's card: the law answers true for every input that its row lets in. -/
import Derived.Test.YtjifnmilimdfdaaGreatDoorFnNone
import Derived.ProofKit
import Derived.Test.YtjifnmilimdfdaaGreatDoorFnWit
import Derived.Test.YtjifnmilimdfdaaGreatDoorFactsFn
namespace Go.Proofs.YtjifnmilimdfdaaGreatDoor
open Go Go.Proofs.YtjifnmilimdfdaaGreatDoor.Ab Go.ChangeShapes Go.WideShapes Go.ChangeAt Go.RowKit
namespace Fn
set_option maxRecDepth 100000 in
theorem lifted (os : Os) (started : os.Started) (H : Type) (enc : TypeId × Value → H) (F : Stop.Interp) :
    ReturnsInHanded {} Tryz.checked os 3 .any ((OpenSpec.ofChange Rows.fdpropNoneSpec).preRow enc Tryz.prog Tryz.f3 Rows.fdpropNoneRow.domain false Rows.fdpropNoneRow.laid) (((OpenSpec.ofChange Rows.fdpropNoneSpec).at F).post enc Tryz.prog Tryz.f3 false true false false) := by
  obtain ⟨x, hx⟩ := Option.isSome_iff_exists.1 (w_reads os enc)
  refine returnsInHanded_of_row (C := Tryz.checked) (s := OpenSpec.ofChange Rows.fdpropNoneSpec) own started noInit3 Tryz.func3
    (witness_row (enc := enc) (C := Tryz.checked) (World.laidAll Tryz.prog os Rows.fdpropNoneRow.laid) wargs (World.laidAll_os _ _ _) (w_shaped os) (okw3 os)
      (OpenSpec.preRow_of_cond 8 hx rfl (fun k hk => by cases hk) (sized3 os enc) (w_laid os))) ?_
  intro W base args ds gs before hval hW _ _ _ hL hsh _
  exact contract H enc W base args ds gs before hval hW hL hsh
set_option maxRecDepth 1000000 in
theorem said : Rows.FdpropNoneSaid :=
  OpenClaim.holds_of_cond (p := Tryz.pinned) (s := OpenSpec.ofChange Rows.fdpropNoneSpec) (c := Rows.fdpropNoneRow) 3 Tryz.f3 rfl rfl rfl rfl rfl rfl rfl ⟨rfl, rfl, rfl, rfl, rfl⟩ rfl rfl rfl rfl rfl funcNamed3 Tryz.func3 FnFacts.closed
    inst3 wrap3 (fun os started H enc _ F => by rw [OpenClaim.pre_eq_preRow]; exact lifted os started H enc F)
end Fn
theorem fdpropNone_card : Rows.FdpropNoneCardSaid :=
  Claim7.holds_tied_plain_at .later [] _ _ _ _ Fn.said (fun _ h => by cases h) (by kernel_rfl) (fun _ h => by cases h) fdpropNone_row_tie rfl ⟨rfl, rfl⟩ (by kernel_rfl) rfl Fn.plain (by kernel_rfl)
#print axioms fdpropNone_card
end Go.Proofs.YtjifnmilimdfdaaGreatDoor
