/- ParserSpaced's card, second form: layout and comments of another kind between the tokens change nothing but places: the law answers true for every input of bulk at most 1048576 that its row lets in. -/
import Derived.Test.YtpocgkiamgipdaaGreatDoorSyWit
import Derived.Test.YtpocgkiamgipdaaGreatDoorFactsSy
namespace Go.Proofs.YtpocgkiamgipdaaGreatDoor
open Go Go.Proofs.YtpocgkiamgipdaaGreatDoor.Ab Go.ChangeShapes Go.WideShapes Go.ChangeAt Go.RowKit
namespace Sy
set_option maxRecDepth 100000 in
theorem lifted (os:Os) (started:os.Started) (H:Type) (enc:TypeId×Value→H) (F:Stop.Interp):
  ReturnsInHanded {} Tryz.checked os 4 .any ((Rows.OpenSpec.upto Rows.parserSpacedSpec).preRow enc Tryz.prog Tryz.f4 Rows.parserSpacedUptoRow.domain false Rows.parserSpacedUptoRow.laid) (((Rows.OpenSpec.upto Rows.parserSpacedSpec).at F).post enc Tryz.prog Tryz.f4 false true false false):=by
 obtain⟨x,hx⟩:=Option.isSome_iff_exists.1 (lQ os enc)
 have hsm:=lS os enc
 rw[hx]at hsm
 refine returnsInHanded_of_row (C:=Tryz.checked) (s:=(Rows.OpenSpec.upto Rows.parserSpacedSpec)) own started ABt Tryz.func4
  (Ab.lN (enc:=enc) (C:=Tryz.checked) (World.laidAll Tryz.prog os Rows.parserSpacedUptoRow.laid) lL (World.laidAll_os _ _ _) (lO os) (ACP os)
   (OpenSpec.preRow_of_cond 8 hx rfl (fun k hk=>by cases hk;exact hsm) (AB8 os enc) (lU os))) ?_
 intro W base args ds gs before hval hW _ hk hsz hL hsh _
 exact ix H enc W base args ds gs before hval hW (hk _ rfl) hL hsh
set_option maxRecDepth 1000000 in
theorem said:Rows.ParserSpacedUptoSaid:=
 OpenClaim.holds_of_cond (p:=Tryz.pinned) (s:=(Rows.OpenSpec.upto Rows.parserSpacedSpec)) (c:=Rows.parserSpacedUptoRow) 4 Tryz.f4 rfl rfl rfl rfl rfl rfl rfl ⟨rfl,rfl,rfl,rfl,rfl⟩ rfl rfl rfl rfl rfl AAW Tryz.func4 SyFacts.closed
  ACL ACG (fun os started H enc _ F=>by rw[OpenClaim.pre_eq_preRow];exact lifted os started H enc F)
end Sy
theorem parserSpacedUpto_card:Rows.ParserSpacedUptoCardSaid:=
 Claim7.holds_tied_plain_at .later [] _ _ _ _ Sy.said (fun _ h=>by cases h) (by kernel_rfl) (fun _ h=>by cases h) parserSpacedUpto_row_tie rfl ⟨rfl,rfl⟩ (by kernel_rfl) rfl Sy.plain (by kernel_rfl)
end Go.Proofs.YtpocgkiamgipdaaGreatDoor
