/- ParserSound's card, second form: whatever is read is a term that may be, its variables numbered as they stand, each name once: the law answers true for every input of bulk at most 1048576 that its row lets in. -/
import Derived.Test.YtpocgkiamgipdaaGreatDoorSxWit
import Derived.Test.YtpocgkiamgipdaaGreatDoorFactsSx
namespace Go.Proofs.YtpocgkiamgipdaaGreatDoor
open Go Go.Proofs.YtpocgkiamgipdaaGreatDoor.Ab Go.ChangeShapes Go.WideShapes Go.ChangeAt Go.RowKit
namespace Sx
set_option maxRecDepth 100000 in
theorem lifted (os:Os) (started:os.Started) (H:Type) (enc:TypeId×Value→H) (F:Stop.Interp):
  ReturnsInHanded {} Tryz.checked os 3 .any ((Rows.OpenSpec.upto Rows.parserSoundSpec).preRow enc Tryz.prog Tryz.f3 Rows.parserSoundUptoRow.domain false Rows.parserSoundUptoRow.laid) (((Rows.OpenSpec.upto Rows.parserSoundSpec).at F).post enc Tryz.prog Tryz.f3 false true false false):=by
 obtain⟨x,hx⟩:=Option.isSome_iff_exists.1 (lQ os enc)
 have hsm:=lS os enc
 rw[hx]at hsm
 refine returnsInHanded_of_row (C:=Tryz.checked) (s:=(Rows.OpenSpec.upto Rows.parserSoundSpec)) own started lR Tryz.func3
  (Ab.lN (enc:=enc) (C:=Tryz.checked) (World.laidAll Tryz.prog os Rows.parserSoundUptoRow.laid) lL (World.laidAll_os _ _ _) (lO os) (lX os)
   (OpenSpec.preRow_of_cond 8 hx rfl (fun k hk=>by cases hk;exact hsm) (lT os enc) (lU os))) ?_
 intro W base args ds gs before hval hW _ hk hsz hL hsh _
 exact ix H enc W base args ds gs before hval hW (hk _ rfl) hL hsh
set_option maxRecDepth 1000000 in
theorem said:Rows.ParserSoundUptoSaid:=
 OpenClaim.holds_of_cond (p:=Tryz.pinned) (s:=(Rows.OpenSpec.upto Rows.parserSoundSpec)) (c:=Rows.parserSoundUptoRow) 3 Tryz.f3 rfl rfl rfl rfl rfl rfl rfl ⟨rfl,rfl,rfl,rfl,rfl⟩ rfl rfl rfl rfl rfl lM Tryz.func3 SxFacts.closed
  lW lV (fun os started H enc _ F=>by rw[OpenClaim.pre_eq_preRow];exact lifted os started H enc F)
end Sx
theorem parserSoundUpto_card:Rows.ParserSoundUptoCardSaid:=
 Claim7.holds_tied_plain_at .later [] _ _ _ _ Sx.said (fun _ h=>by cases h) (by kernel_rfl) (fun _ h=>by cases h) parserSoundUpto_row_tie rfl ⟨rfl,rfl⟩ (by kernel_rfl) rfl Sx.plain (by kernel_rfl)
end Go.Proofs.YtpocgkiamgipdaaGreatDoor
