/- LexerTells's card, second form: each token of each text is what the document says: the law answers true for every input of bulk at most 1048576 that its row lets in. -/
import Derived.Test.YteegpmimbbgdlaaGreatDoorTbn
import Derived.Test.YteegpmimbbgdlaaGreatDoorTbo
import Derived.Test.YteegpmimbbgdlaaGreatDoorTbp
import Derived.ProofKit
namespace Go.Proofs.YteegpmimbbgdlaaGreatDoor
open Go Go.Proofs.YteegpmimbbgdlaaGreatDoor.Ab Go.ChangeShapes Go.WideShapes Go.ChangeAt Go.RowKit
namespace Tl
set_option maxRecDepth 100000 in
theorem lifted (os : Os) (started : os.Started) (H : Type) (enc : TypeId × Value → H) (F : Stop.Interp) :
 ReturnsInHanded {} Tryz.checked os 3 .any ((Rows.OpenSpec.upto Rows.lexerTellsSpec).preRow enc Tryz.prog Tryz.f3 Rows.lexerTellsUptoRow.domain false Rows.lexerTellsUptoRow.laid) (((Rows.OpenSpec.upto Rows.lexerTellsSpec).at F).post enc Tryz.prog Tryz.f3 false true false false) := by
 obtain ⟨x, hx⟩ := Option.isSome_iff_exists.1 (w_reads os enc)
 have hsm := w_small os enc
 rw [hx] at hsm
 refine returnsInHanded_of_row (C := Tryz.checked) (s := (Rows.OpenSpec.upto Rows.lexerTellsSpec)) own started noInit3 Tryz.func3
  (witness_row (enc := enc) (C := Tryz.checked) (World.laidAll Tryz.prog os Rows.lexerTellsUptoRow.laid) wargs (World.laidAll_os _ _ _) (w_shaped os) (okw3 os)
   (OpenSpec.preRow_of_cond 8 hx rfl (fun k hk => by cases hk; exact hsm) (sized3 os enc) (w_laid os))) ?_
 intro W base args ds gs before hval hW _ hk hsz hL hsh _
 exact contract H enc W base args ds gs before hval hW (hk _ rfl) hL hsh
set_option maxRecDepth 1000000 in
theorem said : Rows.LexerTellsUptoSaid :=
 OpenClaim.holds_of_cond (p := Tryz.pinned) (s := (Rows.OpenSpec.upto Rows.lexerTellsSpec)) (c := Rows.lexerTellsUptoRow) 3 Tryz.f3 rfl rfl rfl rfl rfl rfl rfl ⟨rfl, rfl, rfl, rfl, rfl⟩ rfl rfl rfl rfl rfl funcNamed3 Tryz.func3 TlFacts.closed
  inst3 wrap3 (fun os started H enc _ F => by rw [OpenClaim.pre_eq_preRow]; exact lifted os started H enc F)
end Tl
theorem lexerTellsUpto_card : Rows.LexerTellsUptoCardSaid :=
 Claim7.holds_tied_plain_at .later [] _ _ _ _ Tl.said (fun _ h => by cases h) (by kernel_rfl) (fun _ h => by cases h) lexerTellsUpto_row_tie rfl ⟨rfl, rfl⟩ (by kernel_rfl) rfl Tl.plain (by kernel_rfl)
end Go.Proofs.YteegpmimbbgdlaaGreatDoor
