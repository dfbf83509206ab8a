/- LexerTiles's card, second form: tokens lie one behind the other with layout alone between: the law answers true for every input of bulk at most 1048576 that its row lets in. -/
import Derived.Test.YteegpmimbbgdlaaGreatDoorTiNone
import Derived.ProofKit
import Derived.Test.YteegpmimbbgdlaaGreatDoorTiWit
import Derived.Test.YteegpmimbbgdlaaGreatDoorFactsTi
namespace Go.Proofs.YteegpmimbbgdlaaGreatDoor
open Go Go.Proofs.YteegpmimbbgdlaaGreatDoor.Ab Go.ChangeShapes Go.WideShapes Go.ChangeAt Go.RowKit
namespace Ti
set_option maxRecDepth 100000 in
theorem lifted (os : Os) (started : os.Started) (H : Type) (enc : TypeId × Value → H) (F : Stop.Interp) :
    ReturnsInHanded {} Tryz.checked os 5 .any ((Rows.OpenSpec.upto Rows.lexerTilesSpec).preRow enc Tryz.prog Tryz.f5 Rows.lexerTilesUptoRow.domain false Rows.lexerTilesUptoRow.laid) (((Rows.OpenSpec.upto Rows.lexerTilesSpec).at F).post enc Tryz.prog Tryz.f5 false true false false) := by
  obtain ⟨x, hx⟩ := Option.isSome_iff_exists.1 (w_reads os enc)
  have hsm := w_small os enc
  rw [hx] at hsm
  refine returnsInHanded_of_row (C := Tryz.checked) (s := (Rows.OpenSpec.upto Rows.lexerTilesSpec)) own started noInit5 Tryz.func5
    (witness_row (enc := enc) (C := Tryz.checked) (World.laidAll Tryz.prog os Rows.lexerTilesUptoRow.laid) wargs (World.laidAll_os _ _ _) (w_shaped os) (okw5 os)
      (OpenSpec.preRow_of_cond 8 hx rfl (fun k hk => by cases hk; exact hsm) (sized5 os enc) (w_laid os))) ?_
  intro W base args ds gs before hval hW _ hk hsz hL hsh _
  exact contract H enc W base args ds gs before hval hW (hk _ rfl) hL hsh
set_option maxRecDepth 1000000 in
theorem said : Rows.LexerTilesUptoSaid :=
  OpenClaim.holds_of_cond (p := Tryz.pinned) (s := (Rows.OpenSpec.upto Rows.lexerTilesSpec)) (c := Rows.lexerTilesUptoRow) 5 Tryz.f5 rfl rfl rfl rfl rfl rfl rfl ⟨rfl, rfl, rfl, rfl, rfl⟩ rfl rfl rfl rfl rfl funcNamed5 Tryz.func5 TiFacts.closed
    inst5 wrap5 (fun os started H enc _ F => by rw [OpenClaim.pre_eq_preRow]; exact lifted os started H enc F)
end Ti
theorem lexerTilesUpto_card : Rows.LexerTilesUptoCardSaid :=
  Claim7.holds_tied_plain_at .later [] _ _ _ _ Ti.said (fun _ h => by cases h) (by kernel_rfl) (fun _ h => by cases h) lexerTilesUpto_row_tie rfl ⟨rfl, rfl⟩ (by kernel_rfl) rfl Ti.plain (by kernel_rfl)
#print axioms lexerTilesUpto_card
end Go.Proofs.YteegpmimbbgdlaaGreatDoor
