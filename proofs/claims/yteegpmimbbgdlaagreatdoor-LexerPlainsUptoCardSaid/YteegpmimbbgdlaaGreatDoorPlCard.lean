/- LexerPlains's card, second form: a name needs no quotes just where the document says so: the law answers true for every input of bulk at most 1048576 that its row lets in. -/
import Derived.Test.YteegpmimbbgdlaaGreatDoorPlNone
import Derived.ProofKit
import Derived.Test.YteegpmimbbgdlaaGreatDoorPlWit
import Derived.Test.YteegpmimbbgdlaaGreatDoorFactsPl
namespace Go.Proofs.YteegpmimbbgdlaaGreatDoor
open Go Go.Proofs.YteegpmimbbgdlaaGreatDoor.Ab Go.ChangeShapes Go.WideShapes Go.ChangeAt Go.RowKit
namespace Pl
set_option maxRecDepth 100000 in
theorem lifted (os : Os) (started : os.Started) (H : Type) (enc : TypeId × Value → H) (F : Stop.Interp) :
    ReturnsInHanded {} Tryz.checked os 4 .any ((Rows.OpenSpec.upto Rows.lexerPlainsSpec).preRow enc Tryz.prog Tryz.f4 Rows.lexerPlainsUptoRow.domain false Rows.lexerPlainsUptoRow.laid) (((Rows.OpenSpec.upto Rows.lexerPlainsSpec).at F).post enc Tryz.prog Tryz.f4 false true false false) := by
  obtain ⟨x, hx⟩ := Option.isSome_iff_exists.1 (w_reads os enc)
  have hsm := w_small os enc
  rw [hx] at hsm
  refine returnsInHanded_of_row (C := Tryz.checked) (s := (Rows.OpenSpec.upto Rows.lexerPlainsSpec)) own started noInit4 Tryz.func4
    (witness_row (enc := enc) (C := Tryz.checked) (World.laidAll Tryz.prog os Rows.lexerPlainsUptoRow.laid) wargs (World.laidAll_os _ _ _) (w_shaped os) (okw4 os)
      (OpenSpec.preRow_of_cond 8 hx rfl (fun k hk => by cases hk; exact hsm) (sized4 os enc) (w_laid os))) ?_
  intro W base args ds gs before hval hW _ hk hsz hL hsh _
  exact contract H enc W base args ds gs before hval hW (hk _ rfl) hL hsh
set_option maxRecDepth 1000000 in
theorem said : Rows.LexerPlainsUptoSaid :=
  OpenClaim.holds_of_cond (p := Tryz.pinned) (s := (Rows.OpenSpec.upto Rows.lexerPlainsSpec)) (c := Rows.lexerPlainsUptoRow) 4 Tryz.f4 rfl rfl rfl rfl rfl rfl rfl ⟨rfl, rfl, rfl, rfl, rfl⟩ rfl rfl rfl rfl rfl funcNamed4 Tryz.func4 PlFacts.closed
    inst4 wrap4 (fun os started H enc _ F => by rw [OpenClaim.pre_eq_preRow]; exact lifted os started H enc F)
end Pl
theorem lexerPlainsUpto_card : Rows.LexerPlainsUptoCardSaid :=
  Claim7.holds_tied_plain_at .later [] _ _ _ _ Pl.said (fun _ h => by cases h) (by kernel_rfl) (fun _ h => by cases h) lexerPlainsUpto_row_tie rfl ⟨rfl, rfl⟩ (by kernel_rfl) rfl Pl.plain (by kernel_rfl)
#print axioms lexerPlainsUpto_card
end Go.Proofs.YteegpmimbbgdlaaGreatDoor
