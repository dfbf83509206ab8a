/- LexerJoins's card, second form: two texts with a line's end between fall into the tokens of both: the law answers true for every input of bulk at most 1048576 that its row lets in. -/
import Derived.Test.YteegpmimbbgdlaaGreatDoorJoNone
import Derived.ProofKit
import Derived.Test.YteegpmimbbgdlaaGreatDoorJoWit
import Derived.Test.YteegpmimbbgdlaaGreatDoorFactsJo
namespace Go.Proofs.YteegpmimbbgdlaaGreatDoor
open Go Go.Proofs.YteegpmimbbgdlaaGreatDoor.Ab Go.ChangeShapes Go.WideShapes Go.ChangeAt Go.RowKit
namespace Jo
set_option maxRecDepth 100000 in
theorem lifted (os : Os) (started : os.Started) (H : Type) (enc : TypeId × Value → H) (F : Stop.Interp) :
    ReturnsInHanded {} Tryz.checked os 6 .any ((Rows.OpenSpec.upto Rows.lexerJoinsSpec).preRow enc Tryz.prog Tryz.f6 Rows.lexerJoinsUptoRow.domain false Rows.lexerJoinsUptoRow.laid) (((Rows.OpenSpec.upto Rows.lexerJoinsSpec).at F).post enc Tryz.prog Tryz.f6 false true false false) := by
  obtain ⟨x, hx⟩ := Option.isSome_iff_exists.1 (w_reads os enc)
  have hsm := w_small os enc
  rw [hx] at hsm
  refine returnsInHanded_of_row (C := Tryz.checked) (s := (Rows.OpenSpec.upto Rows.lexerJoinsSpec)) own started noInit6 Tryz.func6
    (witness_row (enc := enc) (C := Tryz.checked) (World.laidAll Tryz.prog os Rows.lexerJoinsUptoRow.laid) wargs (World.laidAll_os _ _ _) (w_shaped os) (okw6 os)
      (OpenSpec.preRow_of_cond 8 hx rfl (fun k hk => by cases hk; exact hsm) (sized6 os enc) (w_laid os))) ?_
  intro W base args ds gs before hval hW _ hk hsz hL hsh _
  exact contract H enc W base args ds gs before hval hW (hk _ rfl) hL hsh
set_option maxRecDepth 1000000 in
theorem said : Rows.LexerJoinsUptoSaid :=
  OpenClaim.holds_of_cond (p := Tryz.pinned) (s := (Rows.OpenSpec.upto Rows.lexerJoinsSpec)) (c := Rows.lexerJoinsUptoRow) 6 Tryz.f6 rfl rfl rfl rfl rfl rfl rfl ⟨rfl, rfl, rfl, rfl, rfl⟩ rfl rfl rfl rfl rfl funcNamed6 Tryz.func6 JoFacts.closed
    inst6 wrap6 (fun os started H enc _ F => by rw [OpenClaim.pre_eq_preRow]; exact lifted os started H enc F)
end Jo
theorem lexerJoinsUpto_card : Rows.LexerJoinsUptoCardSaid :=
  Claim7.holds_tied_plain_at .later [] _ _ _ _ Jo.said (fun _ h => by cases h) (by kernel_rfl) (fun _ h => by cases h) lexerJoinsUpto_row_tie rfl ⟨rfl, rfl⟩ (by kernel_rfl) rfl Jo.plain (by kernel_rfl)
#print axioms lexerJoinsUpto_card
end Go.Proofs.YteegpmimbbgdlaaGreatDoor
