/- LexerWhole's card, second form: a whole text falls into the tokens that the document says: the law answers true for every input of bulk at most 1048576 that its row lets in. -/
import Derived.Test.YteegpmimbbgdlaaGreatDoorWhNone
import Derived.ProofKit
import Derived.Test.YteegpmimbbgdlaaGreatDoorWhWit
import Derived.Test.YteegpmimbbgdlaaGreatDoorFactsWh
namespace Go.Proofs.YteegpmimbbgdlaaGreatDoor
open Go Go.Proofs.YteegpmimbbgdlaaGreatDoor.Ab Go.ChangeShapes Go.WideShapes Go.ChangeAt Go.RowKit
namespace Wh
set_option maxRecDepth 100000 in
theorem lifted (os : Os) (started : os.Started) (H : Type) (enc : TypeId × Value → H) (F : Stop.Interp) :
    ReturnsInHanded {} Tryz.checked os 10 .any ((Rows.OpenSpec.upto Rows.lexerWholeSpec).preRow enc Tryz.prog Tryz.f10 Rows.lexerWholeUptoRow.domain false Rows.lexerWholeUptoRow.laid) (((Rows.OpenSpec.upto Rows.lexerWholeSpec).at F).post enc Tryz.prog Tryz.f10 false true false false) := by
  obtain ⟨x, hx⟩ := Option.isSome_iff_exists.1 (w_reads os enc)
  have hsm := w_small os enc
  rw [hx] at hsm
  refine returnsInHanded_of_row (C := Tryz.checked) (s := (Rows.OpenSpec.upto Rows.lexerWholeSpec)) own started noInit10 Tryz.func10
    (witness_row (enc := enc) (C := Tryz.checked) (World.laidAll Tryz.prog os Rows.lexerWholeUptoRow.laid) wargs (World.laidAll_os _ _ _) (w_shaped os) (okw10 os)
      (OpenSpec.preRow_of_cond 8 hx rfl (fun k hk => by cases hk; exact hsm) (sized10 os enc) (w_laid os))) ?_
  intro W base args ds gs before hval hW _ hk hsz hL hsh _
  exact contract H enc W base args ds gs before hval hW (hk _ rfl) hL hsh
set_option maxRecDepth 1000000 in
theorem said : Rows.LexerWholeUptoSaid :=
  OpenClaim.holds_of_cond (p := Tryz.pinned) (s := (Rows.OpenSpec.upto Rows.lexerWholeSpec)) (c := Rows.lexerWholeUptoRow) 10 Tryz.f10 rfl rfl rfl rfl rfl rfl rfl ⟨rfl, rfl, rfl, rfl, rfl⟩ rfl rfl rfl rfl rfl funcNamed10 Tryz.func10 WhFacts.closed
    inst10 wrap10 (fun os started H enc _ F => by rw [OpenClaim.pre_eq_preRow]; exact lifted os started H enc F)
end Wh
theorem lexerWholeUpto_card : Rows.LexerWholeUptoCardSaid :=
  Claim7.holds_tied_plain_at .later [] _ _ _ _ Wh.said (fun _ h => by cases h) (by kernel_rfl) (fun _ h => by cases h) lexerWholeUpto_row_tie rfl ⟨rfl, rfl⟩ (by kernel_rfl) rfl Wh.plain (by kernel_rfl)
#print axioms lexerWholeUpto_card
end Go.Proofs.YteegpmimbbgdlaaGreatDoor
