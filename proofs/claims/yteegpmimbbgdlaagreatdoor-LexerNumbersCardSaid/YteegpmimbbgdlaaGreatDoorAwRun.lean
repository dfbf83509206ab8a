/- The chapter's examples (awake), by the reading: true. -/
import Derived.Test.YteegpmimbbgdlaaGreatDoorEnv
import Derived.Test.YteegpmimbbgdlaaGreatDoorWrap
import Derived.Test.YteegpmimbbgdlaaGreatDoorRows
namespace Go.Proofs.YteegpmimbbgdlaaGreatDoor
open Go Go.Proofs.YteegpmimbbgdlaaGreatDoor.Ab Go.RowKit
set_option maxRecDepth 1000000 in
theorem awake_run : saysTrue ((ev env 100000).call 11 [] (seed env.P Rows.lexerQuotesRow.laid env.ro [])) = true := by kernel_rfl
theorem awake_calls {W : World} (hL : laidMet Tryz.prog Rows.lexerQuotesRow.laid W) (hsh : W.ShapedOpen Tryz.prog) : Calls Tryz.prog 11 #[] W fun e W' => e = .returned (.bool true) ∧ Below W.heap.size W W' := by
  obtain ⟨st', h⟩ := saysTrue_spec awake_run
  obtain ⟨c, hc⟩ : ∃ c, Tryz.f11.body = some c := ⟨_, rfl⟩
  refine (ev_calls (E := env) (σ := Rho.no.sg) fits rfl (Nat.le_refl _) rows_ok Tryz.func11 hc (fx := []) (fun p hp => by cases hp) h hL hsh .nil).mono fun e W' ⟨q, ρ, h1, h2, h3⟩ => ?_
  cases h2
  exact ⟨h1, h3⟩
end Go.Proofs.YteegpmimbbgdlaaGreatDoor
