/- The chapter's examples (parser's awake), by the reading: true. -/
import Derived.Test.YtnipmfaikiaipaaGreatDoorEnv
import Derived.Test.YtnipmfaikiaipaaGreatDoorWrap
import Derived.Test.YtnipmfaikiaipaaGreatDoorRows
namespace Go.Proofs.YtnipmfaikiaipaaGreatDoor
open Go Go.Proofs.YtnipmfaikiaipaaGreatDoor.Ab Go.RowKit
set_option maxRecDepth 1000000 in
theorem awake5_run : saysTrue ((ev env 100000).call 6 [] (seed env.P Rows.parserSkipsRow.laid env.ro [])) = true := by kernel_rfl
theorem awake5_calls {W : World} (hL : laidMet Tryz.prog Rows.parserSkipsRow.laid W) (hsh : W.ShapedOpen Tryz.prog) : Calls Tryz.prog 6 #[] W fun e W' => e = .returned (.bool true) ∧ Below W.heap.size W W' := by
  obtain ⟨st', h⟩ := saysTrue_spec awake5_run
  obtain ⟨c, hc⟩ : ∃ c, Tryz.f6.body = some c := ⟨_, rfl⟩
  refine (ev_calls (E := env) (σ := Rho.no.sg) fits rfl (Nat.le_refl _) rows_ok Tryz.func6 hc (fx := []) (fun p hp => by cases hp) h hL hsh .nil).mono fun e W' ⟨q, ρ, h1, h2, h3⟩ => ?_
  cases h2
  exact ⟨h1, h3⟩
end Go.Proofs.YtnipmfaikiaipaaGreatDoor
