/- The law ParserSkips: the next end of a clause is where the document says. -/
import Derived.Test.YtnipmfaikiaipaaGreatDoorPsRun
import Derived.Test.YtnipmfaikiaipaaGreatDoorPsWalk
namespace Go.Proofs
open Go.RowKit Go.Ps Go.Proofs.YtnipmfaikiaipaaGreatDoor
set_option maxRecDepth 100000 in
set_option maxHeartbeats 4000000 in
theorem lawSkipsAt (s : ByteArray) (z : Int) (W : World) (hs : s.size ≤ 4611686018427387904) (_ : (Lit.int .i64 z).wf = true) (hL : laidMet Tryz.prog Rows.parserSkipsRow.laid W) (hsh : W.ShapedOpen Tryz.prog) :
    Calls Tryz.prog 3 #[.string s, .int .i64 z] W fun e W' => e = .returned (.bool true) ∧ Below W.heap.size W W' := by
  have A := awake5_calls hL hsh
  obtain ⟨r, hr⟩ : ∃ r, r = skipE s z.toNat := ⟨_, rfl⟩
  have C1 : Hid (∀ w, Calls Tryz.prog 7 #[.string s, .int .i64 z] w (SkipSays r w)) := Lib.hid fun w => by rw [hr]; exact Tryz.pskip s z w hs
  have C2 : Hid (∀ w, Calls Tryz.prog 8 #[.string s, .int .i64 z] w (SkipSays r w)) := Lib.hid fun w => by rw [hr]; exact Tryz.rskip5 s z w hs
  have HA := Lib.hid A
  clear A hL hsh hr
  go_enter Tryz.func3, Tryz.ntmps3
  go_wp2_with (go_at_call 6; (with_reducible refine HA.out.mono ?_))
  rintro e W1 ⟨rfl, hb⟩
  go_wp2_with (first | (go_at_call 7; (with_reducible refine (C1.out _).mono ?_); rintro e w1 ⟨rfl, rfl⟩) | (go_at_call 8; (with_reducible refine (C2.out _).mono ?_); rintro e w1 ⟨rfl, rfl⟩))
  go_ret
  exact ⟨by simp, hb⟩
end Go.Proofs
