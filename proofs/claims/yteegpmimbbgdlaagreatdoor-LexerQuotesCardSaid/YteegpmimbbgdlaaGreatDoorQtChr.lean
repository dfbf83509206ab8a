/- The walks of hornbeamref03.byteAt, May. -/
import Derived.Test.YteegpmimbbgdlaaGreatDoorQtPure2
import Derived.Test.YteegpmimbbgdlaaGreatDoorChecked
import Derived.WalkKit
import Derived.BigCall
import Derived.LoopTactic
import Derived.Lib.Hide
import Derived.Outline
namespace Go.Proofs
open Go.RowKit Go.Hb
theorem ret_u8 {a b : Int} (h : a = b) : Ending.returned (.int .u8 a) = .returned (.int .u8 b) := by rw [h]
set_option maxHeartbeats 400000 in
theorem Tryz.byteAt_in (s : ByteArray) (k : Nat) (w : World) (h : k < s.size) :
    Calls Tryz.prog 55 #[.string s, .int .i64 k] w fun e w' => e = .returned (.int .u8 (byt s k)) ∧ w' = w := by
  go_enter Tryz.func55, Tryz.ntmps55
  go_wp2
  go_ret
  exact ⟨ret_u8 (byt_in s k h).symm, rfl⟩
set_option maxHeartbeats 400000 in
theorem Tryz.byteAt_out (s : ByteArray) (k : Nat) (w : World) (h : s.size ≤ k) :
    Calls Tryz.prog 55 #[.string s, .int .i64 k] w fun e w' => e = .returned (.int .u8 (byt s k)) ∧ w' = w := by
  have h' : ¬ k < s.size := by omega
  go_enter Tryz.func55, Tryz.ntmps55
  go_wp2
  go_ret
  exact ⟨ret_u8 (byt_out s k h).symm, rfl⟩
theorem Tryz.byteAt (s : ByteArray) (k : Nat) (w : World) :
    Calls Tryz.prog 55 #[.string s, .int .i64 k] w fun e w' => e = .returned (.int .u8 (byt s k)) ∧ w' = w := by
  rcases Nat.lt_or_ge k s.size with h | h
  · exact Tryz.byteAt_in s k w h
  · exact Tryz.byteAt_out s k w h
theorem mayB_t {v : Int} (h : okRune v) : mayB v = true := decide_eq_true h
theorem mayB_f {v : Int} (h : ¬ okRune v) : mayB v = false := decide_eq_false h
theorem ret_bool {a b : Bool} (h : a = b) : Ending.returned (.bool a) = .returned (.bool b) := by rw [h]
set_option maxHeartbeats 400000 in
theorem Tryz.may (v : Int) (w : World) : Calls Tryz.prog 22 #[.int .i64 v] w fun e w' => e = .returned (.bool (mayB v)) ∧ w' = w := by
  go_enter Tryz.func22, Tryz.ntmps22
  go_wp2
  all_goals
    go_ret
    refine ⟨ret_bool ?_, rfl⟩
    first
      | exact (mayB_t (by unfold okRune; omega)).symm
      | exact (mayB_f (by unfold okRune; omega)).symm
      | (rw [Bool.eq_iff_iff]; unfold mayB; simp only [Bool.or_eq_true, decide_eq_true_eq]; unfold okRune; omega)
end Go.Proofs
