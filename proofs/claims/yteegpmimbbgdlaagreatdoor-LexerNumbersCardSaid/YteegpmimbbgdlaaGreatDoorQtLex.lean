/- The walks of lexer.scan.layout at a text that begins with a quote. -/
import Derived.Test.YteegpmimbbgdlaaGreatDoorQtQuo
import Derived.Test.YteegpmimbbgdlaaGreatDoorQtBld
import Derived.Deep.QuietTactic
import Derived.BigQuiet
namespace Go.Proofs
open Go.RowKit Go.Hb
theorem Tryz.blank39 (c : Int) (h : Hid (c = 39)) (w : World) : Calls Tryz.prog 40 #[.int .u8 c] w fun e w' => e = .returned (.bool false) ∧ w' = w := by
  obtain rfl := h.out
  clear h
  go_enter Tryz.func40, Tryz.ntmps40
  go_wp2
  go_ret
  exact ⟨rfl, rfl⟩
def LayoutSays (w : World) (e : Ending) (w' : World) : Prop := e = .returned (.tuple #[.int .i64 0, .int .i64 0]) ∧ ∃ n, w' = w.drewN n
set_option maxRecDepth 100000 in
set_option maxHeartbeats 4000000 in
theorem Tryz.layout (b : Nat) (s : ByteArray) (w : World) (h0 : 0 < s.size) (h39 : s[0].toNat = 39) (hp : Lib.hasPrefix s.data.toList [47, 42] = false)
    (c0 : w.cell? ⟨b, 0, none⟩ = some (.string s)) (c1 : w.cell? ⟨b, 1, none⟩ = some (.int .i64 0)) :
    Calls Tryz.prog 27 #[.pointer (some ⟨b, 0, none⟩)] w (LayoutSays w) := by
  have H : Hid ((s[0].toNat : Int) = 39) := Lib.hid (by omega)
  have T : ((s[0].toNat : Int) == 37) = false := by rw [h39]; rfl
  clear h39
  go_enter Tryz.func27, Tryz.ntmps27
  go_wp2
  refine wp_loop_rounds 1 ?_
  rw [rounds_succ]
  go_wp2
  go_quiet (fail)
  go_wp2
  go_quiet (fail)
  go_wp2_with (first
    | (go_at_call 40; refine (Tryz.blank39 _ H _).mono ?_; rintro e w' ⟨rfl, rfl⟩)
    | (go_at_call 42; refine (Tryz.strings_HasPrefix _ _ _).mono ?_; rintro e w' ⟨rfl, rfl⟩))
  go_ret2
  refine ⟨rfl, _, rfl⟩
end Go.Proofs
