/- The walk of bits.Div32. -/
import Derived.Test.YteegpmimbbgdlaaGreatDoorBgOwn
import Derived.Deep.QuietTactic
import Derived.BigQuiet
import Derived.RegionTactic
import Derived.ChangeAlike
namespace Go.Proofs
open Go.RowKit Go.Bg
theorem or_limbs (h l : Nat) (hh : h < 36) (hl : l < 4294967296) : bits .or .u64 ((h : Int) * 4294967296) (l : Int) = ((h * B + l : Nat) : Int) := by
  have e : ((h : Int) * 4294967296) = ((h * 4294967296 : Nat) : Int) := by omega
  rw [e, u64_or_nat (h * 4294967296) l (by omega) (by omega)]
  unfold B
  rw [show (4294967296 : Nat) = 2 ^ 32 from rfl, ← Nat.shiftLeft_eq, Nat.shiftLeft_add_eq_or_of_lt (by simpa using hl)]
def DivSays (h l r : Nat) (w : World) (e : Ending) (w' : World) : Prop :=
  e = .returned (.tuple #[.int .u32 ((h * B + l) / r : Nat), .int .u32 ((h * B + l) % r : Nat)]) ∧ ∃ n, w' = w.drewN n
set_option maxRecDepth 100000 in
set_option maxHeartbeats 2000000 in
theorem Tryz.div32 (h l r : Nat) (w : World) (hh : h < r) (hl : l < 4294967296) (hr : r ≤ 36) : Calls Tryz.prog 36 #[.int .u32 h, .int .u32 l, .int .u32 r] w (DivSays h l r w) := by
  have r0 : ((r : Int) == 0) = false := by rw [Bool.eq_false_iff]; intro h; have := eq_of_beq h; omega
  have r1 : ¬ r ≤ h := by omega
  have h1 : (h : Int) ≤ 36 := by omega
  have hl1 : (l : Int) ≤ 4294967295 := by omega
  have hr1 : (r : Int) ≤ 36 := by omega
  have hr2 : (1 : Int) ≤ r := by omega
  obtain ⟨z, hz⟩ : ∃ z : Nat, z = h * B + l := ⟨_, rfl⟩
  have ho : bits .or .u64 ((h : Int) * 4294967296) (l : Int) = (z : Int) := by rw [hz]; exact or_limbs h l (by omega) hl
  have hzb : (z : Int) ≤ 184683593727 := by rw [hz]; unfold B; omega
  have HZ := Lib.hid hz
  have q2 : (z : Int) / (r : Int) ≤ 4294967295 := by
    show ((z / r : Nat) : Int) ≤ 4294967295
    have h3 : z < B * r := by
      rw [hz]
      have : (h + 1) * B ≤ r * B := Nat.mul_le_mul_right B hh
      rw [Nat.add_mul] at this
      rw [Nat.mul_comm B r]
      unfold B at *; omega
    have := Nat.div_lt_of_lt_mul (by rw [Nat.mul_comm]; exact h3 : z < r * B)
    unfold B at this; omega
  have q3 : (z : Int) % (r : Int) ≤ 36 := by
    show ((z % r : Nat) : Int) ≤ 36
    have := Nat.mod_lt z (show 0 < r by omega); omega
  have q4 : 0 ≤ (z : Int) / (r : Int) := Int.natCast_nonneg (z / r)
  have q5 : 0 ≤ (z : Int) % (r : Int) := Int.natCast_nonneg (z % r)
  clear hz
  go_enter Tryz.func36, Tryz.ntmps36
  go_wp2
  go_region
  go_wp2
  go_ret2
  refine ⟨?_, 1, rfl⟩
  rw [← HZ.out]
  rfl
end Go.Proofs
