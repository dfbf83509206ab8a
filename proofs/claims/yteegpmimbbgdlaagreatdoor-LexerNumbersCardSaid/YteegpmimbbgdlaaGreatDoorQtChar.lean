import Derived.Test.YteegpmimbbgdlaaGreatDoorQtPure3
import Derived.Test.YteegpmimbbgdlaaGreatDoorChecked
import Derived.WalkKit
import Derived.BigCall
import Derived.LoopTactic
import Derived.Lib.Hide
import Derived.Outline
/- The walks of hornbeamref03.byteAt, May. -/
namespace Go.Proofs
open Go.RowKit Go.Hb
theorem ret_u8 {a b : Int} (h : a = b) : Ending.returned (.int .u8 a) = .returned (.int .u8 b) := by rw [h]
set_option maxHeartbeats 400000 in
theorem Tryz.byteAt_in (s : ByteArray) (k : Nat) (w : World) (h : k < s.size) :
    Calls Tryz.prog 55 #[.string s, .int .i64 k] w fun e w' => e = .returned (.int .u8 (byt s k)) ∧ w' = w := by
  go_enter Tryz.func55, Tryz.ntmps55
  go_wp2
  go_ret
  exact ⟨ret_u8 (byt_in s k h).symm, rfl⟩
set_option maxHeartbeats 400000 in
theorem Tryz.byteAt_out (s : ByteArray) (k : Nat) (w : World) (h : s.size ≤ k) :
    Calls Tryz.prog 55 #[.string s, .int .i64 k] w fun e w' => e = .returned (.int .u8 (byt s k)) ∧ w' = w := by
  have h' : ¬ k < s.size := by omega
  go_enter Tryz.func55, Tryz.ntmps55
  go_wp2
  go_ret
  exact ⟨ret_u8 (byt_out s k h).symm, rfl⟩
theorem Tryz.byteAt (s : ByteArray) (k : Nat) (w : World) :
    Calls Tryz.prog 55 #[.string s, .int .i64 k] w fun e w' => e = .returned (.int .u8 (byt s k)) ∧ w' = w := by
  rcases Nat.lt_or_ge k s.size with h | h
  · exact Tryz.byteAt_in s k w h
  · exact Tryz.byteAt_out s k w h
theorem mayB_t {v : Int} (h : okRune v) : mayB v = true := decide_eq_true h
theorem mayB_f {v : Int} (h : ¬ okRune v) : mayB v = false := decide_eq_false h
theorem ret_bool {a b : Bool} (h : a = b) : Ending.returned (.bool a) = .returned (.bool b) := by rw [h]
set_option maxHeartbeats 400000 in
theorem Tryz.may (v : Int) (w : World) : Calls Tryz.prog 22 #[.int .i64 v] w fun e w' => e = .returned (.bool (mayB v)) ∧ w' = w := by
  go_enter Tryz.func22, Tryz.ntmps22
  go_wp2
  all_goals
    go_ret
    refine ⟨ret_bool ?_, rfl⟩
    first
      | exact (mayB_t (by unfold okRune; omega)).symm
      | exact (mayB_f (by unfold okRune; omega)).symm
      | (rw [Bool.eq_iff_iff]; unfold mayB; simp only [Bool.or_eq_true, decide_eq_true_eq]; unfold okRune; omega)
end Go.Proofs
/- The walk of hornbeamref03.Char. -/
namespace Go.Proofs
open Go.RowKit Go.Hb
/-- What the call tells: behind a definition, so that the walk leaves it alone. -/
def CharSays (s : ByteArray) (p : Nat) (w : World) (e : Ending) (w' : World) : Prop := ∃ v n : Int, e = .returned (.tuple #[.int .i64 v, .int .i64 n]) ∧ CharOk s.data.toList p v n ∧ w' = w
theorem Tryz.byteAt_add (s : ByteArray) (p k : Nat) (w : World) : Calls Tryz.prog 55 #[.string s, .int .i64 ((p : Int) + (k : Int))] w fun e w' => e = .returned (.int .u8 (byt s (p + k))) ∧ w' = w := by
  have := Tryz.byteAt s (p + k) w
  rwa [Int.natCast_add] at this
theorem CharSays.none {s : ByteArray} {p : Nat} {w : World} {v : Int} : CharSays s p w (.returned (.tuple #[.int .i64 v, .int .i64 0])) w := ⟨v, 0, rfl, .inl rfl, rfl⟩
set_option maxRecDepth 100000 in
set_option maxHeartbeats 1000000 in
theorem Tryz.char_low (s : ByteArray) (p : Nat) (w : World) (h : p < s.size) (hb : byt s p < 128) :
    Calls Tryz.prog 32 #[.string s, .int .i64 p] w (CharSays s p w) := by
  have h0 := byt_lo s p
  go_enter Tryz.func32, Tryz.ntmps32
  go_wp2_with (go_at_call 55; refine (Tryz.byteAt s p _).mono ?_; rintro e w' ⟨rfl, rfl⟩)
  go_ret2
  exact ⟨_, _, rfl, char_one s p h hb, rfl⟩
set_option maxRecDepth 100000 in
set_option maxHeartbeats 1000000 in
theorem Tryz.char_odd (s : ByteArray) (p : Nat) (w : World) (h : p < s.size) (hb : (128 ≤ byt s p ∧ byt s p < 192) ∨ 248 ≤ byt s p) :
    Calls Tryz.prog 32 #[.string s, .int .i64 p] w (CharSays s p w) := by
  have h0 := byt_hi s p
  rcases hb with ⟨h1, h2⟩ | h1
  all_goals
    go_enter Tryz.func32, Tryz.ntmps32
    go_wp2_with (go_at_call 55; refine (Tryz.byteAt s p _).mono ?_; rintro e w' ⟨rfl, rfl⟩)
    go_ret2
    exact CharSays.none
set_option maxRecDepth 100000 in
set_option maxHeartbeats 4000000 in
theorem Tryz.char_two (s : ByteArray) (p : Nat) (w : World) (h : p < s.size) (hs : s.size ≤ 4611686018427387904) (h1 : 192 ≤ byt s p) (h2 : byt s p < 224) :
    Calls Tryz.prog 32 #[.string s, .int .i64 p] w (CharSays s p w) := by
  have d1 : decide (s.size ≤ p) = false := decide_eq_false (by omega)
  have d2 : decide (byt s p < 128) = false := decide_eq_false (by omega)
  go_enter Tryz.func32, Tryz.ntmps32
  go_wp2_with (go_at_call 55; refine (Tryz.byteAt s p _).mono ?_; rintro e w' ⟨rfl, rfl⟩)
  go_loop [8, 10] (fun v i => ∃ (k : Nat) (x : Int), k ≤ 2 ∧ i = .int .i64 k ∧ v = .int .i64 x ∧ Acc (byt s (p + 1)) (byt s (p + 2)) (byt s (p + 3)) (byt s p - 192) k x) (fun _ i => 2 - (intOf i).toNat)
  case atStart => exact ⟨1, _, by omega, rfl, rfl, .inl ⟨rfl, rfl⟩⟩
  case round =>
    obtain ⟨k, x, hk, rfl, rfl, ha⟩ := hrel
    obtain ⟨b1, b2, b3, b4⟩ := ha.bound ⟨by omega, by omega⟩
    have y1 := byt_lo s (p + k)
    have y2 := byt_hi s (p + k)
    by_cases hlt : k < 2
    · go_wp2_with (go_at_call 55; refine (Tryz.byteAt_add s p k _).mono ?_; rintro e w' ⟨rfl, rfl⟩)
      all_goals first
        | (go_ret2; exact CharSays.none)
        | (go_round
           case rel => exact ⟨k + 1, _, by omega, by go_num, rfl, ha.step (by omega) ⟨by omega, by omega⟩ ⟨by rintro rfl; rfl, by rintro rfl; rfl, by rintro rfl; rfl⟩⟩
           case measure => simp [intOf]; omega)
    · have hk2 : k = 2 := by omega
      go_wp2_with (go_at_call 22; refine (Tryz.may x _).mono ?_; rintro e w' ⟨rfl, rfl⟩)
      all_goals first
        | (go_ret2; exact CharSays.none)
        | (go_ret2; exact ⟨_, _, rfl, Acc.two ⟨by omega, by omega⟩ ha hk2 (by omega) (by simp_all), rfl⟩)
set_option maxRecDepth 100000 in
set_option maxHeartbeats 4000000 in
theorem Tryz.char_three (s : ByteArray) (p : Nat) (w : World) (h : p < s.size) (hs : s.size ≤ 4611686018427387904) (h1 : 224 ≤ byt s p) (h2 : byt s p < 240) :
    Calls Tryz.prog 32 #[.string s, .int .i64 p] w (CharSays s p w) := by
  have d1 : decide (s.size ≤ p) = false := decide_eq_false (by omega)
  have d2 : decide (byt s p < 128) = false := decide_eq_false (by omega)
  go_enter Tryz.func32, Tryz.ntmps32
  go_wp2_with (go_at_call 55; refine (Tryz.byteAt s p _).mono ?_; rintro e w' ⟨rfl, rfl⟩)
  go_loop [8, 10] (fun v i => ∃ (k : Nat) (x : Int), k ≤ 3 ∧ i = .int .i64 k ∧ v = .int .i64 x ∧ Acc (byt s (p + 1)) (byt s (p + 2)) (byt s (p + 3)) (byt s p - 224) k x) (fun _ i => 3 - (intOf i).toNat)
  case atStart => exact ⟨1, _, by omega, rfl, rfl, .inl ⟨rfl, rfl⟩⟩
  case round =>
    obtain ⟨k, x, hk, rfl, rfl, ha⟩ := hrel
    obtain ⟨b1, b2, b3, b4⟩ := ha.bound ⟨by omega, by omega⟩
    have y1 := byt_lo s (p + k)
    have y2 := byt_hi s (p + k)
    by_cases hlt : k < 3
    · go_wp2_with (go_at_call 55; refine (Tryz.byteAt_add s p k _).mono ?_; rintro e w' ⟨rfl, rfl⟩)
      all_goals first
        | (go_ret2; exact CharSays.none)
        | (go_round
           case rel => exact ⟨k + 1, _, by omega, by go_num, rfl, ha.step (by omega) ⟨by omega, by omega⟩ ⟨by rintro rfl; rfl, by rintro rfl; rfl, by rintro rfl; rfl⟩⟩
           case measure => simp [intOf]; omega)
    · have hk2 : k = 3 := by omega
      go_wp2_with (go_at_call 22; refine (Tryz.may x _).mono ?_; rintro e w' ⟨rfl, rfl⟩)
      all_goals first
        | (go_ret2; exact CharSays.none)
        | (go_ret2; exact ⟨_, _, rfl, Acc.three ⟨by omega, by omega⟩ ha hk2 (by omega) (by simp_all), rfl⟩)
set_option maxRecDepth 100000 in
set_option maxHeartbeats 4000000 in
theorem Tryz.char_four (s : ByteArray) (p : Nat) (w : World) (h : p < s.size) (hs : s.size ≤ 4611686018427387904) (h1 : 240 ≤ byt s p) (h2 : byt s p < 248) :
    Calls Tryz.prog 32 #[.string s, .int .i64 p] w (CharSays s p w) := by
  have d1 : decide (s.size ≤ p) = false := decide_eq_false (by omega)
  have d2 : decide (byt s p < 128) = false := decide_eq_false (by omega)
  go_enter Tryz.func32, Tryz.ntmps32
  go_wp2_with (go_at_call 55; refine (Tryz.byteAt s p _).mono ?_; rintro e w' ⟨rfl, rfl⟩)
  go_loop [8, 10] (fun v i => ∃ (k : Nat) (x : Int), k ≤ 4 ∧ i = .int .i64 k ∧ v = .int .i64 x ∧ Acc (byt s (p + 1)) (byt s (p + 2)) (byt s (p + 3)) (byt s p - 240) k x) (fun _ i => 4 - (intOf i).toNat)
  case atStart => exact ⟨1, _, by omega, rfl, rfl, .inl ⟨rfl, rfl⟩⟩
  case round =>
    obtain ⟨k, x, hk, rfl, rfl, ha⟩ := hrel
    obtain ⟨b1, b2, b3, b4⟩ := ha.bound ⟨by omega, by omega⟩
    have y1 := byt_lo s (p + k)
    have y2 := byt_hi s (p + k)
    by_cases hlt : k < 4
    · go_wp2_with (go_at_call 55; refine (Tryz.byteAt_add s p k _).mono ?_; rintro e w' ⟨rfl, rfl⟩)
      all_goals first
        | (go_ret2; exact CharSays.none)
        | (go_round
           case rel => exact ⟨k + 1, _, by omega, by go_num, rfl, ha.step (by omega) ⟨by omega, by omega⟩ ⟨by rintro rfl; rfl, by rintro rfl; rfl, by rintro rfl; rfl⟩⟩
           case measure => simp [intOf]; omega)
    · have hk2 : k = 4 := by omega
      go_wp2_with (go_at_call 22; refine (Tryz.may x _).mono ?_; rintro e w' ⟨rfl, rfl⟩)
      all_goals first
        | (go_ret2; exact CharSays.none)
        | (go_ret2; exact ⟨_, _, rfl, Acc.four ⟨by omega, by omega⟩ ha hk2 (by omega) (by simp_all), rfl⟩)
theorem Tryz.char (s : ByteArray) (p : Nat) (w : World) (h : p < s.size) (hs : s.size ≤ 4611686018427387904) : Calls Tryz.prog 32 #[.string s, .int .i64 p] w (CharSays s p w) := by
  by_cases h1 : byt s p < 128
  · exact Tryz.char_low s p w h h1
  by_cases h2 : byt s p < 192
  · exact Tryz.char_odd s p w h (.inl ⟨by omega, h2⟩)
  by_cases h3 : byt s p < 224
  · exact Tryz.char_two s p w h hs (by omega) h3
  by_cases h4 : byt s p < 240
  · exact Tryz.char_three s p w h hs (by omega) h4
  by_cases h5 : byt s p < 248
  · exact Tryz.char_four s p w h hs (by omega) h5
  · exact Tryz.char_odd s p w h (.inr (by omega))
end Go.Proofs
