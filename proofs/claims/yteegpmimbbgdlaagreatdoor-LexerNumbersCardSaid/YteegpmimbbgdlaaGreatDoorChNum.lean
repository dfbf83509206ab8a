/- The walk of lexer.scan.number at 0'. -/
import Derived.Test.YteegpmimbbgdlaaGreatDoorChHx
import Derived.StillTailTactics
namespace Go.Proofs
open Go.RowKit Go.Bg Go.Hb
/-- What character tells there. -/
structure ChrOk (b : Nat) (s : ByteArray) (num : List UInt8) (en : Nat) : Prop where
  out : ∀ W : World, b < W.heap.size → Laid0 W → W.cell? ⟨b, 0, none⟩ = some (.string s) → W.cell? ⟨b, 1, none⟩ = some (.int .i64 0) → Calls Tryz.prog 69 #[.pointer (some ⟨b, 0, none⟩)] W (ChrSays num en W)
def NumSays (num : List UInt8) (en : Nat) (w : World) (e : Ending) (w' : World) : Prop :=
  e = .returned (.tuple #[.agg #[.int .i64 4, .string ⟨#[]⟩, .string ⟨num.toArray⟩, .int .u64 0, .int .i64 0, .int .i64 en, .bool false], .int .i64 0, .int .i64 0]) ∧ Below w.heap.size w w'
theorem Tryz.digit_lo (c : Nat) (h1 : c < 48) (w : World) : Calls Tryz.prog 45 #[.int .u8 c] w fun e w' => e = .returned (.bool false) ∧ w = w' := by
  have c1 : decide ((48 : Int) ≤ (c : Int)) = false := decide_eq_false (by omega)
  clear h1
  go_enter Tryz.func45, Tryz.ntmps45
  go_wp2
  go_ret
  exact ⟨rfl, rfl⟩
set_option maxRecDepth 100000 in
set_option maxHeartbeats 2000000 in
/-- The digits end at the quote. -/
theorem Tryz.rowDig0 (s : ByteArray) (w : World) (h1 : 1 < s.size) (hs : s.size ≤ 5000) (h48 : Hid (s[0].toNat = 48)) (h39 : Hid (s[1].toNat < 48)) :
    Calls Tryz.prog 49 #[.string s, .int .i64 0, .func (.func 45) #[] #[]] w fun r w' => r = .returned (.int .i64 1) ∧ w = w' := by
  have e0 : digc s[0].toNat := by rw [h48.out]; exact ⟨by omega, by omega⟩
  have E0 := Lib.hid e0
  clear e0
  go_enter Tryz.func49, Tryz.ntmps49
  go_wp2
  go_loop [1] (fun p => ∃ k : Nat, k ≤ 1 ∧ p = .int .i64 k) (fun p => 2 - (intOf p).toNat)
  case atStart => exact ⟨0, by omega, rfl⟩
  case round =>
    obtain ⟨k, hk, rfl⟩ := hrel
    have hlt : k < s.size := by omega
    have hk3 : k = 0 ∨ k = 1 := by omega
    rcases hk3 with rfl | rfl
    · go_wp2_with (go_at_call 45; (with_reducible refine (Tryz.digit_p s[0].toNat E0.out _).mono ?_); rintro e' w' ⟨rfl, rfl⟩)
      go_round
      case rel => exact ⟨1, by omega, rfl⟩
      case measure => simp [intOf]
    · go_wp2_with (go_at_call 45; (with_reducible refine (Tryz.digit_lo s[1].toNat h39.out _).mono ?_); rintro e' w' ⟨rfl, rfl⟩)
      go_ret
      exact ⟨rfl, rfl⟩
set_option maxRecDepth 100000 in
set_option maxHeartbeats 8000000 in
theorem Tryz.number (b : Nat) (s : ByteArray) (num : List UInt8) (en : Nat) (w : World) (hb : b < w.heap.size) (h1 : 1 < s.size) (hs : s.size ≤ 5000) (h48 : Hid (s[0].toNat = 48)) (h39 : Hid (s[1].toNat = 39)) (hC : ChrOk b s num en) (hL : Laid0 w)
    (c0 : w.cell? ⟨b, 0, none⟩ = some (.string s)) (c1 : w.cell? ⟨b, 1, none⟩ = some (.int .i64 0)) :
    Calls Tryz.prog 46 #[.pointer (some ⟨b, 0, none⟩)] w (NumSays num en w) := by
  have k1 : b < w.heap.size + 1 := by omega
  have h39' : Hid (s[1].toNat < 48) := Lib.hid (by rw [h39.out]; omega)
  have hs1 : (1 : Int) < s.size := by omega
  have h0 : 0 < s.size := by omega
  have g0 : ((s[0].toNat : Int) == 48) = true := by rw [h48.out]; rfl
  have g1 : ((s[1].toNat : Int) == 39) = true := by rw [h39.out]; rfl
  go_enter Tryz.func46, Tryz.ntmps46
  go_wp2
  generalize hW1 : w.alloc _ = W1
  have C0 : W1.cell? ⟨b, 0, none⟩ = some (.string s) := by subst hW1; go_simp
  have C1 : W1.cell? ⟨b, 1, none⟩ = some (.int .i64 0) := by subst hW1; go_simp
  have sz : W1.heap.size = w.heap.size + 1 := by subst hW1; simp
  have bl : Below w.heap.size w W1 := by subst hW1; exact (Below.refl _ _).alloc (Nat.le_refl _) _
  have tok0 : W1.heap[w.heap.size]? = some (.cells (emptyTok 0) 25 (0, 0)) := by subst hW1; exact heap_alloc_new w _
  clear hW1
  refine wp_region_still_tail 8 (by kernel_rfl) (by kernel_rfl) ?_
  simp only [List.take_succ_cons, List.take_zero, List.drop_succ_cons, List.drop_zero]
  change wpStill _ _ W1.drew _ _ _
  repeat still_step
  refine wpStill_nil ?_
  change wpList _ _ _ _ _ W1.drew
  go_wp2_with (go_at_call 49; (with_reducible refine (Tryz.rowDig0 s _ h1 hs h48 h39').mono ?_); rintro e' w' ⟨rfl, rfl⟩)
  have hw : IntKind.i64.wrap 1 = 1 := rfl
  go_quiet (fail)
  go_wp2
  go_quiet (fail)
  clear hw
  go_wp2_with fail
  generalize hW2 : World.drewN _ _ = W2
  have D0 : W2.cell? ⟨b, 0, none⟩ = some (.string s) := by subst hW2; go_simp
  have D1 : W2.cell? ⟨b, 1, none⟩ = some (.int .i64 0) := by subst hW2; go_simp
  have bl2 : Below W1.heap.size W1 W2 := by subst hW2; exact ⟨rfl, rfl, rfl, Nat.le_refl _, fun _ _ => rfl⟩
  have tok2 := (bl2.block w.heap.size (by omega)).trans tok0
  have L2 : Laid0 W2 := (hL.below bl).below bl2
  have kb : b < W2.heap.size := by have := bl2.size; omega
  have hlt2 : w.heap.size < W2.heap.size := by have := bl2.size; omega
  have BL2 := Lib.hid (bl.trans (bl2.mono (by omega)))
  clear hW2 tok0 C0 C1 bl bl2
  go_wp2_with (go_at_call 69; (with_reducible refine (hC.out _ kb L2 D0 D1).mono ?_))
  rintro e W3 ⟨rfl, b3⟩
  have T0 := (b3.block w.heap.size hlt2).trans tok2
  have hlt : w.heap.size < W3.heap.size := by have := b3.size; omega
  have x0 : W3.cell? ⟨w.heap.size, 0, none⟩ = some (.int .i64 0) := by rw [Lib.cell_of_heap T0]; rfl
  have y0 : W3.frozen? ⟨w.heap.size, 0, none⟩ = false := Lib.frozen_of_heap T0 0
  have x1 : W3.cell? ⟨w.heap.size, 1, none⟩ = some (.string ⟨#[]⟩) := by rw [Lib.cell_of_heap T0]; rfl
  have y1 : W3.frozen? ⟨w.heap.size, 1, none⟩ = false := Lib.frozen_of_heap T0 1
  have x2 : W3.cell? ⟨w.heap.size, 2, none⟩ = some (.string ⟨#[]⟩) := by rw [Lib.cell_of_heap T0]; rfl
  have y2 : W3.frozen? ⟨w.heap.size, 2, none⟩ = false := Lib.frozen_of_heap T0 2
  have x3 : W3.cell? ⟨w.heap.size, 3, none⟩ = some (.int .u64 0) := by rw [Lib.cell_of_heap T0]; rfl
  have y3 : W3.frozen? ⟨w.heap.size, 3, none⟩ = false := Lib.frozen_of_heap T0 3
  have x4 : W3.cell? ⟨w.heap.size, 4, none⟩ = some (.int .i64 0) := by rw [Lib.cell_of_heap T0]; rfl
  have y4 : W3.frozen? ⟨w.heap.size, 4, none⟩ = false := Lib.frozen_of_heap T0 4
  have x5 : W3.cell? ⟨w.heap.size, 5, none⟩ = some (.int .i64 0) := by rw [Lib.cell_of_heap T0]; rfl
  have y5 : W3.frozen? ⟨w.heap.size, 5, none⟩ = false := Lib.frozen_of_heap T0 5
  have x6 : W3.cell? ⟨w.heap.size, 6, none⟩ = some (.bool false) := by rw [Lib.cell_of_heap T0]; rfl
  have y6 : W3.frozen? ⟨w.heap.size, 6, none⟩ = false := Lib.frozen_of_heap T0 6
  have BT := Lib.hid (BL2.out.trans (b3.mono (by omega)))
  clear b3 T0 D0 D1 tok2
  go_wp2
  refine bodyPost_ret (v := .tuple #[.agg #[.int .i64 4, .string ⟨#[]⟩, .string ⟨num.toArray⟩, .int .u64 0, .int .i64 0, .int .i64 en, .bool false], .int .i64 0, .int .i64 0]) ?_ rfl ⟨rfl, ?_⟩
  · simp only [results, Tryz.results46]
    go_simp
  · refine Below.alloc ?_ (by simp; omega) _
    iterate 7 refine Below.setCell ?_ (by simp) _
    exact BT.out
end Go.Proofs
