/- The walks of token and Next, whatever number or quoted tell. -/
import Derived.Test.YteegpmimbbgdlaaGreatDoorChNum
import Derived.Test.YteegpmimbbgdlaaGreatDoorQtLaw
namespace Go.Proofs
open Go.RowKit Go.Bg Go.Hb
theorem Tryz.blank48 (c : Int) (h : Hid (c = 48)) (w : World) : Calls Tryz.prog 40 #[.int .u8 c] w fun e w' => e = .returned (.bool false) ∧ w' = w := by
  obtain rfl := h.out
  clear h
  go_enter Tryz.func40, Tryz.ntmps40
  go_wp2
  go_ret
  exact ⟨rfl, rfl⟩
set_option maxRecDepth 100000 in
set_option maxHeartbeats 4000000 in
theorem Tryz.layout48 (b : Nat) (s : ByteArray) (w : World) (h0 : 0 < s.size) (h39 : s[0].toNat = 48) (hp : Lib.hasPrefix s.data.toList [47, 42] = false)
    (c0 : w.cell? ⟨b, 0, none⟩ = some (.string s)) (c1 : w.cell? ⟨b, 1, none⟩ = some (.int .i64 0)) :
    Calls Tryz.prog 27 #[.pointer (some ⟨b, 0, none⟩)] w (LayoutSays w) := by
  have H : Hid ((s[0].toNat : Int) = 48) := Lib.hid (by omega)
  have T : ((s[0].toNat : Int) == 37) = false := by rw [h39]; rfl
  clear h39
  go_enter Tryz.func27, Tryz.ntmps27
  go_wp2
  refine wp_loop_rounds 1 ?_
  rw [rounds_succ]
  go_wp2
  go_quiet (fail)
  go_wp2
  go_quiet (fail)
  go_wp2_with (first
    | (go_at_call 40; refine (Tryz.blank48 _ H _).mono ?_; rintro e w' ⟨rfl, rfl⟩)
    | (go_at_call 42; refine (Tryz.strings_HasPrefix _ _ _).mono ?_; rintro e w' ⟨rfl, rfl⟩))
  go_ret2
  refine ⟨rfl, _, rfl⟩
/-- A call that tells a token (and 0, 0), whatever else is new. -/
def TkSays (k : Int) (t n : ByteArray) (en : Nat) (w : World) (e : Ending) (w' : World) : Prop := e = .returned (.tuple #[.agg #[.int .i64 k, .string t, .string n, .int .u64 0, .int .i64 0, .int .i64 en, .bool false], .int .i64 0, .int .i64 0]) ∧ Below w.heap.size w w'
structure LayOk (b : Nat) (s : ByteArray) : Prop where
  out : ∀ W : World, W.cell? ⟨b, 0, none⟩ = some (.string s) → W.cell? ⟨b, 1, none⟩ = some (.int .i64 0) → Calls Tryz.prog 27 #[.pointer (some ⟨b, 0, none⟩)] W (LayoutSays W)
structure FnOk (f : Nat) (b : Nat) (s : ByteArray) (more : List Value) (k : Int) (t n : ByteArray) (en : Nat) : Prop where
  out : ∀ W : World, b < W.heap.size → Laid0 W → W.cell? ⟨b, 0, none⟩ = some (.string s) → W.cell? ⟨b, 1, none⟩ = some (.int .i64 0) → Calls Tryz.prog f (.pointer (some ⟨b, 0, none⟩) :: more).toArray W (TkSays k t n en W)
theorem Tryz.digit48 (c : Int) (h : Hid (c = 48)) (w : World) : Calls Tryz.prog 45 #[.int .u8 c] w fun e w' => e = .returned (.bool true) ∧ w = w' := by
  obtain rfl := h.out
  clear h
  go_enter Tryz.func45, Tryz.ntmps45
  go_wp2
  go_ret
  exact ⟨rfl, rfl⟩
set_option maxRecDepth 100000 in
set_option maxHeartbeats 8000000 in
theorem Tryz.tokQuo (b : Nat) (s : ByteArray) (k : Int) (t n : ByteArray) (en : Nat) (w : World) (hb : b < w.heap.size) (h0 : 0 < s.size) (hC : FnOk 47 b s [.int .u8 39] k t n en) (hL : Laid0 w)
    (h39 : Hid ((s[0].toNat : Int) = 39)) (c0 : w.cell? ⟨b, 0, none⟩ = some (.string s)) (c1 : w.cell? ⟨b, 1, none⟩ = some (.int .i64 0)) :
    Calls Tryz.prog 28 #[.pointer (some ⟨b, 0, none⟩)] w (TkSays k t n en w) := by
  have k1 : b < w.heap.size + 1 := by omega
  have k2 : b < w.heap.size + 1 + 1 := by omega
  go_enter Tryz.func28, Tryz.ntmps28
  go_wp2
  generalize hW1 : w.alloc _ = W1
  have C0 : W1.cell? ⟨b, 0, none⟩ = some (.string s) := by subst hW1; go_simp
  have C1 : W1.cell? ⟨b, 1, none⟩ = some (.int .i64 0) := by subst hW1; go_simp
  have sz : W1.heap.size = w.heap.size + 1 := by subst hW1; simp
  have bl : Below w.heap.size w W1 := by subst hW1; exact (Below.refl _ _).alloc (Nat.le_refl _) _
  have tok0 : W1.heap[w.heap.size]? = some (.cells (emptyTok 0) 25 (0, 0)) := by subst hW1; exact heap_alloc_new w _
  clear hW1
  have z0 : (0 == (s.size : Int)) = false := by rw [Bool.eq_false_iff]; intro h; have := eq_of_beq h; omega
  go_region
  go_wp2
  go_quiet (fail)
  go_wp2
  go_quiet (fail)
  go_wp2_with fail
  generalize hW2 : World.drewN _ _ = W2
  have D0 : W2.cell? ⟨b, 0, none⟩ = some (.string s) := by subst hW2; go_simp
  have D1 : W2.cell? ⟨b, 1, none⟩ = some (.int .i64 0) := by subst hW2; go_simp
  have bl2 : Below W1.heap.size W1 W2 := by subst hW2; exact (((Below.refl _ W1).alloc (Nat.le_refl _) _).drew).trans ⟨rfl, rfl, rfl, Nat.le_refl _, fun _ _ => rfl⟩
  have tok2 := (bl2.block w.heap.size (by omega)).trans tok0
  have L2 : Laid0 W2 := (hL.below bl).below bl2
  have kb : b < W2.heap.size := by have := bl2.size; omega
  clear hW2 tok0 C0 C1
  go_wp2_with (go_at_call 45; (with_reducible refine (Tryz.digit39 _ h39 _).mono ?_); rintro e w' ⟨rfl, rfl⟩)
  all_goals first
    | (exfalso; have := h39.out; omega)
    | skip
  go_wp2_with (go_at_call 47; (with_reducible refine (hC.out _ kb L2 D0 D1).mono ?_))
  rintro e W3 ⟨rfl, b3⟩
  have T0 := (b3.block w.heap.size (by have := bl2.size; omega)).trans tok2
  have x0 : W3.cell? ⟨w.heap.size, 0, none⟩ = some (.int .i64 0) := by rw [Lib.cell_of_heap T0]; rfl
  have y0 : W3.frozen? ⟨w.heap.size, 0, none⟩ = false := Lib.frozen_of_heap T0 0
  have x1 : W3.cell? ⟨w.heap.size, 1, none⟩ = some (.string ⟨#[]⟩) := by rw [Lib.cell_of_heap T0]; rfl
  have y1 : W3.frozen? ⟨w.heap.size, 1, none⟩ = false := Lib.frozen_of_heap T0 1
  have x2 : W3.cell? ⟨w.heap.size, 2, none⟩ = some (.string ⟨#[]⟩) := by rw [Lib.cell_of_heap T0]; rfl
  have y2 : W3.frozen? ⟨w.heap.size, 2, none⟩ = false := Lib.frozen_of_heap T0 2
  have x3 : W3.cell? ⟨w.heap.size, 3, none⟩ = some (.int .u64 0) := by rw [Lib.cell_of_heap T0]; rfl
  have y3 : W3.frozen? ⟨w.heap.size, 3, none⟩ = false := Lib.frozen_of_heap T0 3
  have x4 : W3.cell? ⟨w.heap.size, 4, none⟩ = some (.int .i64 0) := by rw [Lib.cell_of_heap T0]; rfl
  have y4 : W3.frozen? ⟨w.heap.size, 4, none⟩ = false := Lib.frozen_of_heap T0 4
  have x5 : W3.cell? ⟨w.heap.size, 5, none⟩ = some (.int .i64 0) := by rw [Lib.cell_of_heap T0]; rfl
  have y5 : W3.frozen? ⟨w.heap.size, 5, none⟩ = false := Lib.frozen_of_heap T0 5
  have x6 : W3.cell? ⟨w.heap.size, 6, none⟩ = some (.bool false) := by rw [Lib.cell_of_heap T0]; rfl
  have y6 : W3.frozen? ⟨w.heap.size, 6, none⟩ = false := Lib.frozen_of_heap T0 6
  have BT := Lib.hid (bl.trans ((bl2.mono (by omega)).trans (b3.mono (by have := bl2.size; omega))))
  clear b3 T0
  go_wp2
  refine bodyPost_ret (v := .tuple #[.agg #[.int .i64 k, .string t, .string n, .int .u64 0, .int .i64 0, .int .i64 en, .bool false], .int .i64 0, .int .i64 0]) ?_ rfl ⟨rfl, ?_⟩
  · simp only [results, Tryz.results28]
    go_simp
  · repeat refine Below.setCell ?_ (by simp) _
    exact BT.out
set_option maxRecDepth 100000 in
set_option maxHeartbeats 8000000 in
theorem Tryz.tokNum (b : Nat) (s : ByteArray) (k : Int) (t n : ByteArray) (en : Nat) (w : World) (hb : b < w.heap.size) (h0 : 0 < s.size) (hC : FnOk 46 b s [] k t n en) (hL : Laid0 w)
    (h48 : Hid ((s[0].toNat : Int) = 48)) (c0 : w.cell? ⟨b, 0, none⟩ = some (.string s)) (c1 : w.cell? ⟨b, 1, none⟩ = some (.int .i64 0)) :
    Calls Tryz.prog 28 #[.pointer (some ⟨b, 0, none⟩)] w (TkSays k t n en w) := by
  have k1 : b < w.heap.size + 1 := by omega
  have k2 : b < w.heap.size + 1 + 1 := by omega
  go_enter Tryz.func28, Tryz.ntmps28
  go_wp2
  generalize hW1 : w.alloc _ = W1
  have C0 : W1.cell? ⟨b, 0, none⟩ = some (.string s) := by subst hW1; go_simp
  have C1 : W1.cell? ⟨b, 1, none⟩ = some (.int .i64 0) := by subst hW1; go_simp
  have sz : W1.heap.size = w.heap.size + 1 := by subst hW1; simp
  have bl : Below w.heap.size w W1 := by subst hW1; exact (Below.refl _ _).alloc (Nat.le_refl _) _
  have tok0 : W1.heap[w.heap.size]? = some (.cells (emptyTok 0) 25 (0, 0)) := by subst hW1; exact heap_alloc_new w _
  clear hW1
  have z0 : (0 == (s.size : Int)) = false := by rw [Bool.eq_false_iff]; intro h; have := eq_of_beq h; omega
  go_region
  go_wp2
  go_quiet (fail)
  go_wp2
  go_quiet (fail)
  go_wp2_with fail
  generalize hW2 : World.drewN _ _ = W2
  have D0 : W2.cell? ⟨b, 0, none⟩ = some (.string s) := by subst hW2; go_simp
  have D1 : W2.cell? ⟨b, 1, none⟩ = some (.int .i64 0) := by subst hW2; go_simp
  have bl2 : Below W1.heap.size W1 W2 := by subst hW2; exact (((Below.refl _ W1).alloc (Nat.le_refl _) _).drew).trans ⟨rfl, rfl, rfl, Nat.le_refl _, fun _ _ => rfl⟩
  have tok2 := (bl2.block w.heap.size (by omega)).trans tok0
  have L2 : Laid0 W2 := (hL.below bl).below bl2
  have kb : b < W2.heap.size := by have := bl2.size; omega
  clear hW2 tok0 C0 C1
  go_wp2_with (go_at_call 45; (with_reducible refine (Tryz.digit48 _ h48 _).mono ?_); rintro e w' ⟨rfl, rfl⟩)
  all_goals first
    | (exfalso; have := h48.out; omega)
    | skip
  go_wp2_with (go_at_call 46; (with_reducible refine (hC.out _ kb L2 D0 D1).mono ?_))
  rintro e W3 ⟨rfl, b3⟩
  have T0 := (b3.block w.heap.size (by have := bl2.size; omega)).trans tok2
  have x0 : W3.cell? ⟨w.heap.size, 0, none⟩ = some (.int .i64 0) := by rw [Lib.cell_of_heap T0]; rfl
  have y0 : W3.frozen? ⟨w.heap.size, 0, none⟩ = false := Lib.frozen_of_heap T0 0
  have x1 : W3.cell? ⟨w.heap.size, 1, none⟩ = some (.string ⟨#[]⟩) := by rw [Lib.cell_of_heap T0]; rfl
  have y1 : W3.frozen? ⟨w.heap.size, 1, none⟩ = false := Lib.frozen_of_heap T0 1
  have x2 : W3.cell? ⟨w.heap.size, 2, none⟩ = some (.string ⟨#[]⟩) := by rw [Lib.cell_of_heap T0]; rfl
  have y2 : W3.frozen? ⟨w.heap.size, 2, none⟩ = false := Lib.frozen_of_heap T0 2
  have x3 : W3.cell? ⟨w.heap.size, 3, none⟩ = some (.int .u64 0) := by rw [Lib.cell_of_heap T0]; rfl
  have y3 : W3.frozen? ⟨w.heap.size, 3, none⟩ = false := Lib.frozen_of_heap T0 3
  have x4 : W3.cell? ⟨w.heap.size, 4, none⟩ = some (.int .i64 0) := by rw [Lib.cell_of_heap T0]; rfl
  have y4 : W3.frozen? ⟨w.heap.size, 4, none⟩ = false := Lib.frozen_of_heap T0 4
  have x5 : W3.cell? ⟨w.heap.size, 5, none⟩ = some (.int .i64 0) := by rw [Lib.cell_of_heap T0]; rfl
  have y5 : W3.frozen? ⟨w.heap.size, 5, none⟩ = false := Lib.frozen_of_heap T0 5
  have x6 : W3.cell? ⟨w.heap.size, 6, none⟩ = some (.bool false) := by rw [Lib.cell_of_heap T0]; rfl
  have y6 : W3.frozen? ⟨w.heap.size, 6, none⟩ = false := Lib.frozen_of_heap T0 6
  have BT := Lib.hid (bl.trans ((bl2.mono (by omega)).trans (b3.mono (by have := bl2.size; omega))))
  clear b3 T0
  go_wp2
  refine bodyPost_ret (v := .tuple #[.agg #[.int .i64 k, .string t, .string n, .int .u64 0, .int .i64 0, .int .i64 en, .bool false], .int .i64 0, .int .i64 0]) ?_ rfl ⟨rfl, ?_⟩
  · simp only [results, Tryz.results28]
    go_simp
  · repeat refine Below.setCell ?_ (by simp) _
    exact BT.out
def NxSays (k : Int) (t n : ByteArray) (en : Nat) (w : World) (e : Ending) (w' : World) : Prop := e = .returned (.tuple #[.agg #[.int .i64 k, .string t, .string n, .int .u64 0, .int .i64 0, .int .i64 en, .bool false], .int .i64 0]) ∧ Below w.heap.size w w'
set_option maxRecDepth 100000 in
set_option maxHeartbeats 8000000 in
theorem Tryz.nextOk (s : ByteArray) (k : Int) (t n : ByteArray) (en : Nat) (w : World) (hLay : LayOk (w.heap.size + 1) s) (hC : FnOk 28 (w.heap.size + 1) s [] k t n en) (hL : Laid0 w) :
    Calls Tryz.prog 12 #[.string s, .int .i64 0] w (NxSays k t n en w) := by
  go_enter Tryz.func12, Tryz.ntmps12
  go_wp2_with fail
  generalize hW1 : (w.alloc _).alloc _ = W1
  have C0 : W1.cell? ⟨w.heap.size + 1, 0, none⟩ = some (.string s) := by subst hW1; go_simp
  have C1 : W1.cell? ⟨w.heap.size + 1, 1, none⟩ = some (.int .i64 0) := by subst hW1; go_simp
  have sz : W1.heap.size = w.heap.size + 2 := by subst hW1; simp
  have bl : Below w.heap.size w W1 := by subst hW1; exact ((Below.refl _ _).alloc (Nat.le_refl _) _).alloc (by simp) _
  have tok0 : W1.heap[w.heap.size]? = some (.cells (emptyTok 0) 25 (0, 0)) := by
    subst hW1
    rw [Lib.alloc_old _ _ _ (by simp)]
    exact heap_alloc_new w _
  clear hW1
  go_wp2_with (go_at_call 27; (with_reducible refine (hLay.out _ C0 C1).mono ?_))
  rintro e W2 ⟨rfl, q, rfl⟩
  have D0 : (W1.drewN q).cell? ⟨w.heap.size + 1, 0, none⟩ = some (.string s) := C0
  have D1 : (W1.drewN q).cell? ⟨w.heap.size + 1, 1, none⟩ = some (.int .i64 0) := C1
  have bl2 : Below w.heap.size w (W1.drewN q) := bl.trans ⟨rfl, rfl, rfl, Nat.le_refl _, fun _ _ => rfl⟩
  have tok2 : (W1.drewN q).heap[w.heap.size]? = some (.cells (emptyTok 0) 25 (0, 0)) := tok0
  have sz2 : (W1.drewN q).heap.size = w.heap.size + 2 := sz
  have L2 : Laid0 (W1.drewN q) := hL.below bl2
  have SZ := Lib.hid sz2
  clear sz2 sz tok0 C0 C1 bl
  go_wp2_with (go_at_call 28; (with_reducible refine (hC.out _ (by rw [SZ.out]; omega) L2 D0 D1).mono ?_))
  rintro e W3 ⟨rfl, b3⟩
  have T0 := (b3.block w.heap.size (by rw [SZ.out]; omega)).trans tok2
  have hlt : w.heap.size < W3.heap.size := by have := b3.size; rw [SZ.out] at this; omega
  have x0 : W3.cell? ⟨w.heap.size, 0, none⟩ = some (.int .i64 0) := by rw [Lib.cell_of_heap T0]; rfl
  have y0 : W3.frozen? ⟨w.heap.size, 0, none⟩ = false := Lib.frozen_of_heap T0 0
  have x1 : W3.cell? ⟨w.heap.size, 1, none⟩ = some (.string ⟨#[]⟩) := by rw [Lib.cell_of_heap T0]; rfl
  have y1 : W3.frozen? ⟨w.heap.size, 1, none⟩ = false := Lib.frozen_of_heap T0 1
  have x2 : W3.cell? ⟨w.heap.size, 2, none⟩ = some (.string ⟨#[]⟩) := by rw [Lib.cell_of_heap T0]; rfl
  have y2 : W3.frozen? ⟨w.heap.size, 2, none⟩ = false := Lib.frozen_of_heap T0 2
  have x3 : W3.cell? ⟨w.heap.size, 3, none⟩ = some (.int .u64 0) := by rw [Lib.cell_of_heap T0]; rfl
  have y3 : W3.frozen? ⟨w.heap.size, 3, none⟩ = false := Lib.frozen_of_heap T0 3
  have x4 : W3.cell? ⟨w.heap.size, 4, none⟩ = some (.int .i64 0) := by rw [Lib.cell_of_heap T0]; rfl
  have y4 : W3.frozen? ⟨w.heap.size, 4, none⟩ = false := Lib.frozen_of_heap T0 4
  have x5 : W3.cell? ⟨w.heap.size, 5, none⟩ = some (.int .i64 0) := by rw [Lib.cell_of_heap T0]; rfl
  have y5 : W3.frozen? ⟨w.heap.size, 5, none⟩ = false := Lib.frozen_of_heap T0 5
  have x6 : W3.cell? ⟨w.heap.size, 6, none⟩ = some (.bool false) := by rw [Lib.cell_of_heap T0]; rfl
  have y6 : W3.frozen? ⟨w.heap.size, 6, none⟩ = false := Lib.frozen_of_heap T0 6
  have BT := Lib.hid (bl2.trans (b3.mono (by rw [SZ.out]; omega)))
  clear b3 T0 D0 D1 tok2
  go_wp2
  refine bodyPost_ret (v := .tuple #[.agg #[.int .i64 k, .string t, .string n, .int .u64 0, .int .i64 0, .int .i64 en, .bool false], .int .i64 0]) ?_ rfl ⟨rfl, ?_⟩
  · simp only [results, Tryz.results12]
    go_simp
  · refine Below.alloc ?_ (by simp; omega) _
    iterate 7 refine Below.setCell ?_ (by simp) _
    exact BT.out
end Go.Proofs
