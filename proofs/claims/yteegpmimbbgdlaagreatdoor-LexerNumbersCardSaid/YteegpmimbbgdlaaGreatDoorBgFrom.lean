/- The walks of bigint.laid, From. -/
import Derived.Test.YteegpmimbbgdlaaGreatDoorBgTxt
namespace Go.Proofs
open Go.RowKit Go.Bg
/-- An integer that is not negative. -/
def IntSays (x : Nat) (w : World) (e : Ending) (w' : World) : Prop := ∃ (sl : Value) (m : Nat), e = .returned (.agg #[.bool false, sl]) ∧ Tight x m ∧ LimV w' sl x m ∧ Below w.heap.size w w'
/-- A store into a cell that holds no integer. -/
theorem LimV.setCell {w : World} {v : Value} {x m : Nat} (h : LimV w v x m) {a : Addr} {u0 : Value} (h0 : w.cell? a = some u0) (hne : ∀ k n, u0 ≠ .int k n) (u : Value) : LimV (w.setCell a u) v x m := by
  rcases h with h | ⟨b, o, c, rfl, h2, h3, h4⟩
  · exact .inl h
  · refine .inr ⟨b, o, c, rfl, h2, h3, h4.1, fun j hj => ?_⟩
    have h5 := h4.2 j hj
    rw [World.cell?_setCell_other, h5]
    rintro rfl
    rw [h0] at h5
    exact hne _ _ (Option.some.inj h5)
theorem LimV.lt {w : World} {v : Value} {x m : Nat} (h : LimV w v x m) : x < B ^ m := by
  rcases h with ⟨_, h7, _⟩ | ⟨_, _, _, _, _, _, h7⟩
  · rw [h7]; exact pow_pos' m
  · exact h7.1
set_option maxRecDepth 100000 in
set_option maxHeartbeats 2000000 in
theorem Tryz.laid (v : Value) (x m : Nat) (w : World) (hv : Hid (LimV w v x m)) : Calls Tryz.prog 38 #[.bool false, v] w (IntSays x w) := by
  obtain ⟨a, c, rfl⟩ := hv.out.slice
  have hb := (Below.refl w.heap.size w).alloc (Nat.le_refl _)
  have hv1 : Hid (∀ o, LimV (w.alloc o) (.slice a m c) x m) := Lib.hid fun o => hv.out.below (hb o)
  clear hb
  go_enter Tryz.func38, Tryz.ntmps38
  go_wp2_with (go_at_call 35; (with_reducible refine (Tryz.trim (.slice a m c) x m _ (hv1.out _)).mono ?_))
  rintro e w' ⟨m', ht, rfl, rfl⟩
  have HL := Lib.hid (hv.out.cut (Tight.le ht hv.out.lt (Nat.le_refl _)) ht.1)
  go_wp2
  refine bodyPost_ret (v := .agg #[.bool false, .slice a m' c]) ?_ rfl ⟨_, m', rfl, ht, ?_, ?_⟩
  · simp only [results, Tryz.results38]
    go_simp
  · exact HL.out.below ((Below.refl _ _).alloc (Nat.le_refl _) _)
  · exact (Below.refl _ _).alloc (Nat.le_refl _) _
set_option maxRecDepth 100000 in
set_option maxHeartbeats 2000000 in
theorem Tryz.from (v : Nat) (w : World) (hv : v < 4294967296) : Calls Tryz.prog 24 #[.int .i64 v] w (IntSays v w) := by
  have hv2 : (v : Int) ≤ 4294967295 := by omega
  have hs : (v : Int) / 4294967296 = 0 := by omega
  have d0 : decide ((v : Int) < 0) = false := decide_eq_false (by omega)
  go_enter Tryz.func24, Tryz.ntmps24
  go_wp2_with fail
  generalize hW1 : (w.alloc _).alloc _ = W1
  have C0 : W1.cell? ⟨w.heap.size + 1, 0, none⟩ = some (.int .u32 v) := by subst hW1; go_simp
  have C1 : W1.cell? ⟨w.heap.size + 1, 1, none⟩ = some (.int .u32 0) := by subst hW1; go_simp
  have tok : W1.heap[w.heap.size]? = some (.cells #[.bool false, .slice none 0 0] 41 (0, 0)) := by
    subst hW1
    rw [Lib.alloc_old _ _ _ (by simp)]
    exact heap_alloc_new w _
  have bl : Below w.heap.size w W1 := by subst hW1; exact ((Below.refl _ _).alloc (Nat.le_refl _) _).alloc (by simp) _
  have hlt : w.heap.size < W1.heap.size := by subst hW1; simp; omega
  have hl : LimV W1 (.slice (some ⟨w.heap.size + 1, 0, none⟩) 2 2) v 2 := by
    refine .inr ⟨_, _, _, rfl, Nat.le_refl _, by decide, ?_, fun j hj => ?_⟩
    · refine Nat.lt_of_lt_of_le hv ?_
      decide
    · match j, hj with
      | 0, _ => rw [Nat.add_zero, C0]; unfold limb; rw [Nat.pow_zero, Nat.div_one, Nat.mod_eq_of_lt (show v < B from hv)]
      | 1, _ => rw [Nat.zero_add, C1]; unfold limb; rw [Nat.pow_one, Nat.div_eq_of_lt (show v < B from hv)]; rfl
  have HL := Lib.hid hl
  clear hW1 hl C0 C1
  go_wp2_with (go_at_call 38; (with_reducible refine (Tryz.laid _ v 2 _ HL).mono ?_))
  rintro e W2 ⟨sl, m, rfl, ht, hl, b2⟩
  obtain ⟨a, c, rfl⟩ := hl.slice
  have T := (b2.block w.heap.size hlt).trans tok
  have x0 : W2.cell? ⟨w.heap.size, 0, none⟩ = some (.bool false) := by rw [Lib.cell_of_heap T]; rfl
  have x1 : W2.cell? ⟨w.heap.size, 1, none⟩ = some (.slice none 0 0) := by rw [Lib.cell_of_heap T]; rfl
  have y0 : W2.frozen? ⟨w.heap.size, 0, none⟩ = false := Lib.frozen_of_heap T 0
  have y1 : W2.frozen? ⟨w.heap.size, 1, none⟩ = false := Lib.frozen_of_heap T 1
  have HL2 := Lib.hid hl
  have BL := Lib.hid (bl.trans (b2.mono (by omega)))
  clear hl b2 tok T bl
  go_wp2
  refine bodyPost_ret (v := .agg #[.bool false, .slice a m c]) ?_ rfl ⟨_, m, rfl, ht, ?_, ?_⟩
  · simp only [results, Tryz.results24]
    go_simp
  · refine (HL2.out.setCell x0 (fun _ _ h => by cases h) _).setCell (u0 := .slice none 0 0) ?_ (fun _ _ h => by cases h) _
    rw [World.cell?_setCell_other, x1]
    simp
  · iterate 2 refine Below.setCell ?_ (by simp) _
    exact BL.out
end Go.Proofs
