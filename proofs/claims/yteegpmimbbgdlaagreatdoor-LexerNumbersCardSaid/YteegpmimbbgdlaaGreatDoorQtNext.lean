/- The walks of lexer.scan.token and lexer.Next at a text that 'quote' has made. -/
import Derived.Test.YteegpmimbbgdlaaGreatDoorQtQtd
import Derived.RegionTactic
import Derived.ChangeAlike
namespace Go.Proofs
open Go.RowKit Go.Hb
theorem Tryz.digit39 (c : Int) (h : Hid (c = 39)) (w : World) : Calls Tryz.prog 45 #[.int .u8 c] w fun e w' => e = .returned (.bool false) ∧ w = w' := by
  obtain rfl := h.out
  clear h
  go_enter Tryz.func45, Tryz.ntmps45
  go_wp2
  go_ret
  exact ⟨rfl, rfl⟩
def TokenSays (name : List UInt8) (s : ByteArray) (w : World) (e : Ending) (w' : World) : Prop :=
  e = .returned (.tuple #[.agg #[.int .i64 2, .string ⟨name.toArray⟩, .string ⟨#[]⟩, .int .u64 0, .int .i64 0, .int .i64 s.size, .bool false], .int .i64 0, .int .i64 0]) ∧ Below w.heap.size w w'
set_option maxRecDepth 100000 in
set_option maxHeartbeats 8000000 in
theorem Tryz.token (b : Nat) (s t : ByteArray) (name : List UInt8) (w : World) (hb : b < w.heap.size) (hs : s.size ≤ 5000) (h0 : 0 < s.size) (ht : Hid (s.extract 1 s.size = t)) (hc : Hid (s.data.toList = 39 :: t.data.toList)) (htl : Hid (t.data.toList = qb name ++ [39])) (hch : Chars name) (hnl : name.length ≤ 1000) (hL : Laid0 w)
    (h39 : Hid ((s[0].toNat : Int) = 39)) (c0 : w.cell? ⟨b, 0, none⟩ = some (.string s)) (c1 : w.cell? ⟨b, 1, none⟩ = some (.int .i64 0)) :
    Calls Tryz.prog 28 #[.pointer (some ⟨b, 0, none⟩)] w (TokenSays name s w) := by
  have k1 : b < w.heap.size + 1 := by omega
  have k2 : b < w.heap.size + 1 + 1 := by omega
  go_enter Tryz.func28, Tryz.ntmps28
  go_wp2
  generalize hW1 : w.alloc _ = W1
  have C0 : W1.cell? ⟨b, 0, none⟩ = some (.string s) := by subst hW1; go_simp
  have C1 : W1.cell? ⟨b, 1, none⟩ = some (.int .i64 0) := by subst hW1; go_simp
  have sz : W1.heap.size = w.heap.size + 1 := by subst hW1; simp
  have bl : Below w.heap.size w W1 := by subst hW1; exact (Below.refl _ _).alloc (Nat.le_refl _) _
  have tok0 : W1.heap[w.heap.size]? = some (.cells (emptyTok 0) 25 (0, 0)) := by subst hW1; exact heap_alloc_new w _
  clear hW1
  have z0 : (0 == (s.size : Int)) = false := by rw [Bool.eq_false_iff]; intro h; have := eq_of_beq h; omega
  go_region
  go_wp2
  go_quiet (fail)
  go_wp2
  go_quiet (fail)
  go_wp2_with fail
  generalize hW2 : World.drewN _ _ = W2
  have D0 : W2.cell? ⟨b, 0, none⟩ = some (.string s) := by subst hW2; go_simp
  have D1 : W2.cell? ⟨b, 1, none⟩ = some (.int .i64 0) := by subst hW2; go_simp
  have bl2 : Below W1.heap.size W1 W2 := by subst hW2; exact (((Below.refl _ W1).alloc (Nat.le_refl _) _).drew).trans ⟨rfl, rfl, rfl, Nat.le_refl _, fun _ _ => rfl⟩
  have tok2 := (bl2.block w.heap.size (by omega)).trans tok0
  have L2 : Laid0 W2 := (hL.below bl).below bl2
  have kb : b < W2.heap.size := by have := bl2.size; omega
  clear hW2 tok0 C0 C1
  go_wp2_with (go_at_call 45; (with_reducible refine (Tryz.digit39 _ h39 _).mono ?_); rintro e w' ⟨rfl, rfl⟩)
  all_goals first
    | (exfalso; have := h39.out; omega)
    | skip
  go_wp2_with (go_at_call 47; (with_reducible refine (Tryz.quoted b s t name _ kb hs ht.out hc.out htl.out hch hnl L2 D0 D1).mono ?_))
  rintro e W3 ⟨rfl, b3⟩
  have T0 := (b3.block w.heap.size (by have := bl2.size; omega)).trans tok2
  have x0 : W3.cell? ⟨w.heap.size, 0, none⟩ = some (.int .i64 0) := by rw [Lib.cell_of_heap T0]; rfl
  have y0 : W3.frozen? ⟨w.heap.size, 0, none⟩ = false := Lib.frozen_of_heap T0 0
  have x1 : W3.cell? ⟨w.heap.size, 1, none⟩ = some (.string ⟨#[]⟩) := by rw [Lib.cell_of_heap T0]; rfl
  have y1 : W3.frozen? ⟨w.heap.size, 1, none⟩ = false := Lib.frozen_of_heap T0 1
  have x2 : W3.cell? ⟨w.heap.size, 2, none⟩ = some (.string ⟨#[]⟩) := by rw [Lib.cell_of_heap T0]; rfl
  have y2 : W3.frozen? ⟨w.heap.size, 2, none⟩ = false := Lib.frozen_of_heap T0 2
  have x3 : W3.cell? ⟨w.heap.size, 3, none⟩ = some (.int .u64 0) := by rw [Lib.cell_of_heap T0]; rfl
  have y3 : W3.frozen? ⟨w.heap.size, 3, none⟩ = false := Lib.frozen_of_heap T0 3
  have x4 : W3.cell? ⟨w.heap.size, 4, none⟩ = some (.int .i64 0) := by rw [Lib.cell_of_heap T0]; rfl
  have y4 : W3.frozen? ⟨w.heap.size, 4, none⟩ = false := Lib.frozen_of_heap T0 4
  have x5 : W3.cell? ⟨w.heap.size, 5, none⟩ = some (.int .i64 0) := by rw [Lib.cell_of_heap T0]; rfl
  have y5 : W3.frozen? ⟨w.heap.size, 5, none⟩ = false := Lib.frozen_of_heap T0 5
  have x6 : W3.cell? ⟨w.heap.size, 6, none⟩ = some (.bool false) := by rw [Lib.cell_of_heap T0]; rfl
  have y6 : W3.frozen? ⟨w.heap.size, 6, none⟩ = false := Lib.frozen_of_heap T0 6
  have BT := Lib.hid (bl.trans ((bl2.mono (by omega)).trans (b3.mono (by have := bl2.size; omega))))
  clear b3 T0
  go_wp2
  refine bodyPost_ret (v := .tuple #[.agg #[.int .i64 2, .string ⟨name.toArray⟩, .string ⟨#[]⟩, .int .u64 0, .int .i64 0, .int .i64 s.size, .bool false], .int .i64 0, .int .i64 0]) ?_ rfl ⟨rfl, ?_⟩
  · simp only [results, Tryz.results28]
    go_simp
  · repeat refine Below.setCell ?_ (by simp) _
    exact BT.out
end Go.Proofs
