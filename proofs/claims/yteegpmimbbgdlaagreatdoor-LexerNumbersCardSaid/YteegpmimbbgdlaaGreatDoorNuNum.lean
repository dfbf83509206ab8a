import Derived.Test.YteegpmimbbgdlaaGreatDoorNuPar
import Derived.Test.YteegpmimbbgdlaaGreatDoorChNum
import Derived.StillTailTactics
import Derived.Deep.RegionWith
/- The walk of lexer.scan.integer. -/
namespace Go.Proofs
open Go.RowKit Go.Bg Go.Hb
theorem Tryz.textTen (v : Value) (x m : Nat) (w : World) (hm : m ≤ 70368744177664) (hv : Hid (LimV w v x m)) (hsz : Hid (∀ m', Tight x m' → sz x m' ≤ 4096)) :
    Calls Tryz.prog 20 #[.agg #[.bool false, v], .int .i64 10] w fun e w' => e = .returned (.tuple #[.string ⟨(numL 10 x).toArray⟩, .int .i64 0]) ∧ Below w.heap.size w w' := by
  refine (Tryz.text v x m 10 w hm (by omega) (by omega) hv hsz).mono fun e w' ⟨t, h1, h2, h3⟩ => ⟨?_, h3⟩
  have : t = ⟨(numL 10 x).toArray⟩ := by
    apply ByteArray.ext
    apply Array.toList_inj.1
    rw [h2]
  rw [h1, this]
set_option maxRecDepth 100000 in
set_option maxHeartbeats 8000000 in
theorem Tryz.integer (b en : Nat) (s : ByteArray) (ds : List Nat) (r X : Nat) (w : World) (hb : b < w.heap.size) (hs : Hid (s.data.toList = ds.map sgn)) (hl : ds.length = s.size) (hpos : 0 < s.size) (h5 : s.size ≤ 5000) (hr : 2 ≤ r) (hr2 : r ≤ 16) (hd : Hid (∀ d ∈ ds, d < r)) (hX : Hid (valL r ds = X)) (hsz : Hid (∀ m, Tight X m → sz X m ≤ 4096))
    (c1 : w.cell? ⟨b, 1, none⟩ = some (.int .i64 0)) :
    Calls Tryz.prog 73 #[.pointer (some ⟨b, 0, none⟩), .string s, .int .i64 r, .int .i64 en] w (NumSays (numL 10 X) en w) := by
  go_enter Tryz.func73, Tryz.ntmps73
  go_wp2_with fail
  generalize hW1 : w.alloc _ = W1
  have C1 : W1.cell? ⟨b, 1, none⟩ = some (.int .i64 0) := by subst hW1; go_simp
  have sz1 : W1.heap.size = w.heap.size + 1 := by subst hW1; simp
  have bl : Below w.heap.size w W1 := by subst hW1; exact (Below.refl _ _).alloc (Nat.le_refl _) _
  have tok0 : W1.heap[w.heap.size]? = some (.cells (emptyTok 0) 25 (0, 0)) := by subst hW1; exact heap_alloc_new w _
  clear hW1
  go_wp2_with (go_at_call 93; (with_reducible refine (Tryz.parse s ds r X _ hs hl hpos h5 hr hr2 hd hX hsz).mono ?_))
  rintro e W2 ⟨sl, m, rfl, ht, hlv, b2⟩
  obtain ⟨a, c, rfl⟩ := hlv.slice
  have hm : m ≤ 70368744177664 := by
    have h1 := hsz.out m ht
    have h2 := sz_ge X m
    omega
  have c2 : W2.cell? ⟨b, 1, none⟩ = some (.int .i64 0) := (b2.cell (p := ⟨b, 1, none⟩) (by show b < W1.heap.size; omega)).trans C1
  have t2 := (b2.block w.heap.size (by omega)).trans tok0
  have BL2 := Lib.hid (bl.trans (b2.mono (by omega)))
  have HV := Lib.hid hlv
  have sz2 : W1.heap.size ≤ W2.heap.size := b2.size
  have kb2 : b < W2.heap.size := by omega
  have kb3 : ¬ b = W2.heap.size := by omega
  clear C1 tok0 b2 bl hlv
  go_wp2_with fail
  generalize hW3 : W2.alloc _ = W3
  have c3 : W3.cell? ⟨b, 1, none⟩ = some (.int .i64 0) := by subst hW3; go_simp
  have p0 : W3.cell? ⟨W2.heap.size, 0, none⟩ = some (.bool false) := by subst hW3; go_simp
  have p1 : W3.cell? ⟨W2.heap.size, 1, none⟩ = some (.slice a m c) := by subst hW3; go_simp
  have b3 : Below W2.heap.size W2 W3 := by subst hW3; exact (Below.refl _ _).alloc (Nat.le_refl _) _
  have t3 := (b3.block w.heap.size (by omega)).trans t2
  have HV3 := Lib.hid (HV.out.below b3)
  have BL3 := Lib.hid (BL2.out.trans (b3.mono BL2.out.size))
  have sz3 : W2.heap.size ≤ W3.heap.size := b3.size
  clear hW3 b3 t2 c2
  go_wp2_with (go_at_call 20; (with_reducible refine (Tryz.textTen (.slice a m c) X m _ hm HV3 hsz).mono ?_))
  rintro e W4 ⟨rfl, b4⟩
  have T0 := (b4.block w.heap.size (by omega)).trans t3
  have c4 : W4.cell? ⟨b, 1, none⟩ = some (.int .i64 0) := (b4.cell (p := ⟨b, 1, none⟩) (by show b < W3.heap.size; omega)).trans c3
  have hlt : w.heap.size < W4.heap.size := by have := b4.size; omega
  have x0 : W4.cell? ⟨w.heap.size, 0, none⟩ = some (.int .i64 0) := by rw [Lib.cell_of_heap T0]; rfl
  have y0 : W4.frozen? ⟨w.heap.size, 0, none⟩ = false := Lib.frozen_of_heap T0 0
  have x1 : W4.cell? ⟨w.heap.size, 1, none⟩ = some (.string ⟨#[]⟩) := by rw [Lib.cell_of_heap T0]; rfl
  have y1 : W4.frozen? ⟨w.heap.size, 1, none⟩ = false := Lib.frozen_of_heap T0 1
  have x2 : W4.cell? ⟨w.heap.size, 2, none⟩ = some (.string ⟨#[]⟩) := by rw [Lib.cell_of_heap T0]; rfl
  have y2 : W4.frozen? ⟨w.heap.size, 2, none⟩ = false := Lib.frozen_of_heap T0 2
  have x3 : W4.cell? ⟨w.heap.size, 3, none⟩ = some (.int .u64 0) := by rw [Lib.cell_of_heap T0]; rfl
  have y3 : W4.frozen? ⟨w.heap.size, 3, none⟩ = false := Lib.frozen_of_heap T0 3
  have x4 : W4.cell? ⟨w.heap.size, 4, none⟩ = some (.int .i64 0) := by rw [Lib.cell_of_heap T0]; rfl
  have y4 : W4.frozen? ⟨w.heap.size, 4, none⟩ = false := Lib.frozen_of_heap T0 4
  have x5 : W4.cell? ⟨w.heap.size, 5, none⟩ = some (.int .i64 0) := by rw [Lib.cell_of_heap T0]; rfl
  have y5 : W4.frozen? ⟨w.heap.size, 5, none⟩ = false := Lib.frozen_of_heap T0 5
  have x6 : W4.cell? ⟨w.heap.size, 6, none⟩ = some (.bool false) := by rw [Lib.cell_of_heap T0]; rfl
  have y6 : W4.frozen? ⟨w.heap.size, 6, none⟩ = false := Lib.frozen_of_heap T0 6
  have BT := Lib.hid (BL3.out.trans (b4.mono BL3.out.size))
  clear b4 T0 t3 c3 p0 p1
  go_wp2
  refine bodyPost_ret (v := .tuple #[.agg #[.int .i64 4, .string ⟨#[]⟩, .string ⟨(numL 10 X).toArray⟩, .int .u64 0, .int .i64 0, .int .i64 en, .bool false], .int .i64 0, .int .i64 0]) ?_ rfl ⟨rfl, ?_⟩
  · simp only [results, Tryz.results73]
    go_simp
  · iterate 7 refine Below.setCell ?_ (by simp) _
    exact BT.out
end Go.Proofs
/- The walk of lexer.scan.number at decimal digits. -/
namespace Go.Proofs
open Go.RowKit Go.Bg Go.Hb
/-- The cells of a token that is still empty. -/
theorem tok_cells {W : World} {t : Nat} (h : W.heap[t]? = some (.cells (emptyTok 0) 25 (0, 0))) :
    W.cell? ⟨t, 0, none⟩ = some (.int .i64 0) ∧ W.cell? ⟨t, 1, none⟩ = some (.string ⟨#[]⟩) ∧ W.cell? ⟨t, 2, none⟩ = some (.string ⟨#[]⟩) ∧ W.cell? ⟨t, 3, none⟩ = some (.int .u64 0) ∧ W.cell? ⟨t, 4, none⟩ = some (.int .i64 0) ∧ W.cell? ⟨t, 5, none⟩ = some (.int .i64 0) ∧ W.cell? ⟨t, 6, none⟩ = some (.bool false) ∧
    W.frozen? ⟨t, 0, none⟩ = false ∧ W.frozen? ⟨t, 1, none⟩ = false ∧ W.frozen? ⟨t, 2, none⟩ = false ∧ W.frozen? ⟨t, 3, none⟩ = false ∧ W.frozen? ⟨t, 4, none⟩ = false ∧ W.frozen? ⟨t, 5, none⟩ = false ∧ W.frozen? ⟨t, 6, none⟩ = false :=
  ⟨by rw [Lib.cell_of_heap h]; rfl, by rw [Lib.cell_of_heap h]; rfl, by rw [Lib.cell_of_heap h]; rfl, by rw [Lib.cell_of_heap h]; rfl, by rw [Lib.cell_of_heap h]; rfl, by rw [Lib.cell_of_heap h]; rfl, by rw [Lib.cell_of_heap h]; rfl,
   Lib.frozen_of_heap h 0, Lib.frozen_of_heap h 1, Lib.frozen_of_heap h 2, Lib.frozen_of_heap h 3, Lib.frozen_of_heap h 4, Lib.frozen_of_heap h 5, Lib.frozen_of_heap h 6⟩
set_option maxRecDepth 100000 in
set_option maxHeartbeats 2000000 in
/-- All are digits. -/
theorem Tryz.rowDigE (s : ByteArray) (w : World) (hs : s.size ≤ 5000) (hh : Hid (∀ j (h : j < s.size), digc s[j].toNat)) :
    Calls Tryz.prog 49 #[.string s, .int .i64 0, .func (.func 45) #[] #[]] w fun r w' => r = .returned (.int .i64 s.size) ∧ w = w' := by
  go_enter Tryz.func49, Tryz.ntmps49
  go_wp2
  go_loop [1] (fun p => ∃ k : Nat, k ≤ s.size ∧ p = .int .i64 k) (fun p => s.size - (intOf p).toNat)
  case atStart => exact ⟨0, by omega, rfl⟩
  case round =>
    obtain ⟨k, hk, rfl⟩ := hrel
    by_cases hlt : k < s.size
    · have E0 := Lib.hid (hh.out k hlt)
      go_wp2_with (go_at_call 45; (with_reducible refine (Tryz.digit_p s[k].toNat E0.out _).mono ?_); rintro e' w' ⟨rfl, rfl⟩)
      go_round
      case rel => exact ⟨k + 1, by omega, by go_num⟩
      case measure => simp [intOf]; omega
    · obtain rfl : k = s.size := by omega
      go_wp2
      go_ret
      exact ⟨rfl, rfl⟩
theorem Tryz.integerTen (b en : Nat) (s : ByteArray) (ds : List Nat) (X : Nat) (w : World) (hb : b < w.heap.size) (hs : Hid (s.data.toList = ds.map sgn)) (hl : ds.length = s.size) (hpos : 0 < s.size) (h5 : s.size ≤ 5000) (hd : Hid (∀ d ∈ ds, d < 10)) (hX : Hid (valL 10 ds = X)) (hsz : Hid (∀ m, Tight X m → sz X m ≤ 4096))
    (c1 : w.cell? ⟨b, 1, none⟩ = some (.int .i64 0)) :
    Calls Tryz.prog 73 #[.pointer (some ⟨b, 0, none⟩), .string s, .int .i64 10, .int .i64 en] w (NumSays (numL 10 X) en w) :=
  Tryz.integer b en s ds 10 X w hb hs hl hpos h5 (by omega) (by omega) hd hX hsz c1
/-- What integer tells, behind however many draws. -/
structure IntOk (W : World) (args : Array Value) (num : List UInt8) (en : Nat) : Prop where
  out : ∀ k, Calls Tryz.prog 73 args (W.drewN k) (NumSays num en W)
set_option maxRecDepth 100000 in
set_option maxHeartbeats 8000000 in
theorem Tryz.numDec (b : Nat) (s : ByteArray) (ds : List Nat) (X : Nat) (w : World) (hb : b < w.heap.size) (hs : Hid (s.data.toList = ds.map sgn)) (hl : ds.length = s.size) (hpos : 0 < s.size) (h5 : s.size ≤ 5000) (hd : Hid (∀ d ∈ ds, d < 10)) (hX : Hid (valL 10 ds = X)) (hsz : Hid (∀ m, Tight X m → sz X m ≤ 4096))
    (hh : Hid (∀ j (h : j < s.size), digc s[j].toNat)) (h48 : ((s[0].toNat : Int) == 48) = false ∨ (((s[0].toNat : Int) == 48) = true ∧ decide ((1 : Int) < (s.size : Int)) = false))
    (c0 : w.cell? ⟨b, 0, none⟩ = some (.string s)) (c1 : w.cell? ⟨b, 1, none⟩ = some (.int .i64 0)) :
    Calls Tryz.prog 46 #[.pointer (some ⟨b, 0, none⟩)] w (NumSays (numL 10 X) s.size w) := by
  have k1 : b < w.heap.size + 1 := by omega
  have hsl : ∀ w : World, (Instr.slice 9 (.string s) (some (.int .i64 0)) (some (.int .i64 (s.size : Int))) none).run Tryz.prog w = .ok (.string s) w := by
    intro w
    have := run_slice_string (P := Tryz.prog) (w := w) 9 s .i64 .i64 (0 : Int) (s.size : Int) Tryz.underlying9 (by omega) (by omega) (by omega)
    rw [show ((s.size : Int)).toNat = s.size by omega, show ((0 : Int)).toNat = 0 by rfl, ByteArray.extract_zero_size] at this
    exact this
  go_enter Tryz.func46, Tryz.ntmps46
  go_wp2
  generalize hW1 : w.alloc _ = W1
  have C0 : W1.cell? ⟨b, 0, none⟩ = some (.string s) := by subst hW1; go_simp
  have C1 : W1.cell? ⟨b, 1, none⟩ = some (.int .i64 0) := by subst hW1; go_simp
  have sz : W1.heap.size = w.heap.size + 1 := by subst hW1; simp
  have bl : Below w.heap.size w W1 := by subst hW1; exact (Below.refl _ _).alloc (Nat.le_refl _) _
  have tok0 : W1.heap[w.heap.size]? = some (.cells (emptyTok 0) 25 (0, 0)) := by subst hW1; exact heap_alloc_new w _
  clear hW1
  refine wp_region_still_tail 8 (by kernel_rfl) (by kernel_rfl) ?_
  simp only [List.take_succ_cons, List.take_zero, List.drop_succ_cons, List.drop_zero]
  change wpStill _ _ W1.drew _ _ _
  repeat still_step
  refine wpStill_nil ?_
  change wpList _ _ _ _ _ W1.drew
  go_wp2_with (go_at_call 49; (with_reducible refine (Tryz.rowDigE s _ h5 hh).mono ?_); rintro e' w' ⟨rfl, rfl⟩)
  have hw : IntKind.i64.wrap 1 = 1 := rfl
  rcases h48 with g0 | ⟨g0, g1⟩
  all_goals
    go_quiet (fail)
    go_wp2
    clear hw
    have kb : b < W1.heap.size := by omega
    have kt : w.heap.size < W1.heap.size := by omega
    have HC : IntOk W1 #[.pointer (some ⟨b, 0, none⟩), .string s, .int .i64 10, .int .i64 (s.size : Nat)] (numL 10 X) s.size := ⟨fun k => (Tryz.integerTen b s.size s ds X (W1.drewN k) kb hs hl hpos h5 hd hX hsz C1).mono fun _ _ ⟨h1, h2⟩ => ⟨h1, (⟨rfl, rfl, rfl, Nat.le_refl _, fun _ _ => rfl⟩ : Below W1.heap.size W1 (W1.drewN k)).trans h2⟩⟩
    go_region_with (go_at_call 73; (with_reducible refine (HC.out _).mono ?_); rintro e W3 ⟨rfl, b3⟩; have BT := Lib.hid (bl.trans (b3.mono (Nat.le_of_lt kt))); obtain ⟨x0, x1, x2, x3, x4, x5, x6, y0, y1, y2, y3, y4, y5, y6⟩ := tok_cells ((b3.block w.heap.size kt).trans tok0); clear b3)
    all_goals
      go_wp2
      refine bodyPost_ret (v := .tuple #[.agg #[.int .i64 4, .string ⟨#[]⟩, .string ⟨(numL 10 X).toArray⟩, .int .u64 0, .int .i64 0, .int .i64 (s.size : Nat), .bool false], .int .i64 0, .int .i64 0]) ?_ rfl ⟨rfl, ?_⟩
      · simp only [results, Tryz.results46]
        go_simp
      · iterate 7 refine Below.setCell ?_ (by simp) _
        exact BT.out
end Go.Proofs
