import Derived.Test.YteegpmimbbgdlaaGreatDoorNuNum
import Derived.Test.YteegpmimbbgdlaaGreatDoorNuPar
import Derived.Test.YteegpmimbbgdlaaGreatDoorChTxt
import Derived.Test.YteegpmimbbgdlaaGreatDoorChNext
/- The walks of lexer.row from the third byte to the end, of digits of a radix. -/
namespace Go.Proofs
open Go.RowKit Go.Bg Go.Hb
def binc (c : Nat) : Prop := 48 ≤ c ∧ c ≤ 49
theorem Tryz.bin_t (c : Nat) (h : binc c) (w : World) : Calls Tryz.prog 71 #[.int .u8 c] w fun e w' => e = .returned (.bool true) ∧ w = w' := by
  have hc : c = 48 ∨ c = 49 := by unfold binc at h; omega
  clear h
  rcases hc with rfl | rfl
  all_goals
    go_enter Tryz.func71, Tryz.ntmps71
    go_wp2
    go_ret
    exact ⟨rfl, rfl⟩
set_option maxRecDepth 100000 in
set_option maxHeartbeats 2000000 in
/-- The digits end behind the nought. -/
theorem Tryz.rowDig1 (s : ByteArray) (w : World) (h1 : 1 < s.size) (hs : s.size ≤ 5000) (h48 : Hid (s[0].toNat = 48)) (h57 : Hid (57 < s[1].toNat)) :
    Calls Tryz.prog 49 #[.string s, .int .i64 0, .func (.func 45) #[] #[]] w fun r w' => r = .returned (.int .i64 1) ∧ w = w' := by
  have e0 : digc s[0].toNat := by rw [h48.out]; exact ⟨by omega, by omega⟩
  have E0 := Lib.hid e0
  clear e0
  go_enter Tryz.func49, Tryz.ntmps49
  go_wp2
  go_loop [1] (fun p => ∃ k : Nat, k ≤ 1 ∧ p = .int .i64 k) (fun p => 2 - (intOf p).toNat)
  case atStart => exact ⟨0, by omega, rfl⟩
  case round =>
    obtain ⟨k, hk, rfl⟩ := hrel
    have hlt : k < s.size := by omega
    have hk3 : k = 0 ∨ k = 1 := by omega
    rcases hk3 with rfl | rfl
    · go_wp2_with (go_at_call 45; (with_reducible refine (Tryz.digit_p s[0].toNat E0.out _).mono ?_); rintro e' w' ⟨rfl, rfl⟩)
      go_round
      case rel => exact ⟨1, by omega, rfl⟩
      case measure => simp [intOf]
    · go_wp2_with (go_at_call 45; (with_reducible refine (Tryz.digit_f s[1].toNat h57.out _).mono ?_); rintro e' w' ⟨rfl, rfl⟩)
      go_ret
      exact ⟨rfl, rfl⟩
set_option maxRecDepth 100000 in
set_option maxHeartbeats 2000000 in
theorem Tryz.rowHexE (s : ByteArray) (w : World) (h2 : 2 ≤ s.size) (hs : s.size ≤ 5000) (hh : Hid (∀ j (h : j < s.size), 2 ≤ j → hexc s[j].toNat)) :
    Calls Tryz.prog 49 #[.string s, .int .i64 2, .func (.func 70) #[] #[]] w fun r w' => r = .returned (.int .i64 s.size) ∧ w = w' := by
  go_enter Tryz.func49, Tryz.ntmps49
  go_wp2
  go_loop [1] (fun p => ∃ k : Nat, 2 ≤ k ∧ k ≤ s.size ∧ p = .int .i64 k) (fun p => s.size - (intOf p).toNat)
  case atStart => exact ⟨2, by omega, by omega, rfl⟩
  case round =>
    obtain ⟨k, hk0, hk, rfl⟩ := hrel
    by_cases hlt : k < s.size
    · have E0 := Lib.hid (hh.out k hlt hk0)
      go_wp2_with (go_at_call 70; (with_reducible refine (Tryz.hex_t s[k].toNat E0.out _).mono ?_); rintro e' w' ⟨rfl, rfl⟩)
      go_round
      case rel => exact ⟨k + 1, by omega, by omega, by go_num⟩
      case measure => simp [intOf]; omega
    · obtain rfl : k = s.size := by omega
      go_wp2
      go_ret
      exact ⟨rfl, rfl⟩
set_option maxRecDepth 100000 in
set_option maxHeartbeats 2000000 in
theorem Tryz.rowOctE (s : ByteArray) (w : World) (h2 : 2 ≤ s.size) (hs : s.size ≤ 5000) (hh : Hid (∀ j (h : j < s.size), 2 ≤ j → octc s[j].toNat)) :
    Calls Tryz.prog 49 #[.string s, .int .i64 2, .func (.func 72) #[] #[]] w fun r w' => r = .returned (.int .i64 s.size) ∧ w = w' := by
  go_enter Tryz.func49, Tryz.ntmps49
  go_wp2
  go_loop [1] (fun p => ∃ k : Nat, 2 ≤ k ∧ k ≤ s.size ∧ p = .int .i64 k) (fun p => s.size - (intOf p).toNat)
  case atStart => exact ⟨2, by omega, by omega, rfl⟩
  case round =>
    obtain ⟨k, hk0, hk, rfl⟩ := hrel
    by_cases hlt : k < s.size
    · have E0 := Lib.hid (hh.out k hlt hk0)
      go_wp2_with (go_at_call 72; (with_reducible refine (Tryz.octal_p s[k].toNat E0.out _).mono ?_); rintro e' w' ⟨rfl, rfl⟩)
      go_round
      case rel => exact ⟨k + 1, by omega, by omega, by go_num⟩
      case measure => simp [intOf]; omega
    · obtain rfl : k = s.size := by omega
      go_wp2
      go_ret
      exact ⟨rfl, rfl⟩
set_option maxRecDepth 100000 in
set_option maxHeartbeats 2000000 in
theorem Tryz.rowBinE (s : ByteArray) (w : World) (h2 : 2 ≤ s.size) (hs : s.size ≤ 5000) (hh : Hid (∀ j (h : j < s.size), 2 ≤ j → binc s[j].toNat)) :
    Calls Tryz.prog 49 #[.string s, .int .i64 2, .func (.func 71) #[] #[]] w fun r w' => r = .returned (.int .i64 s.size) ∧ w = w' := by
  go_enter Tryz.func49, Tryz.ntmps49
  go_wp2
  go_loop [1] (fun p => ∃ k : Nat, 2 ≤ k ∧ k ≤ s.size ∧ p = .int .i64 k) (fun p => s.size - (intOf p).toNat)
  case atStart => exact ⟨2, by omega, by omega, rfl⟩
  case round =>
    obtain ⟨k, hk0, hk, rfl⟩ := hrel
    by_cases hlt : k < s.size
    · have E0 := Lib.hid (hh.out k hlt hk0)
      go_wp2_with (go_at_call 71; (with_reducible refine (Tryz.bin_t s[k].toNat E0.out _).mono ?_); rintro e' w' ⟨rfl, rfl⟩)
      go_round
      case rel => exact ⟨k + 1, by omega, by omega, by go_num⟩
      case measure => simp [intOf]; omega
    · obtain rfl : k = s.size := by omega
      go_wp2
      go_ret
      exact ⟨rfl, rfl⟩
end Go.Proofs
/- The walk of lexer.scan.number at 0 and a letter: radix 16. -/
namespace Go.Proofs
open Go.RowKit Go.Bg Go.Hb
set_option maxRecDepth 100000 in
set_option maxHeartbeats 8000000 in
theorem Tryz.numHex (b : Nat) (s u : ByteArray) (ds : List Nat) (X : Nat) (w : World) (hb : b < w.heap.size) (h2 : 2 < s.size) (h5 : s.size ≤ 5000) (h48 : Hid (s[0].toNat = 48)) (hx : Hid (s[1].toNat = 120)) (hh : Hid (∀ j (h : j < s.size), 2 ≤ j → hexc s[j].toNat))
    (hu : Hid (s.extract 2 s.size = u)) (hs : Hid (u.data.toList = ds.map sgn)) (hl : ds.length = u.size) (hpos : 0 < u.size) (hu5 : u.size ≤ 5000) (hd : Hid (∀ d ∈ ds, d < 16)) (hX : Hid (valL 16 ds = X)) (hsz : Hid (∀ m, Tight X m → sz X m ≤ 4096))
    (c0 : w.cell? ⟨b, 0, none⟩ = some (.string s)) (c1 : w.cell? ⟨b, 1, none⟩ = some (.int .i64 0)) :
    Calls Tryz.prog 46 #[.pointer (some ⟨b, 0, none⟩)] w (NumSays (numL 10 X) s.size w) := by
  have k1 : b < w.heap.size + 1 := by omega
  have hs1 : (1 : Int) < s.size := by omega
  have hs2 : (2 : Int) < s.size := by omega
  have h0 : 0 < s.size := by omega
  have h1 : 1 < s.size := by omega
  have h22 : 2 ≤ s.size := by omega
  have h57 : Hid (57 < s[1].toNat) := Lib.hid (by rw [hx.out]; omega)
  have g0 : ((s[0].toNat : Int) == 48) = true := by rw [h48.out]; rfl
  have g39 : ((s[1].toNat : Int) == 39) = false := by rw [hx.out]; rfl
  have g98 : ((s[1].toNat : Int) == 98) = false := by rw [hx.out]; rfl
  have g111 : ((s[1].toNat : Int) == 111) = false := by rw [hx.out]; rfl
  have g120 : ((s[1].toNat : Int) == 120) = true := by rw [hx.out]; rfl
  have gn : ((s[1].toNat : Int) != 39) = true := by rw [hx.out]; rfl
  have hsl : ∀ w : World, (Instr.slice 9 (.string s) (some (.int .i64 2)) (some (.int .i64 (s.size : Int))) none).run Tryz.prog w = .ok (.string u) w := by
    intro w
    have := run_slice_string (P := Tryz.prog) (w := w) 9 s .i64 .i64 (2 : Int) (s.size : Int) Tryz.underlying9 (by omega) (by omega) (by omega)
    rw [show ((s.size : Int)).toNat = s.size by omega, show ((2 : Int)).toNat = 2 by rfl, hu.out] at this
    exact this
  go_enter Tryz.func46, Tryz.ntmps46
  go_wp2
  generalize hW1 : w.alloc _ = W1
  have C0 : W1.cell? ⟨b, 0, none⟩ = some (.string s) := by subst hW1; go_simp
  have C1 : W1.cell? ⟨b, 1, none⟩ = some (.int .i64 0) := by subst hW1; go_simp
  have sz : W1.heap.size = w.heap.size + 1 := by subst hW1; simp
  have bl : Below w.heap.size w W1 := by subst hW1; exact (Below.refl _ _).alloc (Nat.le_refl _) _
  have tok0 : W1.heap[w.heap.size]? = some (.cells (emptyTok 0) 25 (0, 0)) := by subst hW1; exact heap_alloc_new w _
  clear hW1
  refine wp_region_still_tail 8 (by kernel_rfl) (by kernel_rfl) ?_
  simp only [List.take_succ_cons, List.take_zero, List.drop_succ_cons, List.drop_zero]
  change wpStill _ _ W1.drew _ _ _
  repeat still_step
  refine wpStill_nil ?_
  change wpList _ _ _ _ _ W1.drew
  go_wp2_with (go_at_call 49; (with_reducible refine (Tryz.rowDig1 s _ h1 h5 h48 h57).mono ?_); rintro e' w' ⟨rfl, rfl⟩)
  have hw : IntKind.i64.wrap 1 = 1 := rfl
  have hw2 : IntKind.i64.wrap 2 = 2 := rfl
  go_quiet (fail)
  go_wp2
  go_quiet (fail)
  go_wp2
  go_quiet (fail)
  go_wp2
  refine wp_region_still_tail 10 (by kernel_rfl) (by kernel_rfl) ?_
  simp only [List.take_succ_cons, List.take_zero, List.drop_succ_cons, List.drop_zero]
  change wpStill _ _ (World.drew _) _ _ _
  repeat still_step
  refine wpStill_nil ?_
  change wpList _ _ _ _ _ (World.drew _)
  go_wp2_with (go_at_call 49; (with_reducible refine (Tryz.rowHexE s _ h22 h5 hh).mono ?_); rintro e' w' ⟨rfl, rfl⟩)
  go_quiet (fail)
  go_wp2
  clear hw
  have kb : b < W1.heap.size := by omega
  have kt : w.heap.size < W1.heap.size := by omega
  have HC : IntOk W1 #[.pointer (some ⟨b, 0, none⟩), .string u, .int .i64 16, .int .i64 (s.size : Nat)] (numL 10 X) s.size := ⟨fun k => (Tryz.integer b s.size u ds 16 X (W1.drewN k) kb hs hl hpos hu5 (by omega) (by omega) hd hX hsz C1).mono fun _ _ ⟨h1, h2⟩ => ⟨h1, (⟨rfl, rfl, rfl, Nat.le_refl _, fun _ _ => rfl⟩ : Below W1.heap.size W1 (W1.drewN k)).trans h2⟩⟩
  go_region_with (go_at_call 73; (with_reducible refine (HC.out _).mono ?_); rintro e W3 ⟨rfl, b3⟩; have BT := Lib.hid (bl.trans (b3.mono (Nat.le_of_lt kt))); obtain ⟨x0, x1, x2, x3, x4, x5, x6, y0, y1, y2, y3, y4, y5, y6⟩ := tok_cells ((b3.block w.heap.size kt).trans tok0); clear b3)
  all_goals
    go_wp2
    refine bodyPost_ret (v := .tuple #[.agg #[.int .i64 4, .string ⟨#[]⟩, .string ⟨(numL 10 X).toArray⟩, .int .u64 0, .int .i64 0, .int .i64 (s.size : Nat), .bool false], .int .i64 0, .int .i64 0]) ?_ rfl ⟨rfl, ?_⟩
    · simp only [results, Tryz.results46]
      go_simp
    · iterate 7 refine Below.setCell ?_ (by simp) _
      exact BT.out
end Go.Proofs
/- The walk of lexer.scan.number at 0 and a letter: radix 8. -/
namespace Go.Proofs
open Go.RowKit Go.Bg Go.Hb
set_option maxRecDepth 100000 in
set_option maxHeartbeats 8000000 in
theorem Tryz.numOct (b : Nat) (s u : ByteArray) (ds : List Nat) (X : Nat) (w : World) (hb : b < w.heap.size) (h2 : 2 < s.size) (h5 : s.size ≤ 5000) (h48 : Hid (s[0].toNat = 48)) (hx : Hid (s[1].toNat = 111)) (hh : Hid (∀ j (h : j < s.size), 2 ≤ j → octc s[j].toNat))
    (hu : Hid (s.extract 2 s.size = u)) (hs : Hid (u.data.toList = ds.map sgn)) (hl : ds.length = u.size) (hpos : 0 < u.size) (hu5 : u.size ≤ 5000) (hd : Hid (∀ d ∈ ds, d < 8)) (hX : Hid (valL 8 ds = X)) (hsz : Hid (∀ m, Tight X m → sz X m ≤ 4096))
    (c0 : w.cell? ⟨b, 0, none⟩ = some (.string s)) (c1 : w.cell? ⟨b, 1, none⟩ = some (.int .i64 0)) :
    Calls Tryz.prog 46 #[.pointer (some ⟨b, 0, none⟩)] w (NumSays (numL 10 X) s.size w) := by
  have k1 : b < w.heap.size + 1 := by omega
  have hs1 : (1 : Int) < s.size := by omega
  have hs2 : (2 : Int) < s.size := by omega
  have h0 : 0 < s.size := by omega
  have h1 : 1 < s.size := by omega
  have h22 : 2 ≤ s.size := by omega
  have h57 : Hid (57 < s[1].toNat) := Lib.hid (by rw [hx.out]; omega)
  have g0 : ((s[0].toNat : Int) == 48) = true := by rw [h48.out]; rfl
  have g39 : ((s[1].toNat : Int) == 39) = false := by rw [hx.out]; rfl
  have g98 : ((s[1].toNat : Int) == 98) = false := by rw [hx.out]; rfl
  have g111 : ((s[1].toNat : Int) == 111) = true := by rw [hx.out]; rfl
  have g120 : ((s[1].toNat : Int) == 120) = false := by rw [hx.out]; rfl
  have gn : ((s[1].toNat : Int) != 39) = true := by rw [hx.out]; rfl
  have hsl : ∀ w : World, (Instr.slice 9 (.string s) (some (.int .i64 2)) (some (.int .i64 (s.size : Int))) none).run Tryz.prog w = .ok (.string u) w := by
    intro w
    have := run_slice_string (P := Tryz.prog) (w := w) 9 s .i64 .i64 (2 : Int) (s.size : Int) Tryz.underlying9 (by omega) (by omega) (by omega)
    rw [show ((s.size : Int)).toNat = s.size by omega, show ((2 : Int)).toNat = 2 by rfl, hu.out] at this
    exact this
  go_enter Tryz.func46, Tryz.ntmps46
  go_wp2
  generalize hW1 : w.alloc _ = W1
  have C0 : W1.cell? ⟨b, 0, none⟩ = some (.string s) := by subst hW1; go_simp
  have C1 : W1.cell? ⟨b, 1, none⟩ = some (.int .i64 0) := by subst hW1; go_simp
  have sz : W1.heap.size = w.heap.size + 1 := by subst hW1; simp
  have bl : Below w.heap.size w W1 := by subst hW1; exact (Below.refl _ _).alloc (Nat.le_refl _) _
  have tok0 : W1.heap[w.heap.size]? = some (.cells (emptyTok 0) 25 (0, 0)) := by subst hW1; exact heap_alloc_new w _
  clear hW1
  refine wp_region_still_tail 8 (by kernel_rfl) (by kernel_rfl) ?_
  simp only [List.take_succ_cons, List.take_zero, List.drop_succ_cons, List.drop_zero]
  change wpStill _ _ W1.drew _ _ _
  repeat still_step
  refine wpStill_nil ?_
  change wpList _ _ _ _ _ W1.drew
  go_wp2_with (go_at_call 49; (with_reducible refine (Tryz.rowDig1 s _ h1 h5 h48 h57).mono ?_); rintro e' w' ⟨rfl, rfl⟩)
  have hw : IntKind.i64.wrap 1 = 1 := rfl
  have hw2 : IntKind.i64.wrap 2 = 2 := rfl
  go_quiet (fail)
  go_wp2
  go_quiet (fail)
  go_wp2
  go_quiet (fail)
  go_wp2
  refine wp_region_still_tail 10 (by kernel_rfl) (by kernel_rfl) ?_
  simp only [List.take_succ_cons, List.take_zero, List.drop_succ_cons, List.drop_zero]
  change wpStill _ _ (World.drew _) _ _ _
  repeat still_step
  refine wpStill_nil ?_
  change wpList _ _ _ _ _ (World.drew _)
  go_wp2_with (go_at_call 49; (with_reducible refine (Tryz.rowOctE s _ h22 h5 hh).mono ?_); rintro e' w' ⟨rfl, rfl⟩)
  go_quiet (fail)
  go_wp2
  clear hw
  have kb : b < W1.heap.size := by omega
  have kt : w.heap.size < W1.heap.size := by omega
  have HC : IntOk W1 #[.pointer (some ⟨b, 0, none⟩), .string u, .int .i64 8, .int .i64 (s.size : Nat)] (numL 10 X) s.size := ⟨fun k => (Tryz.integer b s.size u ds 8 X (W1.drewN k) kb hs hl hpos hu5 (by omega) (by omega) hd hX hsz C1).mono fun _ _ ⟨h1, h2⟩ => ⟨h1, (⟨rfl, rfl, rfl, Nat.le_refl _, fun _ _ => rfl⟩ : Below W1.heap.size W1 (W1.drewN k)).trans h2⟩⟩
  go_region_with (go_at_call 73; (with_reducible refine (HC.out _).mono ?_); rintro e W3 ⟨rfl, b3⟩; have BT := Lib.hid (bl.trans (b3.mono (Nat.le_of_lt kt))); obtain ⟨x0, x1, x2, x3, x4, x5, x6, y0, y1, y2, y3, y4, y5, y6⟩ := tok_cells ((b3.block w.heap.size kt).trans tok0); clear b3)
  all_goals
    go_wp2
    refine bodyPost_ret (v := .tuple #[.agg #[.int .i64 4, .string ⟨#[]⟩, .string ⟨(numL 10 X).toArray⟩, .int .u64 0, .int .i64 0, .int .i64 (s.size : Nat), .bool false], .int .i64 0, .int .i64 0]) ?_ rfl ⟨rfl, ?_⟩
    · simp only [results, Tryz.results46]
      go_simp
    · iterate 7 refine Below.setCell ?_ (by simp) _
      exact BT.out
end Go.Proofs
/- The walk of lexer.scan.number at 0 and a letter: radix 2. -/
namespace Go.Proofs
open Go.RowKit Go.Bg Go.Hb
set_option maxRecDepth 100000 in
set_option maxHeartbeats 8000000 in
theorem Tryz.numBin (b : Nat) (s u : ByteArray) (ds : List Nat) (X : Nat) (w : World) (hb : b < w.heap.size) (h2 : 2 < s.size) (h5 : s.size ≤ 5000) (h48 : Hid (s[0].toNat = 48)) (hx : Hid (s[1].toNat = 98)) (hh : Hid (∀ j (h : j < s.size), 2 ≤ j → binc s[j].toNat))
    (hu : Hid (s.extract 2 s.size = u)) (hs : Hid (u.data.toList = ds.map sgn)) (hl : ds.length = u.size) (hpos : 0 < u.size) (hu5 : u.size ≤ 5000) (hd : Hid (∀ d ∈ ds, d < 2)) (hX : Hid (valL 2 ds = X)) (hsz : Hid (∀ m, Tight X m → sz X m ≤ 4096))
    (c0 : w.cell? ⟨b, 0, none⟩ = some (.string s)) (c1 : w.cell? ⟨b, 1, none⟩ = some (.int .i64 0)) :
    Calls Tryz.prog 46 #[.pointer (some ⟨b, 0, none⟩)] w (NumSays (numL 10 X) s.size w) := by
  have k1 : b < w.heap.size + 1 := by omega
  have hs1 : (1 : Int) < s.size := by omega
  have hs2 : (2 : Int) < s.size := by omega
  have h0 : 0 < s.size := by omega
  have h1 : 1 < s.size := by omega
  have h22 : 2 ≤ s.size := by omega
  have h57 : Hid (57 < s[1].toNat) := Lib.hid (by rw [hx.out]; omega)
  have g0 : ((s[0].toNat : Int) == 48) = true := by rw [h48.out]; rfl
  have g39 : ((s[1].toNat : Int) == 39) = false := by rw [hx.out]; rfl
  have g98 : ((s[1].toNat : Int) == 98) = true := by rw [hx.out]; rfl
  have g111 : ((s[1].toNat : Int) == 111) = false := by rw [hx.out]; rfl
  have g120 : ((s[1].toNat : Int) == 120) = false := by rw [hx.out]; rfl
  have gn : ((s[1].toNat : Int) != 39) = true := by rw [hx.out]; rfl
  have hsl : ∀ w : World, (Instr.slice 9 (.string s) (some (.int .i64 2)) (some (.int .i64 (s.size : Int))) none).run Tryz.prog w = .ok (.string u) w := by
    intro w
    have := run_slice_string (P := Tryz.prog) (w := w) 9 s .i64 .i64 (2 : Int) (s.size : Int) Tryz.underlying9 (by omega) (by omega) (by omega)
    rw [show ((s.size : Int)).toNat = s.size by omega, show ((2 : Int)).toNat = 2 by rfl, hu.out] at this
    exact this
  go_enter Tryz.func46, Tryz.ntmps46
  go_wp2
  generalize hW1 : w.alloc _ = W1
  have C0 : W1.cell? ⟨b, 0, none⟩ = some (.string s) := by subst hW1; go_simp
  have C1 : W1.cell? ⟨b, 1, none⟩ = some (.int .i64 0) := by subst hW1; go_simp
  have sz : W1.heap.size = w.heap.size + 1 := by subst hW1; simp
  have bl : Below w.heap.size w W1 := by subst hW1; exact (Below.refl _ _).alloc (Nat.le_refl _) _
  have tok0 : W1.heap[w.heap.size]? = some (.cells (emptyTok 0) 25 (0, 0)) := by subst hW1; exact heap_alloc_new w _
  clear hW1
  refine wp_region_still_tail 8 (by kernel_rfl) (by kernel_rfl) ?_
  simp only [List.take_succ_cons, List.take_zero, List.drop_succ_cons, List.drop_zero]
  change wpStill _ _ W1.drew _ _ _
  repeat still_step
  refine wpStill_nil ?_
  change wpList _ _ _ _ _ W1.drew
  go_wp2_with (go_at_call 49; (with_reducible refine (Tryz.rowDig1 s _ h1 h5 h48 h57).mono ?_); rintro e' w' ⟨rfl, rfl⟩)
  have hw : IntKind.i64.wrap 1 = 1 := rfl
  have hw2 : IntKind.i64.wrap 2 = 2 := rfl
  go_quiet (fail)
  go_wp2
  go_quiet (fail)
  go_wp2
  go_quiet (fail)
  go_wp2
  refine wp_region_still_tail 10 (by kernel_rfl) (by kernel_rfl) ?_
  simp only [List.take_succ_cons, List.take_zero, List.drop_succ_cons, List.drop_zero]
  change wpStill _ _ (World.drew _) _ _ _
  repeat still_step
  refine wpStill_nil ?_
  change wpList _ _ _ _ _ (World.drew _)
  go_wp2_with (go_at_call 49; (with_reducible refine (Tryz.rowBinE s _ h22 h5 hh).mono ?_); rintro e' w' ⟨rfl, rfl⟩)
  go_quiet (fail)
  go_wp2
  clear hw
  have kb : b < W1.heap.size := by omega
  have kt : w.heap.size < W1.heap.size := by omega
  have HC : IntOk W1 #[.pointer (some ⟨b, 0, none⟩), .string u, .int .i64 2, .int .i64 (s.size : Nat)] (numL 10 X) s.size := ⟨fun k => (Tryz.integer b s.size u ds 2 X (W1.drewN k) kb hs hl hpos hu5 (by omega) (by omega) hd hX hsz C1).mono fun _ _ ⟨h1, h2⟩ => ⟨h1, (⟨rfl, rfl, rfl, Nat.le_refl _, fun _ _ => rfl⟩ : Below W1.heap.size W1 (W1.drewN k)).trans h2⟩⟩
  go_region_with (go_at_call 73; (with_reducible refine (HC.out _).mono ?_); rintro e W3 ⟨rfl, b3⟩; have BT := Lib.hid (bl.trans (b3.mono (Nat.le_of_lt kt))); obtain ⟨x0, x1, x2, x3, x4, x5, x6, y0, y1, y2, y3, y4, y5, y6⟩ := tok_cells ((b3.block w.heap.size kt).trans tok0); clear b3)
  all_goals
    go_wp2
    refine bodyPost_ret (v := .tuple #[.agg #[.int .i64 4, .string ⟨#[]⟩, .string ⟨(numL 10 X).toArray⟩, .int .u64 0, .int .i64 0, .int .i64 (s.size : Nat), .bool false], .int .i64 0, .int .i64 0]) ?_ rfl ⟨rfl, ?_⟩
    · simp only [results, Tryz.results46]
      go_simp
    · iterate 7 refine Below.setCell ?_ (by simp) _
      exact BT.out
end Go.Proofs
/- Numerals: their digits (plain law). -/
namespace Go.Proofs
open Go.RowKit Go.Bg Go.Hb
theorem digs_last {r : Nat} (hr : 2 ≤ r) : ∀ x : Nat, x ≠ 0 → ∃ (ds : List Nat) (d : Nat), digs r x = ds ++ [d] ∧ d ≠ 0 := by
  intro x
  induction x using Nat.strongRecOn with
  | _ x ih =>
    intro h
    rw [digs_pos hr h]
    by_cases h1 : x / r = 0
    · refine ⟨[], x % r, by rw [h1, digs_zero]; rfl, ?_⟩
      have := Nat.div_add_mod x r
      rw [h1] at this
      simp at this
      omega
    · obtain ⟨ds, d, e, hd⟩ := ih (x / r) (Nat.div_lt_self (by omega) (by omega)) h1
      exact ⟨x % r :: ds, d, by rw [e]; rfl, hd⟩
theorem num_first {r : Nat} (hr : 2 ≤ r) (x : Nat) : (x = 0 ∧ numL r x = [48]) ∨ ∃ (d : Nat) (l : List UInt8), d ≠ 0 ∧ d < r ∧ numL r x = sgn d :: l := by
  by_cases h : x = 0
  · subst h; exact .inl ⟨rfl, rfl⟩
  · right
    obtain ⟨ds, d, e, hd⟩ := digs_last hr x h
    refine ⟨d, (ds.map sgn).reverse, hd, digs_lt hr x d (by rw [e]; simp), ?_⟩
    unfold numL
    rw [if_neg h, e]
    simp
theorem lt_pow_of_sz {x n : Nat} (h : ∀ m, Tight x m → sz x m ≤ n) : x < 2 ^ n := by
  obtain ⟨m, ht⟩ := tight_exists x
  by_cases h0 : x = 0
  · subst h0; exact Nat.pow_pos (by omega)
  · exact Nat.lt_of_lt_of_le (sz_spec ht h0).2.2 (Nat.pow_le_pow_right (by omega) (h m ht))
theorem num_all {r x n : Nat} (hr : 2 ≤ r) (hn : 1 ≤ n) (h : ∀ m, Tight x m → sz x m ≤ n) : ∃ ds : List Nat, numL r x = ds.map sgn ∧ (∀ d ∈ ds, d < r) ∧ valL r ds = x ∧ 1 ≤ ds.length ∧ ds.length ≤ n :=
  num_ds hr n x (Nat.lt_of_lt_of_le (lt_pow_of_sz h) (Nat.pow_le_pow_left hr n)) hn
theorem list_at2 {s : ByteArray} {l : List UInt8} (h : s.data.toList = l) : s.size = l.length ∧ ∀ j (hj : j < s.size), s[j] = l.getD j 0 := by
  subst h
  refine ⟨by simp, fun j hj => ?_⟩
  rw [List.getD_eq_getElem?_getD, List.getElem?_eq_getElem (by simpa using hj)]
  rfl
theorem digc_sgn {d : Nat} (h : d < 10) : digc (sgn d).toNat := by
  rcases sgn_cases (show d < 16 by omega) with ⟨h1, h2⟩ | ⟨h1, h2⟩
  · rw [h2]; exact ⟨by omega, by omega⟩
  · omega
theorem all_sgn {p : Nat → Prop} {r : Nat} (hp : ∀ d, d < r → p (sgn d).toNat) {ds : List Nat} (hd : ∀ d ∈ ds, d < r) {k : Nat} (hk : k < ds.length) : p ((ds.map sgn).getD k 0).toNat := by
  rw [List.getD_eq_getElem?_getD, List.getElem?_map, List.getElem?_eq_getElem hk]
  exact hp _ (hd _ (List.getElem_mem hk))
theorem ext_two {s : ByteArray} {a b : UInt8} {l : List UInt8} (h : s.data.toList = a :: b :: l) : (s.extract 2 s.size).data.toList = l ∧ (s.extract 2 s.size).size = l.length := by
  have h1 : (s.extract 2 s.size).data.toList = l := by
    rw [ByteArray.data_extract, Array.toList_extract, h]
    have : s.size = l.length + 2 := by rw [(list_at2 h).1]; rfl
    rw [this]
    simp [List.extract]
  exact ⟨h1, (list_at2 h1).1⟩
end Go.Proofs
/- The walks of layout, token and Next at a digit. -/
namespace Go.Proofs
open Go.RowKit Go.Bg Go.Hb
theorem Tryz.blankDig (c : Nat) (h : digc c) (w : World) : Calls Tryz.prog 40 #[.int .u8 c] w fun e w' => e = .returned (.bool false) ∧ w' = w := by
  obtain ⟨h1, h2⟩ := h
  have c1 : decide ((9 : Int) ≤ (c : Int)) = true := decide_eq_true (by omega)
  have c2 : decide ((c : Int) ≤ 13) = false := decide_eq_false (by omega)
  have c3 : ((c : Int) == 32) = false := ne_fact (n := 32) (by omega)
  clear h1 h2
  go_enter Tryz.func40, Tryz.ntmps40
  go_wp2
  go_ret
  exact ⟨rfl, rfl⟩
set_option maxRecDepth 100000 in
set_option maxHeartbeats 4000000 in
theorem Tryz.layoutDig (b : Nat) (s : ByteArray) (w : World) (h0 : 0 < s.size) (h39 : Hid (digc s[0].toNat)) (hp : Lib.hasPrefix s.data.toList [47, 42] = false)
    (c0 : w.cell? ⟨b, 0, none⟩ = some (.string s)) (c1 : w.cell? ⟨b, 1, none⟩ = some (.int .i64 0)) :
    Calls Tryz.prog 27 #[.pointer (some ⟨b, 0, none⟩)] w (LayoutSays w) := by
  have T : ((s[0].toNat : Int) == 37) = false := ne_fact (n := 37) (by have := h39.out; unfold digc at this; omega)
  go_enter Tryz.func27, Tryz.ntmps27
  go_wp2
  refine wp_loop_rounds 1 ?_
  rw [rounds_succ]
  go_wp2
  go_quiet (fail)
  go_wp2
  go_quiet (fail)
  go_wp2_with (first
    | (go_at_call 40; refine (Tryz.blankDig _ h39.out _).mono ?_; rintro e w' ⟨rfl, rfl⟩)
    | (go_at_call 42; refine (Tryz.strings_HasPrefix _ _ _).mono ?_; rintro e w' ⟨rfl, rfl⟩))
  go_ret2
  refine ⟨rfl, _, rfl⟩
set_option maxRecDepth 100000 in
set_option maxHeartbeats 8000000 in
theorem Tryz.tokDig (b : Nat) (s : ByteArray) (k : Int) (t n : ByteArray) (en : Nat) (w : World) (hb : b < w.heap.size) (h0 : 0 < s.size) (hC : FnOk 46 b s [] k t n en) (hL : Laid0 w)
    (h48 : Hid (digc s[0].toNat)) (c0 : w.cell? ⟨b, 0, none⟩ = some (.string s)) (c1 : w.cell? ⟨b, 1, none⟩ = some (.int .i64 0)) :
    Calls Tryz.prog 28 #[.pointer (some ⟨b, 0, none⟩)] w (TkSays k t n en w) := by
  have k1 : b < w.heap.size + 1 := by omega
  have k2 : b < w.heap.size + 1 + 1 := by omega
  go_enter Tryz.func28, Tryz.ntmps28
  go_wp2
  generalize hW1 : w.alloc _ = W1
  have C0 : W1.cell? ⟨b, 0, none⟩ = some (.string s) := by subst hW1; go_simp
  have C1 : W1.cell? ⟨b, 1, none⟩ = some (.int .i64 0) := by subst hW1; go_simp
  have sz : W1.heap.size = w.heap.size + 1 := by subst hW1; simp
  have bl : Below w.heap.size w W1 := by subst hW1; exact (Below.refl _ _).alloc (Nat.le_refl _) _
  have tok0 : W1.heap[w.heap.size]? = some (.cells (emptyTok 0) 25 (0, 0)) := by subst hW1; exact heap_alloc_new w _
  clear hW1
  have z0 : (0 == (s.size : Int)) = false := by rw [Bool.eq_false_iff]; intro h; have := eq_of_beq h; omega
  go_region
  go_wp2
  go_quiet (fail)
  go_wp2
  go_quiet (fail)
  go_wp2_with fail
  generalize hW2 : World.drewN _ _ = W2
  have D0 : W2.cell? ⟨b, 0, none⟩ = some (.string s) := by subst hW2; go_simp
  have D1 : W2.cell? ⟨b, 1, none⟩ = some (.int .i64 0) := by subst hW2; go_simp
  have bl2 : Below W1.heap.size W1 W2 := by subst hW2; exact (((Below.refl _ W1).alloc (Nat.le_refl _) _).drew).trans ⟨rfl, rfl, rfl, Nat.le_refl _, fun _ _ => rfl⟩
  have tok2 := (bl2.block w.heap.size (by omega)).trans tok0
  have L2 : Laid0 W2 := (hL.below bl).below bl2
  have kb : b < W2.heap.size := by have := bl2.size; omega
  clear hW2 tok0 C0 C1
  go_wp2_with (go_at_call 45; (with_reducible refine (Tryz.digit_p s[0].toNat h48.out _).mono ?_); rintro e w' ⟨rfl, rfl⟩)
  all_goals first
    | (exfalso; have := h48.out; omega)
    | skip
  go_wp2_with (go_at_call 46; (with_reducible refine (hC.out _ kb L2 D0 D1).mono ?_))
  rintro e W3 ⟨rfl, b3⟩
  have T0 := (b3.block w.heap.size (by have := bl2.size; omega)).trans tok2
  have x0 : W3.cell? ⟨w.heap.size, 0, none⟩ = some (.int .i64 0) := by rw [Lib.cell_of_heap T0]; rfl
  have y0 : W3.frozen? ⟨w.heap.size, 0, none⟩ = false := Lib.frozen_of_heap T0 0
  have x1 : W3.cell? ⟨w.heap.size, 1, none⟩ = some (.string ⟨#[]⟩) := by rw [Lib.cell_of_heap T0]; rfl
  have y1 : W3.frozen? ⟨w.heap.size, 1, none⟩ = false := Lib.frozen_of_heap T0 1
  have x2 : W3.cell? ⟨w.heap.size, 2, none⟩ = some (.string ⟨#[]⟩) := by rw [Lib.cell_of_heap T0]; rfl
  have y2 : W3.frozen? ⟨w.heap.size, 2, none⟩ = false := Lib.frozen_of_heap T0 2
  have x3 : W3.cell? ⟨w.heap.size, 3, none⟩ = some (.int .u64 0) := by rw [Lib.cell_of_heap T0]; rfl
  have y3 : W3.frozen? ⟨w.heap.size, 3, none⟩ = false := Lib.frozen_of_heap T0 3
  have x4 : W3.cell? ⟨w.heap.size, 4, none⟩ = some (.int .i64 0) := by rw [Lib.cell_of_heap T0]; rfl
  have y4 : W3.frozen? ⟨w.heap.size, 4, none⟩ = false := Lib.frozen_of_heap T0 4
  have x5 : W3.cell? ⟨w.heap.size, 5, none⟩ = some (.int .i64 0) := by rw [Lib.cell_of_heap T0]; rfl
  have y5 : W3.frozen? ⟨w.heap.size, 5, none⟩ = false := Lib.frozen_of_heap T0 5
  have x6 : W3.cell? ⟨w.heap.size, 6, none⟩ = some (.bool false) := by rw [Lib.cell_of_heap T0]; rfl
  have y6 : W3.frozen? ⟨w.heap.size, 6, none⟩ = false := Lib.frozen_of_heap T0 6
  have BT := Lib.hid (bl.trans ((bl2.mono (by omega)).trans (b3.mono (by have := bl2.size; omega))))
  clear b3 T0
  go_wp2
  refine bodyPost_ret (v := .tuple #[.agg #[.int .i64 k, .string t, .string n, .int .u64 0, .int .i64 0, .int .i64 en, .bool false], .int .i64 0, .int .i64 0]) ?_ rfl ⟨rfl, ?_⟩
  · simp only [results, Tryz.results28]
    go_simp
  · repeat refine Below.setCell ?_ (by simp) _
    exact BT.out
end Go.Proofs
/- Next at a numeral of radix 10, 16, 8, 2. -/
namespace Go.Proofs
open Go.RowKit Go.Bg Go.Hb
structure NumOk (s : ByteArray) (num : List UInt8) (en : Nat) : Prop where
  out : ∀ (b : Nat) (W : World), b < W.heap.size → W.cell? ⟨b, 0, none⟩ = some (.string s) → W.cell? ⟨b, 1, none⟩ = some (.int .i64 0) → Calls Tryz.prog 46 #[.pointer (some ⟨b, 0, none⟩)] W (NumSays num en W)
theorem next_dig {s : ByteArray} {num : List UInt8} {en : Nat} (h0 : 0 < s.size) (hd : digc s[0].toNat) (hp : Lib.hasPrefix s.data.toList [47, 42] = false) (hC : NumOk s num en) (W : World) (hL : Laid0 W) :
    Calls Tryz.prog 12 #[.string s, .int .i64 0] W (NxSays 4 ⟨#[]⟩ ⟨num.toArray⟩ en W) :=
  Tryz.nextOk s 4 ⟨#[]⟩ ⟨num.toArray⟩ en W ⟨fun W' c0 c1 => Tryz.layoutDig _ s W' h0 (Lib.hid hd) hp c0 c1⟩ ⟨fun W' hb hL' c0 c1 => Tryz.tokDig _ s 4 ⟨#[]⟩ ⟨num.toArray⟩ en W' hb h0 ⟨fun W2 hb2 _ d0 d1 => hC.out _ W2 hb2 d0 d1⟩ hL' (Lib.hid hd) c0 c1⟩ hL
theorem prefix_dig {a : UInt8} {l : List UInt8} (h : digc a.toNat) : Lib.hasPrefix (a :: l) [47, 42] = false := by
  have : a ≠ 47 := fun e => by subst e; unfold digc at h; have : (47 : UInt8).toNat = 47 := rfl; omega
  unfold Lib.hasPrefix
  rw [List.isPrefixOf]
  have h2 : ((47 : UInt8) == a) = false := by rw [beq_eq_false_iff_ne]; exact Ne.symm this
  rw [h2]; rfl
/-- Decimal digits. -/
theorem next_ten {s : ByteArray} {x : Nat} (h : s.data.toList = numL 10 x) (hsz : ∀ m, Tight x m → sz x m ≤ 4096) (W : World) (hL : Laid0 W) :
    Calls Tryz.prog 12 #[.string s, .int .i64 0] W (NxSays 4 ⟨#[]⟩ ⟨(numL 10 x).toArray⟩ s.size W) := by
  obtain ⟨ds, e1, e2, e3, e4, e5⟩ := num_all (r := 10) (x := x) (n := 4096) (by omega) (by omega) hsz
  have h' := h
  rw [e1] at h'
  obtain ⟨l1, l2⟩ := list_at2 h'
  rw [List.length_map] at l1
  have hh : ∀ j (h : j < s.size), digc s[j].toNat := fun j hj => by rw [l2 j hj]; exact all_sgn (fun d hd => digc_sgn hd) e2 (by omega)
  have h0 : 0 < s.size := by omega
  have h48 : ((s[0].toNat : Int) == 48) = false ∨ (((s[0].toNat : Int) == 48) = true ∧ decide ((1 : Int) < (s.size : Int)) = false) := by
    obtain ⟨q1, q2⟩ := list_at2 h
    rcases num_first (r := 10) (by omega) x with ⟨_, hn⟩ | ⟨d, l, hd0, hd, hn⟩
    · right
      rw [hn] at q1 q2
      exact ⟨by rw [q2 0 h0]; rfl, decide_eq_false (by simp at q1; omega)⟩
    · left
      rw [hn] at q2
      refine ne_fact (n := 48) ?_
      rw [q2 0 h0]
      show (sgn d).toNat ≠ 48
      rcases sgn_cases (show d < 16 by omega) with ⟨_, h3⟩ | ⟨_, h3⟩ <;> omega
  refine next_dig h0 (hh 0 h0) ?_ ⟨fun b W' hb c0 c1 => Tryz.numDec b s ds x W' hb (Lib.hid h') (by omega) h0 (by omega) (Lib.hid e2) (Lib.hid e3) (Lib.hid hsz) (Lib.hid hh) h48 c0 c1⟩ W hL
  rw [h']
  obtain ⟨d, ds', rfl⟩ : ∃ d ds', ds = d :: ds' := by cases ds with
    | nil => simp at e4
    | cons d ds' => exact ⟨d, ds', rfl⟩
  exact prefix_dig (digc_sgn (e2 d (by simp)))
theorem binc_sgn {d : Nat} (h : d < 2) : binc (sgn d).toNat := by
  rcases sgn_cases (show d < 16 by omega) with ⟨h1, h2⟩ | ⟨h1, h2⟩
  · rw [h2]; exact ⟨by omega, by omega⟩
  · omega
theorem next_hexN {s : ByteArray} {x : Nat} (h : s.data.toList = 48 :: 120 :: numL 16 x) (hsz : ∀ m, Tight x m → sz x m ≤ 4096) (W : World) (hL : Laid0 W) :
    Calls Tryz.prog 12 #[.string s, .int .i64 0] W (NxSays 4 ⟨#[]⟩ ⟨(numL 10 x).toArray⟩ s.size W) := by
  obtain ⟨ds, e1, e2, e3, e4, e5⟩ := num_all (r := 16) (x := x) (n := 4096) (by omega) (by omega) hsz
  rw [e1] at h
  obtain ⟨l1, l2⟩ := list_at2 h
  obtain ⟨u1, u2⟩ := ext_two h
  have l1' : s.size = ds.length + 2 := by rw [l1]; simp
  rw [List.length_map] at u2
  have h0 : 0 < s.size := by omega
  have b0 : s[0].toNat = 48 := by rw [l2 0 h0]; rfl
  have b1 : s[1].toNat = 120 := by rw [l2 1 (by omega)]; rfl
  have hh : ∀ j (h : j < s.size), 2 ≤ j → hexc s[j].toNat := fun j hj hj2 => by
    rw [l2 j hj]
    obtain ⟨k, rfl⟩ : ∃ k, j = k + 2 := ⟨j - 2, by omega⟩
    exact all_sgn (p := hexc) (fun d hd => hexc_sgn hd) e2 (k := k) (by omega)
  refine next_dig h0 (by rw [b0]; exact ⟨by omega, by omega⟩) (by rw [h]; rfl) ⟨fun b W' hb c0 c1 => ?_⟩ W hL
  exact Tryz.numHex b s (s.extract 2 s.size) ds x W' hb (by omega) (by omega) (Lib.hid b0) (Lib.hid b1) (Lib.hid hh) (Lib.hid rfl) (Lib.hid u1) (by omega) (by omega) (by omega) (Lib.hid e2) (Lib.hid e3) (Lib.hid hsz) c0 c1
theorem next_octN {s : ByteArray} {x : Nat} (h : s.data.toList = 48 :: 111 :: numL 8 x) (hsz : ∀ m, Tight x m → sz x m ≤ 4096) (W : World) (hL : Laid0 W) :
    Calls Tryz.prog 12 #[.string s, .int .i64 0] W (NxSays 4 ⟨#[]⟩ ⟨(numL 10 x).toArray⟩ s.size W) := by
  obtain ⟨ds, e1, e2, e3, e4, e5⟩ := num_all (r := 8) (x := x) (n := 4096) (by omega) (by omega) hsz
  rw [e1] at h
  obtain ⟨l1, l2⟩ := list_at2 h
  obtain ⟨u1, u2⟩ := ext_two h
  have l1' : s.size = ds.length + 2 := by rw [l1]; simp
  rw [List.length_map] at u2
  have h0 : 0 < s.size := by omega
  have b0 : s[0].toNat = 48 := by rw [l2 0 h0]; rfl
  have b1 : s[1].toNat = 111 := by rw [l2 1 (by omega)]; rfl
  have hh : ∀ j (h : j < s.size), 2 ≤ j → octc s[j].toNat := fun j hj hj2 => by
    rw [l2 j hj]
    obtain ⟨k, rfl⟩ : ∃ k, j = k + 2 := ⟨j - 2, by omega⟩
    exact all_sgn (p := octc) (fun d hd => octc_sgn hd) e2 (k := k) (by omega)
  refine next_dig h0 (by rw [b0]; exact ⟨by omega, by omega⟩) (by rw [h]; rfl) ⟨fun b W' hb c0 c1 => ?_⟩ W hL
  exact Tryz.numOct b s (s.extract 2 s.size) ds x W' hb (by omega) (by omega) (Lib.hid b0) (Lib.hid b1) (Lib.hid hh) (Lib.hid rfl) (Lib.hid u1) (by omega) (by omega) (by omega) (Lib.hid e2) (Lib.hid e3) (Lib.hid hsz) c0 c1
theorem next_binN {s : ByteArray} {x : Nat} (h : s.data.toList = 48 :: 98 :: numL 2 x) (hsz : ∀ m, Tight x m → sz x m ≤ 4096) (W : World) (hL : Laid0 W) :
    Calls Tryz.prog 12 #[.string s, .int .i64 0] W (NxSays 4 ⟨#[]⟩ ⟨(numL 10 x).toArray⟩ s.size W) := by
  obtain ⟨ds, e1, e2, e3, e4, e5⟩ := num_all (r := 2) (x := x) (n := 4096) (by omega) (by omega) hsz
  rw [e1] at h
  obtain ⟨l1, l2⟩ := list_at2 h
  obtain ⟨u1, u2⟩ := ext_two h
  have l1' : s.size = ds.length + 2 := by rw [l1]; simp
  rw [List.length_map] at u2
  have h0 : 0 < s.size := by omega
  have b0 : s[0].toNat = 48 := by rw [l2 0 h0]; rfl
  have b1 : s[1].toNat = 98 := by rw [l2 1 (by omega)]; rfl
  have hh : ∀ j (h : j < s.size), 2 ≤ j → binc s[j].toNat := fun j hj hj2 => by
    rw [l2 j hj]
    obtain ⟨k, rfl⟩ : ∃ k, j = k + 2 := ⟨j - 2, by omega⟩
    exact all_sgn (p := binc) (fun d hd => binc_sgn hd) e2 (k := k) (by omega)
  refine next_dig h0 (by rw [b0]; exact ⟨by omega, by omega⟩) (by rw [h]; rfl) ⟨fun b W' hb c0 c1 => ?_⟩ W hL
  exact Tryz.numBin b s (s.extract 2 s.size) ds x W' hb (by omega) (by omega) (Lib.hid b0) (Lib.hid b1) (Lib.hid hh) (Lib.hid rfl) (Lib.hid u1) (by omega) (by omega) (by omega) (Lib.hid e2) (Lib.hid e3) (Lib.hid hsz) c0 c1
end Go.Proofs
