/- The walk of the law LexerNumbers. -/
import Derived.Test.YteegpmimbbgdlaaGreatDoorNuTok
import Derived.Test.YteegpmimbbgdlaaGreatDoorQtLaw
namespace Go.Proofs
open Go.RowKit Go.Bg Go.Hb
open Go.Proofs.YteegpmimbbgdlaaGreatDoor Go.Proofs.YteegpmimbbgdlaaGreatDoor.Ab
theorem awake_at {W : World} (h : Laid0 W) : Calls Tryz.prog 11 #[] W fun e W' => e = .returned (.bool true) ∧ Below W.heap.size W W' := by
  obtain ⟨W0, h1, h2, h3, _⟩ := h
  obtain ⟨st', hr⟩ := saysTrue_spec awake_run
  obtain ⟨c, hc⟩ : ∃ c, Tryz.f11.body = some c := ⟨_, rfl⟩
  refine (ev_calls_at (E := env) (σ := Rho.no.sg) fits rfl (Nat.le_refl _) rows_ok Tryz.func11 hc (fx := []) (fun p hp => by cases hp) hr h3 h1 h2 .nil).mono fun e W' ⟨q, ρ, h1, h2, h3⟩ => ?_
  cases h2
  exact ⟨h1, h3⟩
theorem Tryz.textR (v : Value) (x m r : Nat) (w : World) (hm : m ≤ 70368744177664) (hr : 2 ≤ r) (hr2 : r ≤ 36) (hv : Hid (LimV w v x m)) (hsz : Hid (∀ m', Tight x m' → sz x m' ≤ 4096)) :
    Calls Tryz.prog 20 #[.agg #[.bool false, v], .int .i64 r] w fun e w' => e = .returned (.tuple #[.string ⟨(numL r x).toArray⟩, .int .i64 0]) ∧ Below w.heap.size w w' := by
  refine (Tryz.text v x m r w hm hr hr2 hv hsz).mono fun e w' ⟨t, h1, h2, h3⟩ => ⟨?_, h3⟩
  have : t = ⟨(numL r x).toArray⟩ := by
    apply ByteArray.ext
    apply Array.toList_inj.1
    rw [h2]
  rw [h1, this]
theorem Tryz.text16N (v : Value) (x m : Nat) (w : World) (hm : m ≤ 70368744177664) (hv : Hid (LimV w v x m)) (hsz : Hid (∀ m', Tight x m' → sz x m' ≤ 4096)) :
    Calls Tryz.prog 20 #[.agg #[.bool false, v], .int .i64 16] w fun e w' => e = .returned (.tuple #[.string ⟨(numL 16 x).toArray⟩, .int .i64 0]) ∧ Below w.heap.size w w' := Tryz.textR v x m 16 w hm (by omega) (by omega) hv hsz
theorem Tryz.text8N (v : Value) (x m : Nat) (w : World) (hm : m ≤ 70368744177664) (hv : Hid (LimV w v x m)) (hsz : Hid (∀ m', Tight x m' → sz x m' ≤ 4096)) :
    Calls Tryz.prog 20 #[.agg #[.bool false, v], .int .i64 8] w fun e w' => e = .returned (.tuple #[.string ⟨(numL 8 x).toArray⟩, .int .i64 0]) ∧ Below w.heap.size w w' := Tryz.textR v x m 8 w hm (by omega) (by omega) hv hsz
theorem Tryz.text2N (v : Value) (x m : Nat) (w : World) (hm : m ≤ 70368744177664) (hv : Hid (LimV w v x m)) (hsz : Hid (∀ m', Tight x m' → sz x m' ≤ 4096)) :
    Calls Tryz.prog 20 #[.agg #[.bool false, v], .int .i64 2] w fun e w' => e = .returned (.tuple #[.string ⟨(numL 2 x).toArray⟩, .int .i64 0]) ∧ Below w.heap.size w w' := Tryz.textR v x m 2 w hm (by omega) (by omega) hv hsz
/-- The four texts. -/
def numT (x : Nat) : Nat → ByteArray
  | 0 => ⟨(numL 10 x).toArray⟩
  | 1 => ⟨#[48, 120]⟩ ++ ⟨(numL 16 x).toArray⟩
  | 2 => ⟨#[48, 111]⟩ ++ ⟨(numL 8 x).toArray⟩
  | _ => ⟨#[48, 98]⟩ ++ ⟨(numL 2 x).toArray⟩
theorem cat_two (a b : UInt8) (l : List UInt8) : (({ data := #[a, b] } : ByteArray) ++ { data := l.toArray }).data.toList = a :: b :: l := by
  rw [ByteArray.data_append]; simp
theorem numT_next (x k : Nat) (hsz : ∀ m, Tight x m → sz x m ≤ 4096) (W : World) (hL : Laid0 W) :
    Calls Tryz.prog 12 #[.string (numT x k), .int .i64 0] W (NxSays 4 ⟨#[]⟩ ⟨(numL 10 x).toArray⟩ (numT x k).size W) := by
  match k with
  | 0 => exact next_ten (by rfl) hsz W hL
  | 1 => exact next_hexN (cat_two _ _ _) hsz W hL
  | 2 => exact next_octN (cat_two _ _ _) hsz W hL
  | k + 3 => exact next_binN (cat_two _ _ _) hsz W hL
theorem numL_le {r x : Nat} (hr : 2 ≤ r) (hsz : ∀ m, Tight x m → sz x m ≤ 4096) : (numL r x).length ≤ 4096 := by
  obtain ⟨ds, e1, _, _, _, e5⟩ := num_all hr (n := 4096) (by omega) hsz
  rw [e1, List.length_map]; exact e5
set_option maxRecDepth 100000 in
set_option maxHeartbeats 8000000 in
theorem Tryz.lawNumbers_big (neg : Bool) (sl : Value) (x m : Nat) (w : World) (L0 : Laid0 w) (hm : m ≤ 70368744177664) (hv : Hid (LimV w sl x m)) (hsz : Hid (∀ m', Tight x m' → 4096 < sz x m')) : Calls Tryz.prog 8 #[.agg #[.bool neg, sl]] w (LawSays w) := by
  obtain ⟨a, c, rfl⟩ := hv.out.slice
  go_enter Tryz.func8, Tryz.ntmps8
  go_wp2_with fail
  generalize hW1 : w.alloc _ = W1
  have g1 : W1.heap[w.heap.size]? = some (.cells #[.bool neg, .slice a m c] 41 (0, 0)) := by subst hW1; exact heap_alloc_new w _
  have b1 : Below w.heap.size w W1 := by subst hW1; exact (Below.refl _ _).alloc (Nat.le_refl _) _
  have L1 : Laid0 W1 := L0.below b1
  clear hW1
  go_wp2_with (go_at_call 11; (with_reducible refine (awake_at L1).mono ?_))
  rintro e W2 ⟨rfl, b2⟩
  have g2 := (b2.block w.heap.size (Array.getElem?_eq_some_iff.1 g1).1).trans g1
  have p2 : W2.cell? ⟨w.heap.size, 0, none⟩ = some (.bool neg) := by rw [Lib.cell_of_heap g2]; rfl
  have q2 : W2.cell? ⟨w.heap.size, 1, none⟩ = some (.slice a m c) := by rw [Lib.cell_of_heap g2]; rfl
  have f2 : W2.frozen? ⟨w.heap.size, 0, none⟩ = false := Lib.frozen_of_heap g2 0
  have B2 := Lib.hid (b1.trans (b2.mono b1.size))
  have L2 : Laid0 W2 := L1.below b2
  have H2 := Lib.hid (hv.out.below B2.out)
  have k2 : w.heap.size < W2.heap.size := (Array.getElem?_eq_some_iff.1 g2).1
  clear g1 b1 b2
  go_wp2_with fail
  generalize hW3 : W2.setCell _ _ = W3
  have p3 : W3.cell? ⟨w.heap.size, 0, none⟩ = some (.bool false) := by subst hW3; go_simp
  have q3 : W3.cell? ⟨w.heap.size, 1, none⟩ = some (.slice a m c) := by subst hW3; go_simp
  have B3 : Hid (Below w.heap.size w W3) := Lib.hid (by subst hW3; exact B2.out.setCell (p := ⟨w.heap.size, 0, none⟩) (Nat.le_refl _) _)
  have H3 := Lib.hid (show LimV W3 (.slice a m c) x m by subst hW3; exact H2.out.setCell p2 (fun _ _ h => by cases h) _)
  have k3 : w.heap.size < W3.heap.size := by subst hW3; simpa using k2
  have L3 : Laid0 W3 := L0.below B3.out
  clear hW3 p2 q2 f2 g2
  go_wp2_with (go_at_call 20; (with_reducible refine (Tryz.textBig (.slice a m c) x m _ _ hm H3 hsz).mono ?_))
  rintro e W4 ⟨rfl, b4⟩
  have p4 : W4.cell? ⟨w.heap.size, 0, none⟩ = some (.bool false) := (b4.cell (p := ⟨w.heap.size, 0, none⟩) k3).trans p3
  have q4 : W4.cell? ⟨w.heap.size, 1, none⟩ = some (.slice a m c) := (b4.cell (p := ⟨w.heap.size, 1, none⟩) k3).trans q3
  have H4 := Lib.hid (H3.out.below b4)
  have B4 := Lib.hid (B3.out.trans (b4.mono B3.out.size))
  clear b4 p3 q3
  go_wp2_with (go_at_call 21; (with_reducible refine (Tryz.bigBits false (.slice a m c) x m _ hm H4).mono ?_))
  rintro e W5 ⟨m', ht, rfl, b5⟩
  have hd : decide ((4096 : Int) < (sz x m' : Nat)) = true := decide_eq_true (by have := hsz.out m' ht; omega)
  have B5 := Lib.hid (B4.out.trans (b5.mono B4.out.size))
  clear b5
  go_wp2
  go_ret
  exact ⟨rfl, B5.out⟩
structure NxOk (T num : ByteArray) : Prop where
  out : ∀ W : World, Laid0 W → Calls Tryz.prog 12 #[.string T, .int .i64 0] W (NxSays 4 ⟨#[]⟩ num T.size W)
set_option maxRecDepth 100000 in
set_option maxHeartbeats 8000000 in
theorem Tryz.lawNumbers_ok (neg : Bool) (sl : Value) (x m : Nat) (w : World) (L0 : Laid0 w) (hm : m ≤ 70368744177664) (hv : Hid (LimV w sl x m)) (hsz : Hid (∀ m', Tight x m' → sz x m' ≤ 4096)) : Calls Tryz.prog 8 #[.agg #[.bool neg, sl]] w (LawSays w) := by
  obtain ⟨a, c, rfl⟩ := hv.out.slice
  go_enter Tryz.func8, Tryz.ntmps8
  go_wp2_with fail
  generalize hW1 : w.alloc _ = W1
  have g1 : W1.heap[w.heap.size]? = some (.cells #[.bool neg, .slice a m c] 41 (0, 0)) := by subst hW1; exact heap_alloc_new w _
  have b1 : Below w.heap.size w W1 := by subst hW1; exact (Below.refl _ _).alloc (Nat.le_refl _) _
  have L1 : Laid0 W1 := L0.below b1
  clear hW1
  go_wp2_with (go_at_call 11; (with_reducible refine (awake_at L1).mono ?_))
  rintro e W2 ⟨rfl, b2⟩
  have g2 := (b2.block w.heap.size (Array.getElem?_eq_some_iff.1 g1).1).trans g1
  have p2 : W2.cell? ⟨w.heap.size, 0, none⟩ = some (.bool neg) := by rw [Lib.cell_of_heap g2]; rfl
  have q2 : W2.cell? ⟨w.heap.size, 1, none⟩ = some (.slice a m c) := by rw [Lib.cell_of_heap g2]; rfl
  have f2 : W2.frozen? ⟨w.heap.size, 0, none⟩ = false := Lib.frozen_of_heap g2 0
  have B2 := Lib.hid (b1.trans (b2.mono b1.size))
  have L2 : Laid0 W2 := L1.below b2
  have H2 := Lib.hid (hv.out.below B2.out)
  have k2 : w.heap.size < W2.heap.size := (Array.getElem?_eq_some_iff.1 g2).1
  clear g1 b1 b2
  go_wp2_with fail
  generalize hW3 : W2.setCell _ _ = W3
  have p3 : W3.cell? ⟨w.heap.size, 0, none⟩ = some (.bool false) := by subst hW3; go_simp
  have q3 : W3.cell? ⟨w.heap.size, 1, none⟩ = some (.slice a m c) := by subst hW3; go_simp
  have B3 : Hid (Below w.heap.size w W3) := Lib.hid (by subst hW3; exact B2.out.setCell (p := ⟨w.heap.size, 0, none⟩) (Nat.le_refl _) _)
  have H3 := Lib.hid (show LimV W3 (.slice a m c) x m by subst hW3; exact H2.out.setCell p2 (fun _ _ h => by cases h) _)
  have k3 : w.heap.size < W3.heap.size := by subst hW3; simpa using k2
  have L3 : Laid0 W3 := L0.below B3.out
  clear hW3 p2 q2 f2 g2
  go_wp2_with (go_at_call 20; (with_reducible refine (Tryz.textTen (.slice a m c) x m _ hm H3 hsz).mono ?_))
  rintro e W4 ⟨rfl, b4⟩
  have p4 : W4.cell? ⟨w.heap.size, 0, none⟩ = some (.bool false) := (b4.cell (p := ⟨w.heap.size, 0, none⟩) k3).trans p3
  have q4 : W4.cell? ⟨w.heap.size, 1, none⟩ = some (.slice a m c) := (b4.cell (p := ⟨w.heap.size, 1, none⟩) k3).trans q3
  have H4 := Lib.hid (H3.out.below b4)
  have B4 := Lib.hid (B3.out.trans (b4.mono B3.out.size))
  have k4 : w.heap.size < W4.heap.size := Nat.lt_of_lt_of_le k3 b4.size
  clear b4 p3 q3 H3 k3
  go_wp2_with (go_at_call 20; (with_reducible refine (Tryz.text16N (.slice a m c) x m _ hm H4 hsz).mono ?_))
  rintro e W5 ⟨rfl, b5⟩
  have p5 : W5.cell? ⟨w.heap.size, 0, none⟩ = some (.bool false) := (b5.cell (p := ⟨w.heap.size, 0, none⟩) k4).trans p4
  have q5 : W5.cell? ⟨w.heap.size, 1, none⟩ = some (.slice a m c) := (b5.cell (p := ⟨w.heap.size, 1, none⟩) k4).trans q4
  have H5 := Lib.hid (H4.out.below b5)
  have B5 := Lib.hid (B4.out.trans (b5.mono B4.out.size))
  have k5 : w.heap.size < W5.heap.size := Nat.lt_of_lt_of_le k4 b5.size
  clear b5 p4 q4 H4 k4
  go_wp2_with (go_at_call 20; (with_reducible refine (Tryz.text8N (.slice a m c) x m _ hm H5 hsz).mono ?_))
  rintro e W6 ⟨rfl, b6⟩
  have p6 : W6.cell? ⟨w.heap.size, 0, none⟩ = some (.bool false) := (b6.cell (p := ⟨w.heap.size, 0, none⟩) k5).trans p5
  have q6 : W6.cell? ⟨w.heap.size, 1, none⟩ = some (.slice a m c) := (b6.cell (p := ⟨w.heap.size, 1, none⟩) k5).trans q5
  have H6 := Lib.hid (H5.out.below b6)
  have B6 := Lib.hid (B5.out.trans (b6.mono B5.out.size))
  have k6 : w.heap.size < W6.heap.size := Nat.lt_of_lt_of_le k5 b6.size
  clear b6 p5 q5 H5 k5
  go_wp2_with (go_at_call 20; (with_reducible refine (Tryz.text2N (.slice a m c) x m _ hm H6 hsz).mono ?_))
  rintro e W7 ⟨rfl, b7⟩
  have p7 : W7.cell? ⟨w.heap.size, 0, none⟩ = some (.bool false) := (b7.cell (p := ⟨w.heap.size, 0, none⟩) k6).trans p6
  have q7 : W7.cell? ⟨w.heap.size, 1, none⟩ = some (.slice a m c) := (b7.cell (p := ⟨w.heap.size, 1, none⟩) k6).trans q6
  have H7 := Lib.hid (H6.out.below b7)
  have B7 := Lib.hid (B6.out.trans (b7.mono B6.out.size))
  have k7 : w.heap.size < W7.heap.size := Nat.lt_of_lt_of_le k6 b7.size
  clear b7 p6 q6 H6 k6
  have L7 : Laid0 W7 := L0.below B7.out
  have l10 : (numL 10 x).length ≤ 4096 := numL_le (by omega) hsz.out
  have l16 : (numL 16 x).length ≤ 4096 := numL_le (by omega) hsz.out
  have l8 : (numL 8 x).length ≤ 4096 := numL_le (by omega) hsz.out
  have l2 : (numL 2 x).length ≤ 4096 := numL_le (by omega) hsz.out
  go_wp2_with fail
  generalize hW8 : W7.alloc _ = W8
  obtain ⟨t8, g8⟩ : ∃ t, W8.heap[W7.heap.size]? = some (.cells #[.string (numT x 0), .string (numT x 1), .string (numT x 2), .string (numT x 3)] t (0, 0)) := by subst hW8; exact ⟨_, heap_alloc_new _ _⟩
  have b8 : Below W7.heap.size W7 W8 := by subst hW8; exact (Below.refl _ _).alloc (Nat.le_refl _) _
  have B8 := Lib.hid (B7.out.trans (b8.mono B7.out.size))
  have c8 : Hid (∀ k, k < 4 → W8.cell? ⟨W7.heap.size, k, none⟩ = some (.string (numT x k))) := Lib.hid fun k hk => by
    rw [Lib.cell_of_heap g8]
    match k, hk with
    | 0, _ => rfl
    | 1, _ => rfl
    | 2, _ => rfl
    | 3, _ => rfl
  have k8 : W7.heap.size < W8.heap.size := (Array.getElem?_eq_some_iff.1 g8).1
  obtain ⟨h, hh⟩ : ∃ h, h = W7.heap.size := ⟨_, rfl⟩
  rw [← hh] at c8 k8 ⊢
  clear hW8 g8 b8 hh p7 q7
  go_loopw [13] (fun i wr => ∃ k : Nat, i = .int .i64 k ∧ k ≤ 4 ∧ Below W8.heap.size W8 wr) (fun i _ => 4 - (intOf i).toNat)
  case atStart => exact ⟨0, rfl, by omega, Below.refl _ _⟩
  case round =>
    obtain ⟨k, rfl, hk, hb⟩ := hrel
    by_cases hlt : k < 4
    · have hcell : wr.cell? ⟨h, k, none⟩ = some (.string (numT x k)) := (hb.cell (p := ⟨h, k, none⟩) k8).trans (c8.out k hlt)
      have HN : NxOk (numT x k) ⟨(numL 10 x).toArray⟩ := ⟨fun W hL => numT_next x k hsz.out W hL⟩
      obtain ⟨T, hT⟩ : ∃ T, T = numT x k := ⟨_, rfl⟩
      rw [← hT] at hcell HN
      have Br := Lib.hid (B8.out.trans (hb.mono B8.out.size))
      have Lr : Laid0 wr := L0.below Br.out
      have hki : (k : Int) < 4 := by omega
      have hbs := hb.size
      clear hT
      go_wp2_with (go_at_call 12; (with_reducible refine (HN.out _ Lr).mono ?_))
      rintro e W9 ⟨rfl, b9⟩
      have hc9 : W9.cell? ⟨h, k, none⟩ = some (.string T) := (b9.cell (p := ⟨h, k, none⟩) (by show h < wr.heap.size; omega)).trans hcell
      have hb9 := Lib.hid (hb.trans (b9.mono hbs))
      have k9 : h < W9.heap.size := by have := b9.size; omega
      clear b9 hcell hb
      go_wp2_with fail
      go_quiet (fail)
      go_wp2
      go_roundw
      case rel => exact ⟨k + 1, by go_num, by omega, ((hb9.out.alloc hb9.out.size _).trans ⟨rfl, rfl, rfl, Nat.le_refl _, fun _ _ => rfl⟩)⟩
      case measure => simp [intOf]; omega
    · have Br := Lib.hid (B8.out.trans (hb.mono B8.out.size))
      go_wp2
      go_ret
      exact ⟨rfl, Br.out⟩
end Go.Proofs
