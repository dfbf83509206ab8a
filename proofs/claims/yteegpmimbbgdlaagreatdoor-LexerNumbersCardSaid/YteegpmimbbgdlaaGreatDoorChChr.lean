/- The walk of lexer.scan.character. -/
import Derived.Test.YteegpmimbbgdlaaGreatDoorChTabs
import Derived.Test.YteegpmimbbgdlaaGreatDoorChEsc
import Derived.Test.YteegpmimbbgdlaaGreatDoorQtQtd
namespace Go.Proofs
open Go.RowKit Go.Bg Go.Hb
theorem dec_digits (u : Nat) : Lib.decDigits u = numL 10 u := by
  induction u using Nat.strongRecOn with
  | _ u ih =>
    rw [Lib.decDigits]
    by_cases h : u < 10
    · rw [dif_pos h]
      have key : ∀ k : Fin 10, [UInt8.ofNat (48 + k.val)] = numL 10 k.val := by decide
      exact key ⟨u, h⟩
    · rw [dif_neg h, ih (u / 10) (by omega)]
      unfold numL
      rw [if_neg (by omega), if_neg (by omega), digs_pos (by omega) (show u ≠ 0 by omega), List.map_cons, List.reverse_cons]
      have key : ∀ k : Fin 10, UInt8.ofNat (48 + k.val) = sgn k.val := by decide
      rw [key ⟨u % 10, by omega⟩]
theorem itoa_num (v : Nat) : Lib.itoa (v : Int) = numL 10 v := by
  unfold Lib.itoa
  rw [if_neg (by omega), Int.toNat_natCast, dec_digits]
theorem Tryz.itoa (v : Nat) (w : World) (hv : v ≤ 1114111) (hL : Laid0 w) : Calls Tryz.prog 92 #[.int .i64 v] w fun e w' => e = .returned (.string ⟨(numL 10 v).toArray⟩) ∧ Below w.heap.size w w' := by
  refine (Tryz.strconv_Itoa v (by omega) (by omega) w hL.pow10).mono fun e w' ⟨h1, k, os, h2⟩ => ⟨by rw [h1, itoa_num], ?_⟩
  rw [h2]
  refine ⟨rfl, rfl, rfl, by simp [Go.Sort.grow, World.drewN], fun j hj => ?_⟩
  show (w.heap ++ os)[j]? = _
  rw [Array.getElem?_append_left hj]
theorem Tryz.decode1 (u : ByteArray) (v : Nat) (w : World) (hul : Hid (u.data.toList = Lib.encodeRune v)) (hok : okRune v) (hL : Laid0 w) :
    Calls Tryz.prog 68 #[.string u] w fun e w' => e = .returned (.tuple #[.int .i32 v, .int .i64 (Lib.encodeRune v).length]) ∧ Below w.heap.size w w' := by
  have hl := enc_len v
  have hz : u.size = (Lib.encodeRune v).length := by rw [← hul.out]; simp
  have hd : Lib.decodeGo u = (v, (Lib.encodeRune v).length) := by
    unfold Lib.decodeGo
    rw [if_neg (by omega), decode_enc u 0 hok [] (by rw [List.drop_zero, hul.out, List.append_nil]), Int.toNat_natCast]
  refine (Tryz.utf8_DecodeRuneInString u w hL.utf8).mono fun e w' ⟨h1, h2⟩ => ⟨by rw [h1, hd], h2⟩
def ChrSays (num : List UInt8) (en : Nat) (w : World) (e : Ending) (w' : World) : Prop :=
  e = .returned (.tuple #[.agg #[.int .i64 4, .string ⟨#[]⟩, .string ⟨num.toArray⟩, .int .u64 0, .int .i64 0, .int .i64 en, .bool false], .int .i64 0, .int .i64 0, .bool true]) ∧ Below w.heap.size w w'
set_option maxRecDepth 100000 in
set_option maxHeartbeats 8000000 in
theorem Tryz.chrPlain (b : Nat) (s u : ByteArray) (v len : Nat) (w : World) (hb : b < w.heap.size) (hs : s.size = 2 + len) (hu : Hid (s.extract 2 s.size = u)) (hul : Hid (u.data.toList = Lib.encodeRune v)) (hlen : Hid (len = (Lib.encodeRune v).length)) (h4 : len ≤ 4) (h1 : 1 ≤ len) (hok : Hid (okRune v)) (hvm : v ≤ 1114111)
    (n10 : v ≠ 10) (n39 : v ≠ 39) (n92 : v ≠ 92) (hL : Laid0 w)
    (c0 : w.cell? ⟨b, 0, none⟩ = some (.string s)) (c1 : w.cell? ⟨b, 1, none⟩ = some (.int .i64 0)) :
    Calls Tryz.prog 69 #[.pointer (some ⟨b, 0, none⟩)] w (ChrSays (numL 10 v) (2 + len) w) := by
  have k1 : b < w.heap.size + 1 := by omega
  have k2 : b < w.heap.size + 1 + 1 := by omega
  have f1 : ((v : Int) == 10) = false := ne_fact (n := 10) n10
  have f2 : ((v : Int) == 39) = false := ne_fact (n := 39) n39
  have f3 : ((v : Int) == 92) = false := ne_fact (n := 92) n92
  have hs2 : (2 : Int) < s.size := by omega
  have HS := Lib.hid hs
  have f4 : ((v : Int) == 65533) = false ∨ (((v : Int) == 65533) = true ∧ ((len : Int) == 1) = false) := by
    by_cases h : v = 65533
    · refine .inr ⟨by rw [h]; rfl, ?_⟩
      have : len = 3 := by rw [hlen.out, h]; rfl
      rw [this]; rfl
    · exact .inl (ne_fact (n := 65533) h)
  clear hs n10 n39 n92
  go_enter Tryz.func69, Tryz.ntmps69
  go_wp2_with fail
  rw [hu.out]
  generalize hW1 : (w.alloc _).alloc _ = W1
  have sz : W1.heap.size = w.heap.size + 2 := by subst hW1; simp
  have bl : Below w.heap.size w W1 := by subst hW1; exact ((Below.refl _ _).alloc (Nat.le_refl _) _).alloc (by simp) _
  have tok0 : W1.heap[w.heap.size]? = some (.cells (emptyTok 0) 25 (0, 0)) := by
    subst hW1
    rw [Lib.alloc_old _ _ _ (by simp)]
    exact heap_alloc_new w _
  have tok1 : W1.heap[w.heap.size + 1]? = some (.cells (emptyTok 4) 25 (0, 0)) := by
    subst hW1
    have := heap_alloc_new (w.alloc (.cells (emptyTok 0) 25)) (.cells (emptyTok 4) 25)
    rw [show (w.alloc (.cells (emptyTok 0) 25)).heap.size = w.heap.size + 1 by simp] at this
    exact this
  have L1 : Laid0 W1 := hL.below bl
  clear hW1
  go_wp2_with (go_at_call 68; (with_reducible refine (Tryz.decode1 u v _ hul hok.out L1).mono ?_))
  rintro e W2 ⟨rfl, b2⟩
  rw [← hlen.out]
  have C0 : W2.cell? ⟨b, 0, none⟩ = some (.string s) := (b2.cell (p := ⟨b, 0, none⟩) (by show b < W1.heap.size; omega)).trans ((bl.cell (p := ⟨b, 0, none⟩) hb).trans c0)
  have C1 : W2.cell? ⟨b, 1, none⟩ = some (.int .i64 0) := (b2.cell (p := ⟨b, 1, none⟩) (by show b < W1.heap.size; omega)).trans ((bl.cell (p := ⟨b, 1, none⟩) hb).trans c1)
  have L2 : Laid0 W2 := L1.below b2
  have BT := Lib.hid (bl.trans (b2.mono (by omega)))
  have TK0 := Lib.hid ((b2.block w.heap.size (by omega)).trans tok0)
  have TK1 := Lib.hid ((b2.block (w.heap.size + 1) (by omega)).trans tok1)
  have sz2 : w.heap.size + 2 ≤ W2.heap.size := by have := b2.size; omega
  have SZ := Lib.hid sz2
  clear b2 bl tok0 tok1 sz sz2
  rcases f4 with f4 | ⟨f4, f5⟩
  all_goals
    go_wp2_with (go_at_call 92; (with_reducible refine (Tryz.itoa v _ hvm L2).mono ?_))
    rintro e W3 ⟨rfl, b3⟩
    have T0 := (b3.block w.heap.size (by have := SZ.out; omega)).trans TK0.out
    have T1 := (b3.block (w.heap.size + 1) (by have := SZ.out; omega)).trans TK1.out
    have x00 : W3.cell? ⟨w.heap.size, 0, none⟩ = some (.int .i64 0) := by rw [Lib.cell_of_heap T0]; rfl
    have y00 : W3.frozen? ⟨w.heap.size, 0, none⟩ = false := Lib.frozen_of_heap T0 0
    have x01 : W3.cell? ⟨w.heap.size, 1, none⟩ = some (.string ⟨#[]⟩) := by rw [Lib.cell_of_heap T0]; rfl
    have y01 : W3.frozen? ⟨w.heap.size, 1, none⟩ = false := Lib.frozen_of_heap T0 1
    have x02 : W3.cell? ⟨w.heap.size, 2, none⟩ = some (.string ⟨#[]⟩) := by rw [Lib.cell_of_heap T0]; rfl
    have y02 : W3.frozen? ⟨w.heap.size, 2, none⟩ = false := Lib.frozen_of_heap T0 2
    have x03 : W3.cell? ⟨w.heap.size, 3, none⟩ = some (.int .u64 0) := by rw [Lib.cell_of_heap T0]; rfl
    have y03 : W3.frozen? ⟨w.heap.size, 3, none⟩ = false := Lib.frozen_of_heap T0 3
    have x04 : W3.cell? ⟨w.heap.size, 4, none⟩ = some (.int .i64 0) := by rw [Lib.cell_of_heap T0]; rfl
    have y04 : W3.frozen? ⟨w.heap.size, 4, none⟩ = false := Lib.frozen_of_heap T0 4
    have x05 : W3.cell? ⟨w.heap.size, 5, none⟩ = some (.int .i64 0) := by rw [Lib.cell_of_heap T0]; rfl
    have y05 : W3.frozen? ⟨w.heap.size, 5, none⟩ = false := Lib.frozen_of_heap T0 5
    have x06 : W3.cell? ⟨w.heap.size, 6, none⟩ = some (.bool false) := by rw [Lib.cell_of_heap T0]; rfl
    have y06 : W3.frozen? ⟨w.heap.size, 6, none⟩ = false := Lib.frozen_of_heap T0 6
    have x10 : W3.cell? ⟨w.heap.size + 1, 0, none⟩ = some (.int .i64 4) := by rw [Lib.cell_of_heap T1]; rfl
    have y10 : W3.frozen? ⟨w.heap.size + 1, 0, none⟩ = false := Lib.frozen_of_heap T1 0
    have x11 : W3.cell? ⟨w.heap.size + 1, 1, none⟩ = some (.string ⟨#[]⟩) := by rw [Lib.cell_of_heap T1]; rfl
    have y11 : W3.frozen? ⟨w.heap.size + 1, 1, none⟩ = false := Lib.frozen_of_heap T1 1
    have x12 : W3.cell? ⟨w.heap.size + 1, 2, none⟩ = some (.string ⟨#[]⟩) := by rw [Lib.cell_of_heap T1]; rfl
    have y12 : W3.frozen? ⟨w.heap.size + 1, 2, none⟩ = false := Lib.frozen_of_heap T1 2
    have x13 : W3.cell? ⟨w.heap.size + 1, 3, none⟩ = some (.int .u64 0) := by rw [Lib.cell_of_heap T1]; rfl
    have y13 : W3.frozen? ⟨w.heap.size + 1, 3, none⟩ = false := Lib.frozen_of_heap T1 3
    have x14 : W3.cell? ⟨w.heap.size + 1, 4, none⟩ = some (.int .i64 0) := by rw [Lib.cell_of_heap T1]; rfl
    have y14 : W3.frozen? ⟨w.heap.size + 1, 4, none⟩ = false := Lib.frozen_of_heap T1 4
    have x15 : W3.cell? ⟨w.heap.size + 1, 5, none⟩ = some (.int .i64 0) := by rw [Lib.cell_of_heap T1]; rfl
    have y15 : W3.frozen? ⟨w.heap.size + 1, 5, none⟩ = false := Lib.frozen_of_heap T1 5
    have x16 : W3.cell? ⟨w.heap.size + 1, 6, none⟩ = some (.bool false) := by rw [Lib.cell_of_heap T1]; rfl
    have y16 : W3.frozen? ⟨w.heap.size + 1, 6, none⟩ = false := Lib.frozen_of_heap T1 6
    have BT2 := Lib.hid (BT.out.trans (b3.mono (by have := SZ.out; omega)))
    clear b3 T0 T1
    go_wp2_with fail
    refine bodyPost_ret (v := .tuple #[.agg #[.int .i64 4, .string ⟨#[]⟩, .string ⟨(numL 10 v).toArray⟩, .int .u64 0, .int .i64 0, .int .i64 (2 + (len : Int)), .bool false], .int .i64 0, .int .i64 0, .bool true]) ?_ rfl ⟨?_, ?_⟩
    · simp only [results, Tryz.results69]
      go_simp
    · have e : (((2 + len : Nat)) : Int) = 2 + (len : Int) := by omega
      rw [e]
    · iterate 9 refine Below.setCell ?_ (by simp) _
      exact BT2.out
end Go.Proofs
