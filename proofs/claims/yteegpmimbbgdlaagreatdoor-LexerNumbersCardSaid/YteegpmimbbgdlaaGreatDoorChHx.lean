/- The walk of lexer.scan.character at an escape. -/
import Derived.Test.YteegpmimbbgdlaaGreatDoorChChr
namespace Go.Proofs
open Go.RowKit Go.Bg Go.Hb
theorem Tryz.decode92 (u : ByteArray) (r : List UInt8) (w : World) (hul : Hid (u.data.toList = 92 :: r)) (hL : Laid0 w) :
    Calls Tryz.prog 68 #[.string u] w fun e w' => e = .returned (.tuple #[.int .i32 92, .int .i64 1]) ∧ Below w.heap.size w w' := by
  have hz : 0 < u.size := by
    have h1 : u.data.toList.length = u.size := by simp
    rw [hul.out, List.length_cons] at h1; omega
  have hd : Lib.decodeGo u = (92, 1) := by
    unfold Lib.decodeGo
    rw [if_neg (by omega), decode_low u 0 92 r (by decide) (by rw [List.drop_zero, hul.out])]
    rfl
  refine (Tryz.utf8_DecodeRuneInString u w hL.utf8).mono fun e w' ⟨h1, h2⟩ => ⟨by rw [h1, hd]; rfl, h2⟩
theorem Tryz.escHex3 (s : ByteArray) (e v : Nat) (ds : List Nat) (w : World) (hp : 3 < s.size) (hpe : 4 < e) (he : e < s.size) (hs : s.size ≤ 5000) (hx : Hid (s[3].toNat = 120)) (hh : Hid (∀ j (h : j < s.size), 4 ≤ j → j < e → hexc s[j].toNat)) (h92 : Hid (s[e].toNat = 92))
    (hd : Hid ((s.extract 4 e).data.toList = ds.map sgn)) (hl : e - 4 ≤ 10) (hd16 : Hid (∀ d ∈ ds, d < 16)) (hv : Hid (valL 16 ds = v)) (hok : okRune v) :
    Calls Tryz.prog 78 #[.string s, .int .i64 3] w (EscSays v e w) := Tryz.escHex s 3 e v ds w hp hpe he hs hx hh h92 hd hl hd16 hv hok
set_option maxRecDepth 100000 in
set_option maxHeartbeats 8000000 in
theorem Tryz.chrHex (b : Nat) (s u : ByteArray) (v e : Nat) (r : List UInt8) (ds : List Nat) (w : World) (hb : b < w.heap.size) (hs : s.size = e + 1) (hs5 : s.size ≤ 5000) (hu : Hid (s.extract 2 s.size = u)) (hul : Hid (u.data.toList = 92 :: r)) (hok : Hid (okRune v)) (hvm : v ≤ 1114111)
    (h3 : 3 < s.size) (h4 : 4 < e) (he : e < s.size) (hx : Hid (s[3].toNat = 120)) (hh : Hid (∀ j (h : j < s.size), 4 ≤ j → j < e → hexc s[j].toNat)) (h92 : Hid (s[e].toNat = 92))
    (hd : Hid ((s.extract 4 e).data.toList = ds.map sgn)) (hl : e - 4 ≤ 10) (hd16 : Hid (∀ d ∈ ds, d < 16)) (hv : Hid (valL 16 ds = v)) (hL : Laid0 w)
    (c0 : w.cell? ⟨b, 0, none⟩ = some (.string s)) (c1 : w.cell? ⟨b, 1, none⟩ = some (.int .i64 0)) :
    Calls Tryz.prog 69 #[.pointer (some ⟨b, 0, none⟩)] w (ChrSays (numL 10 v) (e + 1) w) := by
  have k1 : b < w.heap.size + 1 := by omega
  have k2 : b < w.heap.size + 1 + 1 := by omega
  have hs2 : (2 : Int) < s.size := by omega
  have HS := Lib.hid hs
  clear hs
  go_enter Tryz.func69, Tryz.ntmps69
  go_wp2_with fail
  rw [hu.out]
  generalize hW1 : (w.alloc _).alloc _ = W1
  have sz : W1.heap.size = w.heap.size + 2 := by subst hW1; simp
  have bl : Below w.heap.size w W1 := by subst hW1; exact ((Below.refl _ _).alloc (Nat.le_refl _) _).alloc (by simp) _
  have tok0 : W1.heap[w.heap.size]? = some (.cells (emptyTok 0) 25 (0, 0)) := by
    subst hW1
    rw [Lib.alloc_old _ _ _ (by simp)]
    exact heap_alloc_new w _
  have tok1 : W1.heap[w.heap.size + 1]? = some (.cells (emptyTok 4) 25 (0, 0)) := by
    subst hW1
    have := heap_alloc_new (w.alloc (.cells (emptyTok 0) 25)) (.cells (emptyTok 4) 25)
    rw [show (w.alloc (.cells (emptyTok 0) 25)).heap.size = w.heap.size + 1 by simp] at this
    exact this
  have L1 : Laid0 W1 := hL.below bl
  clear hW1
  go_wp2_with (go_at_call 68; (with_reducible refine (Tryz.decode92 u r _ hul L1).mono ?_))
  rintro e W2 ⟨rfl, b2⟩
  have C0 : W2.cell? ⟨b, 0, none⟩ = some (.string s) := (b2.cell (p := ⟨b, 0, none⟩) (by show b < W1.heap.size; omega)).trans ((bl.cell (p := ⟨b, 0, none⟩) hb).trans c0)
  have C1 : W2.cell? ⟨b, 1, none⟩ = some (.int .i64 0) := (b2.cell (p := ⟨b, 1, none⟩) (by show b < W1.heap.size; omega)).trans ((bl.cell (p := ⟨b, 1, none⟩) hb).trans c1)
  have L2 : Laid0 W2 := L1.below b2
  have BT := Lib.hid (bl.trans (b2.mono (by omega)))
  have TK0 := Lib.hid ((b2.block w.heap.size (by omega)).trans tok0)
  have TK1 := Lib.hid ((b2.block (w.heap.size + 1) (by omega)).trans tok1)
  have sz2 : w.heap.size + 2 ≤ W2.heap.size := by have := b2.size; omega
  have SZ := Lib.hid sz2
  clear b2 bl tok0 tok1 sz sz2
  go_wp2_with (go_at_call 78; (with_reducible refine (Tryz.escHex3 s e v ds _ h3 h4 he hs5 hx hh h92 hd hl hd16 hv hok.out).mono ?_))
  rintro e' W4 ⟨rfl, b4⟩
  have L4 : Laid0 W4 := L2.below b4
  have BT4 := Lib.hid (BT.out.trans (b4.mono (by have := SZ.out; omega)))
  have TK04 := Lib.hid ((b4.block w.heap.size (by have := SZ.out; omega)).trans TK0.out)
  have TK14 := Lib.hid ((b4.block (w.heap.size + 1) (by have := SZ.out; omega)).trans TK1.out)
  have SZ4 : Hid (w.heap.size + 2 ≤ W4.heap.size) := Lib.hid (by have := b4.size; have := SZ.out; omega)
  clear b4 C0 C1
  go_wp2_with (go_at_call 92; (with_reducible refine (Tryz.itoa v _ hvm L4).mono ?_))
  rintro e' W3 ⟨rfl, b3⟩
  have T0 := (b3.block w.heap.size (by have := SZ4.out; omega)).trans TK04.out
  have T1 := (b3.block (w.heap.size + 1) (by have := SZ4.out; omega)).trans TK14.out
  have x00 : W3.cell? ⟨w.heap.size, 0, none⟩ = some (.int .i64 0) := by rw [Lib.cell_of_heap T0]; rfl
  have y00 : W3.frozen? ⟨w.heap.size, 0, none⟩ = false := Lib.frozen_of_heap T0 0
  have x01 : W3.cell? ⟨w.heap.size, 1, none⟩ = some (.string ⟨#[]⟩) := by rw [Lib.cell_of_heap T0]; rfl
  have y01 : W3.frozen? ⟨w.heap.size, 1, none⟩ = false := Lib.frozen_of_heap T0 1
  have x02 : W3.cell? ⟨w.heap.size, 2, none⟩ = some (.string ⟨#[]⟩) := by rw [Lib.cell_of_heap T0]; rfl
  have y02 : W3.frozen? ⟨w.heap.size, 2, none⟩ = false := Lib.frozen_of_heap T0 2
  have x03 : W3.cell? ⟨w.heap.size, 3, none⟩ = some (.int .u64 0) := by rw [Lib.cell_of_heap T0]; rfl
  have y03 : W3.frozen? ⟨w.heap.size, 3, none⟩ = false := Lib.frozen_of_heap T0 3
  have x04 : W3.cell? ⟨w.heap.size, 4, none⟩ = some (.int .i64 0) := by rw [Lib.cell_of_heap T0]; rfl
  have y04 : W3.frozen? ⟨w.heap.size, 4, none⟩ = false := Lib.frozen_of_heap T0 4
  have x05 : W3.cell? ⟨w.heap.size, 5, none⟩ = some (.int .i64 0) := by rw [Lib.cell_of_heap T0]; rfl
  have y05 : W3.frozen? ⟨w.heap.size, 5, none⟩ = false := Lib.frozen_of_heap T0 5
  have x06 : W3.cell? ⟨w.heap.size, 6, none⟩ = some (.bool false) := by rw [Lib.cell_of_heap T0]; rfl
  have y06 : W3.frozen? ⟨w.heap.size, 6, none⟩ = false := Lib.frozen_of_heap T0 6
  have x10 : W3.cell? ⟨w.heap.size + 1, 0, none⟩ = some (.int .i64 4) := by rw [Lib.cell_of_heap T1]; rfl
  have y10 : W3.frozen? ⟨w.heap.size + 1, 0, none⟩ = false := Lib.frozen_of_heap T1 0
  have x11 : W3.cell? ⟨w.heap.size + 1, 1, none⟩ = some (.string ⟨#[]⟩) := by rw [Lib.cell_of_heap T1]; rfl
  have y11 : W3.frozen? ⟨w.heap.size + 1, 1, none⟩ = false := Lib.frozen_of_heap T1 1
  have x12 : W3.cell? ⟨w.heap.size + 1, 2, none⟩ = some (.string ⟨#[]⟩) := by rw [Lib.cell_of_heap T1]; rfl
  have y12 : W3.frozen? ⟨w.heap.size + 1, 2, none⟩ = false := Lib.frozen_of_heap T1 2
  have x13 : W3.cell? ⟨w.heap.size + 1, 3, none⟩ = some (.int .u64 0) := by rw [Lib.cell_of_heap T1]; rfl
  have y13 : W3.frozen? ⟨w.heap.size + 1, 3, none⟩ = false := Lib.frozen_of_heap T1 3
  have x14 : W3.cell? ⟨w.heap.size + 1, 4, none⟩ = some (.int .i64 0) := by rw [Lib.cell_of_heap T1]; rfl
  have y14 : W3.frozen? ⟨w.heap.size + 1, 4, none⟩ = false := Lib.frozen_of_heap T1 4
  have x15 : W3.cell? ⟨w.heap.size + 1, 5, none⟩ = some (.int .i64 0) := by rw [Lib.cell_of_heap T1]; rfl
  have y15 : W3.frozen? ⟨w.heap.size + 1, 5, none⟩ = false := Lib.frozen_of_heap T1 5
  have x16 : W3.cell? ⟨w.heap.size + 1, 6, none⟩ = some (.bool false) := by rw [Lib.cell_of_heap T1]; rfl
  have y16 : W3.frozen? ⟨w.heap.size + 1, 6, none⟩ = false := Lib.frozen_of_heap T1 6
  have BT2 := Lib.hid (BT4.out.trans (b3.mono (by have := SZ4.out; omega)))
  clear b3 T0 T1
  go_wp2_with fail
  refine bodyPost_ret (v := .tuple #[.agg #[.int .i64 4, .string ⟨#[]⟩, .string ⟨(numL 10 v).toArray⟩, .int .u64 0, .int .i64 0, .int .i64 (2 + ((e : Int) + 1 - 2)), .bool false], .int .i64 0, .int .i64 0, .bool true]) ?_ rfl ⟨?_, ?_⟩
  · simp only [results, Tryz.results69]
    go_simp
  · have e2 : (((e + 1 : Nat)) : Int) = 2 + ((e : Int) + 1 - 2) := by omega
    rw [e2]
  · iterate 9 refine Below.setCell ?_ (by simp) _
    exact BT2.out
end Go.Proofs
