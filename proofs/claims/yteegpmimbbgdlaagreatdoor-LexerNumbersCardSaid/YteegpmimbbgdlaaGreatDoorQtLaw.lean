import Derived.Test.YteegpmimbbgdlaaGreatDoorQtNext
/- The walk of lexer.Next at a text that 'quote' has made. -/
namespace Go.Proofs
open Go.RowKit Go.Hb
def NextSays (name : List UInt8) (s : ByteArray) (w : World) (e : Ending) (w' : World) : Prop :=
  e = .returned (.tuple #[.agg #[.int .i64 2, .string ⟨name.toArray⟩, .string ⟨#[]⟩, .int .u64 0, .int .i64 0, .int .i64 s.size, .bool false], .int .i64 0]) ∧ Below w.heap.size w w'
set_option maxRecDepth 100000 in
set_option maxHeartbeats 8000000 in
theorem Tryz.next (s t : ByteArray) (name : List UInt8) (w : World) (hs : s.size ≤ 5000) (h0 : 0 < s.size) (ht : Hid (s.extract 1 s.size = t)) (hc : Hid (s.data.toList = 39 :: t.data.toList)) (htl : Hid (t.data.toList = qb name ++ [39])) (hch : Chars name) (hnl : name.length ≤ 1000) (hL : Laid0 w)
    (h39 : Hid ((s[0].toNat : Int) = 39)) (hp : Hid (Lib.hasPrefix s.data.toList [47, 42] = false)) :
    Calls Tryz.prog 12 #[.string s, .int .i64 0] w (NextSays name s w) := by
  go_enter Tryz.func12, Tryz.ntmps12
  go_wp2_with fail
  generalize hW1 : (w.alloc _).alloc _ = W1
  have C0 : W1.cell? ⟨w.heap.size + 1, 0, none⟩ = some (.string s) := by subst hW1; go_simp
  have C1 : W1.cell? ⟨w.heap.size + 1, 1, none⟩ = some (.int .i64 0) := by subst hW1; go_simp
  have sz : W1.heap.size = w.heap.size + 2 := by subst hW1; simp
  have bl : Below w.heap.size w W1 := by subst hW1; exact ((Below.refl _ _).alloc (Nat.le_refl _) _).alloc (by simp) _
  have tok0 : W1.heap[w.heap.size]? = some (.cells (emptyTok 0) 25 (0, 0)) := by
    subst hW1
    rw [Lib.alloc_old _ _ _ (by simp)]
    exact heap_alloc_new w _
  clear hW1
  go_wp2_with (go_at_call 27; (with_reducible refine (Tryz.layout (w.heap.size + 1) s _ h0 (by have := h39.out; omega) hp.out C0 C1).mono ?_))
  rintro e W2 ⟨rfl, n, rfl⟩
  have D0 : (W1.drewN n).cell? ⟨w.heap.size + 1, 0, none⟩ = some (.string s) := C0
  have D1 : (W1.drewN n).cell? ⟨w.heap.size + 1, 1, none⟩ = some (.int .i64 0) := C1
  have bl2 : Below w.heap.size w (W1.drewN n) := bl.trans ⟨rfl, rfl, rfl, Nat.le_refl _, fun _ _ => rfl⟩
  have tok2 : (W1.drewN n).heap[w.heap.size]? = some (.cells (emptyTok 0) 25 (0, 0)) := tok0
  have sz2 : (W1.drewN n).heap.size = w.heap.size + 2 := sz
  have L2 : Laid0 (W1.drewN n) := hL.below bl2
  have SZ := Lib.hid sz2
  clear sz2 sz tok0 C0 C1 bl
  go_wp2_with (go_at_call 28; (with_reducible refine (Tryz.token (w.heap.size + 1) s t name _ (by rw [SZ.out]; omega) hs h0 ht hc htl hch hnl L2 h39 D0 D1).mono ?_))
  rintro e W3 ⟨rfl, b3⟩
  have T0 := (b3.block w.heap.size (by rw [SZ.out]; omega)).trans tok2
  have hlt : w.heap.size < W3.heap.size := by have := b3.size; rw [SZ.out] at this; omega
  have x0 : W3.cell? ⟨w.heap.size, 0, none⟩ = some (.int .i64 0) := by rw [Lib.cell_of_heap T0]; rfl
  have y0 : W3.frozen? ⟨w.heap.size, 0, none⟩ = false := Lib.frozen_of_heap T0 0
  have x1 : W3.cell? ⟨w.heap.size, 1, none⟩ = some (.string ⟨#[]⟩) := by rw [Lib.cell_of_heap T0]; rfl
  have y1 : W3.frozen? ⟨w.heap.size, 1, none⟩ = false := Lib.frozen_of_heap T0 1
  have x2 : W3.cell? ⟨w.heap.size, 2, none⟩ = some (.string ⟨#[]⟩) := by rw [Lib.cell_of_heap T0]; rfl
  have y2 : W3.frozen? ⟨w.heap.size, 2, none⟩ = false := Lib.frozen_of_heap T0 2
  have x3 : W3.cell? ⟨w.heap.size, 3, none⟩ = some (.int .u64 0) := by rw [Lib.cell_of_heap T0]; rfl
  have y3 : W3.frozen? ⟨w.heap.size, 3, none⟩ = false := Lib.frozen_of_heap T0 3
  have x4 : W3.cell? ⟨w.heap.size, 4, none⟩ = some (.int .i64 0) := by rw [Lib.cell_of_heap T0]; rfl
  have y4 : W3.frozen? ⟨w.heap.size, 4, none⟩ = false := Lib.frozen_of_heap T0 4
  have x5 : W3.cell? ⟨w.heap.size, 5, none⟩ = some (.int .i64 0) := by rw [Lib.cell_of_heap T0]; rfl
  have y5 : W3.frozen? ⟨w.heap.size, 5, none⟩ = false := Lib.frozen_of_heap T0 5
  have x6 : W3.cell? ⟨w.heap.size, 6, none⟩ = some (.bool false) := by rw [Lib.cell_of_heap T0]; rfl
  have y6 : W3.frozen? ⟨w.heap.size, 6, none⟩ = false := Lib.frozen_of_heap T0 6
  have BT := Lib.hid (bl2.trans (b3.mono (by rw [SZ.out]; omega)))
  clear b3 T0 D0 D1 tok2
  go_wp2
  refine bodyPost_ret (v := .tuple #[.agg #[.int .i64 2, .string ⟨name.toArray⟩, .string ⟨#[]⟩, .int .u64 0, .int .i64 0, .int .i64 s.size, .bool false], .int .i64 0]) ?_ rfl ⟨rfl, ?_⟩
  · simp only [results, Tryz.results12]
    go_simp
  · refine Below.alloc ?_ (by simp; omega) _
    iterate 7 refine Below.setCell ?_ (by simp) _
    exact BT.out
end Go.Proofs
/- The walk of the law LexerQuotes: true at every name. -/
namespace Go.Proofs
open Go.RowKit Go.Hb
open Go.Proofs.YteegpmimbbgdlaaGreatDoor Go.Proofs.YteegpmimbbgdlaaGreatDoor.Ab
theorem q_facts {s q : ByteArray} (hq : q.data.toList = Hb.quote s.data.toList) (hn : s.size ≤ 1000) :
    True ∧ q.size ≤ 5000 ∧ ∃ h0 : 0 < q.size, Hid (q.data.toList = 39 :: (q.extract 1 q.size).data.toList) ∧ Hid ((q.extract 1 q.size).data.toList = qb s.data.toList ++ [39]) ∧ Hid ((q[0].toNat : Int) = 39) ∧ Hid (Lib.hasPrefix q.data.toList [47, 42] = false) := by
  have hl : q.data.toList.length = q.size := by simp
  have hs : s.data.toList.length = s.size := by simp
  have h2 := (qb_len s.data.toList).2
  have hl2 := hl
  rw [hq] at hl2
  unfold Hb.quote at hl2
  rw [List.length_cons, List.length_append, List.length_singleton] at hl2
  have ht : (q.extract 1 q.size).data.toList = qb s.data.toList ++ [39] := by
    rw [Lib.extract_data, List.take_of_length_le (by rw [List.length_drop]; omega), hq]
    rfl
  have h0 : 0 < q.size := by omega
  refine ⟨trivial, by omega, h0, Lib.hid (by rw [ht, hq]; rfl), Lib.hid ht, Lib.hid ?_, Lib.hid ?_⟩
  · have h3 : q.data.toList[0]'(by omega) = 39 := by simp [hq, Hb.quote]
    have h4 : q[0] = 39 := (by simpa using h3 : q.data[0] = 39)
    rw [h4]; rfl
  · rw [hq]; rfl
def LawSays (w : World) (e : Ending) (w' : World) : Prop := e = .returned (.bool true) ∧ Below w.heap.size w w'
theorem Tryz.oddAt (s : ByteArray) (w : World) (hs : s.size ≤ 4611686018427387904) :
    Calls Tryz.prog 18 #[.string s, .int .i64 0, .int .i64 s.size] w fun e w' => ∃ r : Int, e = .returned (.int .i64 r) ∧ (r < 0 → Chars s.data.toList) ∧ w = w' :=
  (Tryz.odd s w hs).mono fun _ _ ⟨r, h1, h2, h3⟩ => ⟨r, h1, h2, h3.symm⟩
set_option maxRecDepth 100000 in
set_option maxHeartbeats 8000000 in
theorem Tryz.lawQuotes (s : ByteArray) (w : World) (hs : s.size ≤ 4611686018427387904) (hL : laidMet Tryz.prog Rows.lexerQuotesRow.laid w) (hsh : w.ShapedOpen Tryz.prog) : Calls Tryz.prog 7 #[.string s] w (LawSays w) := by
  have L0 := Laid0.of hL hsh
  go_enter Tryz.func7, Tryz.ntmps7
  go_wp2_with (go_at_call 11; (with_reducible refine (awake_calls hL hsh).mono ?_))
  rintro e W1 ⟨rfl, bl1⟩
  go_wp2_with (go_at_call 18; (with_reducible refine (Tryz.oddAt s _ hs).mono ?_))
  rintro e w' ⟨r, rfl, hch, rfl⟩
  by_cases hr : 0 ≤ r
  · clear hch
    go_wp2
    go_ret
    exact ⟨rfl, bl1⟩
  have hch' := hch (by omega)
  clear hch
  have hr' : r < 0 := by omega
  by_cases hn : 1000 < s.size
  · have hn2 : (1000 : Int) < s.size := by omega
    go_wp2
    go_ret
    exact ⟨rfl, bl1⟩
  have hn1 : s.size ≤ 1000 := by omega
  have hn2 : (s.size : Int) ≤ 1000 := by omega
  go_wp2_with (go_at_call 19; (with_reducible refine (Tryz.quote s _ hn1).mono ?_))
  rintro e W2 ⟨q, rfl, hq, bl2⟩
  obtain ⟨_, a2, a3, a4, a5, a6, a7⟩ := q_facts hq hn1
  have b12 : Below w.heap.size w W2 := bl1.trans (bl2.mono bl1.size)
  have L2 : Laid0 W2 := L0.below b12
  clear hq
  go_wp2_with (go_at_call 12; (with_reducible refine (Tryz.next q _ s.data.toList _ a2 a3 (Lib.hid rfl) a4 a5 hch' (by simpa using hn1) L2 a6 a7).mono ?_))
  rintro e W3 ⟨rfl, bl3⟩
  have BT := Lib.hid (b12.trans (bl3.mono b12.size))
  clear bl3 a4 a5 a6 a7 b12 bl2 bl1
  go_wp2
  go_ret
  exact ⟨rfl, BT.out.alloc BT.out.size _⟩
end Go.Proofs
