/- The walk of the law LexerChars. -/
import Derived.Test.YteegpmimbbgdlaaGreatDoorChTxt
import Derived.Test.YteegpmimbbgdlaaGreatDoorQtLaw
namespace Go.Proofs
open Go.RowKit Go.Bg Go.Hb
open Go.Proofs.YteegpmimbbgdlaaGreatDoor Go.Proofs.YteegpmimbbgdlaaGreatDoor.Ab
theorem Tryz.mayA (v : Int) (w : World) : Calls Tryz.prog 22 #[.int .i64 v] w fun e w' => e = .returned (.bool (mayB v)) ∧ w = w' := (Tryz.may v w).mono fun _ _ ⟨h1, h2⟩ => ⟨h1, h2.symm⟩
/-- What Text tells, in words of one text. -/
theorem Tryz.textA (v : Value) (x m r : Nat) (w : World) (hm : m ≤ 1) (hr : 2 ≤ r) (hr2 : r ≤ 36) (hv : Hid (LimV w v x m)) (hx : x < B) :
    Calls Tryz.prog 20 #[.agg #[.bool false, v], .int .i64 r] w fun e w' => e = .returned (.tuple #[.string ⟨(numL r x).toArray⟩, .int .i64 0]) ∧ Below w.heap.size w w' := by
  refine (Tryz.text v x m r w (by omega) hr hr2 hv (Lib.hid fun m' ht => ?_)).mono fun e w' ⟨t, h1, h2, h3⟩ => ⟨?_, h3⟩
  · have hle : m' ≤ 1 := Tight.le ht (by rw [Nat.pow_one]; exact hx) (Nat.le_refl _)
    unfold sz
    split
    · omega
    · have := bitLen_le64 (limb x (m' - 1)); omega
  · have : t = ⟨(numL r x).toArray⟩ := by
      apply ByteArray.ext
      apply Array.toList_inj.1
      rw [h2]
    rw [h1, this]
theorem Tryz.text10 (v : Value) (x m : Nat) (w : World) (hm : m ≤ 1) (hv : Hid (LimV w v x m)) (hx : x < B) :
    Calls Tryz.prog 20 #[.agg #[.bool false, v], .int .i64 10] w fun e w' => e = .returned (.tuple #[.string ⟨(numL 10 x).toArray⟩, .int .i64 0]) ∧ Below w.heap.size w w' := Tryz.textA v x m 10 w hm (by omega) (by omega) hv hx
theorem Tryz.text16 (v : Value) (x m : Nat) (w : World) (hm : m ≤ 1) (hv : Hid (LimV w v x m)) (hx : x < B) :
    Calls Tryz.prog 20 #[.agg #[.bool false, v], .int .i64 16] w fun e w' => e = .returned (.tuple #[.string ⟨(numL 16 x).toArray⟩, .int .i64 0]) ∧ Below w.heap.size w w' := Tryz.textA v x m 16 w hm (by omega) (by omega) hv hx
theorem Tryz.text8 (v : Value) (x m : Nat) (w : World) (hm : m ≤ 1) (hv : Hid (LimV w v x m)) (hx : x < B) :
    Calls Tryz.prog 20 #[.agg #[.bool false, v], .int .i64 8] w fun e w' => e = .returned (.tuple #[.string ⟨(numL 8 x).toArray⟩, .int .i64 0]) ∧ Below w.heap.size w w' := Tryz.textA v x m 8 w hm (by omega) (by omega) hv hx
theorem cat1 (l : List UInt8) : (({ data := #[48, 39] } : ByteArray) ++ { data := l.toArray }).data.toList = 48 :: 39 :: l := by
  rw [ByteArray.data_append]; simp
theorem cat2 (l : List UInt8) : (({ data := #[48, 39, 92, 120] } : ByteArray) ++ { data := l.toArray } ++ { data := #[92] }).data.toList = [48, 39, 92, 120] ++ (l ++ [92]) := by
  rw [ByteArray.data_append, ByteArray.data_append]; simp
theorem cat3 (l : List UInt8) : (({ data := #[39, 92] } : ByteArray) ++ { data := l.toArray } ++ { data := #[92, 39] }).data.toList = [39, 92] ++ (l ++ [92, 39]) := by
  rw [ByteArray.data_append, ByteArray.data_append]; simp
theorem conv_row {w : World} {g : Nat} {L : List UInt8} (h : RowIs w g L.length 5 (fun j => .int .u8 ((L.getD j 0).toNat : Nat))) (cap : Nat) : (convert 48 9 (.slice (some ⟨g, 0, none⟩) L.length cap)).run Tryz.prog w = .ok (.string ⟨L.toArray⟩) w := by
  have hc : ∀ i, i < L.length → w.cell? ⟨g, 0 + i, none⟩ = some (.int .u8 ((L.map fun x => (x.toNat : Int)).getD i 0)) := by
    intro i hi
    rw [Nat.zero_add, h.cell hi]
    rw [List.getD_eq_getElem?_getD, List.getD_eq_getElem?_getD, List.getElem?_map, List.getElem?_eq_getElem hi]
    rfl
  rw [run_convert_bytes_arg w 48 5 Tryz.underlying48 Tryz.underlying5 g 0 L.length cap (L.map fun x => (x.toNat : Int)) (by simp) hc 9 Tryz.underlying9]
  congr 2
  apply ByteArray.ext
  apply Array.toList_inj.1
  rw [strOfNums_data, List.map_map]
  show _ = L
  conv => rhs; rw [← List.map_id L]
  apply List.map_congr_left
  intro x _
  simp
set_option maxRecDepth 100000 in
set_option maxHeartbeats 8000000 in
theorem Tryz.lawChars_key (v : Int) (w : World) (hL : laidMet Tryz.prog Rows.lexerQuotesRow.laid w) (hsh : w.ShapedOpen Tryz.prog) (h1 : mayB v = true) (key : (v == 10) = true ∨ ((v == 10) = false ∧ (v == 92) = true) ∨ ((v == 10) = false ∧ (v == 92) = false ∧ (v == 39) = true)) : Calls Tryz.prog 9 #[.int .i64 v] w (LawSays w) := by
  rcases key with k1 | ⟨k1, k2⟩ | ⟨k1, k2, k3⟩
  all_goals
    go_enter Tryz.func9, Tryz.ntmps9
    go_wp2_with (go_at_call 11; (with_reducible refine (awake_calls hL hsh).mono ?_))
    rintro e W1 ⟨rfl, bl1⟩
    go_wp2_with (go_at_call 22; (with_reducible refine (Tryz.mayA v _).mono ?_); rintro e w' ⟨rfl, rfl⟩)
    go_ret
    exact ⟨rfl, bl1⟩
set_option maxRecDepth 100000 in
set_option maxHeartbeats 8000000 in
theorem Tryz.lawChars_no (v : Int) (w : World) (hL : laidMet Tryz.prog Rows.lexerQuotesRow.laid w) (hsh : w.ShapedOpen Tryz.prog) (hn : mayB v = false ∨ v = 10 ∨ v = 92 ∨ v = 39) : Calls Tryz.prog 9 #[.int .i64 v] w (LawSays w) := by
  have hn2 : mayB v = false ∨ (mayB v = true ∧ (v = 10 ∨ v = 92 ∨ v = 39)) := by
    rcases hn with h | h
    · exact .inl h
    · by_cases h2 : mayB v = true
      · exact .inr ⟨h2, h⟩
      · exact .inl (by simpa using h2)
  rcases hn2 with h1 | ⟨h1, h2⟩
  · go_enter Tryz.func9, Tryz.ntmps9
    go_wp2_with (go_at_call 11; (with_reducible refine (awake_calls hL hsh).mono ?_))
    rintro e W1 ⟨rfl, bl1⟩
    go_wp2_with (go_at_call 22; (with_reducible refine (Tryz.mayA v _).mono ?_); rintro e w' ⟨rfl, rfl⟩)
    go_ret
    exact ⟨rfl, bl1⟩
  · have key : (v == 10) = true ∨ ((v == 10) = false ∧ (v == 92) = true) ∨ ((v == 10) = false ∧ (v == 92) = false ∧ (v == 39) = true) := by
      rcases h2 with h | h | h
      · exact .inl (by rw [h]; rfl)
      · exact .inr (.inl ⟨by rw [h]; rfl, by rw [h]; rfl⟩)
      · exact .inr (.inr ⟨by rw [h]; rfl, by rw [h]; rfl, by rw [h]; rfl⟩)
    clear h2
    exact Tryz.lawChars_key v w hL hsh h1 key
set_option maxRecDepth 100000 in
set_option maxHeartbeats 8000000 in
theorem Tryz.lawChars_yes (v : Nat) (w : World) (hL : laidMet Tryz.prog Rows.lexerQuotesRow.laid w) (hsh : w.ShapedOpen Tryz.prog) (hm : mayB v = true) (n10 : v ≠ 10) (n92 : v ≠ 92) (n39 : v ≠ 39) : Calls Tryz.prog 9 #[.int .i64 v] w (LawSays w) := by
  have L0 := Laid0.of hL hsh
  have hok : okRune v := of_decide_eq_true hm
  have hvm := hok.2.1
  have hv32 : v < 4294967296 := by omega
  have hvB : v < B := hv32
  have OK := Lib.hid hok
  have f1 : ((v : Int) == 10) = false := ne_fact (n := 10) n10
  have f2 : ((v : Int) == 92) = false := ne_fact (n := 92) n92
  have f3 : ((v : Int) == 39) = false := ne_fact (n := 39) n39
  have N := Lib.hid (And.intro n10 (And.intro n39 n92))
  clear hok hvm n10 n92 n39
  go_enter Tryz.func9, Tryz.ntmps9
  go_wp2_with (go_at_call 11; (with_reducible refine (awake_calls hL hsh).mono ?_))
  rintro e W1 ⟨rfl, bl1⟩
  have L1 : Laid0 W1 := L0.below bl1
  go_wp2_with (go_at_call 22; (with_reducible refine (Tryz.mayA v _).mono ?_); rintro e w' ⟨rfl, rfl⟩)
  go_wp2_with (go_at_call 23; (with_reducible refine (Tryz.utf v _ OK.out).mono ?_))
  rintro e W2 ⟨rfl, hrow, bl2⟩
  have hconv := conv_row hrow (Lib.encodeRune v).length
  have L2 : Laid0 W2 := L1.below bl2
  have B2 := Lib.hid (bl1.trans (bl2.mono bl1.size))
  clear hrow bl2
  go_wp2_with (go_at_call 24; (with_reducible refine (Tryz.from v _ hv32).mono ?_))
  rintro e W3 ⟨sl, m, rfl, ht, hl, bl3⟩
  obtain ⟨a, c, rfl⟩ := hl.slice
  have hm1 : m ≤ 1 := Tight.le ht (by rw [Nat.pow_one]; exact hvB) (Nat.le_refl _)
  have L3 : Laid0 W3 := L2.below bl3
  have B3 := Lib.hid (B2.out.trans (bl3.mono B2.out.size))
  have H3 := Lib.hid hl
  clear hl bl3 ht
  go_wp2_with fail
  generalize hW4 : W3.alloc _ = W4
  have g4 : W4.heap[W3.heap.size]? = some (.cells #[.bool false, .slice a m c] 41 (0, 0)) := by subst hW4; exact heap_alloc_new W3 _
  have b4 : Below W3.heap.size W3 W4 := by subst hW4; exact (Below.refl _ _).alloc (Nat.le_refl _) _
  have G4 := Lib.hid g4
  have H4 := Lib.hid (H3.out.below b4)
  have L4 : Laid0 W4 := L3.below b4
  have B4 := Lib.hid (B3.out.trans (b4.mono B3.out.size))
  clear hW4 b4 g4
  go_wp2_with (go_at_call 20; (with_reducible refine (Tryz.text10 (.slice a m c) v m _ hm1 H4 hvB).mono ?_))
  rintro e W5 ⟨rfl, b5⟩
  have g5 := (b5.block W3.heap.size (Array.getElem?_eq_some_iff.1 G4.out).1).trans G4.out
  have G5 := Lib.hid g5
  have p5 : W5.cell? ⟨W3.heap.size, 0, none⟩ = some (.bool false) := by rw [Lib.cell_of_heap g5]; rfl
  have q5 : W5.cell? ⟨W3.heap.size, 1, none⟩ = some (.slice a m c) := by rw [Lib.cell_of_heap g5]; rfl
  have H5 := Lib.hid (H4.out.below b5)
  have L5 : Laid0 W5 := L4.below b5
  have B5 := Lib.hid (B4.out.trans (b5.mono B4.out.size))
  clear b5 g5
  go_wp2_with (go_at_call 20; (with_reducible refine (Tryz.text16 (.slice a m c) v m _ hm1 H5 hvB).mono ?_))
  rintro e W6 ⟨rfl, b6⟩
  have g6 := (b6.block W3.heap.size (Array.getElem?_eq_some_iff.1 G5.out).1).trans G5.out
  have G6 := Lib.hid g6
  have p6 : W6.cell? ⟨W3.heap.size, 0, none⟩ = some (.bool false) := by rw [Lib.cell_of_heap g6]; rfl
  have q6 : W6.cell? ⟨W3.heap.size, 1, none⟩ = some (.slice a m c) := by rw [Lib.cell_of_heap g6]; rfl
  have H6 := Lib.hid (H5.out.below b6)
  have L6 : Laid0 W6 := L5.below b6
  have B6 := Lib.hid (B5.out.trans (b6.mono B5.out.size))
  clear b6 g6
  go_wp2_with (go_at_call 20; (with_reducible refine (Tryz.text8 (.slice a m c) v m _ hm1 H6 hvB).mono ?_))
  rintro e W7 ⟨rfl, b7⟩
  have g7 := (b7.block W3.heap.size (Array.getElem?_eq_some_iff.1 G6.out).1).trans G6.out
  have G7 := Lib.hid g7
  have p7 : W7.cell? ⟨W3.heap.size, 0, none⟩ = some (.bool false) := by rw [Lib.cell_of_heap g7]; rfl
  have q7 : W7.cell? ⟨W3.heap.size, 1, none⟩ = some (.slice a m c) := by rw [Lib.cell_of_heap g7]; rfl
  have H7 := Lib.hid (H6.out.below b7)
  have L7 : Laid0 W7 := L6.below b7
  have B7 := Lib.hid (B6.out.trans (b7.mono B6.out.size))
  clear b7 g7
  have le1 : (Lib.encodeRune v).length ≤ 4 := (enc_len v).2
  have le2 : (numL 16 v).length ≤ 6 := by
    obtain ⟨ds, e1, _, _, _, e5⟩ := num_ds (r := 16) (by omega) 6 v (by have := OK.out.2.1; omega) (by omega)
    rw [e1, List.length_map]; exact e5
  have le3 : (numL 8 v).length ≤ 7 := by
    obtain ⟨ds, e1, _, _, _, e5⟩ := num_ds (r := 8) (by omega) 7 v (by have := OK.out.2.1; omega) (by omega)
    rw [e1, List.length_map]; exact e5
  go_wp2_with (go_at_call 12; (with_reducible refine (next_plain (cat1 _) OK.out N.out.1 N.out.2.1 N.out.2.2 _ L7).mono ?_))
  rintro e W8 ⟨rfl, b8⟩
  have L8 : Laid0 W8 := L7.below b8
  have B8 := Lib.hid (B7.out.trans (b8.mono B7.out.size))
  clear b8 p7 q7 p6 q6 p5 q5
  go_wp2_with fail
  generalize hW9 : W8.alloc _ = W9
  have g9 : W9.heap[W8.heap.size]? = some (.cells #[.int .i64 4, .string ⟨#[]⟩, .string ⟨(numL 10 v).toArray⟩, .int .u64 0, .int .i64 0, .int .i64 ((2 + (Lib.encodeRune v).length : Nat) : Int), .bool false] 25 (0, 0)) := by subst hW9; rw [heap_alloc_new]; first | rfl | (congr; omega)
  have b9 : Below W8.heap.size W8 W9 := by subst hW9; exact (Below.refl _ _).alloc (Nat.le_refl _) _
  have G9 := Lib.hid g9
  have L9 : Laid0 W9 := L8.below b9
  have B9 := Lib.hid (B8.out.trans (b9.mono B8.out.size))
  clear hW9 b9 g9
  go_wp2_with (go_at_call 12; (with_reducible refine (next_hex (cat2 _) OK.out _ L9).mono ?_))
  rintro e W10 ⟨rfl, b10⟩
  have g10 := (b10.block W8.heap.size (Array.getElem?_eq_some_iff.1 G9.out).1).trans G9.out
  have G10 := Lib.hid g10
  have L10 : Laid0 W10 := L9.below b10
  have B10 := Lib.hid (B9.out.trans (b10.mono B9.out.size))
  clear b10 g10
  go_wp2_with fail
  generalize hW11 : W10.alloc _ = W11
  obtain ⟨en, g11⟩ : ∃ en : Int, W11.heap[W10.heap.size]? = some (.cells #[.int .i64 4, .string ⟨#[]⟩, .string ⟨(numL 10 v).toArray⟩, .int .u64 0, .int .i64 0, .int .i64 en, .bool false] 25 (0, 0)) := by
    subst hW11
    exact ⟨_, heap_alloc_new _ _⟩
  have b11 : Below W10.heap.size W10 W11 := by subst hW11; exact (Below.refl _ _).alloc (Nat.le_refl _) _
  have G11 := Lib.hid g11
  have A11 := Lib.hid ((b11.block W8.heap.size (Array.getElem?_eq_some_iff.1 G10.out).1).trans G10.out)
  have L11 : Laid0 W11 := L10.below b11
  have B11 := Lib.hid (B10.out.trans (b11.mono B10.out.size))
  clear hW11 b11 g11
  go_wp2_with (go_at_call 12; (with_reducible refine (next_esc (cat3 _) OK.out _ L11).mono ?_))
  rintro e W12 ⟨rfl, b12⟩
  have gA := (b12.block W8.heap.size (Array.getElem?_eq_some_iff.1 A11.out).1).trans A11.out
  have gB := (b12.block W10.heap.size (Array.getElem?_eq_some_iff.1 G11.out).1).trans G11.out
  have z1 : W12.cell? ⟨W8.heap.size, 2, none⟩ = some (.string ⟨(numL 10 v).toArray⟩) := by rw [Lib.cell_of_heap gA]; rfl
  have z2 : W12.cell? ⟨W8.heap.size, 5, none⟩ = some (.int .i64 ((2 + (Lib.encodeRune v).length : Nat) : Int)) := by rw [Lib.cell_of_heap gA]; rfl
  have z3 : W12.cell? ⟨W10.heap.size, 2, none⟩ = some (.string ⟨(numL 10 v).toArray⟩) := by rw [Lib.cell_of_heap gB]; rfl
  have z4 : W8.heap.size < W12.heap.size := (Array.getElem?_eq_some_iff.1 gA).1
  have z5 : W10.heap.size < W12.heap.size := (Array.getElem?_eq_some_iff.1 gB).1
  have B12 := Lib.hid (B11.out.trans (b12.mono B11.out.size))
  clear b12 gA gB
  go_wp2_with fail
  go_ret
  exact ⟨rfl, B12.out.alloc B12.out.size _⟩
theorem Tryz.lawChars (v : Int) (w : World) (hL : laidMet Tryz.prog Rows.lexerQuotesRow.laid w) (hsh : w.ShapedOpen Tryz.prog) : Calls Tryz.prog 9 #[.int .i64 v] w (LawSays w) := by
  by_cases hm : mayB v = true
  · by_cases h1 : v = 10
    · exact Tryz.lawChars_no v w hL hsh (.inr (.inl h1))
    by_cases h2 : v = 92
    · exact Tryz.lawChars_no v w hL hsh (.inr (.inr (.inl h2)))
    by_cases h3 : v = 39
    · exact Tryz.lawChars_no v w hL hsh (.inr (.inr (.inr h3)))
    have hok : okRune v := of_decide_eq_true hm
    obtain ⟨n, rfl⟩ : ∃ n : Nat, v = n := ⟨v.toNat, by have := hok.1; omega⟩
    exact Tryz.lawChars_yes n w hL hsh hm (by omega) (by omega) (by omega)
  · exact Tryz.lawChars_no v w hL hsh (.inl (by simpa using hm))
end Go.Proofs
