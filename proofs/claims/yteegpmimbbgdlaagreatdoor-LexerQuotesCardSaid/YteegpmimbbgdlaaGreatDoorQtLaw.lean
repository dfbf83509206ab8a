/- The walk of the law LexerQuotes: true at every name. -/
import Derived.Test.YteegpmimbbgdlaaGreatDoorQtNxt
namespace Go.Proofs
open Go.RowKit Go.Hb
open Go.Proofs.YteegpmimbbgdlaaGreatDoor Go.Proofs.YteegpmimbbgdlaaGreatDoor.Ab
theorem q_facts {s q : ByteArray} (hq : q.data.toList = Hb.quote s.data.toList) (hn : s.size ≤ 1000) :
    True ∧ q.size ≤ 5000 ∧ ∃ h0 : 0 < q.size, Hid (q.data.toList = 39 :: (q.extract 1 q.size).data.toList) ∧ Hid ((q.extract 1 q.size).data.toList = qb s.data.toList ++ [39]) ∧ Hid ((q[0].toNat : Int) = 39) ∧ Hid (Lib.hasPrefix q.data.toList [47, 42] = false) := by
  have hl : q.data.toList.length = q.size := by simp
  have hs : s.data.toList.length = s.size := by simp
  have h2 := (qb_len s.data.toList).2
  have hl2 := hl
  rw [hq] at hl2
  unfold Hb.quote at hl2
  rw [List.length_cons, List.length_append, List.length_singleton] at hl2
  have ht : (q.extract 1 q.size).data.toList = qb s.data.toList ++ [39] := by
    rw [Lib.extract_data, List.take_of_length_le (by rw [List.length_drop]; omega), hq]
    rfl
  have h0 : 0 < q.size := by omega
  refine ⟨trivial, by omega, h0, Lib.hid (by rw [ht, hq]; rfl), Lib.hid ht, Lib.hid ?_, Lib.hid ?_⟩
  · have h3 : q.data.toList[0]'(by omega) = 39 := by simp [hq, Hb.quote]
    have h4 : q[0] = 39 := (by simpa using h3 : q.data[0] = 39)
    rw [h4]; rfl
  · rw [hq]; rfl
def LawSays (w : World) (e : Ending) (w' : World) : Prop := e = .returned (.bool true) ∧ Below w.heap.size w w'
theorem Tryz.oddAt (s : ByteArray) (w : World) (hs : s.size ≤ 4611686018427387904) :
    Calls Tryz.prog 18 #[.string s, .int .i64 0, .int .i64 s.size] w fun e w' => ∃ r : Int, e = .returned (.int .i64 r) ∧ (r < 0 → Chars s.data.toList) ∧ w = w' :=
  (Tryz.odd s w hs).mono fun _ _ ⟨r, h1, h2, h3⟩ => ⟨r, h1, h2, h3.symm⟩
set_option maxRecDepth 100000 in
set_option maxHeartbeats 8000000 in
theorem Tryz.lawQuotes (s : ByteArray) (w : World) (hs : s.size ≤ 4611686018427387904) (hL : laidMet Tryz.prog Rows.lexerQuotesRow.laid w) (hsh : w.ShapedOpen Tryz.prog) : Calls Tryz.prog 7 #[.string s] w (LawSays w) := by
  have L0 := Laid0.of hL hsh
  go_enter Tryz.func7, Tryz.ntmps7
  go_wp2_with (go_at_call 11; (with_reducible refine (awake_calls hL hsh).mono ?_))
  rintro e W1 ⟨rfl, bl1⟩
  go_wp2_with (go_at_call 18; (with_reducible refine (Tryz.oddAt s _ hs).mono ?_))
  rintro e w' ⟨r, rfl, hch, rfl⟩
  by_cases hr : 0 ≤ r
  · clear hch
    go_wp2
    go_ret
    exact ⟨rfl, bl1⟩
  have hch' := hch (by omega)
  clear hch
  have hr' : r < 0 := by omega
  by_cases hn : 1000 < s.size
  · have hn2 : (1000 : Int) < s.size := by omega
    go_wp2
    go_ret
    exact ⟨rfl, bl1⟩
  have hn1 : s.size ≤ 1000 := by omega
  have hn2 : (s.size : Int) ≤ 1000 := by omega
  go_wp2_with (go_at_call 19; (with_reducible refine (Tryz.quote s _ hn1).mono ?_))
  rintro e W2 ⟨q, rfl, hq, bl2⟩
  obtain ⟨_, a2, a3, a4, a5, a6, a7⟩ := q_facts hq hn1
  have b12 : Below w.heap.size w W2 := bl1.trans (bl2.mono bl1.size)
  have L2 : Laid0 W2 := L0.below b12
  clear hq
  go_wp2_with (go_at_call 12; (with_reducible refine (Tryz.next q _ s.data.toList _ a2 a3 (Lib.hid rfl) a4 a5 hch' (by simpa using hn1) L2 a6 a7).mono ?_))
  rintro e W3 ⟨rfl, bl3⟩
  have BT := Lib.hid (b12.trans (bl3.mono b12.size))
  clear bl3 a4 a5 a6 a7 b12 bl2 bl1
  go_wp2
  go_ret
  exact ⟨rfl, BT.out.alloc BT.out.size _⟩
end Go.Proofs
