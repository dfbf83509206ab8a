import Derived.Test.YteegpmimbbgdlaaGreatDoorTbm
/- The law LexerPlains: a name needs no quotes just where the document says so. -/
namespace Go.Proofs
open Go.RowKit Go.Pf Go.Lx Go.Hb Go.Rb Go.Bg
set_option maxRecDepth 100000 in
set_option maxHeartbeats 8000000 in
theorem Tryz.rplainR (s : ByteArray) (K E : Nat) (w : World) (hs : s.size ≤ 100000000) (hL : Hid (Lay s 0 K E)) :
    Calls Tryz.prog 15 #[.string s] w fun e w' => e = .returned (.bool (isN (nxR s K E) s)) ∧ Below w.heap.size w w' := by
  obtain ⟨R, hR⟩ : ∃ R, R = nxR s K E := ⟨_, rfl⟩
  obtain ⟨ly, hly⟩ : ∃ ly, ly = decide (0 < K) := ⟨_, rfl⟩
  rw [← hR]
  have C1 : Hid (Calls Tryz.prog 13 #[.string s, .int .i64 0] w (NextEnd R ly w)) := Lib.hid (by rw [hR, hly]; exact Tryz.rnext s 0 K E w (by omega) (Nat.zero_le _) hL.out)
  have hz : ∀ p n, R = .err p n → n ≠ 0 := fun p n h => by
    rw [hR] at h
    unfold nxR at h
    split at h
    · exact tokR_er h
    · rename_i hE; cases h; exact hE
  clear hR hly
  cases R with
  | err p n =>
    have hn := hz p n rfl
    have e1 : ((n : Int) == 0) = false := beq_of_ne (by omega)
    have C2 : Hid (Calls Tryz.prog 13 #[.string s, .int .i64 0] w fun e w' => e = .returned (.tuple #[tokV 0 ⟨#[]⟩ ⟨#[]⟩ 0 p p false, .int .i64 n]) ∧ Below w.heap.size w w') := Lib.hid C1.out
    clear hn hz C1
    go_enter Tryz.func15, Tryz.ntmps15
    go_wp2_with (go_at_call 13; (with_reducible refine C2.out.mono ?_))
    rintro e W1 ⟨rfl, b1⟩
    have B1 := Lib.hid b1
    clear b1
    unfold tokV
    go_wp2
    refine bodyPost_ret (v := .bool false) ?_ rfl ⟨rfl, ?_⟩
    · simp only [results, Tryz.results15]
      go_simp
      try rfl
    · exact B1.out.trans (((Below.refl _ _).alloc (Nat.le_refl _) _).mono B1.out.size)
  | ok k tx nu bits a en =>
    have C2 : Hid (Calls Tryz.prog 13 #[.string s, .int .i64 0] w fun e w' => e = .returned (.tuple #[tokV k tx nu bits a en ly, .int .i64 0]) ∧ Below w.heap.size w w') := Lib.hid C1.out
    have KEY : (((k : Int) == 1) = false ∧ isN (.ok k tx nu bits a en) s = false) ∨ (((k : Int) == 1) = true ∧ (¬ tx.toList = s.toList) ∧ isN (.ok k tx nu bits a en) s = false) ∨ (((k : Int) == 1) = true ∧ tx.toList = s.toList ∧ isN (.ok k tx nu bits a en) s = true) := by
      unfold isN
      by_cases hk : k = 1
      · by_cases ht : tx = s
        · exact .inr (.inr ⟨beq_of_eq (by omega), by rw [ht], by simp [hk, ht]⟩)
        · exact .inr (.inl ⟨beq_of_eq (by omega), fun h => ht (ByteArray.ext (Array.toList_inj.1 (by rw [← ByteArray.toList_eq, ← ByteArray.toList_eq]; exact h))), by simp [ht]⟩)
      · exact .inl ⟨beq_of_ne (by omega), by simp [hk]⟩
    obtain ⟨r, hr⟩ : ∃ r, r = isN (.ok k tx nu bits a en) s := ⟨_, rfl⟩
    rw [← hr] at KEY ⊢
    clear hz C1 hr
    go_enter Tryz.func15, Tryz.ntmps15
    go_wp2_with (go_at_call 13; (with_reducible refine C2.out.mono ?_))
    rintro e W1 ⟨rfl, b1⟩
    have B1 := Lib.hid b1
    clear b1
    unfold tokV
    rcases KEY with ⟨k1, rfl⟩ | ⟨k1, k2, rfl⟩ | ⟨k1, k2, rfl⟩
    all_goals
      go_wp2
      refine bodyPost_ret (v := .bool _) ?_ rfl ⟨rfl, B1.out.trans (((Below.refl _ _).alloc (Nat.le_refl _) _).mono B1.out.size)⟩
      simp only [results, Tryz.results15]
      go_simp
      try rfl
theorem plain_both (s : ByteArray) (hs : s.size ≤ 100000000) : ∃ r : Bool, (∀ W, Laid1 W → Calls Tryz.prog 14 #[.string s] W fun e w' => e = .returned (.bool r) ∧ Below W.heap.size W w') ∧ (∀ W, Calls Tryz.prog 15 #[.string s] W fun e w' => e = .returned (.bool r) ∧ Below W.heap.size W w') := by
  obtain ⟨K, E, hL⟩ := Lay.ex s s.size 0 (by omega)
  exact ⟨_, fun W hW => Tryz.pplainR s K E W hs (Lib.hid hL) (Lib.hid hW), fun W => Tryz.rplainR s K E W hs (Lib.hid hL)⟩
set_option maxRecDepth 100000 in
set_option maxHeartbeats 8000000 in
theorem lawPlainsAt (s : ByteArray) (w : World) (hs : s.size ≤ 1048576) (h : Laid1 w) : Calls Tryz.prog 4 #[.string s] w (LawT w) := by
  obtain ⟨r, c1, c2⟩ := plain_both s (by omega)
  have C1 := Lib.hid c1
  have C2 := Lib.hid c2
  have hM := Lib.hid h
  clear c1 c2 h
  go_enter Tryz.func4, Tryz.ntmps4
  go_wp2_with (go_at_call 11; (with_reducible refine hM.out.awake.mono ?_))
  rintro e W1 ⟨rfl, b1⟩
  have M1 := Lib.hid (hM.out.below b1)
  have B1 := Lib.hid b1
  clear b1
  go_wp2_with (go_at_call 14; (with_reducible refine (C1.out _ M1.out).mono ?_))
  rintro e W2 ⟨rfl, b2⟩
  have B2 := Lib.hid (B1.out.trans (b2.mono B1.out.size))
  clear b2
  go_wp2_with (go_at_call 15; (with_reducible refine (C2.out _).mono ?_))
  rintro e W3 ⟨rfl, b3⟩
  have B3 := Lib.hid (B2.out.trans (b3.mono B2.out.size))
  clear b3
  go_wp2
  refine bodyPost_ret (v := .bool true) ?_ rfl ⟨rfl, B3.out⟩
  simp only [results, Tryz.results4]
  go_simp
  try rfl
end Go.Proofs
