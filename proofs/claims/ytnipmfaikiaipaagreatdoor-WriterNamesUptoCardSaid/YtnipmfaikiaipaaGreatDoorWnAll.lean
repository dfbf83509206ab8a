import Derived.Test.YtnipmfaikiaipaaGreatDoorWqAll
import Derived.Test.YtnipmfaikiaipaaGreatDoorTbm
section
/- The law WriterNames, by the contracts of what it calls. -/
namespace Go.Proofs
open Go.RowKit Go.Hb Go.Bg Go.Lx
theorem toList_eq' {s : ByteArray} {l : List UInt8} (h : s = ⟨l.toArray⟩) : s.toList = l := by rw [h, ByteArray.toList_eq]
theorem oddAt_cases {s : ByteArray} {p : Nat} {r : Int} (h : OddAt s p r) : r = -1 ∨ ∃ m : Nat, r = m := by
  induction h with
  | done _ => exact .inl rfl
  | bad _ _ => exact .inr ⟨_, rfl⟩
  | step _ _ ih => exact ih
theorem qw_ne {t s : ByteArray} (h : t.data.toList = qw s.data.toList) : t ≠ brk ∧ t ≠ brc := by
  constructor
  · intro e; rw [e] at h; simp [qw, brk] at h
  · intro e; rw [e] at h; simp [qw, brc] at h
theorem qw_size {t s : ByteArray} (h : t.data.toList = qw s.data.toList) : t.size ≤ 5 * s.size + 2 := by
  have h1 : t.data.toList.length = t.size := by simp
  have h2 := esc_len s.data.toList
  have h3 : s.data.toList.length = s.size := by simp
  rw [← h1, h]
  simp [qw]
  omega
set_option maxRecDepth 100000 in
set_option maxHeartbeats 8000000 in
theorem lawNamesGen (s : ByteArray) (pl : Bool) (R : Int) (w : World) (hs : s.size ≤ 1048576) (hR : OddAt s 0 R)
    (hpl : pl = true → ∃ (K E : Nat) (nu : ByteArray) (bits : Nat), Lay s 0 K E ∧ nxR s K E = .ok 1 s nu bits 0 s.size)
    (HA : Hid (Calls Tryz.prog 9 #[] w fun e w' => e = .returned (.bool true) ∧ Below w.heap.size w w'))
    (CA : Hid (∀ W, Below w.heap.size w W → Calls Tryz.prog 10 #[.string s] W fun e w' => ∃ t, AtomEnd s pl W e w' t))
    (CO : Hid (∀ W, Calls Tryz.prog 12 #[.string s, .int .i64 0, .int .i64 s.size] W (OddEnd R W)))
    (CN : Hid (∀ (t : ByteArray) (K E : Nat) (W : World), t.size ≤ 100000000 → Lay t 0 K E → Below w.heap.size w W → Calls Tryz.prog 13 #[.string t, .int .i64 0] W (NextEnd (nxR t K E) (decide (0 < K)) W))) :
    Calls Tryz.prog 5 #[.string s] w fun e W' => e = .returned (.bool true) ∧ Below w.heap.size w W' := by
  have HR := Lib.hid hR
  have HPL := Lib.hid hpl
  clear hR hpl
  go_enter Tryz.func5, Tryz.ntmps5
  go_wp2_with (go_at_call 9; (with_reducible refine HA.out.mono ?_))
  rintro e W1 ⟨rfl, b1⟩
  go_wp2_with (go_at_call 10; (with_reducible refine (CA.out _ b1).mono ?_))
  rintro e W2 ⟨t, ⟨rfl, b2, hraw, hquo⟩⟩
  have b3 : Below w.heap.size w W2 := b1.trans (b2.mono b1.size)
  have B3 := Lib.hid b3
  clear b2 b3 b1
  -- which way
  have hts : t.size ≤ 10000000 := by
    by_cases h : s = brk ∨ s = brc ∨ pl = true
    · rw [hraw h]; omega
    · have := qw_size (hquo (fun e => h (.inl e)) (fun e => h (.inr (.inl e))) (by cases hp : pl with | false => rfl | true => exact absurd (.inr (.inr hp)) h))
      omega
  have way : (t = s ∧ (t = brk ∨ t = brc)) ∨ (t ≠ brk ∧ t ≠ brc ∧ (s.size ≤ 1000 → R = -1 → ∃ (K E k : Nat) (nu : ByteArray) (bits : Nat), Lay t 0 K E ∧ nxR t K E = .ok k s nu bits 0 t.size ∧ (k = 1 ∨ k = 2))) := by
    by_cases h1 : s = brk
    · exact .inl ⟨hraw (.inl h1), .inl ((hraw (.inl h1)).trans h1)⟩
    by_cases h2 : s = brc
    · exact .inl ⟨hraw (.inr (.inl h2)), .inr ((hraw (.inr (.inl h2))).trans h2)⟩
    right
    cases hp : pl with
    | true =>
      have e := hraw (.inr (.inr hp))
      rw [e]
      refine ⟨h1, h2, fun _ _ => ?_⟩
      obtain ⟨K, E, nu, bits, k1, k2⟩ := HPL.out hp
      exact ⟨K, E, 1, nu, bits, k1, k2, .inl rfl⟩
    | false =>
      have e := hquo h1 h2 hp
      refine ⟨(qw_ne e).1, (qw_ne e).2, fun hn hr => ?_⟩
      subst hr
      obtain ⟨k1, k2⟩ := tok_qw hn HR.out e
      exact ⟨0, 0, 2, _, _, k1, k2, .inr rfl⟩
  have HW := Lib.hid way
  clear way hraw hquo
  have ODD := oddAt_cases HR.out
  have TL : Hid (t.size ≤ 10000000) := Lib.hid hts
  clear hts
  rcases HW.out with ⟨e1, e2⟩ | ⟨n1, n2, hnx⟩
  · subst e1
    have t0 : (t.toList == t.toList) = true := beq_self_eq_true _
    rcases e2 with e2 | e2
    · subst e2
      have CO2 : Hid (∀ W, Calls Tryz.prog 12 #[.string ⟨#[91, 93]⟩, .int .i64 0, .int .i64 2] W (OddEnd R W)) := CO
      clear HW HPL HR CO CN CA HA TL hs
      unfold brk at *
      rcases ODD with rfl | ⟨m, rfl⟩
      all_goals
        go_wp2_with (go_at_call 12; (with_reducible refine (CO2.out _).mono ?_); rintro e w3 ⟨rfl, rfl⟩)
        go_ret
        exact ⟨by simp, B3.out⟩
    · subst e2
      have CO2 : Hid (∀ W, Calls Tryz.prog 12 #[.string ⟨#[123, 125]⟩, .int .i64 0, .int .i64 2] W (OddEnd R W)) := CO
      clear HW HPL HR CO CN CA HA TL hs
      unfold brc at *
      rcases ODD with rfl | ⟨m, rfl⟩
      all_goals
        go_wp2_with (go_at_call 12; (with_reducible refine (CO2.out _).mono ?_); rintro e w3 ⟨rfl, rfl⟩)
        go_ret
        exact ⟨by simp, B3.out⟩
  · have m1 : ¬ t.toList = [91, 93] := toList_ne n1
    have m2 : ¬ t.toList = [123, 125] := toList_ne n2
    have m3 : (t.toList == [91, 93]) = false := beq_false_of_ne m1
    have m4 : (t.toList == [123, 125]) = false := beq_false_of_ne m2
    have m5 : (t.toList != [91, 93]) = true := by simp [bne, m3]
    have m6 : (t.toList != [123, 125]) = true := by simp [bne, m4]
    have HNX := Lib.hid hnx
    clear n1 n2 hnx HW HPL HR
    rcases ODD with rfl | ⟨m, rfl⟩
    · by_cases hn : s.size ≤ 1000
      · obtain ⟨K, E, k, nu, bits, h1, h2, hk⟩ := HNX.out hn rfl
        have C := CN.out t K E W2 (by have := TL.out; omega) h1 B3.out
        rw [h2] at C
        obtain ⟨ly, hly⟩ : ∃ ly, ly = decide (0 < K) := ⟨_, rfl⟩
        rw [← hly] at C
        have C2 : Hid (Calls Tryz.prog 13 #[.string t, .int .i64 0] W2 fun e w' => e = .returned (.tuple #[.agg #[.int .i64 k, .string s, .string nu, .int .u64 bits, .int .i64 0, .int .i64 t.size, .bool ly], .int .i64 0]) ∧ Below W2.heap.size W2 w') := Lib.hid C
        clear C h1 h2 hly HNX
        have t0 : (s.toList == s.toList) = true := beq_self_eq_true _
        rcases hk with rfl | rfl
        all_goals
          go_wp2_with (go_at_call 12; (with_reducible refine (CO.out _).mono ?_); rintro e w3 ⟨rfl, rfl⟩)
          go_wp2_with (go_at_call 13; (with_reducible refine C2.out.mono ?_))
          rintro e W4 ⟨rfl, hb⟩
          have HB4 := Lib.hid hb
          clear hb
          go_wp2
          refine bodyPost_ret (v := .bool _) ?_ rfl ⟨rfl, ?_⟩
          · simp only [results, Tryz.results5]
            go_simp
            try rfl
          · exact (B3.out.trans (HB4.out.mono B3.out.size)).alloc (Nat.le_trans B3.out.size HB4.out.size) _
      · clear HNX
        go_wp2_with (go_at_call 12; (with_reducible refine (CO.out _).mono ?_); rintro e w3 ⟨rfl, rfl⟩)
        go_ret
        exact ⟨by simp, B3.out⟩
    · clear HNX
      go_wp2_with (go_at_call 12; (with_reducible refine (CO.out _).mono ?_); rintro e w3 ⟨rfl, rfl⟩)
      go_ret
      exact ⟨by simp, B3.out⟩
end Go.Proofs
end
section
/- The law WriterNames: a name that is written is one token, which is that name. -/
namespace Go.Proofs
open Go.RowKit Go.Hb Go.Bg Go.Lx Go.Proofs.YtnipmfaikiaipaaGreatDoor
theorem ext_all (s : ByteArray) : s.extract 0 s.size = s := by
  apply ByteArray.ext
  apply Array.toList_inj.1
  rw [Lib.extract_data, List.drop_zero, List.take_of_length_le (by simp)]
theorem isN_plain {s : ByteArray} {K E : Nat} (hl : Lay s 0 K E) (h : isN (nxR s K E) s = true) : ∃ (K E : Nat) (nu : ByteArray) (bits : Nat), Lay s 0 K E ∧ nxR s K E = .ok 1 s nu bits 0 s.size := by
  cases hR : nxR s K E with
  | err p n => rw [hR] at h; cases h
  | ok k tx nu bits a en =>
    have hE : E = 0 := by
      unfold nxR at hR
      split at hR
      · assumption
      · cases hR
    rw [hR] at h
    unfold isN at h
    simp only [Bool.and_eq_true, decide_eq_true_eq] at h
    obtain ⟨rfl, rfl⟩ := h
    obtain ⟨rfl, rfl⟩ := tok_plain (hl.le (Nat.zero_le _) hE) hR
    exact ⟨K, E, nu, bits, hl, hR⟩
theorem lawNamesAt (s : ByteArray) (W : World) (hs : s.size ≤ 1048576) (hL0 : laidMet Tryz.prog Rows.writerNamesUptoRow.laid W) (hsh : W.ShapedOpen Tryz.prog) :
    Calls Tryz.prog 5 #[.string s] W fun e W' => e = .returned (.bool true) ∧ Below W.heap.size W W' := by
  have hL : laidMet Tryz.prog Rows.writerNamesRow.laid W := hL0
  have L1 : Laid1 W := Laid1.of hL hsh
  obtain ⟨K, E, hlay⟩ : ∃ K E, Lay s 0 K E := Lay.ex s s.size 0 (by omega)
  obtain ⟨R, hR⟩ := OddAt.ex s s.size 0 (by omega)
  exact lawNamesGen s (isN (nxR s K E) s) R W hs hR (isN_plain hlay) (Lib.hid (awake6_calls hL hsh))
    (Lib.hid fun W' hb => Tryz.watom s _ W' hs (fun W'' hb2 => ((L1.below hb).below hb2).zero) (Lib.hid (Tryz.pplainR s K E W' (by omega) (Lib.hid hlay) (Lib.hid (L1.below hb)))))
    (Lib.hid fun W' => Tryz.roddx s 0 s.size R W' (by omega) (Nat.le_refl _) (Nat.zero_le _) (Lib.hid (by rw [ext_all]; exact hR)))
    (Lib.hid fun t K E W' ht hl hb => Tryz.pnext t 0 K E W' ht (Nat.zero_le _) (Lib.hid hl) (Lib.hid (L1.below hb)))
end Go.Proofs
end
