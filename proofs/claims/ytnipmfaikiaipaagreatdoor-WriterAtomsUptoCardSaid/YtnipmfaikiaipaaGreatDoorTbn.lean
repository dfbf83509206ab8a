import Derived.Test.YtnipmfaikiaipaaGreatDoorTbm
set_option linter.unusedVariables false
set_option linter.unusedSimpArgs false
set_option maxRecDepth 1000000
set_option maxHeartbeats 40000000
namespace Go.Proofs
open Go.RowKit Go.Pf Go.Lx Go.Hb Go.Rb Go.Bg
theorem Xu (s : ByteArray) (K E : Nat) (w : World) (hs : s.size <= 100000000) (hL : Hid (Lay s 0 K E)) :
    Calls Tryz.prog 27 #[.string s] w fun e w' => e = .returned (.bool (OJ (UY s K E) s)) /\ Below w.heap.size w w' := by
  obtain ⟨R, hR⟩ : ∃ R, R = UY s K E := ⟨_, rfl⟩;obtain ⟨ly, hly⟩ : ∃ ly, ly = decide (0 < K) := ⟨_, rfl⟩;rw [<- hR];have C1 : Hid (Calls Tryz.prog 61 #[.string s, .int .i64 0] w (Cb R ly w)) := Hi (by rw [hR, hly]; exact ez s 0 K E w (by omega) (Nat.zero_le _) hL.out);have hz : ∀ p n, R = .err p n -> n ≠ 0 := fun p n h => by
    rw [hR] at h;unfold UY at h;split at h
    · exact KF h
    · rename_i hE; cases h; exact hE
  clear hR hly;cases R with
  | err p n =>
    have hn := hz p n rfl;have e1 : ((n : Int) == 0) = false := AA (by omega);have C2 : Hid (Calls Tryz.prog 61 #[.string s, .int .i64 0] w fun e w' => e = .returned (.tuple #[AK 0 ⟨#[]⟩ ⟨#[]⟩ 0 p p false, .int .i64 n]) /\ Below w.heap.size w w') := Hi C1.out;clear hn hz C1;go_enter Tryz.func27, Tryz.ntmps27
    go_wp2_with (go_at_call 61; (with_reducible refine C2.out.mono ?_))
    rintro e W1 ⟨rfl, b1⟩;have B1 := Hi b1;clear b1;unfold AK;go_wp2;refine AI (v := .bool false) ?_ rfl ⟨rfl, ?_⟩
    · simp only [results, Tryz.results27]
      go_simp
      try rfl
    · exact B1.out.trans (((AH _ _).alloc (nR _) _).mono B1.out.size)
  | ok k tx nu bits a en =>
    have C2 : Hid (Calls Tryz.prog 61 #[.string s, .int .i64 0] w fun e w' => e = .returned (.tuple #[AK k tx nu bits a en ly, .int .i64 0]) /\ Below w.heap.size w w') := Hi C1.out;have KEY : (((k : Int) == 1) = false /\ OJ (.ok k tx nu bits a en) s = false) \/ (((k : Int) == 1) = true /\ (¬ tx.toList = s.toList) /\ OJ (.ok k tx nu bits a en) s = false) \/ (((k : Int) == 1) = true /\ tx.toList = s.toList /\ OJ (.ok k tx nu bits a en) s = true) := by
      unfold OJ;by_cases hk : k = 1
      · by_cases ht : tx = s
        · exact .inr (.inr ⟨beq_of_eq (by omega), by rw [ht], by simp [hk, ht]⟩)
        · exact .inr (.inl ⟨beq_of_eq (by omega), fun h => ht (ByteArray.ext (Array.toList_inj.1 (by rw [<- gT, <- gT]; exact h))), by simp [ht]⟩)
      · exact .inl ⟨AA (by omega), by simp [hk]⟩
    obtain ⟨r, hr⟩ : ∃ r, r = OJ (.ok k tx nu bits a en) s := ⟨_, rfl⟩;rw [<- hr] at KEY ⊢;clear hz C1 hr;go_enter Tryz.func27, Tryz.ntmps27
    go_wp2_with (go_at_call 61; (with_reducible refine C2.out.mono ?_))
    rintro e W1 ⟨rfl, b1⟩;have B1 := Hi b1;clear b1;unfold AK;rcases KEY with ⟨k1, rfl⟩ | ⟨k1, k2, rfl⟩ | ⟨k1, k2, rfl⟩
    all_goals
      go_wp2;refine AI (v := .bool _) ?_ rfl ⟨rfl, B1.out.trans (((AH _ _).alloc (nR _) _).mono B1.out.size)⟩;simp only [results, Tryz.results27];go_simp
      try rfl
theorem bD (s : ByteArray) (hs : s.size <= 100000000) : ∃ r : Bool, (∀ W, EO W -> Calls Tryz.prog 25 #[.string s] W fun e w' => e = .returned (.bool r) /\ Below W.heap.size W w') /\ (∀ W, Calls Tryz.prog 27 #[.string s] W fun e w' => e = .returned (.bool r) /\ Below W.heap.size W w') := by
  obtain ⟨K, E, hL⟩ := Lay.ex s s.size 0 (by omega);exact ⟨_, fun W hW => X3 s K E W hs (Hi hL) (Hi hW), fun W => Xu s K E W hs (Hi hL)⟩
end Go.Proofs
