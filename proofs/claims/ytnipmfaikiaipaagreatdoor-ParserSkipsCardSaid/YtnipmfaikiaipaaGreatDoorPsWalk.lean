import Derived.Test.YtnipmfaikiaipaaGreatDoorProg
import Derived.WalkKit
import Derived.BigCall
import Derived.BigQuiet
import Derived.LoopTactic
import Derived.Lib.Hide
import Derived.Outline
import Derived.OwnWalk
import Derived.RegionTactic
import Derived.ChangeAlike
import Derived.StillTailTactics
import Derived.Deep.QuietTactic
import Derived.Deep.RegionWith
import Derived.Deep.DeepCutAuto
import Derived.WalkMore
/- The next end of a clause: what both sides tell, in plain words; their walks. -/
namespace Go.Ps
/-- Does a clause end with the byte at a place? -/
def endB (s : ByteArray) (a : Nat) : Bool :=
  if h : a < s.size then s[a].toNat == 46 && (if h2 : a + 1 < s.size then (decide (9 ≤ s[a + 1].toNat) && decide (s[a + 1].toNat ≤ 13)) || s[a + 1].toNat == 32 || s[a + 1].toNat == 37 else true) else false
def skipN (s : ByteArray) : Nat → Nat → Nat
  | 0, _ => s.size
  | n + 1, a => if endB s a then a + 1 else skipN s n (a + 1)
def skipE (s : ByteArray) (a : Nat) : Nat := skipN s (s.size - a) a
theorem skip_yes {s : ByteArray} {a : Nat} (h : a < s.size) (he : endB s a = true) : skipE s a = a + 1 := by
  unfold skipE
  obtain ⟨n, hn⟩ : ∃ n, s.size - a = n + 1 := ⟨s.size - a - 1, by omega⟩
  rw [hn, skipN, if_pos he]
theorem skip_no {s : ByteArray} {a : Nat} (h : a < s.size) (he : endB s a = false) : skipE s a = skipE s (a + 1) := by
  unfold skipE
  obtain ⟨n, hn⟩ : ∃ n, s.size - a = n + 1 := ⟨s.size - a - 1, by omega⟩
  rw [hn, skipN, he, show s.size - (a + 1) = n by omega]
  rfl
theorem skip_end {s : ByteArray} {a : Nat} (h : s.size ≤ a) : skipE s a = s.size := by
  unfold skipE
  rw [show s.size - a = 0 by omega]
  rfl
theorem end_at {s : ByteArray} {a : Nat} (h : a < s.size) : endB s a = (s[a].toNat == 46 && (if h2 : a + 1 < s.size then (decide (9 ≤ s[a + 1].toNat) && decide (s[a + 1].toNat ≤ 13)) || s[a + 1].toNat == 32 || s[a + 1].toNat == 37 else true)) := by
  unfold endB
  rw [dif_pos h]
theorem end_no {s : ByteArray} {a : Nat} (h : a < s.size) (h1 : s[a].toNat ≠ 46) : endB s a = false := by
  rw [end_at h, beq_false_of_ne h1]; rfl
theorem end_last {s : ByteArray} {a : Nat} (h : a < s.size) (h1 : s[a].toNat = 46) (h2 : a + 1 = s.size) : endB s a = true := by
  rw [end_at h, h1, dif_neg (by omega)]; rfl
theorem end_mid {s : ByteArray} {a j : Nat} (h : a < s.size) (h1 : s[a].toNat = 46) (hj : j = a + 1) (h2 : j < s.size) : endB s a = ((decide (9 ≤ s[j].toNat) && decide (s[j].toNat ≤ 13)) || s[j].toNat == 32 || s[j].toNat == 37) := by
  subst hj
  rw [end_at h, h1, dif_pos h2]; rfl
end Go.Ps
namespace Go.Proofs
open Go.RowKit Go.Ps
def SkipSays (n : Nat) (w : World) (e : Ending) (w' : World) : Prop := e = .returned (.int .i64 n) ∧ w = w'
theorem skip_ret {n : Int} {m : Nat} {w : World} (h : n = m) : SkipSays m w (.returned (.int .i64 n)) w := by subst h; exact ⟨rfl, rfl⟩
set_option maxRecDepth 100000 in
set_option maxHeartbeats 4000000 in
theorem Tryz.pskip (s : ByteArray) (z : Int) (w : World) (hs : s.size ≤ 4611686018427387904) : Calls Tryz.prog 7 #[.string s, .int .i64 z] w (SkipSays (skipE s z.toNat) w) := by
  obtain ⟨R, hR⟩ : ∃ R, R = skipE s z.toNat := ⟨_, rfl⟩
  rw [← hR]
  have HR := Lib.hid hR
  clear hR
  go_enter Tryz.func7, Tryz.ntmps7
  go_wp2
  all_goals
    go_loop [1] (fun v => ∃ i : Nat, v = .int .i64 i ∧ R = skipE s i) (fun v => s.size - (intOf v).toNat)
    case atStart =>
      first
        | exact ⟨0, rfl, by rw [HR.out, show z.toNat = 0 by omega]⟩
        | exact ⟨z.toNat, by congr 1; omega, HR.out⟩
    case round =>
      obtain ⟨i, rfl, hinv⟩ := hrel
      have HI := Lib.hid hinv
      clear hinv
      try clear h
      by_cases hlt : i < s.size
      · obtain ⟨j, hj⟩ : ∃ j, j = i + 1 := ⟨_, rfl⟩
        have ej : (i : Int) + 1 = (j : Int) := by omega
        have HJ := Lib.hid hj
        have hjs : j ≤ s.size := by omega
        clear hj
        by_cases h46 : s[i].toNat = 46
        · have t0 : ((s[i].toNat : Int) != 46) = false := by rw [h46]; rfl
          have t0' : ((s[i].toNat : Int) == 46) = true := by rw [h46]; rfl
          have H46 := Lib.hid h46
          clear h46
          by_cases hjn : j < s.size
          · have t1 : ((j : Int) == (s.size : Int)) = false := by rw [Bool.eq_false_iff]; intro e; have := eq_of_beq e; omega
            have HE := Lib.hid (end_mid hlt H46.out HJ.out hjn)
            obtain ⟨d, hd⟩ : ∃ d, d = s[j].toNat := ⟨_, rfl⟩
            have HD := Lib.hid hd
            have hd' : (s[j].toNat : Int) = (d : Int) := by rw [hd]
            rw [← hd] at HE
            have KEY : Hid ((decide ((9 : Int) ≤ (d : Int)) = true ∧ decide ((d : Int) ≤ 13) = true ∧ ((d : Int) == 32) = false ∧ ((d : Int) == 37) = false ∧ endB s i = true) ∨
                (decide ((9 : Int) ≤ (d : Int)) = false ∧ decide ((d : Int) ≤ 13) = true ∧ ((d : Int) == 32) = false ∧ ((d : Int) == 37) = false ∧ endB s i = false) ∨
                (decide ((9 : Int) ≤ (d : Int)) = true ∧ decide ((d : Int) ≤ 13) = false ∧ ((d : Int) == 32) = true ∧ ((d : Int) == 37) = false ∧ endB s i = true) ∨
                (decide ((9 : Int) ≤ (d : Int)) = true ∧ decide ((d : Int) ≤ 13) = false ∧ ((d : Int) == 32) = false ∧ ((d : Int) == 37) = true ∧ endB s i = true) ∨
                (decide ((9 : Int) ≤ (d : Int)) = true ∧ decide ((d : Int) ≤ 13) = false ∧ ((d : Int) == 32) = false ∧ ((d : Int) == 37) = false ∧ endB s i = false)) := Lib.hid (by
              rw [HE.out]
              simp only [decide_eq_true_eq, decide_eq_false_iff_not, beq_iff_eq, beq_eq_false_iff_ne, Bool.or_eq_true, Bool.and_eq_true, Bool.or_eq_false_iff, Bool.and_eq_false_iff, ne_eq]
              omega)
            clear hd HE
            rcases KEY.out with ⟨k1, k2, k3, k4, k5⟩ | ⟨k1, k2, k3, k4, k5⟩ | ⟨k1, k2, k3, k4, k5⟩ | ⟨k1, k2, k3, k4, k5⟩ | ⟨k1, k2, k3, k4, k5⟩
            all_goals
              have K5 := Lib.hid k5
              clear k5
              first
                | (have HF : Hid (R = j) := Lib.hid (by rw [HI.out, skip_yes hlt K5.out, HJ.out])
                   go_wp2
                   go_ret
                   exact skip_ret (by rw [HF.out]))
                | (have HN : Hid (R = skipE s j) := Lib.hid (by rw [HI.out, skip_no hlt K5.out, HJ.out])
                   go_wp2
                   go_round
                   case rel => exact ⟨j, by go_num, HN.out⟩
                   case measure => simp [intOf]; omega)
          · have hje : Hid (i + 1 = s.size) := Lib.hid (by have := HJ.out; omega)
            have t1 : ((j : Int) == (s.size : Int)) = true := by have := hje.out; have := HJ.out; rw [show j = s.size by omega]; exact beq_self_eq_true _
            have K5 := Lib.hid (end_last hlt H46.out hje.out)
            clear hjn
            have HF : Hid (R = j) := Lib.hid (by rw [HI.out, skip_yes hlt K5.out, HJ.out])
            go_wp2
            go_ret
            exact skip_ret (by rw [HF.out])
        · have t0 : ((s[i].toNat : Int) != 46) = true := bne_iff_ne.2 (by omega)
          have t0' : ((s[i].toNat : Int) == 46) = false := by rw [Bool.eq_false_iff]; intro e; have := eq_of_beq e; omega
          have K5 := Lib.hid (end_no hlt h46)
          clear h46
          have HN : Hid (R = skipE s j) := Lib.hid (by rw [HI.out, skip_no hlt K5.out, HJ.out])
          go_wp2
          go_round
          case rel => exact ⟨j, by go_num, HN.out⟩
          case measure => simp [intOf]; omega
      · have HF : Hid (R = s.size) := Lib.hid (by rw [HI.out]; exact skip_end (by omega))
        go_wp2
        go_ret
        exact skip_ret (by rw [HF.out])
set_option maxRecDepth 100000 in
theorem Tryz.rblank (c : Nat) (w : World) : Calls Tryz.prog 19 #[.int .u8 c] w fun e w' => e = .returned (.bool ((decide (9 ≤ c) && decide (c ≤ 13)) || c == 32)) ∧ w = w' := by
  obtain ⟨p, hp⟩ : ∃ p : Bool, p = decide (9 ≤ c) := ⟨_, rfl⟩
  have cp : decide ((9 : Int) ≤ (c : Int)) = p := by rw [hp]; exact decide_eq_decide.2 (by omega)
  obtain ⟨q, hq⟩ : ∃ p : Bool, p = decide (c ≤ 13) := ⟨_, rfl⟩
  have cq : decide ((c : Int) ≤ 13) = q := by rw [hq]; exact decide_eq_decide.2 (by omega)
  obtain ⟨r, hr⟩ : ∃ p : Bool, p = (c == 32) := ⟨_, rfl⟩
  have cr : ((c : Int) == 32) = r := by
    rw [hr, Bool.eq_iff_iff]
    simp only [beq_iff_eq]
    omega
  rw [← hp, ← hq, ← hr]
  clear hp hq hr
  cases p
  all_goals cases q
  all_goals cases r
  all_goals
    go_enter Tryz.func19, Tryz.ntmps19
    go_wp2
    go_ret
    exact ⟨rfl, rfl⟩
set_option maxRecDepth 100000 in
set_option maxHeartbeats 4000000 in
theorem Tryz.rskip5 (s : ByteArray) (z : Int) (w : World) (hs : s.size ≤ 4611686018427387904) : Calls Tryz.prog 8 #[.string s, .int .i64 z] w (SkipSays (skipE s z.toNat) w) := by
  obtain ⟨R, hR⟩ : ∃ R, R = skipE s z.toNat := ⟨_, rfl⟩
  rw [← hR]
  have HR := Lib.hid hR
  clear hR
  rcases Int.lt_or_le z 0 with h | h
  · have c0 : decide (z < 0) = true := decide_eq_true h
    have hz0 : Hid (z.toNat = 0) := Lib.hid (by omega)
    go_enter Tryz.func8, Tryz.ntmps8
    go_wp2
    go_loop [1] (fun v => ∃ i : Nat, v = .int .i64 i ∧ R = skipE s i) (fun v => s.size - (intOf v).toNat)
    case atStart => exact ⟨0, rfl, by rw [HR.out, hz0.out]⟩
    case round =>
      obtain ⟨i, rfl, hinv⟩ := hrel
      have HI := Lib.hid hinv
      clear hinv
      try clear h
      by_cases hlt : i < s.size
      · obtain ⟨j, hj⟩ : ∃ j, j = i + 1 := ⟨_, rfl⟩
        have ej : (i : Int) + 1 = (j : Int) := by omega
        have HJ := Lib.hid hj
        have hjs : j ≤ s.size := by omega
        clear hj
        by_cases h46 : s[i].toNat = 46
        · have t0 : ((s[i].toNat : Int) != 46) = false := by rw [h46]; rfl
          have t0' : ((s[i].toNat : Int) == 46) = true := by rw [h46]; rfl
          have H46 := Lib.hid h46
          clear h46
          by_cases hjn : j < s.size
          · have t1 : ((j : Int) == (s.size : Int)) = false := by rw [Bool.eq_false_iff]; intro e; have := eq_of_beq e; omega
            have HE := Lib.hid (end_mid hlt H46.out HJ.out hjn)
            obtain ⟨d, hd⟩ : ∃ d, d = s[j].toNat := ⟨_, rfl⟩
            have HD := Lib.hid hd
            have hd' : (s[j].toNat : Int) = (d : Int) := by rw [hd]
            rw [← hd] at HE
            have CB : Hid (∀ W, Calls Tryz.prog 19 #[.int .u8 d] W fun e w' => e = .returned (.bool ((decide (9 ≤ d) && decide (d ≤ 13)) || d == 32)) ∧ W = w') := Lib.hid fun W => Tryz.rblank d W
            obtain ⟨bl, hbl⟩ : ∃ bl, bl = ((decide (9 ≤ d) && decide (d ≤ 13)) || d == 32) := ⟨_, rfl⟩
            rw [← hbl] at CB
            have KEY : Hid ((((d : Int) == 37) = true ∧ endB s i = true) ∨ (((d : Int) == 37) = false ∧ bl = true ∧ endB s i = true) ∨ (((d : Int) == 37) = false ∧ bl = false ∧ endB s i = false)) := Lib.hid (by
              rw [HE.out, hbl]
              have e37 : ((d : Int) == 37) = (d == 37) := by rw [Bool.eq_iff_iff]; simp only [beq_iff_eq]; omega
              rw [e37]
              cases (d == 37) <;> cases ((decide (9 ≤ d) && decide (d ≤ 13)) || d == 32) <;> simp)
            clear hd HE
            clear hbl
            rcases KEY.out with ⟨k4, k5⟩ | ⟨k4, rfl, k5⟩ | ⟨k4, rfl, k5⟩
            all_goals
              have K5 := Lib.hid k5
              clear k5
              first
                | (have HF : Hid (R = j) := Lib.hid (by rw [HI.out, skip_yes hlt K5.out, HJ.out])
                   go_wp2_with (go_at_call 19; (with_reducible refine (CB.out _).mono ?_); rintro e wb ⟨rfl, rfl⟩)
                   go_ret
                   exact skip_ret (by rw [HF.out]))
                | (have HN : Hid (R = skipE s j) := Lib.hid (by rw [HI.out, skip_no hlt K5.out, HJ.out])
                   go_wp2_with (go_at_call 19; (with_reducible refine (CB.out _).mono ?_); rintro e wb ⟨rfl, rfl⟩)
                   go_round
                   case rel => exact ⟨j, by go_num, HN.out⟩
                   case measure => simp [intOf]; omega)
          · have hje : Hid (i + 1 = s.size) := Lib.hid (by have := HJ.out; omega)
            have t1 : ((j : Int) == (s.size : Int)) = true := by have := hje.out; have := HJ.out; rw [show j = s.size by omega]; exact beq_self_eq_true _
            have K5 := Lib.hid (end_last hlt H46.out hje.out)
            clear hjn
            have HF : Hid (R = j) := Lib.hid (by rw [HI.out, skip_yes hlt K5.out, HJ.out])
            go_wp2
            go_ret
            exact skip_ret (by rw [HF.out])
        · have t0 : ((s[i].toNat : Int) != 46) = true := bne_iff_ne.2 (by omega)
          have t0' : ((s[i].toNat : Int) == 46) = false := by rw [Bool.eq_false_iff]; intro e; have := eq_of_beq e; omega
          have K5 := Lib.hid (end_no hlt h46)
          clear h46
          have HN : Hid (R = skipE s j) := Lib.hid (by rw [HI.out, skip_no hlt K5.out, HJ.out])
          go_wp2
          go_round
          case rel => exact ⟨j, by go_num, HN.out⟩
          case measure => simp [intOf]; omega
      · have HF : Hid (R = s.size) := Lib.hid (by rw [HI.out]; exact skip_end (by omega))
        go_wp2
        go_ret
        exact skip_ret (by rw [HF.out])
  · obtain ⟨n, rfl⟩ : ∃ n : Nat, z = n := ⟨z.toNat, by omega⟩
    have c0 : decide ((n : Int) < 0) = false := decide_eq_false (by omega)
    go_enter Tryz.func8, Tryz.ntmps8
    go_wp2
    go_loop [1] (fun v => ∃ i : Nat, v = .int .i64 i ∧ R = skipE s i) (fun v => s.size - (intOf v).toNat)
    case atStart => exact ⟨n, rfl, by rw [HR.out]; rfl⟩
    case round =>
      obtain ⟨i, rfl, hinv⟩ := hrel
      have HI := Lib.hid hinv
      clear hinv
      try clear h
      by_cases hlt : i < s.size
      · obtain ⟨j, hj⟩ : ∃ j, j = i + 1 := ⟨_, rfl⟩
        have ej : (i : Int) + 1 = (j : Int) := by omega
        have HJ := Lib.hid hj
        have hjs : j ≤ s.size := by omega
        clear hj
        by_cases h46 : s[i].toNat = 46
        · have t0 : ((s[i].toNat : Int) != 46) = false := by rw [h46]; rfl
          have t0' : ((s[i].toNat : Int) == 46) = true := by rw [h46]; rfl
          have H46 := Lib.hid h46
          clear h46
          by_cases hjn : j < s.size
          · have t1 : ((j : Int) == (s.size : Int)) = false := by rw [Bool.eq_false_iff]; intro e; have := eq_of_beq e; omega
            have HE := Lib.hid (end_mid hlt H46.out HJ.out hjn)
            obtain ⟨d, hd⟩ : ∃ d, d = s[j].toNat := ⟨_, rfl⟩
            have HD := Lib.hid hd
            have hd' : (s[j].toNat : Int) = (d : Int) := by rw [hd]
            rw [← hd] at HE
            have CB : Hid (∀ W, Calls Tryz.prog 19 #[.int .u8 d] W fun e w' => e = .returned (.bool ((decide (9 ≤ d) && decide (d ≤ 13)) || d == 32)) ∧ W = w') := Lib.hid fun W => Tryz.rblank d W
            obtain ⟨bl, hbl⟩ : ∃ bl, bl = ((decide (9 ≤ d) && decide (d ≤ 13)) || d == 32) := ⟨_, rfl⟩
            rw [← hbl] at CB
            have KEY : Hid ((((d : Int) == 37) = true ∧ endB s i = true) ∨ (((d : Int) == 37) = false ∧ bl = true ∧ endB s i = true) ∨ (((d : Int) == 37) = false ∧ bl = false ∧ endB s i = false)) := Lib.hid (by
              rw [HE.out, hbl]
              have e37 : ((d : Int) == 37) = (d == 37) := by rw [Bool.eq_iff_iff]; simp only [beq_iff_eq]; omega
              rw [e37]
              cases (d == 37) <;> cases ((decide (9 ≤ d) && decide (d ≤ 13)) || d == 32) <;> simp)
            clear hd HE
            clear hbl
            rcases KEY.out with ⟨k4, k5⟩ | ⟨k4, rfl, k5⟩ | ⟨k4, rfl, k5⟩
            all_goals
              have K5 := Lib.hid k5
              clear k5
              first
                | (have HF : Hid (R = j) := Lib.hid (by rw [HI.out, skip_yes hlt K5.out, HJ.out])
                   go_wp2_with (go_at_call 19; (with_reducible refine (CB.out _).mono ?_); rintro e wb ⟨rfl, rfl⟩)
                   go_ret
                   exact skip_ret (by rw [HF.out]))
                | (have HN : Hid (R = skipE s j) := Lib.hid (by rw [HI.out, skip_no hlt K5.out, HJ.out])
                   go_wp2_with (go_at_call 19; (with_reducible refine (CB.out _).mono ?_); rintro e wb ⟨rfl, rfl⟩)
                   go_round
                   case rel => exact ⟨j, by go_num, HN.out⟩
                   case measure => simp [intOf]; omega)
          · have hje : Hid (i + 1 = s.size) := Lib.hid (by have := HJ.out; omega)
            have t1 : ((j : Int) == (s.size : Int)) = true := by have := hje.out; have := HJ.out; rw [show j = s.size by omega]; exact beq_self_eq_true _
            have K5 := Lib.hid (end_last hlt H46.out hje.out)
            clear hjn
            have HF : Hid (R = j) := Lib.hid (by rw [HI.out, skip_yes hlt K5.out, HJ.out])
            go_wp2
            go_ret
            exact skip_ret (by rw [HF.out])
        · have t0 : ((s[i].toNat : Int) != 46) = true := bne_iff_ne.2 (by omega)
          have t0' : ((s[i].toNat : Int) == 46) = false := by rw [Bool.eq_false_iff]; intro e; have := eq_of_beq e; omega
          have K5 := Lib.hid (end_no hlt h46)
          clear h46
          have HN : Hid (R = skipE s j) := Lib.hid (by rw [HI.out, skip_no hlt K5.out, HJ.out])
          go_wp2
          go_round
          case rel => exact ⟨j, by go_num, HN.out⟩
          case measure => simp [intOf]; omega
      · have HF : Hid (R = s.size) := Lib.hid (by rw [HI.out]; exact skip_end (by omega))
        go_wp2
        go_ret
        exact skip_ret (by rw [HF.out])
end Go.Proofs
