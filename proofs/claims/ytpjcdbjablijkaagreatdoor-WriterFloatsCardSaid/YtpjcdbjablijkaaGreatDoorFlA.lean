import Derived.Test.YtpjcdbjablijkaaGreatDoorFlM
import Derived.Test.YtpjcdbjablijkaaGreatDoorZwO
import Derived.Test.YtpjcdbjablijkaaGreatDoorDfI
set_option linter.unusedVariables false
set_option linter.unusedSimpArgs false
set_option maxRecDepth 1000000
set_option maxHeartbeats 40000000
/- ftoa64 at a float above nought, as few digits as may be. -/
namespace Go.Proofs
open Go.RowKit Go.Pf Go.Zw Go.Lx Go.Lib Go.Rb
/-- What ftoa64 answers. -/
def FtoaSays (b r u g : Nat) (w : World) (R : Ending) (w' : World) : Prop :=
  ∃ (U : Nat) (x : Int), Out b r u U x ∧ R = .returned (.slice (some ⟨g, 0, none⟩) (fltE (dsN U) x).length 24) ∧ DR w' g (fltE (dsN U) x) ∧ Below g w w'
theorem frombits0 (b : Nat) (w : World) : (callFunc 129 #[.float .f64 b]).run Tryz.prog w = .ok (.value (.int .u64 (b : Int))) w := by
  rw [run_callFunc_extern Tryz.func129 (by kernel_rfl) (by kernel_rfl) (by kernel_rfl) (e := Extern.MathFloatBits.float64bits) (by kernel_rfl)]
  rfl
theorem Tryz.enter135 (vs : Array Value) (w : World) : (callFunc 135 vs).run Tryz.prog w = .ok (.enter 135 vs) w := by kernel_rfl
theorem Tryz.enter136 (vs : Array Value) (w : World) : (callFunc 136 vs).run Tryz.prog w = .ok (.enter 136 vs) w := by kernel_rfl
theorem Tryz.ftoa (g b r u : Nat) (w : World) (h : FltOk b r u) (hg : DR w g []) (hL : Laid0 w) (hT : TabP w w.heap.size) (hgl : 21 < g) :
    Calls Tryz.prog 84 #[.slice (some ⟨g, 0, none⟩) 0 24, .float .f64 b, .int .u8 101, .int .i64 (-1)] w (FtoaSays b r u g w) := by
  have b63 : b < 9223372036854775808 := by have := h.inf; unfold infB at this; omega
  have r0 := h.r0
  have r53 := h.r53
  have u2 := h.u2
  have hb := h.eq
  have hn := h.nrm
  obtain ⟨e, he⟩ : ∃ e : Nat, e = b / 4503599627370496 := ⟨_, rfl⟩
  obtain ⟨m, hm⟩ : ∃ m : Nat, m = b % 4503599627370496 := ⟨_, rfl⟩
  have hcase : (e = 0 ∧ m = r ∧ u = 0) ∨ (0 < e ∧ m + 4503599627370496 = r ∧ e = u + 1) := by
    rcases hn with h1 | h1
    · subst h1
      rcases Nat.lt_or_ge r 4503599627370496 with h2 | h2
      · left; omega
      · right; omega
    · right; omega
  have e2 : e < 2047 := by omega
  have m52 : m < 4503599627370496 := by omega
  have q0 : (b : Int) / 9223372036854775808 = 0 := by omega
  have q1 : (b : Int) / 4503599627370496 = (e : Int) := by omega
  have q2 : bits .and .i64 (e : Int) 2047 = (e : Int) := by
    have := bits_mask .i64 63 (by decide) (fun n h0 h1 => IntWalk.i64_in n ⟨by omega, by omega⟩) 11 (by decide) (e : Int) (by omega) (by omega)
    rw [show (2 : Int) ^ 11 - 1 = 2047 by decide] at this
    rw [this]
    omega
  have q3 : bits .and .u64 (b : Int) 4503599627370495 = (m : Int) := by
    have h1 := u64_and_nat b 4503599627370495 (by omega) (by decide)
    rw [show 4503599627370495 = 2 ^ 52 - 1 by decide, Nat.and_two_pow_sub_one_eq_mod] at h1
    have e52 : (2 : Nat) ^ 52 = 4503599627370496 := by decide
    rw [e52, ← hm] at h1
    exact h1
  have HC := Lib.hid hcase
  have HH := Lib.hid h
  clear hb hn he hm hcase h
  go_enter Tryz.func84, Tryz.ntmps84
  go_upto_region 13 with (rw [frombits0, Oper.upon_value])
  go_cut [13] from 34 (fun v wx => v = .bool false ∧ w = wx)
  case first =>
    as_aux_lemma =>
    have z0 : ((0 : Int) != 0) = false := rfl
    go_wp2
    go_meet
    exact ⟨rfl, rfl⟩
  case rest =>
  obtain ⟨rfl, rfl⟩ := hcut
  go_upto_region 14 with fail
  go_cut [14] from 34 (fun v wx => v = .int .i64 e ∧ Hp w wx)
  case first =>
    as_aux_lemma =>
    go_quiet (fail)
    go_wp2
    go_meet
    exact ⟨rfl, hp_drewN _ _⟩
  case rest =>
  obtain ⟨rfl, hp⟩ := hcut
  have HW := Lib.hid hp
  clear hp
  obtain ⟨W1, hW1⟩ : ∃ W : World, W = wc := ⟨_, rfl⟩
  rw [← hW1] at HW ⊢
  clear hW1
  go_upto_region 15 with fail
  go_cut [15] from 34 (fun v wx => v = .int .u64 m ∧ W1 = wx)
  case first =>
    as_aux_lemma =>
    go_wp2
    go_meet
    exact ⟨rfl, rfl⟩
  case rest =>
  obtain ⟨rfl, rfl⟩ := hcut
  have t1 : ((e : Int) == 2047) = false := beq_of_ne (by omega)
  go_upto_if 78 with fail
  go_cut [14, 15] from 34 (fun v14 v15 wx => v14 = .int .i64 ((u : Int) + 1) ∧ v15 = .int .u64 r ∧ W1 = wx)
  case first =>
    as_aux_lemma =>
    rcases HC.out with ⟨h1, h2, h3⟩ | ⟨h1, h2, h3⟩
    · subst h1 h3
      subst h2
      go_wp2
      go_meet
      exact ⟨rfl, rfl, rfl⟩
    · have t2 : ((e : Int) == 0) = false := beq_of_ne (by omega)
      have q4 : bits .or .u64 (m : Int) 4503599627370496 = (r : Int) := by
        have h4 := u64_or_nat m 4503599627370496 (by omega) (by decide)
        have h5 : 2 ^ 52 + m = 2 ^ 52 ||| m := Nat.two_pow_add_eq_or_of_lt (i := 52) (by have e52 : (2 : Nat) ^ 52 = 4503599627370496 := by decide
                                                                                         omega) 1 |> fun h => by simpa using h
        have e52 : (2 : Nat) ^ 52 = 4503599627370496 := by decide
        rw [e52, Nat.or_comm] at h5
        rw [← h5] at h4
        rw [show ((4503599627370496 : Nat) : Int) = 4503599627370496 from rfl] at h4
        rw [h4]
        omega
      have e3 : (e : Int) = (u : Int) + 1 := by omega
      clear h1 h2 h3 HC
      go_wp2
      go_meet
      exact ⟨by rw [e3], rfl, rfl⟩
  case rest =>
  obtain ⟨rfl, rfl, rfl⟩ := hcut
  clear q0 q1 q2 q3 t1 HC e2 m52
  have x1 : (u : Int) + 1 + -1023 = (u : Int) - 1022 := by omega
  obtain ⟨ex, hex⟩ : ∃ ex : Int, ex = (u : Int) - 1022 := ⟨_, rfl⟩
  have x2 : (u : Int) + 1 + -1023 = ex := by omega
  have x3 : -1022 ≤ ex ∧ ex ≤ 1024 := by omega
  have HEX := Lib.hid hex
  clear hex x1
  have t3 : ((r : Int) == 0) = false := beq_of_ne (by omega)
  obtain ⟨s, hs, hsL, s11, s63, m63, m64, hle, h52⟩ := shf HH.out.r0 HH.out.r53
  obtain ⟨L, hL2⟩ : ∃ L, L = Lib.bitLen r := ⟨_, rfl⟩
  have CL : Hid (∀ W, Calls Tryz.prog 133 #[.int .u64 r] W fun e w' => e = .returned (.int .i64 L) ∧ W = w') := Lib.hid (fun W => by
    have := Tryz.bits_Len64 (r : Int) W (by omega) (by omega)
    rw [Int.toNat_natCast] at this
    rw [hL2]
    exact this.mono (fun e w' h => ⟨h.1, h.2.symm⟩))
  rw [← hL2] at hs hsL
  have y1 : (64 : Int) - L = s := by omega
  obtain ⟨ms, hms⟩ : ∃ ms, ms = r * 2 ^ s := ⟨_, rfl⟩
  obtain ⟨e5, he5⟩ : ∃ e5 : Int, e5 = (u : Int) - 1074 - s := ⟨_, rfl⟩
  obtain ⟨e4, he4⟩ : ∃ e4 : Int, e4 = ex - s := ⟨_, rfl⟩
  have y2 : ex - (s : Int) = e4 := he4.symm
  have y3 : e4 - 52 = e5 := by have := HEX.out; omega
  have y4 : -2000 ≤ e4 ∧ e4 ≤ 2000 ∧ -2000 ≤ e5 ∧ e5 ≤ 2000 := by omega
  have ms64 : ms < 18446744073709551616 := by have := Nat.two_pow_pos (s-1); omega
  have yms : (r : Int) * 2 ^ s = (ms : Int) := by rw [hms]; simp
  have L64 : L ≤ 64 := by omega
  have HS : Hid (s = 64 - Lib.bitLen r) := Lib.hid (by rw [← hL2]; exact hs)
  have HMS := Lib.hid hms
  have HE5 := Lib.hid he5
  clear hs hsL hms he5 he4 m63 m64 hle h52 hL2
  go_upto_region 33 with fail
  obtain ⟨d, hd⟩ : ∃ d, d = (pDig r u).1 := ⟨_, rfl⟩
  obtain ⟨pp, hpp⟩ : ∃ pp : Int, pp = pUnit (skB r u) u + ((pDig r u).2 : Nat) := ⟨_, rfl⟩
  have hW1s : w.heap.size ≤ W1.heap.size := HW.out.below.size
  have hg1 : DR W1 g [] := by
    obtain ⟨cur, k1, k2, k3⟩ := hg
    exact ⟨cur, by rw [HW.out.heap]; exact k1, k2, k3⟩
  have glt : g < W1.heap.size := by
    obtain ⟨cur, k1, _⟩ := hg1
    exact (Array.getElem?_eq_some_iff.1 k1).1
  have hL1 := Lib.hid (hL.below HW.out.below)
  have hT1 := Lib.hid (hT.below HW.out.below)
  have CSH : Hid (∀ W, Below W1.heap.size W1 W → Calls Tryz.prog 142 #[.int .u64 ms, .int .i64 e5] W fun e w' => e = .returned (.tuple #[.int .u64 d, .int .i64 pp]) ∧ Below W.heap.size W w') := Lib.hid (fun W hW => by
    have h := Tryz.short b r u s e5 W HH.out HS.out HE5.out (Lib.hid ((hT1.out.below (hW.mono hW1s)).a.t16)) (by have := hW.size; omega)
    rw [← HMS.out, ← hd, ← hpp] at h
    exact h)
  have HG1 := Lib.hid hg1
  have hgw : Hid (g ≤ w.heap.size) := Lib.hid (by
    obtain ⟨cur, k1, _⟩ := hg
    exact Nat.le_of_lt (Array.getElem?_eq_some_iff.1 k1).1)
  have HD := Lib.hid (And.intro hd hpp)
  clear hd hpp hg hg1 hL hT
  go_upto_region 34 with fail
  generalize hWA : W1.alloc _ = WA
  have bA : Below W1.heap.size W1 WA := by subst hWA; exact (Below.refl _ _).alloc (nR _) _
  obtain ⟨bb, hbb⟩ : ∃ x, x = W1.heap.size := ⟨_, rfl⟩
  have hHold : ∀ n, n ≤ 32 → Go.Sort.Holds u8V WA bb 0 (Array.replicate n (0 : UInt8)) := by
    subst hWA
    rw [hbb]
    intro n hn j hj
    have hb := heap_alloc_new W1 (.cells (Array.replicate 32 (Value.int .u8 0)) 181)
    rw [Array.size_replicate] at hj
    refine ⟨?_, Lib.frozen_of_heap hb _⟩
    refine (Lib.cell_of_heap hb _).trans ?_
    rw [Array.getElem?_replicate, if_pos (by omega), getElem!_pos _ _ (by rw [Array.size_replicate]; exact hj), Array.getElem_replicate]
    rfl
  have szA : bb < WA.heap.size := by subst hWA; rw [hbb]; simp
  have BA := Lib.hid bA
  have HHold := Lib.hid hHold
  have hgb : g < bb := by omega
  rw [← hbb]
  have HBB := Lib.hid hbb
  clear hWA bA hHold hbb
  go_upto_region 38 with (first | (go_at_call 133; (with_reducible refine (CL.out _).mono ?_); rintro e' W2 ⟨rfl, rfl⟩) | (go_at_call 142; (with_reducible refine (CSH.out _ BA.out).mono ?_); rintro e' W3 ⟨rfl, b3⟩))
  have hb3 : Below W1.heap.size W1 W3 := BA.out.trans (b3.mono (by have := HBB.out; omega))
  have h1 := FltOk.val HH.out (fun he hn => dDig_pos he hn)
  rw [← HD.out.1] at h1
  have hd1 := h1.1
  have hd17 := h1.2
  have hpp : -326 ≤ pp ∧ pp ≤ 341 := by
    have h2 := HD.out.2
    have h3 : (pDig r u).2 ≤ 1 := by
      unfold pDig pPick
      split
      · exact Nat.le_refl _
      · split <;> exact Nat.zero_le _
    have h4 : -326 ≤ pUnit (skB r u) u ∧ pUnit (skB r u) u ≤ 340 := by
      unfold pUnit
      split <;> omega
    omega
  obtain ⟨nd, hnd⟩ : ∃ nd, nd = Lib.nDigits d := ⟨_, rfl⟩
  have hnd17 : nd ≤ 17 := by
    have e : (10 : Nat) ^ (16 + 1) = 100000000000000000 := by decide
    rw [hnd]
    exact nDigits_le 16 d (by rw [e]; exact hd17)
  have HND := Lib.hid hnd
  have hb3A : Below WA.heap.size WA W3 := b3
  have CN : Hid (∀ W, Hp W3 W → Calls Tryz.prog 136 #[.int .u64 d] W fun e w' => e = .returned (.int .i64 nd) ∧ W = w') := Lib.hid (fun W h => by
    have hl : Laid0 W := (hL1.out.below hb3).below h.below
    refine (Tryz.internal_strconv_numDigits d hd1 (by omega) W hl.pow10).mono ?_
    rintro e w' ⟨rfl, rfl⟩
    exact ⟨by rw [HND.out], rfl⟩)
  have CD : Hid (∀ W, Hp W3 W → Calls Tryz.prog 135 #[.slice (some ⟨bb, 0, none⟩) 32 32, .int .u64 d, .int .i64 pp, .int .i64 nd] W (SDig d pp bb W)) := Lib.hid (fun W h => by
    refine Tryz.setDigits bb d nd pp W hd1 (by omega) HND.out (by omega) (by omega) (by omega) (Lib.hid ?_)
    intro j hj
    obtain ⟨k1, k2⟩ := HHold.out nd (by omega) j hj
    have hh : W.heap = W3.heap := h.heap
    have hbk : W3.heap[bb]? = WA.heap[bb]? := hb3A.block bb szA
    constructor
    · exact ((World.cell?_of_block (a := ⟨bb, 0 + j, none⟩) (by show W.heap[bb]? = WA.heap[bb]?; rw [hh, hbk]))).trans k1
    · exact ((World.frozen?_of_block (a := ⟨bb, 0 + j, none⟩) (by show W.heap[bb]? = WA.heap[bb]?; rw [hh, hbk]))).trans k2)
  have BW3 := Lib.hid hb3
  have SZ3 : Hid (bb ≤ W3.heap.size) := Lib.hid (by have := b3.size; omega)
  have b3s : Hid (WA.heap.size ≤ W3.heap.size) := Lib.hid b3.size
  clear hnd hb3 hb3A b3 h1
  go_cut [22, 23] from 34 (fun v22 v23 wx => ∃ U z : Nat, d = U * 10 ^ z ∧ U % 10 ≠ 0 ∧ v22 = .int .i64 ((nd : Int) + pp) ∧ v23 = .int .i64 (Lib.nDigits U : Nat) ∧ (∀ t, t < Lib.nDigits U → wx.cell? ⟨bb, t, none⟩ = some (.int .u8 (dgl U t : Nat))) ∧ Below bb W3 wx)
  case first =>
    as_aux_lemma =>
    refine wp_region_held_drew (S := fun W => Below bb W3 W) (by kernel_rfl) (show Below bb W3 W3.drew from ⟨rfl, rfl, rfl, Nat.le_refl _, fun k _ => rfl⟩) (fun hS => ?_)
    refine wpAnyH_take (i := 0) (oi := _) (v := .slice (some ⟨bb, 0, none⟩) 32 32) rfl (by kernel_rfl) (by kernel_rfl) (by kernel_rfl) (fun _ _ _ h => h) (Or.inl ⟨by rfl, ?_⟩) hS ?_
    · intro W hSW
      go_simp
    simp only [uu1, uu2, uu3, Act.put, uu4, uu5, uu6]
    refine wpAnyH_take (i := 1) (oi := _) (v := .int .u64 d) rfl (by kernel_rfl) (by kernel_rfl) (by kernel_rfl) (fun _ _ _ h => h) (Or.inl ⟨by rfl, ?_⟩) hS ?_
    · intro W hSW
      go_simp
    simp only [uu1, uu2, uu3, Act.put, uu4, uu5, uu6]
    refine wpAnyH_take (i := 2) (oi := _) (v := .int .i64 pp) rfl (by kernel_rfl) (by kernel_rfl) (by kernel_rfl) (fun _ _ _ h => h) (Or.inl ⟨by rfl, ?_⟩) hS ?_
    · intro W hSW
      go_simp
    simp only [uu1, uu2, uu3, Act.put, uu4, uu5, uu6]
    refine wpAnyH_take (i := 3) (oi := _) (v := .int .u64 d) rfl (by kernel_rfl) (by kernel_rfl) (by kernel_rfl) (fun _ _ _ h => h) (Or.inl ⟨by rfl, ?_⟩) hS ?_
    · intro W hSW
      go_simp
    simp only [uu1, uu2, uu3, Act.put, uu4, uu5, uu6]
    refine wpAnyH_ready (rs := [4]) (by kernel_rfl) (by simp) ?_
    refine AllReadyH.cons rfl (fun K hK => ?_) AllReadyH.nil
    refine step_call (by rfl) 136 [.tmp 143] #[22] (by rfl) #[.int .u64 d] (by kernel_rfl) Tryz.enter136 ((CN.out _ (hp_drew _)).mono ?_)
    rintro e' W6 ⟨rfl, rfl⟩
    refine ⟨_, rfl, ?_⟩
    refine hK.out _ _ hS (fun hS => ?_)
    simp only [uu1, uu2, uu3, Act.put, uu4, uu5, uu6]
    refine wpAnyH_ready (rs := [5]) (by kernel_rfl) (by simp) ?_
    refine AllReadyH.cons rfl (fun K hK => ?_) AllReadyH.nil
    refine step_call (by rfl) 135 [.tmp 140, .tmp 141, .tmp 142, .tmp 144] #[88, 22, 3, 3] (by rfl) #[.slice (some ⟨bb, 0, none⟩) 32 32, .int .u64 d, .int .i64 pp, .int .i64 nd] (by kernel_rfl) Tryz.enter135 ((CD.out _ (hp_drew _)).mono ?_)
    rintro e' W7 ⟨⟨U, z, f1, f2, rfl, f4⟩, f5⟩
    refine ⟨_, rfl, ?_⟩
    refine hK.out _ _ (hS.trans f5) (fun hS => ?_)
    simp only [uu1, uu2, uu3, Act.put, uu4, uu5, uu6]
    refine wpAnyH_take (i := 6) (oi := _) (v := .tuple #[.int .i64 ((Lib.nDigits d : Int) + pp), .int .i64 (Lib.nDigits U : Nat)]) rfl (by kernel_rfl) (by kernel_rfl) (by kernel_rfl) (fun _ _ _ h => h) (Or.inl ⟨by rfl, ?_⟩) hS ?_
    · intro W hSW
      go_simp
    simp only [uu1, uu2, uu3, Act.put, uu4, uu5, uu6]
    refine wpAnyH_take (i := 7) (oi := _) (v := .int .i64 ((Lib.nDigits d : Int) + pp)) rfl (by kernel_rfl) (by kernel_rfl) (by kernel_rfl) (fun _ _ _ h => h) (Or.inl ⟨by rfl, ?_⟩) hS ?_
    · intro W hSW
      go_simp
    simp only [uu1, uu2, uu3, Act.put, uu4, uu5, uu6]
    refine wpAnyH_take (i := 8) (oi := _) (v := .int .i64 (Lib.nDigits U : Nat)) rfl (by kernel_rfl) (by kernel_rfl) (by kernel_rfl) (fun _ _ _ h => h) (Or.inl ⟨by rfl, ?_⟩) hS ?_
    · intro W hSW
      go_simp
    simp only [uu1, uu2, uu3, Act.put, uu4, uu5, uu6]
    refine wpAnyH_take (i := 9) (oi := _) (v := .int .i64 ((Lib.nDigits d : Int) + pp)) rfl (by kernel_rfl) (by kernel_rfl) (by kernel_rfl) (fun _ _ _ h => h) (Or.inl ⟨by rfl, ?_⟩) hS ?_
    · intro W hSW
      go_simp
    simp only [uu1, uu2, uu3, Act.put, uu4, uu5, uu6]
    refine wpAnyH_take (i := 10) (oi := _) (v := .int .i64 (Lib.nDigits U : Nat)) rfl (by kernel_rfl) (by kernel_rfl) (by kernel_rfl) (fun _ _ _ h => h) (Or.inl ⟨by rfl, ?_⟩) hS ?_
    · intro W hSW
      go_simp
    simp only [uu1, uu2, uu3, Act.put, uu4, uu5, uu6]
    refine wpAnyH_done (by kernel_rfl) ?_ _
    go_wp2
    go_meet
    exact ⟨U, z, f1, f2, by rw [HND.out], rfl, f4, hS⟩
  case rest =>
  obtain ⟨U, z, f1, f2, rfl, rfl, f4, f5⟩ := hcut
  as_aux_lemma =>
  have hO := HH.out.out (A := z + (pDig r u).2) f2 (by rw [← HD.out.1, f1, Nat.pow_add, Nat.mul_assoc])
  have hU1 : 1 ≤ U := by omega
  have hndU : nd = Lib.nDigits U + z := by rw [HND.out, f1]; exact nDigits_tens hU1 z
  obtain ⟨Ln, hLn⟩ : ∃ n, n = Lib.nDigits U := ⟨_, rfl⟩
  obtain ⟨dp, hdp⟩ : ∃ dp : Int, dp = (nd : Int) + pp := ⟨_, rfl⟩
  rw [← hLn] at f4 hndU ⊢
  rw [← hdp]
  have hL1' : 1 ≤ Ln := by rw [hLn]; exact Lib.nDigits_pos U
  have hLn17 : Ln ≤ 17 := by omega
  have hdpb : -400 ≤ dp ∧ dp ≤ 400 := by omega
  have hO2 : Out b r u U (dp - 1) := by
    have h2 := HD.out.2
    rw [← hLn] at hO
    rwa [show pUnit (skB r u) u + ((z + (pDig r u).2 : Nat) : Int) + (Ln : Nat) - 1 = dp - 1 by omega] at hO
  have HO := Lib.hid hO2
  have hsz : bb < wc.heap.size := Nat.lt_of_lt_of_le (Nat.lt_of_lt_of_le szA b3s.out) f5.size
  have hfe : FE wc g bb (dsN U) [] wc := by
    refine ⟨?_, ?_, Below.refl _ _, by omega, by omega, hsz⟩
    · obtain ⟨cur, k1, k2, k3⟩ := HG1.out
      refine ⟨cur, ?_, k2, k3⟩
      rw [f5.block g hgb, BW3.out.block g glt]
      exact k1
    · intro t ht
      have h1 : t < Ln := by rw [hLn]; unfold dsN at ht; rw [List.length_map, Lib.decDigits_length] at ht; exact ht
      rw [f4 t h1]
      have h9 : (dsN U)[t] = dgl U t := dsN_get U t ht
      rw [h9]
      rfl
  have hdl : (dsN U).length = Ln := by unfold dsN; rw [List.length_map, Lib.decDigits_length, hLn]
  have BALL : Hid (∀ w', Below g wc w' → Below g w w') := Lib.hid (fun w' h => by
    have a1 : Below g w W1 := HW.out.below.mono hgw.out
    have a2 : Below g W1 W3 := BW3.out.mono (by omega)
    have a3 : Below g W3 wc := f5.mono (by omega)
    exact ((a1.trans a2).trans a3).trans h)
  obtain ⟨ds, hds⟩ : ∃ ds, ds = dsN U := ⟨_, rfl⟩
  rw [← hds] at hfe hdl
  have CF := Lib.hid (Tryz.fmtE g bb Ln ds dp wc (Lib.hid hfe) hdl hL1' hLn17 hdpb.1 hdpb.2)
  have HDS := Lib.hid hds
  have mx : max ((Ln : Int) - 1) 0 = (Ln : Int) - 1 := by omega
  clear hfe hdl hds f1 f2 f4 f5 hO hO2 hU1 hndU hLn hdp CN CD HHold HG1 BW3 HND HD
  go_wp2_with (go_at_call 132; (with_reducible refine CF.out.mono ?_); rintro e' W8 ⟨rfl, hF⟩)
  refine bodyPost_ret (v := .slice (some ⟨g, 0, none⟩) (fltE ds (dp - 1)).length 24) ?_ rfl ⟨U, dp - 1, HO.out, by rw [← HDS.out], by rw [← HDS.out]; exact hF.row, BALL.out _ hF.bel⟩
  simp only [results, Tryz.results84]
  go_simp
end Go.Proofs
