import Derived.Test.YtpjcdbjablijkaaGreatDoorDfE
set_option linter.unusedVariables false
set_option linter.unusedSimpArgs false
set_option maxRecDepth 1000000
set_option maxHeartbeats 40000000
/- The document's row of digits. -/
namespace Go.Proofs
open Go.RowKit Go.Pf Go.Rb Go.Zw Go.Lx
/-- What row answers. -/
def RowEnd6 (b r u : Nat) (w : World) (R : Ending) (w' : World) : Prop :=
  ∃ (e : Int) (n : Nat), ExpOk r u e ∧ -400 ≤ e ∧ e ≤ 400 ∧ 1 ≤ n ∧ n ≤ 17 ∧ rdEx b (e - n + 1) ∧ (n = 1 ∨ ¬ rdEx b (e - n + 2)) ∧
    R = .returned (.tuple #[.string ⟨(Lib.decDigits (dDig b r u (e - n + 1))).toArray⟩, .int .i64 (e + Lib.nDigits (dDig b r u (e - n + 1)) - n)]) ∧ Below w.heap.size w w'
/-- Memory of row: the quotient. -/
structure Rw (w W : World) (pa pb : Nat) (aa ba : Option Addr) (am ac bm bc : Nat) (A B : Nat) : Prop where
  bl : Below w.heap.size w W
  ca : Ce W pa (.bool false) (.slice aa am ac)
  cb : Ce W pb (.bool false) (.slice ba bm bc)
  va : BtV W (.slice aa am ac) A am
  vb : BtV W (.slice ba bm bc) B bm
theorem Rw.next {w W W' : World} {pa pb : Nat} {aa ba : Option Addr} {am ac bm bc A B : Nat} (h : Rw w W pa pb aa ba am ac bm bc A B) (hb : Below W.heap.size W W') : Rw w W' pa pb aa ba am ac bm bc A B := ⟨h.bl.trans (hb.mono h.bl.size), h.ca.below hb, h.cb.below hb, h.va.below hb, h.vb.below hb⟩
theorem Rw.hp {w W W' : World} {pa pb : Nat} {aa ba : Option Addr} {am ac bm bc A B : Nat} (h : Rw w W pa pb aa ba am ac bm bc A B) (hb : Hp W W') : Rw w W' pa pb aa ba am ac bm bc A B := h.next hb.below
theorem Rw.set {w W : World} {pa pb p : Nat} {aa ba : Option Addr} {am ac bm bc A B : Nat} {s : Bool} {a : Option Addr} {m c : Nat} (h : Rw w W pa pb aa ba am ac bm bc A B) (t : Ce W p (.bool s) (.slice a m c)) (k : w.heap.size ≤ p ∧ pa < p ∧ pb < p) (u v : Value) : Rw w ((W.setCell ⟨p, 0, none⟩ u).setCell ⟨p, 1, none⟩ v) pa pb aa ba am ac bm bc A B :=
  ⟨(h.bl.setCell k.1 _).setCell k.1 _, (h.ca.other (Nat.ne_of_lt k.2.1) _).other (Nat.ne_of_lt k.2.1) _, (h.cb.other (Nat.ne_of_lt k.2.2) _).other (Nat.ne_of_lt k.2.2) _, h.va.ce t _ _, h.vb.ce t _ _⟩
theorem tdiv_ok (t : Int) (h1 : -40000000 ≤ t) (h2 : t ≤ 40000000) : -400 ≤ t.tdiv 100000 ∧ t.tdiv 100000 ≤ 400 := by
  rcases Int.le_total 0 t with h | h
  · rw [Int.tdiv_eq_ediv_of_nonneg h]; omega
  · have : t = -(-t) := by omega
    rw [this, Int.neg_tdiv, Int.tdiv_eq_ediv_of_nonneg (by omega)]
    omega
theorem Tryz.row6 (b r u : Nat) (w : World) (h : FltOk b r u) : Calls Tryz.prog 23 #[.int .u64 b] w (RowEnd6 b r u w) := by
  have b64 : b < 18446744073709551616 := by have := h.inf; unfold infB at this; omega
  have u2 := h.u2
  have HH := Lib.hid h
  have CR := Lib.hid (fun W => Tryz.ratio b r u W h)
  clear h
  go_enter Tryz.func23, Tryz.ntmps23
  go_upto_region 2 with (go_at_call 53; (with_reducible refine (CR.out _).mono ?_); rintro e' W2 ⟨⟨aa, am, ac, ba, bm, bc, rfl, ha1, ha2, hb1, hb2, b2⟩⟩)
  generalize hWa : (W2.alloc _).alloc _ = W3
  have b3 : Below W2.heap.size W2 W3 := by subst hWa; exact ((Below.refl _ _).alloc (nR _) _).alloc (by simp) _
  have ce3 : Ce W3 W2.heap.size (.bool false) (.slice aa am ac) := by subst hWa; exact (Ce.new W2 _ _).below ((Below.refl _ _).alloc (nR _) _)
  have ce4 : Ce W3 (W2.heap.size+1) (.bool false) (.slice ba bm bc) := by
    subst hWa
    have h := Ce.new (W2.alloc (.cells #[.bool false, .slice aa am ac] 65)) (.bool false) (.slice ba bm bc)
    rw [show (W2.alloc (.cells #[.bool false, .slice aa am ac] 65)).heap.size = W2.heap.size + 1 by simp] at h
    exact h
  have G3 : Hid (Rw w W3 W2.heap.size (W2.heap.size+1) aa ba am ac bm bc (rA r u) (rB u)) := Lib.hid ⟨b2.trans (b3.mono b2.size), ce3, ce4, ha2.below b3, hb2.below b3⟩
  have HT := Lib.hid (And.intro ha1 hb1)
  obtain ⟨pa, hpa⟩ : ∃ p, p = W2.heap.size := ⟨_, rfl⟩
  obtain ⟨pb, hpb⟩ : ∃ p, p = pa + 1 := ⟨_, rfl⟩
  rw [← hpa, ← hpb] at G3 ⊢
  clear hWa b2 b3 ce3 ce4 ha1 ha2 hb1 hb2 hpa hpb W2 CR
  have AM : am ≤ 1025 := by
    have h1 : rA r u < 2 ^ (53 + (u - 1074)) := by
      have e53 : 9007199254740992 = 2 ^ 53 := by decide
      have := HH.out.r53
      unfold rA
      rw [Nat.pow_add]
      exact Nat.mul_lt_mul_of_pos_right (by omega) (Nat.two_pow_pos _)
    have := bits_of HT.out.1 h1
    omega
  have BM : bm ≤ 1075 := by
    have h1 : rB u < 2 ^ (1074 - u + 1) := by
      unfold rB
      exact Nat.pow_lt_pow_right (by decide) (by omega)
    have := bits_of HT.out.2 h1
    omega
  obtain ⟨E, hE1, hE2, hE3, hE4⟩ := exp_ex HH.out.r0 HH.out.r53 HH.out.u2
  have HE := Lib.hid (And.intro hE3 hE4)
  clear hE3 hE4
  obtain ⟨d, hd⟩ : ∃ d : Int, (am : Int) - bm = d := ⟨_, rfl⟩
  obtain ⟨e0, he0⟩ : ∃ e0 : Int, e0 = (d * 30103).tdiv 100000 := ⟨_, rfl⟩
  have he0b : -400 ≤ e0 ∧ e0 ≤ 400 := by rw [he0]; exact tdiv_ok _ (by omega) (by omega)
  have HE0 := Lib.hid he0
  clear he0
  have c0 := G3.out.ca.c1
  have c1 := G3.out.cb.c1
  go_upto_region 2 with fail
  go_cut [6] from 18 (fun v wx => v = .int .i64 e0 ∧ W3 = wx)
  case first =>
    go_wp2
    go_meet
    exact ⟨by rw [HE0.out], rfl⟩
  case rest =>
  obtain ⟨rfl, rfl⟩ := hcut
  have CS : Hid (∀ (e : Int) W, -700 ≤ e → e ≤ 700 → Rw w W pa pb aa ba am ac bm bc (rA r u) (rB u) → Calls Tryz.prog 54 #[.agg #[.bool false, .slice aa am ac], .agg #[.bool false, .slice ba bm bc], .int .i64 (-e)] W fun R W' => ∃ xa xm xc ya ym yc, R = .returned (.tuple #[.agg #[.bool false, .slice xa xm xc], .agg #[.bool false, .slice ya ym yc]]) ∧ T2 (sX r u e) xm ∧ BtV W' (.slice xa xm xc) (sX r u e) xm ∧ T2 (sY u e) ym ∧ BtV W' (.slice ya ym yc) (sY u e) ym ∧ Below W.heap.size W W' ∧ Rw w W' pa pb aa ba am ac bm bc (rA r u) (rB u)) := Lib.hid (fun e W h1 h2 h3 => by
    have h := Tryz.scaled (.slice aa am ac) (.slice ba bm bc) (rA r u) (rB u) am bm (-e) W (Lib.hid h3.va) (Lib.hid h3.vb) HT.out.1 HT.out.2 (by omega) (by omega) (by omega) (by omega)
    rw [show (-(-e)).toNat = e.toNat by omega] at h
    refine h.mono ?_
    rintro R W' ⟨⟨xa, xm, xc, ya, ym, yc, rfl, k1, k2, k3, k4, k5⟩⟩
    exact ⟨xa, xm, xc, ya, ym, yc, rfl, k1, k2, k3, k4, k5, h3.next k5⟩)
  have CC : Hid (∀ (e : Int) W xa xm xc ya ym yc, -700 ≤ e → e ≤ 700 → T2 (sX r u e) xm → BtV W (.slice xa xm xc) (sX r u e) xm → T2 (sY u e) ym → BtV W (.slice ya ym yc) (sY u e) ym → Calls Tryz.prog 55 #[.agg #[.bool false, .slice xa xm xc], .agg #[.bool false, .slice ya ym yc]] W fun R W' => ∃ c : Int, R = .returned (.int .i64 c) ∧ (c < 0 ↔ ¬ Lo r u e) ∧ -1 ≤ c ∧ c ≤ 1 ∧ Below W.heap.size W W') := Lib.hid (fun e W xa xm xc ya ym yc h1 h2 k1 k2 k3 k4 => by
    have b1 := bits_of k1 (sX_lt HH.out.r53)
    have b2 := bits_of k3 (sY_lt u e)
    refine (Tryz.rcmp _ _ (sX r u e) (sY u e) xm ym W (Lib.hid k2) (Lib.hid k4) k1 k3 (by omega) (by omega)).mono ?_
    rintro R W' ⟨rfl, hb⟩
    refine ⟨_, rfl, ?_, ?_, ?_, hb⟩
    · unfold Lo
      split
      · omega
      · split <;> omega
    · split <;> (try split) <;> omega
    · split <;> (try split) <;> omega)
  clear c0 c1
  obtain ⟨W0, hW0⟩ : ∃ W0 : World, W0 = W3 := ⟨_, rfl⟩
  rw [← hW0] at G3 ⊢
  clear hW0
  go_upto_block 0 with fail
  go_cut [6] from 7 (fun v wx => ∃ e : Int, v = .int .i64 e ∧ ExpOk r u e ∧ -400 ≤ e ∧ e ≤ 400 ∧ Rw w wx pa pb aa ba am ac bm bc (rA r u) (rB u))
  case first =>
    go_wp2
    go_loopw [6] (fun v wr => ∃ e : Int, v = .int .i64 e ∧ -400 ≤ e ∧ e ≤ 400 ∧ Rw w wr pa pb aa ba am ac bm bc (rA r u) (rB u)) (fun v _ => (RowKit.intOf v - E).natAbs)
    case atStart => exact ⟨e0, rfl, he0b.1, he0b.2, G3.out⟩
    case round =>
      obtain ⟨e, rfl, h1, h2, g⟩ := hrel
      have G := Lib.hid g
      have a0 := g.ca.c0
      have a1 := g.ca.c1
      have a2 := g.cb.c0
      have a3 := g.cb.c1
      clear g
      have CS1 := Lib.hid (CS.out e wr (by omega) (by omega) G.out)
      go_upto_region 4 with (go_at_call 54; (with_reducible refine CS1.out.mono ?_); rintro e' W4 ⟨xa, xm, xc, ya, ym, yc, rfl, k1, k2, k3, k4, k5, k6⟩)
      generalize hWa : (W4.alloc _).alloc _ = W5
      have b5 : Below W4.heap.size W4 W5 := by subst hWa; exact ((Below.refl _ _).alloc (nR _) _).alloc (by simp) _
      have ce3 : Ce W5 W4.heap.size (.bool false) (.slice xa xm xc) := by subst hWa; exact (Ce.new W4 _ _).below ((Below.refl _ _).alloc (nR _) _)
      have ce4 : Ce W5 (W4.heap.size+1) (.bool false) (.slice ya ym yc) := by
        subst hWa
        have h := Ce.new (W4.alloc (.cells #[.bool false, .slice xa xm xc] 65)) (.bool false) (.slice ya ym yc)
        rw [show (W4.alloc (.cells #[.bool false, .slice xa xm xc] 65)).heap.size = W4.heap.size + 1 by simp] at h
        exact h
      have g5 := k6.next b5
      have CC1 := Lib.hid (CC.out e W5 xa xm xc ya ym yc (by omega) (by omega) k1 (k2.below b5) k3 (k4.below b5))
      obtain ⟨p, hp⟩ : ∃ p, p = W4.heap.size := ⟨_, rfl⟩
      have KP : Hid (w.heap.size ≤ p ∧ pa < p ∧ pb < p) := Lib.hid (by rw [hp]; exact ⟨k6.bl.size, k6.ca.lt, k6.cb.lt⟩)
      obtain ⟨p1, hp1⟩ : ∃ p1, p1 = p + 1 := ⟨_, rfl⟩
      rw [← hp] at ce3 ce4 ⊢
      rw [← hp1] at ce4 ⊢
      have HP1 := Lib.hid hp1
      have C3 := Lib.hid ce3
      have C4 := Lib.hid ce4
      have G5 := Lib.hid g5
      have c0 := ce3.c0
      have c1 := ce3.c1
      have d0 := ce4.c0
      have d1 := ce4.c1
      clear hWa b5 ce3 ce4 g5 hp hp1 k1 k2 k3 k4 k5 k6 CS1 G a0 a1 a2 a3 wr W4
      by_cases hlo : Lo r u e
      · have CC2 : Hid (Calls Tryz.prog 55 #[.agg #[.bool false, .slice xa xm xc], .agg #[.bool false, .slice ya ym yc]] W5 fun R W' => ∃ c : Int, R = .returned (.int .i64 c) ∧ decide (c < 0) = false ∧ Rw w W' pa pb aa ba am ac bm bc (rA r u) (rB u) ∧ Ce W' p (.bool false) (.slice xa xm xc) ∧ Ce W' p1 (.bool false) (.slice ya ym yc)) := Lib.hid (CC1.out.mono (by
          rintro R W' ⟨c, rfl, q1, q2, q3, q4⟩
          exact ⟨c, rfl, decide_eq_false (fun h => (q1.1 h) hlo), G5.out.next q4, C3.out.below q4, C4.out.below q4⟩))
        obtain ⟨f, hf⟩ : ∃ f : Int, f = e + 1 := ⟨_, rfl⟩
        have ef : -e - 1 = -f := by omega
        have ef2 : e + 1 = f := hf.symm
        have HF := Lib.hid hf
        have HLo := Lib.hid hlo
        clear hlo CC1 hf
        go_upto_region 6 with (go_at_call 55; (with_reducible refine CC2.out.mono ?_); rintro e' W6 ⟨c, rfl, q1, g6, c6, d6⟩)
        have a0 := g6.ca.c0
        have a1 := g6.ca.c1
        have a2 := g6.cb.c0
        have a3 := g6.cb.c1
        have CS2 := Lib.hid (CS.out f W6 (by omega) (by omega) g6)
        have C6 := Lib.hid c6
        have D6 := Lib.hid d6
        clear g6 c6 d6 CC2 C3 C4 c0 c1 d0 d1 G5 q1
        have pn : p ≠ p1 := by have := HP1.out; omega
        have pn2 : p1 ≠ p := by have := HP1.out; omega
        go_upto_region 7 with (go_at_call 54; (with_reducible refine CS2.out.mono ?_); rintro e' W7 ⟨za, zm, zc, ta, tm, tc, rfl, k1, k2, k3, k4, k5, g7⟩; have c7 := C6.out.below k5; have d7 := D6.out.below k5; have c0 := c7.c0; have c1 := c7.c1; have d0 := d7.c0; have d1 := d7.c1; have f0 := c7.f 0; have f1 := c7.f 1; have f2 := d7.f 0; have f3 := d7.f 1; have K2 := Lib.hid k2; have K4 := Lib.hid k4; have K1 := Lib.hid k1; have K3 := Lib.hid k3; have G7 := Lib.hid g7; have C7 := Lib.hid c7; have D7 := Lib.hid d7; clear k1 k2 k3 k4 k5 g7 c7 d7)
        generalize hWb : (((W7.setCell _ _).setCell _ _).setCell _ _).setCell _ _ = W8
        have D7' : Ce ((W7.setCell ⟨p, 0, none⟩ (.bool false)).setCell ⟨p, 1, none⟩ (.slice za zm zc)) p1 (.bool false) (.slice ya ym yc) := (D7.out.other pn2 _).other pn2 _
        have b8 : BtV W8 (.slice za zm zc) (sX r u f) zm := by subst hWb; exact (K2.out.ce C7.out (.bool false) (.slice za zm zc)).ce D7' (.bool false) (.slice ta tm tc)
        have b9 : BtV W8 (.slice ta tm tc) (sY u f) tm := by subst hWb; exact (K4.out.ce C7.out (.bool false) (.slice za zm zc)).ce D7' (.bool false) (.slice ta tm tc)
        have g8 : Rw w W8 pa pb aa ba am ac bm bc (rA r u) (rB u) := by
          subst hWb
          exact (G7.out.set C7.out KP.out (.bool false) (.slice za zm zc)).set D7' (by have := KP.out; have := HP1.out; omega) _ _
        have c8 : Ce W8 p (.bool false) (.slice za zm zc) := by subst hWb; exact ((C7.out.set _ _).other pn _).other pn _
        have d8 : Ce W8 p1 (.bool false) (.slice ta tm tc) := by subst hWb; exact D7'.set _ _
        have CC3 := Lib.hid (CC.out f W8 za zm zc ta tm tc (by omega) (by omega) K1.out b8 K3.out b9)
        have G8 := Lib.hid g8
        clear hWb D7' b8 b9 g8 c0 c1 d0 d1 f0 f1 f2 f3 a0 a1 a2 a3 C7 D7 K1 K2 K3 K4 G7 CS2 C6 D6
        have c0 := c8.c0
        have c1 := c8.c1
        have d0 := d8.c0
        have d1 := d8.c1
        clear c8 d8 W6 W7
        by_cases hl2 : Lo r u f
        · have CC4 : Hid (Calls Tryz.prog 55 #[.agg #[.bool false, .slice za zm zc], .agg #[.bool false, .slice ta tm tc]] W8 fun R W' => ∃ c : Int, R = .returned (.int .i64 c) ∧ decide (c < 0) = false ∧ Rw w W' pa pb aa ba am ac bm bc (rA r u) (rB u)) := Lib.hid (CC3.out.mono (by
            rintro R W' ⟨c, rfl, q1, q2, q3, q4⟩
            exact ⟨c, rfl, decide_eq_false (fun h => (q1.1 h) hl2), G8.out.next q4⟩))
          have HL : Hid (e < E) := Lib.hid (by
            apply Int.lt_of_not_ge
            intro hge
            have := HF.out
            exact HE.out.2 (Lo.le hl2 (by omega)))
          have e1 : e < E := HL.out
          clear hl2 CC3
          go_wp2_with (go_at_call 55; (with_reducible refine CC4.out.mono ?_); rintro e' W9 ⟨c, rfl, q1, g9⟩)
          go_roundw
          case rel => exact ⟨f, rfl, by omega, by omega, g9⟩
          case measure => simp [RowKit.intOf]; omega
        · have CC4 : Hid (Calls Tryz.prog 55 #[.agg #[.bool false, .slice za zm zc], .agg #[.bool false, .slice ta tm tc]] W8 fun R W' => ∃ c : Int, R = .returned (.int .i64 c) ∧ decide (c < 0) = true ∧ Rw w W' pa pb aa ba am ac bm bc (rA r u) (rB u)) := Lib.hid (CC3.out.mono (by
            rintro R W' ⟨c, rfl, q1, q2, q3, q4⟩
            exact ⟨c, rfl, decide_eq_true (q1.2 hl2), G8.out.next q4⟩))
          have HX : Hid (ExpOk r u e) := Lib.hid (exp_of HLo.out (by rw [← HF.out]; exact hl2))
          clear hl2 CC3
          go_wp2_with (go_at_call 55; (with_reducible refine CC4.out.mono ?_); rintro e' W9 ⟨c, rfl, q1, g9⟩)
          go_meet
          exact ⟨e, rfl, HX.out, h1, h2, g9⟩
      · have CC2 : Hid (Calls Tryz.prog 55 #[.agg #[.bool false, .slice xa xm xc], .agg #[.bool false, .slice ya ym yc]] W5 fun R W' => ∃ c : Int, R = .returned (.int .i64 c) ∧ decide (c < 0) = true ∧ Rw w W' pa pb aa ba am ac bm bc (rA r u) (rB u)) := Lib.hid (CC1.out.mono (by
          rintro R W' ⟨c, rfl, q1, q2, q3, q4⟩
          exact ⟨c, rfl, decide_eq_true (q1.2 hlo), G5.out.next q4⟩))
        have HL : Hid (E < e) := Lib.hid (by
          apply Int.lt_of_not_ge
          intro hge
          exact hlo (Lo.le HE.out.1 hge))
        have e1 : E < e := HL.out
        clear hlo CC1
        go_wp2_with (go_at_call 55; (with_reducible refine CC2.out.mono ?_); rintro e' W6 ⟨c, rfl, q1, g6⟩)
        go_roundw
        case rel => exact ⟨e - 1, rfl, by omega, by omega, g6⟩
        case measure => simp [RowKit.intOf]; omega
  case rest =>
  obtain ⟨e, rfl, hex, h1, h2, g⟩ := hcut
  have HX := Lib.hid hex
  have G := Lib.hid g
  clear hex g CS CC HE0 G3 he0b
  have CD : Hid (∀ (n : Nat) W, 1 ≤ n → n ≤ 17 → Rw w W pa pb aa ba am ac bm bc (rA r u) (rB u) → Calls Tryz.prog 56 #[.agg #[.bool false, .slice aa am ac], .agg #[.bool false, .slice ba bm bc], .int .i64 e, .int .i64 n, .int .u64 b] W fun R W' => ∃ ok : Bool, R = .returned (.tuple #[.string ⟨(Lib.decDigits (dDig b r u (e - n + 1))).toArray⟩, .int .i64 (e + Lib.nDigits (dDig b r u (e - n + 1)) - n), .bool ok]) ∧ (ok = true ↔ rdEx b (e - n + 1)) ∧ Rw w W' pa pb aa ba am ac bm bc (rA r u) (rB u)) := Lib.hid (fun n W k1 k2 k3 => by
    refine (Tryz.digits (.slice aa am ac) (.slice ba bm bc) b r u am bm n e W HH.out HX.out k1 k2 (by omega) (by omega) (Lib.hid k3.va) (Lib.hid k3.vb) HT.out.1 HT.out.2).mono ?_
    rintro R W' ⟨⟨ok, rfl, q1, q2⟩⟩
    exact ⟨ok, rfl, q1, k3.next q2⟩)
  obtain ⟨W0, hW0⟩ : ∃ W0 : World, W0 = wc := ⟨_, rfl⟩
  rw [← hW0] at G ⊢
  clear hW0
  go_upto_block 2 with fail
  go_cut [10] from 9 (fun v wx => ∃ n : Nat, v = .int .i64 n ∧ 1 ≤ n ∧ n ≤ 17 ∧ rdEx b (e - n + 1) ∧ (n = 1 ∨ ¬ rdEx b (e - n + 2)) ∧ Rw w wx pa pb aa ba am ac bm bc (rA r u) (rB u))
  case first =>
    go_wp2
    go_loopw [9, 10] (fun v9 v10 wr => ∃ lw ms : Nat, v9 = .int .i64 lw ∧ v10 = .int .i64 ms ∧ lw < ms ∧ ms ≤ 17 ∧ Hid (rdEx b (e - ms + 1)) ∧ Hid (lw = 0 ∨ ¬ rdEx b (e - lw + 1)) ∧ Rw w wr pa pb aa ba am ac bm bc (rA r u) (rB u)) (fun v9 v10 _ => (RowKit.intOf v10 - RowKit.intOf v9).toNat)
    case atStart => exact ⟨0, 17, rfl, rfl, by omega, by omega, Lib.hid (HH.out.seventeen HX.out), Lib.hid (.inl rfl), G.out⟩
    case round =>
      obtain ⟨lw, ms, rfl, rfl, k1, k2, k3, k4, g⟩ := hrel
      have G := Lib.hid g
      have a0 := g.ca.c0
      have a1 := g.ca.c1
      have a2 := g.cb.c0
      have a3 := g.cb.c1
      clear g
      by_cases hlt : lw + 1 < ms
      · have d0 : decide (1 < (ms : Int) - (lw : Int)) = true := decide_eq_true (by omega)
        have d1 : (1 : Int) < (ms : Int) - (lw : Int) := by omega
        obtain ⟨n, hn⟩ : ∃ n, n = (lw + ms) / 2 := ⟨_, rfl⟩
        have en : ((lw : Int) + ms) / 2 = (n : Int) := by omega
        have n1 : lw < n := by omega
        have n2 : n < ms := by omega
        have CD1 := Lib.hid (CD.out n wr (by omega) (by omega) G.out)
        clear hn hlt
        go_wp2_with (go_at_call 56; (with_reducible refine CD1.out.mono ?_); rintro e' W4 ⟨ok, rfl, q1, g4⟩; have Q1 := Lib.hid q1; have G4 := Lib.hid g4; clear q1 g4; cases ok)
        all_goals go_roundw
        case rel =>
          first
            | exact ⟨n, ms, rfl, rfl, n2, k2, k3, Lib.hid (.inr (fun h => absurd (Q1.out.2 h) (by decide))), G4.out⟩
            | exact ⟨lw, n, rfl, rfl, n1, by omega, Lib.hid (Q1.out.1 (by first | rfl | trivial)), k4, G4.out⟩
        case measure => simp [RowKit.intOf]; omega
        case rel =>
          first
            | exact ⟨n, ms, rfl, rfl, n2, k2, k3, Lib.hid (.inr (fun h => absurd (Q1.out.2 h) (by decide))), G4.out⟩
            | exact ⟨lw, n, rfl, rfl, n1, by omega, Lib.hid (Q1.out.1 (by first | rfl | trivial)), k4, G4.out⟩
        case measure => simp [RowKit.intOf]; omega
      · have d0 : decide (1 < (ms : Int) - (lw : Int)) = false := decide_eq_false (by omega)
        have d1 : ¬ ((1 : Int) < (ms : Int) - (lw : Int)) := by omega
        have HM : Hid (ms = lw + 1) := Lib.hid (by omega)
        clear hlt
        go_wp2
        go_meet
        refine ⟨ms, rfl, by omega, k2, k3.out, ?_, G.out⟩
        rcases k4.out with h | h
        · exact .inl (by have := HM.out; omega)
        · refine .inr ?_
          rw [show e - (ms : Int) + 2 = e - (lw : Int) + 1 by have := HM.out; omega]
          exact h
  case rest =>
  obtain ⟨n, rfl, k1, k2, k3, k4, g⟩ := hcut
  have FIN : Hid (∀ W', Below w.heap.size w W' → RowEnd6 b r u w (.returned (.tuple #[.string ⟨(Lib.decDigits (dDig b r u (e - n + 1))).toArray⟩, .int .i64 (e + Lib.nDigits (dDig b r u (e - n + 1)) - n)])) W') := Lib.hid (fun W' h => ⟨e, n, HX.out, h1, h2, k1, k2, k3, k4, rfl, h⟩)
  have CD1 := Lib.hid (CD.out n wc k1 k2 g)
  have a0 := g.ca.c0
  have a1 := g.ca.c1
  have a2 := g.cb.c0
  have a3 := g.cb.c1
  clear g k3 k4 CD
  go_wp2_with (go_at_call 56; (with_reducible refine CD1.out.mono ?_); rintro e' W4 ⟨ok, rfl, q1, g4⟩)
  go_ret2
  exact FIN.out _ g4.bl
end Go.Proofs
set_option linter.unusedVariables false
set_option linter.unusedSimpArgs false
set_option maxRecDepth 1000000
set_option maxHeartbeats 40000000
/- The document's numbers below nought: small ones, and their texts. -/
namespace Go.Proofs
open Go.RowKit Go.Pf Go.Rb Go.Zw Go.Lx Go.Bg
theorem Tryz.rsmallNeg (v:Nat) (w:World) (hv0:0<v) (hv:v<4611686018427387904):Calls Tryz.prog 25 #[.int .i64 (-(v:Int))] w (BigSays true v w):=by
 obtain⟨i0,hi,hz0,hz1,hz2⟩:=info_parts Tryz.infoInt
 have n0:decide (-(v:Int)<0)=true:=dTo
 have n00:decide (0<v)=true:=dTo
 have v62:v<2^62:=by
  have:(2:Nat)^62=4611686018427387904:=by decide
  omega
 have HV62:=Hi v62
 clear v62
 go_enter Tryz.func25,Tryz.ntmps25
 go_wp2
 generalize hW1:w.alloc _=W1
 have tok:Tok W1 w.heap.size:=by subst hW1;exact Tok.new1 w
 have bl:Below w.heap.size w W1:=by subst hW1;exact(Below.refl _ _).alloc (nR _) _
 have hlt0:w.heap.size<W1.heap.size:=by subst hW1;simp
 have HW:=Hi hW1
 clear hW1
 go_loopw [0,4] (fun nv bv wr=>∃(k x:Nat) (y:Int),k≤62∧x=v/2^k∧Hid (y= -(x:Int))∧nv= .int .i64 y∧OB W1.heap.size W1 v k bv wr) (fun nv _ _=>(-intOf nv).toNat)
 case atStart=>exact⟨0,v,-(v:Int),by omega,by simp,Hi rfl,rfl,⟨World.ownsRow_nil _ _ _ _,Below.refl _ _,nR _⟩⟩
 case round=>
  obtain⟨k,x,y,hk,hx,HY,rfl,hob⟩:=hrel
  obtain⟨oa,oc,ho⟩:=own_slice3 hob.own
  subst ho
  have xv:x≤v:=by rw[hx];exact Nat.div_le_self _ _
  have hown:=hob.own
  have hsz:=hob.le
  by_cases h0:x=0
  ·have y0:y=0:=by have:=HY.out;omega
   have x0:(y !=0)=false:=by rw[y0];rfl
   have x1:(y==0)=true:=by rw[y0];rfl
   clear y0
   have hfin:v<2^k:=by
    rw[h0]at hx
    exact(Nat.div_eq_zero_iff_lt (Nat.two_pow_pos k)).1 hx.symm
   have tk:=tok.below hob.bel
   have CL:=Hi (Tryz.rlaidAt true true (.slice oa k oc) v k w.heap.size W1 wr (Hi (BtV.of_own hown hfin)) tk hob.bel (by rw[decide_eq_true hv0];rfl))
   clear hown hob hx hfin h0 tk
   go_wp2_with (go_at_call 58;(with_reducible refine CL.out.mono ?_))
   rintro e W3 ⟨⟨ra,rm,rc,rfl,ht3,y0,y1,z0,z1,hv3,b3⟩⟩
   have HV3:=Hi hv3
   have B3:=Hi b3
   clear hv3 b3
   go_wp2
   refine bodyPost_ret (v:= .agg #[.bool true,.slice ra rm rc]) ?_ rfl ⟨_,rm,by rw[decide_eq_true hv0];rfl,ht3,HV3.out,?_⟩
   ·simp only[results,Tryz.results25]
    go_simp
   ·iterate 2 refine Below.setCell ?_ (by simp) _
    exact bl.trans (B3.out.mono (by omega))
  ·have y0:y≠0:=by have:=HY.out;omega
   have x1:(y==0)=false:=beq_false_of_ne y0
   have x0:(y !=0)=true:=by rw[bne,x1];rfl
   have yb: -4611686018427387904≤y∧y≤0:=by have:=HY.out;omega
   obtain⟨t1,ht1⟩:∃t1,t1=x %2:=⟨_,rfl⟩
   obtain⟨x2,hx2⟩:∃x2,x2=x/2:=⟨_,rfl⟩
   obtain⟨s1,hs1⟩:∃s1:Int,s1= -(t1:Int):=⟨_,rfl⟩
   obtain⟨y2,hy2⟩:∃y2:Int,y2= -(x2:Int):=⟨_,rfl⟩
   have e1:y.tmod 2=s1:=by have:=HY.out;rw[this,Int.neg_tmod,Int.tmod_eq_emod_of_nonneg (by omega)];omega
   have e2:y.tdiv 2=y2:=by have:=HY.out;rw[this,Int.neg_tdiv,Int.tdiv_eq_ediv_of_nonneg (by omega)];omega
   have e3: -s1=(t1:Int):=by omega
   have sb: -1≤s1∧s1≤0:=by omega
   have HS1:=Hi hs1
   have HY2:=Hi hy2
   clear hs1 hy2 y0
   have hk2:k<62:=by
    apply Classical.byContradiction
    intro h
    have:k=62:=by omega
    subst this
    rw[Nat.div_eq_of_lt HV62.out]at hx
    exact h0 hx
   have HB1:Hid (bit2 v k=t1):=Hi (by unfold bit2;rw[←hx,ht1])
   have HX2:Hid (x2=v/2^(k+1)):=Hi (by rw[hx2,hx,Nat.pow_succ,Nat.div_div_eq_div_mul])
   have HOB:=Hi hob
   have HLT:=Hi (show x2<x by omega)
   have ht2:t1=0∨t1=1:=by omega
   have y2b: -4611686018427387904≤y2∧y2≤0:=by have:=HY2.out;omega
   clear hob hx h0 ht1 hx2
   go_upto_if 13 with fail
   go_cut [5] from 8 to 16 (fun v5 wx=>v5= .int .i64 t1∧wr=wx)
   case first=>
    rcases ht2 with rfl|rfl
    ·obtain rfl:s1=0:=by have:=HS1.out;omega
     go_wp2
     go_meet
     exact⟨rfl,rfl⟩
    ·obtain rfl:s1= -1:=by have:=HS1.out;omega
     go_wp2
     go_meet
     exact⟨rfl,rfl⟩
   case rest=>
   obtain⟨rfl,rfl⟩:=hcut
   go_wp2_with (at_builtin;refine wpList_append_own _ rfl _ _ 63 rfl W1.heap.size 3 i0 (.int .i64 0) 1 8 Tryz.underlying63 hi hz0 hz1 hz2 rfl (by decide) _ _ _ rfl (hown.alloc _) ⟨wr.heap.size,0,none⟩ 1 1 [.int .i64 (t1:Nat)] rfl rfl ?c1 ?c2 ?c3 ?c4 ?c5 ?_)
   case c1=>
    intro j u hj
    match j,hj with
    |0,hj=>simp at hj;subst hj;simp[Addr.add]
   case c2=>intro u hu;simp at hu;subst hu;rfl
   case c3=>unfold maxLen;omega
   case c4=>omega
   case c5=>simp;omega
   intro v' w2 hown' hgrow _
   have HN:=Hi (HOB.out.next HB1.out hown' hgrow)
   clear hown' hgrow
   go_wp2
   go_roundw
   case rel=>exact⟨k+1,x2,y2,by omega,HX2.out,HY2,rfl,HN.out⟩
   case measure=>have:=HLT.out;have:=HY2.out;have:=HY.out;simp[intOf];omega
theorem own_rowL {w:World} {b:Nat} {oa:Option Addr} {oc:Nat} {L:List UInt8}(h:w.ownsRow b 5 1 (.slice oa L.length oc) L.length (Lib.byteCells L)) (hp:0<L.length):
 ∃g,oa=some ⟨g,0,none⟩∧b≤g∧RowIs w g L.length 5 (fun j=> .int .u8 ((L.getD j 0).toNat:Nat)):=by
 rcases h.2 with⟨h1,h2⟩|⟨g,cap,cur,h1,h2,h3,h4,h5,h6,h7⟩
 ·omega
 ·simp only[Value.slice.injEq]at h1
  obtain⟨rfl,_,rfl⟩:=h1
  refine⟨g,rfl,h2,cur,h3,by omega,fun j hj=> ?_⟩
  have h8:cur.toList[j]? =(Lib.byteCells L)[j]? :=by rw[←h7,List.getElem?_take,if_pos (by omega)]
  rw[←Array.getElem?_toList,h8,←(rfl:L=L)]
  simp[Lib.byteCells,List.getD,List.getElem?_eq_getElem hj]
theorem Tryz.rtextNeg (v:Value) (x m r:Nat) (w:World) (hx1:0<x) (hm:m≤1000000) (hr:2≤r) (hr2:r≤36) (hv:Hid (BtV w v x m)) (hT:T2 x m):
 Calls Tryz.prog 24 #[.agg #[.bool true,v],.int .i64 r] w fun e w'=>∃t:ByteArray,e= .returned (.string t)∧t.data.toList=45::numL r x∧Below w.heap.size w w':=by
 obtain⟨a,c,rfl⟩:=hv.out.slice
 obtain⟨i0,hi,hz0,hz1,hz2⟩:=info_parts Tryz.infoU8
 have HT:=Hi hT
 clear hT
 go_enter Tryz.func24,Tryz.ntmps24
 by_cases h0:m=0
 ·subst h0
  have hx0:x=0:=HT.out.zero_iff.1 rfl
  subst hx0
  exact absurd hx1 (by omega)
 ·have h0':((m:Int)==0)=false:=by rw[Bool.eq_false_iff];intro h;have:=eq_of_beq h;omega
  have hx0:x≠0:=fun h=>h0 (HT.out.zero_iff.2 h)
  go_wp2_with fail
  generalize hW:w.alloc _=W1
  have bl:Below w.heap.size w W1:=by subst hW;exact(Below.refl _ _).alloc (nR _) _
  have c0:W1.cell? ⟨w.heap.size,0,none⟩=some (.bool true):=by subst hW;go_simp
  have c1:W1.cell? ⟨w.heap.size,1,none⟩=some (.slice a m c):=by subst hW;go_simp
  have hlt0:w.heap.size<W1.heap.size:=by subst hW;simp
  have hv1:=Hi (hv.out.below bl)
  clear hW
  have T0:TT r x W1.heap.size W1 x m [] (.slice a m c) (.slice none 0 0) W1:=⟨HT.out,by simp,hv1.out,World.ownsRow_nil _ _ _ _,Below.refl _ _,nR _⟩
  have HX:=Hi hx0
  have HBL:=Hi bl
  clear h0 hx0 bl
  go_loopw [5,6] (fun out l wr=>∃(X k:Nat) (ds:List Nat),k≤m∧TT r x W1.heap.size W1 X k ds l out wr∧ds.length+k≤m) (fun _ l _=>match l with| .slice _ n _=>n|_=>0)
  case atStart=>exact⟨x,m,[],nR _,T0,by simp⟩
  case round=>
   obtain⟨X,k,ds,hk,hq,hdk⟩:=hrel
   obtain⟨oa,oc,ho⟩:=own_slice hq.own
   subst ho
   obtain⟨la,lc,hl⟩:=hq.bits.slice
   subst hl
   rcases Nat.eq_zero_or_pos k with hkz|hkp
   ·subst hkz
    have hX:X=0:=hq.tight.zero_iff.1 rfl
    subst hX
    have hds:digs r x=ds:=by have:=hq.dig;rwa [digs_zero,List.append_nil]at this
    obtain⟨L0,hL0⟩:∃L,L=ds.map sgn:=⟨_,rfl⟩
    have hL0l:L0.length=ds.length:=by rw[hL0,List.length_map]
    obtain⟨L,hL⟩:∃L,L=L0++[45]:=⟨_,rfl⟩
    have hLl:L.length=ds.length+1:=by rw[hL,List.length_append,hL0l];rfl
    have NL:Hid (45::numL r x=L.reverse):=Hi (by unfold numL;rw[if_neg HX.out,hds,hL,hL0,List.reverse_append];rfl)
    have E0:wr.cell? ⟨w.heap.size,0,none⟩=some (.bool true):=(hq.bel.cell (p:=⟨w.heap.size,0,none⟩) hlt0).trans c0
    have BLW:=Hi (HBL.out.trans (hq.bel.mono (by omega)))
    have hL32:ds.length≤1000000:=by omega
    have hown:=hq.own
    have HBE:=Hi hq.bel
    have HQ0:Hid (W1.heap.size≤wr.heap.size):=Hi hq.le
    have hq0:=hq.le
    have HBC:Hid (Lib.byteCells (ds.map sgn)++[.int .u8 45]=Lib.byteCells L):=Hi (by rw[hL,hL0];simp[Lib.byteCells])
    have HLL:=Hi hLl
    clear hds hL hL0 hL0l hLl hq T0 hv HT
    go_wp2_with (at_builtin;refine wpList_append_own _ rfl _ _ 88 rfl W1.heap.size 5 i0 (.int .u8 0) 1 1 Tryz.underlying88 hi hz0 hz1 hz2 rfl (by decide) _ _ _ rfl (hown.alloc _) ⟨wr.heap.size,0,none⟩ 1 1 [.int .u8 45] rfl rfl ?c1 ?c2 ?c3 ?c4 ?c5 ?_)
    case c1=>
     intro j u hj
     match j,hj with
     |0,hj=>simp at hj;subst hj;simp[Addr.add]
    case c2=>intro u hu;simp at hu;subst hu;rfl
    case c3=>unfold maxLen;omega
    case c4=>omega
    case c5=>simp;omega
    intro v' w2 hown' hgrow _
    rw[HBC.out,←HLL.out]at hown'
    obtain⟨va,vc,hv'⟩:=own_slice hown'
    subst hv'
    have hpos:0<L.length:=by have:=HLL.out;omega
    obtain⟨h,rfl,hgh,hrow⟩:=own_rowL hown' hpos
    have BLW2:=Hi ((HBL.out.trans ((HBE.out.alloc HQ0.out (.cells #[.int .u8 45] 5)).grown hgrow (by simp;have:=HQ0.out;omega) (fun b hb=>by have:=(hown.lt b hb).1;omega) |>.mono (by omega))))
    have hL32:L.length≤1000001:=by have:=HLL.out;omega
    have hrl:=hrow.lt
    have HR:=Hi hrow
    have HPOS:Hid (0<L.length-0):=Hi (by omega)
    clear hown hown' hgrow hpos hrow E0 BLW
    have BLW:=BLW2
    obtain⟨wr,rfl⟩:∃wq:World,wq=w2:=⟨_,rfl⟩
    go_wp2
    obtain⟨wo,rfl⟩:∃wo:World,wo=wr:=⟨_,rfl⟩
    go_loopw [10,11] (fun tv iv ww=>∃(q:Nat),q≤L.length∧iv= .int .i64 ((q:Int)-1)∧ww.ownsRow wo.heap.size 5 1 tv (L.length-q) (Lib.byteCells (L.reverse.take (L.length-q)))∧Below wo.heap.size wo ww∧wo.heap.size≤ww.heap.size) (fun _ iv _=>(intOf iv+1).toNat)
    case atStart=>exact⟨L.length,nR _,by go_num,by rw[Nat.sub_self];exact World.ownsRow_nil _ _ _ _,Below.refl _ _,nR _⟩
    case round=>
     obtain⟨q,hqL,rfl,hown,hbw,hsz⟩:=hrel
     obtain⟨ta,tc,htv⟩:=own_slice hown
     subst htv
     cases q with
     |zero=>
      obtain⟨t,ht,hcv⟩:=own_text hown HPOS.out
      rw[List.take_of_length_le (by rw[List.length_reverse];omega)]at ht
      have HB2:=Hi (BLW.out.trans (hbw.mono (by have:=BLW.out.size;omega)))
      rw[Nat.sub_zero]at hcv
      clear hown hbw
      go_wp2
      go_ret
      exact⟨t,rfl,by rw[ht,NL.out],HB2.out⟩
     |succ q=>
      have hq1:((q+1:Nat):Int)-1=(q:Int):=by omega
      rw[hq1]
      have q0:decide ((0:Int)≤(q:Int))=true:=dTo
      have hqi:(q:Int)<(L.length:Int):=by omega
      obtain⟨ch,hch⟩:∃ch:Nat,ch=(L.getD q 0).toNat:=⟨_,rfl⟩
      have hcell:wr.cell? ⟨h,q,none⟩=some (.int .u8 ch):=by rw[hch];exact(hbw.cell (p:=⟨h,q,none⟩) hrl).trans (HR.out.cell (by omega))
      have HN:Hid (Lib.byteCells (L.reverse.take (L.length-q))=Lib.byteCells (L.reverse.take (L.length-(q+1)))++ [.int .u8 (ch:Nat)]):=Hi (by
       have e:L.length-q=L.length-(q+1)+1:=by omega
       have e2:L.length-1-(L.length-(q+1))=q:=by omega
       rw[e,List.take_succ_eq_append_getElem (by rw[List.length_reverse];omega)]
       unfold Lib.byteCells
       rw[List.map_append,List.map_singleton,List.getElem_reverse,hch]
       simp only[e2,List.getD_eq_getElem?_getD,List.getElem?_eq_getElem (show q<L.length by omega),Option.getD_some])
      have HQ:=Hi (show L.length-q=L.length-(q+1)+1 by omega)
      clear hch
      go_wp2_with (at_builtin;refine wpList_append_own _ rfl _ _ 88 rfl wo.heap.size 5 i0 (.int .u8 0) 1 1 Tryz.underlying88 hi hz0 hz1 hz2 rfl (by decide) _ _ _ rfl (hown.alloc _) ⟨wr.heap.size,0,none⟩ 1 1 [.int .u8 (ch:Nat)] rfl rfl ?c1 ?c2 ?c3 ?c4 ?c5 ?_)
      case c1=>
       intro j u hj
       match j,hj with
       |0,hj=>simp at hj;subst hj;simp[Addr.add]
      case c2=>intro u hu;simp at hu;subst hu;rfl
      case c3=>unfold maxLen;omega
      case c4=>omega
      case c5=>simp;omega
      intro v' w2 hown' hgrow _
      rw[←HN.out,←HQ.out]at hown'
      have hb2:=Hi ((hbw.alloc hsz (.cells #[.int .u8 (ch:Nat)] 5)).grown hgrow (by simp;omega) (fun b hb=>by have:=(hown.lt b hb).1;omega))
      have HO:=Hi hown'
      have hs2:=hgrow.size
      have HS:Hid (wo.heap.size≤w2.heap.size):=Hi (by simp at hs2;omega)
      clear hown hbw hown' hgrow hs2
      go_wp2
      go_roundw
      case rel=>exact⟨q,by omega,by go_num,HO.out,hb2.out,HS.out⟩
      case measure=>simp[intOf]
   ·have hX0:X≠0:=fun h=>by have:=hq.tight.zero_iff.2 h;omega
    obtain⟨M,hM,hM0,hmk⟩:=makeInt k (by omega)
    have I0:TI r X k wr.heap.size wr k 0 (wr.alloc (.cells M 3)):=TI.start hq.tight.1 hM hM0
    have HQ:=Hi hq
    have HX0:=Hi hX0
    have HDK:=Hi hdk
    clear hM hM0 hq hX0
    obtain⟨wo,rfl⟩:∃wo:World,wo=wr:=⟨_,rfl⟩
    go_wp2
    go_loopw [7,9] (fun rv iv ww=>∃(i R:Nat),rv= .int .i64 R∧iv= .int .i64 ((i:Int)-1)∧TI r X k wo.heap.size wo i R ww) (fun _ iv _=>(intOf iv+1).toNat)
    case atStart=>exact⟨k,0,rfl,by go_num,I0⟩
    case round=>
     obtain⟨i,R,rfl,rfl,hi2⟩:=hrel
     have HI:=Hi hi2
     have ll:=hi2.le
     cases i with
     |zero=>
      have hn:R=X %r:=by rw[hi2.rest];simp
      have hn36:R<36:=by rw[hn];have:=Nat.mod_lt X (show 0<r by omega);omega
      have hal:=alpha_at R hn36
      have hXr:X/r<2^k:=Nat.lt_of_le_of_lt (Nat.div_le_self _ _) HQ.out.tight.1
      have hdone:=Hi (hi2.done hXr (by omega))
      have HN:=Hi hn
      have htt:=Hi (HQ.out.below hi2.bel)
      have hown:=htt.out.own
      have hwsz:=htt.out.le
      clear hn hXr hi2
      go_wp2_with (go_at_call 57;(with_reducible refine(Tryz.rcut _ (X/r) k _ hdone.out).mono ?_))
      rintro e w' ⟨k2,ht,rfl,rfl⟩
      have hk2:=ht.half (h:=HQ.out.tight) HX0.out (Nat.div_le_div_left hr (by decide))
      have HCUT:=Hi (hdone.out.cut (by omega) ht.1)
      have HK2:=Hi hk2
      have hdl:ds.length≤1000000:=by omega
      clear hk2
      go_wp2_with (at_builtin;refine wpList_append_own _ rfl _ _ 88 rfl W1.heap.size 5 i0 (.int .u8 0) 1 1 Tryz.underlying88 hi hz0 hz1 hz2 rfl (by decide) _ _ _ rfl (hown.alloc _) ⟨wr.heap.size,0,none⟩ 1 1 [.int .u8 ((sgn R).toNat:Nat)] rfl rfl ?c1 ?c2 ?c3 ?c4 ?c5 ?_)
      case c1=>
       intro j u hj
       match j,hj with
       |0,hj=>simp at hj;subst hj;simp[Addr.add]
      case c2=>intro u hu;simp at hu;subst hu;rfl
      case c3=>unfold maxLen;omega
      case c4=>omega
      case c5=>simp;omega
      intro v' w2 hown' hgrow _
      obtain⟨va,vc,hv'⟩:=own_slice hown'
      subst hv'
      have HTT:Hid (TT r x W1.heap.size W1 (X/r) k2 (ds++ [R]) (.slice (some ⟨wo.heap.size,0,none⟩) k2 k) (.slice va (ds.length+1) vc) w2):=Hi (by
       have hgs:=hgrow.size
       simp at hgs
       have hgo:some wo.heap.size≠(Value.slice oa ds.length oc).ownBlock:=fun e=>by have:=(HQ.out.own.lt _ e.symm).2;omega
       have hgl:=HI.out.row.lt
       refine⟨ht,?_,HCUT.out.block ?_ (by omega),?_,?_,by omega⟩
       ·rw[HQ.out.dig,digs_pos hr HX0.out,←HN.out,List.append_assoc];rfl
       ·rw[hgrow.block wo.heap.size (by simp;omega) hgo]
        exact Lib.alloc_old wr _ _ hgl
       ·have e:Lib.byteCells ((ds++ [R]).map sgn)=Lib.byteCells (ds.map sgn)++ [.int .u8 ((sgn R).toNat:Nat)]:=by simp[Lib.byteCells]
        rw[e,List.length_append,List.length_singleton]
        exact hown'
       ·exact(htt.out.bel.alloc (by omega) _).grown hgrow (by simp;omega) (fun b hb=>by have:=(hown.lt b hb).1;omega))
      clear hown hown' hgrow
      go_wp2
      go_roundw
      case rel=>exact⟨X/r,k2,ds++ [R],by have:=HK2.out;omega,HTT.out,by have:=HK2.out;simp;have:=HDK.out;omega⟩
      case measure=>have:=HK2.out;simp;omega
     |succ i=>
      obtain⟨g2,o2,hga,hcell⟩:=(HQ.out.bits.below (w':=wr) hi2.bel).cellAt (j:=i) (by omega)
      subst hga
      obtain⟨b,hb⟩:∃b,b=bit2 X i:=⟨_,rfl⟩
      obtain⟨R',hR'⟩:∃R',R'=X/2^i %r:=⟨_,rfl⟩
      obtain⟨n1,n2⟩:=div_top (X:=X) (r:=r) (i:=i) (by omega)
      have b2:=bit2_lt X i
      have Rb:R<r:=by rw[hi2.rest];exact Nat.mod_lt _ (by omega)
      rw[←hi2.rest,←hb]at n1 n2
      rw[←hb]at hcell b2
      rw[←hR']at n1
      have hq1:((i+1:Nat):Int)-1=(i:Int):=by omega
      rw[hq1]
      have q0:decide ((0:Int)≤(i:Int))=true:=dTo
      have hii:(i:Int)<(k:Int):=by omega
      obtain⟨t,ht⟩:∃t,t=2*R+b:=⟨_,rfl⟩
      have e1:2*(R:Int)+(b:Int)=(t:Int):=by omega
      rw[←ht]at n1 n2
      have tb:(t:Int)≤72:=by omega
      have bb:(b:Int)≤1:=by omega
      have rb:(R:Int)≤36:=by omega
      by_cases hrt:r≤t
      ·have f1:R'=t-r:=by
        rw[←n1,Nat.mod_eq_sub_mod hrt,Nat.mod_eq_of_lt (by omega)]
       have f2:bit2 (X/r) i=1:=by
        rw[n2];exact Nat.div_eq_of_lt_le (by omega) (by omega)
       have e2:(t:Int)-(r:Int)=(R':Int):=by omega
       have HO:=Hi (hi2.one hR' f2)
       have hold:=hi2.row.cell (j:=i) (by omega)
       have hfz:=hi2.row.frozen i
       obtain⟨ov,hov⟩:∃ov:Value,ov=mixb X r (i+1) i:=⟨_,rfl⟩
       rw[←hov]at hold
       have g1:decide ((r:Int)≤(t:Int))=true:=dTo
       clear n1 n2 hb hR' hi2 ht f1 f2 hov
       go_wp2
       go_roundw
       case rel=>exact⟨i,R',by go_num,by go_num,HO.out⟩
       case measure=>simp[intOf]
      ·have f1:R'=t:=by rw[←n1,Nat.mod_eq_of_lt (by omega)]
       have f2:bit2 (X/r) i=0:=by rw[n2];exact Nat.div_eq_of_lt (by omega)
       have HO:=Hi (hi2.next hR' f2)
       have HF:=Hi f1
       have g1:decide (r≤t)=false:=decide_eq_false hrt
       clear n1 n2 hb hR' hi2 ht f1 f2
       go_wp2
       go_roundw
       case rel=>exact⟨i,R',by rw[HF.out],by go_num,HO.out⟩
       case measure=>simp[intOf]
end Go.Proofs
set_option linter.unusedVariables false
set_option linter.unusedSimpArgs false
set_option maxRecDepth 1000000
set_option maxHeartbeats 40000000
/- The document's Float. -/
namespace Go.Zw
open Go.Lib
/-- A text of some bytes. -/
def sB (l : List UInt8) : ByteArray := ⟨l.toArray⟩
theorem sB_size (l : List UInt8) : (sB l).size = l.length := rfl
theorem sB_app (a b : List UInt8) : sB a ++ sB b = sB (a ++ b) := by
  apply ByteArray.ext
  apply Array.toList_inj.1
  simp [sB]
theorem sB_ext (l : List UInt8) (a b : Nat) : (sB l).extract a b = sB ((l.take b).drop a) := by
  apply ByteArray.ext
  apply Array.toList_inj.1
  simp only [sB, ByteArray.data_extract, Array.toList_extract, List.extract_eq_take_drop, List.drop_take]
def sgT (ng : Bool) : List UInt8 := if ng then [45] else []
end Go.Zw
namespace Go.Proofs
open Go.RowKit Go.Pf Go.Rb Go.Zw Go.Lx Go.Bg
/-- A small number of the document's. -/
structure IntV (W : World) (ng : Bool) (a : Option Addr) (m c : Nat) (x : Int) : Prop where
  t : T2 x.natAbs m
  v : BtV W (.slice a m c) x.natAbs m
  n : ng = decide (x < 0)
theorem Tryz.smallI (x : Int) (W : World) (h1 : -400 ≤ x) (h2 : x ≤ 400) : Calls Tryz.prog 25 #[.int .i64 x] W fun e W' => ∃ ng a m c, e = .returned (.agg #[.bool ng, .slice a m c]) ∧ IntV W' ng a m c x ∧ Below W.heap.size W W' := by
  rcases Int.lt_or_le x 0 with h | h
  · obtain ⟨k, rfl⟩ : ∃ k : Nat, x = -(k : Int) := ⟨x.natAbs, by omega⟩
    refine (Tryz.rsmallNeg k W (by omega) (by omega)).mono ?_
    rintro e W' ⟨sl, m, rfl, q1, q2, q3⟩
    obtain ⟨a, c, rfl⟩ := q2.slice
    refine ⟨_, a, m, c, rfl, ⟨by rw [Int.natAbs_neg, Int.natAbs_natCast]; exact q1, by rw [Int.natAbs_neg, Int.natAbs_natCast]; exact q2, ?_⟩, q3⟩
    rw [Bool.true_and]
    exact decide_eq_decide.2 (by omega)
  · obtain ⟨k, rfl⟩ : ∃ k : Nat, x = k := ⟨x.natAbs, by omega⟩
    refine (Tryz.rsmall k W (by omega)).mono ?_
    rintro e W' ⟨sl, m, rfl, q1, q2, q3⟩
    obtain ⟨a, c, rfl⟩ := q2.slice
    refine ⟨_, a, m, c, rfl, ⟨by rw [Int.natAbs_natCast]; exact q1, by rw [Int.natAbs_natCast]; exact q2, ?_⟩, q3⟩
    rw [Bool.false_and]
    exact (decide_eq_false (by omega)).symm
theorem Tryz.textI (x : Int) (W : World) (ng : Bool) (a : Option Addr) (m c : Nat) (h1 : -400 ≤ x) (h2 : x ≤ 400) (hv : IntV W ng a m c x) : Calls Tryz.prog 24 #[.agg #[.bool ng, .slice a m c], .int .i64 10] W fun e W' => e = .returned (.string (sB (Lib.itoa x))) ∧ Below W.heap.size W W' := by
  have hm : m ≤ 12 := bits_of hv.t (show x.natAbs < 2 ^ 12 by have : (2 : Nat) ^ 12 = 4096 := by decide
                                                              omega)
  have e1 : ∀ l : List UInt8, ∀ t : ByteArray, t.data.toList = l → t = sB l := fun l t h => by
    apply ByteArray.ext
    apply Array.toList_inj.1
    rw [h]
    rfl
  rcases Int.lt_or_le x 0 with h | h
  · have hn := hv.n
    rw [decide_eq_true h] at hn
    subst hn
    refine (Tryz.rtextNeg (.slice a m c) x.natAbs m 10 W (by omega) (by omega) (by omega) (by omega) (Lib.hid hv.v) hv.t).mono ?_
    rintro e W' ⟨t, rfl, q1, q2⟩
    refine ⟨?_, q2⟩
    rw [← dec_num] at q1
    rw [e1 _ t q1]
    unfold Lib.itoa
    rw [if_pos h]
  · have hn := hv.n
    rw [decide_eq_false (by omega)] at hn
    subst hn
    refine (Tryz.rtext (.slice a m c) x.natAbs m 10 W (by omega) (by omega) (by omega) (Lib.hid hv.v) hv.t).mono ?_
    rintro e W' ⟨t, rfl, q1, q2⟩
    refine ⟨?_, q2⟩
    rw [← dec_num] at q1
    rw [e1 _ t q1]
    unfold Lib.itoa
    rw [if_neg (by omega), show x.natAbs = x.toNat by omega]
end Go.Proofs
set_option linter.unusedVariables false
set_option linter.unusedSimpArgs false
set_option maxRecDepth 1000000
set_option maxHeartbeats 40000000
/- The document's Float of a float that is not nought. -/
namespace Go.Proofs
open Go.RowKit Go.Pf Go.Rb Go.Zw Go.Lx
/-- What Float answers of a float that is not nought, and may be negative. -/
def FloatSays (b r u : Nat) (ng : Bool) (w : World) (R : Ending) (w' : World) : Prop :=
  ∃ (U : Nat) (x : Int), Out b r u U x ∧ R = .returned (.tuple #[.string (sB (sgT ng ++ fTxt U x)), .int .i64 0]) ∧ Below w.heap.size w w'
theorem dDig_pos {b r u : Nat} {e : Int} {n : Nat} (he : ExpOk r u e) (hn : 1 ≤ n) : 1 ≤ dDig b r u (e - n + 1) := by
  have h1 := (q_bounds he hn).1
  have h2 := Nat.pow_pos (n := n - 1) (show 0 < 10 by decide)
  unfold dDig
  split <;> omega
theorem dDig_lt {b r u : Nat} {e : Int} {n : Nat} (he : ExpOk r u e) (hn : 1 ≤ n) (hn2 : n ≤ 17) : dDig b r u (e - n + 1) < 10 ^ (17 + 1) := by
  have h1 := (q_bounds he hn).2
  have h2 : 10 ^ n ≤ 10 ^ 17 := Nat.pow_le_pow_right (by decide) hn2
  have e17 : (10 : Nat) ^ (17 + 1) = 10 ^ 17 * 10 := Nat.pow_succ _ _
  have e1 : (10 : Nat) ^ 17 = 100000000000000000 := by decide
  unfold dDig
  split <;> omega
theorem last_digit {V : Nat} {d : ByteArray} {m : Nat} (hd : d = sB (Lib.decDigits V)) (hm : Lib.nDigits V = m + 1) (h : m < d.size) : d[m].toNat = 48 + V % 10 := by
  subst hd
  obtain ⟨l, c, h1, h2⟩ := dec_last (u := V)
  have h3 := Lib.decDigits_length V
  rw [h1, List.length_append, List.length_singleton] at h3
  have e : (sB (Lib.decDigits V))[m] = c := by
    show (sB (Lib.decDigits V)).data[m] = c
    simp only [sB, h1]
    rw [List.getElem_toArray, List.getElem_append_right (by omega)]
    simp [show m - l.length = 0 by omega]
  rw [e, h2]
theorem cut_digit {V : Nat} {m : Nat} (h0 : V % 10 = 0) (h1 : 1 ≤ V) (hm : Lib.nDigits V = m + 1) : (sB (Lib.decDigits V)).extract 0 m = sB (Lib.decDigits (V / 10)) ∧ 1 ≤ V / 10 ∧ Lib.nDigits (V / 10) = m := by
  obtain ⟨q, rfl⟩ : ∃ q, V = q * 10 := ⟨V / 10, by omega⟩
  have hq : 1 ≤ q := by omega
  have h2 := nDigits_ten hq
  rw [Nat.mul_div_cancel _ (by decide), sB_ext, dec_ten hq, List.drop_zero]
  have h3 := Lib.decDigits_length q
  rw [List.take_append_of_le_length (by omega), List.take_of_length_le (by omega)]
  exact ⟨rfl, hq, by omega⟩
theorem fA (ng : Bool) (U : Nat) (x : Int) (hx : x < -4 ∨ 14 < x) (sg d rs ex : ByteArray) (h1 : sg = sB (sgT ng)) (h2 : d = sB (Lib.decDigits U)) (h3 : rs = if Lib.nDigits U = 1 then sB [48] else d.extract 1 (Lib.nDigits U)) (h4 : ex = sB (Lib.itoa x)) :
    sg ++ d.extract 0 1 ++ ⟨#[46]⟩ ++ rs ++ ⟨#[101]⟩ ++ ex = sB (sgT ng ++ fTxt U x) := by
  have e46 : (⟨#[46]⟩ : ByteArray) = sB [46] := rfl
  have e101 : (⟨#[101]⟩ : ByteArray) = sB [101] := rfl
  have e3 : rs = sB (if Lib.nDigits U = 1 then [48] else (Lib.decDigits U).drop 1) := by
    rw [h3, h2, sB_ext, List.take_of_length_le (by rw [Lib.decDigits_length]; exact Nat.le_refl _)]
    split <;> rfl
  rw [h1, e3, h4, h2, sB_ext, List.drop_zero, e46, e101, sB_app, sB_app, sB_app, sB_app, sB_app]
  unfold fTxt
  rw [if_pos hx]
  simp only [List.append_assoc]
theorem fB (ng : Bool) (U : Nat) (x : Int) (hx : ¬ (x < -4 ∨ 14 < x)) (h0 : x < 0) (sg d zz : ByteArray) (h1 : sg = sB (sgT ng)) (h2 : d = sB (Lib.decDigits U)) (h3 : zz = sB (zs (-x - 1).toNat)) :
    sg ++ ⟨#[48, 46]⟩ ++ zz ++ d = sB (sgT ng ++ fTxt U x) := by
  have e46 : (⟨#[48, 46]⟩ : ByteArray) = sB [48, 46] := rfl
  rw [h1, h3, h2, e46, sB_app, sB_app, sB_app]
  unfold fTxt
  rw [if_neg hx, if_pos h0]
  simp only [List.append_assoc]
theorem fC (ng : Bool) (U k : Nat) (hx : ¬ ((k : Int) < -4 ∨ 14 < (k : Int))) (sg d zz d2 : ByteArray) (h1 : sg = sB (sgT ng)) (h2 : d = sB (Lib.decDigits U)) (h3 : zz = sB (zs (k + 2 - Lib.nDigits U))) (h4 : d2 = d ++ zz) :
    sg ++ d2.extract 0 (k + 1) ++ ⟨#[46]⟩ ++ d2.extract (k + 1) d2.size = sB (sgT ng ++ fTxt U k) := by
  have e46 : (⟨#[46]⟩ : ByteArray) = sB [46] := rfl
  rw [h4, h1, h2, h3, sB_app, sB_ext, sB_ext, sB_size, e46, sB_app, sB_app, sB_app, List.drop_zero, List.take_length]
  unfold fTxt
  rw [if_neg hx, if_neg (by omega), Int.toNat_natCast]
  simp only [List.append_assoc]
theorem Tryz.enter24 (vs : Array Value) (w : World) : (callFunc 24 vs).run Tryz.prog w = .ok (.enter 24 vs) w := by kernel_rfl
theorem Tryz.float6 (b r u : Nat) (ng : Bool) (z : Nat) (w : World) (h : FltOk b r u) (hz : z = if ng then b + 9223372036854775808 else b) :
    Calls Tryz.prog 6 #[.int .u64 z] w (FloatSays b r u ng w) := by
  have b63 : b < 9223372036854775808 := by have := h.inf; unfold infB at this; omega
  have b0 : 0 < b := by have := h.eq; have := h.r0; omega
  have hE : ∃ y1 y2 : Nat, (z : Int) / 4503599627370496 = y1 ∧ (y1 : Int) % 2048 = y2 ∧ y2 ≠ 2047 := by
    refine ⟨z / 4503599627370496, z / 4503599627370496 % 2048, by omega, by omega, ?_⟩
    have h1 := h.inf
    unfold infB at h1
    cases ng
    · rw [hz]; simp only [if_false, Bool.false_eq_true]; omega
    · rw [hz]; simp only [if_true]; omega
  obtain ⟨y1, y2, hy1, hy2, hy3⟩ := hE
  have t1 : ((y2 : Int) == 2047) = false := beq_of_ne (by omega)
  have z64 : z < 18446744073709551616 := by cases ng <;> simp only [if_true, if_false, Bool.false_eq_true] at hz <;> omega
  have y1b : y1 < 4096 := by omega
  have y2b : y2 < 2048 := by omega
  have HNG : Hid (decide (9223372036854775808 ≤ (z : Int)) = ng) := Lib.hid (by
    cases ng
    · simp only [if_false, Bool.false_eq_true] at hz; exact decide_eq_false (by omega)
    · simp only [if_true] at hz; exact decide_eq_true (by omega))
  have HZ := Lib.hid hz
  have HH := Lib.hid h
  clear hz h hy3
  go_enter Tryz.func6, Tryz.ntmps6
  go_upto_region 4 with fail
  go_cut [13] from 8 to 14 (fun v wx => v = .bool ng ∧ w = wx)
  case first =>
    go_wp2
    go_meet
    exact ⟨by rw [HNG.out], rfl⟩
  case rest =>
  obtain ⟨rfl, rfl⟩ := hcut
  go_upto_if 13 with fail
  go_cut [0, 4] from 8 (fun v0 v4 wx => v0 = .int .u64 b ∧ v4 = .string (sB (sgT ng)) ∧ w = wx)
  case first =>
    cases ng
    · have e1 : z = b := HZ.out
      subst e1
      go_wp2
      go_meet
      exact ⟨rfl, rfl, rfl⟩
    · have e1 : z = b + 9223372036854775808 := HZ.out
      have d3 : (z : Int) - 9223372036854775808 = b := by omega
      clear e1
      go_wp2
      go_meet
      exact ⟨rfl, rfl, rfl⟩
  case rest =>
  obtain ⟨rfl, rfl, rfl⟩ := hcut
  have CR := Lib.hid (Tryz.row6 b r u w HH.out)
  have t2 : ((b : Int) == 0) = false := beq_of_ne (by omega)
  clear hy1 hy2 t1 z64 y1b y2b HZ
  go_upto_block 0 with (go_at_call 23; (with_reducible refine CR.out.mono ?_); rintro e' W1 ⟨e, n, q1, q2, q3, q4, q5, q6, q7, rfl, q8⟩)
  obtain ⟨D, hDq⟩ : ∃ D, D = dDig b r u (e - n + 1) := ⟨_, rfl⟩
  have HD0 : Hid (1 ≤ D) := Lib.hid (by rw [hDq]; exact dDig_pos q1 q4)
  have HD18 : Hid (Lib.nDigits D ≤ 18) := Lib.hid (by rw [hDq]; exact nDigits_le 17 _ (dDig_lt q1 q4 q5))
  rw [← hDq]
  obtain ⟨f, hf⟩ : ∃ f : Int, f = e + Lib.nDigits D - n := ⟨_, rfl⟩
  rw [← hf]
  have HOUT : Hid (∀ U k, U % 10 ≠ 0 → D = U * 10 ^ k → Out b r u U f) := Lib.hid (fun U k h1 h2 => by
    have h3 := HH.out.doc q1 q4 q6 q7 h1 (by rw [← hDq]; exact h2)
    have h4 : Lib.nDigits D = Lib.nDigits U + k := by rw [h2]; exact nDigits_tens (by omega) k
    rw [hf, h4]
    rwa [show e + ((Lib.nDigits U + k : Nat) : Int) - n = e + ((Lib.nDigits U : Nat) + (k : Nat) : Int) - n by omega])
  have Q8 := Lib.hid q8
  clear q1 q2 q3 q4 q5 q6 q7 q8 hDq hf CR t2
  go_cut [5] from 7 (fun v wx => ∃ U k, v = .string (sB (Lib.decDigits U)) ∧ U % 10 ≠ 0 ∧ D = U * 10 ^ k ∧ W1 = wx)
  case first =>
    go_wp2
    go_loop [5] (fun v => ∃ (V k : Nat) (d : ByteArray), v = .string d ∧ Hid (d = sB (Lib.decDigits V)) ∧ 1 ≤ V ∧ Hid (D = V * 10 ^ k) ∧ d.size ≤ 18) (fun v => match v with | .string d => d.size | _ => 0)
    case atStart => exact ⟨D, 0, _, rfl, Lib.hid rfl, HD0.out, Lib.hid (by rw [Nat.pow_zero, Nat.mul_one]), by show (sB (Lib.decDigits D)).size ≤ 18; rw [sB_size, Lib.decDigits_length]; exact HD18.out⟩
    case round =>
      obtain ⟨V, k, d, rfl, HD, hV, HK, h18⟩ := hrel
      obtain ⟨L, hL⟩ : ∃ L, L = d.size := ⟨_, rfl⟩
      have hLn : L = Lib.nDigits V := by rw [hL, HD.out, sB_size, Lib.decDigits_length]
      have hL1 := Lib.nDigits_pos V
      obtain ⟨m, hm⟩ : ∃ m, L = m + 1 := ⟨L - 1, by omega⟩
      have hmd : m < d.size := by omega
      have hdm := last_digit HD.out (by rw [← hLn]; exact hm) hmd
      have HLN := Lib.hid hLn
      have HV := Lib.hid hV
      have hds : d.size = m + 1 := by omega
      clear hLn hL1
      by_cases h1 : 0 < m
      · have d1 : decide (1 < (d.size : Int)) = true := decide_eq_true (by omega)
        obtain ⟨y, hy⟩ : ∃ y, y = V % 10 := ⟨_, rfl⟩
        rw [← hy] at hdm
        have y10 : y < 10 := by omega
        have HY := Lib.hid hy
        have e1 : ((d.size : Int)) - 1 = m := by omega
        have HDS : Hid (d.size = m + 1 ∧ L = m + 1) := Lib.hid ⟨hds, hm⟩
        clear hy hm hL hds
        by_cases h0 : y = 0
        · subst h0
          obtain ⟨w1, w2, w3⟩ := cut_digit (by have := HY.out; omega) HV.out (by rw [← HLN.out]; exact HDS.out.2)
          have HW := Lib.hid (And.intro w1 (And.intro w2 w3))
          clear w1 w2 w3
          go_wp2
          go_round
          case rel =>
            refine ⟨V / 10, k + 1, d.extract 0 m, rfl, Lib.hid ?_, HW.out.2.1, Lib.hid ?_, ?_⟩
            · rw [HD.out]; exact HW.out.1
            · have := HY.out
              have e3 : 10 ^ (k + 1) = 10 * 10 ^ k := by rw [Nat.pow_succ, Nat.mul_comm]
              rw [e3, ← Nat.mul_assoc, show V / 10 * 10 = V by omega]
              exact HK.out
            · rw [ByteArray.size_extract]; omega
          case measure => show (d.extract 0 m).size < d.size; rw [ByteArray.size_extract]; omega
        · have t1 : (((48 + y : Nat) : Int) == 48) = false := beq_of_ne (by omega)
          have HY0 := Lib.hid h0
          clear h0
          go_wp2
          go_meet
          exact ⟨V, k, by rw [HD.out], by rw [← HY.out]; exact HY0.out, HK.out, rfl⟩
      · have m0 : m = 0 := by omega
        have d1 : decide (1 < (d.size : Int)) = false := decide_eq_false (by omega)
        have d2 : ¬ (1 : Int) < (d.size : Int) := by omega
        have HV9 : Hid (V < 10) := Lib.hid (by
          have h2 := Lib.lt_pow_nDigits V
          have := HLN.out
          rw [show Lib.nDigits V = 1 by omega] at h2
          omega)
        clear h1 m0 hm hL hdm
        go_wp2
        go_meet
        exact ⟨V, k, by rw [HD.out], by have := HV9.out; have := HV.out; omega, HK.out, rfl⟩
  case rest =>
  obtain ⟨U, k, rfl, hU, hk, rfl⟩ := hcut
  have ho := HOUT.out U k hU hk
  have U1 : 1 ≤ U := by have := ho.n0; omega
  have hL17 : Lib.nDigits U ≤ 17 := by
    have e : (10 : Nat) ^ (16 + 1) = 100000000000000000 := by decide
    exact nDigits_le 16 U (by rw [e]; exact ho.lt)
  have hL0 := Lib.nDigits_pos U
  have xlo := ho.lo
  have xhi := ho.hi
  have FIN : Hid (∀ s W', s = sB (sgT ng ++ fTxt U f) → Below w.heap.size w W' → FloatSays b r u ng w (.returned (.tuple #[.string s, .int .i64 0])) W') := Lib.hid (fun s W' h1 h2 => ⟨U, f, ho, by rw [h1], h2⟩)
  obtain ⟨sg, hsg⟩ : ∃ s, s = sB (sgT ng) := ⟨_, rfl⟩
  obtain ⟨d, hd⟩ : ∃ s, s = sB (Lib.decDigits U) := ⟨_, rfl⟩
  rw [← hsg, ← hd]
  obtain ⟨L, hLq⟩ : ∃ L, L = Lib.nDigits U := ⟨_, rfl⟩
  have hds : d.size = L := by rw [hd, sB_size, Lib.decDigits_length, hLq]
  have hss : sg.size ≤ 1 := by rw [hsg, sB_size]; cases ng <;> simp [sgT]
  rw [← hLq] at hL17 hL0
  have HSG := Lib.hid hsg
  have HD := Lib.hid hd
  have HL := Lib.hid hLq
  have HDS := Lib.hid hds
  have hL0i : (1 : Int) ≤ L := by omega
  clear hU hk ho hsg hd hLq HOUT HD0 HD18 b63 b0 HNG U1
  obtain ⟨B, hB⟩ : ∃ B : Bool, B = decide (f < -4 ∨ 14 < f) := ⟨_, rfl⟩
  have HB := Lib.hid hB
  clear hB
  go_upto_region 12 with fail
  go_cut [41] from 42 to 48 (fun v wx => v = .bool B ∧ W1 = wx)
  case first =>
    by_cases h1 : f < -4
    · have : B = true := by rw [HB.out]; exact decide_eq_true (.inl h1)
      subst this
      have d1 : decide (f < -4) = true := decide_eq_true h1
      go_wp2
      go_meet
      exact ⟨rfl, rfl⟩
    · have d1 : decide (f < -4) = false := decide_eq_false h1
      by_cases h2 : 14 < f
      · have : B = true := by rw [HB.out]; exact decide_eq_true (.inr h2)
        subst this
        have d2 : decide (14 < f) = true := decide_eq_true h2
        go_wp2
        go_meet
        exact ⟨rfl, rfl⟩
      · have : B = false := by rw [HB.out]; exact decide_eq_false (by omega)
        subst this
        have d2 : decide (14 < f) = false := decide_eq_false h2
        go_wp2
        go_meet
        exact ⟨rfl, rfl⟩
  case rest =>
  obtain ⟨rfl, rfl⟩ := hcut
  cases B with
  | true =>
    go_upto_region 14 with fail
    obtain ⟨g0, hg0⟩ : ∃ s, s = d.extract 1 L := ⟨_, rfl⟩
    rw [← hg0]
    have hgs : g0.size = L - 1 := by rw [hg0, ByteArray.size_extract]; omega
    have HG := Lib.hid hg0
    obtain ⟨E, hE⟩ : ∃ B : Bool, B = decide (L = 1) := ⟨_, rfl⟩
    have HE := Lib.hid hE
    have HX : Hid (f < -4 ∨ 14 < f) := Lib.hid (of_decide_eq_true HB.out.symm)
    clear hg0 hE
    go_cut [51] from 48 to 52 (fun v wx => v = .bool E ∧ W1 = wx)
    case first =>
      go_wp2
      go_meet
      refine ⟨?_, rfl⟩
      have hgl : g0.data.toList.length = L - 1 := by rw [← hgs]; rfl
      have hE2 := HE.out
      rw [ByteArray.toList_eq, hE2]
      cases hc : g0.data.toList with
      | nil =>
        rw [hc] at hgl
        have : L = 1 := by simp at hgl; omega
        rw [decide_eq_true this]
        rfl
      | cons c l =>
        rw [hc] at hgl
        rw [List.length_cons] at hgl
        rw [decide_eq_false (by omega)]
        rfl
    case rest =>
    obtain ⟨rfl, rfl⟩ := hcut
    obtain ⟨rs, hrs⟩ : ∃ s, s = (if E = true then sB [48] else g0) := ⟨_, rfl⟩
    have HRS := Lib.hid hrs
    have hrsz : rs.size ≤ 20 := by rw [hrs]; split; decide; omega
    clear hrs
    go_upto_if 51 with fail
    go_cut [7] from 48 (fun v wx => v = .string rs ∧ W1 = wx)
    case first =>
      cases E with
      | true =>
        have e1 : rs = sB [48] := HRS.out
        subst e1
        go_wp2
        go_meet
        exact ⟨rfl, rfl⟩
      | false =>
        have e1 : rs = g0 := HRS.out
        subst e1
        go_wp2
        go_meet
        exact ⟨rfl, rfl⟩
    case rest =>
    obtain ⟨rfl, rfl⟩ := hcut
    have CS : Hid (∀ W, Hp W1 W → Calls Tryz.prog 25 #[.int .i64 f] W fun e W' => ∃ ng a m c, e = .returned (.agg #[.bool ng, .slice a m c]) ∧ IntV W' ng a m c f ∧ Below W1.heap.size W1 W') := Lib.hid (fun W h => by
      refine (Tryz.smallI f W (by omega) (by omega)).mono ?_
      rintro e W' ⟨ng, a, m, c, rfl, h1, h2⟩
      exact ⟨ng, a, m, c, rfl, h1, h.below.trans (h2.mono h.below.size)⟩)
    obtain ⟨ex, hex⟩ : ∃ s, s = sB (Lib.itoa f) := ⟨_, rfl⟩
    have CT : Hid (∀ W ng a m c, IntV W ng a m c f → Below W1.heap.size W1 W → Calls Tryz.prog 24 #[.agg #[.bool ng, .slice a m c], .int .i64 10] W fun e W' => e = .returned (.string ex) ∧ Below W1.heap.size W1 W') := Lib.hid (fun W ng a m c h h2 => by
      refine (Tryz.textI f W ng a m c (by omega) (by omega) h).mono ?_
      rintro e W' ⟨rfl, h3⟩
      exact ⟨by rw [hex], h2.trans (h3.mono h2.size)⟩)
    have exs : ex.size ≤ 20 := by
      rw [hex, sB_size]
      unfold Lib.itoa
      split
      · rw [List.length_cons, Lib.decDigits_length]
        have := nDigits_le 2 f.natAbs (by have e : (10 : Nat) ^ (2 + 1) = 1000 := by decide
                                          omega)
        omega
      · rw [Lib.decDigits_length]
        have := nDigits_le 2 f.toNat (by have e : (10 : Nat) ^ (2 + 1) = 1000 := by decide
                                         omega)
        omega
    have HEX := Lib.hid hex
    clear hex
    have z1 : ¬ 9223372036854775807 < sg.size + 1 := by omega
    have z2 : ¬ 9223372036854775807 < sg.size + 1 + 1 := by omega
    have z3 : ¬ 9223372036854775807 < sg.size + 1 + 1 + rs.size := by omega
    have z4 : ¬ 9223372036854775807 < sg.size + 1 + 1 + rs.size + 1 := by omega
    have z5 : ¬ 9223372036854775807 < sg.size + 1 + 1 + rs.size + 1 + ex.size := by omega
    go_upto_region 16 with fail
    refine wp_region_held_drew (S := fun W => Below W1.heap.size W1 W) (by kernel_rfl) below_drew' (fun hS => ?_)
    refine wpAnyH_take (i := 0) (oi := _) (v := .string sg) rfl (by kernel_rfl) (by kernel_rfl) (by kernel_rfl) (fun _ _ _ h => h) (Or.inl ⟨by rfl, ?_⟩) hS ?_
    · intro W hSW
      go_simp
    simp only [uu1, uu2, uu3, Act.put, uu4, uu5, uu6]
    refine wpAnyH_take (i := 1) (oi := _) (v := .string d) rfl (by kernel_rfl) (by kernel_rfl) (by kernel_rfl) (fun _ _ _ h => h) (Or.inl ⟨by rfl, ?_⟩) hS ?_
    · intro W hSW
      go_simp
    simp only [uu1, uu2, uu3, Act.put, uu4, uu5, uu6]
    refine wpAnyH_take (i := 2) (oi := _) (v := .string (d.extract 0 1)) rfl (by kernel_rfl) (by kernel_rfl) (by kernel_rfl) (fun _ _ _ h => h) (Or.inl ⟨by rfl, ?_⟩) hS ?_
    · intro W hSW
      go_simp
    simp only [uu1, uu2, uu3, Act.put, uu4, uu5, uu6]
    refine wpAnyH_take (i := 3) (oi := _) (v := .string (sg ++ d.extract 0 1)) rfl (by kernel_rfl) (by kernel_rfl) (by kernel_rfl) (fun _ _ _ h => h) (Or.inl ⟨by rfl, ?_⟩) hS ?_
    · intro W hSW
      go_simp
    simp only [uu1, uu2, uu3, Act.put, uu4, uu5, uu6]
    refine wpAnyH_take (i := 4) (oi := _) (v := .string (sg ++ d.extract 0 1 ++ ⟨#[46]⟩)) rfl (by kernel_rfl) (by kernel_rfl) (by kernel_rfl) (fun _ _ _ h => h) (Or.inl ⟨by rfl, ?_⟩) hS ?_
    · intro W hSW
      go_simp
    simp only [uu1, uu2, uu3, Act.put, uu4, uu5, uu6]
    refine wpAnyH_take (i := 5) (oi := _) (v := .string rs) rfl (by kernel_rfl) (by kernel_rfl) (by kernel_rfl) (fun _ _ _ h => h) (Or.inl ⟨by rfl, ?_⟩) hS ?_
    · intro W hSW
      go_simp
    simp only [uu1, uu2, uu3, Act.put, uu4, uu5, uu6]
    refine wpAnyH_take (i := 6) (oi := _) (v := .string (sg ++ d.extract 0 1 ++ ⟨#[46]⟩ ++ rs)) rfl (by kernel_rfl) (by kernel_rfl) (by kernel_rfl) (fun _ _ _ h => h) (Or.inl ⟨by rfl, ?_⟩) hS ?_
    · intro W hSW
      go_simp
    simp only [uu1, uu2, uu3, Act.put, uu4, uu5, uu6]
    refine wpAnyH_take (i := 7) (oi := _) (v := .string (sg ++ d.extract 0 1 ++ ⟨#[46]⟩ ++ rs ++ ⟨#[101]⟩)) rfl (by kernel_rfl) (by kernel_rfl) (by kernel_rfl) (fun _ _ _ h => h) (Or.inl ⟨by rfl, ?_⟩) hS ?_
    · intro W hSW
      go_simp
    simp only [uu1, uu2, uu3, Act.put, uu4, uu5, uu6]
    refine wpAnyH_take (i := 8) (oi := _) (v := .int .i64 f) rfl (by kernel_rfl) (by kernel_rfl) (by kernel_rfl) (fun _ _ _ h => h) (Or.inl ⟨by rfl, ?_⟩) hS ?_
    · intro W hSW
      go_simp
    simp only [uu1, uu2, uu3, Act.put, uu4, uu5, uu6]
    refine wpAnyH_ready (rs := [9]) (by kernel_rfl) (by simp) ?_
    refine AllReadyH.cons rfl (fun K hK => ?_) AllReadyH.nil
    refine step_call (by rfl) 25 [.tmp 60] #[3] (by rfl) #[.int .i64 f] (by kernel_rfl) Tryz.enter25 ((CS.out _ (hp_drew _)).mono ?_)
    rintro e' W6 ⟨ng', oa, om, oc, rfl, ho1, ho2⟩
    refine ⟨_, rfl, ?_⟩
    refine hK.out _ _ ho2 (fun hS => ?_)
    simp only [uu1, uu2, uu3, Act.put, uu4, uu5, uu6]
    refine wpAnyH_ready (rs := [10]) (by kernel_rfl) (by simp) ?_
    refine AllReadyH.cons rfl (fun K hK => ?_) AllReadyH.nil
    refine step_call (by rfl) 24 [.tmp 61, .const (.int .i64 10)] #[65, 3] (by rfl) #[.agg #[.bool ng', .slice oa om oc], .int .i64 10] (by kernel_rfl) Tryz.enter24 ((CT.out _ _ _ _ _ ho1 hS).mono ?_)
    rintro e' W7 ⟨rfl, hb7⟩
    refine ⟨_, rfl, ?_⟩
    refine hK.out _ _ hb7 (fun hS => ?_)
    simp only [uu1, uu2, uu3, Act.put, uu4, uu5, uu6]
    refine wpAnyH_take (i := 11) (oi := _) (v := .string (sg ++ d.extract 0 1 ++ ⟨#[46]⟩ ++ rs ++ ⟨#[101]⟩ ++ ex)) rfl (by kernel_rfl) (by kernel_rfl) (by kernel_rfl) (fun _ _ _ h => h) (Or.inl ⟨by rfl, ?_⟩) hS ?_
    · intro W hSW
      go_simp
    simp only [uu1, uu2, uu3, Act.put, uu4, uu5, uu6]
    refine wpAnyH_take (i := 12) (oi := _) (v := .string (sg ++ d.extract 0 1 ++ ⟨#[46]⟩ ++ rs ++ ⟨#[101]⟩ ++ ex)) rfl (by kernel_rfl) (by kernel_rfl) (by kernel_rfl) (fun _ _ _ h => h) (Or.inl ⟨by rfl, ?_⟩) hS ?_
    · intro W hSW
      go_simp
    simp only [uu1, uu2, uu3, Act.put, uu4, uu5, uu6]
    refine wpAnyH_take (i := 13) (oi := _) (v := .int .i64 0) rfl (by kernel_rfl) (by kernel_rfl) (by kernel_rfl) (fun _ _ _ h => h) (Or.inl ⟨by rfl, ?_⟩) hS ?_
    · intro W hSW
      go_simp
    simp only [uu1, uu2, uu3, Act.put, uu4, uu5, uu6]
    refine wpAnyH_done (by kernel_rfl) ?_ _
    go_wp2
    go_ret2
    refine FIN.out _ _ ?_ (Q8.out.trans (hS.mono Q8.out.size))
    refine fA ng U f HX.out sg d rs ex HSG.out HD.out ?_ HEX.out
    rw [HRS.out, HE.out, HG.out, HL.out]
    simp only [decide_eq_true_eq]
  | false =>
    have hx : ¬ (f < -4 ∨ 14 < f) := of_decide_eq_false HB.out.symm
    by_cases h0 : f < 0
    · obtain ⟨k, hk⟩ : ∃ k : Nat, k = (-f - 1).toNat := ⟨_, rfl⟩
      have ek : -f - 1 = (k : Int) := by omega
      have d0 : decide (f < 0) = true := decide_eq_true h0
      have fb : -4 ≤ f := by omega
      have k4 : k ≤ 4 := by omega
      obtain ⟨zz, hzz⟩ : ∃ s, s = sB (zs k) := ⟨_, rfl⟩
      have zsz : zz.size = k := by rw [hzz, sB_size, zs_len]
      have CZ := Lib.hid ((Tryz.zeros6 (k : Int) W1 (by omega)).mono (R' := fun e' w' => e' = .returned (.string zz) ∧ W1 = w') (by rintro e' w' ⟨rfl, h⟩; exact ⟨by rw [hzz, Int.toNat_natCast]; rfl, h⟩))
      have HZ := Lib.hid hzz
      have HX := Lib.hid (And.intro hx h0)
      have z1 : ¬ 9223372036854775807 < sg.size + 2 := by omega
      have z2 : ¬ 9223372036854775807 < sg.size + 2 + zz.size := by omega
      have z3 : ¬ 9223372036854775807 < sg.size + 2 + k := by omega
      have z4 : ¬ 9223372036854775807 < sg.size + 2 + k + L := by omega
      have HK : Hid (k = (-f - 1).toNat) := Lib.hid hk
      clear hzz hx hk
      go_wp2_with (go_at_call 26; (with_reducible refine CZ.out.mono ?_); rintro e' w' ⟨rfl, rfl⟩)
      go_ret2
      refine FIN.out _ _ ?_ Q8.out
      exact fB ng U f HX.out.1 HX.out.2 sg d zz HSG.out HD.out (by rw [HZ.out, HK.out])
    · obtain ⟨k, rfl⟩ : ∃ k : Nat, f = k := ⟨f.toNat, by omega⟩
      have d0 : decide ((k : Int) < 0) = false := decide_eq_false h0
      have k14 : k ≤ 14 := by omega
      obtain ⟨j, hj⟩ : ∃ j : Int, (k : Int) + 2 - L = j := ⟨_, rfl⟩
      have hj2 : j ≤ 20 := by omega
      obtain ⟨zz, hzz⟩ : ∃ s, s = sB (zs j.toNat) := ⟨_, rfl⟩
      obtain ⟨y, hy⟩ : ∃ y, y = j.toNat := ⟨_, rfl⟩
      have zsz : zz.size = y := by rw [hzz, sB_size, zs_len, hy]
      have CZ := Lib.hid ((Tryz.zeros6 j W1 (by omega)).mono (R' := fun e' w' => e' = .returned (.string zz) ∧ W1 = w') (by rintro e' w' ⟨rfl, h⟩; exact ⟨by rw [hzz]; rfl, h⟩))
      have HZ := Lib.hid hzz
      have HY : Hid (y = k + 2 - L) := Lib.hid (by omega)
      have HJ : Hid (j.toNat = k + 2 - L) := Lib.hid (by omega)
      have HX := Lib.hid (And.intro hx h0)
      have y20 : y ≤ 20 := by omega
      have z1 : ¬ 9223372036854775807 < L + y := by omega
      obtain ⟨d2, hd2⟩ : ∃ s, s = d ++ zz := ⟨_, rfl⟩
      have d2s : d2.size = L + y := by rw [hd2, ByteArray.size_append, hds, zsz]
      have HD2 := Lib.hid hd2
      have hd2' : d ++ zz = d2 := hd2.symm
      clear hzz hx hy hd2
      go_upto_region 20 with (go_at_call 26; (with_reducible refine CZ.out.mono ?_); rintro e' w' ⟨rfl, rfl⟩)
      obtain ⟨k1, hk1⟩ : ∃ k1, k1 = k + 1 := ⟨_, rfl⟩
      have ek : (k : Int) + 1 = (k1 : Int) := by omega
      obtain ⟨M, hM⟩ : ∃ M, M = d2.size := ⟨_, rfl⟩
      have hMk : k1 ≤ M := by have := HY.out; omega
      have hMki : (k1 : Int) ≤ M := by omega
      have hM40 : M ≤ 40 := by omega
      have HM := Lib.hid hM
      have hM2 : d2.size = M := hM.symm
      have HK1 := Lib.hid hk1
      obtain ⟨t1, ht1⟩ : ∃ t, t = d2.extract 0 k1 := ⟨_, rfl⟩
      obtain ⟨t2, ht2⟩ : ∃ t, t = d2.extract k1 M := ⟨_, rfl⟩
      have s1 : t1.size = k1 := by rw [ht1, ByteArray.size_extract]; omega
      have s2 : t2.size = M - k1 := by rw [ht2, ByteArray.size_extract]; omega
      have hm2 : ∃ r2, M - k1 = r2 ∧ r2 ≤ 40 := ⟨_, rfl, by omega⟩
      obtain ⟨r2, hr2, hr2b⟩ := hm2
      rw [hr2] at s2
      have w1 : ∀ W, (Instr.slice 9 (.string d2) none (some (.int .i64 (k1 : Int))) none).run Tryz.prog W = .ok (.string t1) W := fun W => by
        have h := run_slice_string_to_if (P := Tryz.prog) (w := W) 9 d2 .i64 (k1 : Int) Tryz.underlying9
        rw [if_pos (by omega), Int.toNat_natCast] at h
        rw [ht1]
        exact h
      have w2 : ∀ W, (Instr.slice 9 (.string d2) (some (.int .i64 (k1 : Int))) none none).run Tryz.prog W = .ok (.string t2) W := fun W => by
        have h := run_slice_string_from_if (P := Tryz.prog) (w := W) 9 d2 .i64 (k1 : Int) Tryz.underlying9
        rw [if_pos (by omega), Int.toNat_natCast, hM2] at h
        rw [ht2]
        exact h
      have HT := Lib.hid (And.intro ht1 ht2)
      have z2 : ¬ 9223372036854775807 < sg.size + k1 := by omega
      have z3 : ¬ 9223372036854775807 < sg.size + k1 + 1 := by omega
      have z4 : ¬ 9223372036854775807 < sg.size + k1 + 1 + r2 := by omega
      clear hk1 ht1 ht2 hM hr2 d2s hd2' zsz hj
      go_quiet (fail)
      go_wp2
      go_ret2
      refine FIN.out _ _ ?_ ⟨Q8.out.os, Q8.out.tape, Q8.out.output, Q8.out.size, Q8.out.block⟩
      rw [HT.out.1, HT.out.2, HK1.out, HM.out]
      exact fC ng U k HX.out.1 sg d zz d2 HSG.out HD.out (by rw [HZ.out, ← HL.out, HJ.out]) HD2.out
end Go.Proofs
