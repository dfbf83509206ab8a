import Derived.Test.YtpjcdbjablijkaaGreatDoorDfI
import Derived.Test.YtpjcdbjablijkaaGreatDoorTbk
import Derived.Test.YtpjcdbjablijkaaGreatDoorTbm
import Derived.StillTailTactics
import Derived.Deep.CutBlock
import Derived.Deep.CutRange
import Derived.Test.YtpjcdbjablijkaaGreatDoorTbl
import Derived.Shelf.Strings.Prefix
set_option linter.unusedVariables false
set_option linter.unusedSimpArgs false
set_option maxRecDepth 1000000
set_option maxHeartbeats 4000000
/- The text of a float, as the lexer sees it: plain law. -/
namespace Go.Zw
open Go.Pf Go.Lib Go.Lx Go.Hb Go.Rb Go.Bg
theorem sB_byte (A R : List UInt8) (c : UInt8) : byte (sB (A ++ c :: R)) A.length = c.toNat := by
  unfold byte
  show ((A ++ c :: R).getD A.length 0).toNat = _
  rw [List.getD_eq_getElem?_getD, List.getElem?_append_right (Nat.le_refl _), Nat.sub_self]
  rfl
theorem sB_at (A R : List UInt8) (c : UInt8) {k : Nat} (hk : k = A.length) (h : k < (sB (A ++ c :: R)).size) : (sB (A ++ c :: R))[k].toNat = c.toNat := by
  subst hk
  rw [← byte_get h, sB_byte]
theorem dig_of {c : UInt8} (h : isD c) : digB c.toNat = true := by
  unfold digB
  rw [Bool.and_eq_true, decide_eq_true_eq, decide_eq_true_eq]
  exact h
theorem row_of : ∀ (D A R : List UInt8), (∀ c ∈ D, isD c) → (∀ c, R.head? = some c → digB c.toNat = false) → rowE digB (sB (A ++ (D ++ R))) A.length = A.length + D.length
  | [], A, [], _, _ => by rw [rowE_end]; rfl; rw [sB_size]; simp
  | [], A, c :: R, _, h => by
    have hl : A.length < (sB (A ++ c :: R)).size := by rw [sB_size]; simp
    show rowE digB (sB (A ++ c :: R)) A.length = _
    rw [rowE_stop hl (by rw [sB_at A R c rfl hl]; exact h c rfl)]
    rfl
  | c :: D, A, R, hd, h => by
    have hl : A.length < (sB (A ++ c :: (D ++ R))).size := by rw [sB_size]; simp
    show rowE digB (sB (A ++ c :: (D ++ R))) A.length = _
    rw [rowE_step hl (by rw [sB_at A _ c rfl hl]; exact dig_of (hd c (.head _)))]
    have ih := row_of D (A ++ [c]) R (fun x hx => hd x (.tail _ hx)) h
    rw [List.length_append, List.length_singleton] at ih
    rw [show A ++ c :: (D ++ R) = A ++ [c] ++ (D ++ R) by simp, ih, List.length_cons]
    omega
theorem dgv_dN {c : UInt8} (h : isD c) : dgv c.toNat = dN c := by
  unfold dgv dN
  rw [if_pos (show 48 ≤ c.toNat ∧ c.toNat ≤ 57 from h)]
theorem vN_take {l : List UInt8} (hd : ∀ c ∈ l, isD c) : ∀ k, k ≤ l.length → vN 10 (sB l) k = numF 0 (l.take k)
  | 0, _ => by rw [List.take_zero, numF_nil]; rfl
  | k + 1, hk => by
    have h1 : k < l.length := by omega
    have e : l = l.take k ++ l[k] :: l.drop (k + 1) := by
      rw [List.getElem_cons_drop, List.take_append_drop]
    have h2 : byte (sB l) k = l[k].toNat := by
      have h3 := sB_byte (l.take k) (l.drop (k + 1)) l[k]
      rw [← e, List.length_take, Nat.min_eq_left (by omega)] at h3
      exact h3
    rw [vN, vN_take hd k (by omega), h2, dgv_dN (hd _ (List.getElem_mem h1)), List.take_succ_eq_append_getElem h1, numF_append, numF_cons, numF_nil]
theorem vN_num {l : List UInt8} (hd : ∀ c ∈ l, isD c) : vN 10 (sB l) (sB l).size = numF 0 l := by
  rw [sB_size, vN_take hd _ (Nat.le_refl _), List.take_length]
theorem valN_take {A l : List UInt8} (hd : ∀ c ∈ l, isD c) : ∀ k, k ≤ l.length → valN 10 (sB (A ++ l)) A.length k = numF 0 (l.take k)
  | 0, _ => by rw [List.take_zero, numF_nil]; rfl
  | k + 1, hk => by
    have h1 : k < l.length := by omega
    have e : A ++ l = A ++ l.take k ++ l[k] :: l.drop (k + 1) := by
      rw [List.append_assoc, List.getElem_cons_drop, List.take_append_drop]
    have h2 : byte (sB (A ++ l)) (A.length + k) = l[k].toNat := by
      have h3 := sB_byte (A ++ l.take k) (l.drop (k + 1)) l[k]
      rw [← e, List.length_append, List.length_take, Nat.min_eq_left (by omega)] at h3
      exact h3
    rw [valN, valN_take hd k (by omega), byte_byt, h2, dgv_dN (hd _ (List.getElem_mem h1)), List.take_succ_eq_append_getElem h1, numF_append, numF_cons, numF_nil]
/-- Up to nineteen digits nothing is left out. -/
theorem rf_short {s : ByteArray} {q : Nat} (hdig : ∀ k, k < q → byte s k = 46 ∨ (48 ≤ byte s k ∧ byte s k ≤ 57)) : ∀ k, k ≤ q →
    ((rf s k).nd ≤ 19 → (rf s k).trunc = false ∧ (rf s k).ndm = (rf s k).nd) ∧ (0 < (rf s k).nd → 10 ^ ((rf s k).nd - 1) ≤ dgN s k) ∧ ((rf s k).nd = 0 → dgN s k = 0)
  | 0, _ => ⟨fun _ => ⟨rfl, rfl⟩, fun h => absurd h (Nat.lt_irrefl 0), fun _ => rfl⟩
  | k + 1, hk => by
    obtain ⟨i1, i2, i3⟩ := rf_short hdig k (by omega)
    have hb := hdig k (by omega)
    show ((rfStep (rf s k) (byte s k)).nd ≤ 19 → _) ∧ _
    rw [rf, dgN]
    generalize rf s k = r at *
    generalize byte s k = c at *
    generalize dgN s k = N at *
    unfold rfStep
    by_cases h46 : c = 46
    · rw [if_pos h46, if_pos h46]
      exact ⟨i1, i2, i3⟩
    · rw [if_neg h46, if_neg h46]
      by_cases h0 : c = 48 ∧ r.nd = 0
      · rw [if_pos h0]
        refine ⟨i1, fun h => absurd h (by show ¬ 0 < r.nd; omega), fun _ => ?_⟩
        rw [i3 h0.2, h0.1]
      · rw [if_neg h0]
        have key : 10 ^ r.nd ≤ N * 10 + (c - 48) := by
          rcases Nat.eq_zero_or_pos r.nd with h1 | h1
          · rw [h1, Nat.pow_zero]; omega
          · have h2 := i2 h1
            obtain ⟨m, hm⟩ : ∃ m, r.nd = m + 1 := ⟨r.nd - 1, by omega⟩
            rw [hm] at h2 ⊢
            have e : 10 ^ (m + 1) = 10 ^ m * 10 := Nat.pow_succ _ _
            rw [Nat.add_sub_cancel] at h2
            omega
        by_cases h19 : r.ndm < 19
        · rw [if_pos h19]
          refine ⟨fun h => ?_, fun _ => ?_, fun h => absurd h (Nat.succ_ne_zero _)⟩
          · have h : r.nd + 1 ≤ 19 := h
            have h3 := i1 (by omega)
            exact ⟨h3.1, by show r.ndm + 1 = r.nd + 1; rw [h3.2]⟩
          · show 10 ^ (r.nd + 1 - 1) ≤ _
            rw [Nat.add_sub_cancel]; exact key
        · rw [if_neg h19]
          refine ⟨fun h => ?_, fun _ => ?_, fun h => absurd h (Nat.succ_ne_zero _)⟩
          · have h : r.nd + 1 ≤ 19 := h
            have h3 := i1 (by omega)
            omega
          · show 10 ^ (r.nd + 1 - 1) ≤ _
            rw [Nat.add_sub_cancel]; exact key
theorem rf_trunc {s : ByteArray} {q : Nat} (hdig : ∀ k, k < q → byte s k = 46 ∨ (48 ≤ byte s k ∧ byte s k ≤ 57)) (hN : dgN s q < 1000000000000000000) : (rf s q).trunc = false := by
  obtain ⟨i1, i2, _⟩ := rf_short hdig q (Nat.le_refl _)
  refine (i1 ?_).1
  apply Nat.le_of_not_lt
  intro h
  have h1 := i2 (by omega)
  have h2 : 10 ^ 18 ≤ 10 ^ ((rf s q).nd - 1) := Nat.pow_le_pow_right (by decide) (by omega)
  have e : (10 : Nat) ^ 18 = 1000000000000000000 := by decide
  omega
theorem FSh.app {T P Q E : List UInt8} {y : Int} (h : FSh T P Q E y) : T = P ++ 46 :: (Q ++ E) := by
  rw [h.eq]
  simp
theorem itoa_sh (y : Int) : ∃ sg ds, itoa y = sg ++ ds ∧ (∀ c ∈ ds, isD c) ∧ ds ≠ [] ∧ numF 0 ds = y.natAbs ∧ ((y < 0 ∧ sg = [45]) ∨ (0 ≤ y ∧ sg = [])) ∧ ds.length = nDigits y.natAbs := by
  unfold itoa
  by_cases h : y < 0
  · rw [if_pos h]
    refine ⟨[45], decDigits y.natAbs, rfl, dec_isD _, dec_ne _, ?_, .inl ⟨h, rfl⟩, decDigits_length _⟩
    rw [numF_dec]; omega
  · rw [if_neg h]
    refine ⟨[], decDigits y.toNat, rfl, dec_isD _, dec_ne _, ?_, .inr ⟨by omega, rfl⟩, ?_⟩
    · rw [numF_dec]; omega
    · rw [decDigits_length, show y.toNat = y.natAbs by omega]
def numD (s : ByteArray) (a : Nat) : Prop := byt s (rowE digB s a) = 46 ∧ digB (byt s (rowE digB s a + 1)).toNat = true
/-- What the lexer needs of a text that shows a float. -/
structure LxF (s : ByteArray) (p b : Nat) : Prop where
  row : rowE digB s 0 = p
  num : numD s 0
  dig : digB (byt s 0).toNat = true
  sz : s.size ≤ 100
  flt : fltR s 0 p = .ok 5 ⟨#[]⟩ ⟨#[]⟩ b 0 s.size
  tr : ∀ t, rowE digB s (p + 1) ≤ t → t ≤ s.size → (rf (s.extract 0 t) (rowE digB s (p + 1) - 0)).trunc = false
  zero : byt s 0 = 48 → p = 1
theorem lx_of {T P Q E : List UInt8} {y : Int} {b N : Nat} (h : FSh T P Q E y) (h1 : -400 ≤ y) (h2 : y ≤ 400) (hN : numF 0 (P ++ Q) = N) (hN18 : N < 1000000000000000000) (hl : P.length + Q.length ≤ 60) (hinf : b < infB) (hrd : rdOk b N (y - Q.length)) : LxF (sB T) P.length b := by
  have hT := h.app
  have hp : 0 < P.length := List.length_pos_iff.2 h.p0
  have hq : 0 < Q.length := List.length_pos_iff.2 h.q0
  have r0 : rowE digB (sB T) 0 = P.length := by
    have := row_of P [] (46 :: (Q ++ E)) h.pd (fun c hc => by
      simp only [List.head?_cons, Option.some.injEq] at hc
      subst hc; decide)
    rw [List.nil_append, List.length_nil, Nat.zero_add, ← hT] at this
    exact this
  have hE : ∀ c, E.head? = some c → digB c.toNat = false := by
    intro c hc
    rcases h.ex with ⟨h3, _⟩ | h3
    · rw [h3] at hc; cases hc
    · rw [h3] at hc
      simp only [List.cons_append, List.nil_append, List.head?_cons, Option.some.injEq] at hc
      subst hc; decide
  have r1 : rowE digB (sB T) (P.length + 1) = P.length + 1 + Q.length := by
    have := row_of Q (P ++ [46]) E h.qd hE
    rw [show P ++ [46] ++ (Q ++ E) = T by rw [hT]; simp, List.length_append, List.length_singleton] at this
    exact this
  have hsz : (sB T).size = P.length + 1 + Q.length + E.length := by
    rw [sB_size, hT]; simp; omega
  have bdot : byt (sB T) P.length = 46 := by
    have := sB_byte P (Q ++ E) 46
    rw [← hT, ← byte_byt] at this
    have h9 : ((46 : UInt8).toNat) = 46 := by decide
    have h10 := byt_lo (sB T) P.length
    omega
  have bq : digB (byt (sB T) (P.length + 1)).toNat = true := by
    match hQ : Q, h.qd, hq with
    | c :: Q', hd, _ =>
      have := sB_byte (P ++ [46]) (Q' ++ E) c
      rw [show P ++ [46] ++ c :: (Q' ++ E) = T by rw [hT]; simp, List.length_append, List.length_singleton, ← byte_byt] at this
      rw [this]
      exact dig_of (hd c (.head _))
  have b0 : ∃ c P', P = c :: P' ∧ (byt (sB T) 0).toNat = c.toNat := by
    match hP : P, hp with
    | c :: P', _ =>
      have := sB_byte [] (P' ++ 46 :: (Q ++ E)) c
      rw [List.nil_append, List.length_nil, show c :: (P' ++ 46 :: (Q ++ E)) = T by rw [hT]; rfl, ← byte_byt] at this
      exact ⟨c, P', rfl, this⟩
  obtain ⟨c0, P', hP, hb0⟩ := b0
  have dig0 : digB (byt (sB T) 0).toNat = true := by
    rw [hb0]
    exact dig_of (h.pd c0 (by rw [hP]; exact .head _))
  have hfl : FlP (sB T) 0 P.length (rowE digB (sB T) (P.length + 1)) := flp_of (by omega) r0.symm dig0 bdot bq
  have e1 : (sB T).extract 0 P.length = sB P := by
    rw [sB_ext, hT, List.take_left' rfl, List.drop_zero]
  have e2 : (sB T).extract (P.length + 1) (P.length + 1 + Q.length) = sB Q := by
    rw [sB_ext, hT, show P ++ 46 :: (Q ++ E) = (P ++ 46 :: Q) ++ E by simp, List.take_left' (by simp; omega)]
    congr 1
    rw [show P ++ 46 :: Q = (P ++ [46]) ++ Q by simp, List.drop_left' (by simp)]
  have hD : fltD (sB T) 0 P.length = sB (P ++ Q) := by
    unfold fltD
    rw [r1, e1, e2, sB_app]
  have hPQ : ∀ c ∈ P ++ Q, isD c := fun c hc => by
    rw [List.mem_append] at hc
    exact hc.elim (h.pd c) (h.qd c)
  have hv : vN 10 (fltD (sB T) 0 P.length) (fltD (sB T) 0 P.length).size = N := by
    rw [hD, vN_num hPQ, hN]
  have hB : fltB N (y - Q.length) = b := (fltB_rd hinf).2 hrd
  have hF : ∀ t, fltF (sB T) 0 P.length y t = .ok 5 ⟨#[]⟩ ⟨#[]⟩ b 0 t := fun t => by
    unfold fltF
    rw [r1, if_neg (by omega), hv, show y - (((P.length + 1 + Q.length : Nat) : Int) - P.length - 1) = y - Q.length by omega, hB, if_pos hinf]
  refine ⟨r0, ⟨by rw [r0]; exact bdot, by rw [r0]; exact bq⟩, dig0, ?_, ?_, ?_, ?_⟩
  · rw [hsz]
    rcases h.ex with ⟨h3, _⟩ | h3
    · rw [h3]; simp; omega
    · obtain ⟨sg, ds, k1, k2, k3, k4, k5, k6⟩ := itoa_sh y
      have k7 := nDigits_le 2 y.natAbs (by have e : (10 : Nat) ^ (2 + 1) = 1000 := by decide
                                           omega)
      have k8 : sg.length ≤ 1 := by rcases k5 with ⟨_, h4⟩ | ⟨_, h4⟩ <;> rw [h4] <;> simp
      rw [h3, k1]
      simp only [List.length_append, List.length_cons, List.length_nil]
      omega
  · rcases h.ex with ⟨h3, h4⟩ | h3
    · have hsz2 : (sB T).size = P.length + 1 + Q.length := by rw [hsz, h3]; rfl
      have ho : byt (sB T) (P.length + 1 + Q.length) = 0 := byt_out _ _ (by omega)
      have hni : ¬ expI (sB T) (rowE digB (sB T) (P.length + 1)) := by
        rw [r1]
        rintro ⟨h5, _⟩
        rw [ho] at h5
        omega
      unfold fltR
      rw [if_neg hni, r1, ← h4, hF, hsz2]
    · obtain ⟨sg, ds, k1, k2, k3, k4, k5, k6⟩ := itoa_sh y
      have k7 := nDigits_le 2 y.natAbs (by have e : (10 : Nat) ^ (2 + 1) = 1000 := by decide
                                           omega)
      have hd0 : 0 < ds.length := List.length_pos_iff.2 k3
      obtain ⟨A, hA⟩ : ∃ A, A = P ++ 46 :: Q ++ 101 :: sg := ⟨_, rfl⟩
      have hTA : T = A ++ (ds ++ []) := by rw [hT, h3, k1, hA]; simp
      have hAl : A.length = P.length + 1 + Q.length + 1 + sg.length := by rw [hA]; simp; omega
      have rA := row_of ds A [] k2 (fun c hc => by cases hc)
      rw [← hTA] at rA
      have hszA : (sB T).size = A.length + ds.length := by rw [sB_size, hTA]; simp
      have b101 : byt (sB T) (P.length + 1 + Q.length) = 101 := by
        have h20 : (P ++ 46 :: Q : List UInt8).length = P.length + 1 + Q.length := by simp; omega
        have := sB_byte (P ++ 46 :: Q) (sg ++ ds) 101
        rw [show (P ++ 46 :: Q) ++ 101 :: (sg ++ ds) = T by rw [hTA, hA]; simp, ← byte_byt, h20] at this
        have h9 : ((101 : UInt8).toNat) = 101 := by decide
        have h10 := byt_lo (sB T) (P.length + 1 + Q.length)
        omega
      have hval : valN 10 (sB T) A.length ds.length = y.natAbs := by
        have := valN_take (A := A) (l := ds) k2 ds.length (Nat.le_refl _)
        rw [List.take_length, k4, show A ++ ds = T by rw [hTA]; simp] at this
        exact this
      have hX : expF (sB T) (P.length + 1 + Q.length) = A.length ∧ expV (sB T) (P.length + 1 + Q.length) = y := by
        rcases k5 with ⟨h5, h6⟩ | ⟨h5, h6⟩
        · have b45 : byt (sB T) (P.length + 1 + Q.length + 1) = 45 := by
            have h20 : (P ++ 46 :: Q ++ [101] : List UInt8).length = P.length + 1 + Q.length + 1 := by simp; omega
            have := sB_byte (P ++ 46 :: Q ++ [101]) ds 45
            rw [show (P ++ 46 :: Q ++ [101]) ++ 45 :: ds = T by rw [hTA, hA, h6]; simp, ← byte_byt, h20] at this
            have h9 : ((45 : UInt8).toNat) = 45 := by decide
            have h10 := byt_lo (sB T) (P.length + 1 + Q.length + 1)
            omega
          have hf : expF (sB T) (P.length + 1 + Q.length) = A.length := by
            unfold expF
            rw [if_pos (.inl b45), hAl, h6]
            rfl
          refine ⟨hf, ?_⟩
          unfold expV
          rw [hf, rA, if_pos b45, Nat.add_sub_cancel_left, hval]
          omega
        · have bd : ∃ c, isD c ∧ byt (sB T) (P.length + 1 + Q.length + 1) = (c.toNat : Int) := by
            obtain ⟨c, ds', hds⟩ : ∃ c ds', ds = c :: ds' := by
              cases ds with
              | nil => exact absurd rfl k3
              | cons c l => exact ⟨c, l, rfl⟩
            have h12 := sB_byte A ds' c
            have h13 : A ++ c :: ds' = T := by rw [hTA, hds]; simp
            have h14 : A.length = P.length + 1 + Q.length + 1 := by rw [hAl, h6]; simp
            rw [h13, ← byte_byt, h14] at h12
            refine ⟨c, k2 c (by rw [hds]; exact .head _), ?_⟩
            have h10 := byt_lo (sB T) (P.length + 1 + Q.length + 1)
            omega
          obtain ⟨c, hc, hbc⟩ := bd
          have hc1 := hc.1
          have hf : expF (sB T) (P.length + 1 + Q.length) = A.length := by
            unfold expF
            rw [if_neg (by omega), hAl, h6]
            rfl
          refine ⟨hf, ?_⟩
          unfold expV
          rw [hf, rA, if_neg (by omega), Nat.add_sub_cancel_left, hval]
          omega
      have hi : expI (sB T) (rowE digB (sB T) (P.length + 1)) := by
        rw [r1]
        refine ⟨.inl b101, ?_⟩
        rw [hX.1, rA]
        omega
      unfold fltR
      rw [if_pos hi, r1, hX.1, hX.2, rA, if_neg (by omega), hF, hszA]
  · intro t ht hts
    rw [Nat.sub_zero]
    have hd := dgN_fltD hfl ht hts
    rw [hv, Nat.sub_zero] at hd
    refine rf_trunc (fun k hk => ?_) (by rw [hd]; exact hN18)
    rw [r1] at hk ht
    rw [byte_ext (by omega) hts, Nat.zero_add]
    rcases Nat.lt_trichotomy k P.length with h3 | h3 | h3
    · exact .inr (hfl.d1 k (Nat.zero_le _) h3)
    · left
      rw [h3]
      exact hfl.dot
    · exact .inr (hfl.d2 k (by omega) (by rw [r1]; exact hk))
  · intro h48
    rcases h.lz with h3 | h3
    · exact h3
    · exfalso
      apply h3
      rw [hP]
      have : c0 = 48 := by
        apply UInt8.toNat_inj.1
        rw [← hb0, h48]
        decide
      rw [this]
      rfl
/-- What writer.Float puts down of a float above nought is read as it. -/
theorem lx_text {b r u U : Nat} {x : Int} (ho : Out b r u U x) (hinf : b < infB) : ∃ p, LxF (sB (fTxt U x)) p b := by
  have U1 : 1 ≤ U := by have := ho.n0; omega
  obtain ⟨P, Q, E, y, z, h1, h2, h3, h4, h5, h6, h7⟩ := fTxt_sh U1 (by have := ho.lo; omega) ho.hi
  have e17 : (10 : Nat) ^ (16 + 1) = 100000000000000000 := by decide
  have hn := nDigits_le 16 U (by rw [e17]; exact ho.lt)
  refine ⟨P.length, lx_of h1 h6 h7 h2 (h5 ho.lt) (by omega) hinf ?_⟩
  have hr := ho.rd
  rw [← h3, rd_scale, Nat.mul_comm] at hr
  exact hr
end Go.Zw
set_option linter.unusedVariables false
set_option linter.unusedSimpArgs false
set_option maxRecDepth 1000000
set_option maxHeartbeats 40000000
/- The lexer's number at a text that shows a float. -/
namespace Go.Proofs
open Go.RowKit Go.Pf Go.Lx Go.Hb Go.Rb Go.Bg Go.Zw
/-- The token of a float, from the text's beginning to its end. -/
def FtSays (n b : Nat) (w : World) (e : Ending) (w' : World) : Prop := e = .returned (.tuple #[tokV 5 ⟨#[]⟩ ⟨#[]⟩ b 0 n false, .int .i64 0, .int .i64 0]) ∧ Below w.heap.size w w'
theorem Tryz.lnum (q : Nat) (s : ByteArray) (p b : Nat) (w : World) (h : LxF s p b) (hst : St w q s 0) (hT : TabP w w.heap.size) :
    Calls Tryz.prog 63 #[.pointer (some ⟨q, 0, none⟩)] w (FtSays s.size b w) := by
  have hb := hst.lt
  have k1 : q < w.heap.size + 1 := by omega
  have hsz := h.sz
  obtain ⟨p1, hp1⟩ : ∃ p1, p1 = p + 1 := ⟨_, rfl⟩
  have ep1 : (p : Int) + 1 = p1 := by omega
  have h46 : byt s p = 46 := by rw [← h.row]; exact h.num.1
  have hd2 : digB (byt s p1).toNat = true := by rw [hp1, ← h.row]; exact h.num.2
  have l2 : p1 < s.size := by
    rcases Nat.lt_or_ge p1 s.size with h | h
    · exact h
    · rw [byt_out s p1 h] at hd2; exact absurd hd2 (by decide)
  have l3 : p < s.size := by omega
  have l1 : (p1 : Int) < s.size := by omega
  have l4 : (p : Int) < s.size := by omega
  have a1 : 1 < s.size := by omega
  have a1i : (1 : Int) < s.size := by omega
  have l0 : 0 < s.size := by omega
  have l0i : (0 : Int) < s.size := by omega
  have t46 : ((s[p].toNat : Int) == 46) = true := beq_of_eq (by rw [byt_in s p l3] at h46; exact h46)
  have HP1 := Lib.hid hp1
  have C45 : Hid (∀ w, Calls Tryz.prog 62 #[.int .u8 s[p1].toNat] w (PredSays true w)) := Lib.hid (fun w => by
    rw [byt_in s p1 l2, Int.toNat_natCast] at hd2
    rw [← hd2]
    exact Tryz.pdigit _ w)
  have CP1 : Hid (∀ w, Calls Tryz.prog 66 #[.string s, .int .i64 0, .func (.func 62) #[] #[]] w (RowEnd p w)) := Lib.hid (fun w => by
    have := Tryz.prowDig s 0 w (by omega) (by omega)
    rw [h.row] at this
    exact this)
  have HFP : Hid (FlP s 0 p (rowE digB s (p + 1))) := Lib.hid (flp_of l0 h.row.symm h.dig h46 (by rw [← hp1]; exact hd2))
  have HW0 : Hid (∀ W1, W1 = w.alloc (.cells #[.int .i64 0, .string ⟨#[]⟩, .string ⟨#[]⟩, .int .u64 0, .int .i64 0, .int .i64 0, .bool false] 28) → FW w q s 0 W1) := Lib.hid (by
    rintro W1 rfl
    have bl : Below w.heap.size w (w.alloc (.cells #[.int .i64 0, .string ⟨#[]⟩, .string ⟨#[]⟩, .int .u64 0, .int .i64 0, .int .i64 0, .bool false] 28)) := (Below.refl _ _).alloc (nR _) _
    exact ⟨Tk7.new w, hst.below bl, bl, hT.next bl, by simp⟩)
  have HH := Lib.hid h
  have HX : byt s 0 = 48 ∧ s[0].toNat = 48 ∧ s[1].toNat = 46 ∨ s[0].toNat ≠ 48 := by
    by_cases h48 : byt s 0 = 48
    · left
      have hp := h.zero h48
      subst hp
      have e0 := byt_in s 0 l0
      have e1 := byt_in s 1 a1
      refine ⟨h48, by omega, by omega⟩
    · right
      have e0 := byt_in s 0 l0
      omega
  have HXX := Lib.hid HX
  clear h hp1 h46 hd2 hst hT HX
  rcases HXX.out with ⟨_, x0, x1⟩ | x0
  · have g48 : ((s[0].toNat : Int) == 48) = true := beq_of_eq (by omega)
    have g39 : ((s[1].toNat : Int) == 39) = false := beq_of_ne (by omega)
    have g98 : ((s[1].toNat : Int) == 98) = false := beq_of_ne (by omega)
    have g111 : ((s[1].toNat : Int) == 111) = false := beq_of_ne (by omega)
    have g120 : ((s[1].toNat : Int) == 120) = false := beq_of_ne (by omega)
    clear x0 x1
    go_enter Tryz.func63, Tryz.ntmps63
    go_wp2
    generalize hW1 : w.alloc _ = W1
    have Q1 : Hid (FW w q s 0 W1) := Lib.hid (HW0.out W1 hW1.symm)
    clear hW1
    have HQN : Hid (∀ n, FW w q s 0 (W1.drewN n)) := Lib.hid (fun n => Q1.out.drewN n)
    have C0 := Q1.out.st.c0
    have C1 := Q1.out.st.c1
    have HC : Hid (∀ n, Calls Tryz.prog 112 #[.pointer (some ⟨q, 0, none⟩), .int .i64 p] (W1.drewN n) (FtSays s.size b (W1.drewN n))) := Lib.hid (fun n => by
      have := Tryz.pfloat q s 0 p _ (by omega) (Lib.hid (HQN.out n).st) (Lib.hid (HQN.out n).tab) HFP (Lib.hid HH.out.tr)
      rw [HH.out.flt] at this
      exact this)
    refine wp_region_still_tail 8 (by kernel_rfl) (by kernel_rfl) ?_
    simp only [List.take_succ_cons, List.take_zero, List.drop_succ_cons, List.drop_zero]
    change wpStill _ _ W1.drew _ _ _
    repeat still_step
    refine wpStill_nil ?_
    change wpList _ _ _ _ _ W1.drew
    go_wp2_with (go_at_call 66; (with_reducible refine (CP1.out _).mono ?_); rintro e' w' ⟨rfl, rfl⟩)
    go_quiet (fail)
    go_wp2
    go_quiet (fail)
    go_wp2_with (first
      | (go_at_call 62; (with_reducible refine (C45.out _).mono ?_); rintro e w' ⟨rfl, rfl⟩)
      | (go_at_call 112; (with_reducible refine (HC.out _).mono ?_)))
    rintro e W3 ⟨rfl, b3⟩
    unfold tokV
    have QE := Lib.hid ((HQN.out _).call hb b3)
    obtain ⟨x00, x01, x02, x03, x04, x05, x06⟩ := QE.out.t0.cs
    obtain ⟨y00, y01, y02, y03, y04, y05, y06⟩ := QE.out.t0.fs
    clear b3
    go_wp2
    refine bodyPost_ret (v := .tuple #[tokV 5 ⟨#[]⟩ ⟨#[]⟩ b 0 s.size false, .int .i64 0, .int .i64 0]) ?_ rfl ⟨rfl, below_tok7 QE.out.bel (nR _) _ _ _ _ _ _ _⟩
    · simp only [results, Tryz.results63]
      go_simp
      try rfl
  · have g48 : ((s[0].toNat : Int) == 48) = false := beq_of_ne (by omega)
    clear x0
    go_enter Tryz.func63, Tryz.ntmps63
    go_wp2
    generalize hW1 : w.alloc _ = W1
    have Q1 : Hid (FW w q s 0 W1) := Lib.hid (HW0.out W1 hW1.symm)
    clear hW1
    have HQN : Hid (∀ n, FW w q s 0 (W1.drewN n)) := Lib.hid (fun n => Q1.out.drewN n)
    have C0 := Q1.out.st.c0
    have C1 := Q1.out.st.c1
    have HC : Hid (∀ n, Calls Tryz.prog 112 #[.pointer (some ⟨q, 0, none⟩), .int .i64 p] (W1.drewN n) (FtSays s.size b (W1.drewN n))) := Lib.hid (fun n => by
      have := Tryz.pfloat q s 0 p _ (by omega) (Lib.hid (HQN.out n).st) (Lib.hid (HQN.out n).tab) HFP (Lib.hid HH.out.tr)
      rw [HH.out.flt] at this
      exact this)
    refine wp_region_still_tail 8 (by kernel_rfl) (by kernel_rfl) ?_
    simp only [List.take_succ_cons, List.take_zero, List.drop_succ_cons, List.drop_zero]
    change wpStill _ _ W1.drew _ _ _
    repeat still_step
    refine wpStill_nil ?_
    change wpList _ _ _ _ _ W1.drew
    go_wp2_with (go_at_call 66; (with_reducible refine (CP1.out _).mono ?_); rintro e' w' ⟨rfl, rfl⟩)
    go_quiet (fail)
    go_wp2_with (first
      | (go_at_call 62; (with_reducible refine (C45.out _).mono ?_); rintro e w' ⟨rfl, rfl⟩)
      | (go_at_call 112; (with_reducible refine (HC.out _).mono ?_)))
    rintro e W3 ⟨rfl, b3⟩
    unfold tokV
    have QE := Lib.hid ((HQN.out _).call hb b3)
    obtain ⟨x00, x01, x02, x03, x04, x05, x06⟩ := QE.out.t0.cs
    obtain ⟨y00, y01, y02, y03, y04, y05, y06⟩ := QE.out.t0.fs
    clear b3
    go_wp2
    refine bodyPost_ret (v := .tuple #[tokV 5 ⟨#[]⟩ ⟨#[]⟩ b 0 s.size false, .int .i64 0, .int .i64 0]) ?_ rfl ⟨rfl, below_tok7 QE.out.bel (nR _) _ _ _ _ _ _ _⟩
    · simp only [results, Tryz.results63]
      go_simp
      try rfl
end Go.Proofs
set_option linter.unusedVariables false
set_option linter.unusedSimpArgs false
set_option maxRecDepth 1000000
set_option maxHeartbeats 40000000
/- The lexer's token at a text that shows a float. -/
namespace Go.Proofs
open Go.RowKit Go.Pf Go.Lx Go.Hb Go.Rb Go.Bg Go.Zw
theorem Tryz.ltoken (b : Nat) (s : ByteArray) (p v : Nat) (w : World) (h : LxF s p v) (hst : Hid (St w b s 0)) (hL : Hid (Laid0 w)) (hT : Hid (TabP w w.heap.size)) :
    Calls Tryz.prog 29 #[.pointer (some ⟨b, 0, none⟩)] w (FtSays s.size v w) := by
  obtain ⟨a, ha⟩ : ∃ a : Nat, a = 0 := ⟨_, rfl⟩
  rw [← ha] at hst
  have hb := hst.out.lt
  have k1 : b < w.heap.size + 1 := by omega
  have k2 : b < w.heap.size + 1 + 1 := by omega
  have hsz := h.sz
  have hlt : a < s.size := by
    rcases Nat.lt_or_ge a s.size with h1 | h1
    · exact h1
    · have hd := h.dig
      rw [byt_out s 0 (by omega)] at hd
      exact absurd hd (by decide)
  have li : (a : Int) < s.size := by omega
  have t1 : ((a : Int) == (s.size : Int)) = false := beq_of_ne (by omega)
  have hdg : digB s[a].toNat = true := by
    have hd := h.dig
    subst ha
    rw [byt_in s 0 hlt, Int.toNat_natCast] at hd
    exact hd
  have C45 : Hid (∀ w, Calls Tryz.prog 62 #[.int .u8 s[a].toNat] w (PredSays true w)) := Lib.hid (fun w => by
    rw [← hdg]
    exact Tryz.pdigit _ w)
  have HTK : Hid (∀ W2, W2 = ((w.alloc (.cells #[.int .i64 0, .string ⟨#[]⟩, .string ⟨#[]⟩, .int .u64 0, .int .i64 0, .int .i64 0, .bool false] 28)).alloc (.cells #[.int .i64 10, .string ⟨#[]⟩, .string ⟨#[]⟩, .int .u64 0, .int .i64 a, .int .i64 a, .bool false] 28)).drew → TW w b s a 10 a W2) := Lib.hid (by
    intro W2 hW2
    have key : ∀ W2, W2 = (w.alloc (.cells #[.int .i64 0, .string ⟨#[]⟩, .string ⟨#[]⟩, .int .u64 0, .int .i64 0, .int .i64 0, .bool false] 28)).alloc (.cells #[.int .i64 10, .string ⟨#[]⟩, .string ⟨#[]⟩, .int .u64 0, .int .i64 a, .int .i64 a, .bool false] 28) → TW w b s a 10 a W2 := by
      intro W2 hW2
      have sz2 : W2.heap.size = w.heap.size + 2 := by subst hW2; simp
      have bl2 : Below w.heap.size w W2 := by subst hW2; exact ((Below.refl _ _).alloc (nR _) _).alloc (by simp) _
      have tk0 : Tk7 W2 w.heap.size := by
        refine ⟨?_⟩
        subst hW2
        rw [Lib.alloc_old _ _ _ (by simp)]
        exact heap_alloc_new w _
      have tk1 : TkA W2 (w.heap.size + 1) (10 : Nat) ⟨#[]⟩ ⟨#[]⟩ 0 a a false := by
        refine ⟨?_⟩
        subst hW2
        have := heap_alloc_new (w.alloc (.cells #[.int .i64 0, .string ⟨#[]⟩, .string ⟨#[]⟩, .int .u64 0, .int .i64 0, .int .i64 0, .bool false] 28)) (.cells #[.int .i64 10, .string ⟨#[]⟩, .string ⟨#[]⟩, .int .u64 0, .int .i64 a, .int .i64 a, .bool false] 28)
        rw [show (w.alloc (.cells #[.int .i64 0, .string ⟨#[]⟩, .string ⟨#[]⟩, .int .u64 0, .int .i64 0, .int .i64 0, .bool false] 28)).heap.size = w.heap.size + 1 by simp] at this
        exact this
      exact ⟨tk0, tk1, hst.out.below bl2, bl2, hL.out.below bl2, hT.out.next bl2, by omega⟩
    subst hW2
    exact (key _ rfl).drew)
  have c0 := hst.out.c0
  have c1 := hst.out.c1
  have HA := Lib.hid ha
  have HH := Lib.hid h
  clear hdg ha h
  go_enter Tryz.func29, Tryz.ntmps29
  go_wp2
  go_region
  generalize hW2 : World.drew _ = W2
  have Q2 : Hid (TW w b s a 10 a W2) := Lib.hid (HTK.out W2 hW2.symm)
  clear hW2 c0 c1
  have c0 := Q2.out.st.c0
  have c1 := Q2.out.st.c1
  go_wp2
  go_quiet (fail)
  generalize hWa : W2.drewN _ = Wa
  have QA : Hid (TW w b s a 10 a Wa) := Lib.hid (by rw [← hWa]; exact Q2.out.drewN _)
  clear hWa c0 c1 Q2 HTK
  have c0 := QA.out.st.c0
  have c1 := QA.out.st.c1
  go_wp2
  go_quiet (fail)
  generalize hW3 : Wa.drewN _ = W
  have Q : Hid (TW w b s a 10 a W) := Lib.hid (by rw [← hW3]; exact QA.out.drewN _)
  clear hW3 c0 c1 QA
  have c0 := Q.out.st.c0
  have c1 := Q.out.st.c1
  have CN : Hid (Calls Tryz.prog 63 #[.pointer (some ⟨b, 0, none⟩)] W (FtSays s.size v W)) := Lib.hid (by
    have hs0 := Q.out.st
    rw [HA.out] at hs0
    exact Tryz.lnum b s p v W HH.out hs0 Q.out.tab)
  go_wp2_with (first
    | (go_at_call 62; (with_reducible refine (C45.out _).mono ?_); rintro e w' ⟨rfl, rfl⟩)
    | (go_at_call 63; (with_reducible refine CN.out.mono ?_)))
  rintro e W3 ⟨rfl, b3⟩
  unfold tokV
  have BE : Hid (Below w.heap.size w W3) := Lib.hid (Q.out.bel.trans (b3.mono (by have := Q.out.sz; omega)))
  have TE : Hid (Tk7 W3 w.heap.size) := Lib.hid (Q.out.t0.below b3)
  clear b3
  obtain ⟨x00, x01, x02, x03, x04, x05, x06⟩ := TE.out.cs
  obtain ⟨y00, y01, y02, y03, y04, y05, y06⟩ := TE.out.fs
  go_wp2
  refine bodyPost_ret (v := .tuple #[tokV 5 ⟨#[]⟩ ⟨#[]⟩ v 0 s.size false, .int .i64 0, .int .i64 0]) ?_ rfl ⟨rfl, below_tok7 BE.out (nR _) _ _ _ _ _ _ _⟩
  simp only [results, Tryz.results29]
  go_simp
  try rfl
end Go.Proofs
set_option linter.unusedVariables false
set_option linter.unusedSimpArgs false
set_option maxRecDepth 1000000
set_option maxHeartbeats 40000000
/- The lexer's layout and its Next at a text that shows a float. -/
namespace Go.Proofs
open Go.RowKit Go.Pf Go.Lx Go.Hb Go.Rb Go.Bg Go.Zw
theorem Tryz.pblank (c:Nat) (w:World):Calls Tryz.prog 59 #[.int .u8 c] w (PredSays (blkB c) w):=by
 obtain⟨p,hp⟩:∃p:Bool,p=decide (9≤c):=⟨_,rfl⟩
 have cp:decide ((9:Int)≤(c:Int))=p:=by rw[hp];exact decide_eq_decide.2 (by omega)
 obtain⟨q,hq⟩:∃p:Bool,p=decide (c≤13):=⟨_,rfl⟩
 have cq:decide ((c:Int)≤13)=q:=by rw[hq];exact decide_eq_decide.2 (by omega)
 obtain⟨r,hr⟩:∃p:Bool,p=decide (c=32):=⟨_,rfl⟩
 have cr:((c:Int)==32)=r:=by rw[hr];exact Bool.eq_iff_iff.2 (by simp;omega)
 unfold blkB
 rw[←hp,←hq,←hr]
 clear hp hq hr
 cases p
 all_goals cases q
 all_goals cases r
 all_goals
  go_enter Tryz.func59,Tryz.ntmps59
  go_wp2
  go_ret
  exact⟨rfl,rfl⟩
def Tryz.lays206_ren:Go.Shelf.Ren:=⟨fun|206=>97|n=>n,fun|9=>9|4=>4|3=>3|n=>n,fun|n=>n⟩
def Tryz.lays99_ren:Go.Shelf.Ren:=⟨fun|99=>52|206=>97|n=>n,fun|9=>9|4=>4|3=>3|n=>n,fun|n=>n⟩
theorem Tryz.lays99:Go.Proofs.Lays.n99 Tryz.prog Tryz.lays99_ren:= {
 mixed:=by kernel_rfl
 f99:=Tryz.func52.trans (congrArg some (by kernel_rfl))
 f206:=Tryz.func97.trans (congrArg some (by kernel_rfl))
 t3:=Tryz.underlying3
 a3:=Tryz.isAgg3
 z3:=Tryz.sizeOf3
 v3:=Tryz.zeroValue3
 t4:=Tryz.underlying4
 a4:=Tryz.isAgg4
 z4:=Tryz.sizeOf4
 v4:=Tryz.zeroValue4
 t9:=Tryz.underlying9
 a9:=Tryz.isAgg9
 z9:=Tryz.sizeOf9
 v9:=Tryz.zeroValue9}
open Go.RowKit Go.Lib in
theorem Tryz.strings_HasPrefix (s p:ByteArray) (w:World):
 Calls Tryz.prog 52 #[.string s,.string p] w fun e w'=>e= .returned (.bool (Lib.hasPrefix s.data.toList p.data.toList))∧w'=w:=Any.strings_HasPrefix Tryz.lays99 s p w
theorem pre_far (l : List UInt8) (x : UInt8) (q : List UInt8) (h : ∀ y, l[0]? = some y → y ≠ x) : Lib.hasPrefix l (x :: q) = false := by
  cases l with
  | nil => rfl
  | cons y l =>
    have h1 := h y rfl
    have h2 : (x == y) = false := by
      rw [beq_eq_false_iff_ne]
      exact fun e => h1 e.symm
    show (x == y && _) = false
    rw [h2]
    rfl
theorem TkA.of_new (w : World) (k : Int) (tx nu : ByteArray) (bits a en : Int) (ly : Bool) : TkA (w.alloc (.cells #[.int .i64 k, .string tx, .string nu, .int .u64 bits, .int .i64 a, .int .i64 en, .bool ly] 28)) w.heap.size k tx nu bits a en ly := ⟨heap_alloc_new w _⟩
/-- A text that begins with a digit has no layout. -/
theorem Tryz.llayout (b : Nat) (s : ByteArray) (p v : Nat) (w : World) (h : LxF s p v) (hst : Hid (St w b s 0)) :
    Calls Tryz.prog 28 #[.pointer (some ⟨b, 0, none⟩)] w fun e w' => e = .returned (.tuple #[.int .i64 0, .int .i64 0]) ∧ (∃ n, w' = w.drewN n) := by
  obtain ⟨a, ha⟩ : ∃ a : Nat, a = 0 := ⟨_, rfl⟩
  rw [← ha] at hst
  have hsz := h.sz
  have hlt : a < s.size := by
    rcases Nat.lt_or_ge a s.size with h1 | h1
    · exact h1
    · have hd := h.dig
      rw [byt_out s 0 (by omega)] at hd
      exact absurd hd (by decide)
  have pi : (a : Int) < s.size := by omega
  have pd : decide ((a : Int) < s.size) = true := decide_eq_true pi
  obtain ⟨u, hu⟩ : ∃ u, u = s.extract a s.size := ⟨_, rfl⟩
  have eu : s.extract a s.size = u := hu.symm
  obtain ⟨c, hc⟩ : ∃ c, c = s[a].toNat := ⟨_, rfl⟩
  have hdg : digB c = true := by
    have hd := h.dig
    subst ha
    rw [byt_in s 0 hlt, Int.toNat_natCast] at hd
    rw [hc]
    exact hd
  have us : u = s := by
    subst ha
    rw [hu]
    exact ByteArray.extract_zero_size
  have u0 : 0 < u.size := by rw [us]; omega
  have u0i : (0 : Int) < u.size := by omega
  have eu0 : u[0].toNat = c := by
    subst us
    subst ha
    exact hc.symm
  have hd2 := hdg
  unfold digB at hd2
  simp only [Bool.and_eq_true, decide_eq_true_eq] at hd2
  have PB : Hid (∀ w, Calls Tryz.prog 59 #[.int .u8 c] w (PredSays false w)) := Lib.hid (fun w => by
    have hb : blkB c = false := by
      unfold blkB
      simp
      omega
    rw [← hb]
    exact Tryz.pblank c w)
  have b37 : ((c : Int) == 37) = false := beq_of_ne (by omega)
  have CP : Hid (∀ w, Calls Tryz.prog 52 #[.string u, .string ⟨#[47, 42]⟩] w fun e w' => e = .returned (.bool false) ∧ w' = w) := Lib.hid (fun w => by
    have h2 := Tryz.strings_HasPrefix u ⟨#[47, 42]⟩ w
    rw [show (⟨#[47, 42]⟩ : ByteArray).data.toList = [47, 42] from rfl, pre_far] at h2
    · exact h2
    · intro y hy e
      have h3 : u[0] = y := by
        have h4 : u.data.toList[0]? = some u[0] := by
          rw [Array.getElem?_toList]
          exact Array.getElem?_eq_getElem u0
        rw [h4] at hy
        exact Option.some.inj hy
      have h5 : u[0].toNat = 47 := by rw [h3, e]; rfl
      omega)
  have HST : Hid (∀ n, St (w.drewN n) b s a) := Lib.hid (fun n => ⟨hst.out.h⟩)
  have c0 := hst.out.c0
  have c1 := hst.out.c1
  clear hu us h hd2 hdg hc ha
  go_enter Tryz.func28, Tryz.ntmps28
  go_wp2
  go_loopw [4,5,6] (fun _ _ _ wr => wr = w) (fun _ _ _ wr => 0)
  case atStart => rfl
  case round =>
    subst hrel
    go_wp2
    go_quiet (fail)
    go_wp2
    go_quiet (fail)
    go_wp2_with (first
      | (go_at_call 59; (with_reducible refine (PB.out _).mono ?_); rintro e w' ⟨rfl, rfl⟩)
      | (go_at_call 52; (with_reducible refine (CP.out _).mono ?_); rintro e w' ⟨rfl, rfl⟩))
    go_ret2
    exact ⟨rfl, _, rfl⟩
/-- The first token of a float's text is the float, and the token is the whole text. -/
theorem Tryz.lnext (s : ByteArray) (p v : Nat) (w : World) (h : LxF s p v) (hL : Laid0 w) (hT : TabP w w.heap.size) :
    Calls Tryz.prog 7 #[.string s, .int .i64 0] w fun e w' => e = .returned (.tuple #[tokV 5 ⟨#[]⟩ ⟨#[]⟩ v 0 s.size false, .int .i64 0]) ∧ Below w.heap.size w w' := by
  have L0 := Lib.hid hL
  have T0 := Lib.hid hT
  have q2 : decide ((s.size : Int) < 0) = false := decide_eq_false (by omega)
  have q3 : ¬ (s.size : Int) < 0 := by omega
  have HW : Hid (∀ W1, W1 = (w.alloc (.cells #[.int .i64 0, .string ⟨#[]⟩, .string ⟨#[]⟩, .int .u64 0, .int .i64 0, .int .i64 0, .bool false] 28)).alloc (.cells #[.string s, .int .i64 0] 70) → Tk7 W1 w.heap.size ∧ St W1 (w.heap.size + 1) s 0 ∧ Below w.heap.size w W1 ∧ W1.heap.size = w.heap.size + 2) := Lib.hid (by
    intro W1 hW
    refine ⟨⟨?_⟩, ⟨?_⟩, ?_, ?_⟩
    · subst hW
      rw [Lib.alloc_old _ _ _ (by simp)]
      exact heap_alloc_new w _
    · subst hW
      have := heap_alloc_new (w.alloc (.cells #[.int .i64 0, .string ⟨#[]⟩, .string ⟨#[]⟩, .int .u64 0, .int .i64 0, .int .i64 0, .bool false] 28)) (.cells #[.string s, .int .i64 0] 70)
      rw [show (w.alloc (.cells #[.int .i64 0, .string ⟨#[]⟩, .string ⟨#[]⟩, .int .u64 0, .int .i64 0, .int .i64 0, .bool false] 28)).heap.size = w.heap.size + 1 by simp] at this
      exact this
    · subst hW; exact ((Below.refl _ _).alloc (nR _) _).alloc (by simp) _
    · subst hW; simp)
  have HH := Lib.hid h
  clear h hL hT
  go_enter Tryz.func7, Tryz.ntmps7
  go_wp2_with fail
  generalize hW1 : (w.alloc _).alloc _ = W1
  obtain ⟨tk, st, bl, sz⟩ := HW.out W1 hW1.symm
  have CL := Lib.hid (Tryz.llayout (w.heap.size + 1) s p v W1 HH.out (Lib.hid st))
  have TK := Lib.hid tk
  have BL := Lib.hid bl
  have SZ := Lib.hid sz
  have STT := Lib.hid st
  clear hW1 tk st bl sz HW
  go_wp2_with (go_at_call 28; (with_reducible refine CL.out.mono ?_))
  rintro e W2 ⟨rfl, n2, rfl⟩
  generalize hW2 : W1.drewN n2 = W2
  have TK2 : Hid (Tk7 W2 w.heap.size) := Lib.hid (by rw [← hW2]; exact ⟨TK.out.h⟩)
  have ST2 : Hid (St W2 (w.heap.size + 1) s 0) := Lib.hid (by rw [← hW2]; exact ⟨STT.out.h⟩)
  have BL2 : Hid (Below w.heap.size w W2) := Lib.hid (by rw [← hW2]; exact below_dn BL.out n2)
  have lt2 : w.heap.size + 1 < W2.heap.size := by rw [← hW2]; have := SZ.out; show w.heap.size + 1 < W1.heap.size; omega
  clear hW2 CL
  have CT : Hid (Calls Tryz.prog 29 #[.pointer (some ⟨w.heap.size + 1, 0, none⟩)] W2 (FtSays s.size v W2)) := Lib.hid (Tryz.ltoken (w.heap.size + 1) s p v W2 HH.out ST2 (Lib.hid (L0.out.below BL2.out)) (Lib.hid (T0.out.next BL2.out)))
  go_upto_region 8 with (go_at_call 29; (with_reducible refine CT.out.mono ?_); rintro e W3 ⟨rfl, b3⟩; unfold tokV; have B3 := Lib.hid b3; clear b3)
  generalize hW4 : W3.alloc _ = W4
  have T1 : Hid (TkA W4 W3.heap.size 5 ⟨#[]⟩ ⟨#[]⟩ v 0 s.size false) := Lib.hid (by rw [← hW4]; exact TkA.of_new W3 _ _ _ _ _ _ _)
  have b4 : Below W3.heap.size W3 W4 := by rw [← hW4]; exact (Below.refl _ _).alloc (nR _) _
  have TK4 : Hid (Tk7 W4 w.heap.size) := Lib.hid ((TK2.out.below B3.out).below b4)
  have BL4 : Hid (Below w.heap.size w W4) := Lib.hid ((BL2.out.trans (B3.out.mono BL2.out.size)).trans (b4.mono (by have := B3.out.size; omega)))
  have lt3 : w.heap.size < W3.heap.size := by have := B3.out.size; omega
  clear hW4 b4
  obtain ⟨x00, x01, x02, x03, x04, x05, x06⟩ := TK4.out.cs
  obtain ⟨y00, y01, y02, y03, y04, y05, y06⟩ := TK4.out.fs
  obtain ⟨x10, x11, x12, x13, x14, x15, x16⟩ := T1.out.cs
  obtain ⟨y10, y11, y12, y13, y14, y15, y16⟩ := T1.out.fs
  go_wp2_with fail
  refine bodyPost_ret (v := .tuple #[tokV 5 ⟨#[]⟩ ⟨#[]⟩ v 0 s.size false, .int .i64 0]) ?_ rfl ⟨rfl, below_tok7 (BL4.out.setCell (p := ⟨W3.heap.size, 6, none⟩) (by show w.heap.size ≤ W3.heap.size; omega) _) (nR _) _ _ _ _ _ _ _⟩
  simp only [results, Tryz.results7]
  go_simp
  try rfl
end Go.Proofs
