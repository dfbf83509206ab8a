import Derived.Test.YteegpmimbbgdlaaGreatDoorTbm
/- Where a token begins and ends. -/
namespace Go.Lx
open Go.Hb Go.Rb Go.Bg Go.Pf Go.Proofs
/-- A token that begins at a: it goes forward, within the text; the end stands at the end alone. -/
def TR.rng (s : ByteArray) (a : Nat) : TR → Prop
  | .ok k _ _ _ p en => p = a ∧ en ≤ s.size ∧ (k = 10 → en = a ∧ a = s.size) ∧ (k ≠ 10 → a < en)
  | .err _ _ => True
theorem rng_ok {s : ByteArray} {k a en : Nat} {tx nu : ByteArray} {bits : Nat} (hk : k ≠ 10) (h1 : a < en) (h2 : en ≤ s.size) : TR.rng s a (.ok k tx nu bits a en) := ⟨rfl, h2, fun h => absurd h hk, fun _ => h1⟩
theorem rng_err (s : ByteArray) (a p n : Nat) : TR.rng s a (.err p n) := True.intro
theorem byt_lt {s : ByteArray} {p : Nat} {c : Int} (h : byt s p = c) (hc : c ≠ 0) : p < s.size := by
  rcases Nat.lt_or_ge p s.size with h1 | h1
  · exact h1
  · rw [byt_out s p h1] at h; omega
theorem chD_lt {s : ByteArray} {p v n : Nat} (h : chD s p = some (v, n)) : 1 ≤ n ∧ p + n ≤ s.size := by
  rcases chD_cases s p with ⟨v', n', h1, h2⟩ | ⟨_, h2⟩
  · rw [h2] at h
    simp only [Option.some.injEq, Prod.mk.injEq] at h
    have h3 := h1.size
    have h4 := h1.last
    omega
  · rw [h2] at h; cases h
theorem rng_ite {s : ByteArray} {a : Nat} {A B : TR} (c : Prop) [Decidable c] (hA : c → TR.rng s a A) (hB : ¬ c → TR.rng s a B) : TR.rng s a (if c then A else B) := by
  split
  · exact hA (by assumption)
  · exact hB (by assumption)
theorem chrR_rng {s : ByteArray} {a : Nat} {R : TR} (h : chrR s a = some R) : TR.rng s a R := by
  unfold chrR at h
  split at h
  · cases h
  · rename_i h0
    split at h
    · split at h
      · rename_i h3
        have h4 := byt_lt h3 (by decide)
        cases h
        exact rng_ok (by decide) (by omega) (by omega)
      · cases h
    · split at h
      · split at h
        · cases h; exact rng_err _ _ _ _
        · rename_i x t he
          have h4 := escV_gt he
          cases h
          exact rng_ok (by decide) (by omega) (by omega)
      · split at h
        · cases h; exact rng_err _ _ _ _
        · rename_i v n he
          have h4 := chD_lt he
          cases h
          exact rng_ok (by decide) (by omega) (by omega)
theorem intR_rng {s : ByteArray} {a f t r : Nat} (h1 : a < t) (h2 : t ≤ s.size) : TR.rng s a (intR s a f t r) := by
  have key : ∀ (A B : TR), TR.rng s a A → TR.rng s a B → ∀ (c : Prop) [Decidable c], TR.rng s a (if c then A else B) := fun A B hA hB c _ => by
    split
    · exact hA
    · exact hB
  unfold intR
  refine key _ _ ?_ ?_ _
  · exact rng_ok (by decide) h1 h2
  · exact rng_err _ _ _ _
theorem fltF_rng {s : ByteArray} {a p t : Nat} {x : Int} (h1 : a < t) (h2 : t ≤ s.size) : TR.rng s a (fltF s a p x t) := by
  unfold fltF
  split
  · exact rng_err _ _ _ _
  · split
    · exact rng_ok (by decide) h1 h2
    · exact rng_err _ _ _ _
theorem fltR_rng {s : ByteArray} {a p : Nat} (h1 : a ≤ p) (h2 : p < s.size) : TR.rng s a (fltR s a p) := by
  have h3 := rowE_ge digB s (p + 1)
  have h4 := rowE_le digB s (p + 1) h2
  unfold fltR
  split
  · rename_i hI
    split
    · exact rng_err _ _ _ _
    · have h5 := rowE_ge digB s (expF s (rowE digB s (p + 1)))
      have h6 : rowE digB s (p + 1) < expF s (rowE digB s (p + 1)) := by unfold expF; split <;> omega
      have h8 := hI.2
      refine fltF_rng (by omega) ?_
      rcases Nat.lt_or_ge s.size (expF s (rowE digB s (p + 1))) with h7 | h7
      · have h9 := rowE_end (p := digB) (s := s) (a := expF s (rowE digB s (p + 1))) (by omega)
        omega
      · exact rowE_le digB s _ h7
  · exact fltF_rng (by omega) h4
theorem row_gt {p : Nat → Bool} {s : ByteArray} {a : Nat} (h : p (byt s a).toNat = true) (h0 : p 0 = false) : a < rowE p s a ∧ rowE p s a ≤ s.size := by
  have h1 : a < s.size := by
    rcases Nat.lt_or_ge a s.size with h1 | h1
    · exact h1
    · rw [byt_out s a h1] at h
      have : p 0 = true := h
      rw [h0] at this; cases this
  refine ⟨?_, rowE_le p s a (by omega)⟩
  rw [byt_nat h1] at h
  rw [rowE_step h1 h]
  exact rowE_ge p s (a + 1)
theorem numR_rng {s : ByteArray} {a : Nat} (hd : digB (byt s a).toNat = true) : TR.rng s a (numR s a) := by
  have h1 := row_gt hd rfl
  have hrad : ∀ {p : Nat → Bool} {r : Nat}, a + 2 < rowE p s (a + 2) → TR.rng s a (intR s a (a + 2) (rowE p s (a + 2)) r) := fun {p r} h => by
    have h8 : rowE p s (a + 2) ≤ s.size := by
      rcases Nat.lt_or_ge s.size (a + 2) with h7 | h7
      · rw [rowE_end (by omega)] at h; omega
      · exact rowE_le p s _ h7
    have h9 : a < rowE p s (a + 2) := by omega
    with_reducible exact intR_rng h9 h8
  have hdec : TR.rng s a (if numD s a then fltR s a (rowE digB s a) else intR s a a (rowE digB s a) 10) := by
    refine rng_ite _ (fun h5 => ?_) (fun _ => ?_)
    · have h6 := byt_lt h5.1 (by decide)
      have h7 := Nat.le_of_lt h1.1
      with_reducible exact fltR_rng h7 h6
    · with_reducible exact intR_rng h1.1 h1.2
  rcases hc : chrR s a with _ | R
  · by_cases h2 : byt s a = 48 ∧ (byt s (a + 1) = 98 ∨ byt s (a + 1) = 111 ∨ byt s (a + 1) = 120)
    · obtain ⟨h0, h3 | h3 | h3⟩ := h2
      · rw [num_rad h0 (c := 98) (.inl ⟨rfl, rfl, rfl⟩) h3]
        with_reducible exact rng_ite _ (fun h => hrad h) (fun _ => hdec)
      · rw [num_rad h0 (c := 111) (.inr (.inl ⟨rfl, rfl, rfl⟩)) h3]
        with_reducible exact rng_ite _ (fun h => hrad h) (fun _ => hdec)
      · rw [num_rad h0 (c := 120) (.inr (.inr ⟨rfl, rfl, rfl⟩)) h3]
        with_reducible exact rng_ite _ (fun h => hrad h) (fun _ => hdec)
    · rw [num_dec hc h2]
      exact hdec
  · rw [num_chr hc]
    exact chrR_rng hc
theorem quoK_ne (q : Nat) : quoK q ≠ 10 := by unfold quoK; split <;> (try split) <;> decide
theorem quoS_rng {s : ByteArray} {a q p : Nat} {out : List UInt8} {R : TR} (hp : a ≤ p) (h : quoS s a q p out = .inl R) : TR.rng s a R := by
  unfold quoS at h
  split at h
  · cases h; exact rng_err _ _ _ _
  · split at h
    · cases h; exact rng_err _ _ _ _
    · split at h
      · cases h; exact rng_err _ _ _ _
      · split at h
        · split at h
          · cases h
          · split at h
            · cases h; exact rng_err _ _ _ _
            · cases h; exact rng_ok (quoK_ne q) (by omega) (by omega)
        · split at h
          · split at h
            · cases h
            · split at h
              · cases h; exact rng_err _ _ _ _
              · cases h
          · cases h
theorem quoN_rng (s : ByteArray) (a q : Nat) : ∀ (f p : Nat) (out : List UInt8), a ≤ p → TR.rng s a (quoN s a q f p out)
  | 0, _, _, _ => rng_err _ _ _ _
  | f + 1, p, out, hp => by
    unfold quoN
    cases h : quoS s a q p out with
    | inl R => exact quoS_rng hp h
    | inr x =>
      obtain ⟨p', out'⟩ := x
      have := quoS_inr h
      exact quoN_rng s a q f p' out' (by omega)
theorem lngR_rng {s : ByteArray} {k a t : Nat} (hk : k ≠ 10) (h1 : a < t) (h2 : t ≤ s.size) : TR.rng s a (lngR s k a t) := by
  unfold lngR
  split
  · exact rng_err _ _ _ _
  · exact rng_ok hk h1 h2
theorem tokR_rng {s : ByteArray} {a : Nat} (ha : a ≤ s.size) : TR.rng s a (tokR s a) := by
  unfold tokR
  split
  · rename_i h; exact ⟨rfl, ha, fun _ => ⟨rfl, h⟩, fun h2 => absurd rfl h2⟩
  · rename_i hne
    split
    · rename_i h; exact numR_rng h
    · split
      · exact quoN_rng _ _ _ _ _ _ (by omega)
      · split
        · rename_i h
          have := row_gt (p := letB) (sml_let h) rfl
          exact lngR_rng (by decide) this.1 this.2
        · split
          · rename_i h
            have := row_gt (p := letB) (grt_let h) rfl
            exact lngR_rng (by decide) this.1 this.2
          · split
            · rename_i h
              have := row_gt (p := sgnB) h rfl
              split
              · exact ⟨rfl, by omega, fun h => absurd h (by decide), fun _ => by omega⟩
              · exact lngR_rng (by decide) this.1 this.2
            · split
              · exact lngR_rng (by decide) (by omega) (by omega)
              · split
                · exact lngR_rng (by decide) (by omega) (by omega)
                · exact rng_err _ _ _ _
end Go.Lx
