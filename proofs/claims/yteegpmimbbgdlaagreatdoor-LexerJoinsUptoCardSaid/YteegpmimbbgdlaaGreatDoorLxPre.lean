import Derived.Test.YteegpmimbbgdlaaGreatDoorLxShg
import Derived.Test.YteegpmimbbgdlaaGreatDoorLxAll
/- A text before a line's end and another text: its tokens are the same. -/
namespace Go.Lx
open Go.Hb Go.Rb Go.Bg Go.Pf Go.Proofs
/-- J begins with a, and a line's end behind it. -/
structure Pre (a J : ByteArray) : Prop where
  size : a.size < J.size
  bt : ∀ p, p < a.size → byt J p = byt a p
  nl : byt J a.size = 10
  ext : ∀ f t, t ≤ a.size → J.extract f t = a.extract f t
variable {a J : ByteArray}
theorem Pre.at (h : Pre a J) {p : Nat} (hp : p ≤ a.size) : byt J p = byt a p ∨ (p = a.size ∧ byt J p = 10 ∧ byt a p = 0) := by
  rcases Nat.lt_or_ge p a.size with h1 | h1
  · exact .inl (h.bt p h1)
  · have e : p = a.size := by omega
    subst e
    exact .inr ⟨rfl, h.nl, byt_out a _ (Nat.le_refl _)⟩
theorem Pre.eq (h : Pre a J) {p : Nat} (hp : p ≤ a.size) {c : Int} (h0 : c ≠ 0) (h1 : c ≠ 10) : (byt J p = c) = (byt a p = c) := by
  rw [eq_iff_iff]
  rcases h.at hp with h2 | ⟨_, h2, h3⟩ <;> omega
theorem Pre.prd (h : Pre a J) {q : Nat → Bool} (h0 : q 0 = false) (h1 : q 10 = false) {p : Nat} (hp : p ≤ a.size) : q (byt J p).toNat = q (byt a p).toNat := by
  rcases h.at hp with h2 | ⟨_, h2, h3⟩
  · rw [h2]
  · rw [h2, h3]; exact h1.trans h0.symm
theorem lt_of_byt {s : ByteArray} {p : Nat} {c : Int} (h : byt s p = c) (hc : c ≠ 0) : p < s.size := by
  rcases Nat.lt_or_ge p s.size with h1 | h1
  · exact h1
  · rw [byt_out s p h1] at h; exact absurd h.symm hc
theorem rowE_pre (h : Pre a J) {q : Nat → Bool} (h1 : q 10 = false) : ∀ k f : Nat, a.size - f = k → f ≤ a.size → rowE q J f = rowE q a f := by
  intro k
  induction k with
  | zero =>
    intro f h2 h3
    have e : f = a.size := by omega
    subst e
    have hs := h.size
    rw [rowE_end (Nat.le_refl _)]
    refine rowE_stop hs ?_
    have h4 := h.nl
    rw [byt_in J _ hs] at h4
    rw [show J[a.size].toNat = 10 by omega]
    exact h1
  | succ k ih =>
    intro f h2 h3
    have hs := h.size
    have hf : f < a.size := by omega
    have hj : f < J.size := by omega
    have h4 := h.bt f hf
    rw [byt_in J _ hj, byt_in a _ hf] at h4
    have h5 : J[f].toNat = a[f].toNat := by omega
    cases hq : q a[f].toNat with
    | true => rw [rowE_step hf hq, rowE_step hj (by rw [h5]; exact hq)]; exact ih (f + 1) (by omega) (by omega)
    | false => rw [rowE_stop hf hq, rowE_stop hj (by rw [h5]; exact hq)]
theorem Pre.row (h : Pre a J) {q : Nat → Bool} (h1 : q 10 = false) {f : Nat} (hf : f ≤ a.size) : rowE q J f = rowE q a f := rowE_pre h h1 _ f rfl hf
theorem valN_pre (h : Pre a J) (r f : Nat) : ∀ k, f + k ≤ a.size → valN r J f k = valN r a f k
  | 0, _ => rfl
  | k + 1, hk => by rw [valN, valN, valN_pre h r f k (by omega), h.bt (f + k) (by omega)]
theorem escD_pre (h : Pre a J) {r : Nat} {p : Nat → Bool} (h0 : p 10 = false) {f : Nat} (hf : f ≤ a.size) {y : Nat × Nat} (hy : escD r p a f = some y) : escD r p J f = some y := by
  unfold escD at hy ⊢
  rw [h.row h0 hf]
  have h1 := rowE_le p a f hf
  have h2 := rowE_ge p a f
  by_cases hc : rowE p a f = f ∨ byt a (rowE p a f) ≠ 92
  · rw [if_pos hc] at hy; cases hy
  · rw [if_neg hc] at hy
    have h4 : ¬ (rowE p a f = f ∨ byt J (rowE p a f) ≠ 92) := by
      intro h5
      refine hc (h5.imp id (fun h6 h7 => h6 ?_))
      rw [h.eq h1 (by decide) (by decide)]
      exact h7
    rw [if_neg h4, valN_pre h r f _ (by omega)]
    exact hy
theorem escV_pre (h : Pre a J) {p : Nat} (hp : p < a.size) {y : Nat × Nat} (hy : escV a p = some y) : escV J p = some y := by
  have hs := h.size
  unfold escV at hy ⊢
  rcases Nat.lt_or_ge (p + 1) a.size with h1 | h1
  · rw [if_pos h1] at hy
    rw [if_pos (show p + 1 < J.size by omega), h.bt _ h1]
    cases he : escL (byt a (p + 1)).toNat with
    | some v => rw [he] at hy; exact hy
    | none =>
      rw [he] at hy
      simp only at hy ⊢
      split
      · rename_i h2; rw [if_pos h2] at hy; exact escD_pre h rfl (by omega) hy
      · rename_i h2; rw [if_neg h2] at hy; exact escD_pre h rfl (by omega) hy
  · rw [if_neg (show ¬ p + 1 < a.size by omega)] at hy
    simp only at hy
    rw [byt_out a (p + 1) (by omega), if_neg (by decide)] at hy
    unfold escD at hy
    rw [if_pos (.inl (rowE_end h1))] at hy
    cases hy
theorem chv_pre (h : Pre a J) {p : Nat} {v m : Int} (hc : ChV a p v m) : ChV J p v m := by
  have hs := h.size
  have hb : ∀ q, 0 < byt a q → byt J q = byt a q := fun q hq => by
    rcases Nat.lt_or_ge q a.size with h1 | h1
    · exact h.bt q h1
    · rw [byt_out a q h1] at hq; omega
  have b0 := hb p
  have b1 := hb (p + 1)
  have b2 := hb (p + 2)
  have b3 := hb (p + 3)
  unfold ChV cont at hc ⊢
  rcases hc with ⟨h1, h2, h3, h4⟩ | hc | hc | hc
  · have := h.bt p h2; exact .inl ⟨h1, by omega, by omega, by omega⟩
  · have e0 := b0 (by omega)
    have e1 := b1 (by omega)
    rw [e0, e1]; exact .inr (.inl hc)
  · have e0 := b0 (by omega)
    have e1 := b1 (by omega)
    have e2 := b2 (by omega)
    rw [e0, e1, e2]; exact .inr (.inr (.inl hc))
  · have e0 := b0 (by omega)
    have e1 := b1 (by omega)
    have e2 := b2 (by omega)
    have e3 := b3 (by omega)
    rw [e0, e1, e2, e3]; exact .inr (.inr (.inr hc))
theorem chD_pre (h : Pre a J) {p v m : Nat} (hc : chD a p = some (v, m)) : chD J p = some (v, m) := by
  rcases chD_cases a p with ⟨v', m', h1, h2⟩ | ⟨_, h2⟩
  · rw [h2] at hc
    cases hc
    exact chD_some (chv_pre h h1)
  · rw [h2] at hc; cases hc
/-- A token that is none of the errors. -/
def TR.fine : TR → Prop
  | .ok .. => True
  | .err .. => False
theorem ite_of {α : Type _} {c d : Prop} {i1 : Decidable c} {i2 : Decidable d} (h : c ↔ d) {A B A' B' : α} (hA : d → A = A') (hB : ¬ d → B = B') : (@ite α c i1 A B) = (@ite α d i2 A' B') := by
  by_cases hd : d
  · rw [if_pos hd, if_pos (h.2 hd)]; exact hA hd
  · rw [if_neg hd, if_neg (fun hc => hd (h.1 hc))]; exact hB hd
theorem chrR_pre (h : Pre a J) {p : Nat} (hp : p < a.size) (hf : ∀ R, chrR a p = some R → R.fine) : chrR J p = chrR a p := by
  have hs := h.size
  unfold chrR at hf ⊢
  rw [h.bt p hp]
  by_cases h0 : byt a p ≠ 48
  · rw [if_pos (.inl h0), if_pos (.inl h0)]
  by_cases h1 : byt a (p + 1) ≠ 39
  · have h1J : byt J (p + 1) ≠ 39 := by
      have e := h.eq (show p + 1 ≤ a.size by omega) (c := 39) (by decide) (by decide)
      exact fun k => h1 (e ▸ k)
    rw [if_pos (.inr (.inl h1J)), if_pos (.inr (.inl h1))]
  have l1 : p + 1 < a.size := lt_of_byt (Classical.not_not.1 h1) (by decide)
  rcases Nat.lt_or_ge (p + 2) a.size with h2 | h2
  · have e2 := h.bt (p + 2) h2
    rw [h.bt (p + 1) l1, e2]
    by_cases h3 : byt a (p + 2) = 10
    · rw [if_pos (.inr (.inr (.inr h3))), if_pos (.inr (.inr (.inr h3)))]
    have na : ¬ (byt a p ≠ 48 ∨ byt a (p + 1) ≠ 39 ∨ a.size ≤ p + 2 ∨ byt a (p + 2) = 10) := by omega
    have nJ : ¬ (byt a p ≠ 48 ∨ byt a (p + 1) ≠ 39 ∨ J.size ≤ p + 2 ∨ byt a (p + 2) = 10) := by omega
    rw [if_neg na] at hf
    rw [if_neg nJ, if_neg na]
    by_cases h4 : byt a (p + 2) = 39
    · rw [if_pos h4, if_pos h4]
      exact ite_of (iff_of_eq (h.eq (show p + 3 ≤ a.size by omega) (by decide) (by decide))) (fun _ => rfl) (fun _ => rfl)
    rw [if_neg h4] at hf
    rw [if_neg h4, if_neg h4]
    by_cases h5 : byt a (p + 2) = 92
    · rw [if_pos h5] at hf
      rw [if_pos h5, if_pos h5]
      cases he : escV a (p + 2) with
      | none => rw [he] at hf; exact absurd (hf _ rfl) (fun k => k)
      | some y => rw [escV_pre h h2 he]
    · rw [if_neg h5] at hf
      rw [if_neg h5, if_neg h5]
      cases he : chD a (p + 2) with
      | none => rw [he] at hf; exact absurd (hf _ rfl) (fun k => k)
      | some y => rw [chD_pre h he]
  · have e : p + 2 = a.size := by omega
    have e2 : byt J (p + 2) = 10 := by rw [e]; exact h.nl
    have cJ : byt a p ≠ 48 ∨ byt J (p + 1) ≠ 39 ∨ J.size ≤ p + 2 ∨ byt J (p + 2) = 10 := .inr (.inr (.inr e2))
    rw [if_pos cJ, if_pos (.inr (.inr (.inl h2)))]
theorem intR_pre (h : Pre a J) {f t r p : Nat} (ht : t ≤ a.size) : intR J p f t r = intR a p f t r := by
  unfold intR
  rw [h.ext f t ht]
theorem fltF_pre (h : Pre a J) {p q t : Nat} {x : Int} (hq : q < a.size) : fltF J p q x t = fltF a p q x t := by
  have h1 := rowE_le digB a (q + 1) (by omega)
  have e : fltD J p q = fltD a p q := by
    unfold fltD
    rw [h.row rfl (show q + 1 ≤ a.size by omega), h.ext _ _ (by omega), h.ext _ _ h1]
  unfold fltF
  rw [e, h.row rfl (show q + 1 ≤ a.size by omega)]
theorem expF_pre (h : Pre a J) {e : Nat} (he : e < a.size) : expF J e = expF a e := by
  have hc : ∀ c : Int, c ≠ 0 → c ≠ 10 → ((byt J (e + 1) = c) = (byt a (e + 1) = c)) := fun c => h.eq (show e + 1 ≤ a.size by omega)
  unfold expF
  exact ite_of (by rw [hc 45 (by decide) (by decide), hc 43 (by decide) (by decide)]) (fun _ => rfl) (fun _ => rfl)
theorem expF_le {e : Nat} (he : e < a.size) : expF a e ≤ a.size := by
  unfold expF
  split
  · rename_i h1
    rcases h1 with h1 | h1
    · have := lt_of_byt h1 (by decide); omega
    · have := lt_of_byt h1 (by decide); omega
  · omega
theorem expI_pre (h : Pre a J) {e : Nat} (he : e ≤ a.size) : expI J e = expI a e := by
  unfold expI
  rw [h.eq he (by decide) (by decide), h.eq he (by decide) (by decide)]
  rcases Nat.lt_or_ge e a.size with h1 | h1
  · rw [expF_pre h h1, h.row rfl (expF_le h1)]
  · have h2 : byt a e = 0 := byt_out a e h1
    rw [eq_iff_iff]
    exact ⟨fun h3 => by have := h3.1; omega, fun h3 => by have := h3.1; omega⟩
theorem expV_pre (h : Pre a J) {e : Nat} (he : e < a.size) : expV J e = expV a e := by
  have h1 := expF_le he
  have h2 := rowE_le digB a _ h1
  have h3 := rowE_ge digB a (expF a e)
  unfold expV
  rw [expF_pre h he, h.row rfl h1, valN_pre h _ _ _ (by omega)]
  congr 1
  exact ite_of (iff_of_eq (h.eq (show e + 1 ≤ a.size by omega) (by decide) (by decide))) (fun _ => rfl) (fun _ => rfl)
theorem fltR_pre (h : Pre a J) {p q : Nat} (hq : q < a.size) : fltR J p q = fltR a p q := by
  have h1 : q + 1 ≤ a.size := by omega
  have h2 := rowE_le digB a (q + 1) h1
  unfold fltR
  rw [h.row rfl h1]
  by_cases hI : expI a (rowE digB a (q + 1))
  · have h3 : rowE digB a (q + 1) < a.size := by
      rcases hI.1 with h4 | h4
      · exact lt_of_byt h4 (by decide)
      · exact lt_of_byt h4 (by decide)
    rw [if_pos hI, if_pos (by rw [expI_pre h h2]; exact hI), expF_pre h h3, h.row rfl (expF_le h3), expV_pre h h3, fltF_pre h hq]
  · rw [if_neg hI, if_neg (by rw [expI_pre h h2]; exact hI), fltF_pre h hq]
theorem numD_pre (h : Pre a J) {p : Nat} (hp : p ≤ a.size) : numD J p = numD a p := by
  have h1 := rowE_le digB a p hp
  unfold numD
  rw [h.row rfl hp, h.eq h1 (by decide) (by decide), eq_iff_iff]
  constructor
  · rintro ⟨h2, h3⟩
    have h4 := lt_of_byt h2 (by decide)
    exact ⟨h2, by rw [← h.prd (q := digB) rfl rfl (show rowE digB a p + 1 ≤ a.size by omega)]; exact h3⟩
  · rintro ⟨h2, h3⟩
    have h4 := lt_of_byt h2 (by decide)
    exact ⟨h2, by rw [h.prd (q := digB) rfl rfl (show rowE digB a p + 1 ≤ a.size by omega)]; exact h3⟩
theorem numR_pre (h : Pre a J) {p : Nat} (hp : p < a.size) (hf : (numR a p).fine) : numR J p = numR a p := by
  have hchr : chrR J p = chrR a p := chrR_pre h hp (fun R hR => by rw [num_chr hR] at hf; exact hf)
  have hdec : (if numD J p then fltR J p (rowE digB J p) else intR J p p (rowE digB J p) 10) = (if numD a p then fltR a p (rowE digB a p) else intR a p p (rowE digB a p) 10) := by
    rw [h.row rfl (show p ≤ a.size by omega)]
    refine ite_of (by rw [numD_pre h (by omega)]) (fun hd => ?_) (fun _ => intR_pre h (rowE_le _ _ _ (by omega)))
    exact fltR_pre h (lt_of_byt hd.1 (by decide))
  have b0 := h.bt p hp
  have hrad : ∀ {c r : Nat} {q : Nat → Bool}, byt a p = 48 → ((c = 98 ∧ r = 2 ∧ q = binB) ∨ (c = 111 ∧ r = 8 ∧ q = octB) ∨ (c = 120 ∧ r = 16 ∧ q = hexB)) → byt a (p + 1) = c → numR J p = numR a p := fun {c r q} h0 hc h1 => by
    have l1 : p + 1 < a.size := lt_of_byt h1 (by omega)
    have hq : q 10 = false := by rcases hc with ⟨_, _, rfl⟩ | ⟨_, _, rfl⟩ | ⟨_, _, rfl⟩ <;> rfl
    rw [num_rad (by rw [b0]; exact h0) hc (by rw [h.bt _ l1]; exact h1), num_rad h0 hc h1, hdec, h.row hq (show p + 2 ≤ a.size by omega), intR_pre h (rowE_le _ _ _ (by omega))]
  rcases hc : chrR a p with _ | R
  · rw [hc] at hchr
    by_cases h2 : byt a p = 48 ∧ (byt a (p + 1) = 98 ∨ byt a (p + 1) = 111 ∨ byt a (p + 1) = 120)
    · obtain ⟨h0, h3 | h3 | h3⟩ := h2
      · exact hrad h0 (c := 98) (.inl ⟨rfl, rfl, rfl⟩) h3
      · exact hrad h0 (c := 111) (.inr (.inl ⟨rfl, rfl, rfl⟩)) h3
      · exact hrad h0 (c := 120) (.inr (.inr ⟨rfl, rfl, rfl⟩)) h3
    · rw [num_dec hchr (by rw [b0, h.eq (show p + 1 ≤ a.size by omega) (by decide) (by decide), h.eq (show p + 1 ≤ a.size by omega) (by decide) (by decide), h.eq (show p + 1 ≤ a.size by omega) (by decide) (by decide)]; exact h2), num_dec hc h2]
      exact hdec
  · rw [hc] at hchr
    rw [num_chr hchr, num_chr hc]
/-- What a step of quoted tells that is none of the errors. -/
def QFine : TR ⊕ (Nat × List UInt8) → Prop
  | .inl R => R.fine
  | .inr _ => True
theorem quoS_pre (h : Pre a J) {k q p : Nat} {out : List UInt8} (hq : q ≠ 0) (hq2 : q ≠ 10) (hf : QFine (quoS a k q p out)) : quoS J k q p out = quoS a k q p out := by
  have hs := h.size
  unfold quoS at hf ⊢
  by_cases h1 : a.size ≤ p
  · rw [if_pos h1] at hf; exact absurd hf (fun k => k)
  rw [if_neg h1] at hf
  rw [if_neg h1, if_neg (by omega)]
  cases hc : chD a p with
  | none => rw [hc] at hf; exact absurd hf (fun k => k)
  | some y =>
    obtain ⟨v, m⟩ := y
    rw [hc] at hf
    rw [chD_pre h hc]
    simp only at hf ⊢
    by_cases h2 : v = 10
    · rw [if_pos h2] at hf; exact absurd hf (fun k => k)
    rw [if_neg h2] at hf
    rw [if_neg h2, if_neg h2]
    by_cases h3 : v = q
    · rw [if_pos h3, if_pos h3]
      refine ite_of ?_ (fun _ => rfl) (fun _ => rfl)
      rw [h.eq (show p + 1 ≤ a.size by omega) (by omega) (by omega)]
      constructor
      · rintro ⟨h4, _⟩; exact ⟨h4, lt_of_byt h4 (by omega)⟩
      · rintro ⟨h4, h5⟩; exact ⟨h4, by omega⟩
    rw [if_neg h3] at hf
    rw [if_neg h3, if_neg h3]
    by_cases h4 : v = 92
    · rw [if_pos h4] at hf
      rw [if_pos h4, if_pos h4]
      rcases Nat.lt_or_ge (p + 1) a.size with h5 | h5
      · rw [h.bt _ h5]
        by_cases h6 : byt a (p + 1) = 10
        · rw [if_pos h6, if_pos h6]
        rw [if_neg h6] at hf
        rw [if_neg h6, if_neg h6]
        cases he : escV a p with
        | none => rw [he] at hf; exact absurd hf (fun k => k)
        | some y => rw [escV_pre h (by omega) he]
      · exfalso
        rw [byt_out a (p + 1) h5, if_neg (by decide)] at hf
        have he : escV a p = none := by
          unfold escV
          rw [if_neg (show ¬ p + 1 < a.size by omega)]
          simp only
          rw [byt_out a (p + 1) h5, if_neg (by decide)]
          unfold escD
          rw [if_pos (.inl (rowE_end h5))]
        rw [he] at hf
        exact hf
    · rw [if_neg h4, if_neg h4]
theorem quoN_pre (h : Pre a J) {k q : Nat} (hq : q ≠ 0) (hq2 : q ≠ 10) : ∀ (f g p : Nat) (out : List UInt8), f ≤ g → (quoN a k q f p out).fine → quoN J k q g p out = quoN a k q f p out
  | 0, _, _, _, _, hf => absurd hf (fun k => k)
  | f + 1, 0, _, _, hg, _ => absurd hg (by omega)
  | f + 1, g + 1, p, out, hg, hf => by
    rw [quoN] at hf ⊢
    rw [quoN]
    have hS : QFine (quoS a k q p out) := by
      cases hc : quoS a k q p out with
      | inl R => rw [hc] at hf; exact hf
      | inr x => exact trivial
    rw [quoS_pre h hq hq2 hS]
    cases hc : quoS a k q p out with
    | inl R => rfl
    | inr x =>
      rw [hc] at hf
      exact quoN_pre h hq hq2 f g x.1 x.2 (by omega) hf
theorem lngR_pre (h : Pre a J) {k p t : Nat} (ht : t ≤ a.size) : lngR J k p t = lngR a k p t := by
  unfold lngR
  rw [h.ext p t ht]
theorem tokR_pre (h : Pre a J) {p : Nat} (hp : p < a.size) (hf : (tokR a p).fine) : tokR J p = tokR a p := by
  have hs := h.size
  have hb := h.bt p hp
  unfold tokR at hf ⊢
  have na : ¬ p = a.size := by omega
  have nJ : ¬ p = J.size := by omega
  rw [if_neg na] at hf
  rw [if_neg nJ, if_neg na, hb, h.row rfl (show p ≤ a.size by omega), h.row rfl (show p ≤ a.size by omega)]
  by_cases h1 : digB (byt a p).toNat = true
  · rw [if_pos h1] at hf
    rw [if_pos h1, if_pos h1]
    exact numR_pre h hp hf
  rw [if_neg h1] at hf
  rw [if_neg h1, if_neg h1]
  by_cases h2 : byt a p = 39 ∨ byt a p = 34 ∨ byt a p = 96
  · rw [if_pos h2] at hf
    rw [if_pos h2, if_pos h2]
    unfold quoE at hf ⊢
    exact quoN_pre h (by omega) (by omega) _ _ _ _ (by omega) hf
  rw [if_neg h2, if_neg h2, lngR_pre h (rowE_le _ _ _ (by omega)), lngR_pre h (rowE_le _ _ _ (by omega)), lngR_pre h (rowE_le _ _ _ (by omega)), lngR_pre h (show p + 1 ≤ a.size by omega), lngR_pre h (show p + 1 ≤ a.size by omega)]
  have hend : (rowE sgnB a p = p + 1 ∧ byt a p = 46 ∧ (p + 1 = J.size ∨ blkB (byt J (p + 1)).toNat = true ∨ byt J (p + 1) = 37)) ↔ (rowE sgnB a p = p + 1 ∧ byt a p = 46 ∧ (p + 1 = a.size ∨ blkB (byt a (p + 1)).toNat = true ∨ byt a (p + 1) = 37)) := by
    rcases Nat.lt_or_ge (p + 1) a.size with h3 | h3
    · rw [h.bt _ h3]
      constructor
      · rintro ⟨x, y, z⟩; exact ⟨x, y, z.imp (fun k => by omega) id⟩
      · rintro ⟨x, y, z⟩; exact ⟨x, y, z.imp (fun k => by omega) id⟩
    · have e : p + 1 = a.size := by omega
      constructor
      · rintro ⟨x, y, _⟩; exact ⟨x, y, .inl e⟩
      · rintro ⟨x, y, _⟩; exact ⟨x, y, .inr (.inl (by rw [e, h.nl]; rfl))⟩
  refine ite_of Iff.rfl (fun _ => rfl) (fun _ => ite_of Iff.rfl (fun _ => rfl) (fun _ => ite_of Iff.rfl (fun _ => ite_of hend (fun _ => rfl) (fun _ => rfl)) (fun _ => rfl)))
theorem cmtN_pre (h : Pre a J) : ∀ k g p : Nat, a.size ≤ p + k → k ≤ g → cmtN a k p + 1 < a.size → cmtN J g p = cmtN a k p
  | 0, _, p, h1, _, h3 => by rw [cmtN] at h3; omega
  | k + 1, 0, _, _, h2, _ => by omega
  | k + 1, g + 1, p, h1, h2, h3 => by
    have hs := h.size
    rw [cmtN] at h3 ⊢
    rw [cmtN]
    by_cases h4 : p + 1 < a.size
    · rw [if_pos h4] at h3
      rw [if_pos h4, if_pos (by omega), h.bt p (by omega), h.bt _ h4]
      by_cases h5 : byt a p = 42 ∧ byt a (p + 1) = 47
      · rw [if_pos h5, if_pos h5]
      · rw [if_neg h5] at h3
        rw [if_neg h5, if_neg h5]
        exact cmtN_pre h k g (p + 1) (by omega) (by omega) h3
    · rw [if_neg h4] at h3; omega
theorem cmtE_pre (h : Pre a J) {p : Nat} (h1 : cmtE a p + 1 < a.size) : cmtE J p = cmtE a p := by
  have hs := h.size
  unfold cmtE at h1 ⊢
  exact cmtN_pre h _ _ _ (by omega) (by omega) h1
/-- A step of layout: the same, but that a comment up to the end goes on behind the line's end. -/
theorem layTo_pre (h : Pre a J) {p : Nat} (hp : p < a.size) : (layTo a p = .stop → layTo J p = .stop) ∧ ∀ t, layTo a p = .upto t → layTo J p = .upto t ∨ (t = a.size ∧ layTo J p = .upto (a.size + 1)) := by
  have hs := h.size
  have hb := h.bt p hp
  have e1 : (byt J (p + 1) = 42) = (byt a (p + 1) = 42) := h.eq (by omega) (by decide) (by decide)
  unfold layTo
  simp only [hb, e1]
  by_cases h1 : blkB (byt a p).toNat = true
  · rw [if_pos h1, if_pos h1]; exact ⟨fun k => k, fun t ht => .inl ht⟩
  rw [if_neg h1, if_neg h1]
  by_cases h2 : byt a p = 37
  · rw [if_pos h2, if_pos h2, h.row rfl (show p ≤ a.size by omega)]
    have h3 := rowE_le (neB 10) a p (by omega)
    refine ⟨fun k => (by cases k), fun t ht => ?_⟩
    simp only [LayK.upto.injEq] at ht ⊢
    omega
  rw [if_neg h2, if_neg h2]
  by_cases h3 : byt a p = 47 ∧ byt a (p + 1) = 42
  · rw [if_pos h3, if_pos h3]
    by_cases h4 : cmtE a (p + 2) + 1 < a.size
    · rw [if_pos h4, cmtE_pre h h4, if_pos (by omega)]; exact ⟨fun k => (by cases k), fun t ht => .inl ht⟩
    · rw [if_neg h4]; exact ⟨fun k => (by cases k), fun t ht => (by cases ht)⟩
  · rw [if_neg h3, if_neg h3]; exact ⟨fun k => k, fun t ht => (by cases ht)⟩
theorem odd_end (h : Pre a J) {p : Nat} (hp : p ≤ a.size) (hr : OddAt (a.extract 0 a.size) p (-1)) : OddAt (J.extract 0 (a.size + 1)) p (-1) := by
  have hs := h.size
  have z1 : (a.extract 0 a.size).size = a.size := by rw [ByteArray.size_extract]; omega
  have z2 : (J.extract 0 (a.size + 1)).size = a.size + 1 := by rw [ByteArray.size_extract]; omega
  have hP : Pre (a.extract 0 a.size) (J.extract 0 (a.size + 1)) := by
    refine ⟨by omega, fun q hq => ?_, ?_, fun f t ht => ?_⟩
    · rw [byt_ext0 (by omega) (by omega), byt_ext0 (by omega) (by omega), h.bt q (by omega)]
    · rw [z1, byt_ext0 (by omega) (by omega), h.nl]
    · rw [z1] at ht
      rw [ByteArray.extract_extract, ByteArray.extract_extract, Nat.zero_add, Nat.zero_add, Nat.min_eq_left (by omega), Nat.min_eq_left (by omega), h.ext _ _ ht]
  have key : ∀ {q : Nat} {r : Int}, OddAt (a.extract 0 a.size) q r → r = -1 → q ≤ a.size → OddAt (J.extract 0 (a.size + 1)) q (-1) := by
    intro q r hq
    induction hq with
    | done h1 =>
      rename_i q
      intro _ h2
      have e : q = a.size := by omega
      subst e
      refine .step (m := 1) (.inl ⟨rfl, by omega, ?_, rfl⟩) (.done (by omega))
      rw [byt_ext0 (by omega) (by omega), h.nl]; decide
    | bad h1 _ => intro h2; omega
    | step h1 _ ih =>
      rename_i q m v r
      intro h2 h3
      refine .step (chv_pre hP h1) (ih h2 ?_)
      have h4 := h1.last
      omega
  exact key hr rfl hp
theorem lay_pre (h : Pre a J) {p K E : Nat} (hl : Lay a p K E) : E = 0 → p ≤ a.size → K < a.size → Lay J p K 0 := by
  have hs := h.size
  induction hl with
  | done h1 => intro _ h2 h3; omega
  | stop h1 h2 => intro _ _ _; exact .stop (by omega) ((layTo_pre h h1).1 h2)
  | opn _ _ => intro h1; cases h1
  | bad _ _ _ => intro h1; cases h1
  | step h1 h2 h3 h4 ih =>
    intro hE hp hK
    have hb := layTo_bound h1 h2
    subst hE
    have h5 := h4.ge rfl
    rcases (layTo_pre h h1).2 _ h2 with h6 | ⟨h6, _⟩
    · exact .step (by omega) h6 (by rw [h.ext 0 _ hb.2]; exact h3) (ih rfl hb.2 hK)
    · omega
theorem lay_end (h : Pre a J) {K' E' : Nat} (hJ : Lay J (a.size + 1) K' E') {p K E : Nat} (hl : Lay a p K E) : E = 0 → K = a.size → p ≤ a.size → Lay J p K' E' := by
  have hs := h.size
  have z1 : (a.extract 0 a.size).size = a.size := by rw [ByteArray.size_extract]; omega
  have base : Lay J a.size K' E' := by
    refine .step hs (t := a.size + 1) ?_ (odd_end h (Nat.le_refl _) (.done (by omega))) hJ
    unfold layTo
    rw [h.nl]
    rfl
  induction hl with
  | done h1 => intro _ h2 h3; rw [h2]; exact base
  | stop h1 h2 => intro _ h3 _; omega
  | opn _ _ => intro h1; cases h1
  | bad _ _ _ => intro h1; cases h1
  | step h1 h2 h3 h4 ih =>
    intro hE hK hp
    have hb := layTo_bound h1 h2
    rcases (layTo_pre h h1).2 _ h2 with h6 | ⟨h6, h7⟩
    · exact .step (by omega) h6 (by rw [h.ext 0 _ hb.2]; exact h3) (ih hE hK hb.2)
    · subst h6
      exact .step (by omega) h7 (odd_end h hp h3) hJ
/-- A token of the text before is the same in both. -/
theorem nxAt_pre (h : Pre a J) {p k A en bits : Nat} {tx nu : ByteArray} {ly : Bool} (hp : p ≤ a.size) (hk : k ≠ 10) (hN : NxAt a p (.ok k tx nu bits A en) ly) : NxAt J p (.ok k tx nu bits A en) ly := by
  obtain ⟨h1, h2, h3, h4, h5, h6, _, h8⟩ := hN.ok hp
  have h9 := h8 hk
  have hA : A < a.size := by omega
  refine ⟨A, 0, lay_pre h h1 rfl hp hA, ?_, h5⟩
  unfold nxR
  rw [if_pos rfl, tokR_pre h hA (by rw [h2]; exact trivial), h2]
/-- The first token behind the line's end. -/
theorem nxAt_end (h : Pre a J) {b : ByteArray} (hS : Shf (a.size + 1) b J) {p A en bits : Nat} {tx nu : ByteArray} {ly ly' : Bool} {R : TR} (hp : p ≤ a.size) (hN : NxAt a p (.ok 10 tx nu bits A en) ly) (hB : NxAt b 0 R ly') : NxAt J p (TR.shf (a.size + 1) R) true := by
  obtain ⟨h1, _, _, _, _, _, h7, _⟩ := hN.ok hp
  obtain ⟨K, E, g1, rfl, _⟩ := hB
  have g2 := lay_shf hS g1
  refine ⟨a.size + 1 + K, E, lay_end h g2 h1 rfl (h7 rfl).2 hp, ?_, (decide_eq_true (by omega)).symm⟩
  unfold nxR
  split
  · exact (tokR_shf hS K).symm
  · rfl
/-- A token and its layout, shifted. -/
def shT (n : Nat) (x : TR × Bool) : TR × Bool := (x.1.shf n, x.2)
theorem AllS.shf {n : Nat} {b J : ByteArray} (h : Shf n b J) {p : Nat} {Y : List (TR × Bool)} (hA : AllS b p Y) : AllS J (n + p) (Y.map (shT n)) := by
  induction hA with
  | fin hN => exact .fin (nxAt_shf h hN)
  | bad hN => exact .bad (nxAt_shf h hN)
  | more hN hk _ ih => exact .more (nxAt_shf h hN) hk ih
theorem AllS.first {J : ByteArray} {p q : Nat} {R : TR} {ly ly' : Bool} {Y : List (TR × Bool)} (hA : AllS J q ((R, ly) :: Y)) (hN : NxAt J p R ly') : AllS J p ((R, ly') :: Y) := by
  cases hA with
  | fin _ => exact .fin hN
  | bad _ => exact .bad hN
  | more _ hk h => exact .more hN hk h
/-- Two texts with a line's end between fall into the tokens of the one and then those of the other. -/
theorem AllS.join (h : Pre a J) {b : ByteArray} (hS : Shf (a.size + 1) b J) {R : TR} {ly : Bool} {Y : List (TR × Bool)} (hY : AllS b 0 ((R, ly) :: Y)) {p : Nat} {X : List (TR × Bool)} (hX : AllS a p X) :
    p ≤ a.size → (∃ x, X.getLast? = some x ∧ TR.er x.1 = 0) → ∃ Z e, X = Z ++ [e] ∧ AllS J p (Z ++ (TR.shf (a.size + 1) R, true) :: Y.map (shT (a.size + 1))) := by
  induction hX with
  | fin hN =>
    intro hp _
    refine ⟨[], _, rfl, ?_⟩
    have hB : NxAt b 0 R ly := by
      obtain ⟨R', ly', r, e1, h1, _⟩ := hY.open'
      simp only [List.cons.injEq, Prod.mk.injEq] at e1
      rw [e1.1.1, e1.1.2]; exact h1
    exact (hY.shf hS).first (nxAt_end h hS hp hN hB)
  | bad hN =>
    intro _ ⟨x, h1, h2⟩
    simp only [List.getLast?_singleton, Option.some.injEq] at h1
    subst h1
    exact absurd h2 hN.er
  | more hN hk hl ih =>
    rename_i l
    intro hp ⟨x, h1, h2⟩
    have hok := hN.ok hp
    have hlen := (hl.len hok.2.2.2.2.2.1).2
    obtain ⟨Z, e, e1, h3⟩ := ih hok.2.2.2.2.2.1 ⟨x, by
      cases l with
      | nil => simp at hlen
      | cons z l => rw [List.getLast?_cons_cons] at h1; exact h1, h2⟩
    exact ⟨_ :: Z, e, by rw [e1]; rfl, .more (nxAt_pre h hp hk hN) hk h3⟩
theorem pre_of (a b : ByteArray) : Pre a ((a ++ ⟨#[10]⟩) ++ b) := by
  have z : ((a ++ ⟨#[10]⟩) ++ b).data.toList = a.data.toList ++ 10 :: b.data.toList := by
    rw [ByteArray.data_append, ByteArray.data_append, Array.toList_append, Array.toList_append, List.append_assoc]; rfl
  have z2 : ((a ++ (⟨#[10]⟩ : ByteArray)) ++ b).size = a.size + 1 + b.size := by rw [ByteArray.size_append, ByteArray.size_append]; rfl
  refine ⟨by omega, fun p hp => ?_, ?_, fun f t ht => ?_⟩
  · unfold byt
    rw [z, List.getD_eq_getElem?_getD, List.getD_eq_getElem?_getD, List.getElem?_append_left (by simpa using hp)]
  · unfold byt
    rw [z, List.getD_eq_getElem?_getD, List.getElem?_append_right (by simp)]
    simp
  · apply ByteArray.ext
    apply Array.toList_inj.1
    rw [Lib.extract_data, Lib.extract_data, z, List.drop_append, List.take_append_of_le_length]
    rw [List.length_drop]
    simp
    omega
theorem shf_nl (a b : ByteArray) : Shf (a.size + 1) b ((a ++ ⟨#[10]⟩) ++ b) := by
  have h := shf_of (a ++ ⟨#[10]⟩) b
  rw [ByteArray.size_append] at h
  exact h
end Go.Lx
