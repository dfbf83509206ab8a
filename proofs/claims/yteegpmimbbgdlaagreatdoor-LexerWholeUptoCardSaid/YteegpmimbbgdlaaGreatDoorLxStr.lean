import Derived.Test.YteegpmimbbgdlaaGreatDoorLxRng
/- Tokens one behind the other, in plain words. -/
namespace Go.Lx
open Go.Hb Go.Rb Go.Bg Go.Pf Go.Proofs
theorem Lay.ge {s : ByteArray} {p K E : Nat} (h : Lay s p K E) : E = 0 → p ≤ K := by
  induction h with
  | done _ => intro _; exact Nat.le_refl _
  | stop _ _ => intro _; exact Nat.le_refl _
  | opn _ _ => intro h; cases h
  | bad _ _ _ => intro h; cases h
  | step hp hl _ _ ih =>
    intro hE
    have h1 := (layTo_bound hp hl).1
    have h2 := ih hE
    omega
/-- What Next tells at a place. -/
def NxAt (s : ByteArray) (p : Nat) (R : TR) (ly : Bool) : Prop := ∃ K E, Lay s p K E ∧ R = nxR s K E ∧ ly = decide (p < K)
theorem NxAt.ex (s : ByteArray) (p : Nat) : ∃ R ly, NxAt s p R ly := by
  obtain ⟨K, E, h⟩ := Lay.ex s (s.size - p) p (Nat.le_refl _)
  exact ⟨_, _, K, E, h, rfl, rfl⟩
theorem NxAt.ok {s : ByteArray} {p : Nat} {k : Nat} {tx nu : ByteArray} {bits a en : Nat} {ly : Bool} (hp : p ≤ s.size) (h : NxAt s p (.ok k tx nu bits a en) ly) :
    Lay s p a 0 ∧ tokR s a = .ok k tx nu bits a en ∧ p ≤ a ∧ a ≤ s.size ∧ ly = decide (p < a) ∧ en ≤ s.size ∧ (k = 10 → en = a ∧ a = s.size) ∧ (k ≠ 10 → a < en) := by
  obtain ⟨K, E, h1, h2, h3⟩ := h
  unfold nxR at h2
  by_cases hE : E = 0
  · subst hE
    rw [if_pos rfl] at h2
    have h4 := h1.le hp rfl
    have h5 := h1.ge rfl
    have h6 := tokR_rng h4
    rw [← h2] at h6
    obtain ⟨rfl, h7, h8, h9⟩ := h6
    exact ⟨h1, h2.symm, h5, h4, h3, h7, h8, h9⟩
  · rw [if_neg hE] at h2; cases h2
/-- Asked from its beginning a token is itself. -/
theorem lay_self {s : ByteArray} {p K : Nat} (h : Lay s p K 0) : Lay s K K 0 := by
  generalize hE : (0 : Nat) = E at h
  induction h with
  | done h => exact .done h
  | stop h1 h2 => exact .stop h1 h2
  | opn _ _ => cases hE
  | bad _ _ _ => cases hE
  | step _ _ _ _ ih => exact ih hE
theorem NxAt.self {s : ByteArray} {p : Nat} {k : Nat} {tx nu : ByteArray} {bits a en : Nat} {ly : Bool} (hp : p ≤ s.size) (h : NxAt s p (.ok k tx nu bits a en) ly) : NxAt s a (.ok k tx nu bits a en) false := by
  obtain ⟨h1, h2, _⟩ := h.ok hp
  refine ⟨a, 0, lay_self h1, ?_, ?_⟩
  · unfold nxR; rw [if_pos rfl, h2]
  · rw [decide_eq_false (Nat.lt_irrefl a)]
/-- All tokens from a place on, up to the end or the first error. -/
inductive AllS (s : ByteArray) : Nat → List (TR × Bool) → Prop
  | fin {p a : Nat} {tx nu : ByteArray} {bits en : Nat} {ly : Bool} : NxAt s p (.ok 10 tx nu bits a en) ly → AllS s p [(.ok 10 tx nu bits a en, ly)]
  | bad {p q n : Nat} {ly : Bool} : NxAt s p (.err q n) ly → AllS s p [(.err q n, ly)]
  | more {p k a : Nat} {tx nu : ByteArray} {bits en : Nat} {ly : Bool} {l : List (TR × Bool)} : NxAt s p (.ok k tx nu bits a en) ly → k ≠ 10 → AllS s en l → AllS s p ((.ok k tx nu bits a en, ly) :: l)
theorem AllS.ex (s : ByteArray) : ∀ n p : Nat, p ≤ s.size → s.size - p ≤ n → ∃ l, AllS s p l := by
  intro n
  induction n with
  | zero =>
    intro p hp hn
    obtain ⟨R, ly, h⟩ := NxAt.ex s p
    cases R with
    | err q n => exact ⟨_, .bad h⟩
    | ok k tx nu bits a en =>
      have h2 := h.ok hp
      by_cases hk : k = 10
      · subst hk; exact ⟨_, .fin h⟩
      · have := h2.2.2.2.2.2.2.2 hk; omega
  | succ n ih =>
    intro p hp hn
    obtain ⟨R, ly, h⟩ := NxAt.ex s p
    cases R with
    | err q n => exact ⟨_, .bad h⟩
    | ok k tx nu bits a en =>
      have h2 := h.ok hp
      by_cases hk : k = 10
      · subst hk; exact ⟨_, .fin h⟩
      · have h3 := h2.2.2.2.2.2.2.2 hk
        obtain ⟨l, hl⟩ := ih en (by omega) (by omega)
        exact ⟨_, .more h hk hl⟩
theorem AllS.len {s : ByteArray} {p : Nat} {l : List (TR × Bool)} (h : AllS s p l) : p ≤ s.size → l.length ≤ s.size - p + 1 ∧ 0 < l.length := by
  induction h with
  | fin _ => intro _; simp
  | bad _ => intro _; simp
  | more hN hk _ ih =>
    intro hp
    have h2 := hN.ok hp
    have h3 := h2.2.2.2.2.2.2.2 hk
    have := ih h2.2.2.2.2.2.1
    simp only [List.length_cons]
    omega
end Go.Lx
