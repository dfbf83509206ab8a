/- Regions whose order is open: what the checks say. -/
import Derived.Test.YteegpmimbbgdlaaGreatDoorDraw1
set_option linter.unusedVariables false
set_option linter.unusedSimpArgs false
set_option linter.unnecessarySimpa false
namespace Go.Proofs.YteegpmimbbgdlaaGreatDoor.Ab
open Go Go.RowKit

theorem eqBytes_eq {a b : List UInt8} (h : eqBytes a b = true) : a = b := by
  rw [eqBytes_iff] at h
  exact eq_of_beq h
theorem eqCap_eq {a b : Cap} (h : eqCap a b = true) : a = b := by
  cases a <;> cases b <;> simp only [eqCap] at h <;> first | (cases h; done) | (rw [beq_true h])
theorem eqAVs_eq {f : AV → AV → Bool} (hf : ∀ a b, f a b = true → a = b) : ∀ {a b : List AV}, eqAVs f a b = true → a = b
  | [], [], _ => rfl
  | [], _ :: _, h => by cases h
  | _ :: _, [], h => by cases h
  | x :: r, y :: s, h => by
    simp only [eqAVs] at h
    split at h
    · rename_i h1
      rw [hf x y h1, eqAVs_eq hf h]
    · cases h
theorem same_eq : ∀ (n : Nat) (a b : AV), AV.same n a b = true → a = b
  | 0, a, b, h => by cases h
  | n + 1, a, b, h => by
    have ih := same_eq n
    cases a <;> cases b <;> simp only [AV.same] at h <;> first
      | rfl
      | (exact Bool.noConfusion h)
      | skip
    all_goals (try simp only [Bool.and_eq_true, decide_eq_true_eq, beq_iff_eq] at h)
    · rw [h]
    · rw [h.1, h.2]
    · rw [h.1, beq_true h.2]
    · rw [eqBytes_eq h]
    · rw [beq_true h.1, beq_true h.2]
    · rw [beq_true h.1.1.1, beq_true h.1.1.2, beq_true h.1.2, eqCap_eq h.2]
    · rw [beq_true h]
    · rw [beq_true h.1.1, eqAVs_eq ih h.1.2, eqAVs_eq ih h.2]
    · rw [beq_true h.1, ih _ _ h.2]
    · rw [eqAVs_eq ih h]
    · rw [eqAVs_eq ih h]
    · rw [h.1, eqSX_spec h.2]
    · rw [eqSX_spec h]
    · rw [eqSX_spec h]
theorem eqPT_eq : ∀ {t u : PT AV}, eqPT t u = true → t = u
  | .nil, .nil, _ => rfl
  | .nil, .node _ _ _, h => by cases h
  | .node _ _ _, .nil, h => by cases h
  | .node l v r, .node l' v' r', h => by
    simp only [eqPT, Bool.and_eq_true] at h
    obtain ⟨⟨h1, h2⟩, h3⟩ := h
    rw [eqPT_eq h2, eqPT_eq h3]
    congr 1
    cases v <;> cases v' <;> first | rfl | (exact Bool.noConfusion h1) | (rw [same_eq _ _ _ h1])
theorem eqOb_eq {a b : Ob} (h : eqOb a b = true) : a = b := by
  cases a <;> cases b <;> simp only [eqOb] at h <;> first | (cases h; done) | skip
  simp only [Bool.and_eq_true] at h
  obtain ⟨⟨⟨⟨⟨h1, h2⟩, h3⟩, h4⟩, h5⟩, h6⟩ := h
  rw [eqPT_eq h1, beq_true h2, beq_true h3, beq_true h4, beq_true h5, beq_true h6]
section
variable {P : Program} {ms : PT Nat} {all : List Oper} {fr : Fr} {st : St} {al : List (Nat × Nat)} {done forced : Nat}
theorem chkAll_spec : ∀ {l : List Oper} {k : Nat}, chkAll P ms all fr st al done forced l k = true → ∀ (p : Nat) (o : Oper), l[p]? = some o → quietOp P o.op = true →
    (bit done (k + p) = true → bit forced (k + p) = false → chkOne P all fr st al (k + p) o = true) ∧ (bit done (k + p) = false → ∃ m, ms.get (k + p) = some m ∧ inside m done = false)
  | [], k, h, p, o, ho, hq => by simp at ho
  | o1 :: r, k, h, p, o, ho, hq => by
    simp only [chkAll] at h
    split at h
    case h_2 => cases h
    rename_i h1
    cases p with
    | succ p =>
      have := chkAll_spec h p o (by simpa using ho) hq
      rw [show k + (p + 1) = Nat.succ k + p from by omega]
      exact this
    | zero =>
      simp only [List.getElem?_cons_zero, Option.some.injEq] at ho
      subst ho
      rw [hq] at h1
      rw [Nat.add_zero]
      refine ⟨fun hd hf => ?_, fun hd => ?_⟩
      · rw [hd] at h1
        simp only [hf] at h1
        exact h1
      · rw [hd] at h1
        simp only at h1
        split at h1
        · rename_i m hm
          exact ⟨m, hm, by simpa using h1⟩
        · cases h1
theorem othersAfter_spec {i : Nat} : ∀ {l : List Oper} {k : Nat}, othersAfter P ms done i l k = true → ∀ (p : Nat) (o : Oper), l[p]? = some o → quietOp P o.op = false → bit done (k + p) = false → k + p ≠ i → ∃ m, ms.get (k + p) = some m ∧ bit m i = true
  | [], k, h, p, o, ho, hq, hd, hne => by simp at ho
  | o1 :: r, k, h, p, o, ho, hq, hd, hne => by
    simp only [othersAfter] at h
    split at h
    case h_2 => cases h
    rename_i h1
    cases p with
    | succ p =>
      have e : k + (p + 1) = Nat.succ k + p := by omega
      rw [e] at hd hne ⊢
      exact othersAfter_spec h p o (by simpa using ho) hq hd hne
    | zero =>
      simp only [List.getElem?_cons_zero, Option.some.injEq] at ho
      subst ho
      rw [Nat.add_zero] at hd hne ⊢
      have hb : Nat.beq i k = false := by
        cases hb : Nat.beq i k with
        | false => rfl
        | true => exact absurd (beq_true hb).symm hne
      rw [hd, hq, hb] at h1
      simp only at h1
      split at h1
      · rename_i m hm
        exact ⟨m, hm, h1⟩
      · cases h1
theorem nextLoud_none : ∀ {l : List Oper} {k : Nat}, nextLoud P done l k = none → ∀ (p : Nat) (o : Oper), l[p]? = some o → quietOp P o.op = false → bit done (k + p) = true
  | [], k, h, p, o, ho, hq => by simp at ho
  | o1 :: r, k, h, p, o, ho, hq => by
    simp only [nextLoud] at h
    split at h
    · cases h
    · rename_i hne
      cases p with
      | succ p =>
        have := nextLoud_none h p o (by simpa using ho) hq
        rw [show k + (p + 1) = Nat.succ k + p from by omega]
        exact this
      | zero =>
        simp only [List.getElem?_cons_zero, Option.some.injEq] at ho
        subst ho
        rw [Nat.add_zero]
        cases hd : bit done k with
        | true => rfl
        | false => exact absurd hq (hne hd)
theorem nextLoud_some {i : Nat} {o : Oper} : ∀ {l : List Oper} {k : Nat}, nextLoud P done l k = some (i, o) → ∃ p, i = k + p ∧ l[p]? = some o ∧ quietOp P o.op = false ∧ bit done i = false
  | [], k, h => by cases h
  | o1 :: r, k, h => by
    simp only [nextLoud] at h
    split at h
    · rename_i hd hq
      cases h
      exact ⟨0, rfl, rfl, hq, hd⟩
    · obtain ⟨p, h1, h2, h3, h4⟩ := nextLoud_some h
      exact ⟨p + 1, by omega, by simpa using h2, h3, h4⟩
end
end Go.Proofs.YteegpmimbbgdlaaGreatDoor.Ab
