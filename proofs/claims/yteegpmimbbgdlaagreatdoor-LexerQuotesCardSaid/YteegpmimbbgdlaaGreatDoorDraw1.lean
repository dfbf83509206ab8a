/- Regions whose order is open: masks, and what stands apart. -/
import Derived.Test.YteegpmimbbgdlaaGreatDoorEnds
import Derived.Orders
set_option linter.unusedVariables false
set_option linter.unusedSimpArgs false
set_option linter.unnecessarySimpa false
namespace Go.Proofs.YteegpmimbbgdlaaGreatDoor.Ab
open Go Go.RowKit

theorem nbeq {a b : Nat} (h : a = b) : Nat.beq a b = true := by subst h; exact Nat.beq_refl a
theorem bit_iff (m i : Nat) : bit m i = m.testBit i := by
  unfold bit
  rw [Nat.testBit_eq_decide_div_mod_eq]
  by_cases h : m / 2 ^ i % 2 = 1
  · rw [decide_eq_true h]
    exact nbeq h
  · rw [decide_eq_false h]
    cases hb : Nat.beq (Nat.mod (Nat.div m (Nat.pow 2 i)) 2) 1 with
    | false => rfl
    | true => exact absurd (Nat.eq_of_beq_eq_true hb) h
theorem bit_lor (a b i : Nat) : bit (Nat.lor a b) i = (bit a i || bit b i) := by
  rw [bit_iff, bit_iff, bit_iff]
  exact Nat.testBit_or a b i
theorem bit_pow (k i : Nat) : bit (Nat.pow 2 k) i = decide (k = i) := by
  rw [bit_iff]
  exact Nat.testBit_two_pow
theorem bit_zero (i : Nat) : bit 0 i = false := by rw [bit_iff]; exact Nat.zero_testBit i
theorem inside_true {a b : Nat} (h : inside a b = true) {i : Nat} (hi : bit a i = true) : bit b i = true := by
  have h := beq_true h
  rw [← h, bit_lor, hi]; rfl
theorem inside_of {a b : Nat} (h : ∀ i, bit a i = true → bit b i = true) : inside a b = true := by
  unfold inside
  have : Nat.lor a b = b := by
    apply Nat.eq_of_testBit_eq
    intro i
    rw [← bit_iff, ← bit_iff, bit_lor]
    cases ha : bit a i with
    | false => rfl
    | true => rw [h i ha]; rfl
  rw [this]
  exact nbeq rfl
/-- What an operation hangs on, through others. -/
inductive Dep (ops : Array Oper) : Nat → Nat → Prop where
  | one (i j : Nat) (o : Oper) (e : Edge) (ho : ops[i]? = some o) (he : e ∈ o.after.toList) (hb : Region.binds .any e = true) (hj : j = e.on) : Dep ops i j
  | far (i j k : Nat) (o : Oper) (e : Edge) (ho : ops[i]? = some o) (he : e ∈ o.after.toList) (hb : Region.binds .any e = true) (hj : j = e.on) (h : Dep ops j k) : Dep ops i k
theorem edgeMask_spec {m : PT Nat} : ∀ {l : List Edge} {a b : Nat}, edgeMask l m a = .ok b → (∀ e ∈ l, Region.binds .any e = true → ∃ x, m.get e.on = some x) ∧
    ∀ j, bit b j = true → bit a j = true ∨ ∃ e ∈ l, Region.binds .any e = true ∧ (j = e.on ∨ ∃ x, m.get e.on = some x ∧ bit x j = true)
  | [], a, b, h => by cases h; exact ⟨(fun _ h => by cases h), fun j h => .inl h⟩
  | e :: r, a, b, h => by
    simp only [edgeMask] at h
    split at h
    · rename_i hb
      obtain ⟨h1, h2⟩ := edgeMask_spec h
      refine ⟨fun e' he' hb' => ?_, fun j hj => ?_⟩
      · rcases List.mem_cons.1 he' with rfl | he'
        · rw [hb] at hb'; cases hb'
        · exact h1 e' he' hb'
      · rcases h2 j hj with h3 | ⟨e', h3, h4⟩
        · exact .inl h3
        · exact .inr ⟨e', List.mem_cons_of_mem _ h3, h4⟩
    · rename_i hb
      split at h
      · rename_i x hx
        obtain ⟨h1, h2⟩ := edgeMask_spec h
        refine ⟨fun e' he' hb' => ?_, fun j hj => ?_⟩
        · rcases List.mem_cons.1 he' with rfl | he'
          · exact ⟨x, hx⟩
          · exact h1 e' he' hb'
        · rcases h2 j hj with h3 | ⟨e', h3, h4⟩
          · rw [bit_lor, bit_lor, bit_pow] at h3
            simp only [Bool.or_eq_true, decide_eq_true_eq] at h3
            rcases h3 with h3 | h3 | h3
            · exact .inl h3
            · exact .inr ⟨e, List.mem_cons_self, hb, .inr ⟨x, hx, h3⟩⟩
            · exact .inr ⟨e, List.mem_cons_self, hb, .inl h3.symm⟩
          · exact .inr ⟨e', List.mem_cons_of_mem _ h3, h4⟩
      · cases h
structure MK (ops : Array Oper) (ms : PT Nat) : Prop where
  back : ∀ (i : Nat) (o : Oper), ops[i]? = some o → ∀ e ∈ o.after.toList, Region.binds .any e = true → e.on < i
  dep : ∀ i m, ms.get i = some m → ∀ j, bit m j = true → Dep ops i j
theorem masksOf_spec {ops : Array Oper} : ∀ {l pre : List Oper} {m ms : PT Nat}, ops.toList = pre ++ l → (∀ (i : Nat) (o : Oper), i < pre.length → ops[i]? = some o → ∀ e ∈ o.after.toList, Region.binds .any e = true → e.on < i) →
    (∀ i x, m.get i = some x → i < pre.length) → (∀ i x, m.get i = some x → ∀ j, bit x j = true → Dep ops i j) → masksOf l pre.length m = .ok ms → MK ops ms
  | [], pre, m, ms, heq, h1, h2, h3, h => by
    cases h
    refine ⟨fun i o ho => h1 i o ?_ ho, h3⟩
    have := (Array.getElem?_eq_some_iff.1 ho).1
    have hl : ops.size = pre.length := by have := congrArg List.length heq; simpa using this
    omega
  | o :: r, pre, m, ms, heq, h1, h2, h3, h => by
    simp only [masksOf] at h
    obtain ⟨x, hx, h⟩ := Rs.bind_ok h
    have ho : ops[pre.length]? = some o := by
      rw [← Array.getElem?_toList, heq]
      simp
    obtain ⟨e1, e2⟩ := edgeMask_spec hx
    refine masksOf_spec (l := r) (pre := pre ++ [o]) (by simp [heq]) (fun i o' hi ho' e he hb => ?_) (fun i y hy => ?_) (fun i y hy j hj => ?_) (by rw [List.length_append, List.length_singleton]; exact h)
    · rw [List.length_append, List.length_singleton] at hi
      rcases Nat.lt_or_ge i pre.length with h4 | h4
      · exact h1 i o' h4 ho' e he hb
      · have : i = pre.length := by omega
        subst this
        rw [ho] at ho'; cases ho'
        obtain ⟨y, hy⟩ := e1 e he hb
        exact h2 _ _ hy
    · rw [List.length_append, List.length_singleton]
      rcases PT.get_set hy with ⟨rfl, _⟩ | ⟨_, h5⟩
      · omega
      · have := h2 _ _ h5; omega
    · rcases PT.get_set hy with ⟨rfl, rfl⟩ | ⟨_, h5⟩
      · rcases e2 j hj with h6 | ⟨e, he, hb, h6⟩
        · rw [bit_zero] at h6; cases h6
        · rcases h6 with h6 | ⟨y, h6, h7⟩
          · exact .one _ _ o e ho he hb h6
          · exact .far _ _ _ o e ho he hb rfl (h3 _ _ h6 _ h7)
      · exact h3 _ _ h5 _ hj
/-- Two operations, of which one may look at what the other writes, and how. -/
structure AP (P : Program) (ops : Array Oper) (ms : PT Nat) : Prop where
  self : ∀ (i : Nat) (o : Oper) d, ops[i]? = some o → o.dst = some d → d ∉ looksAtA ops.toList o
  dst : ∀ (i j : Nat) (o o' : Oper) d, i ≠ j → ops[i]? = some o → ops[j]? = some o' → quietOp P o.op = true → o.dst = some d → o'.dst ≠ some d
  look : ∀ (i j : Nat) (o o' : Oper) d, i ≠ j → ops[i]? = some o → ops[j]? = some o' → o'.dst = some d → d ∈ looksAtA ops.toList o → Dep ops i j ∨ quietOp P o'.op = false
theorem apartA_spec {P : Program} {ms : PT Nat} {i : Nat} {q : Bool} {dst : Option Nat} {looks : List Nat} : ∀ {l : List Oper} {k : Nat}, apartA P ms i q dst looks l k = true → ∀ (p : Nat) (o : Oper), l[p]? = some o → ∀ d, o.dst = some d →
    (i = k + p → d ∉ looks) ∧ (i ≠ k + p → (q = true → dst ≠ some d) ∧ (d ∈ looks → (∃ m, ms.get i = some m ∧ bit m (k + p) = true) ∨ quietOp P o.op = false))
  | [], k, h, p, o, ho, d, hd => by simp at ho
  | o1 :: r, k, h, p, o, ho, d, hd => by
    simp only [apartA, Bool.and_eq_true] at h
    obtain ⟨h1, h2⟩ := h
    cases p with
    | succ p =>
      have := apartA_spec h2 p o (by simpa using ho) d hd
      rw [show k + (p + 1) = Nat.succ k + p from by omega]
      exact this
    | zero =>
      simp only [List.getElem?_cons_zero, Option.some.injEq] at ho
      subst ho
      rw [hd] at h1
      refine ⟨fun e => ?_, fun ne => ?_⟩
      · have : Nat.beq i k = true := by rw [e]; exact nbeq rfl
        rw [this] at h1
        simp only [Bool.not_eq_true'] at h1
        intro hm
        rw [List.contains_iff_mem.2 hm] at h1
        cases h1
      · have hb : Nat.beq i k = false := by
          cases hb : Nat.beq i k with
          | false => rfl
          | true => exact absurd (beq_true hb) ne
        rw [hb] at h1
        simp only [Bool.and_eq_true] at h1
        obtain ⟨h3, h4⟩ := h1
        refine ⟨fun hq hdst => ?_, fun hm => ?_⟩
        · subst hq
          rw [hdst] at h3
          simp only [Bool.not_eq_true'] at h3
          exact beq_false h3 rfl
        · rw [List.contains_iff_mem.2 hm] at h4
          simp only at h4
          split at h4
          · rename_i mi mj hmi hmj
            simp only [Bool.or_eq_true, Bool.and_eq_true, Bool.not_eq_true'] at h4
            rcases h4 with h4 | ⟨h4, _⟩
            · exact .inl ⟨mi, hmi, h4⟩
            · exact .inr h4
          · cases h4
theorem allApart_spec {P : Program} {ms : PT Nat} {all : List Oper} : ∀ {l : List Oper} {k : Nat}, allApart P ms all l k = true → ∀ (p : Nat) (o : Oper), l[p]? = some o → apartA P ms (k + p) (quietOp P o.op) o.dst (looksAtA all o) all 0 = true
  | [], k, h, p, o, ho => by simp at ho
  | o1 :: r, k, h, p, o, ho => by
    simp only [allApart, Bool.and_eq_true] at h
    cases p with
    | zero =>
      simp only [List.getElem?_cons_zero, Option.some.injEq] at ho
      subst ho
      exact h.1
    | succ p =>
      have := allApart_spec h.2 p o (by simpa using ho)
      rw [show k + (p + 1) = Nat.succ k + p from by omega]
      exact this
theorem AP.of {P : Program} {ops : Array Oper} {ms : PT Nat} (hk : MK ops ms) (h : allApart P ms ops.toList ops.toList 0 = true) : AP P ops ms := by
  have key : ∀ (i j : Nat) (o o' : Oper) d, ops[i]? = some o → ops[j]? = some o' → o'.dst = some d → (i = j → d ∉ looksAtA ops.toList o) ∧ (i ≠ j → (quietOp P o.op = true → o.dst ≠ some d) ∧ (d ∈ looksAtA ops.toList o → (∃ m, ms.get i = some m ∧ bit m j = true) ∨ quietOp P o'.op = false)) := by
    intro i j o o' d hi hj hd
    have h1 := allApart_spec h i o (by simpa using hi)
    rw [Nat.zero_add] at h1
    have h2 := apartA_spec h1 j o' (by simpa using hj) d hd
    rw [Nat.zero_add] at h2
    exact h2
  refine ⟨fun i o d hi hd => (key i i o o d hi hi hd).1 rfl, fun i j o o' d hne hi hj hq hd hd' => ?_, fun i j o o' d hne hi hj hd hm => ?_⟩
  · exact ((key i j o o' d hi hj hd').2 hne).1 hq hd
  · rcases ((key i j o o' d hi hj hd).2 hne).2 hm with ⟨m, h1, h2⟩ | h1
    · exact .inl (hk.dep i m h1 j h2)
    · exact .inr h1
end Go.Proofs.YteegpmimbbgdlaaGreatDoor.Ab
