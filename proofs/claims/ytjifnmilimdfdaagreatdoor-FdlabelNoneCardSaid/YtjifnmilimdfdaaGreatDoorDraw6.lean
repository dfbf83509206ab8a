import Derived.Test.YtjifnmilimdfdaaGreatDoorEnds
import Derived.Orders
/- Regions whose order is open: masks, and what stands apart. -/
set_option linter.unusedVariables false
set_option linter.unusedSimpArgs false
set_option linter.unnecessarySimpa false
namespace Go.Proofs.YtjifnmilimdfdaaGreatDoor.Ab
open Go Go.RowKit

theorem nbeq {a b : Nat} (h : a = b) : Nat.beq a b = true := by subst h; exact Nat.beq_refl a
theorem bit_iff (m i : Nat) : bit m i = m.testBit i := by
  unfold bit
  rw [Nat.testBit_eq_decide_div_mod_eq]
  by_cases h : m / 2 ^ i % 2 = 1
  · rw [decide_eq_true h]
    exact nbeq h
  · rw [decide_eq_false h]
    cases hb : Nat.beq (Nat.mod (Nat.div m (Nat.pow 2 i)) 2) 1 with
    | false => rfl
    | true => exact absurd (Nat.eq_of_beq_eq_true hb) h
theorem bit_lor (a b i : Nat) : bit (Nat.lor a b) i = (bit a i || bit b i) := by
  rw [bit_iff, bit_iff, bit_iff]
  exact Nat.testBit_or a b i
theorem bit_pow (k i : Nat) : bit (Nat.pow 2 k) i = decide (k = i) := by
  rw [bit_iff]
  exact Nat.testBit_two_pow
theorem bit_zero (i : Nat) : bit 0 i = false := by rw [bit_iff]; exact Nat.zero_testBit i
theorem inside_true {a b : Nat} (h : inside a b = true) {i : Nat} (hi : bit a i = true) : bit b i = true := by
  have h := beq_true h
  rw [← h, bit_lor, hi]; rfl
theorem inside_of {a b : Nat} (h : ∀ i, bit a i = true → bit b i = true) : inside a b = true := by
  unfold inside
  have : Nat.lor a b = b := by
    apply Nat.eq_of_testBit_eq
    intro i
    rw [← bit_iff, ← bit_iff, bit_lor]
    cases ha : bit a i with
    | false => rfl
    | true => rw [h i ha]; rfl
  rw [this]
  exact nbeq rfl
/-- What an operation hangs on, through others. -/
inductive Dep (ops : Array Oper) : Nat → Nat → Prop where
  | one (i j : Nat) (o : Oper) (e : Edge) (ho : ops[i]? = some o) (he : e ∈ o.after.toList) (hb : Region.binds .any e = true) (hj : j = e.on) : Dep ops i j
  | far (i j k : Nat) (o : Oper) (e : Edge) (ho : ops[i]? = some o) (he : e ∈ o.after.toList) (hb : Region.binds .any e = true) (hj : j = e.on) (h : Dep ops j k) : Dep ops i k
theorem edgeMask_spec {m : PT Nat} : ∀ {l : List Edge} {a b : Nat}, edgeMask l m a = .ok b → (∀ e ∈ l, Region.binds .any e = true → ∃ x, m.get e.on = some x) ∧
    ∀ j, bit b j = true → bit a j = true ∨ ∃ e ∈ l, Region.binds .any e = true ∧ (j = e.on ∨ ∃ x, m.get e.on = some x ∧ bit x j = true)
  | [], a, b, h => by cases h; exact ⟨(fun _ h => by cases h), fun j h => .inl h⟩
  | e :: r, a, b, h => by
    simp only [edgeMask] at h
    split at h
    · rename_i hb
      obtain ⟨h1, h2⟩ := edgeMask_spec h
      refine ⟨fun e' he' hb' => ?_, fun j hj => ?_⟩
      · rcases List.mem_cons.1 he' with rfl | he'
        · rw [hb] at hb'; cases hb'
        · exact h1 e' he' hb'
      · rcases h2 j hj with h3 | ⟨e', h3, h4⟩
        · exact .inl h3
        · exact .inr ⟨e', List.mem_cons_of_mem _ h3, h4⟩
    · rename_i hb
      split at h
      · rename_i x hx
        obtain ⟨h1, h2⟩ := edgeMask_spec h
        refine ⟨fun e' he' hb' => ?_, fun j hj => ?_⟩
        · rcases List.mem_cons.1 he' with rfl | he'
          · exact ⟨x, hx⟩
          · exact h1 e' he' hb'
        · rcases h2 j hj with h3 | ⟨e', h3, h4⟩
          · rw [bit_lor, bit_lor, bit_pow] at h3
            simp only [Bool.or_eq_true, decide_eq_true_eq] at h3
            rcases h3 with h3 | h3 | h3
            · exact .inl h3
            · exact .inr ⟨e, List.mem_cons_self, hb, .inr ⟨x, hx, h3⟩⟩
            · exact .inr ⟨e, List.mem_cons_self, hb, .inl h3.symm⟩
          · exact .inr ⟨e', List.mem_cons_of_mem _ h3, h4⟩
      · cases h
structure MK (ops : Array Oper) (ms : PT Nat) : Prop where
  back : ∀ (i : Nat) (o : Oper), ops[i]? = some o → ∀ e ∈ o.after.toList, Region.binds .any e = true → e.on < i
  dep : ∀ i m, ms.get i = some m → ∀ j, bit m j = true → Dep ops i j
theorem masksOf_spec {ops : Array Oper} : ∀ {l pre : List Oper} {m ms : PT Nat}, ops.toList = pre ++ l → (∀ (i : Nat) (o : Oper), i < pre.length → ops[i]? = some o → ∀ e ∈ o.after.toList, Region.binds .any e = true → e.on < i) →
    (∀ i x, m.get i = some x → i < pre.length) → (∀ i x, m.get i = some x → ∀ j, bit x j = true → Dep ops i j) → masksOf l pre.length m = .ok ms → MK ops ms
  | [], pre, m, ms, heq, h1, h2, h3, h => by
    cases h
    refine ⟨fun i o ho => h1 i o ?_ ho, h3⟩
    have := (Array.getElem?_eq_some_iff.1 ho).1
    have hl : ops.size = pre.length := by have := congrArg List.length heq; simpa using this
    omega
  | o :: r, pre, m, ms, heq, h1, h2, h3, h => by
    simp only [masksOf] at h
    obtain ⟨x, hx, h⟩ := Rs.bind_ok h
    have ho : ops[pre.length]? = some o := by
      rw [← Array.getElem?_toList, heq]
      simp
    obtain ⟨e1, e2⟩ := edgeMask_spec hx
    refine masksOf_spec (l := r) (pre := pre ++ [o]) (by simp [heq]) (fun i o' hi ho' e he hb => ?_) (fun i y hy => ?_) (fun i y hy j hj => ?_) (by rw [List.length_append, List.length_singleton]; exact h)
    · rw [List.length_append, List.length_singleton] at hi
      rcases Nat.lt_or_ge i pre.length with h4 | h4
      · exact h1 i o' h4 ho' e he hb
      · have : i = pre.length := by omega
        subst this
        rw [ho] at ho'; cases ho'
        obtain ⟨y, hy⟩ := e1 e he hb
        exact h2 _ _ hy
    · rw [List.length_append, List.length_singleton]
      rcases PT.get_set hy with ⟨rfl, _⟩ | ⟨_, h5⟩
      · omega
      · have := h2 _ _ h5; omega
    · rcases PT.get_set hy with ⟨rfl, rfl⟩ | ⟨_, h5⟩
      · rcases e2 j hj with h6 | ⟨e, he, hb, h6⟩
        · rw [bit_zero] at h6; cases h6
        · rcases h6 with h6 | ⟨y, h6, h7⟩
          · exact .one _ _ o e ho he hb h6
          · exact .far _ _ _ o e ho he hb rfl (h3 _ _ h6 _ h7)
      · exact h3 _ _ h5 _ hj
/-- Two operations, of which one may look at what the other writes, and how. -/
structure AP (P : Program) (ops : Array Oper) (ms : PT Nat) : Prop where
  self : ∀ (i : Nat) (o : Oper) d, ops[i]? = some o → o.dst = some d → d ∉ looksAtA ops.toList o
  dst : ∀ (i j : Nat) (o o' : Oper) d, i ≠ j → ops[i]? = some o → ops[j]? = some o' → quietOp P o.op = true → o.dst = some d → o'.dst ≠ some d
  look : ∀ (i j : Nat) (o o' : Oper) d, i ≠ j → ops[i]? = some o → ops[j]? = some o' → o'.dst = some d → d ∈ looksAtA ops.toList o → Dep ops i j ∨ quietOp P o'.op = false
theorem apartA_spec {P : Program} {ms : PT Nat} {i : Nat} {q : Bool} {dst : Option Nat} {looks : List Nat} : ∀ {l : List Oper} {k : Nat}, apartA P ms i q dst looks l k = true → ∀ (p : Nat) (o : Oper), l[p]? = some o → ∀ d, o.dst = some d →
    (i = k + p → d ∉ looks) ∧ (i ≠ k + p → (q = true → dst ≠ some d) ∧ (d ∈ looks → (∃ m, ms.get i = some m ∧ bit m (k + p) = true) ∨ quietOp P o.op = false))
  | [], k, h, p, o, ho, d, hd => by simp at ho
  | o1 :: r, k, h, p, o, ho, d, hd => by
    simp only [apartA, Bool.and_eq_true] at h
    obtain ⟨h1, h2⟩ := h
    cases p with
    | succ p =>
      have := apartA_spec h2 p o (by simpa using ho) d hd
      rw [show k + (p + 1) = Nat.succ k + p from by omega]
      exact this
    | zero =>
      simp only [List.getElem?_cons_zero, Option.some.injEq] at ho
      subst ho
      rw [hd] at h1
      refine ⟨fun e => ?_, fun ne => ?_⟩
      · have : Nat.beq i k = true := by rw [e]; exact nbeq rfl
        rw [this] at h1
        simp only [Bool.not_eq_true'] at h1
        intro hm
        rw [List.contains_iff_mem.2 hm] at h1
        cases h1
      · have hb : Nat.beq i k = false := by
          cases hb : Nat.beq i k with
          | false => rfl
          | true => exact absurd (beq_true hb) ne
        rw [hb] at h1
        simp only [Bool.and_eq_true] at h1
        obtain ⟨h3, h4⟩ := h1
        refine ⟨fun hq hdst => ?_, fun hm => ?_⟩
        · subst hq
          rw [hdst] at h3
          simp only [Bool.not_eq_true'] at h3
          exact beq_false h3 rfl
        · rw [List.contains_iff_mem.2 hm] at h4
          simp only at h4
          split at h4
          · rename_i mi mj hmi hmj
            simp only [Bool.or_eq_true, Bool.and_eq_true, Bool.not_eq_true'] at h4
            rcases h4 with h4 | ⟨h4, _⟩
            · exact .inl ⟨mi, hmi, h4⟩
            · exact .inr h4
          · cases h4
theorem allApart_spec {P : Program} {ms : PT Nat} {all : List Oper} : ∀ {l : List Oper} {k : Nat}, allApart P ms all l k = true → ∀ (p : Nat) (o : Oper), l[p]? = some o → apartA P ms (k + p) (quietOp P o.op) o.dst (looksAtA all o) all 0 = true
  | [], k, h, p, o, ho => by simp at ho
  | o1 :: r, k, h, p, o, ho => by
    simp only [allApart, Bool.and_eq_true] at h
    cases p with
    | zero =>
      simp only [List.getElem?_cons_zero, Option.some.injEq] at ho
      subst ho
      exact h.1
    | succ p =>
      have := allApart_spec h.2 p o (by simpa using ho)
      rw [show k + (p + 1) = Nat.succ k + p from by omega]
      exact this
theorem AP.of {P : Program} {ops : Array Oper} {ms : PT Nat} (hk : MK ops ms) (h : allApart P ms ops.toList ops.toList 0 = true) : AP P ops ms := by
  have key : ∀ (i j : Nat) (o o' : Oper) d, ops[i]? = some o → ops[j]? = some o' → o'.dst = some d → (i = j → d ∉ looksAtA ops.toList o) ∧ (i ≠ j → (quietOp P o.op = true → o.dst ≠ some d) ∧ (d ∈ looksAtA ops.toList o → (∃ m, ms.get i = some m ∧ bit m j = true) ∨ quietOp P o'.op = false)) := by
    intro i j o o' d hi hj hd
    have h1 := allApart_spec h i o (by simpa using hi)
    rw [Nat.zero_add] at h1
    have h2 := apartA_spec h1 j o' (by simpa using hj) d hd
    rw [Nat.zero_add] at h2
    exact h2
  refine ⟨fun i o d hi hd => (key i i o o d hi hi hd).1 rfl, fun i j o o' d hne hi hj hq hd hd' => ?_, fun i j o o' d hne hi hj hd hm => ?_⟩
  · exact ((key i j o o' d hi hj hd').2 hne).1 hq hd
  · rcases ((key i j o o' d hi hj hd).2 hne).2 hm with ⟨m, h1, h2⟩ | h1
    · exact .inl (hk.dep i m h1 j h2)
    · exact .inr h1
end Go.Proofs.YtjifnmilimdfdaaGreatDoor.Ab
/- Regions whose order is open: what the checks say. -/
set_option linter.unusedVariables false
set_option linter.unusedSimpArgs false
set_option linter.unnecessarySimpa false
namespace Go.Proofs.YtjifnmilimdfdaaGreatDoor.Ab
open Go Go.RowKit

section
variable {P : Program} {ms : PT Nat} {all : List Oper} {fr : Fr} {st : St} {al : List (Nat × Nat)} {done forced : Nat}
theorem chkAll_spec : ∀ {l : List Oper} {k : Nat}, chkAll P ms all fr st al done forced l k = true → ∀ (p : Nat) (o : Oper), l[p]? = some o → quietOp P o.op = true →
    (bit done (k + p) = true → bit forced (k + p) = false → chkOne P all fr st al (k + p) o = true) ∧ (bit done (k + p) = false → ∃ m, ms.get (k + p) = some m ∧ inside m done = false)
  | [], k, h, p, o, ho, hq => by simp at ho
  | o1 :: r, k, h, p, o, ho, hq => by
    simp only [chkAll] at h
    split at h
    case h_2 => cases h
    rename_i h1
    cases p with
    | succ p =>
      have := chkAll_spec h p o (by simpa using ho) hq
      rw [show k + (p + 1) = Nat.succ k + p from by omega]
      exact this
    | zero =>
      simp only [List.getElem?_cons_zero, Option.some.injEq] at ho
      subst ho
      rw [hq] at h1
      rw [Nat.add_zero]
      refine ⟨fun hd hf => ?_, fun hd => ?_⟩
      · rw [hd] at h1
        simp only [hf] at h1
        exact h1
      · rw [hd] at h1
        simp only at h1
        split at h1
        · rename_i m hm
          exact ⟨m, hm, by simpa using h1⟩
        · cases h1
theorem othersAfter_spec {i : Nat} : ∀ {l : List Oper} {k : Nat}, othersAfter P ms done i l k = true → ∀ (p : Nat) (o : Oper), l[p]? = some o → quietOp P o.op = false → bit done (k + p) = false → k + p ≠ i → ∃ m, ms.get (k + p) = some m ∧ bit m i = true
  | [], k, h, p, o, ho, hq, hd, hne => by simp at ho
  | o1 :: r, k, h, p, o, ho, hq, hd, hne => by
    simp only [othersAfter] at h
    split at h
    case h_2 => cases h
    rename_i h1
    cases p with
    | succ p =>
      have e : k + (p + 1) = Nat.succ k + p := by omega
      rw [e] at hd hne ⊢
      exact othersAfter_spec h p o (by simpa using ho) hq hd hne
    | zero =>
      simp only [List.getElem?_cons_zero, Option.some.injEq] at ho
      subst ho
      rw [Nat.add_zero] at hd hne ⊢
      have hb : Nat.beq i k = false := by
        cases hb : Nat.beq i k with
        | false => rfl
        | true => exact absurd (beq_true hb).symm hne
      rw [hd, hq, hb] at h1
      simp only at h1
      split at h1
      · rename_i m hm
        exact ⟨m, hm, h1⟩
      · cases h1
theorem nextLoud_none : ∀ {l : List Oper} {k : Nat}, nextLoud P done l k = none → ∀ (p : Nat) (o : Oper), l[p]? = some o → quietOp P o.op = false → bit done (k + p) = true
  | [], k, h, p, o, ho, hq => by simp at ho
  | o1 :: r, k, h, p, o, ho, hq => by
    simp only [nextLoud] at h
    split at h
    · cases h
    · rename_i hne
      cases p with
      | succ p =>
        have := nextLoud_none h p o (by simpa using ho) hq
        rw [show k + (p + 1) = Nat.succ k + p from by omega]
        exact this
      | zero =>
        simp only [List.getElem?_cons_zero, Option.some.injEq] at ho
        subst ho
        rw [Nat.add_zero]
        cases hd : bit done k with
        | true => rfl
        | false => exact absurd hq (hne hd)
theorem nextLoud_some {i : Nat} {o : Oper} : ∀ {l : List Oper} {k : Nat}, nextLoud P done l k = some (i, o) → ∃ p, i = k + p ∧ l[p]? = some o ∧ quietOp P o.op = false ∧ bit done i = false
  | [], k, h => by cases h
  | o1 :: r, k, h => by
    simp only [nextLoud] at h
    split at h
    · rename_i hd hq
      cases h
      exact ⟨0, rfl, rfl, hq, hd⟩
    · obtain ⟨p, h1, h2, h3, h4⟩ := nextLoud_some h
      exact ⟨p + 1, by omega, by simpa using h2, h3, h4⟩
end
end Go.Proofs.YtjifnmilimdfdaaGreatDoor.Ab
/- Regions whose order is open: what holds between. -/
set_option linter.unusedVariables false
set_option linter.unusedSimpArgs false
set_option linter.unnecessarySimpa false
namespace Go.Proofs.YtjifnmilimdfdaaGreatDoor.Ab
open Go Go.RowKit

def Pend (done : Nat) (listed : Array Bool) (j : Nat) : Prop := bit done j = true ∧ listed.getD j false = false
def NP (N : Nat → Prop) (al : List (Nat × Nat)) (done : Nat) (listed : Array Bool) (id : Nat) : Prop := N id ∨ ∃ j, Pend done listed j ∧ find2 al j = some id
def XP (ops : Array Oper) (done : Nat) (listed : Array Bool) (t : Nat) : Prop := ∃ j o, ops[j]? = some o ∧ Pend done listed j ∧ o.dst = some t
theorem MR.weaken {N N' : Nat → Prop} {ρ : Rho} {ro : Nat} {st : St} {W w : World} (h : MR N ρ ro st W w) (hn : ∀ id, N' id → N id) : MR N' ρ ro st W w :=
  ⟨h.below, fun id hi => h.no id (hn id hi), h.old, h.own, h.lt, h.next, h.ron, h.nx, h.obs, h.inj, h.cls, h.fx⟩
theorem MR.strengthen {N N' : Nat → Prop} {ρ : Rho} {ro : Nat} {st : St} {W w : World} (h : MR N ρ ro st W w) (hn : ∀ id, N' id → N id ∨ (ρ id = none ∧ id < st.next)) : MR N' ρ ro st W w :=
  ⟨h.below, fun id hi => (hn id hi).elim (h.no id) (fun x => x), h.old, h.own, h.lt, h.next, h.ron, h.nx, h.obs, h.inj, h.cls, h.fx⟩
theorem FX.aput {X X' : Nat → Prop} {ρ : Rho} {fr fr' : Fr} {a : Act} (h : FX X ρ fr a) {d : Option Tmp} {v : AV} (hp : fr.put d v = .ok fr') (h1 : ∀ t, X t → X' t) (h2 : ∀ t, d = some t → X' t) : FX X' ρ fr' a := by
  cases d with
  | none => cases hp; exact ⟨h.size, fun t ht => h.get t (fun hx => ht (h1 t hx)), h.glob, h.ds⟩
  | some d =>
    simp only [Fr.put] at hp
    split at hp
    · cases hp
      refine ⟨h.size, fun t ht => ?_, h.glob, h.ds⟩
      have hne : t ≠ d := fun e => ht (e ▸ h2 d rfl)
      have hg := h.get t (fun hx => ht (h1 t hx))
      simp only [Fr.get] at hg ⊢
      split
      · rename_i u hu
        rcases PT.get_set hu with ⟨e, _⟩ | ⟨_, hu'⟩
        · exact absurd e hne
        · rw [hu'] at hg; exact hg
      · exact .top _
    · cases hp
theorem FX.rput {X X' : Nat → Prop} {ρ : Rho} {fr : Fr} {a : Act} (h : FX X ρ fr a) {d : Option Tmp} {q : Value} (h1 : ∀ t, X t → X' t ∨ d = some t) (h2 : ∀ t, d = some t → t < fr.n ∧ VR ρ (fr.get (.tmp t)) q) : FX X' ρ fr (a.put d q) := by
  cases d with
  | none => exact ⟨h.size, fun t ht => h.get t (fun hx => (h1 t hx).elim ht (fun e => by cases e)), h.glob, h.ds⟩
  | some d =>
    obtain ⟨hlt, hv⟩ := h2 d rfl
    refine ⟨by simpa [Act.put] using h.size, fun t ht => ?_, h.glob, h.ds⟩
    simp only [Act.put]
    by_cases hne : d = t
    · subst hne
      have : d < a.tmps.size := by rw [h.size]; exact hlt
      simpa [Array.getD_eq_getD_getElem?, Array.getElem?_setIfInBounds, this] using hv
    · rw [Array.getD_eq_getD_getElem?, Array.getElem?_setIfInBounds_ne hne, ← Array.getD_eq_getD_getElem?]
      exact h.get t (fun hx => (h1 t hx).elim ht (fun e => hne (by cases e; rfl)))
structure Inv (E : Env) (ops : Array Oper) (N : Nat → Prop) (ρ : Rho) (W w : World) (a : Act) (fr : Fr) (st : St) (done forced : Nat) (al : List (Nat × Nat)) (listed : Array Bool) : Prop where
  size : listed.size = ops.size
  sub : ∀ j, listed.getD j false = true → bit done j = true
  quiet : ∀ (j : Nat) (o : Oper), ops[j]? = some o → Pend done listed j → quietOp E.P o.op = true
  closed : ∀ (i : Nat) (o : Oper) (e : Edge), ops[i]? = some o → listed.getD i false = true → e ∈ o.after.toList → Region.binds .any e = true → listed.getD e.on false = true
  forced : ∀ j, bit forced j = true → listed.getD j false = true
  ald : ∀ i id, find2 al i = some id → bit done i = true
  alro : ∀ i id, Pend done listed i → find2 al i = some id → E.ro ≤ id ∧ ¬ N id
  alinj : ∀ i j id, Pend done listed i → Pend done listed j → find2 al i = some id → find2 al j = some id → i = j
  rng : ∀ (j : Nat) (o : Oper) d, ops[j]? = some o → bit done j = true → o.dst = some d → d < fr.n
  mr : MR (NP N al done listed) ρ E.ro st W w
  fx : FX (XP ops done listed) ρ fr a
section
variable {E : Env} {N : Nat → Prop} {ρ : Rho} {st : St} {W w : World} {ops : Array Oper} {fr : Fr} {a : Act} {done forced : Nat} {al : List (Nat × Nat)} {listed : Array Bool}
theorem put_lt {fr fr' : Fr} {d : Option Tmp} {x : AV} (hp : fr.put d x = .ok fr') : ∀ t, d = some t → t < fr.n := by
  intro t ht
  subst ht
  simp only [Fr.put] at hp
  split at hp
  · rename_i h; exact blt_true h
  · cases hp
theorem pend_or {i j : Nat} (h : Pend (Nat.lor done (Nat.pow 2 i)) listed j) : Pend done listed j ∨ j = i := by
  obtain ⟨h1, h2⟩ := h
  rw [bit_lor, bit_pow] at h1
  simp only [Bool.or_eq_true, decide_eq_true_eq] at h1
  rcases h1 with h1 | h1
  · exact .inl ⟨h1, h2⟩
  · exact .inr h1.symm
theorem pend_lor {i j : Nat} (h : Pend done listed j) : Pend (Nat.lor done (Nat.pow 2 i)) listed j := ⟨by rw [bit_lor, h.1]; rfl, h.2⟩
theorem bit_or {i j : Nat} (h : bit (Nat.lor done (Nat.pow 2 i)) j = true) : bit done j = true ∨ j = i := by
  rw [bit_lor, bit_pow] at h
  simp only [Bool.or_eq_true, decide_eq_true_eq] at h
  exact h.imp id Eq.symm
/-- One that is quiet is reckoned: nothing happens in the world. -/
theorem Inv.settle (h : Inv E ops N ρ W w a fr st done forced al listed) {i : Nat} {o : Oper} (ho : ops[i]? = some o) (hq : quietOp E.P o.op = true) (hd : bit done i = false) {v : AV} {fr' : Fr} (hp : fr.put o.dst v = .ok fr') :
    Inv E ops N ρ W w a fr' st (Nat.lor done (Nat.pow 2 i)) forced al listed := by
  have hl : listed.getD i false = false := by
    cases hl : listed.getD i false with
    | false => rfl
    | true => rw [h.sub i hl] at hd; cases hd
  have hpi : Pend (Nat.lor done (Nat.pow 2 i)) listed i := ⟨by rw [bit_lor, bit_pow]; simp, hl⟩
  have hn := (Fr.put_n hp).1
  refine ⟨h.size, fun j hj => by rw [bit_lor, h.sub j hj]; rfl, fun j o' ho' hpd => ?_, h.closed, h.forced, fun j id hj => by rw [bit_lor, h.ald j id hj]; rfl, fun j id hpd hj => ?_, fun j k id hj hk h1 h2 => ?_, fun j o' d ho' hb hdst => ?_, ?_, ?_⟩
  · rcases pend_or hpd with h1 | rfl
    · exact h.quiet j o' ho' h1
    · rw [ho] at ho'; cases ho'; exact hq
  · rcases pend_or hpd with h1 | rfl
    · exact h.alro j id h1 hj
    · rw [h.ald j id hj] at hd; cases hd
  · rcases pend_or hj with h3 | rfl
    · rcases pend_or hk with h4 | rfl
      · exact h.alinj j k id h3 h4 h1 h2
      · rw [h.ald k id h2] at hd; cases hd
    · rw [h.ald j id h1] at hd; cases hd
  · rw [hn]
    rcases bit_or hb with h1 | rfl
    · exact h.rng j o' d ho' h1 hdst
    · rw [ho] at ho'; cases ho'; exact put_lt hp d hdst
  · refine h.mr.weaken fun id hid => ?_
    rcases hid with hid | ⟨j, h1, h2⟩
    · exact .inl hid
    · rcases pend_or h1 with h1 | rfl
      · exact .inr ⟨j, h1, h2⟩
      · rw [h.ald j id h2] at hd; cases hd
  · refine h.fx.aput hp (fun t ⟨j, o', h1, h2, h3⟩ => ⟨j, o', h1, pend_lor h2, h3⟩) (fun t ht => ⟨i, o, ho, hpi, ht⟩)
/-- The same, where a block is made. -/
theorem Inv.settleNew (h : Inv E ops N ρ W w a fr st done forced al listed) {i : Nat} {o : Oper} (ho : ops[i]? = some o) (hq : quietOp E.P o.op = true) (hd : bit done i = false) {v : AV} {fr' : Fr} (hp : fr.put o.dst v = .ok fr') {ob : Ob} (h0 : ob.cl0) :
    Inv E ops N ρ W w a fr' (st.new ob) (Nat.lor done (Nat.pow 2 i)) forced ((i, st.next) :: al) listed := by
  have hs := h.settle ho hq hd hp
  have hfind : ∀ j id, find2 ((i, st.next) :: al) j = some id → (j = i ∧ id = st.next) ∨ (j ≠ i ∧ find2 al j = some id) := by
    intro j id hj
    simp only [find2] at hj
    split at hj
    · rename_i e; cases hj; exact .inl ⟨(beq_true e).symm, rfl⟩
    · rename_i e; exact .inr ⟨fun e' => beq_false e e'.symm, hj⟩
  have hlt : ∀ j id, Pend done listed j → find2 al j = some id → id < st.next := fun j id hj hf => (h.mr.no id (.inr ⟨j, hj, hf⟩)).2
  refine ⟨hs.size, hs.sub, hs.quiet, hs.closed, hs.forced, fun j id hj => ?_, fun j id hpd hj => ?_, fun j k id hj hk h1 h2 => ?_, hs.rng, ?_, hs.fx⟩
  · rcases hfind j id hj with ⟨rfl, _⟩ | ⟨_, hj⟩
    · rw [bit_lor, bit_pow]; simp
    · exact hs.ald j id hj
  · rcases hfind j id hj with ⟨rfl, rfl⟩ | ⟨hne, hj⟩
    · exact ⟨h.mr.ron, fun hn => h.mr.freshN (.inl hn)⟩
    · exact h.alro j id ((pend_or hpd).resolve_right hne) hj
  · rcases hfind j id h1 with ⟨rfl, rfl⟩ | ⟨hne, h3⟩
    · rcases hfind k _ h2 with ⟨rfl, _⟩ | ⟨hne', h4⟩
      · rfl
      · exact absurd (hlt k _ ((pend_or hk).resolve_right hne') h4) (Nat.lt_irrefl _)
    · rcases hfind k _ h2 with ⟨rfl, rfl⟩ | ⟨hne', h4⟩
      · exact absurd (hlt j _ ((pend_or hj).resolve_right hne) h3) (Nat.lt_irrefl _)
      · exact h.alinj j k id ((pend_or hj).resolve_right hne) ((pend_or hk).resolve_right hne') h3 h4
  · refine ((h.mr.pend h0).strengthen fun id hid => ?_)
    rcases hid with hid | ⟨j, h1, h2⟩
    · exact .inl (.inl hid)
    · rcases hfind j id h2 with ⟨rfl, rfl⟩ | ⟨hne, h2⟩
      · exact .inr ⟨h.mr.fresh, Nat.lt_succ_self _⟩
      · exact .inl (.inr ⟨j, (pend_or h1).resolve_right hne, h2⟩)
theorem allocA_cl0 {P : Program} {o : Op} {p : Ob × (Nat → AV)} (h : allocA P fr o = .ok p) : p.1.cl0 := by
  unfold allocA at h
  split at h
  · split at h
    · split at h
      · cases h; exact mkRow_cl0 _ _
      · cases h
    · cases h
  · split at h
    · split at h
      · cases h; exact mkRow_cl0 _ _
      · cases h
    · cases h
  · split at h
    · split at h
      · split at h
        · split at h
          · obtain ⟨l, _, h⟩ := Rs.bind_ok h
            split at h
            · cases h; exact mkRow_cl0 _ _
            · cases h
          · cases h
        · cases h
      · cases h
    · cases h
  · split at h
    · split at h
      · split at h
        · split at h
          · cases h; exact mkRow_cl0 _ _
          · cases h
        · cases h
      · cases h
    · cases h
  · cases h
theorem settleA_run {ms : PT Nat} : ∀ {l pre : List Oper} {fr fr' : Fr} {st st' : St} {done done' : Nat} {al al' : List (Nat × Nat)}, ops.toList = pre ++ l → settleA E.P ms ops.toList l pre.length fr st done al = .ok (fr', st', done', al') →
    Inv E ops N ρ W w a fr st done forced al listed → Inv E ops N ρ W w a fr' st' done' forced al' listed
  | [], pre, fr, fr', st, st', done, done', al, al', heq, h, hI => by
    cases h; exact hI
  | o :: r, pre, fr, fr', st, st', done, done', al, al', heq, h, hI => by
    have ho : ops[pre.length]? = some o := by
      rw [← Array.getElem?_toList, heq]
      simp
    have next : ∀ {fr1 : Fr} {st1 : St} {done1 : Nat} {al1 : List (Nat × Nat)}, settleA E.P ms ops.toList r (Nat.succ pre.length) fr1 st1 done1 al1 = .ok (fr', st', done', al') → Inv E ops N ρ W w a fr1 st1 done1 forced al1 listed → Inv E ops N ρ W w a fr' st' done' forced al' listed :=
      fun h1 h2 => settleA_run (l := r) (pre := pre ++ [o]) (by simp [heq]) (by rw [List.length_append, List.length_singleton]; exact h1) h2
    simp only [settleA] at h
    split at h
    · exact next h hI
    · cases h
    · rename_i hd hm
      split at h
      · exact next h hI
      · exact next h hI
      · rename_i hk
        have hq : quietOp E.P o.op = true := by unfold quietOp; rw [hk]
        split at h
        · cases h
        · obtain ⟨fr1, hp, h⟩ := Rs.bind_ok h
          exact next h (hI.settle ho hq hd hp)
        · obtain ⟨v, hv, h⟩ := Rs.bind_ok h
          obtain ⟨fr1, hp, h⟩ := Rs.bind_ok h
          exact next h (hI.settle ho hq hd hp)
      · rename_i hk
        have hq : quietOp E.P o.op = true := by unfold quietOp; rw [hk]
        split at h
        · cases h
        · obtain ⟨fr1, hp, h⟩ := Rs.bind_ok h
          exact next h (hI.settle ho hq hd hp)
        · obtain ⟨p, hv, h⟩ := Rs.bind_ok h
          obtain ⟨fr1, hp, h⟩ := Rs.bind_ok h
          exact next h (hI.settleNew ho hq hd hp (allocA_cl0 hv))
end
end Go.Proofs.YtjifnmilimdfdaaGreatDoor.Ab
/- Regions whose order is open: a step in the world. -/
set_option linter.unusedVariables false
set_option linter.unusedSimpArgs false
set_option linter.unnecessarySimpa false
namespace Go.Proofs.YtjifnmilimdfdaaGreatDoor.Ab
open Go Go.RowKit

section
variable {E : Env} {N : Nat → Prop} {ρ : Rho} {st : St} {W w : World} {ops : Array Oper} {fr : Fr} {a : Act} {done forced : Nat} {al : List (Nat × Nat)} {listed : Array Bool}
theorem getD_false_true {listed : Array Bool} {j : Nat} : listed.getD j true = false → listed.getD j false = false := by
  intro h
  rw [Array.getD_eq_getD_getElem?] at h ⊢
  cases hj : listed[j]? with
  | none => rfl
  | some b => rw [hj] at h; exact h
theorem lt_of_getD {listed : Array Bool} {j : Nat} (h : listed.getD j true = false) : j < listed.size := by
  rw [Array.getD_eq_getD_getElem?] at h
  cases hj : listed[j]? with
  | none => rw [hj] at h; cases h
  | some b => exact (Array.getElem?_eq_some_iff.1 hj).1
theorem set_self {listed : Array Bool} {i : Nat} (hi : i < listed.size) : (listed.setIfInBounds i true).getD i false = true := by
  simp [hi]
theorem set_or {listed : Array Bool} {i j : Nat} (h : (listed.setIfInBounds i true).getD j false = true) : listed.getD j false = true ∨ j = i := by
  by_cases hij : i = j
  · exact .inr hij.symm
  · rw [getD_set_ne false hij] at h; exact .inl h
theorem Inv.deps (h : Inv E ops N ρ W w a fr st done forced al listed) {i j : Nat} (hd : Dep ops i j) : (∀ o e, ops[i]? = some o → e ∈ o.after.toList → Region.binds .any e = true → listed.getD e.on false = true) → listed.getD j false = true := by
  induction hd with
  | one i j o e ho he hb hj => intro hr; rw [hj]; exact hr o e ho he hb
  | far i j k o e ho he hb hj _ ih =>
    intro hr
    have hj' : listed.getD j false = true := by rw [hj]; exact hr o e ho he hb
    exact ih fun o' e' ho' he' hb' => h.closed j o' e' ho' hj' he' hb'
theorem ready_edges {i : Nat} (hr : i ∈ Region.ready .any ops listed) : ∀ o e, ops[i]? = some o → e ∈ o.after.toList → Region.binds .any e = true → listed.getD e.on false = true := by
  obtain ⟨_, o', ho', hall⟩ := mem_ready.1 hr
  intro o e ho he hb
  rw [ho] at ho'; cases ho'
  exact hall e (by simpa using he) hb
/-- What a ready one looks at is there. -/
theorem Inv.looks {ms : PT Nat} (h : Inv E ops N ρ W w a fr st done forced al listed) (hA : AP E.P ops ms) {i : Nat} {o : Oper} (ho : ops[i]? = some o) (hr : i ∈ Region.ready .any ops listed) : ∀ t ∈ looksAtA ops.toList o, ¬ XP ops done listed t := by
  rintro t ht ⟨j, o', hj, hp, hdst⟩
  by_cases hij : i = j
  · subst hij
    rw [ho] at hj; cases hj
    exact hA.self i o t ho hdst ht
  · rcases hA.look i j o o' t hij ho hj hdst ht with h1 | h1
    · have := h.deps h1 (ready_edges hr)
      rw [hp.2] at this; cases this
    · rw [h.quiet j o' hj hp] at h1; cases h1
theorem looks_op {o : Oper} {t : Nat} (h : Operand.tmp t ∈ o.op.operands) : t ∈ looksAtA ops.toList o := by
  have h1 : ∀ l : List Operand, Operand.tmp t ∈ l → t ∈ tmpsOf l := by
    intro l
    induction l with
    | nil => intro h; cases h
    | cons x l ih =>
      intro h
      rcases List.mem_cons.1 h with h' | h'
      · subst h'; exact List.mem_cons_self
      · cases x <;> first | exact List.mem_cons_of_mem _ (ih h') | exact ih h'
  have h2 := h1 o.op.operands.toList (by simpa using h)
  unfold looksAtA
  split
  · exact h2
  · split
    · split
      · exact List.mem_cons_of_mem _ h2
      · exact h2
    · exact h2
theorem looks_guard {o p : Oper} {j : Nat} {want : Bool} {d : Nat} (hg : o.guard = some (j, want)) (hp : ops[j]? = some p) (hd : p.dst = some d) : d ∈ looksAtA ops.toList o := by
  have hp' : ops.toList[j]? = some p := by simpa using hp
  unfold looksAtA
  rw [hg]
  simp only [hp', hd]
  exact List.mem_cons_self
/-- One that was pending is listed. -/
theorem Inv.list {ms : PT Nat} (h : Inv E ops N ρ W w a fr st done forced al listed) (hA : AP E.P ops ms) {i : Nat} {o : Oper} (ho : ops[i]? = some o) (hr : i ∈ Region.ready .any ops listed) (hd : bit done i = true) {ρ' : Rho} {w' : World} {q : Value} (hle : ρ.le ρ')
    (hM : MR (NP N al done (listed.setIfInBounds i true)) ρ' E.ro st W w') (hv : ∀ d, o.dst = some d → VR ρ' (fr.get (.tmp d)) q) : Inv E ops N ρ' W w' (a.put o.dst q) fr st done forced al (listed.setIfInBounds i true) := by
  have hi := (mem_ready.1 hr).1
  have hlt := lt_of_getD hi
  have hpd : ∀ j, Pend done (listed.setIfInBounds i true) j → Pend done listed j ∧ j ≠ i := by
    rintro j ⟨h1, h2⟩
    have hne : j ≠ i := by
      rintro rfl
      rw [set_self hlt] at h2; cases h2
    exact ⟨⟨h1, by rw [getD_set_ne false (Ne.symm hne)] at h2; exact h2⟩, hne⟩
  refine ⟨by simp [h.size], fun j hj => ?_, fun j o' ho' hp => h.quiet j o' ho' (hpd j hp).1, fun j o' e ho' hj he hb => ?_, fun j hj => getD_set_true (h.forced j hj), h.ald, fun j id hp hf => h.alro j id (hpd j hp).1 hf, fun j k id hj hk h1 h2 => h.alinj j k id (hpd j hj).1 (hpd k hk).1 h1 h2, h.rng, hM, ?_⟩
  · rcases set_or hj with h1 | rfl
    · exact h.sub j h1
    · exact hd
  · rcases set_or hj with h1 | rfl
    · exact getD_set_true (h.closed j o' e ho' h1 he hb)
    · exact getD_set_true (ready_edges hr o' e ho' he hb)
  · refine (h.fx.mono hle).rput (fun t ⟨j, o', h1, h2, h3⟩ => ?_) (fun t ht => ⟨h.rng i o t ho hd ht, hv t ht⟩)
    by_cases hji : j = i
    · subst hji
      rw [ho] at h1; cases h1
      exact .inr h3
    · exact .inl ⟨j, o', h1, ⟨h2.1, by rw [getD_set_ne false (Ne.symm hji)]; exact h2.2⟩, h3⟩
theorem NP_list {i id : Nat} (h : NP N al done (listed.setIfInBounds i true) id) : NP N al done listed id := by
  rcases h with h | ⟨j, ⟨h1, h2⟩, h3⟩
  · exact .inl h
  · refine .inr ⟨j, ⟨h1, ?_⟩, h3⟩
    cases hl : listed.getD j false with
    | false => rfl
    | true => rw [getD_set_true hl] at h2; cases h2
theorem pend_step {ms : PT Nat} (h : Inv E ops N ρ W w a fr st done forced al listed) (hA : AP E.P ops ms) {i : Nat} {o : Oper} (ho : ops[i]? = some o) (hr : i ∈ Region.ready .any ops listed) (hd : bit done i = true)
    (hc : chkOne E.P ops.toList fr st al i o = true) {K : Act → World → Prop} {Q : Exit → Act → World → Prop}
    (hK : ∀ ρ' a' w', ρ.le ρ' → Inv E ops N ρ' W w' a' fr st done forced al (listed.setIfInBounds i true) → K a' w') : wpOp E.P ops Q i K a w := by
  have hi := (mem_ready.1 hr).1
  have hpend : Pend done listed i := ⟨hd, getD_false_true hi⟩
  have hlooks := h.looks hA ho hr
  have hq := h.quiet i o ho hpend
  have hM0 : MR (NP N al done (listed.setIfInBounds i true)) ρ E.ro st W w := h.mr.weaken fun id => NP_list
  have he : ∀ x ∈ o.op.operands.toList, VR ρ (fr.get x) (a.eval x) := fun x hx => h.fx.eval x (fun t ht => hlooks t (looks_op (by subst ht; simpa using hx)))
  unfold wpOp
  rw [ho]
  simp only
  unfold chkOne at hc
  split at hc
  · cases hc
  · rename_i hg
    have hw := guardA_run h.fx (fun j want p d h1 h2 h3 => hlooks d (looks_guard h1 h2 h3)) hg
    rw [if_neg (by rw [hw]; exact Bool.false_ne_true)]
    refine hK ρ _ w (Rho.le_refl _) (h.list hA ho hr hd (Rho.le_refl _) hM0 fun d hdst => ?_)
    rw [hdst] at hc
    simp only at hc
    rw [same_eq _ _ _ hc]
    exact undef_tup
  · rename_i hg
    have hw := guardA_run h.fx (fun j want p d h1 h2 h3 => hlooks d (looks_guard h1 h2 h3)) hg
    rw [if_pos hw]
    left
    split at hc
    · rename_i hk
      unfold quietOp at hq
      rw [hk] at hq; cases hq
    · rename_i hk
      have key : ∀ v, pureA E.P fr st o.op = .ok v → (∀ d, o.dst = some d → fr.get (.tmp d) = v) → o.wp E.P a w K Q := by
        intro v hv hdst
        obtain ⟨q, h1, h2⟩ := pureA_run h.mr he hv
        unfold Oper.wp
        rw [h1]
        exact hK ρ _ w (Rho.le_refl _) (h.list hA ho hr hd (Rho.le_refl _) hM0 fun d hd' => by rw [hdst d hd']; exact h2)
      split at hc
      · rename_i v d hv hdst
        exact key v hv fun d' hd' => by rw [hdst] at hd'; cases hd'; exact same_eq _ _ _ hc
      · rename_i v hv hdst
        exact key v hv fun d' hd' => by rw [hdst] at hd'; cases hd'
      · cases hc
    · rename_i hk
      split at hc
      · rename_i p d id hp hdst hf
        split at hc
        · rename_i ob hob
          simp only [Bool.and_eq_true] at hc
          have e1 := same_eq _ _ _ hc.1
          have e2 := eqOb_eq hc.2
          obtain ⟨v, o', n, h1, h2, h3, h4⟩ := allocA_run he hp w
          have hno := h.mr.no id (.inr ⟨i, hpend, hf⟩)
          obtain ⟨hro, hN⟩ := h.alro i id hpend hf
          have hlt := lt_of_getD hi
          have hNP : ¬ NP N al done (listed.setIfInBounds i true) id := by
            rintro (h5 | ⟨j, ⟨h5, h6⟩, h7⟩)
            · exact hN h5
            · have hne : j ≠ i := by
                rintro rfl
                rw [set_self hlt] at h6; cases h6
              refine hne (h.alinj j i id ⟨h5, ?_⟩ hpend h7 hf)
              rw [getD_set_ne false (Ne.symm hne)] at h6; exact h6
          have hle := Rho.put_le (L := ⟨w.heap.size, n, 0⟩) hno.1
          have hM := hM0.real (id := id) (ob := p.1) (o := o') (L := ⟨w.heap.size, n, 0⟩) (fun ob' hob' => by rw [hob] at hob'; cases hob'; exact e2) hno.2 hno.1 hNP hro rfl (h3 _ hle)
          unfold Oper.wp
          rw [h1]
          exact hK _ _ _ hle (h.list hA ho hr hd hle hM fun d' hd' => by rw [hdst] at hd'; cases hd'; rw [e1]; exact h4 _ _ Rho.put_same)
        · cases hc
      · cases hc
end
end Go.Proofs.YtjifnmilimdfdaaGreatDoor.Ab
/- Regions whose order is open: all of one. -/
set_option linter.unusedVariables false
set_option linter.unusedSimpArgs false
set_option linter.unnecessarySimpa false
namespace Go.Proofs.YtjifnmilimdfdaaGreatDoor.Ab
open Go Go.RowKit

def cnt (l : List Bool) : Nat := (l.filter (!·)).length
theorem cnt_set : ∀ (l : List Bool) (i : Nat), l[i]? = some false → cnt (l.set i true) + 1 = cnt l
  | [], i, h => by simp at h
  | b :: l, 0, h => by
    simp only [List.getElem?_cons_zero, Option.some.injEq] at h
    subst h
    simp [cnt]
  | b :: l, i + 1, h => by
    have := cnt_set l i (by simpa using h)
    cases b <;> simp [cnt] at this ⊢ <;> omega
theorem cnt_zero : ∀ {l : List Bool} {i : Nat} {b : Bool}, cnt l = 0 → l[i]? = some b → b = true
  | [], i, b, h, hi => by simp at hi
  | x :: l, i, b, h, hi => by
    cases x with
    | false => simp [cnt] at h
    | true =>
      have h' : cnt l = 0 := by simpa [cnt] using h
      cases i with
      | zero => simpa using hi.symm
      | succ i => exact cnt_zero h' (by simpa using hi)
section
variable {E : Env} {N : Nat → Prop} {ρ : Rho} {st : St} {W w : World} {ops : Array Oper} {fr : Fr} {a : Act} {done forced : Nat} {al : List (Nat × Nat)} {listed : Array Bool}
/-- None is ready: all are listed. -/
theorem none_ready {ms : PT Nat} (hk : MK ops ms) (hs : listed.size = ops.size) (hr : Region.ready .any ops listed = []) : ∀ j, j < ops.size → listed.getD j false = true := by
  intro j
  induction j using Nat.strongRecOn with
  | _ j ih =>
    intro hj
    cases hl : listed.getD j true with
    | true =>
      rw [Array.getD_eq_getD_getElem?] at hl ⊢
      have : j < listed.size := by omega
      simpa [this] using hl
    | false =>
      exfalso
      have ho : ops[j]? = some ops[j] := by simp [hj]
      have : j ∈ Region.ready .any ops listed := mem_ready.2 ⟨hl, _, ho, fun e he hb => by
        have hlt := hk.back j _ ho e (by simpa using he) hb
        exact ih e.on hlt (by omega)⟩
      rw [hr] at this
      cases this
theorem stepA_loud {P : Program} {ro : Nat} {o : Oper} (hq : quietOp P o.op = false) : stepA P ro fr st o.op = loudA P ro fr st o.op := by
  unfold quietOp at hq
  rw [stepA_eq]
  unfold stepS
  split at hq
  · rename_i hk; rw [hk]
  · cases hq
theorem blur_spec : ∀ (l : List Oper) (X : Nat → Prop) (fr : Fr), FX X ρ fr a → FX (fun t => X t ∧ ∀ o ∈ l, o.dst ≠ some t) ρ (blur l fr) a
  | [], X, fr, h => ⟨h.size, fun t ht => h.get t fun hx => ht ⟨hx, fun o ho => by cases ho⟩, h.glob, h.ds⟩
  | o :: r, X, fr, h => by
    simp only [blur]
    split
    · rename_i d hd
      have h1 : FX (fun t => X t ∧ t ≠ d) ρ { fr with t := fr.t.set d .top } a := by
        refine ⟨h.size, fun t ht => ?_, h.glob, h.ds⟩
        simp only [Fr.get]
        split
        · rename_i u hu
          rcases PT.get_set hu with ⟨_, rfl⟩ | ⟨hne, hu'⟩
          · exact .top _
          · have := h.get t fun hx => ht ⟨hx, hne⟩
            simp only [Fr.get, hu'] at this
            exact this
        · exact .top _
      have h2 := blur_spec r _ _ h1
      refine ⟨h2.size, fun t ht => h2.get t fun hx => ht ⟨hx.1.1, fun o' ho' => ?_⟩, h2.glob, h2.ds⟩
      rcases List.mem_cons.1 ho' with rfl | ho'
      · rw [hd]
        intro e
        cases e
        exact hx.1.2 rfl
      · exact hx.2 o' ho'
    · rename_i hd
      have h2 := blur_spec r _ _ h
      refine ⟨h2.size, fun t ht => h2.get t fun hx => ht ⟨hx.1, fun o' ho' => ?_⟩, h2.glob, h2.ds⟩
      rcases List.mem_cons.1 ho' with rfl | ho'
      · rw [hd]; exact fun e => by cases e
      · exact hx.2 o' ho'
/-- A loud one has been run. -/
theorem Inv.ran {ms : PT Nat} (h : Inv E ops N ρ W w a fr st done forced al listed) (hk : MK ops ms) {i m : Nat} {o : Oper} (ho : ops[i]? = some o) (hr : i ∈ Region.ready .any ops listed) (hd : bit done i = false) (hm : ms.get i = some m)
    {ρ' : Rho} {w' : World} {q : Value} {v : AV} {fr' : Fr} {st' : St} (hle : ρ.le ρ') (hM : MR (NP N al done listed) ρ' E.ro st' W w') (hp : fr.put o.dst v = .ok fr') (hv : VR ρ' v q) :
    Inv E ops N ρ' W w' (a.put o.dst q) fr' st' (Nat.lor done (Nat.pow 2 i)) (Nat.lor forced (Nat.lor m (Nat.pow 2 i))) al (listed.setIfInBounds i true) := by
  have hi := (mem_ready.1 hr).1
  have hlt := lt_of_getD hi
  have hpd : ∀ j, Pend (Nat.lor done (Nat.pow 2 i)) (listed.setIfInBounds i true) j → Pend done listed j := by
    rintro j ⟨h1, h2⟩
    have hne : j ≠ i := by
      rintro rfl
      rw [set_self hlt] at h2; cases h2
    refine ⟨(bit_or h1).resolve_right hne, ?_⟩
    rw [getD_set_ne false (Ne.symm hne)] at h2; exact h2
  refine ⟨by simp [h.size], fun j hj => ?_, fun j o' ho' hp' => h.quiet j o' ho' (hpd j hp'), fun j o' e ho' hj he hb => ?_, fun j hj => ?_, fun j id hj => by rw [bit_lor, h.ald j id hj]; rfl, fun j id hp' hf => h.alro j id (hpd j hp') hf, fun j k id hj hk' h1 h2 => h.alinj j k id (hpd j hj) (hpd k hk') h1 h2, fun j o' d ho' hb hdst => ?_, ?_, ?_⟩
  · rcases set_or hj with h1 | rfl
    · rw [bit_lor, h.sub j h1]; rfl
    · rw [bit_lor, bit_pow]; simp
  · rcases set_or hj with h1 | rfl
    · exact getD_set_true (h.closed j o' e ho' h1 he hb)
    · exact getD_set_true (ready_edges hr o' e ho' he hb)
  · rw [bit_lor, bit_lor, bit_pow] at hj
    simp only [Bool.or_eq_true, decide_eq_true_eq] at hj
    rcases hj with hj | hj | hj
    · exact getD_set_true (h.forced j hj)
    · exact getD_set_true (h.deps (hk.dep i m hm j hj) (ready_edges hr))
    · subst hj; exact set_self hlt
  · rw [(Fr.put_n hp).1]
    rcases bit_or hb with h1 | rfl
    · exact h.rng j o' d ho' h1 hdst
    · rw [ho] at ho'; cases ho'; exact put_lt hp d hdst
  · refine hM.weaken fun id hid => ?_
    rcases hid with hid | ⟨j, h1, h2⟩
    · exact .inl hid
    · exact .inr ⟨j, hpd j h1, h2⟩
  · have h1 := (h.fx.mono hle).put hp hv
    refine ⟨h1.size, fun t ht => h1.get t fun ⟨j, o', h2, h3, h4⟩ => ht ⟨j, o', h2, ?_, h4⟩, h1.glob, h1.ds⟩
    obtain ⟨h5, h6⟩ := h3
    have hne : j ≠ i := by
      rintro rfl
      rw [hd] at h5; cases h5
    exact ⟨by rw [bit_lor, h5]; rfl, by rw [getD_set_ne false (Ne.symm hne)]; exact h6⟩
theorem Inv.panicked (h : Inv E ops N ρ W w a fr st done forced al listed) {ρ0 ρ' : Rho} {w' : World} {st' : St} {ch : List (AV × Bool)} {chain : List PanicEntry} (h0 : ρ0.le ρ) (hle : ρ.le ρ') (hM : MR (NP N al done listed) ρ' E.ro st' W w') (hc : ChR ρ' ch chain) :
    ExR N ρ0 E.ro W (.panic ch) (blur ops.toList fr) st' (.panic chain) a w' := by
  have h1 := blur_spec ops.toList _ fr (h.fx.mono hle)
  refine ⟨ρ', Rho.le_trans h0 hle, hM.weaken fun id hid => .inl hid, ⟨h1.size, fun t _ => h1.get t fun ⟨⟨j, o, h2, _, h4⟩, h5⟩ => ?_, h1.glob, h1.ds⟩, hc⟩
  exact h5 o (by simpa using Array.mem_of_getElem? h2) h4
end
end Go.Proofs.YtjifnmilimdfdaaGreatDoor.Ab
/- Regions whose order is open: the end. -/
set_option linter.unusedVariables false
set_option linter.unusedSimpArgs false
set_option linter.unnecessarySimpa false
namespace Go.Proofs.YtjifnmilimdfdaaGreatDoor.Ab
open Go Go.RowKit

section
variable {E : Env} {N : Nat → Prop} {W : World} {ops : Array Oper}
theorem drawA_run {call : FuncId → List AV → St → Rs (En × St)} (hcall : SCall E call) {ms : PT Nat} (hk : MK ops ms) (hA : AP E.P ops ms) {ex : Ex} {fr' : Fr} {st' : St} {ρ0 : Rho} : ∀ (n : Nat) (fr : Fr) (st : St) (done forced : Nat) (al : List (Nat × Nat)),
    drawA call E.P E.ro ms ops.toList n fr st done forced al = .ok (ex, fr', st') → ∀ (fuel : Nat) (listed : Array Bool) (ρ : Rho) (a : Act) (w : World), cnt listed.toList ≤ fuel → ρ0.le ρ → Gl ρ E.gl → Inv E ops N ρ W w a fr st done forced al listed →
    wpAny E.P .any ops (ExR N ρ0 E.ro W ex fr' st') fuel listed a w := by
  intro n
  induction n with
  | zero => intro fr st done forced al h; cases h
  | succ n ihn =>
    intro fr st done forced al h fuel listed ρ a w hfuel h0 hg hI
    simp only [drawA] at h
    obtain ⟨⟨fr1, st1, done1, al1⟩, hset, h2⟩ := Rs.bind_ok h
    clear h
    have h := h2
    clear h2
    have hI2 := settleA_run (ops := ops) (l := ops.toList) (pre := []) rfl hset hI
    clear hset hI
    have hI := hI2
    clear hI2
    simp only at h
    split at h
    · cases h
    rename_i hchk
    have hchk' := fun (j : Nat) (o : Oper) (ho : ops[j]? = some o) (hq : quietOp E.P o.op = true) => by
      have := chkAll_spec hchk j o (by simpa using ho) hq
      rw [Nat.zero_add] at this
      exact this
    have fin : ∀ (listed : Array Bool) (ρ : Rho) (a : Act) (w : World), ρ0.le ρ → Inv E ops N ρ W w a fr1 st1 done1 forced al1 listed → Region.ready .any ops listed = [] → ExR N ρ0 E.ro W ex fr' st' .normal a w := by
      intro listed ρ a w h0 hI hr
      have hall := none_ready hk hI.size hr
      split at h
      · cases h
        refine ⟨ρ, h0, hI.mr.weaken fun id hid => .inl hid, ⟨hI.fx.size, fun t _ => hI.fx.get t fun ⟨j, o, h1, h2, h3⟩ => ?_, hI.fx.glob, hI.fx.ds⟩, trivial⟩
        have := hall j (Array.getElem?_eq_some_iff.1 h1).1
        rw [h2.2] at this; cases this
      · rename_i i o hn
        obtain ⟨p, rfl, h1, _, h3⟩ := nextLoud_some hn
        rw [Nat.zero_add] at h3
        have hp : ops[p]? = some o := by simpa using h1
        have := hI.sub p (hall p (Array.getElem?_eq_some_iff.1 hp).1)
        rw [h3] at this; cases this
    -- in the order of the world
    induction fuel generalizing listed ρ a w with
    | zero =>
      have hall : Region.ready .any ops listed = [] := by
        cases hr : Region.ready .any ops listed with
        | nil => rfl
        | cons j _ =>
          have hj : j ∈ Region.ready .any ops listed := by rw [hr]; exact List.mem_cons_self
          have h1 := (mem_ready.1 hj).1
          have h2 := lt_of_getD h1
          have h3 := cnt_zero (l := listed.toList) (i := j) (b := listed[j]) (by omega) (by simp [h2])
          rw [Array.getD_eq_getD_getElem?] at h1
          simp [h2, h3] at h1
      exact ⟨hall, fin listed ρ a w h0 hI hall⟩
    | succ fuel ih =>
      refine ⟨fun hall => fin listed ρ a w h0 hI hall, fun i hi => ?_⟩
      obtain ⟨hiun, o, ho, _⟩ := mem_ready.1 hi
      have hlt := lt_of_getD hiun
      have hL := getD_false_true hiun
      have hcnt : cnt (listed.setIfInBounds i true).toList ≤ fuel := by
        have h1 : listed.toList[i]? = some false := by
          rw [Array.getD_eq_getD_getElem?] at hiun
          simp only [hlt, Array.getElem?_eq_getElem, Option.getD_some] at hiun
          simp [hlt, hiun]
        have := cnt_set listed.toList i h1
        rw [Array.toList_setIfInBounds]
        omega
      cases hd : bit done1 i with
      | true =>
        have hq := hI.quiet i o ho ⟨hd, hL⟩
        have hf : bit forced i = false := by
          cases hf : bit forced i with
          | false => rfl
          | true => rw [hI.forced i hf] at hL; cases hL
        exact pend_step hI hA ho hi hd ((hchk' i o ho hq).1 hd hf) fun ρ' a' w' hle hI' => ih _ ρ' a' w' hcnt (Rho.le_trans h0 hle) (hg.mono hle) hI'
      | false =>
        have hq : quietOp E.P o.op = false := by
          cases hq : quietOp E.P o.op with
          | false => rfl
          | true =>
            obtain ⟨m, hm, hin⟩ := (hchk' i o ho hq).2 hd
            have := inside_of (a := m) (b := done1) fun j hj => hI.sub j (hI.deps (hk.dep i m hm j hj) (ready_edges hi))
            rw [hin] at this; cases this
        split at h
        · rename_i hn
          have := nextLoud_none hn i o (by simpa using ho) hq
          rw [Nat.zero_add, hd] at this; cases this
        · rename_i i' o' hn
          obtain ⟨p, hp0, hp1, hp2, hp3⟩ := nextLoud_some hn
          rw [Nat.zero_add] at hp0
          subst hp0
          have hp : ops[i']? = some o' := by simpa using hp1
          split at h
          case h_2 => cases h
          rename_i m hm hoth
          have hii : i = i' := by
            by_cases hne : i = i'
            · exact hne
            · exfalso
              obtain ⟨m', h1, h2⟩ := othersAfter_spec hoth i o (by simpa using ho) hq (by rw [Nat.zero_add]; exact hd) (by rw [Nat.zero_add]; exact hne)
              rw [Nat.zero_add] at h1
              have := hI.sub i' (hI.deps (hk.dep i m' h1 i' h2) (ready_edges hi))
              rw [hp3] at this; cases this
          subst hii
          rw [ho] at hp; cases hp
          have hlooks := hI.looks hA ho hi
          unfold wpOp
          rw [ho]
          simp only
          split at h
          · cases h
          · rename_i hgd
            have hw := guardA_run hI.fx (fun j want p d h1 h2 h3 => hlooks d (looks_guard h1 h2 h3)) hgd
            rw [if_neg (by rw [hw]; exact Bool.false_ne_true)]
            obtain ⟨fr2, hput, h⟩ := Rs.bind_ok h
            exact ihn _ _ _ _ _ h fuel _ ρ _ w hcnt h0 hg (hI.ran hk ho hi hd hm (Rho.le_refl _) hI.mr hput undef_tup)
          · rename_i hgd
            have hw := guardA_run hI.fx (fun j want p d h1 h2 h3 => hlooks d (looks_guard h1 h2 h3)) hgd
            rw [if_pos hw]
            left
            have hX : ∀ t, Operand.tmp t ∈ o.op.operands → ¬ XP ops done1 listed t := fun t ht => hlooks t (looks_op ht)
            split at h
            · cases h
            all_goals rename_i hs
            · rw [← stepA_loud hq] at hs
              refine step_wp hcall hI.mr hI.fx hX hg hs (fun v st2 e ρ' q w' h1 h2 h3 => ?_) (fun _ e => by cases e) (fun _ e => by cases e) (fun _ _ e => by cases e) (fun _ e => by cases e)
              cases e
              obtain ⟨fr2, hput, h⟩ := Rs.bind_ok h
              exact ihn _ _ _ _ _ h fuel _ ρ' _ w' hcnt (Rho.le_trans h0 h1) (hg.mono h1) (hI.ran hk ho hi hd hm h1 h2 hput h3)
            · rw [← stepA_loud hq] at hs
              refine step_wp hcall hI.mr hI.fx hX hg hs (fun v st1 e => by cases e) (fun st1 e w' h1 => ?_) (fun _ e => by cases e) (fun _ _ e => by cases e) (fun _ e => by cases e)
              cases e
              obtain ⟨fr2, hput, h⟩ := Rs.bind_ok h
              exact ihn _ _ _ _ _ h fuel _ ρ _ w' hcnt h0 hg (hI.ran hk ho hi hd hm (Rho.le_refl _) h1 hput undef_tup)
            · rw [← stepA_loud hq] at hs
              refine step_wp hcall hI.mr hI.fx hX hg hs (fun v st1 e => by cases e) (fun _ e => by cases e) (fun _ e => by cases e) (fun f args e => ?_) (fun _ e => by cases e)
              cases e
              split at h
              · cases h
              · rename_i v st2 hc
                refine ⟨_, _, hc, fun ρ' w' h1 h2 => ⟨fun v' q e hv => ?_, fun ch chain e => by cases e⟩⟩
                cases e
                obtain ⟨fr2, hput, h⟩ := Rs.bind_ok h
                exact ihn _ _ _ _ _ h fuel _ ρ' _ w' hcnt (Rho.le_trans h0 h1) (hg.mono h1) (hI.ran hk ho hi hd hm h1 h2 hput hv)
              · rename_i ch st2 hc
                refine ⟨_, _, hc, fun ρ' w' h1 h2 => ⟨(fun v' q e hv => by cases e), fun ch chain e hch => ?_⟩⟩
                cases e
                cases h
                exact hI.panicked h0 h1 h2 hch
            · rw [← stepA_loud hq] at hs
              refine step_wp hcall hI.mr hI.fx hX hg hs (fun v st1 e => by cases e) (fun _ e => by cases e) (fun _ e => by cases e) (fun f args e => by cases e) (fun v e q hv => ?_)
              cases e
              cases h
              exact hI.panicked h0 (Rho.le_refl _) hI.mr (.cons _ _ _ _ _ hv .nil)
            · cases h
theorem draw_sound (E : Env) (hmix : E.P.follows .mixedOrders = true) : SDraw E := by
  intro call hcall id ops fr st ex fr' st' h N ρ W w a hM hf hg
  unfold evDraw at h
  obtain ⟨ms, hms, h⟩ := Rs.bind_ok h
  split at h
  case h_2 => cases h
  rename_i hap
  have hk : MK ops ms := masksOf_spec (l := ops.toList) (pre := []) rfl (fun i o hi => absurd hi (Nat.not_lt_zero _)) (fun i x hx => by cases hx) (fun i x hx => by cases hx) hms
  have hA := AP.of hk hap
  have hpend : ∀ {listed j}, ¬ Pend 0 listed j := fun ⟨h1, _⟩ => by rw [bit_zero] at h1; cases h1
  have hlist : ∀ j, (Array.replicate ops.size false).getD j false = false := by
    intro j
    rw [Array.getD_eq_getD_getElem?, Array.getElem?_replicate]
    split <;> rfl
  refine wp_region_any hmix ?_
  refine drawA_run hcall hk hA _ fr st 0 0 [] h ops.size _ ρ a _ ?_ (Rho.le_refl _) hg ?_
  · rw [Array.toList_replicate]
    exact Nat.le_trans (List.length_filter_le _ _) (by simp)
  · refine ⟨by simp, fun j hj => ?_, fun j o ho hp => (hpend hp).elim, fun i o e ho hi => ?_, fun j hj => ?_, (fun i id hi => by cases hi), fun i id hp => (hpend hp).elim, fun i j id hp => (hpend hp).elim, fun j o d ho hb => ?_, ?_, ?_⟩
    · rw [hlist] at hj; cases hj
    · rw [hlist] at hi; cases hi
    · rw [bit_zero] at hj; cases hj
    · rw [bit_zero] at hb; cases hb
    · refine (hM.drawn _).weaken fun id hid => ?_
      rcases hid with hid | ⟨j, h1, _⟩
      · exact hid
      · exact (hpend h1).elim
    · exact ⟨hf.size, fun t _ => hf.get t (fun x => x), hf.glob, hf.ds⟩
end
end Go.Proofs.YtjifnmilimdfdaaGreatDoor.Ab
