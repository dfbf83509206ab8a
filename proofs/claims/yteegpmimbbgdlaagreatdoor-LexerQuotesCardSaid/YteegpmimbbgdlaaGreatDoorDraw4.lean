/- Regions whose order is open: a step in the world. -/
import Derived.Test.YteegpmimbbgdlaaGreatDoorDraw3
set_option linter.unusedVariables false
set_option linter.unusedSimpArgs false
set_option linter.unnecessarySimpa false
namespace Go.Proofs.YteegpmimbbgdlaaGreatDoor.Ab
open Go Go.RowKit

section
variable {E : Env} {N : Nat → Prop} {ρ : Rho} {st : St} {W w : World} {ops : Array Oper} {fr : Fr} {a : Act} {done forced : Nat} {al : List (Nat × Nat)} {listed : Array Bool}
theorem getD_false_true {listed : Array Bool} {j : Nat} : listed.getD j true = false → listed.getD j false = false := by
  intro h
  rw [Array.getD_eq_getD_getElem?] at h ⊢
  cases hj : listed[j]? with
  | none => rfl
  | some b => rw [hj] at h; exact h
theorem lt_of_getD {listed : Array Bool} {j : Nat} (h : listed.getD j true = false) : j < listed.size := by
  rw [Array.getD_eq_getD_getElem?] at h
  cases hj : listed[j]? with
  | none => rw [hj] at h; cases h
  | some b => exact (Array.getElem?_eq_some_iff.1 hj).1
theorem set_self {listed : Array Bool} {i : Nat} (hi : i < listed.size) : (listed.setIfInBounds i true).getD i false = true := by
  simp [hi]
theorem set_or {listed : Array Bool} {i j : Nat} (h : (listed.setIfInBounds i true).getD j false = true) : listed.getD j false = true ∨ j = i := by
  by_cases hij : i = j
  · exact .inr hij.symm
  · rw [getD_set_ne false hij] at h; exact .inl h
theorem Inv.deps (h : Inv E ops N ρ W w a fr st done forced al listed) {i j : Nat} (hd : Dep ops i j) : (∀ o e, ops[i]? = some o → e ∈ o.after.toList → Region.binds .any e = true → listed.getD e.on false = true) → listed.getD j false = true := by
  induction hd with
  | one i j o e ho he hb hj => intro hr; rw [hj]; exact hr o e ho he hb
  | far i j k o e ho he hb hj _ ih =>
    intro hr
    have hj' : listed.getD j false = true := by rw [hj]; exact hr o e ho he hb
    exact ih fun o' e' ho' he' hb' => h.closed j o' e' ho' hj' he' hb'
theorem ready_edges {i : Nat} (hr : i ∈ Region.ready .any ops listed) : ∀ o e, ops[i]? = some o → e ∈ o.after.toList → Region.binds .any e = true → listed.getD e.on false = true := by
  obtain ⟨_, o', ho', hall⟩ := mem_ready.1 hr
  intro o e ho he hb
  rw [ho] at ho'; cases ho'
  exact hall e (by simpa using he) hb
/-- What a ready one looks at is there. -/
theorem Inv.looks {ms : PT Nat} (h : Inv E ops N ρ W w a fr st done forced al listed) (hA : AP E.P ops ms) {i : Nat} {o : Oper} (ho : ops[i]? = some o) (hr : i ∈ Region.ready .any ops listed) : ∀ t ∈ looksAtA ops.toList o, ¬ XP ops done listed t := by
  rintro t ht ⟨j, o', hj, hp, hdst⟩
  by_cases hij : i = j
  · subst hij
    rw [ho] at hj; cases hj
    exact hA.self i o t ho hdst ht
  · rcases hA.look i j o o' t hij ho hj hdst ht with h1 | h1
    · have := h.deps h1 (ready_edges hr)
      rw [hp.2] at this; cases this
    · rw [h.quiet j o' hj hp] at h1; cases h1
theorem looks_op {o : Oper} {t : Nat} (h : Operand.tmp t ∈ o.op.operands) : t ∈ looksAtA ops.toList o := by
  have h1 : ∀ l : List Operand, Operand.tmp t ∈ l → t ∈ tmpsOf l := by
    intro l
    induction l with
    | nil => intro h; cases h
    | cons x l ih =>
      intro h
      rcases List.mem_cons.1 h with h' | h'
      · subst h'; exact List.mem_cons_self
      · cases x <;> first | exact List.mem_cons_of_mem _ (ih h') | exact ih h'
  have h2 := h1 o.op.operands.toList (by simpa using h)
  unfold looksAtA
  split
  · exact h2
  · split
    · split
      · exact List.mem_cons_of_mem _ h2
      · exact h2
    · exact h2
theorem looks_guard {o p : Oper} {j : Nat} {want : Bool} {d : Nat} (hg : o.guard = some (j, want)) (hp : ops[j]? = some p) (hd : p.dst = some d) : d ∈ looksAtA ops.toList o := by
  have hp' : ops.toList[j]? = some p := by simpa using hp
  unfold looksAtA
  rw [hg]
  simp only [hp', hd]
  exact List.mem_cons_self
/-- One that was pending is listed. -/
theorem Inv.list {ms : PT Nat} (h : Inv E ops N ρ W w a fr st done forced al listed) (hA : AP E.P ops ms) {i : Nat} {o : Oper} (ho : ops[i]? = some o) (hr : i ∈ Region.ready .any ops listed) (hd : bit done i = true) {ρ' : Rho} {w' : World} {q : Value} (hle : ρ.le ρ')
    (hM : MR (NP N al done (listed.setIfInBounds i true)) ρ' E.ro st W w') (hv : ∀ d, o.dst = some d → VR ρ' (fr.get (.tmp d)) q) : Inv E ops N ρ' W w' (a.put o.dst q) fr st done forced al (listed.setIfInBounds i true) := by
  have hi := (mem_ready.1 hr).1
  have hlt := lt_of_getD hi
  have hpd : ∀ j, Pend done (listed.setIfInBounds i true) j → Pend done listed j ∧ j ≠ i := by
    rintro j ⟨h1, h2⟩
    have hne : j ≠ i := by
      rintro rfl
      rw [set_self hlt] at h2; cases h2
    exact ⟨⟨h1, by rw [getD_set_ne false (Ne.symm hne)] at h2; exact h2⟩, hne⟩
  refine ⟨by simp [h.size], fun j hj => ?_, fun j o' ho' hp => h.quiet j o' ho' (hpd j hp).1, fun j o' e ho' hj he hb => ?_, fun j hj => getD_set_true (h.forced j hj), h.ald, fun j id hp hf => h.alro j id (hpd j hp).1 hf, fun j k id hj hk h1 h2 => h.alinj j k id (hpd j hj).1 (hpd k hk).1 h1 h2, h.rng, hM, ?_⟩
  · rcases set_or hj with h1 | rfl
    · exact h.sub j h1
    · exact hd
  · rcases set_or hj with h1 | rfl
    · exact getD_set_true (h.closed j o' e ho' h1 he hb)
    · exact getD_set_true (ready_edges hr o' e ho' he hb)
  · refine (h.fx.mono hle).rput (fun t ⟨j, o', h1, h2, h3⟩ => ?_) (fun t ht => ⟨h.rng i o t ho hd ht, hv t ht⟩)
    by_cases hji : j = i
    · subst hji
      rw [ho] at h1; cases h1
      exact .inr h3
    · exact .inl ⟨j, o', h1, ⟨h2.1, by rw [getD_set_ne false (Ne.symm hji)]; exact h2.2⟩, h3⟩
theorem NP_list {i id : Nat} (h : NP N al done (listed.setIfInBounds i true) id) : NP N al done listed id := by
  rcases h with h | ⟨j, ⟨h1, h2⟩, h3⟩
  · exact .inl h
  · refine .inr ⟨j, ⟨h1, ?_⟩, h3⟩
    cases hl : listed.getD j false with
    | false => rfl
    | true => rw [getD_set_true hl] at h2; cases h2
theorem pend_step {ms : PT Nat} (h : Inv E ops N ρ W w a fr st done forced al listed) (hA : AP E.P ops ms) {i : Nat} {o : Oper} (ho : ops[i]? = some o) (hr : i ∈ Region.ready .any ops listed) (hd : bit done i = true)
    (hc : chkOne E.P ops.toList fr st al i o = true) {K : Act → World → Prop} {Q : Exit → Act → World → Prop}
    (hK : ∀ ρ' a' w', ρ.le ρ' → Inv E ops N ρ' W w' a' fr st done forced al (listed.setIfInBounds i true) → K a' w') : wpOp E.P ops Q i K a w := by
  have hi := (mem_ready.1 hr).1
  have hpend : Pend done listed i := ⟨hd, getD_false_true hi⟩
  have hlooks := h.looks hA ho hr
  have hq := h.quiet i o ho hpend
  have hM0 : MR (NP N al done (listed.setIfInBounds i true)) ρ E.ro st W w := h.mr.weaken fun id => NP_list
  have he : ∀ x ∈ o.op.operands.toList, VR ρ (fr.get x) (a.eval x) := fun x hx => h.fx.eval x (fun t ht => hlooks t (looks_op (by subst ht; simpa using hx)))
  unfold wpOp
  rw [ho]
  simp only
  unfold chkOne at hc
  split at hc
  · cases hc
  · rename_i hg
    have hw := guardA_run h.fx (fun j want p d h1 h2 h3 => hlooks d (looks_guard h1 h2 h3)) hg
    rw [if_neg (by rw [hw]; exact Bool.false_ne_true)]
    refine hK ρ _ w (Rho.le_refl _) (h.list hA ho hr hd (Rho.le_refl _) hM0 fun d hdst => ?_)
    rw [hdst] at hc
    simp only at hc
    rw [same_eq _ _ _ hc]
    exact undef_tup
  · rename_i hg
    have hw := guardA_run h.fx (fun j want p d h1 h2 h3 => hlooks d (looks_guard h1 h2 h3)) hg
    rw [if_pos hw]
    left
    split at hc
    · rename_i hk
      unfold quietOp at hq
      rw [hk] at hq; cases hq
    · rename_i hk
      have key : ∀ v, pureA E.P fr st o.op = .ok v → (∀ d, o.dst = some d → fr.get (.tmp d) = v) → o.wp E.P a w K Q := by
        intro v hv hdst
        obtain ⟨q, h1, h2⟩ := pureA_run h.mr he hv
        unfold Oper.wp
        rw [h1]
        exact hK ρ _ w (Rho.le_refl _) (h.list hA ho hr hd (Rho.le_refl _) hM0 fun d hd' => by rw [hdst d hd']; exact h2)
      split at hc
      · rename_i v d hv hdst
        exact key v hv fun d' hd' => by rw [hdst] at hd'; cases hd'; exact same_eq _ _ _ hc
      · rename_i v hv hdst
        exact key v hv fun d' hd' => by rw [hdst] at hd'; cases hd'
      · cases hc
    · rename_i hk
      split at hc
      · rename_i p d id hp hdst hf
        split at hc
        · rename_i ob hob
          simp only [Bool.and_eq_true] at hc
          have e1 := same_eq _ _ _ hc.1
          have e2 := eqOb_eq hc.2
          obtain ⟨v, o', n, h1, h2, h3, h4⟩ := allocA_run he hp w
          have hno := h.mr.no id (.inr ⟨i, hpend, hf⟩)
          obtain ⟨hro, hN⟩ := h.alro i id hpend hf
          have hlt := lt_of_getD hi
          have hNP : ¬ NP N al done (listed.setIfInBounds i true) id := by
            rintro (h5 | ⟨j, ⟨h5, h6⟩, h7⟩)
            · exact hN h5
            · have hne : j ≠ i := by
                rintro rfl
                rw [set_self hlt] at h6; cases h6
              refine hne (h.alinj j i id ⟨h5, ?_⟩ hpend h7 hf)
              rw [getD_set_ne false (Ne.symm hne)] at h6; exact h6
          have hle := Rho.put_le (L := ⟨w.heap.size, n, 0⟩) hno.1
          have hM := hM0.real (id := id) (ob := p.1) (o := o') (L := ⟨w.heap.size, n, 0⟩) (fun ob' hob' => by rw [hob] at hob'; cases hob'; exact e2) hno.2 hno.1 hNP hro rfl (h3 _ hle)
          unfold Oper.wp
          rw [h1]
          exact hK _ _ _ hle (h.list hA ho hr hd hle hM fun d' hd' => by rw [hdst] at hd'; cases hd'; rw [e1]; exact h4 _ _ Rho.put_same)
        · cases hc
      · cases hc
end
end Go.Proofs.YteegpmimbbgdlaaGreatDoor.Ab
