/- Regions whose order is open: all of one. -/
import Derived.Test.YteegpmimbbgdlaaGreatDoorDraw4
set_option linter.unusedVariables false
set_option linter.unusedSimpArgs false
set_option linter.unnecessarySimpa false
namespace Go.Proofs.YteegpmimbbgdlaaGreatDoor.Ab
open Go Go.RowKit

def cnt (l : List Bool) : Nat := (l.filter (!·)).length
theorem cnt_set : ∀ (l : List Bool) (i : Nat), l[i]? = some false → cnt (l.set i true) + 1 = cnt l
  | [], i, h => by simp at h
  | b :: l, 0, h => by
    simp only [List.getElem?_cons_zero, Option.some.injEq] at h
    subst h
    simp [cnt]
  | b :: l, i + 1, h => by
    have := cnt_set l i (by simpa using h)
    cases b <;> simp [cnt] at this ⊢ <;> omega
theorem cnt_zero : ∀ {l : List Bool} {i : Nat} {b : Bool}, cnt l = 0 → l[i]? = some b → b = true
  | [], i, b, h, hi => by simp at hi
  | x :: l, i, b, h, hi => by
    cases x with
    | false => simp [cnt] at h
    | true =>
      have h' : cnt l = 0 := by simpa [cnt] using h
      cases i with
      | zero => simpa using hi.symm
      | succ i => exact cnt_zero h' (by simpa using hi)
section
variable {E : Env} {N : Nat → Prop} {ρ : Rho} {st : St} {W w : World} {ops : Array Oper} {fr : Fr} {a : Act} {done forced : Nat} {al : List (Nat × Nat)} {listed : Array Bool}
/-- None is ready: all are listed. -/
theorem none_ready {ms : PT Nat} (hk : MK ops ms) (hs : listed.size = ops.size) (hr : Region.ready .any ops listed = []) : ∀ j, j < ops.size → listed.getD j false = true := by
  intro j
  induction j using Nat.strongRecOn with
  | _ j ih =>
    intro hj
    cases hl : listed.getD j true with
    | true =>
      rw [Array.getD_eq_getD_getElem?] at hl ⊢
      have : j < listed.size := by omega
      simpa [this] using hl
    | false =>
      exfalso
      have ho : ops[j]? = some ops[j] := by simp [hj]
      have : j ∈ Region.ready .any ops listed := mem_ready.2 ⟨hl, _, ho, fun e he hb => by
        have hlt := hk.back j _ ho e (by simpa using he) hb
        exact ih e.on hlt (by omega)⟩
      rw [hr] at this
      cases this
theorem stepA_loud {P : Program} {ro : Nat} {o : Oper} (hq : quietOp P o.op = false) : stepA P ro fr st o.op = loudA P ro fr st o.op := by
  unfold quietOp at hq
  rw [stepA_eq]
  unfold stepS
  split at hq
  · rename_i hk; rw [hk]
  · cases hq
theorem blur_spec : ∀ (l : List Oper) (X : Nat → Prop) (fr : Fr), FX X ρ fr a → FX (fun t => X t ∧ ∀ o ∈ l, o.dst ≠ some t) ρ (blur l fr) a
  | [], X, fr, h => ⟨h.size, fun t ht => h.get t fun hx => ht ⟨hx, fun o ho => by cases ho⟩, h.glob, h.ds⟩
  | o :: r, X, fr, h => by
    simp only [blur]
    split
    · rename_i d hd
      have h1 : FX (fun t => X t ∧ t ≠ d) ρ { fr with t := fr.t.set d .top } a := by
        refine ⟨h.size, fun t ht => ?_, h.glob, h.ds⟩
        simp only [Fr.get]
        split
        · rename_i u hu
          rcases PT.get_set hu with ⟨_, rfl⟩ | ⟨hne, hu'⟩
          · exact .top _
          · have := h.get t fun hx => ht ⟨hx, hne⟩
            simp only [Fr.get, hu'] at this
            exact this
        · exact .top _
      have h2 := blur_spec r _ _ h1
      refine ⟨h2.size, fun t ht => h2.get t fun hx => ht ⟨hx.1.1, fun o' ho' => ?_⟩, h2.glob, h2.ds⟩
      rcases List.mem_cons.1 ho' with rfl | ho'
      · rw [hd]
        intro e
        cases e
        exact hx.1.2 rfl
      · exact hx.2 o' ho'
    · rename_i hd
      have h2 := blur_spec r _ _ h
      refine ⟨h2.size, fun t ht => h2.get t fun hx => ht ⟨hx.1, fun o' ho' => ?_⟩, h2.glob, h2.ds⟩
      rcases List.mem_cons.1 ho' with rfl | ho'
      · rw [hd]; exact fun e => by cases e
      · exact hx.2 o' ho'
/-- A loud one has been run. -/
theorem Inv.ran {ms : PT Nat} (h : Inv E ops N ρ W w a fr st done forced al listed) (hk : MK ops ms) {i m : Nat} {o : Oper} (ho : ops[i]? = some o) (hr : i ∈ Region.ready .any ops listed) (hd : bit done i = false) (hm : ms.get i = some m)
    {ρ' : Rho} {w' : World} {q : Value} {v : AV} {fr' : Fr} {st' : St} (hle : ρ.le ρ') (hM : MR (NP N al done listed) ρ' E.ro st' W w') (hp : fr.put o.dst v = .ok fr') (hv : VR ρ' v q) :
    Inv E ops N ρ' W w' (a.put o.dst q) fr' st' (Nat.lor done (Nat.pow 2 i)) (Nat.lor forced (Nat.lor m (Nat.pow 2 i))) al (listed.setIfInBounds i true) := by
  have hi := (mem_ready.1 hr).1
  have hlt := lt_of_getD hi
  have hpd : ∀ j, Pend (Nat.lor done (Nat.pow 2 i)) (listed.setIfInBounds i true) j → Pend done listed j := by
    rintro j ⟨h1, h2⟩
    have hne : j ≠ i := by
      rintro rfl
      rw [set_self hlt] at h2; cases h2
    refine ⟨(bit_or h1).resolve_right hne, ?_⟩
    rw [getD_set_ne false (Ne.symm hne)] at h2; exact h2
  refine ⟨by simp [h.size], fun j hj => ?_, fun j o' ho' hp' => h.quiet j o' ho' (hpd j hp'), fun j o' e ho' hj he hb => ?_, fun j hj => ?_, fun j id hj => by rw [bit_lor, h.ald j id hj]; rfl, fun j id hp' hf => h.alro j id (hpd j hp') hf, fun j k id hj hk' h1 h2 => h.alinj j k id (hpd j hj) (hpd k hk') h1 h2, fun j o' d ho' hb hdst => ?_, ?_, ?_⟩
  · rcases set_or hj with h1 | rfl
    · rw [bit_lor, h.sub j h1]; rfl
    · rw [bit_lor, bit_pow]; simp
  · rcases set_or hj with h1 | rfl
    · exact getD_set_true (h.closed j o' e ho' h1 he hb)
    · exact getD_set_true (ready_edges hr o' e ho' he hb)
  · rw [bit_lor, bit_lor, bit_pow] at hj
    simp only [Bool.or_eq_true, decide_eq_true_eq] at hj
    rcases hj with hj | hj | hj
    · exact getD_set_true (h.forced j hj)
    · exact getD_set_true (h.deps (hk.dep i m hm j hj) (ready_edges hr))
    · subst hj; exact set_self hlt
  · rw [(Fr.put_n hp).1]
    rcases bit_or hb with h1 | rfl
    · exact h.rng j o' d ho' h1 hdst
    · rw [ho] at ho'; cases ho'; exact put_lt hp d hdst
  · refine hM.weaken fun id hid => ?_
    rcases hid with hid | ⟨j, h1, h2⟩
    · exact .inl hid
    · exact .inr ⟨j, hpd j h1, h2⟩
  · have h1 := (h.fx.mono hle).put hp hv
    refine ⟨h1.size, fun t ht => h1.get t fun ⟨j, o', h2, h3, h4⟩ => ht ⟨j, o', h2, ?_, h4⟩, h1.glob, h1.ds⟩
    obtain ⟨h5, h6⟩ := h3
    have hne : j ≠ i := by
      rintro rfl
      rw [hd] at h5; cases h5
    exact ⟨by rw [bit_lor, h5]; rfl, by rw [getD_set_ne false (Ne.symm hne)]; exact h6⟩
theorem Inv.panicked (h : Inv E ops N ρ W w a fr st done forced al listed) {ρ0 ρ' : Rho} {w' : World} {st' : St} {ch : List (AV × Bool)} {chain : List PanicEntry} (h0 : ρ0.le ρ) (hle : ρ.le ρ') (hM : MR (NP N al done listed) ρ' E.ro st' W w') (hc : ChR ρ' ch chain) :
    ExR N ρ0 E.ro W (.panic ch) (blur ops.toList fr) st' (.panic chain) a w' := by
  have h1 := blur_spec ops.toList _ fr (h.fx.mono hle)
  refine ⟨ρ', Rho.le_trans h0 hle, hM.weaken fun id hid => .inl hid, ⟨h1.size, fun t _ => h1.get t fun ⟨⟨j, o, h2, _, h4⟩, h5⟩ => ?_, h1.glob, h1.ds⟩, hc⟩
  exact h5 o (by simpa using Array.mem_of_getElem? h2) h4
end
end Go.Proofs.YteegpmimbbgdlaaGreatDoor.Ab
