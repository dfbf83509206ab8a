/- Bodies and calls, at every depth. -/
import Derived.Test.YteegpmimbbgdlaaGreatDoorCode
set_option linter.unusedVariables false
set_option linter.unusedSimpArgs false
set_option linter.unnecessarySimpa false
namespace Go.Proofs.YteegpmimbbgdlaaGreatDoor.Ab
open Go Go.RowKit

/-- A loop is unrolled so often. -/
def wpN (P : Program) (n : Nat) (c : Code) (Q : Exit → Act → World → Prop) (a : Act) (w : World) : Prop := match c with
  | .loop b => Code.rounds P b Q n a w
  | c => c.wp P Q a w
def SCode (E : Env) (code : Code → Fr → St → Rs (Ex × Fr × St)) : Prop :=
  ∀ c fr st ex fr' st', code c fr st = .ok (ex, fr', st') → ∃ n, ∀ (N : Nat → Prop) (ρ : Rho) (W w : World) (a : Act), MR N ρ E.ro st W w → FR ρ fr a → Gl ρ E.gl → wpN E.P n c (ExR N ρ E.ro W ex fr' st') a w
def SCodeD (E : Env) (codeD : Code → Fr → Md → St → Rs (Ex × Fr × Md × St)) : Prop :=
  ∀ c fr u st ex fr' u' st', codeD c fr u st = .ok (ex, fr', u', st') → ∀ (N : Nat → Prop) (ρ : Rho) (W w : World) (a : Act) (m : FrameMode) (c₀ : Frame) (rest : List Frame), MR N ρ E.ro st W w → FR ρ fr a → Gl ρ E.gl → MdR ρ u m →
    c.wpS E.P (fun e a cs w => ∃ (ρ' : Rho) (m' : FrameMode), ρ.le ρ' ∧ MR N ρ' E.ro st' W w ∧ FR ρ' fr' a ∧ MdR ρ' u' m' ∧ cs = { c₀ with mode := m' } :: rest ∧ ExM ρ' ex e) a ({ c₀ with mode := m } :: rest) w
def SDraw (E : Env) : Prop :=
  ∀ call, SCall E call → ∀ (id : Nat) (ops : Array Oper) fr st ex fr' st', evDraw call E.P E.ro ops.toList fr st = .ok (ex, fr', st') → ∀ (N : Nat → Prop) (ρ : Rho) (W w : World) (a : Act), MR N ρ E.ro st W w → FR ρ fr a → Gl ρ E.gl → (Code.region id ops true).wp E.P (ExR N ρ E.ro W ex fr' st') a w
structure Fit (E : Env) : Prop where
  draw : SDraw E
  ext : ∀ f e, E.ext f = some e → ∀ args v st st', extA st E.mx e args = .ok (v, st') → ∀ (N : Nat → Prop) (ρ : Rho) (W w : World) (vs : Array Value), MR N ρ E.ro st W w → Gl ρ E.gl → VRs ρ args vs.toList → ∃ q w' ρ', (callFunc f vs).run E.P w = .ok (.value q) w' ∧ ρ.le ρ' ∧ MR N ρ' E.ro st' W w' ∧ VR ρ' v q
  name : ∀ (f : FuncId) (fn : Func), E.P.funcs[f]? = some fn → fn.body.isSome = true → (fn.name == "runtime.NumGoroutine") = false
  fast : ∀ f F, E.fast f = some F → ∀ call, SCall E call → ∀ args st en st', F call args st = .ok (en, st') → ∀ (N : Nat → Prop) (ρ : Rho) (W w : World) (vs : Array Value), MR N ρ E.ro st W w → Gl ρ E.gl → VRs ρ args vs.toList → CallsTo E.P f vs w (EnR N ρ E.ro W en st')
structure SEv (E : Env) (ih : Ev) : Prop where
  code : SCode E ih.code
  call : SCall E ih.call
  codeD : SCodeD E ih.codeD
  callD : SCallD E ih.callD
section
variable {E : Env} {N : Nat → Prop} {ρ : Rho} {st : St} {W w : World}
theorem rounds_mono {P : Program} {c : Code} {Q Q' : Exit → Act → World → Prop} (hq : ∀ e a w, Q e a w → Q' e a w) : ∀ (n : Nat) (a : Act) (w : World), Code.rounds P c Q n a w → Code.rounds P c Q' n a w
  | 0, _, _, h => h
  | n + 1, a, w, h => wp_mono h fun e a w he => by
    cases e <;> first
      | exact rounds_mono hq n a w he
      | exact hq _ _ _ he
theorem wpN_wp {P : Program} {n : Nat} {c : Code} {Q : Exit → Act → World → Prop} {a : Act} {w : World} (h : wpN P n c Q a w) : c.wp P Q a w := by
  cases c <;> first
    | exact h
    | exact wp_loop_rounds n h
theorem SCode.wp {code : Code → Fr → St → Rs (Ex × Fr × St)} (h : SCode E code) {c : Code} {fr : Fr} {st : St} {ex : Ex} {fr' : Fr} {st' : St} (h1 : code c fr st = .ok (ex, fr', st')) {a : Act} (hM : MR N ρ E.ro st W w) (hf : FR ρ fr a) (hg : Gl ρ E.gl) : c.wp E.P (ExR N ρ E.ro W ex fr' st') a w :=
  let ⟨_, h2⟩ := h c fr st ex fr' st' h1; wpN_wp (h2 N ρ W w a hM hf hg)
theorem ExR.mk {ro : Nat} {a : Act} {ex : Ex} {fr' : Fr} {st' : St} {e : Exit} (hM : MR N ρ ro st' W w) (hf : FR ρ fr' a) (h : ExM ρ ex e) : ExR N ρ ro W ex fr' st' e a w := ⟨ρ, Rho.le_refl _, hM, hf, h⟩
theorem codeBody_run (hF : Fit E) {ih : Ev} (hi : SEv E ih) : SCode E (codeBody E ih) := by
  intro c fr st ex fr' st' h
  by_cases hl : ∃ b, c = .loop b
  · obtain ⟨b, rfl⟩ := hl
    simp only [codeBody] at h
    split at h
    · rename_i fr1 st1 h1
      obtain ⟨n, hn⟩ := hi.code _ _ _ _ _ _ h
      refine ⟨n + 1, fun N ρ W w a hM hf hg => wp_mono (hi.code.wp h1 hM hf hg) fun e a1 w1 he => ?_⟩
      obtain ⟨ρ1, h2, h3, h4, h5⟩ := he
      cases e <;> first | exact h5.elim | skip
      exact rounds_mono (fun _ _ _ hh => hh.le h2) n _ _ (hn N ρ1 W w1 a1 h3 h4 (hg.mono h2))
    · rename_i r hne
      refine ⟨1, fun N ρ W w a hM hf hg => wp_mono (hi.code.wp h hM hf hg) fun e a1 w1 he => ?_⟩
      cases e <;> first
        | exact he
        | skip
      obtain ⟨ρ1, h2, h3, h4, h5⟩ := he
      cases ex <;> first | exact h5.elim | skip
      exact absurd h (hne _ _)
  refine ⟨0, fun N ρ W w a hM hf hg => ?_⟩
  have e0 : ∀ Q, wpN E.P 0 c Q a w = c.wp E.P Q a w := by
    intro Q
    cases c <;> first | rfl | exact absurd ⟨_, rfl⟩ hl
  rw [e0]
  clear e0
  cases c <;> simp only [codeBody] at h <;> first
    | (cases h; done)
    | (exact absurd ⟨_, rfl⟩ hl)
    | skip
  case skip => cases h; exact wp_skip (.mk hM hf trivial)
  case label l => cases h; exact wp_label (.mk hM hf trivial)
  case exit id => cases h; exact wp_exit (.mk hM hf rfl)
  case ret => cases h; exact wp_ret (.mk hM hf trivial)
  case region id ops draw =>
    split at h
    · have h1 := evOps_run hi.call ops.toList [] fr st ρ a w ex fr' st' rfl hM hf hg h
      refine wp_region (Q := ExR N ρ E.ro W ex fr' st') ?_
      have e : List.range' 0 ops.toList.length = List.range ops.size := by rw [List.range_eq_range']; simp
      rw [← e]
      exact h1
    · exact hF.draw _ hi.call id ops fr st ex fr' st' h N ρ W w a hM hf hg
  case seq x y =>
    have hx := fun ex1 fr1 st1 (h1 : ih.code x fr st = .ok (ex1, fr1, st1)) => hi.code.wp h1 hM hf hg
    split at h
    · rename_i fr1 st1 h1
      refine wp_seq (wp_mono (hx _ _ _ h1) fun e a1 w1 he => ?_)
      obtain ⟨ρ1, h2, h3, h4, h5⟩ := he
      cases e <;> first | exact h5.elim | skip
      exact wp_mono (hi.code.wp h h3 h4 (hg.mono h2)) fun _ _ _ hh => hh.le h2
    · rename_i r hne
      refine wp_seq (wp_mono (hx _ _ _ h) fun e a1 w1 he => ?_)
      cases e <;> first
        | exact he
        | skip
      obtain ⟨ρ1, h2, h3, h4, h5⟩ := he
      cases ex <;> first | exact h5.elim | skip
      exact absurd h (hne _ _)
  case cond x b c =>
    have hx := hf.eval x (fun _ _ => id)
    split at h
    · rename_i hb
      rw [hb] at hx
      exact wp_cond_true hx.bool_inv (hi.code.wp h hM hf hg)
    · rename_i hb
      rw [hb] at hx
      exact wp_cond_false hx.bool_inv (hi.code.wp h hM hf hg)
    · cases h
  case block id b =>
    have hx := fun ex1 fr1 st1 (h1 : ih.code b fr st = .ok (ex1, fr1, st1)) => hi.code.wp h1 hM hf hg
    split at h
    · rename_i id' fr1 st1 h1
      refine wp_block (wp_mono (hx _ _ _ h1) fun e a1 w1 he => ?_)
      obtain ⟨ρ1, h2, h3, h4, h5⟩ := he
      cases e <;> first | exact h5.elim | skip
      rename_i id2
      have h5 : id' = id2 := h5
      subst h5
      split at h
      · rename_i hid
        have hid := beq_true hid
        cases h
        simp only [Exit.inBlock, hid, if_true]
        exact ⟨ρ1, h2, h3, h4, trivial⟩
      · rename_i hid
        have hid := beq_false hid
        cases h
        simp only [Exit.inBlock, if_neg hid]
        exact ⟨ρ1, h2, h3, h4, rfl⟩
    · rename_i r hne
      refine wp_block (wp_mono (hx _ _ _ h) fun e a1 w1 he => ?_)
      cases e <;> first
        | exact he
        | skip
      obtain ⟨ρ1, h2, h3, h4, h5⟩ := he
      cases ex <;> first | exact h5.elim | skip
      exact absurd h (hne _ _ _)
  case scope b =>
    have hx := fun ex1 fr1 st1 (h1 : ih.code b fr st = .ok (ex1, fr1, st1)) => hi.code.wp h1 hM hf hg
    split at h
    · cases h
    · rename_i r hne
      refine wp_scope_straight (wp_mono (hx _ _ _ h) fun e a1 w1 he => ?_)
      cases e <;> first
        | exact he
        | skip
      obtain ⟨ρ1, h2, h3, h4, h5⟩ := he
      cases ex <;> exact h5.elim
end
end Go.Proofs.YteegpmimbbgdlaaGreatDoor.Ab
