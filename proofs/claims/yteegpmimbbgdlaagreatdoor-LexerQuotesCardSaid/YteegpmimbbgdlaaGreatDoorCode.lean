/- Bodies; calls; what was deferred. -/
import Derived.Test.YteegpmimbbgdlaaGreatDoorFlow
set_option linter.unusedVariables false
set_option linter.unusedSimpArgs false
set_option linter.unnecessarySimpa false
namespace Go.Proofs.YteegpmimbbgdlaaGreatDoor.Ab
open Go Go.RowKit

def MdR (ρ : Rho) (u : Md) (m : FrameMode) : Prop := match u, m with
  | .returning, .returning => True
  | .panicking ch, .panicking chain => ChR ρ ch chain
  | _, _ => False
theorem MdR.mono {ρ ρ' : Rho} (hle : ρ.le ρ') {u : Md} {m : FrameMode} (h : MdR ρ u m) : MdR ρ' u m := by
  cases u <;> cases m <;> first | exact h | exact ChR.mono hle h
theorem MdR.notRun {ρ : Rho} {u : Md} {m : FrameMode} (h : MdR ρ u m) : m ≠ .run := by
  cases u <;> cases m <;> first | exact h.elim | (intro e; cases e)
theorem settle_R {ρ : Rho} {u : Md} {m : FrameMode} (h : MdR ρ u m) : MdR ρ (mdSettle u) (settle m) := by
  cases u with
  | returning => cases m <;> first | exact h.elim | exact trivial
  | panicking ch =>
    cases m with
    | run => exact h.elim
    | returning => exact h.elim
    | panicking chain =>
      have h : ChR ρ ch chain := h
      cases h with
      | nil => exact .nil
      | cons v b q l m hv r =>
        cases b with
        | false => exact ChR.cons _ _ _ _ _ hv r
        | true =>
          simp only [mdSettle, settle, r.noexit]
          trivial
theorem raise_R {ρ : Rho} {u : Md} {m : FrameMode} {ch : List (AV × Bool)} {chain : List PanicEntry} (h : MdR ρ u m) (hc : ChR ρ ch chain) : MdR ρ (mdRaise u ch) (raised m chain) := by
  cases u with
  | returning => cases m <;> first | exact h.elim | exact hc
  | panicking ch' =>
    cases m with
    | run => exact h.elim
    | returning => exact h.elim
    | panicking chain' => exact hc.append h
def SCallD (E : Env) (callD : FuncId → List AV → Md → St → Rs (En × Md × St)) : Prop :=
  ∀ f args u st en u' st', callD f args u st = .ok (en, u', st') → ∀ (N : Nat → Prop) (ρ : Rho) (W w : World) (vs : Array Value) (m : FrameMode), MR N ρ E.ro st W w → Gl ρ E.gl → VRs ρ args vs.toList → MdR ρ u m →
    (callFunc f vs).run E.P w = .ok (.enter f vs) w ∧ CallsD E.P f vs m w fun e m' w' => ∃ ρ' : Rho, ρ.le ρ' ∧ MR N ρ' E.ro st' W w' ∧ MdR ρ' u' m' ∧ EnM ρ' en e
section
variable {P : Program} {E : Env} {N : Nat → Prop} {ρ : Rho} {ro : Nat} {st : St} {W w : World}
def resRun (tmps : Array Value) (r : ResultVar) : Sem Value := match r with
  | .tmp t => pure (tmps.getD t undef)
  | .cell a t => do Go.loadVar t (← asAddr (tmps.getD a undef))
theorem resOne_run (h : MR N ρ ro st W w) {fr : Fr} {tmps : Array Value} (hg : ∀ t, VR ρ (fr.get (.tmp t)) (tmps.getD t undef)) {r : ResultVar} {v : AV} (hr : resOne P fr st r = .ok v) :
    ∃ q, (resRun tmps r).run P w = .ok q w ∧ VR ρ v q := by
  unfold resOne at hr
  cases r with
  | tmp t => cases hr; exact ⟨_, rfl, hg t⟩
  | cell a t =>
    simp only at hr
    split at hr
    · rename_i id off hp
      have ha := hg a
      rw [hp] at ha
      obtain ⟨L, hL, e⟩ := ha.ptr_inv
      obtain ⟨q, h1, h2⟩ := h.loadVar hL hr
      exact ⟨q, by simp [resRun, e, asAddr, h1], h2⟩
    · cases hr
theorem resAll_run (h : MR N ρ ro st W w) {fr : Fr} {tmps : Array Value} (hg : ∀ t, VR ρ (fr.get (.tmp t)) (tmps.getD t undef)) : ∀ {l : List ResultVar} {vs : List AV}, resAll P fr st l = .ok vs →
    ∃ qs, (l.mapM (resRun tmps)).run P w = .ok qs w ∧ VRs ρ vs qs
  | [], vs, hr => by cases hr; exact ⟨[], rfl, .nil⟩
  | r :: l, vs, hr => by
    obtain ⟨v, hv, hr⟩ := Rs.bind_ok hr
    obtain ⟨u, hu, hr⟩ := Rs.bind_ok hr
    cases hr
    obtain ⟨q, h1, h2⟩ := resOne_run h hg hv
    obtain ⟨qs, h3, h4⟩ := resAll_run h hg hu
    refine ⟨q :: qs, ?_, .cons _ _ _ _ h2 h4⟩
    simp only [List.mapM_cons, Sem.run_bind, h1, h3, Result.andThen_ok, Sem.run_pure]
theorem resA_run (h : MR N ρ ro st W w) {fn : Func} {fr : Fr} {tmps : Array Value} (hg : ∀ t, VR ρ (fr.get (.tmp t)) (tmps.getD t undef)) {v : AV} (hr : resA P fn fr st = .ok v) : ∃ q, (results fn tmps).run P w = .ok q w ∧ VR ρ v q := by
  unfold resA at hr
  obtain ⟨l, hl, hr2⟩ := Rs.bind_ok hr
  clear hr
  obtain ⟨qs, h1, h2⟩ := resAll_run h hg hl
  have h3 : (fn.results.mapM (resRun tmps)).run P w = .ok qs.toArray w := by
    rw [Array.mapM_eq_mapM_toList]
    simp [h1]
  have h4 : (results fn tmps).run P w = .ok (if h : qs.toArray.size = 1 then qs.toArray[0] else .tuple qs.toArray) w := by
    have e : results fn tmps = (do let vs ← fn.results.mapM (resRun tmps); pure (if h : vs.size = 1 then vs[0] else .tuple vs)) := rfl
    rw [e]
    simp only [Sem.run_bind, h3, Result.andThen_ok, Sem.run_pure]
  split at hr2
  · cases hr2
    cases h2 with | cons _ q _ _ h5 h6 =>
    cases h6
    exact ⟨q, by rw [h4]; rfl, h5⟩
  · rename_i hne
    cases hr2
    refine ⟨.tuple qs.toArray, ?_, .tup _ _ (by simpa using h2)⟩
    rw [h4, dif_neg]
    intro hlen
    have := h2.length
    have hl1 : l.length = 1 := by simp at hlen; omega
    obtain ⟨x, hx⟩ := List.length_eq_one_iff.1 hl1
    exact hne x hx
theorem leaveA_run {callD : FuncId → List AV → Md → St → Rs (En × Md × St)} (hc : SCallD E callD) {fn : Func} {fr : Fr} {tmps : Array Value} {en : En} {st' : St} : ∀ (ds : List (FuncId × List AV)) (xs : List Deferred) (u : Md) (m : FrameMode) (st : St) (ρ0 ρ : Rho) (w : World),
    leaveA callD E.P fn fr ds u st = .ok (en, st') → ρ0.le ρ → MR N ρ E.ro st W w → (∀ t, VR ρ (fr.get (.tmp t)) (tmps.getD t undef)) → DRs ρ ds xs → Gl ρ E.gl → MdR ρ u m → Leaves E.P fn tmps (EnR N ρ0 E.ro W en st') xs m w := by
  intro ds
  induction ds with
  | nil =>
    intro xs u m st ρ0 ρ w h hle hM hg hd hgl hm
    cases hd
    simp only [leaveA] at h
    cases u with
    | returning =>
      cases m with
      | returning =>
        obtain ⟨v, hv, h⟩ := Rs.bind_ok h
        cases h
        obtain ⟨q, h1, h2⟩ := resA_run hM hg hv
        exact ⟨q, h1, ρ, hle, hM, h2⟩
      | run => exact hm.elim
      | panicking _ => exact hm.elim
    | panicking ch =>
      cases m with
      | panicking chain =>
        cases h
        exact ⟨ρ, hle, hM, hm⟩
      | run => exact hm.elim
      | returning => exact hm.elim
  | cons d ds ih =>
    intro xs u m st ρ0 ρ w h hle hM hg hd hgl hm
    cases hd with | cons _ x _ xs hx hxs =>
    obtain ⟨cap, ht, hargs⟩ := hx
    simp only [leaveA] at h
    have key : ∀ en1 u1 st1, callD d.1 d.2 u st = .ok (en1, u1, st1) → (callFunc d.1 (x.args ++ cap)).run E.P w = .ok (.enter d.1 (x.args ++ cap)) w ∧ CallsD E.P d.1 (x.args ++ cap) m w fun e m' w' => ∃ ρ' : Rho, ρ.le ρ' ∧ MR N ρ' E.ro st1 W w' ∧ MdR ρ' u1 m' ∧ EnM ρ' en1 e :=
      fun en1 u1 st1 hcall => hc d.1 d.2 u st en1 u1 st1 hcall N ρ W w (x.args ++ cap) m hM hgl (by simpa using hargs) hm
    have hx' : x = { target := .fn (.func d.1) cap, args := x.args } := by
      cases x; simp at ht; simp [ht]
    rw [hx']
    split at h
    · cases h
    · rename_i v u1 st1 hcall
      obtain ⟨h1, h2⟩ := key _ _ _ hcall
      refine leaves_cons hm.notRun (by rw [call_enter]; exact h1) (h2.mono fun e m' w' ⟨ρ', h3, h4, h5, h6⟩ => ?_)
      cases e with
      | returned q => exact ih xs _ _ st1 ρ0 ρ' w' h (Rho.le_trans hle h3) h4 (fun t => (hg t).mono h3) (hxs.mono h3) (hgl.mono h3) (settle_R h5)
      | panicked _ => exact h6.elim
      | outgrown => exact h6.elim
    · rename_i ch u1 st1 hcall
      obtain ⟨h1, h2⟩ := key _ _ _ hcall
      refine leaves_cons hm.notRun (by rw [call_enter]; exact h1) (h2.mono fun e m' w' ⟨ρ', h3, h4, h5, h6⟩ => ?_)
      cases e with
      | returned q => exact h6.elim
      | panicked chain => exact ih xs _ _ st1 ρ0 ρ' w' h (Rho.le_trans hle h3) h4 (fun t => (hg t).mono h3) (hxs.mono h3) (hgl.mono h3) (raise_R h5 h6)
      | outgrown => exact h6.elim
end
end Go.Proofs.YteegpmimbbgdlaaGreatDoor.Ab
