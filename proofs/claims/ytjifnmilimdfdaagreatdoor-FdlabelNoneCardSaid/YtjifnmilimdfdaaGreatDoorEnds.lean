import Derived.Test.YtjifnmilimdfdaaGreatDoorJoin
import Derived.Scope
import Derived.LoopN
/- Bodies: regions in the order of their text, jumps, loops; calls; what was deferred. -/
set_option linter.unusedVariables false
set_option linter.unusedSimpArgs false
set_option linter.unnecessarySimpa false
namespace Go.Proofs.YtjifnmilimdfdaaGreatDoor.Ab
open Go Go.RowKit

def Gl (ρ : Rho) (gl : Nat) : Prop := ∀ g, g < gl → ∃ n, ρ g = some ⟨g, n, 0⟩
theorem Gl.mono {ρ ρ' : Rho} (hle : ρ.le ρ') {gl : Nat} (h : Gl ρ gl) : Gl ρ' gl := fun g hg => let ⟨n, hn⟩ := h g hg; ⟨n, hle.1 _ _ hn⟩
inductive ChR (ρ : Rho) : List (AV × Bool) → List PanicEntry → Prop where
  | nil : ChR ρ [] []
  | cons (v : AV) (b : Bool) (q : Value) (l : List (AV × Bool)) (m : List PanicEntry) (h : VR ρ v q) (r : ChR ρ l m) : ChR ρ ((v, b) :: l) ({ v := q, recovered := b, goexit := false } :: m)
theorem ChR.mono {ρ ρ' : Rho} (hle : ρ.le ρ') {l : List (AV × Bool)} {m : List PanicEntry} (h : ChR ρ l m) : ChR ρ' l m := by
  induction h with
  | nil => exact .nil
  | cons v b q l m h _ ih => exact .cons _ _ _ _ _ (h.mono hle) ih
theorem ChR.append {ρ : Rho} {l l' : List (AV × Bool)} {m m' : List PanicEntry} (h : ChR ρ l m) (h' : ChR ρ l' m') : ChR ρ (l ++ l') (m ++ m') := by
  induction h with
  | nil => exact h'
  | cons v b q l m h _ ih => exact .cons _ _ _ _ _ h ih
theorem ChR.noexit {ρ : Rho} {l : List (AV × Bool)} {m : List PanicEntry} (h : ChR ρ l m) : m.dropWhile (!·.goexit) = [] := by
  induction h with
  | nil => rfl
  | cons v b q l m h _ ih => simpa using ih
def EnM (ρ : Rho) (en : En) (e : Ending) : Prop := match en, e with
  | .ret v, .returned q => VR ρ v q
  | .panic ch, .panicked chain => ChR ρ ch chain
  | _, _ => False
def EnR (N : Nat → Prop) (ρ : Rho) (ro : Nat) (W : World) (en : En) (st' : St) : Ending → World → Prop := fun e w => ∃ ρ' : Rho, ρ.le ρ' ∧ MR N ρ' ro st' W w ∧ EnM ρ' en e
def ExM (ρ : Rho) (ex : Ex) (e : Exit) : Prop := match ex, e with
  | .normal, .normal => True
  | .ret, .ret => True
  | .exit i, .exit j => i = j
  | .panic ch, .panic chain => ChR ρ ch chain
  | _, _ => False
def ExR (N : Nat → Prop) (ρ : Rho) (ro : Nat) (W : World) (ex : Ex) (fr' : Fr) (st' : St) : Exit → Act → World → Prop := fun e a w => ∃ ρ' : Rho, ρ.le ρ' ∧ MR N ρ' ro st' W w ∧ FR ρ' fr' a ∧ ExM ρ' ex e
def CallsTo (P : Program) (f : FuncId) (vs : Array Value) (w : World) (R : Ending → World → Prop) : Prop :=
  (∃ q w', (callFunc f vs).run P w = .ok (.value q) w' ∧ R (.returned q) w') ∨ ((callFunc f vs).run P w = .ok (.enter f vs) w ∧ Calls P f vs w R)
def SCall (E : Env) (call : FuncId → List AV → St → Rs (En × St)) : Prop :=
  ∀ f args st en st', call f args st = .ok (en, st') → ∀ (N : Nat → Prop) (ρ : Rho) (W w : World) (vs : Array Value), MR N ρ E.ro st W w → Gl ρ E.gl → VRs ρ args vs.toList → CallsTo E.P f vs w (EnR N ρ E.ro W en st')
theorem ExR.le {N : Nat → Prop} {ρ ρ' : Rho} (hle : ρ.le ρ') {ro : Nat} {W : World} {ex : Ex} {fr' : Fr} {st' : St} {e : Exit} {a : Act} {w : World} (h : ExR N ρ' ro W ex fr' st' e a w) : ExR N ρ ro W ex fr' st' e a w :=
  let ⟨ρ'', h1, h2⟩ := h; ⟨ρ'', Rho.le_trans hle h1, h2⟩
theorem wpOps_mono {P : Program} {ops : Array Oper} {Q Q' : Exit → Act → World → Prop} (hq : ∀ e a w, Q e a w → Q' e a w) : ∀ (l : List Nat) (a : Act) (w : World), wpOps P ops Q l a w → wpOps P ops Q' l a w
  | [], a, w, h => hq _ _ _ h
  | i :: l, a, w, h => by
    simp only [wpOps] at h ⊢
    split
    · rename_i h0
      rw [h0] at h
      exact wpOps_mono hq l a w h
    · rename_i o h0
      rw [h0] at h
      simp only at h
      split
      · rename_i hw
        rw [if_pos hw] at h
        rcases h with h | ⟨h, b, w', h'⟩
        · left
          unfold Oper.wp at h ⊢
          generalize (execOp a.eval o).run P w = r at h ⊢
          cases r with
          | ok n w' =>
            cases n <;> simp only [Oper.upon] at h ⊢ <;> first
              | exact wpOps_mono hq l _ _ h
              | exact h
              | exact Rows.mono h fun v w' hv => wpOps_mono hq l _ _ hv
              | (refine Calls.mono h fun e w' he => ?_
                 cases e with
                 | returned v => exact wpOps_mono hq l _ _ he
                 | panicked c => exact hq _ _ _ he
                 | outgrown => exact let ⟨b, w', h'⟩ := he; ⟨b, w', hq _ _ _ h'⟩)
          | halt x w' => cases x <;> simp only [Oper.upon] at h ⊢ <;> first
              | exact hq _ _ _ h
              | exact h
        · exact .inr ⟨h, b, w', hq _ _ _ h'⟩
      · rename_i hw
        rw [if_neg hw] at h
        exact wpOps_mono hq l _ _ h

section
variable {E : Env} {N : Nat → Prop} {ρ : Rho} {st : St} {W w : World}
theorem guardA_run {X : Nat → Prop} {ops : Array Oper} {fr : Fr} {a : Act} {o : Oper} {b : Bool} (hf : FX X ρ fr a) (hX : ∀ j want p d, o.guard = some (j, want) → ops[j]? = some p → p.dst = some d → ¬ X d) (h : guardA ops.toList fr o = some b) :
    Region.wanted o (yielded ops a.tmps) = b := by
  unfold guardA at h
  unfold Region.wanted
  split at h
  · rename_i hg
    cases h
    rw [hg]
  · rename_i g hg
    obtain ⟨j, want⟩ := g
    rw [hg]
    simp only
    unfold guardOn at h
    split at h
    · rename_i p hp
      have hp' : ops[j]? = some p := by simpa using hp
      split at h
      · rename_i d hd
        have hx := hX j want p d hg hp' hd
        have hv := hf.get d hx
        have hy : yielded ops a.tmps j = match a.tmps[d]? with | some (.bool b) => some b | _ => none := by
          unfold yielded
          rw [hp']
          simp only [Option.bind_some, hd]
          rfl
        rw [hy]
        split at h
        · rename_i b' hb
          cases h
          simp only [Fr.get, hb] at hv
          have hv' := hv.bool_inv
          rw [Array.getD_eq_getD_getElem?] at hv'
          cases ht : a.tmps[d]? with
          | none => rw [ht] at hv'; cases hv'
          | some v =>
            rw [ht] at hv'
            simp only [Option.getD_some] at hv'
            subst hv'
            simp
        · rename_i hb
          cases h
          simp only [Fr.get, hb] at hv
          rw [Array.getD_eq_getD_getElem?] at hv
          cases ht : a.tmps[d]? with
          | none => simp
          | some v =>
            rw [ht] at hv
            simp only [Option.getD_some] at hv
            cases hv
            simp
        · cases h
      · cases h
    · cases h
theorem undef_tup : VR ρ (.tup []) undef := .tup [] #[] .nil
/-- One operation, called for. -/
theorem step_wp {call : FuncId → List AV → St → Rs (En × St)} (hc : SCall E call) {o : Oper} {out : Out} {fr : Fr} {a : Act} {K : Act → World → Prop} {Q : Exit → Act → World → Prop} {X : Nat → Prop}
    (hM : MR N ρ E.ro st W w) (hf : FX X ρ fr a) (hX : ∀ t, Operand.tmp t ∈ o.op.operands → ¬ X t) (hg : Gl ρ E.gl) (hs : stepA E.P E.ro fr st o.op = .ok out)
    (hval : ∀ v st', out = .val v st' → ∀ ρ' q w', ρ.le ρ' → MR N ρ' E.ro st' W w' → VR ρ' v q → K (a.put o.dst q) w')
    (hskip : ∀ st', out = .skip st' → ∀ w', MR N ρ E.ro st' W w' → K (a.put o.dst undef) w')
    (hlater : ∀ d, out = .later d → ∀ x, DR ρ d x → K ({ a with defers := x :: a.defers }.put o.dst undef) w)
    (hret : ∀ f args, out = .enter f args → ∃ en st', call f args st = .ok (en, st') ∧ ∀ ρ' w', ρ.le ρ' → MR N ρ' E.ro st' W w' → (∀ v q, en = .ret v → VR ρ' v q → K (a.put o.dst q) w') ∧ (∀ ch chain, en = .panic ch → ChR ρ' ch chain → Q (.panic chain) a w'))
    (hpan : ∀ v, out = .panic v → ∀ q, VR ρ v q → Q (.panic [{ v := q, recovered := false }]) a w) : o.wp E.P a w K Q := by
  have he : ∀ x ∈ o.op.operands.toList, VR ρ (fr.get x) (a.eval x) := fun x hx => hf.eval x (fun t ht => hX t (by subst ht; simpa using hx))
  have h := stepA_run hM he hs
  unfold Oper.wp
  generalize hrun : (execOp a.eval o).run E.P w = r at h
  cases out with
  | val v st' =>
    obtain ⟨ρ', q, w', rfl, h1, h2, h3⟩ := h
    exact hval v st' rfl ρ' q w' h1 h2 h3
  | skip st' =>
    obtain ⟨w', rfl, h1⟩ := h
    exact hskip st' rfl w' h1
  | later d =>
    obtain ⟨x, rfl, h1⟩ := h
    exact hlater d rfl x h1
  | panic v =>
    obtain ⟨q, rfl, h1⟩ := h
    exact hpan v rfl q h1
  | enter f args =>
    obtain ⟨vs, rfl, h1⟩ := h
    obtain ⟨en, st', h2, h3⟩ := hret f args rfl
    rcases hc f args st en st' h2 N ρ W w vs hM hg h1 with ⟨q, w', h4, ρ', h5, h6, h7⟩ | ⟨h4, h5⟩
    · rw [h4]
      cases en with
      | ret v => exact (h3 ρ' w' h5 h6).1 v q rfl h7
      | panic ch => exact h7.elim
    · rw [h4]
      refine Calls.mono h5 fun e w' ⟨ρ', h6, h7, h8⟩ => ?_
      cases e with
      | returned q =>
        cases en with
        | ret v => exact (h3 ρ' w' h6 h7).1 v q rfl h8
        | panic ch => exact h8.elim
      | panicked chain =>
        cases en with
        | ret v => exact h8.elim
        | panic ch => exact (h3 ρ' w' h6 h7).2 ch chain rfl h8
      | outgrown => cases en <;> exact h8.elim
theorem evOps_run {call : FuncId → List AV → St → Rs (En × St)} (hc : SCall E call) {ops : Array Oper} : ∀ (l pre : List Oper) (fr : Fr) (st : St) (ρ : Rho) (a : Act) (w : World) (ex : Ex) (fr' : Fr) (st' : St), ops.toList = pre ++ l → MR N ρ E.ro st W w → FR ρ fr a → Gl ρ E.gl →
    evOps call E.P E.ro ops.toList l fr st = .ok (ex, fr', st') → wpOps E.P ops (ExR N ρ E.ro W ex fr' st') (List.range' pre.length l.length) a w := by
  intro l
  induction l with
  | nil =>
    intro pre fr st ρ a w ex fr' st' _ hM hf hg h
    cases h
    exact ⟨ρ, Rho.le_refl _, hM, hf, trivial⟩
  | cons o r ih =>
    intro pre fr st ρ a w ex fr' st' heq hM hf hg h
    have ho : ops[pre.length]? = some o := by
      rw [← Array.getElem?_toList, heq]
      simp
    have heq' : ops.toList = (pre ++ [o]) ++ r := by simp [heq]
    have next : ∀ (ρ' : Rho) (fr1 : Fr) (st1 : St) (a1 : Act) (w1 : World), ρ.le ρ' → MR N ρ' E.ro st1 W w1 → FR ρ' fr1 a1 → evOps call E.P E.ro ops.toList r fr1 st1 = .ok (ex, fr', st') → wpOps E.P ops (ExR N ρ E.ro W ex fr' st') (List.range' (pre.length + 1) r.length) a1 w1 := by
      intro ρ' fr1 st1 a1 w1 hle h1 h2 h3
      have := ih (pre ++ [o]) fr1 st1 ρ' a1 w1 ex fr' st' heq' h1 h2 (hg.mono hle) h3
      rw [List.length_append, List.length_singleton] at this
      exact wpOps_mono (fun e a w h => h.le hle) _ _ _ this
    simp only [List.length_cons, List.range'_succ]
    rw [wpOps, ho]
    simp only
    have h : evOne call E.P E.ro ops.toList o (evOps call E.P E.ro ops.toList r) fr st = .ok (ex, fr', st') := h
    unfold evOne evGo at h
    split at h
    · cases h
    · rename_i hgd
      have hw := guardA_run hf (fun _ _ _ _ _ _ _ => id) hgd
      rw [if_neg (by rw [hw]; exact Bool.false_ne_true)]
      obtain ⟨fr1, h1, h⟩ := Rs.bind_ok h
      exact next ρ fr1 st _ w (Rho.le_refl _) hM (hf.put h1 undef_tup) h
    · rename_i hgd
      have hw := guardA_run hf (fun _ _ _ _ _ _ _ => id) hgd
      rw [if_pos hw]
      left
      split at h
      · cases h
      all_goals rename_i hs
      · refine step_wp hc hM hf (fun t _ => id) hg hs (fun v st1 e ρ' q w' h1 h2 h3 => ?_) (fun _ e => by cases e) (fun _ e => by cases e) (fun _ _ e => by cases e) (fun _ e => by cases e)
        cases e
        obtain ⟨fr1, h4, h⟩ := Rs.bind_ok h
        exact next ρ' fr1 _ _ w' h1 h2 ((hf.mono h1).put h4 h3) h
      · refine step_wp hc hM hf (fun t _ => id) hg hs (fun v st1 e => by cases e) (fun st1 e w' h1 => ?_) (fun _ e => by cases e) (fun _ _ e => by cases e) (fun _ e => by cases e)
        cases e
        obtain ⟨fr1, h4, h⟩ := Rs.bind_ok h
        exact next ρ fr1 _ _ w' (Rho.le_refl _) h1 (hf.put h4 undef_tup) h
      · rename_i d0
        refine step_wp hc hM hf (fun t _ => id) hg hs (fun v st1 e => by cases e) (fun _ e => by cases e) (fun d e x h1 => ?_) (fun _ _ e => by cases e) (fun _ e => by cases e)
        cases e
        obtain ⟨fr1, h4, h2⟩ := Rs.bind_ok h
        clear h
        have h := h2
        clear h2
        have hf' : FR ρ { fr with ds := d0 :: fr.ds } { a with defers := x :: a.defers } := ⟨hf.size, hf.get, hf.glob, .cons _ _ _ _ h1 hf.ds⟩
        exact next ρ fr1 st _ w (Rho.le_refl _) hM (hf'.put h4 undef_tup) h
      · refine step_wp hc hM hf (fun t _ => id) hg hs (fun v st1 e => by cases e) (fun _ e => by cases e) (fun _ e => by cases e) (fun f args e => ?_) (fun _ e => by cases e)
        cases e
        split at h
        · cases h
        · rename_i v st1 hcall
          refine ⟨_, _, hcall, fun ρ' w' h1 h2 => ⟨fun v' q e hv => ?_, fun ch chain e => by cases e⟩⟩
          cases e
          obtain ⟨fr1, h4, h⟩ := Rs.bind_ok h
          exact next ρ' fr1 _ _ w' h1 h2 ((hf.mono h1).put h4 hv) h
        · rename_i ch st1 hcall
          refine ⟨_, _, hcall, fun ρ' w' h1 h2 => ⟨(fun v' q e hv => by cases e), fun ch chain e hch => ?_⟩⟩
          cases e
          cases h
          exact ⟨ρ', h1, h2, hf.mono h1, hch⟩
      · refine step_wp hc hM hf (fun t _ => id) hg hs (fun v st1 e => by cases e) (fun _ e => by cases e) (fun _ e => by cases e) (fun f args e => by cases e) (fun v e q hv => ?_)
        cases e
        cases h
        exact ⟨ρ, Rho.le_refl _, hM, hf, .cons _ _ _ _ _ hv .nil⟩
end
end Go.Proofs.YtjifnmilimdfdaaGreatDoor.Ab
/- Bodies; calls; what was deferred. -/
set_option linter.unusedVariables false
set_option linter.unusedSimpArgs false
set_option linter.unnecessarySimpa false
namespace Go.Proofs.YtjifnmilimdfdaaGreatDoor.Ab
open Go Go.RowKit

def MdR (ρ : Rho) (u : Md) (m : FrameMode) : Prop := match u, m with
  | .returning, .returning => True
  | .panicking ch, .panicking chain => ChR ρ ch chain
  | _, _ => False
theorem MdR.mono {ρ ρ' : Rho} (hle : ρ.le ρ') {u : Md} {m : FrameMode} (h : MdR ρ u m) : MdR ρ' u m := by
  cases u <;> cases m <;> first | exact h | exact ChR.mono hle h
theorem MdR.notRun {ρ : Rho} {u : Md} {m : FrameMode} (h : MdR ρ u m) : m ≠ .run := by
  cases u <;> cases m <;> first | exact h.elim | (intro e; cases e)
theorem settle_R {ρ : Rho} {u : Md} {m : FrameMode} (h : MdR ρ u m) : MdR ρ (mdSettle u) (settle m) := by
  cases u with
  | returning => cases m <;> first | exact h.elim | exact trivial
  | panicking ch =>
    cases m with
    | run => exact h.elim
    | returning => exact h.elim
    | panicking chain =>
      have h : ChR ρ ch chain := h
      cases h with
      | nil => exact .nil
      | cons v b q l m hv r =>
        cases b with
        | false => exact ChR.cons _ _ _ _ _ hv r
        | true =>
          simp only [mdSettle, settle, r.noexit]
          trivial
theorem raise_R {ρ : Rho} {u : Md} {m : FrameMode} {ch : List (AV × Bool)} {chain : List PanicEntry} (h : MdR ρ u m) (hc : ChR ρ ch chain) : MdR ρ (mdRaise u ch) (raised m chain) := by
  cases u with
  | returning => cases m <;> first | exact h.elim | exact hc
  | panicking ch' =>
    cases m with
    | run => exact h.elim
    | returning => exact h.elim
    | panicking chain' => exact hc.append h
def SCallD (E : Env) (callD : FuncId → List AV → Md → St → Rs (En × Md × St)) : Prop :=
  ∀ f args u st en u' st', callD f args u st = .ok (en, u', st') → ∀ (N : Nat → Prop) (ρ : Rho) (W w : World) (vs : Array Value) (m : FrameMode), MR N ρ E.ro st W w → Gl ρ E.gl → VRs ρ args vs.toList → MdR ρ u m →
    (callFunc f vs).run E.P w = .ok (.enter f vs) w ∧ CallsD E.P f vs m w fun e m' w' => ∃ ρ' : Rho, ρ.le ρ' ∧ MR N ρ' E.ro st' W w' ∧ MdR ρ' u' m' ∧ EnM ρ' en e
section
variable {P : Program} {E : Env} {N : Nat → Prop} {ρ : Rho} {ro : Nat} {st : St} {W w : World}
def resRun (tmps : Array Value) (r : ResultVar) : Sem Value := match r with
  | .tmp t => pure (tmps.getD t undef)
  | .cell a t => do Go.loadVar t (← asAddr (tmps.getD a undef))
theorem resOne_run (h : MR N ρ ro st W w) {fr : Fr} {tmps : Array Value} (hg : ∀ t, VR ρ (fr.get (.tmp t)) (tmps.getD t undef)) {r : ResultVar} {v : AV} (hr : resOne P fr st r = .ok v) :
    ∃ q, (resRun tmps r).run P w = .ok q w ∧ VR ρ v q := by
  unfold resOne at hr
  cases r with
  | tmp t => cases hr; exact ⟨_, rfl, hg t⟩
  | cell a t =>
    simp only at hr
    split at hr
    · rename_i id off hp
      have ha := hg a
      rw [hp] at ha
      obtain ⟨L, hL, e⟩ := ha.ptr_inv
      obtain ⟨q, h1, h2⟩ := h.loadVar hL hr
      exact ⟨q, by simp [resRun, e, asAddr, h1], h2⟩
    · cases hr
theorem resAll_run (h : MR N ρ ro st W w) {fr : Fr} {tmps : Array Value} (hg : ∀ t, VR ρ (fr.get (.tmp t)) (tmps.getD t undef)) : ∀ {l : List ResultVar} {vs : List AV}, resAll P fr st l = .ok vs →
    ∃ qs, (l.mapM (resRun tmps)).run P w = .ok qs w ∧ VRs ρ vs qs
  | [], vs, hr => by cases hr; exact ⟨[], rfl, .nil⟩
  | r :: l, vs, hr => by
    obtain ⟨v, hv, hr⟩ := Rs.bind_ok hr
    obtain ⟨u, hu, hr⟩ := Rs.bind_ok hr
    cases hr
    obtain ⟨q, h1, h2⟩ := resOne_run h hg hv
    obtain ⟨qs, h3, h4⟩ := resAll_run h hg hu
    refine ⟨q :: qs, ?_, .cons _ _ _ _ h2 h4⟩
    simp only [List.mapM_cons, Sem.run_bind, h1, h3, Result.andThen_ok, Sem.run_pure]
theorem resA_run (h : MR N ρ ro st W w) {fn : Func} {fr : Fr} {tmps : Array Value} (hg : ∀ t, VR ρ (fr.get (.tmp t)) (tmps.getD t undef)) {v : AV} (hr : resA P fn fr st = .ok v) : ∃ q, (results fn tmps).run P w = .ok q w ∧ VR ρ v q := by
  unfold resA at hr
  obtain ⟨l, hl, hr2⟩ := Rs.bind_ok hr
  clear hr
  obtain ⟨qs, h1, h2⟩ := resAll_run h hg hl
  have h3 : (fn.results.mapM (resRun tmps)).run P w = .ok qs.toArray w := by
    rw [Array.mapM_eq_mapM_toList]
    simp [h1]
  have h4 : (results fn tmps).run P w = .ok (if h : qs.toArray.size = 1 then qs.toArray[0] else .tuple qs.toArray) w := by
    have e : results fn tmps = (do let vs ← fn.results.mapM (resRun tmps); pure (if h : vs.size = 1 then vs[0] else .tuple vs)) := rfl
    rw [e]
    simp only [Sem.run_bind, h3, Result.andThen_ok, Sem.run_pure]
  split at hr2
  · cases hr2
    cases h2 with | cons _ q _ _ h5 h6 =>
    cases h6
    exact ⟨q, by rw [h4]; rfl, h5⟩
  · rename_i hne
    cases hr2
    refine ⟨.tuple qs.toArray, ?_, .tup _ _ (by simpa using h2)⟩
    rw [h4, dif_neg]
    intro hlen
    have := h2.length
    have hl1 : l.length = 1 := by simp at hlen; omega
    obtain ⟨x, hx⟩ := List.length_eq_one_iff.1 hl1
    exact hne x hx
theorem leaveA_run {callD : FuncId → List AV → Md → St → Rs (En × Md × St)} (hc : SCallD E callD) {fn : Func} {fr : Fr} {tmps : Array Value} {en : En} {st' : St} : ∀ (ds : List (FuncId × List AV)) (xs : List Deferred) (u : Md) (m : FrameMode) (st : St) (ρ0 ρ : Rho) (w : World),
    leaveA callD E.P fn fr ds u st = .ok (en, st') → ρ0.le ρ → MR N ρ E.ro st W w → (∀ t, VR ρ (fr.get (.tmp t)) (tmps.getD t undef)) → DRs ρ ds xs → Gl ρ E.gl → MdR ρ u m → Leaves E.P fn tmps (EnR N ρ0 E.ro W en st') xs m w := by
  intro ds
  induction ds with
  | nil =>
    intro xs u m st ρ0 ρ w h hle hM hg hd hgl hm
    cases hd
    simp only [leaveA] at h
    cases u with
    | returning =>
      cases m with
      | returning =>
        obtain ⟨v, hv, h⟩ := Rs.bind_ok h
        cases h
        obtain ⟨q, h1, h2⟩ := resA_run hM hg hv
        exact ⟨q, h1, ρ, hle, hM, h2⟩
      | run => exact hm.elim
      | panicking _ => exact hm.elim
    | panicking ch =>
      cases m with
      | panicking chain =>
        cases h
        exact ⟨ρ, hle, hM, hm⟩
      | run => exact hm.elim
      | returning => exact hm.elim
  | cons d ds ih =>
    intro xs u m st ρ0 ρ w h hle hM hg hd hgl hm
    cases hd with | cons _ x _ xs hx hxs =>
    obtain ⟨cap, ht, hargs⟩ := hx
    simp only [leaveA] at h
    have key : ∀ en1 u1 st1, callD d.1 d.2 u st = .ok (en1, u1, st1) → (callFunc d.1 (x.args ++ cap)).run E.P w = .ok (.enter d.1 (x.args ++ cap)) w ∧ CallsD E.P d.1 (x.args ++ cap) m w fun e m' w' => ∃ ρ' : Rho, ρ.le ρ' ∧ MR N ρ' E.ro st1 W w' ∧ MdR ρ' u1 m' ∧ EnM ρ' en1 e :=
      fun en1 u1 st1 hcall => hc d.1 d.2 u st en1 u1 st1 hcall N ρ W w (x.args ++ cap) m hM hgl (by simpa using hargs) hm
    have hx' : x = { target := .fn (.func d.1) cap, args := x.args } := by
      cases x; simp at ht; simp [ht]
    rw [hx']
    split at h
    · cases h
    · rename_i v u1 st1 hcall
      obtain ⟨h1, h2⟩ := key _ _ _ hcall
      refine leaves_cons hm.notRun (by rw [call_enter]; exact h1) (h2.mono fun e m' w' ⟨ρ', h3, h4, h5, h6⟩ => ?_)
      cases e with
      | returned q => exact ih xs _ _ st1 ρ0 ρ' w' h (Rho.le_trans hle h3) h4 (fun t => (hg t).mono h3) (hxs.mono h3) (hgl.mono h3) (settle_R h5)
      | panicked _ => exact h6.elim
      | outgrown => exact h6.elim
    · rename_i ch u1 st1 hcall
      obtain ⟨h1, h2⟩ := key _ _ _ hcall
      refine leaves_cons hm.notRun (by rw [call_enter]; exact h1) (h2.mono fun e m' w' ⟨ρ', h3, h4, h5, h6⟩ => ?_)
      cases e with
      | returned q => exact h6.elim
      | panicked chain => exact ih xs _ _ st1 ρ0 ρ' w' h (Rho.le_trans hle h3) h4 (fun t => (hg t).mono h3) (hxs.mono h3) (hgl.mono h3) (raise_R h5 h6)
      | outgrown => exact h6.elim
end
end Go.Proofs.YtjifnmilimdfdaaGreatDoor.Ab
/- Bodies and calls, at every depth. -/
set_option linter.unusedVariables false
set_option linter.unusedSimpArgs false
set_option linter.unnecessarySimpa false
namespace Go.Proofs.YtjifnmilimdfdaaGreatDoor.Ab
open Go Go.RowKit

/-- A loop is unrolled so often. -/
def wpN (P : Program) (n : Nat) (c : Code) (Q : Exit → Act → World → Prop) (a : Act) (w : World) : Prop := match c with
  | .loop b => Code.rounds P b Q n a w
  | c => c.wp P Q a w
def SCode (E : Env) (code : Code → Fr → St → Rs (Ex × Fr × St)) : Prop :=
  ∀ c fr st ex fr' st', code c fr st = .ok (ex, fr', st') → ∃ n, ∀ (N : Nat → Prop) (ρ : Rho) (W w : World) (a : Act), MR N ρ E.ro st W w → FR ρ fr a → Gl ρ E.gl → wpN E.P n c (ExR N ρ E.ro W ex fr' st') a w
def SCodeD (E : Env) (codeD : Code → Fr → Md → St → Rs (Ex × Fr × Md × St)) : Prop :=
  ∀ c fr u st ex fr' u' st', codeD c fr u st = .ok (ex, fr', u', st') → ∀ (N : Nat → Prop) (ρ : Rho) (W w : World) (a : Act) (m : FrameMode) (c₀ : Frame) (rest : List Frame), MR N ρ E.ro st W w → FR ρ fr a → Gl ρ E.gl → MdR ρ u m →
    c.wpS E.P (fun e a cs w => ∃ (ρ' : Rho) (m' : FrameMode), ρ.le ρ' ∧ MR N ρ' E.ro st' W w ∧ FR ρ' fr' a ∧ MdR ρ' u' m' ∧ cs = { c₀ with mode := m' } :: rest ∧ ExM ρ' ex e) a ({ c₀ with mode := m } :: rest) w
def SDraw (E : Env) : Prop :=
  ∀ call, SCall E call → ∀ (id : Nat) (ops : Array Oper) fr st ex fr' st', evDraw call E.P E.ro ops.toList fr st = .ok (ex, fr', st') → ∀ (N : Nat → Prop) (ρ : Rho) (W w : World) (a : Act), MR N ρ E.ro st W w → FR ρ fr a → Gl ρ E.gl → (Code.region id ops true).wp E.P (ExR N ρ E.ro W ex fr' st') a w
structure Fit (E : Env) : Prop where
  draw : SDraw E
  ext : ∀ f e, E.ext f = some e → ∀ args v st st', extA st E.mx e args = .ok (v, st') → ∀ (N : Nat → Prop) (ρ : Rho) (W w : World) (vs : Array Value), MR N ρ E.ro st W w → Gl ρ E.gl → VRs ρ args vs.toList → ∃ q w' ρ', (callFunc f vs).run E.P w = .ok (.value q) w' ∧ ρ.le ρ' ∧ MR N ρ' E.ro st' W w' ∧ VR ρ' v q
  name : ∀ (f : FuncId) (fn : Func), E.P.funcs[f]? = some fn → fn.body.isSome = true → (fn.name == "runtime.NumGoroutine") = false
  fast : ∀ f F, E.fast f = some F → ∀ call, SCall E call → ∀ args st en st', F call args st = .ok (en, st') → ∀ (N : Nat → Prop) (ρ : Rho) (W w : World) (vs : Array Value), MR N ρ E.ro st W w → Gl ρ E.gl → VRs ρ args vs.toList → CallsTo E.P f vs w (EnR N ρ E.ro W en st')
structure SEv (E : Env) (ih : Ev) : Prop where
  code : SCode E ih.code
  call : SCall E ih.call
  codeD : SCodeD E ih.codeD
  callD : SCallD E ih.callD
section
variable {E : Env} {N : Nat → Prop} {ρ : Rho} {st : St} {W w : World}
theorem rounds_mono {P : Program} {c : Code} {Q Q' : Exit → Act → World → Prop} (hq : ∀ e a w, Q e a w → Q' e a w) : ∀ (n : Nat) (a : Act) (w : World), Code.rounds P c Q n a w → Code.rounds P c Q' n a w
  | 0, _, _, h => h
  | n + 1, a, w, h => wp_mono h fun e a w he => by
    cases e <;> first
      | exact rounds_mono hq n a w he
      | exact hq _ _ _ he
theorem wpN_wp {P : Program} {n : Nat} {c : Code} {Q : Exit → Act → World → Prop} {a : Act} {w : World} (h : wpN P n c Q a w) : c.wp P Q a w := by
  cases c <;> first
    | exact h
    | exact wp_loop_rounds n h
theorem SCode.wp {code : Code → Fr → St → Rs (Ex × Fr × St)} (h : SCode E code) {c : Code} {fr : Fr} {st : St} {ex : Ex} {fr' : Fr} {st' : St} (h1 : code c fr st = .ok (ex, fr', st')) {a : Act} (hM : MR N ρ E.ro st W w) (hf : FR ρ fr a) (hg : Gl ρ E.gl) : c.wp E.P (ExR N ρ E.ro W ex fr' st') a w :=
  let ⟨_, h2⟩ := h c fr st ex fr' st' h1; wpN_wp (h2 N ρ W w a hM hf hg)
theorem ExR.mk {ro : Nat} {a : Act} {ex : Ex} {fr' : Fr} {st' : St} {e : Exit} (hM : MR N ρ ro st' W w) (hf : FR ρ fr' a) (h : ExM ρ ex e) : ExR N ρ ro W ex fr' st' e a w := ⟨ρ, Rho.le_refl _, hM, hf, h⟩
theorem Wk.exR {x z : Ex × Fr × St} (hw : Wk x z) {ro : Nat} {e : Exit} {a : Act} (h : ExR N ρ ro W x.1 x.2.1 x.2.2 e a w) : ExR N ρ ro W z.1 z.2.1 z.2.2 e a w := by
  obtain ⟨ρ', h1, h2, h3, h4⟩ := h
  exact ⟨ρ', h1, hw.st _ _ _ _ _ h2, hw.fr _ _ h3, by rw [hw.ex]; exact h4⟩
theorem rounds_more {P : Program} {c : Code} {Q : Exit → Act → World → Prop} : ∀ (n k : Nat) (a : Act) (w : World), n ≤ k → Code.rounds P c Q n a w → Code.rounds P c Q k a w
  | 0, _, _, _, _, h => h.elim
  | n + 1, 0, _, _, hk, _ => absurd hk (by omega)
  | n + 1, k + 1, a, w, hk, h => wp_mono h fun e a w he => by
    cases e <;> first
      | exact rounds_more n k a w (by omega) he
      | exact he
theorem forkOp_spec {ro : Nat} {fr : Fr} {o : Oper} {l : List (AV × St)} (h : forkOp ro fr st o = l) (hne : l ≠ []) : ∃ it id m s seen lm, o.guard = none ∧ o.op = .next it false ∧ fr.get it = .ptr id 0 ∧ iterM ro st id = some (m, s, seen, lm) ∧ lm ≠ [] ∧ l = lm.map (takeM st id m s seen) := by
  unfold forkOp at h
  split at h
  case h_2 => exact absurd h.symm hne
  rename_i it hg ho
  split at h
  case h_2 => exact absurd h.symm hne
  rename_i id hp
  split at h
  case h_2 => exact absurd h.symm hne
  rename_i m s seen lm hi
  split at h
  · exact absurd h.symm hne
  · exact absurd h.symm hne
  · rename_i lm' h1 h2
    exact ⟨it, id, m, s, seen, lm, hg, ho, hp, hi, h1, h.symm⟩
theorem fork_run (hF : Fit E) {ih : Ev} (hi : SEv E ih) {b : Code} {fr : Fr} {st : St} {ex : Ex} {fr' : Fr} {st' : St} (h : evFork E ih b fr st = some (.ok (ex, fr', st'))) :
    ∃ n, ∀ (N : Nat → Prop) (ρ : Rho) (W w : World) (a : Act), MR N ρ E.ro st W w → FR ρ fr a → Gl ρ E.gl → Code.rounds E.P b (ExR N ρ E.ro W ex fr' st') n a w := by
  unfold evFork at h
  split at h
  case h_2 => cases h
  rename_i id ops rest
  split at h
  case h_2 => cases h
  rename_i o os hops
  split at h
  · cases h
  rename_i l hne
  have h := Option.some.inj h
  obtain ⟨it, iid, m, s, seen, lm, hg0, hop, hptr, hiter, hlm, hl⟩ := forkOp_spec (st := st) rfl (fun e => hne e)
  have hsp := joinAll_spec h
  have ho : ops[0]? = some o := by rw [← Array.getElem?_toList, hops]; rfl
  -- each of them
  have one : ∀ p ∈ forkOp E.ro fr st o, ∃ n, ∀ (N : Nat → Prop) (ρ : Rho) (W w : World) (a : Act) (q : Value), MR N ρ E.ro p.2 W w → FR ρ fr a → Gl ρ E.gl → VR ρ p.1 q →
      wpOps E.P ops (Exit.then (rest.wp E.P (Exit.then (Code.rounds E.P (.seq (.region id ops false) rest) (ExR N ρ E.ro W ex fr' st') n) (ExR N ρ E.ro W ex fr' st'))) (Exit.then (Code.rounds E.P (.seq (.region id ops false) rest) (ExR N ρ E.ro W ex fr' st') n) (ExR N ρ E.ro W ex fr' st'))) (List.range' 1 os.length) (a.put o.dst q) w := by
    intro p hp
    obtain ⟨x, hx, hwk⟩ := hsp p hp
    obtain ⟨fr1, hf1, hx⟩ := Rs.bind_ok hx
    have hev : ∀ ex2 fr2 st2, evOps ih.call E.P E.ro ops.toList os fr1 p.2 = .ok (ex2, fr2, st2) → ∀ (N : Nat → Prop) (ρ : Rho) (W w : World) (a : Act) (q : Value), MR N ρ E.ro p.2 W w → FR ρ fr a → Gl ρ E.gl → VR ρ p.1 q →
        wpOps E.P ops (ExR N ρ E.ro W ex2 fr2 st2) (List.range' 1 os.length) (a.put o.dst q) w := fun ex2 fr2 st2 he N ρ W w a q hM hf hg hq =>
      evOps_run hi.call os [o] fr1 p.2 ρ (a.put o.dst q) w ex2 fr2 st2 (by rw [hops]; rfl) hM (hf.put hf1 hq) hg he
    split at hx
    · rename_i fr2 st2 he
      split at hx
      · rename_i fr3 st3 hc
        obtain ⟨n, hn⟩ := hi.code _ _ _ _ _ _ hx
        refine ⟨n, fun N ρ W w a q hM hf hg hq => wpOps_mono (fun e a1 w1 hh => ?_) _ _ _ (hev _ _ _ he N ρ W w a q hM hf hg hq)⟩
        obtain ⟨ρ1, h2, h3, h4, h5⟩ := hh
        cases e <;> first | exact h5.elim | skip
        refine wp_mono (hi.code.wp hc h3 h4 (hg.mono h2)) fun e a2 w2 hh => ?_
        obtain ⟨ρ2, h6, h7, h8, h9⟩ := hh
        cases e <;> first | exact h9.elim | skip
        exact rounds_mono (fun _ _ _ hh => hwk.exR (hh.le (Rho.le_trans h2 h6))) n _ _ (hn N ρ2 W w2 a2 h7 h8 ((hg.mono h2).mono h6))
      · rename_i r hne2
        refine ⟨0, fun N ρ W w a q hM hf hg hq => wpOps_mono (fun e a1 w1 hh => ?_) _ _ _ (hev _ _ _ he N ρ W w a q hM hf hg hq)⟩
        obtain ⟨ρ1, h2, h3, h4, h5⟩ := hh
        cases e <;> first | exact h5.elim | skip
        obtain ⟨x1, x2, x3⟩ := x
        refine wp_mono (hi.code.wp hx h3 h4 (hg.mono h2)) fun e a2 w2 hh => ?_
        cases e <;> first
          | exact hwk.exR (hh.le h2)
          | skip
        obtain ⟨ρ2, h6, h7, h8, h9⟩ := hh
        cases x1 <;> first | exact h9.elim | skip
        exact absurd hx (hne2 _ _)
    · rename_i r hne2
      refine ⟨0, fun N ρ W w a q hM hf hg hq => ?_⟩
      obtain ⟨x1, x2, x3⟩ := x
      refine wpOps_mono (fun e a1 w1 hh => ?_) _ _ _ (hev _ _ _ hx N ρ W w a q hM hf hg hq)
      cases e <;> first
        | exact hwk.exR hh
        | skip
      obtain ⟨ρ1, h2, h3, h4, h5⟩ := hh
      cases x1 <;> first | exact h5.elim | skip
      exact absurd hx (hne2 _ _)
  -- so many rounds for all
  have all : ∀ l' : List (AV × St), (∀ p ∈ l', p ∈ forkOp E.ro fr st o) → ∃ n, ∀ p ∈ l', ∀ (N : Nat → Prop) (ρ : Rho) (W w : World) (a : Act) (q : Value), MR N ρ E.ro p.2 W w → FR ρ fr a → Gl ρ E.gl → VR ρ p.1 q →
      wpOps E.P ops (Exit.then (rest.wp E.P (Exit.then (Code.rounds E.P (.seq (.region id ops false) rest) (ExR N ρ E.ro W ex fr' st') n) (ExR N ρ E.ro W ex fr' st'))) (Exit.then (Code.rounds E.P (.seq (.region id ops false) rest) (ExR N ρ E.ro W ex fr' st') n) (ExR N ρ E.ro W ex fr' st'))) (List.range' 1 os.length) (a.put o.dst q) w := by
    intro l'
    induction l' with
    | nil => intro _; exact ⟨0, fun p hp => by cases hp⟩
    | cons y l' ihl =>
      intro hs
      obtain ⟨n1, hn1⟩ := one y (hs y (List.mem_cons_self ..))
      obtain ⟨n2, hn2⟩ := ihl fun p hp => hs p (List.mem_cons_of_mem _ hp)
      have more : ∀ n, n ≤ max n1 n2 → ∀ (Q : Exit → Act → World → Prop) (l : List Nat) (a : Act) (w : World), wpOps E.P ops (Exit.then (rest.wp E.P (Exit.then (Code.rounds E.P (.seq (.region id ops false) rest) Q n) Q)) (Exit.then (Code.rounds E.P (.seq (.region id ops false) rest) Q n) Q)) l a w →
          wpOps E.P ops (Exit.then (rest.wp E.P (Exit.then (Code.rounds E.P (.seq (.region id ops false) rest) Q (max n1 n2)) Q)) (Exit.then (Code.rounds E.P (.seq (.region id ops false) rest) Q (max n1 n2)) Q)) l a w := by
        intro n hle Q l a w hh
        refine wpOps_mono (fun e a1 w1 he => ?_) _ _ _ hh
        cases e <;> first
          | exact he
          | skip
        refine wp_mono he fun e a2 w2 he => ?_
        cases e <;> first
          | exact he
          | skip
        exact rounds_more n _ a2 w2 hle he
      refine ⟨max n1 n2, fun p hp N ρ W w a q hM hf hg hq => ?_⟩
      rcases List.mem_cons.1 hp with rfl | hp
      · exact more n1 (Nat.le_max_left ..) _ _ _ _ (hn1 N ρ W w a q hM hf hg hq)
      · exact more n2 (Nat.le_max_right ..) _ _ _ _ (hn2 p hp N ρ W w a q hM hf hg hq)
  obtain ⟨n, hn⟩ := all _ fun _ hp => hp
  refine ⟨n + 1, fun N ρ W w a hM hf hg => ?_⟩
  have hx := hf.eval it (fun _ _ hh => hh)
  rw [hptr] at hx
  obtain ⟨_, h2⟩ := nextM_run (P := E.P) (ty := o.type) hM hx hiter
  obtain ⟨p, hp, q, w', h3, h4, h5⟩ := h2 hlm
  refine wp_seq (wp_region ?_)
  have hsz : List.range ops.size = 0 :: List.range' 1 os.length := by
    rw [List.range_eq_range']
    have : ops.size = os.length + 1 := by
      have := congrArg List.length hops
      simpa using this
    rw [this, List.range'_succ]
  rw [hsz, wpOps, ho]
  simp only
  have hw : Region.wanted o (yielded ops a.tmps) = true := by unfold Region.wanted; rw [hg0]
  rw [if_pos hw]
  left
  unfold Oper.wp
  have hrun : (execOp a.eval o).run E.P w = .ok (.value q) w' := by
    unfold execOp
    rw [hop]
    simp [h3]
  rw [hrun]
  exact hn (takeM st iid m s seen p) (by rw [hl]; exact List.mem_map_of_mem hp) N ρ W w' a q h4 hf hg h5
theorem codeBody_run (hF : Fit E) {ih : Ev} (hi : SEv E ih) : SCode E (codeBody E ih) := by
  intro c fr st ex fr' st' h
  by_cases hl : ∃ b, c = .loop b
  · obtain ⟨b, rfl⟩ := hl
    simp only [codeBody] at h
    split at h
    · rename_i r hfk
      subst h
      exact fork_run hF hi hfk
    split at h
    · rename_i fr1 st1 h1
      obtain ⟨n, hn⟩ := hi.code _ _ _ _ _ _ h
      refine ⟨n + 1, fun N ρ W w a hM hf hg => wp_mono (hi.code.wp h1 hM hf hg) fun e a1 w1 he => ?_⟩
      obtain ⟨ρ1, h2, h3, h4, h5⟩ := he
      cases e <;> first | exact h5.elim | skip
      exact rounds_mono (fun _ _ _ hh => hh.le h2) n _ _ (hn N ρ1 W w1 a1 h3 h4 (hg.mono h2))
    · rename_i r hne
      refine ⟨1, fun N ρ W w a hM hf hg => wp_mono (hi.code.wp h hM hf hg) fun e a1 w1 he => ?_⟩
      cases e <;> first
        | exact he
        | skip
      obtain ⟨ρ1, h2, h3, h4, h5⟩ := he
      cases ex <;> first | exact h5.elim | skip
      exact absurd h (hne _ _)
  refine ⟨0, fun N ρ W w a hM hf hg => ?_⟩
  have e0 : ∀ Q, wpN E.P 0 c Q a w = c.wp E.P Q a w := by
    intro Q
    cases c <;> first | rfl | exact absurd ⟨_, rfl⟩ hl
  rw [e0]
  clear e0
  cases c <;> simp only [codeBody] at h <;> first
    | (cases h; done)
    | (exact absurd ⟨_, rfl⟩ hl)
    | skip
  case skip => cases h; exact wp_skip (.mk hM hf trivial)
  case label l => cases h; exact wp_label (.mk hM hf trivial)
  case exit id => cases h; exact wp_exit (.mk hM hf rfl)
  case ret => cases h; exact wp_ret (.mk hM hf trivial)
  case region id ops draw =>
    split at h
    · have h1 := evOps_run hi.call ops.toList [] fr st ρ a w ex fr' st' rfl hM hf hg h
      refine wp_region (Q := ExR N ρ E.ro W ex fr' st') ?_
      have e : List.range' 0 ops.toList.length = List.range ops.size := by rw [List.range_eq_range']; simp
      rw [← e]
      exact h1
    · exact hF.draw _ hi.call id ops fr st ex fr' st' h N ρ W w a hM hf hg
  case seq x y =>
    have hx := fun ex1 fr1 st1 (h1 : ih.code x fr st = .ok (ex1, fr1, st1)) => hi.code.wp h1 hM hf hg
    split at h
    · rename_i fr1 st1 h1
      refine wp_seq (wp_mono (hx _ _ _ h1) fun e a1 w1 he => ?_)
      obtain ⟨ρ1, h2, h3, h4, h5⟩ := he
      cases e <;> first | exact h5.elim | skip
      exact wp_mono (hi.code.wp h h3 h4 (hg.mono h2)) fun _ _ _ hh => hh.le h2
    · rename_i r hne
      refine wp_seq (wp_mono (hx _ _ _ h) fun e a1 w1 he => ?_)
      cases e <;> first
        | exact he
        | skip
      obtain ⟨ρ1, h2, h3, h4, h5⟩ := he
      cases ex <;> first | exact h5.elim | skip
      exact absurd h (hne _ _)
  case cond x b c =>
    have hx := hf.eval x (fun _ _ => id)
    split at h
    · rename_i hb
      rw [hb] at hx
      exact wp_cond_true hx.bool_inv (hi.code.wp h hM hf hg)
    · rename_i hb
      rw [hb] at hx
      exact wp_cond_false hx.bool_inv (hi.code.wp h hM hf hg)
    · cases h
  case block id b =>
    have hx := fun ex1 fr1 st1 (h1 : ih.code b fr st = .ok (ex1, fr1, st1)) => hi.code.wp h1 hM hf hg
    split at h
    · rename_i id' fr1 st1 h1
      refine wp_block (wp_mono (hx _ _ _ h1) fun e a1 w1 he => ?_)
      obtain ⟨ρ1, h2, h3, h4, h5⟩ := he
      cases e <;> first | exact h5.elim | skip
      rename_i id2
      have h5 : id' = id2 := h5
      subst h5
      split at h
      · rename_i hid
        have hid := beq_true hid
        cases h
        simp only [Exit.inBlock, hid, if_true]
        exact ⟨ρ1, h2, h3, h4, trivial⟩
      · rename_i hid
        have hid := beq_false hid
        cases h
        simp only [Exit.inBlock, if_neg hid]
        exact ⟨ρ1, h2, h3, h4, rfl⟩
    · rename_i r hne
      refine wp_block (wp_mono (hx _ _ _ h) fun e a1 w1 he => ?_)
      cases e <;> first
        | exact he
        | skip
      obtain ⟨ρ1, h2, h3, h4, h5⟩ := he
      cases ex <;> first | exact h5.elim | skip
      exact absurd h (hne _ _ _)
  case scope b =>
    have hx := fun ex1 fr1 st1 (h1 : ih.code b fr st = .ok (ex1, fr1, st1)) => hi.code.wp h1 hM hf hg
    split at h
    · cases h
    · rename_i r hne
      refine wp_scope_straight (wp_mono (hx _ _ _ h) fun e a1 w1 he => ?_)
      cases e <;> first
        | exact he
        | skip
      obtain ⟨ρ1, h2, h3, h4, h5⟩ := he
      cases ex <;> exact h5.elim
end
end Go.Proofs.YtjifnmilimdfdaaGreatDoor.Ab
/- Calls and deferred calls; every depth. -/
set_option linter.unusedVariables false
set_option linter.unusedSimpArgs false
set_option linter.unnecessarySimpa false
namespace Go.Proofs.YtjifnmilimdfdaaGreatDoor.Ab
open Go Go.RowKit

section
variable {E : Env} {N : Nat → Prop} {ρ : Rho} {st : St} {W w : World}
theorem enter_FR (hg : Gl ρ E.gl) {fn : Func} {args : List AV} {vs : Array Value} (h : VRs ρ args vs.toList) : FR ρ (enterA E.gl fn args) { tmps := vs ++ Array.replicate (fn.ntmps - vs.size) undef, defers := [] } := by
  have hl := h.length
  have hl' : vs.size = args.length := by simpa using hl
  refine ⟨?_, fun t _ => ?_, hg, .nil⟩
  · simp [enterA, hl']
  · simp only [Fr.get, enterA]
    split
    · rename_i v hv
      rcases PT.get_lay hv with ⟨_, h1⟩ | ⟨_, h1⟩
      · obtain ⟨q, h2, h3⟩ := h.get h1
        have h2' : vs[t]? = some q := by simpa using h2
        have hlt := (Array.getElem?_eq_some_iff.1 h2').1
        rw [Array.getD_eq_getD_getElem?, Array.getElem?_append_left hlt, h2']
        exact h3
      · cases h1
    · exact .top _
theorem enter_call (hF : Fit E) {f : FuncId} {fn : Func} {c : Code} (hf : E.P.funcs[f]? = some fn) (hb : fn.body = some c) (vs : Array Value) (w : World) : (callFunc f vs).run E.P w = .ok (.enter f vs) w := by
  have hn := hF.name f fn hf (by rw [hb]; rfl)
  simp only [callFunc, Sem.run_bind, run_program, Result.andThen_ok, hf]
  rw [if_neg (by rw [hn]; exact Bool.false_ne_true)]
  simp [hb]
theorem callSlow_run (hF : Fit E) {ih : Ev} (hi : SEv E ih) : SCall E (callSlow E ih) := by
  intro f args st en st' h N ρ W w vs hM hg hv
  unfold callSlow at h
  split at h
  · rename_i e he
    obtain ⟨⟨v, st1⟩, hx, h⟩ := Rs.bind_ok h
    cases h
    obtain ⟨q, w', ρ', h1, h2, h3, h4⟩ := hF.ext f e he args v st _ hx N ρ W w vs hM hg hv
    exact .inl ⟨q, w', h1, ρ', h2, h3, h4⟩
  · split at h
    · cases h
    rename_i fn hf
    split at h
    · cases h
    rename_i c hb
    refine .inr ⟨enter_call hF hf hb vs w, calls_of_wp_defers hf hb ?_⟩
    have hfr := enter_FR (E := E) hg (fn := fn) hv
    split at h
    · cases h
    · rename_i fr st1 h1
      refine wp_mono (hi.code.wp h1 hM hfr hg) fun e a1 w1 ⟨ρ1, h2, h3, h4, h5⟩ => ?_
      cases e <;> first | exact h5.elim | skip
      exact leaveA_run hi.callD fr.ds a1.defers .returning .returning st1 ρ ρ1 w1 h h2 h3 (fun t => h4.get t id) h4.ds (hg.mono h2) trivial
    · rename_i fr st1 h1
      refine wp_mono (hi.code.wp h1 hM hfr hg) fun e a1 w1 ⟨ρ1, h2, h3, h4, h5⟩ => ?_
      cases e <;> first | exact h5.elim | skip
      exact leaveA_run hi.callD fr.ds a1.defers .returning .returning st1 ρ ρ1 w1 h h2 h3 (fun t => h4.get t id) h4.ds (hg.mono h2) trivial
    · rename_i ch fr st1 h1
      refine wp_mono (hi.code.wp h1 hM hfr hg) fun e a1 w1 he => ?_
      obtain ⟨ρ1, h2, h3, h4, h5⟩ := he
      cases e <;> first | exact h5.elim | skip
      rename_i chain
      exact leaveA_run hi.callD fr.ds a1.defers (.panicking ch) (.panicking chain) st1 ρ ρ1 w1 h h2 h3 (fun t => h4.get t id) h4.ds (hg.mono h2) h5
    · cases h
theorem callBody_run (hF : Fit E) {ih : Ev} (hi : SEv E ih) : SCall E (callBody E ih) := by
  intro f args st en st' h N ρ W w vs hM hg hv
  unfold callBody at h
  split at h
  · rename_i F hfast
    split at h
    · rename_i r hr
      cases h
      exact hF.fast f F hfast _ hi.call args st en st' hr N ρ W w vs hM hg hv
    · exact callSlow_run hF hi f args st en st' h N ρ W w vs hM hg hv
  · exact callSlow_run hF hi f args st en st' h N ρ W w vs hM hg hv
def ExS (N : Nat → Prop) (ρ : Rho) (ro : Nat) (W : World) (c₀ : Frame) (rest : List Frame) (ex : Ex) (fr' : Fr) (u' : Md) (st' : St) : Exit → Act → List Frame → World → Prop :=
  fun e a cs w => ∃ (ρ' : Rho) (m' : FrameMode), ρ.le ρ' ∧ MR N ρ' ro st' W w ∧ FR ρ' fr' a ∧ MdR ρ' u' m' ∧ cs = { c₀ with mode := m' } :: rest ∧ ExM ρ' ex e
theorem ExS.le {N : Nat → Prop} {ρ ρ' : Rho} (hle : ρ.le ρ') {ro : Nat} {W : World} {c₀ : Frame} {rest : List Frame} {ex : Ex} {fr' : Fr} {u' : Md} {st' : St} {e : Exit} {a : Act} {cs : List Frame} {w : World} (h : ExS N ρ' ro W c₀ rest ex fr' u' st' e a cs w) : ExS N ρ ro W c₀ rest ex fr' u' st' e a cs w :=
  let ⟨ρ'', m', h1, h2⟩ := h; ⟨ρ'', m', Rho.le_trans hle h1, h2⟩
theorem wpS_mono {P : Program} {c : Code} {Q Q' : Exit → Act → List Frame → World → Prop} {a : Act} {cs : List Frame} {w : World} (h : c.wpS P Q a cs w) (hq : ∀ e a cs w, Q e a cs w → Q' e a cs w) : c.wpS P Q' a cs w :=
  fun b k hb hr => let ⟨e, a', cs', w', q, r⟩ := h b k hb hr; ⟨e, a', cs', w', hq _ _ _ _ q, r⟩
theorem wpOpsS_mono {P : Program} {ops : Array Oper} {Q Q' : Exit → Act → List Frame → World → Prop} (hq : ∀ e a cs w, Q e a cs w → Q' e a cs w) : ∀ (l : List Nat) (a : Act) (cs : List Frame) (w : World), wpOpsS P ops Q l a cs w → wpOpsS P ops Q' l a cs w
  | [], a, cs, w, h => hq _ _ _ _ h
  | i :: l, a, cs, w, h => by
    simp only [wpOpsS] at h ⊢
    split
    · rename_i h0
      rw [h0] at h
      exact wpOpsS_mono hq l a cs w h
    · rename_i o h0
      rw [h0] at h
      simp only at h
      split
      · rename_i hw
        rw [if_pos hw] at h
        generalize (execOp a.eval o).run P w = r at h ⊢
        cases r with
        | ok n w' =>
          cases n <;> simp only [Oper.upon] at h ⊢ <;> first
            | exact wpOpsS_mono hq l _ _ _ h
            | exact h
            | exact Rows.mono h fun v w' hv => wpOpsS_mono hq l _ _ _ hv
            | (refine Calls.mono h fun e w' he => ?_
               cases e with
               | returned v => exact wpOpsS_mono hq l _ _ _ he
               | panicked c => exact hq _ _ _ _ he
               | outgrown => exact let ⟨b, w', h'⟩ := he; ⟨b, w', hq _ _ _ _ h'⟩)
            | (split at h <;> exact wpOpsS_mono hq l _ _ _ h)
        | halt x w' => cases x <;> simp only [Oper.upon] at h ⊢ <;> first
            | exact hq _ _ _ _ h
            | exact h
      · rename_i hw
        rw [if_neg hw] at h
        exact wpOpsS_mono hq l _ _ _ h
theorem recover_run {ev : Operand → Value} {o : Oper} (h : isRecover o.op = true) (w : World) : (execOp ev o).run E.P w = .ok .recover w := by
  unfold isRecover at h
  split at h
  · rename_i c hop
    split at h
    · rename_i hc
      simp only [execOp, hop, resolve, hc, Sem.run_bind, Sem.run_pure, Result.andThen_ok, invoke, Go.builtin]
    · cases h
  · cases h
theorem evOpsD_run {call : FuncId → List AV → St → Rs (En × St)} (hc : SCall E call) {ops : Array Oper} {c₀ : Frame} {rest : List Frame} : ∀ (l pre : List Oper) (fr : Fr) (u : Md) (st : St) (ρ : Rho) (a : Act) (m : FrameMode) (w : World) (ex : Ex) (fr' : Fr) (u' : Md) (st' : St), ops.toList = pre ++ l → MR N ρ E.ro st W w → FR ρ fr a → Gl ρ E.gl → MdR ρ u m →
    evOpsD call E.P E.ro ops.toList l fr u st = .ok (ex, fr', u', st') → wpOpsS E.P ops (ExS N ρ E.ro W c₀ rest ex fr' u' st') (List.range' pre.length l.length) a ({ c₀ with mode := m } :: rest) w := by
  intro l
  induction l with
  | nil =>
    intro pre fr u st ρ a m w ex fr' u' st' _ hM hf hg hm h
    simp only [evOpsD] at h
    cases h
    exact ⟨ρ, m, Rho.le_refl _, hM, hf, hm, rfl, trivial⟩
  | cons o r ih =>
    intro pre fr u st ρ a m w ex fr' u' st' heq hM hf hg hm h
    have ho : ops[pre.length]? = some o := by
      rw [← Array.getElem?_toList, heq]
      simp
    have heq' : ops.toList = (pre ++ [o]) ++ r := by simp [heq]
    have next : ∀ (ρ' : Rho) (fr1 : Fr) (u1 : Md) (st1 : St) (a1 : Act) (m1 : FrameMode) (w1 : World), ρ.le ρ' → MR N ρ' E.ro st1 W w1 → FR ρ' fr1 a1 → MdR ρ' u1 m1 → evOpsD call E.P E.ro ops.toList r fr1 u1 st1 = .ok (ex, fr', u', st') → wpOpsS E.P ops (ExS N ρ E.ro W c₀ rest ex fr' u' st') (List.range' (pre.length + 1) r.length) a1 ({ c₀ with mode := m1 } :: rest) w1 := by
      intro ρ' fr1 u1 st1 a1 m1 w1 hle h1 h2 h2' h3
      have := ih (pre ++ [o]) fr1 u1 st1 ρ' a1 m1 w1 ex fr' u' st' heq' h1 h2 (hg.mono hle) h2' h3
      rw [List.length_append, List.length_singleton] at this
      exact wpOpsS_mono (fun e a cs w h => h.le hle) _ _ _ _ this
    simp only [List.length_cons, List.range'_succ]
    rw [wpOpsS, ho]
    simp only
    simp only [evOpsD] at h
    split at h
    · cases h
    · rename_i hgd
      have hw := guardA_run hf (fun _ _ _ _ _ _ _ => id) hgd
      rw [if_neg (by rw [hw]; exact Bool.false_ne_true)]
      obtain ⟨fr1, h1, h⟩ := Rs.bind_ok h
      exact next ρ fr1 u st _ m w (Rho.le_refl _) hM (hf.put h1 undef_tup) hm h
    · rename_i hgd
      have hw := guardA_run hf (fun _ _ _ _ _ _ _ => id) hgd
      rw [if_pos hw]
      split at h
      · rename_i hrec
        rw [recover_run hrec]
        simp only
        obtain ⟨fr1, h1, h2⟩ := Rs.bind_ok h
        clear h
        cases u with
        | returning =>
          cases m <;> first | exact hm.elim | skip
          simp only [recoverD]
          exact next ρ fr1 .returning st _ .returning w (Rho.le_refl _) hM (hf.put h1 .nili) trivial h2
        | panicking ch =>
          cases m with
          | run => exact hm.elim
          | returning => exact hm.elim
          | panicking chain =>
            have hm : ChR ρ ch chain := hm
            cases hm with
            | nil =>
              simp only [recoverD]
              exact next ρ fr1 (.panicking []) st _ (.panicking []) w (Rho.le_refl _) hM (hf.put h1 .nili) ChR.nil h2
            | cons v0 b q l m hv hr =>
              cases b with
              | true =>
                simp only [recoverD]
                exact next ρ fr1 (.panicking ((v0, true) :: l)) st _ (.panicking _) w (Rho.le_refl _) hM (hf.put h1 .nili) (ChR.cons _ _ _ _ _ hv hr) h2
              | false =>
                simp only [recoverD]
                exact next ρ fr1 (.panicking ((v0, true) :: l)) st _ (.panicking _) w (Rho.le_refl _) hM (hf.put h1 hv) (ChR.cons _ _ _ _ _ hv hr) h2
      · suffices hup : o.wp E.P a w (fun a' w' => wpOpsS E.P ops (ExS N ρ E.ro W c₀ rest ex fr' u' st') (List.range' (pre.length + 1) r.length) a' ({ c₀ with mode := m } :: rest) w') (fun e a' w' => ExS N ρ E.ro W c₀ rest ex fr' u' st' e a' ({ c₀ with mode := m } :: rest) w') by
          unfold Oper.wp at hup
          generalize (execOp a.eval o).run E.P w = r0 at hup ⊢
          cases r0 with
          | ok n w' => cases n <;> first | exact hup | exact hup.elim
          | halt x w' => exact hup
        show o.wp E.P a w (fun a' w' => wpOpsS E.P ops (ExS N ρ E.ro W c₀ rest ex fr' u' st') (List.range' (pre.length + 1) r.length) a' ({ c₀ with mode := m } :: rest) w') (fun e a' w' => ExS N ρ E.ro W c₀ rest ex fr' u' st' e a' ({ c₀ with mode := m } :: rest) w')
        split at h
        · cases h
        all_goals rename_i hs
        · refine step_wp hc hM hf (fun t _ => id) hg hs (fun v st1 e ρ' q w' h1 h2 h3 => ?_) (fun _ e => by cases e) (fun _ e => by cases e) (fun _ _ e => by cases e) (fun _ e => by cases e)
          cases e
          obtain ⟨fr1, h4, h⟩ := Rs.bind_ok h
          exact next ρ' fr1 u _ _ m w' h1 h2 ((hf.mono h1).put h4 h3) (hm.mono h1) h
        · refine step_wp hc hM hf (fun t _ => id) hg hs (fun v st1 e => by cases e) (fun st1 e w' h1 => ?_) (fun _ e => by cases e) (fun _ _ e => by cases e) (fun _ e => by cases e)
          cases e
          obtain ⟨fr1, h4, h⟩ := Rs.bind_ok h
          exact next ρ fr1 u _ _ m w' (Rho.le_refl _) h1 (hf.put h4 undef_tup) hm h
        · cases h
        · refine step_wp hc hM hf (fun t _ => id) hg hs (fun v st1 e => by cases e) (fun _ e => by cases e) (fun _ e => by cases e) (fun f args e => ?_) (fun _ e => by cases e)
          cases e
          split at h
          · cases h
          · rename_i v st1 hcall
            refine ⟨_, _, hcall, fun ρ' w' h1 h2 => ⟨fun v' q e hv => ?_, fun ch chain e => by cases e⟩⟩
            cases e
            obtain ⟨fr1, h4, h⟩ := Rs.bind_ok h
            exact next ρ' fr1 u _ _ m w' h1 h2 ((hf.mono h1).put h4 hv) (hm.mono h1) h
          · rename_i ch st1 hcall
            refine ⟨_, _, hcall, fun ρ' w' h1 h2 => ⟨(fun v' q e hv => by cases e), fun ch chain e hch => ?_⟩⟩
            cases e
            cases h
            exact ⟨ρ', m, h1, h2, hf.mono h1, hm.mono h1, rfl, hch⟩
        · refine step_wp hc hM hf (fun t _ => id) hg hs (fun v st1 e => by cases e) (fun _ e => by cases e) (fun _ e => by cases e) (fun f args e => by cases e) (fun v e q hv => ?_)
          cases e
          cases h
          exact ⟨ρ, m, Rho.le_refl _, hM, hf, hm, rfl, .cons _ _ _ _ _ hv .nil⟩
theorem plain_S {code : Code → Fr → St → Rs (Ex × Fr × St)} (hi : SCode E code) {c : Code} {fr : Fr} {ex : Ex} {fr' : Fr} {u : Md} {st' : St} (h : code c fr st = .ok (ex, fr', st')) {a : Act} {m : FrameMode} {c₀ : Frame} {rest : List Frame} (hM : MR N ρ E.ro st W w) (hf : FR ρ fr a) (hg : Gl ρ E.gl) (hm : MdR ρ u m) :
    c.wpS E.P (ExS N ρ E.ro W c₀ rest ex fr' u st') a ({ c₀ with mode := m } :: rest) w :=
  wpS_of_wp (wp_mono (hi.wp h hM hf hg) fun _ _ _ ⟨ρ', h1, h2, h3, h4⟩ => ⟨ρ', m, h1, h2, h3, hm.mono h1, rfl, h4⟩)
theorem codeDBody_run (hF : Fit E) {ih : Ev} (hi : SEv E ih) : SCodeD E (codeDBody E ih) := by
  intro c fr u st ex fr' u' st' h N ρ W w a m c₀ rest hM hf hg hm
  have other : (match ih.code c fr st with | .ok (e, fr', st') => Rs.ok (e, fr', u, st') | .bad w => .bad w) = .ok (ex, fr', u', st') → c.wpS E.P (ExS N ρ E.ro W c₀ rest ex fr' u' st') a ({ c₀ with mode := m } :: rest) w := by
    intro h
    split at h
    · rename_i h1
      cases h
      exact plain_S hi.code h1 hM hf hg hm
    · cases h
  cases c <;> simp only [codeDBody] at h <;> first
    | exact other h
    | skip
  case seq x y =>
    have hx := fun ex1 fr1 u1 st1 (h1 : ih.codeD x fr u st = .ok (ex1, fr1, u1, st1)) => hi.codeD x fr u st ex1 fr1 u1 st1 h1 N ρ W w a m c₀ rest hM hf hg hm
    split at h
    · rename_i fr1 u1 st1 h1
      refine wpS_seq (wpS_mono (hx _ _ _ _ h1) fun e a1 cs1 w1 he => ?_)
      obtain ⟨ρ1, m1, h2, h3, h4, h5, rfl, h6⟩ := he
      cases e <;> first | exact h6.elim | skip
      exact wpS_mono (hi.codeD y fr1 u1 st1 ex fr' u' st' h N ρ1 W w1 a1 m1 c₀ rest h3 h4 (hg.mono h2) h5) fun _ _ _ _ hh => ExS.le h2 hh
    · rename_i r hne
      refine wpS_seq (wpS_mono (hx _ _ _ _ h) fun e a1 cs1 w1 he => ?_)
      cases e <;> first
        | exact he
        | skip
      obtain ⟨ρ1, m1, h2, h3, h4, h5, rfl, h6⟩ := he
      cases ex <;> first | exact h6.elim | skip
      exact absurd h (hne _ _ _)
  case cond x b c =>
    have hx := hf.eval x (fun _ _ => id)
    split at h
    · rename_i hb
      rw [hb] at hx
      exact wpS_cond hx.bool_inv (by simpa using hi.codeD _ _ _ _ _ _ _ _ h N ρ W w a m c₀ rest hM hf hg hm)
    · rename_i hb
      rw [hb] at hx
      exact wpS_cond hx.bool_inv (by simpa using hi.codeD _ _ _ _ _ _ _ _ h N ρ W w a m c₀ rest hM hf hg hm)
    · cases h
  case region id ops draw =>
    split at h
    · have h1 := evOpsD_run (c₀ := c₀) (rest := rest) hi.call ops.toList [] fr u st ρ a m w ex fr' u' st' rfl hM hf hg hm h
      refine wpS_region (Q := ExS N ρ E.ro W c₀ rest ex fr' u' st') ?_
      have e : List.range' 0 ops.toList.length = List.range ops.size := by rw [List.range_eq_range']; simp
      rw [← e]
      exact h1
    · exact other h
theorem callDBody_run (hF : Fit E) {ih : Ev} (hi : SEv E ih) : SCallD E (callDBody E ih) := by
  intro f args u st en u' st' h N ρ W w vs m hM hg hv hm
  unfold callDBody at h
  split at h
  · cases h
  split at h
  · cases h
  rename_i fn hf
  split at h
  · cases h
  rename_i c hb
  refine ⟨enter_call hF hf hb vs w, callsD_of_wpS hf hb fun c₀ cs hc0 => ?_⟩
  have hfr := enter_FR (E := E) hg (fn := fn) hv
  split at h
  · cases h
  rename_i e fr u1 st1 h1
  have hc : c₀ = { c₀ with mode := m } := by subst hc0; rfl
  have hS := hi.codeD c _ u st e fr u1 st1 h1 N ρ W w _ m c₀ cs hM hfr hg hm
  rw [← hc] at hS
  refine wpS_mono hS fun e1 a1 cs1 w1 he => ?_
  obtain ⟨ρ1, m1, h2, h3, h4, h5, rfl, h6⟩ := he
  split at h
  case h_2 => cases h
  rename_i hds
  have hd : a1.defers = [] := by
    have := h4.ds
    rw [hds] at this
    generalize a1.defers = d at this
    cases this; rfl
  split at h
  · obtain ⟨v, hv, h⟩ := Rs.bind_ok h
    cases h
    obtain ⟨q, h7, h8⟩ := resA_run h3 (fun t => h4.get t id) hv
    cases e1 <;> first | exact h6.elim | skip
    exact ⟨hd, m1, rfl, q, h7, ρ1, h2, h3, h5, h8⟩
  · obtain ⟨v, hv, h⟩ := Rs.bind_ok h
    cases h
    obtain ⟨q, h7, h8⟩ := resA_run h3 (fun t => h4.get t id) hv
    cases e1 <;> first | exact h6.elim | skip
    exact ⟨hd, m1, rfl, q, h7, ρ1, h2, h3, h5, h8⟩
  · cases h
    cases e1 <;> first | exact h6.elim | skip
    exact ⟨hd, m1, rfl, ρ1, h2, h3, h5, h6⟩
  · cases h
theorem ev_sound (hF : Fit E) : ∀ n, SEv E (ev E n)
  | 0 => ⟨(fun _ _ _ _ _ _ h => by cases h), (fun _ _ _ _ _ h => by cases h), (fun _ _ _ _ _ _ _ _ h => by cases h), (fun _ _ _ _ _ _ _ h => by cases h)⟩
  | n + 1 => ⟨codeBody_run hF (ev_sound hF n), callBody_run hF (ev_sound hF n), codeDBody_run hF (ev_sound hF n), callDBody_run hF (ev_sound hF n)⟩
end
end Go.Proofs.YtjifnmilimdfdaaGreatDoor.Ab
