/- Bodies: regions in the order of their text, jumps, loops; calls; what was deferred. -/
import Derived.Test.YteegpmimbbgdlaaGreatDoorLoud4
import Derived.Scope
import Derived.LoopN
set_option linter.unusedVariables false
set_option linter.unusedSimpArgs false
set_option linter.unnecessarySimpa false
namespace Go.Proofs.YteegpmimbbgdlaaGreatDoor.Ab
open Go Go.RowKit

def Gl (ρ : Rho) (gl : Nat) : Prop := ∀ g, g < gl → ∃ n, ρ g = some ⟨g, n, 0⟩
theorem Gl.mono {ρ ρ' : Rho} (hle : ρ.le ρ') {gl : Nat} (h : Gl ρ gl) : Gl ρ' gl := fun g hg => let ⟨n, hn⟩ := h g hg; ⟨n, hle.1 _ _ hn⟩
inductive ChR (ρ : Rho) : List (AV × Bool) → List PanicEntry → Prop where
  | nil : ChR ρ [] []
  | cons (v : AV) (b : Bool) (q : Value) (l : List (AV × Bool)) (m : List PanicEntry) (h : VR ρ v q) (r : ChR ρ l m) : ChR ρ ((v, b) :: l) ({ v := q, recovered := b, goexit := false } :: m)
theorem ChR.mono {ρ ρ' : Rho} (hle : ρ.le ρ') {l : List (AV × Bool)} {m : List PanicEntry} (h : ChR ρ l m) : ChR ρ' l m := by
  induction h with
  | nil => exact .nil
  | cons v b q l m h _ ih => exact .cons _ _ _ _ _ (h.mono hle) ih
theorem ChR.append {ρ : Rho} {l l' : List (AV × Bool)} {m m' : List PanicEntry} (h : ChR ρ l m) (h' : ChR ρ l' m') : ChR ρ (l ++ l') (m ++ m') := by
  induction h with
  | nil => exact h'
  | cons v b q l m h _ ih => exact .cons _ _ _ _ _ h ih
theorem ChR.noexit {ρ : Rho} {l : List (AV × Bool)} {m : List PanicEntry} (h : ChR ρ l m) : m.dropWhile (!·.goexit) = [] := by
  induction h with
  | nil => rfl
  | cons v b q l m h _ ih => simpa using ih
def EnM (ρ : Rho) (en : En) (e : Ending) : Prop := match en, e with
  | .ret v, .returned q => VR ρ v q
  | .panic ch, .panicked chain => ChR ρ ch chain
  | _, _ => False
def EnR (N : Nat → Prop) (ρ : Rho) (ro : Nat) (W : World) (en : En) (st' : St) : Ending → World → Prop := fun e w => ∃ ρ' : Rho, ρ.le ρ' ∧ MR N ρ' ro st' W w ∧ EnM ρ' en e
def ExM (ρ : Rho) (ex : Ex) (e : Exit) : Prop := match ex, e with
  | .normal, .normal => True
  | .ret, .ret => True
  | .exit i, .exit j => i = j
  | .panic ch, .panic chain => ChR ρ ch chain
  | _, _ => False
def ExR (N : Nat → Prop) (ρ : Rho) (ro : Nat) (W : World) (ex : Ex) (fr' : Fr) (st' : St) : Exit → Act → World → Prop := fun e a w => ∃ ρ' : Rho, ρ.le ρ' ∧ MR N ρ' ro st' W w ∧ FR ρ' fr' a ∧ ExM ρ' ex e
def CallsTo (P : Program) (f : FuncId) (vs : Array Value) (w : World) (R : Ending → World → Prop) : Prop :=
  (∃ q w', (callFunc f vs).run P w = .ok (.value q) w' ∧ R (.returned q) w') ∨ ((callFunc f vs).run P w = .ok (.enter f vs) w ∧ Calls P f vs w R)
def SCall (E : Env) (call : FuncId → List AV → St → Rs (En × St)) : Prop :=
  ∀ f args st en st', call f args st = .ok (en, st') → ∀ (N : Nat → Prop) (ρ : Rho) (W w : World) (vs : Array Value), MR N ρ E.ro st W w → Gl ρ E.gl → VRs ρ args vs.toList → CallsTo E.P f vs w (EnR N ρ E.ro W en st')
theorem ExR.le {N : Nat → Prop} {ρ ρ' : Rho} (hle : ρ.le ρ') {ro : Nat} {W : World} {ex : Ex} {fr' : Fr} {st' : St} {e : Exit} {a : Act} {w : World} (h : ExR N ρ' ro W ex fr' st' e a w) : ExR N ρ ro W ex fr' st' e a w :=
  let ⟨ρ'', h1, h2⟩ := h; ⟨ρ'', Rho.le_trans hle h1, h2⟩
theorem wpOps_mono {P : Program} {ops : Array Oper} {Q Q' : Exit → Act → World → Prop} (hq : ∀ e a w, Q e a w → Q' e a w) : ∀ (l : List Nat) (a : Act) (w : World), wpOps P ops Q l a w → wpOps P ops Q' l a w
  | [], a, w, h => hq _ _ _ h
  | i :: l, a, w, h => by
    simp only [wpOps] at h ⊢
    split
    · rename_i h0
      rw [h0] at h
      exact wpOps_mono hq l a w h
    · rename_i o h0
      rw [h0] at h
      simp only at h
      split
      · rename_i hw
        rw [if_pos hw] at h
        rcases h with h | ⟨h, b, w', h'⟩
        · left
          unfold Oper.wp at h ⊢
          generalize (execOp a.eval o).run P w = r at h ⊢
          cases r with
          | ok n w' =>
            cases n <;> simp only [Oper.upon] at h ⊢ <;> first
              | exact wpOps_mono hq l _ _ h
              | exact h
              | exact Rows.mono h fun v w' hv => wpOps_mono hq l _ _ hv
              | (refine Calls.mono h fun e w' he => ?_
                 cases e with
                 | returned v => exact wpOps_mono hq l _ _ he
                 | panicked c => exact hq _ _ _ he
                 | outgrown => exact let ⟨b, w', h'⟩ := he; ⟨b, w', hq _ _ _ h'⟩)
          | halt x w' => cases x <;> simp only [Oper.upon] at h ⊢ <;> first
              | exact hq _ _ _ h
              | exact h
        · exact .inr ⟨h, b, w', hq _ _ _ h'⟩
      · rename_i hw
        rw [if_neg hw] at h
        exact wpOps_mono hq l _ _ h

section
variable {E : Env} {N : Nat → Prop} {ρ : Rho} {st : St} {W w : World}
theorem guardA_run {X : Nat → Prop} {ops : Array Oper} {fr : Fr} {a : Act} {o : Oper} {b : Bool} (hf : FX X ρ fr a) (hX : ∀ j want p d, o.guard = some (j, want) → ops[j]? = some p → p.dst = some d → ¬ X d) (h : guardA ops.toList fr o = some b) :
    Region.wanted o (yielded ops a.tmps) = b := by
  unfold guardA at h
  unfold Region.wanted
  split at h
  · rename_i hg
    cases h
    rw [hg]
  · rename_i g hg
    obtain ⟨j, want⟩ := g
    rw [hg]
    simp only
    unfold guardOn at h
    split at h
    · rename_i p hp
      have hp' : ops[j]? = some p := by simpa using hp
      split at h
      · rename_i d hd
        have hx := hX j want p d hg hp' hd
        have hv := hf.get d hx
        have hy : yielded ops a.tmps j = match a.tmps[d]? with | some (.bool b) => some b | _ => none := by
          unfold yielded
          rw [hp']
          simp only [Option.bind_some, hd]
          rfl
        rw [hy]
        split at h
        · rename_i b' hb
          cases h
          simp only [Fr.get, hb] at hv
          have hv' := hv.bool_inv
          rw [Array.getD_eq_getD_getElem?] at hv'
          cases ht : a.tmps[d]? with
          | none => rw [ht] at hv'; cases hv'
          | some v =>
            rw [ht] at hv'
            simp only [Option.getD_some] at hv'
            subst hv'
            simp
        · rename_i hb
          cases h
          simp only [Fr.get, hb] at hv
          rw [Array.getD_eq_getD_getElem?] at hv
          cases ht : a.tmps[d]? with
          | none => simp
          | some v =>
            rw [ht] at hv
            simp only [Option.getD_some] at hv
            cases hv
            simp
        · cases h
      · cases h
    · cases h
theorem undef_tup : VR ρ (.tup []) undef := .tup [] #[] .nil
/-- One operation, called for. -/
theorem step_wp {call : FuncId → List AV → St → Rs (En × St)} (hc : SCall E call) {o : Oper} {out : Out} {fr : Fr} {a : Act} {K : Act → World → Prop} {Q : Exit → Act → World → Prop} {X : Nat → Prop}
    (hM : MR N ρ E.ro st W w) (hf : FX X ρ fr a) (hX : ∀ t, Operand.tmp t ∈ o.op.operands → ¬ X t) (hg : Gl ρ E.gl) (hs : stepA E.P E.ro fr st o.op = .ok out)
    (hval : ∀ v st', out = .val v st' → ∀ ρ' q w', ρ.le ρ' → MR N ρ' E.ro st' W w' → VR ρ' v q → K (a.put o.dst q) w')
    (hskip : ∀ st', out = .skip st' → ∀ w', MR N ρ E.ro st' W w' → K (a.put o.dst undef) w')
    (hlater : ∀ d, out = .later d → ∀ x, DR ρ d x → K ({ a with defers := x :: a.defers }.put o.dst undef) w)
    (hret : ∀ f args, out = .enter f args → ∃ en st', call f args st = .ok (en, st') ∧ ∀ ρ' w', ρ.le ρ' → MR N ρ' E.ro st' W w' → (∀ v q, en = .ret v → VR ρ' v q → K (a.put o.dst q) w') ∧ (∀ ch chain, en = .panic ch → ChR ρ' ch chain → Q (.panic chain) a w'))
    (hpan : ∀ v, out = .panic v → ∀ q, VR ρ v q → Q (.panic [{ v := q, recovered := false }]) a w) : o.wp E.P a w K Q := by
  have he : ∀ x ∈ o.op.operands.toList, VR ρ (fr.get x) (a.eval x) := fun x hx => hf.eval x (fun t ht => hX t (by subst ht; simpa using hx))
  have h := stepA_run hM he hs
  unfold Oper.wp
  generalize hrun : (execOp a.eval o).run E.P w = r at h
  cases out with
  | val v st' =>
    obtain ⟨ρ', q, w', rfl, h1, h2, h3⟩ := h
    exact hval v st' rfl ρ' q w' h1 h2 h3
  | skip st' =>
    obtain ⟨w', rfl, h1⟩ := h
    exact hskip st' rfl w' h1
  | later d =>
    obtain ⟨x, rfl, h1⟩ := h
    exact hlater d rfl x h1
  | panic v =>
    obtain ⟨q, rfl, h1⟩ := h
    exact hpan v rfl q h1
  | enter f args =>
    obtain ⟨vs, rfl, h1⟩ := h
    obtain ⟨en, st', h2, h3⟩ := hret f args rfl
    rcases hc f args st en st' h2 N ρ W w vs hM hg h1 with ⟨q, w', h4, ρ', h5, h6, h7⟩ | ⟨h4, h5⟩
    · rw [h4]
      cases en with
      | ret v => exact (h3 ρ' w' h5 h6).1 v q rfl h7
      | panic ch => exact h7.elim
    · rw [h4]
      refine Calls.mono h5 fun e w' ⟨ρ', h6, h7, h8⟩ => ?_
      cases e with
      | returned q =>
        cases en with
        | ret v => exact (h3 ρ' w' h6 h7).1 v q rfl h8
        | panic ch => exact h8.elim
      | panicked chain =>
        cases en with
        | ret v => exact h8.elim
        | panic ch => exact (h3 ρ' w' h6 h7).2 ch chain rfl h8
      | outgrown => cases en <;> exact h8.elim
theorem evOps_run {call : FuncId → List AV → St → Rs (En × St)} (hc : SCall E call) {ops : Array Oper} : ∀ (l pre : List Oper) (fr : Fr) (st : St) (ρ : Rho) (a : Act) (w : World) (ex : Ex) (fr' : Fr) (st' : St), ops.toList = pre ++ l → MR N ρ E.ro st W w → FR ρ fr a → Gl ρ E.gl →
    evOps call E.P E.ro ops.toList l fr st = .ok (ex, fr', st') → wpOps E.P ops (ExR N ρ E.ro W ex fr' st') (List.range' pre.length l.length) a w := by
  intro l
  induction l with
  | nil =>
    intro pre fr st ρ a w ex fr' st' _ hM hf hg h
    cases h
    exact ⟨ρ, Rho.le_refl _, hM, hf, trivial⟩
  | cons o r ih =>
    intro pre fr st ρ a w ex fr' st' heq hM hf hg h
    have ho : ops[pre.length]? = some o := by
      rw [← Array.getElem?_toList, heq]
      simp
    have heq' : ops.toList = (pre ++ [o]) ++ r := by simp [heq]
    have next : ∀ (ρ' : Rho) (fr1 : Fr) (st1 : St) (a1 : Act) (w1 : World), ρ.le ρ' → MR N ρ' E.ro st1 W w1 → FR ρ' fr1 a1 → evOps call E.P E.ro ops.toList r fr1 st1 = .ok (ex, fr', st') → wpOps E.P ops (ExR N ρ E.ro W ex fr' st') (List.range' (pre.length + 1) r.length) a1 w1 := by
      intro ρ' fr1 st1 a1 w1 hle h1 h2 h3
      have := ih (pre ++ [o]) fr1 st1 ρ' a1 w1 ex fr' st' heq' h1 h2 (hg.mono hle) h3
      rw [List.length_append, List.length_singleton] at this
      exact wpOps_mono (fun e a w h => h.le hle) _ _ _ this
    simp only [List.length_cons, List.range'_succ]
    rw [wpOps, ho]
    simp only
    have h : evOne call E.P E.ro ops.toList o (evOps call E.P E.ro ops.toList r) fr st = .ok (ex, fr', st') := h
    unfold evOne evGo at h
    split at h
    · cases h
    · rename_i hgd
      have hw := guardA_run hf (fun _ _ _ _ _ _ _ => id) hgd
      rw [if_neg (by rw [hw]; exact Bool.false_ne_true)]
      obtain ⟨fr1, h1, h⟩ := Rs.bind_ok h
      exact next ρ fr1 st _ w (Rho.le_refl _) hM (hf.put h1 undef_tup) h
    · rename_i hgd
      have hw := guardA_run hf (fun _ _ _ _ _ _ _ => id) hgd
      rw [if_pos hw]
      left
      split at h
      · cases h
      all_goals rename_i hs
      · refine step_wp hc hM hf (fun t _ => id) hg hs (fun v st1 e ρ' q w' h1 h2 h3 => ?_) (fun _ e => by cases e) (fun _ e => by cases e) (fun _ _ e => by cases e) (fun _ e => by cases e)
        cases e
        obtain ⟨fr1, h4, h⟩ := Rs.bind_ok h
        exact next ρ' fr1 _ _ w' h1 h2 ((hf.mono h1).put h4 h3) h
      · refine step_wp hc hM hf (fun t _ => id) hg hs (fun v st1 e => by cases e) (fun st1 e w' h1 => ?_) (fun _ e => by cases e) (fun _ _ e => by cases e) (fun _ e => by cases e)
        cases e
        obtain ⟨fr1, h4, h⟩ := Rs.bind_ok h
        exact next ρ fr1 _ _ w' (Rho.le_refl _) h1 (hf.put h4 undef_tup) h
      · rename_i d0
        refine step_wp hc hM hf (fun t _ => id) hg hs (fun v st1 e => by cases e) (fun _ e => by cases e) (fun d e x h1 => ?_) (fun _ _ e => by cases e) (fun _ e => by cases e)
        cases e
        obtain ⟨fr1, h4, h2⟩ := Rs.bind_ok h
        clear h
        have h := h2
        clear h2
        have hf' : FR ρ { fr with ds := d0 :: fr.ds } { a with defers := x :: a.defers } := ⟨hf.size, hf.get, hf.glob, .cons _ _ _ _ h1 hf.ds⟩
        exact next ρ fr1 st _ w (Rho.le_refl _) hM (hf'.put h4 undef_tup) h
      · refine step_wp hc hM hf (fun t _ => id) hg hs (fun v st1 e => by cases e) (fun _ e => by cases e) (fun _ e => by cases e) (fun f args e => ?_) (fun _ e => by cases e)
        cases e
        split at h
        · cases h
        · rename_i v st1 hcall
          refine ⟨_, _, hcall, fun ρ' w' h1 h2 => ⟨fun v' q e hv => ?_, fun ch chain e => by cases e⟩⟩
          cases e
          obtain ⟨fr1, h4, h⟩ := Rs.bind_ok h
          exact next ρ' fr1 _ _ w' h1 h2 ((hf.mono h1).put h4 hv) h
        · rename_i ch st1 hcall
          refine ⟨_, _, hcall, fun ρ' w' h1 h2 => ⟨(fun v' q e hv => by cases e), fun ch chain e hch => ?_⟩⟩
          cases e
          cases h
          exact ⟨ρ', h1, h2, hf.mono h1, hch⟩
      · refine step_wp hc hM hf (fun t _ => id) hg hs (fun v st1 e => by cases e) (fun _ e => by cases e) (fun _ e => by cases e) (fun f args e => by cases e) (fun v e q hv => ?_)
        cases e
        cases h
        exact ⟨ρ, Rho.le_refl _, hM, hf, .cons _ _ _ _ _ hv .nil⟩
end
end Go.Proofs.YteegpmimbbgdlaaGreatDoor.Ab
