/- Calls and deferred calls; every depth. -/
import Derived.Test.YteegpmimbbgdlaaGreatDoorBody
set_option linter.unusedVariables false
set_option linter.unusedSimpArgs false
set_option linter.unnecessarySimpa false
namespace Go.Proofs.YteegpmimbbgdlaaGreatDoor.Ab
open Go Go.RowKit

section
variable {E : Env} {N : Nat → Prop} {ρ : Rho} {st : St} {W w : World}
theorem enter_FR (hg : Gl ρ E.gl) {fn : Func} {args : List AV} {vs : Array Value} (h : VRs ρ args vs.toList) : FR ρ (enterA E.gl fn args) { tmps := vs ++ Array.replicate (fn.ntmps - vs.size) undef, defers := [] } := by
  have hl := h.length
  have hl' : vs.size = args.length := by simpa using hl
  refine ⟨?_, fun t _ => ?_, hg, .nil⟩
  · simp [enterA, hl']
  · simp only [Fr.get, enterA]
    split
    · rename_i v hv
      rcases PT.get_lay hv with ⟨_, h1⟩ | ⟨_, h1⟩
      · obtain ⟨q, h2, h3⟩ := h.get h1
        have h2' : vs[t]? = some q := by simpa using h2
        have hlt := (Array.getElem?_eq_some_iff.1 h2').1
        rw [Array.getD_eq_getD_getElem?, Array.getElem?_append_left hlt, h2']
        exact h3
      · cases h1
    · exact .top _
theorem enter_call (hF : Fit E) {f : FuncId} {fn : Func} {c : Code} (hf : E.P.funcs[f]? = some fn) (hb : fn.body = some c) (vs : Array Value) (w : World) : (callFunc f vs).run E.P w = .ok (.enter f vs) w := by
  have hn := hF.name f fn hf (by rw [hb]; rfl)
  simp only [callFunc, Sem.run_bind, run_program, Result.andThen_ok, hf]
  rw [if_neg (by rw [hn]; exact Bool.false_ne_true)]
  simp [hb]
theorem callBody_run (hF : Fit E) {ih : Ev} (hi : SEv E ih) : SCall E (callBody E ih) := by
  intro f args st en st' h N ρ W w vs hM hg hv
  unfold callBody at h
  split at h
  · rename_i F hfast
    exact hF.fast f F hfast _ hi.call args st en st' h N ρ W w vs hM hg hv
  split at h
  · rename_i e he
    obtain ⟨⟨v, st1⟩, hx, h⟩ := Rs.bind_ok h
    cases h
    obtain ⟨q, w', ρ', h1, h2, h3, h4⟩ := hF.ext f e he args v st _ hx N ρ W w vs hM hg hv
    exact .inl ⟨q, w', h1, ρ', h2, h3, h4⟩
  · split at h
    · cases h
    rename_i fn hf
    split at h
    · cases h
    rename_i c hb
    refine .inr ⟨enter_call hF hf hb vs w, calls_of_wp_defers hf hb ?_⟩
    have hfr := enter_FR (E := E) hg (fn := fn) hv
    split at h
    · cases h
    · rename_i fr st1 h1
      refine wp_mono (hi.code.wp h1 hM hfr hg) fun e a1 w1 ⟨ρ1, h2, h3, h4, h5⟩ => ?_
      cases e <;> first | exact h5.elim | skip
      exact leaveA_run hi.callD fr.ds a1.defers .returning .returning st1 ρ ρ1 w1 h h2 h3 (fun t => h4.get t id) h4.ds (hg.mono h2) trivial
    · rename_i fr st1 h1
      refine wp_mono (hi.code.wp h1 hM hfr hg) fun e a1 w1 ⟨ρ1, h2, h3, h4, h5⟩ => ?_
      cases e <;> first | exact h5.elim | skip
      exact leaveA_run hi.callD fr.ds a1.defers .returning .returning st1 ρ ρ1 w1 h h2 h3 (fun t => h4.get t id) h4.ds (hg.mono h2) trivial
    · rename_i ch fr st1 h1
      refine wp_mono (hi.code.wp h1 hM hfr hg) fun e a1 w1 he => ?_
      obtain ⟨ρ1, h2, h3, h4, h5⟩ := he
      cases e <;> first | exact h5.elim | skip
      rename_i chain
      exact leaveA_run hi.callD fr.ds a1.defers (.panicking ch) (.panicking chain) st1 ρ ρ1 w1 h h2 h3 (fun t => h4.get t id) h4.ds (hg.mono h2) h5
    · cases h
def ExS (N : Nat → Prop) (ρ : Rho) (ro : Nat) (W : World) (c₀ : Frame) (rest : List Frame) (ex : Ex) (fr' : Fr) (u' : Md) (st' : St) : Exit → Act → List Frame → World → Prop :=
  fun e a cs w => ∃ (ρ' : Rho) (m' : FrameMode), ρ.le ρ' ∧ MR N ρ' ro st' W w ∧ FR ρ' fr' a ∧ MdR ρ' u' m' ∧ cs = { c₀ with mode := m' } :: rest ∧ ExM ρ' ex e
theorem ExS.le {N : Nat → Prop} {ρ ρ' : Rho} (hle : ρ.le ρ') {ro : Nat} {W : World} {c₀ : Frame} {rest : List Frame} {ex : Ex} {fr' : Fr} {u' : Md} {st' : St} {e : Exit} {a : Act} {cs : List Frame} {w : World} (h : ExS N ρ' ro W c₀ rest ex fr' u' st' e a cs w) : ExS N ρ ro W c₀ rest ex fr' u' st' e a cs w :=
  let ⟨ρ'', m', h1, h2⟩ := h; ⟨ρ'', m', Rho.le_trans hle h1, h2⟩
theorem wpS_mono {P : Program} {c : Code} {Q Q' : Exit → Act → List Frame → World → Prop} {a : Act} {cs : List Frame} {w : World} (h : c.wpS P Q a cs w) (hq : ∀ e a cs w, Q e a cs w → Q' e a cs w) : c.wpS P Q' a cs w :=
  fun b k hb hr => let ⟨e, a', cs', w', q, r⟩ := h b k hb hr; ⟨e, a', cs', w', hq _ _ _ _ q, r⟩
theorem wpOpsS_mono {P : Program} {ops : Array Oper} {Q Q' : Exit → Act → List Frame → World → Prop} (hq : ∀ e a cs w, Q e a cs w → Q' e a cs w) : ∀ (l : List Nat) (a : Act) (cs : List Frame) (w : World), wpOpsS P ops Q l a cs w → wpOpsS P ops Q' l a cs w
  | [], a, cs, w, h => hq _ _ _ _ h
  | i :: l, a, cs, w, h => by
    simp only [wpOpsS] at h ⊢
    split
    · rename_i h0
      rw [h0] at h
      exact wpOpsS_mono hq l a cs w h
    · rename_i o h0
      rw [h0] at h
      simp only at h
      split
      · rename_i hw
        rw [if_pos hw] at h
        generalize (execOp a.eval o).run P w = r at h ⊢
        cases r with
        | ok n w' =>
          cases n <;> simp only [Oper.upon] at h ⊢ <;> first
            | exact wpOpsS_mono hq l _ _ _ h
            | exact h
            | exact Rows.mono h fun v w' hv => wpOpsS_mono hq l _ _ _ hv
            | (refine Calls.mono h fun e w' he => ?_
               cases e with
               | returned v => exact wpOpsS_mono hq l _ _ _ he
               | panicked c => exact hq _ _ _ _ he
               | outgrown => exact let ⟨b, w', h'⟩ := he; ⟨b, w', hq _ _ _ _ h'⟩)
            | (split at h <;> exact wpOpsS_mono hq l _ _ _ h)
        | halt x w' => cases x <;> simp only [Oper.upon] at h ⊢ <;> first
            | exact hq _ _ _ _ h
            | exact h
      · rename_i hw
        rw [if_neg hw] at h
        exact wpOpsS_mono hq l _ _ _ h
theorem recover_run {ev : Operand → Value} {o : Oper} (h : isRecover o.op = true) (w : World) : (execOp ev o).run E.P w = .ok .recover w := by
  unfold isRecover at h
  split at h
  · rename_i c hop
    split at h
    · rename_i hc
      simp only [execOp, hop, resolve, hc, Sem.run_bind, Sem.run_pure, Result.andThen_ok, invoke, Go.builtin]
    · cases h
  · cases h
theorem evOpsD_run {call : FuncId → List AV → St → Rs (En × St)} (hc : SCall E call) {ops : Array Oper} {c₀ : Frame} {rest : List Frame} : ∀ (l pre : List Oper) (fr : Fr) (u : Md) (st : St) (ρ : Rho) (a : Act) (m : FrameMode) (w : World) (ex : Ex) (fr' : Fr) (u' : Md) (st' : St), ops.toList = pre ++ l → MR N ρ E.ro st W w → FR ρ fr a → Gl ρ E.gl → MdR ρ u m →
    evOpsD call E.P E.ro ops.toList l fr u st = .ok (ex, fr', u', st') → wpOpsS E.P ops (ExS N ρ E.ro W c₀ rest ex fr' u' st') (List.range' pre.length l.length) a ({ c₀ with mode := m } :: rest) w := by
  intro l
  induction l with
  | nil =>
    intro pre fr u st ρ a m w ex fr' u' st' _ hM hf hg hm h
    simp only [evOpsD] at h
    cases h
    exact ⟨ρ, m, Rho.le_refl _, hM, hf, hm, rfl, trivial⟩
  | cons o r ih =>
    intro pre fr u st ρ a m w ex fr' u' st' heq hM hf hg hm h
    have ho : ops[pre.length]? = some o := by
      rw [← Array.getElem?_toList, heq]
      simp
    have heq' : ops.toList = (pre ++ [o]) ++ r := by simp [heq]
    have next : ∀ (ρ' : Rho) (fr1 : Fr) (u1 : Md) (st1 : St) (a1 : Act) (m1 : FrameMode) (w1 : World), ρ.le ρ' → MR N ρ' E.ro st1 W w1 → FR ρ' fr1 a1 → MdR ρ' u1 m1 → evOpsD call E.P E.ro ops.toList r fr1 u1 st1 = .ok (ex, fr', u', st') → wpOpsS E.P ops (ExS N ρ E.ro W c₀ rest ex fr' u' st') (List.range' (pre.length + 1) r.length) a1 ({ c₀ with mode := m1 } :: rest) w1 := by
      intro ρ' fr1 u1 st1 a1 m1 w1 hle h1 h2 h2' h3
      have := ih (pre ++ [o]) fr1 u1 st1 ρ' a1 m1 w1 ex fr' u' st' heq' h1 h2 (hg.mono hle) h2' h3
      rw [List.length_append, List.length_singleton] at this
      exact wpOpsS_mono (fun e a cs w h => h.le hle) _ _ _ _ this
    simp only [List.length_cons, List.range'_succ]
    rw [wpOpsS, ho]
    simp only
    simp only [evOpsD] at h
    split at h
    · cases h
    · rename_i hgd
      have hw := guardA_run hf (fun _ _ _ _ _ _ _ => id) hgd
      rw [if_neg (by rw [hw]; exact Bool.false_ne_true)]
      obtain ⟨fr1, h1, h⟩ := Rs.bind_ok h
      exact next ρ fr1 u st _ m w (Rho.le_refl _) hM (hf.put h1 undef_tup) hm h
    · rename_i hgd
      have hw := guardA_run hf (fun _ _ _ _ _ _ _ => id) hgd
      rw [if_pos hw]
      split at h
      · rename_i hrec
        rw [recover_run hrec]
        simp only
        obtain ⟨fr1, h1, h2⟩ := Rs.bind_ok h
        clear h
        cases u with
        | returning =>
          cases m <;> first | exact hm.elim | skip
          simp only [recoverD]
          exact next ρ fr1 .returning st _ .returning w (Rho.le_refl _) hM (hf.put h1 .nili) trivial h2
        | panicking ch =>
          cases m with
          | run => exact hm.elim
          | returning => exact hm.elim
          | panicking chain =>
            have hm : ChR ρ ch chain := hm
            cases hm with
            | nil =>
              simp only [recoverD]
              exact next ρ fr1 (.panicking []) st _ (.panicking []) w (Rho.le_refl _) hM (hf.put h1 .nili) ChR.nil h2
            | cons v0 b q l m hv hr =>
              cases b with
              | true =>
                simp only [recoverD]
                exact next ρ fr1 (.panicking ((v0, true) :: l)) st _ (.panicking _) w (Rho.le_refl _) hM (hf.put h1 .nili) (ChR.cons _ _ _ _ _ hv hr) h2
              | false =>
                simp only [recoverD]
                exact next ρ fr1 (.panicking ((v0, true) :: l)) st _ (.panicking _) w (Rho.le_refl _) hM (hf.put h1 hv) (ChR.cons _ _ _ _ _ hv hr) h2
      · suffices hup : o.wp E.P a w (fun a' w' => wpOpsS E.P ops (ExS N ρ E.ro W c₀ rest ex fr' u' st') (List.range' (pre.length + 1) r.length) a' ({ c₀ with mode := m } :: rest) w') (fun e a' w' => ExS N ρ E.ro W c₀ rest ex fr' u' st' e a' ({ c₀ with mode := m } :: rest) w') by
          unfold Oper.wp at hup
          generalize (execOp a.eval o).run E.P w = r0 at hup ⊢
          cases r0 with
          | ok n w' => cases n <;> first | exact hup | exact hup.elim
          | halt x w' => exact hup
        show o.wp E.P a w (fun a' w' => wpOpsS E.P ops (ExS N ρ E.ro W c₀ rest ex fr' u' st') (List.range' (pre.length + 1) r.length) a' ({ c₀ with mode := m } :: rest) w') (fun e a' w' => ExS N ρ E.ro W c₀ rest ex fr' u' st' e a' ({ c₀ with mode := m } :: rest) w')
        split at h
        · cases h
        all_goals rename_i hs
        · refine step_wp hc hM hf (fun t _ => id) hg hs (fun v st1 e ρ' q w' h1 h2 h3 => ?_) (fun _ e => by cases e) (fun _ e => by cases e) (fun _ _ e => by cases e) (fun _ e => by cases e)
          cases e
          obtain ⟨fr1, h4, h⟩ := Rs.bind_ok h
          exact next ρ' fr1 u _ _ m w' h1 h2 ((hf.mono h1).put h4 h3) (hm.mono h1) h
        · refine step_wp hc hM hf (fun t _ => id) hg hs (fun v st1 e => by cases e) (fun st1 e w' h1 => ?_) (fun _ e => by cases e) (fun _ _ e => by cases e) (fun _ e => by cases e)
          cases e
          obtain ⟨fr1, h4, h⟩ := Rs.bind_ok h
          exact next ρ fr1 u _ _ m w' (Rho.le_refl _) h1 (hf.put h4 undef_tup) hm h
        · cases h
        · refine step_wp hc hM hf (fun t _ => id) hg hs (fun v st1 e => by cases e) (fun _ e => by cases e) (fun _ e => by cases e) (fun f args e => ?_) (fun _ e => by cases e)
          cases e
          split at h
          · cases h
          · rename_i v st1 hcall
            refine ⟨_, _, hcall, fun ρ' w' h1 h2 => ⟨fun v' q e hv => ?_, fun ch chain e => by cases e⟩⟩
            cases e
            obtain ⟨fr1, h4, h⟩ := Rs.bind_ok h
            exact next ρ' fr1 u _ _ m w' h1 h2 ((hf.mono h1).put h4 hv) (hm.mono h1) h
          · rename_i ch st1 hcall
            refine ⟨_, _, hcall, fun ρ' w' h1 h2 => ⟨(fun v' q e hv => by cases e), fun ch chain e hch => ?_⟩⟩
            cases e
            cases h
            exact ⟨ρ', m, h1, h2, hf.mono h1, hm.mono h1, rfl, hch⟩
        · refine step_wp hc hM hf (fun t _ => id) hg hs (fun v st1 e => by cases e) (fun _ e => by cases e) (fun _ e => by cases e) (fun f args e => by cases e) (fun v e q hv => ?_)
          cases e
          cases h
          exact ⟨ρ, m, Rho.le_refl _, hM, hf, hm, rfl, .cons _ _ _ _ _ hv .nil⟩
theorem plain_S {code : Code → Fr → St → Rs (Ex × Fr × St)} (hi : SCode E code) {c : Code} {fr : Fr} {ex : Ex} {fr' : Fr} {u : Md} {st' : St} (h : code c fr st = .ok (ex, fr', st')) {a : Act} {m : FrameMode} {c₀ : Frame} {rest : List Frame} (hM : MR N ρ E.ro st W w) (hf : FR ρ fr a) (hg : Gl ρ E.gl) (hm : MdR ρ u m) :
    c.wpS E.P (ExS N ρ E.ro W c₀ rest ex fr' u st') a ({ c₀ with mode := m } :: rest) w :=
  wpS_of_wp (wp_mono (hi.wp h hM hf hg) fun _ _ _ ⟨ρ', h1, h2, h3, h4⟩ => ⟨ρ', m, h1, h2, h3, hm.mono h1, rfl, h4⟩)
theorem codeDBody_run (hF : Fit E) {ih : Ev} (hi : SEv E ih) : SCodeD E (codeDBody E ih) := by
  intro c fr u st ex fr' u' st' h N ρ W w a m c₀ rest hM hf hg hm
  have other : (match ih.code c fr st with | .ok (e, fr', st') => Rs.ok (e, fr', u, st') | .bad w => .bad w) = .ok (ex, fr', u', st') → c.wpS E.P (ExS N ρ E.ro W c₀ rest ex fr' u' st') a ({ c₀ with mode := m } :: rest) w := by
    intro h
    split at h
    · rename_i h1
      cases h
      exact plain_S hi.code h1 hM hf hg hm
    · cases h
  cases c <;> simp only [codeDBody] at h <;> first
    | exact other h
    | skip
  case seq x y =>
    have hx := fun ex1 fr1 u1 st1 (h1 : ih.codeD x fr u st = .ok (ex1, fr1, u1, st1)) => hi.codeD x fr u st ex1 fr1 u1 st1 h1 N ρ W w a m c₀ rest hM hf hg hm
    split at h
    · rename_i fr1 u1 st1 h1
      refine wpS_seq (wpS_mono (hx _ _ _ _ h1) fun e a1 cs1 w1 he => ?_)
      obtain ⟨ρ1, m1, h2, h3, h4, h5, rfl, h6⟩ := he
      cases e <;> first | exact h6.elim | skip
      exact wpS_mono (hi.codeD y fr1 u1 st1 ex fr' u' st' h N ρ1 W w1 a1 m1 c₀ rest h3 h4 (hg.mono h2) h5) fun _ _ _ _ hh => ExS.le h2 hh
    · rename_i r hne
      refine wpS_seq (wpS_mono (hx _ _ _ _ h) fun e a1 cs1 w1 he => ?_)
      cases e <;> first
        | exact he
        | skip
      obtain ⟨ρ1, m1, h2, h3, h4, h5, rfl, h6⟩ := he
      cases ex <;> first | exact h6.elim | skip
      exact absurd h (hne _ _ _)
  case cond x b c =>
    have hx := hf.eval x (fun _ _ => id)
    split at h
    · rename_i hb
      rw [hb] at hx
      exact wpS_cond hx.bool_inv (by simpa using hi.codeD _ _ _ _ _ _ _ _ h N ρ W w a m c₀ rest hM hf hg hm)
    · rename_i hb
      rw [hb] at hx
      exact wpS_cond hx.bool_inv (by simpa using hi.codeD _ _ _ _ _ _ _ _ h N ρ W w a m c₀ rest hM hf hg hm)
    · cases h
  case region id ops draw =>
    split at h
    · have h1 := evOpsD_run (c₀ := c₀) (rest := rest) hi.call ops.toList [] fr u st ρ a m w ex fr' u' st' rfl hM hf hg hm h
      refine wpS_region (Q := ExS N ρ E.ro W c₀ rest ex fr' u' st') ?_
      have e : List.range' 0 ops.toList.length = List.range ops.size := by rw [List.range_eq_range']; simp
      rw [← e]
      exact h1
    · exact other h
theorem callDBody_run (hF : Fit E) {ih : Ev} (hi : SEv E ih) : SCallD E (callDBody E ih) := by
  intro f args u st en u' st' h N ρ W w vs m hM hg hv hm
  unfold callDBody at h
  split at h
  · cases h
  split at h
  · cases h
  rename_i fn hf
  split at h
  · cases h
  rename_i c hb
  refine ⟨enter_call hF hf hb vs w, callsD_of_wpS hf hb fun c₀ cs hc0 => ?_⟩
  have hfr := enter_FR (E := E) hg (fn := fn) hv
  split at h
  · cases h
  rename_i e fr u1 st1 h1
  have hc : c₀ = { c₀ with mode := m } := by subst hc0; rfl
  have hS := hi.codeD c _ u st e fr u1 st1 h1 N ρ W w _ m c₀ cs hM hfr hg hm
  rw [← hc] at hS
  refine wpS_mono hS fun e1 a1 cs1 w1 he => ?_
  obtain ⟨ρ1, m1, h2, h3, h4, h5, rfl, h6⟩ := he
  split at h
  case h_2 => cases h
  rename_i hds
  have hd : a1.defers = [] := by
    have := h4.ds
    rw [hds] at this
    generalize a1.defers = d at this
    cases this; rfl
  split at h
  · obtain ⟨v, hv, h⟩ := Rs.bind_ok h
    cases h
    obtain ⟨q, h7, h8⟩ := resA_run h3 (fun t => h4.get t id) hv
    cases e1 <;> first | exact h6.elim | skip
    exact ⟨hd, m1, rfl, q, h7, ρ1, h2, h3, h5, h8⟩
  · obtain ⟨v, hv, h⟩ := Rs.bind_ok h
    cases h
    obtain ⟨q, h7, h8⟩ := resA_run h3 (fun t => h4.get t id) hv
    cases e1 <;> first | exact h6.elim | skip
    exact ⟨hd, m1, rfl, q, h7, ρ1, h2, h3, h5, h8⟩
  · cases h
    cases e1 <;> first | exact h6.elim | skip
    exact ⟨hd, m1, rfl, ρ1, h2, h3, h5, h6⟩
  · cases h
theorem ev_sound (hF : Fit E) : ∀ n, SEv E (ev E n)
  | 0 => ⟨(fun _ _ _ _ _ _ h => by cases h), (fun _ _ _ _ _ h => by cases h), (fun _ _ _ _ _ _ _ _ h => by cases h), (fun _ _ _ _ _ _ _ h => by cases h)⟩
  | n + 1 => ⟨codeBody_run hF (ev_sound hF n), callBody_run hF (ev_sound hF n), codeDBody_run hF (ev_sound hF n), callDBody_run hF (ev_sound hF n)⟩
end
end Go.Proofs.YteegpmimbbgdlaaGreatDoor.Ab
