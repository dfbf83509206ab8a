/- Regions whose order is open: the end. -/
import Derived.Test.YteegpmimbbgdlaaGreatDoorDraw5
set_option linter.unusedVariables false
set_option linter.unusedSimpArgs false
set_option linter.unnecessarySimpa false
namespace Go.Proofs.YteegpmimbbgdlaaGreatDoor.Ab
open Go Go.RowKit

section
variable {E : Env} {N : Nat → Prop} {W : World} {ops : Array Oper}
theorem drawA_run {call : FuncId → List AV → St → Rs (En × St)} (hcall : SCall E call) {ms : PT Nat} (hk : MK ops ms) (hA : AP E.P ops ms) {ex : Ex} {fr' : Fr} {st' : St} {ρ0 : Rho} : ∀ (n : Nat) (fr : Fr) (st : St) (done forced : Nat) (al : List (Nat × Nat)),
    drawA call E.P E.ro ms ops.toList n fr st done forced al = .ok (ex, fr', st') → ∀ (fuel : Nat) (listed : Array Bool) (ρ : Rho) (a : Act) (w : World), cnt listed.toList ≤ fuel → ρ0.le ρ → Gl ρ E.gl → Inv E ops N ρ W w a fr st done forced al listed →
    wpAny E.P .any ops (ExR N ρ0 E.ro W ex fr' st') fuel listed a w := by
  intro n
  induction n with
  | zero => intro fr st done forced al h; cases h
  | succ n ihn =>
    intro fr st done forced al h fuel listed ρ a w hfuel h0 hg hI
    simp only [drawA] at h
    obtain ⟨⟨fr1, st1, done1, al1⟩, hset, h2⟩ := Rs.bind_ok h
    clear h
    have h := h2
    clear h2
    have hI2 := settleA_run (ops := ops) (l := ops.toList) (pre := []) rfl hset hI
    clear hset hI
    have hI := hI2
    clear hI2
    simp only at h
    split at h
    · cases h
    rename_i hchk
    have hchk' := fun (j : Nat) (o : Oper) (ho : ops[j]? = some o) (hq : quietOp E.P o.op = true) => by
      have := chkAll_spec hchk j o (by simpa using ho) hq
      rw [Nat.zero_add] at this
      exact this
    have fin : ∀ (listed : Array Bool) (ρ : Rho) (a : Act) (w : World), ρ0.le ρ → Inv E ops N ρ W w a fr1 st1 done1 forced al1 listed → Region.ready .any ops listed = [] → ExR N ρ0 E.ro W ex fr' st' .normal a w := by
      intro listed ρ a w h0 hI hr
      have hall := none_ready hk hI.size hr
      split at h
      · cases h
        refine ⟨ρ, h0, hI.mr.weaken fun id hid => .inl hid, ⟨hI.fx.size, fun t _ => hI.fx.get t fun ⟨j, o, h1, h2, h3⟩ => ?_, hI.fx.glob, hI.fx.ds⟩, trivial⟩
        have := hall j (Array.getElem?_eq_some_iff.1 h1).1
        rw [h2.2] at this; cases this
      · rename_i i o hn
        obtain ⟨p, rfl, h1, _, h3⟩ := nextLoud_some hn
        rw [Nat.zero_add] at h3
        have hp : ops[p]? = some o := by simpa using h1
        have := hI.sub p (hall p (Array.getElem?_eq_some_iff.1 hp).1)
        rw [h3] at this; cases this
    -- in the order of the world
    induction fuel generalizing listed ρ a w with
    | zero =>
      have hall : Region.ready .any ops listed = [] := by
        cases hr : Region.ready .any ops listed with
        | nil => rfl
        | cons j _ =>
          have hj : j ∈ Region.ready .any ops listed := by rw [hr]; exact List.mem_cons_self
          have h1 := (mem_ready.1 hj).1
          have h2 := lt_of_getD h1
          have h3 := cnt_zero (l := listed.toList) (i := j) (b := listed[j]) (by omega) (by simp [h2])
          rw [Array.getD_eq_getD_getElem?] at h1
          simp [h2, h3] at h1
      exact ⟨hall, fin listed ρ a w h0 hI hall⟩
    | succ fuel ih =>
      refine ⟨fun hall => fin listed ρ a w h0 hI hall, fun i hi => ?_⟩
      obtain ⟨hiun, o, ho, _⟩ := mem_ready.1 hi
      have hlt := lt_of_getD hiun
      have hL := getD_false_true hiun
      have hcnt : cnt (listed.setIfInBounds i true).toList ≤ fuel := by
        have h1 : listed.toList[i]? = some false := by
          rw [Array.getD_eq_getD_getElem?] at hiun
          simp only [hlt, Array.getElem?_eq_getElem, Option.getD_some] at hiun
          simp [hlt, hiun]
        have := cnt_set listed.toList i h1
        rw [Array.toList_setIfInBounds]
        omega
      cases hd : bit done1 i with
      | true =>
        have hq := hI.quiet i o ho ⟨hd, hL⟩
        have hf : bit forced i = false := by
          cases hf : bit forced i with
          | false => rfl
          | true => rw [hI.forced i hf] at hL; cases hL
        exact pend_step hI hA ho hi hd ((hchk' i o ho hq).1 hd hf) fun ρ' a' w' hle hI' => ih _ ρ' a' w' hcnt (Rho.le_trans h0 hle) (hg.mono hle) hI'
      | false =>
        have hq : quietOp E.P o.op = false := by
          cases hq : quietOp E.P o.op with
          | false => rfl
          | true =>
            obtain ⟨m, hm, hin⟩ := (hchk' i o ho hq).2 hd
            have := inside_of (a := m) (b := done1) fun j hj => hI.sub j (hI.deps (hk.dep i m hm j hj) (ready_edges hi))
            rw [hin] at this; cases this
        split at h
        · rename_i hn
          have := nextLoud_none hn i o (by simpa using ho) hq
          rw [Nat.zero_add, hd] at this; cases this
        · rename_i i' o' hn
          obtain ⟨p, hp0, hp1, hp2, hp3⟩ := nextLoud_some hn
          rw [Nat.zero_add] at hp0
          subst hp0
          have hp : ops[i']? = some o' := by simpa using hp1
          split at h
          case h_2 => cases h
          rename_i m hm hoth
          have hii : i = i' := by
            by_cases hne : i = i'
            · exact hne
            · exfalso
              obtain ⟨m', h1, h2⟩ := othersAfter_spec hoth i o (by simpa using ho) hq (by rw [Nat.zero_add]; exact hd) (by rw [Nat.zero_add]; exact hne)
              rw [Nat.zero_add] at h1
              have := hI.sub i' (hI.deps (hk.dep i m' h1 i' h2) (ready_edges hi))
              rw [hp3] at this; cases this
          subst hii
          rw [ho] at hp; cases hp
          have hlooks := hI.looks hA ho hi
          unfold wpOp
          rw [ho]
          simp only
          split at h
          · cases h
          · rename_i hgd
            have hw := guardA_run hI.fx (fun j want p d h1 h2 h3 => hlooks d (looks_guard h1 h2 h3)) hgd
            rw [if_neg (by rw [hw]; exact Bool.false_ne_true)]
            obtain ⟨fr2, hput, h⟩ := Rs.bind_ok h
            exact ihn _ _ _ _ _ h fuel _ ρ _ w hcnt h0 hg (hI.ran hk ho hi hd hm (Rho.le_refl _) hI.mr hput undef_tup)
          · rename_i hgd
            have hw := guardA_run hI.fx (fun j want p d h1 h2 h3 => hlooks d (looks_guard h1 h2 h3)) hgd
            rw [if_pos hw]
            left
            have hX : ∀ t, Operand.tmp t ∈ o.op.operands → ¬ XP ops done1 listed t := fun t ht => hlooks t (looks_op ht)
            split at h
            · cases h
            all_goals rename_i hs
            · rw [← stepA_loud hq] at hs
              refine step_wp hcall hI.mr hI.fx hX hg hs (fun v st2 e ρ' q w' h1 h2 h3 => ?_) (fun _ e => by cases e) (fun _ e => by cases e) (fun _ _ e => by cases e) (fun _ e => by cases e)
              cases e
              obtain ⟨fr2, hput, h⟩ := Rs.bind_ok h
              exact ihn _ _ _ _ _ h fuel _ ρ' _ w' hcnt (Rho.le_trans h0 h1) (hg.mono h1) (hI.ran hk ho hi hd hm h1 h2 hput h3)
            · rw [← stepA_loud hq] at hs
              refine step_wp hcall hI.mr hI.fx hX hg hs (fun v st1 e => by cases e) (fun st1 e w' h1 => ?_) (fun _ e => by cases e) (fun _ _ e => by cases e) (fun _ e => by cases e)
              cases e
              obtain ⟨fr2, hput, h⟩ := Rs.bind_ok h
              exact ihn _ _ _ _ _ h fuel _ ρ _ w' hcnt h0 hg (hI.ran hk ho hi hd hm (Rho.le_refl _) h1 hput undef_tup)
            · rw [← stepA_loud hq] at hs
              refine step_wp hcall hI.mr hI.fx hX hg hs (fun v st1 e => by cases e) (fun _ e => by cases e) (fun _ e => by cases e) (fun f args e => ?_) (fun _ e => by cases e)
              cases e
              split at h
              · cases h
              · rename_i v st2 hc
                refine ⟨_, _, hc, fun ρ' w' h1 h2 => ⟨fun v' q e hv => ?_, fun ch chain e => by cases e⟩⟩
                cases e
                obtain ⟨fr2, hput, h⟩ := Rs.bind_ok h
                exact ihn _ _ _ _ _ h fuel _ ρ' _ w' hcnt (Rho.le_trans h0 h1) (hg.mono h1) (hI.ran hk ho hi hd hm h1 h2 hput hv)
              · rename_i ch st2 hc
                refine ⟨_, _, hc, fun ρ' w' h1 h2 => ⟨(fun v' q e hv => by cases e), fun ch chain e hch => ?_⟩⟩
                cases e
                cases h
                exact hI.panicked h0 h1 h2 hch
            · rw [← stepA_loud hq] at hs
              refine step_wp hcall hI.mr hI.fx hX hg hs (fun v st1 e => by cases e) (fun _ e => by cases e) (fun _ e => by cases e) (fun f args e => by cases e) (fun v e q hv => ?_)
              cases e
              cases h
              exact hI.panicked h0 (Rho.le_refl _) hI.mr (.cons _ _ _ _ _ hv .nil)
            · cases h
theorem draw_sound (E : Env) (hmix : E.P.follows .mixedOrders = true) : SDraw E := by
  intro call hcall id ops fr st ex fr' st' h N ρ W w a hM hf hg
  unfold evDraw at h
  obtain ⟨ms, hms, h⟩ := Rs.bind_ok h
  split at h
  case h_2 => cases h
  rename_i hap
  have hk : MK ops ms := masksOf_spec (l := ops.toList) (pre := []) rfl (fun i o hi => absurd hi (Nat.not_lt_zero _)) (fun i x hx => by cases hx) (fun i x hx => by cases hx) hms
  have hA := AP.of hk hap
  have hpend : ∀ {listed j}, ¬ Pend 0 listed j := fun ⟨h1, _⟩ => by rw [bit_zero] at h1; cases h1
  have hlist : ∀ j, (Array.replicate ops.size false).getD j false = false := by
    intro j
    rw [Array.getD_eq_getD_getElem?, Array.getElem?_replicate]
    split <;> rfl
  refine wp_region_any hmix ?_
  refine drawA_run hcall hk hA _ fr st 0 0 [] h ops.size _ ρ a _ ?_ (Rho.le_refl _) hg ?_
  · rw [Array.toList_replicate]
    exact Nat.le_trans (List.length_filter_le _ _) (by simp)
  · refine ⟨by simp, fun j hj => ?_, fun j o ho hp => (hpend hp).elim, fun i o e ho hi => ?_, fun j hj => ?_, (fun i id hi => by cases hi), fun i id hp => (hpend hp).elim, fun i j id hp => (hpend hp).elim, fun j o d ho hb => ?_, ?_, ?_⟩
    · rw [hlist] at hj; cases hj
    · rw [hlist] at hi; cases hi
    · rw [bit_zero] at hj; cases hj
    · rw [bit_zero] at hb; cases hb
    · refine (hM.drawn _).weaken fun id hid => ?_
      rcases hid with hid | ⟨j, h1, _⟩
      · exact hid
      · exact (hpend h1).elim
    · exact ⟨hf.size, fun t _ => hf.get t (fun x => x), hf.glob, hf.ds⟩
end
end Go.Proofs.YteegpmimbbgdlaaGreatDoor.Ab
