/- Regions whose order is open: what holds between. -/
import Derived.Test.YteegpmimbbgdlaaGreatDoorDraw2
set_option linter.unusedVariables false
set_option linter.unusedSimpArgs false
set_option linter.unnecessarySimpa false
namespace Go.Proofs.YteegpmimbbgdlaaGreatDoor.Ab
open Go Go.RowKit

def Pend (done : Nat) (listed : Array Bool) (j : Nat) : Prop := bit done j = true ∧ listed.getD j false = false
def NP (N : Nat → Prop) (al : List (Nat × Nat)) (done : Nat) (listed : Array Bool) (id : Nat) : Prop := N id ∨ ∃ j, Pend done listed j ∧ find2 al j = some id
def XP (ops : Array Oper) (done : Nat) (listed : Array Bool) (t : Nat) : Prop := ∃ j o, ops[j]? = some o ∧ Pend done listed j ∧ o.dst = some t
theorem MR.weaken {N N' : Nat → Prop} {ρ : Rho} {ro : Nat} {st : St} {W w : World} (h : MR N ρ ro st W w) (hn : ∀ id, N' id → N id) : MR N' ρ ro st W w :=
  ⟨h.below, fun id hi => h.no id (hn id hi), h.old, h.own, h.lt, h.next, h.ron, h.nx, h.obs, h.inj, h.cls, h.fx⟩
theorem MR.strengthen {N N' : Nat → Prop} {ρ : Rho} {ro : Nat} {st : St} {W w : World} (h : MR N ρ ro st W w) (hn : ∀ id, N' id → N id ∨ (ρ id = none ∧ id < st.next)) : MR N' ρ ro st W w :=
  ⟨h.below, fun id hi => (hn id hi).elim (h.no id) (fun x => x), h.old, h.own, h.lt, h.next, h.ron, h.nx, h.obs, h.inj, h.cls, h.fx⟩
theorem FX.aput {X X' : Nat → Prop} {ρ : Rho} {fr fr' : Fr} {a : Act} (h : FX X ρ fr a) {d : Option Tmp} {v : AV} (hp : fr.put d v = .ok fr') (h1 : ∀ t, X t → X' t) (h2 : ∀ t, d = some t → X' t) : FX X' ρ fr' a := by
  cases d with
  | none => cases hp; exact ⟨h.size, fun t ht => h.get t (fun hx => ht (h1 t hx)), h.glob, h.ds⟩
  | some d =>
    simp only [Fr.put] at hp
    split at hp
    · cases hp
      refine ⟨h.size, fun t ht => ?_, h.glob, h.ds⟩
      have hne : t ≠ d := fun e => ht (e ▸ h2 d rfl)
      have hg := h.get t (fun hx => ht (h1 t hx))
      simp only [Fr.get] at hg ⊢
      split
      · rename_i u hu
        rcases PT.get_set hu with ⟨e, _⟩ | ⟨_, hu'⟩
        · exact absurd e hne
        · rw [hu'] at hg; exact hg
      · exact .top _
    · cases hp
theorem FX.rput {X X' : Nat → Prop} {ρ : Rho} {fr : Fr} {a : Act} (h : FX X ρ fr a) {d : Option Tmp} {q : Value} (h1 : ∀ t, X t → X' t ∨ d = some t) (h2 : ∀ t, d = some t → t < fr.n ∧ VR ρ (fr.get (.tmp t)) q) : FX X' ρ fr (a.put d q) := by
  cases d with
  | none => exact ⟨h.size, fun t ht => h.get t (fun hx => (h1 t hx).elim ht (fun e => by cases e)), h.glob, h.ds⟩
  | some d =>
    obtain ⟨hlt, hv⟩ := h2 d rfl
    refine ⟨by simpa [Act.put] using h.size, fun t ht => ?_, h.glob, h.ds⟩
    simp only [Act.put]
    by_cases hne : d = t
    · subst hne
      have : d < a.tmps.size := by rw [h.size]; exact hlt
      simpa [Array.getD_eq_getD_getElem?, Array.getElem?_setIfInBounds, this] using hv
    · rw [Array.getD_eq_getD_getElem?, Array.getElem?_setIfInBounds_ne hne, ← Array.getD_eq_getD_getElem?]
      exact h.get t (fun hx => (h1 t hx).elim ht (fun e => hne (by cases e; rfl)))
structure Inv (E : Env) (ops : Array Oper) (N : Nat → Prop) (ρ : Rho) (W w : World) (a : Act) (fr : Fr) (st : St) (done forced : Nat) (al : List (Nat × Nat)) (listed : Array Bool) : Prop where
  size : listed.size = ops.size
  sub : ∀ j, listed.getD j false = true → bit done j = true
  quiet : ∀ (j : Nat) (o : Oper), ops[j]? = some o → Pend done listed j → quietOp E.P o.op = true
  closed : ∀ (i : Nat) (o : Oper) (e : Edge), ops[i]? = some o → listed.getD i false = true → e ∈ o.after.toList → Region.binds .any e = true → listed.getD e.on false = true
  forced : ∀ j, bit forced j = true → listed.getD j false = true
  ald : ∀ i id, find2 al i = some id → bit done i = true
  alro : ∀ i id, Pend done listed i → find2 al i = some id → E.ro ≤ id ∧ ¬ N id
  alinj : ∀ i j id, Pend done listed i → Pend done listed j → find2 al i = some id → find2 al j = some id → i = j
  rng : ∀ (j : Nat) (o : Oper) d, ops[j]? = some o → bit done j = true → o.dst = some d → d < fr.n
  mr : MR (NP N al done listed) ρ E.ro st W w
  fx : FX (XP ops done listed) ρ fr a
section
variable {E : Env} {N : Nat → Prop} {ρ : Rho} {st : St} {W w : World} {ops : Array Oper} {fr : Fr} {a : Act} {done forced : Nat} {al : List (Nat × Nat)} {listed : Array Bool}
theorem put_lt {fr fr' : Fr} {d : Option Tmp} {x : AV} (hp : fr.put d x = .ok fr') : ∀ t, d = some t → t < fr.n := by
  intro t ht
  subst ht
  simp only [Fr.put] at hp
  split at hp
  · rename_i h; exact blt_true h
  · cases hp
theorem pend_or {i j : Nat} (h : Pend (Nat.lor done (Nat.pow 2 i)) listed j) : Pend done listed j ∨ j = i := by
  obtain ⟨h1, h2⟩ := h
  rw [bit_lor, bit_pow] at h1
  simp only [Bool.or_eq_true, decide_eq_true_eq] at h1
  rcases h1 with h1 | h1
  · exact .inl ⟨h1, h2⟩
  · exact .inr h1.symm
theorem pend_lor {i j : Nat} (h : Pend done listed j) : Pend (Nat.lor done (Nat.pow 2 i)) listed j := ⟨by rw [bit_lor, h.1]; rfl, h.2⟩
theorem bit_or {i j : Nat} (h : bit (Nat.lor done (Nat.pow 2 i)) j = true) : bit done j = true ∨ j = i := by
  rw [bit_lor, bit_pow] at h
  simp only [Bool.or_eq_true, decide_eq_true_eq] at h
  exact h.imp id Eq.symm
/-- One that is quiet is reckoned: nothing happens in the world. -/
theorem Inv.settle (h : Inv E ops N ρ W w a fr st done forced al listed) {i : Nat} {o : Oper} (ho : ops[i]? = some o) (hq : quietOp E.P o.op = true) (hd : bit done i = false) {v : AV} {fr' : Fr} (hp : fr.put o.dst v = .ok fr') :
    Inv E ops N ρ W w a fr' st (Nat.lor done (Nat.pow 2 i)) forced al listed := by
  have hl : listed.getD i false = false := by
    cases hl : listed.getD i false with
    | false => rfl
    | true => rw [h.sub i hl] at hd; cases hd
  have hpi : Pend (Nat.lor done (Nat.pow 2 i)) listed i := ⟨by rw [bit_lor, bit_pow]; simp, hl⟩
  have hn := (Fr.put_n hp).1
  refine ⟨h.size, fun j hj => by rw [bit_lor, h.sub j hj]; rfl, fun j o' ho' hpd => ?_, h.closed, h.forced, fun j id hj => by rw [bit_lor, h.ald j id hj]; rfl, fun j id hpd hj => ?_, fun j k id hj hk h1 h2 => ?_, fun j o' d ho' hb hdst => ?_, ?_, ?_⟩
  · rcases pend_or hpd with h1 | rfl
    · exact h.quiet j o' ho' h1
    · rw [ho] at ho'; cases ho'; exact hq
  · rcases pend_or hpd with h1 | rfl
    · exact h.alro j id h1 hj
    · rw [h.ald j id hj] at hd; cases hd
  · rcases pend_or hj with h3 | rfl
    · rcases pend_or hk with h4 | rfl
      · exact h.alinj j k id h3 h4 h1 h2
      · rw [h.ald k id h2] at hd; cases hd
    · rw [h.ald j id h1] at hd; cases hd
  · rw [hn]
    rcases bit_or hb with h1 | rfl
    · exact h.rng j o' d ho' h1 hdst
    · rw [ho] at ho'; cases ho'; exact put_lt hp d hdst
  · refine h.mr.weaken fun id hid => ?_
    rcases hid with hid | ⟨j, h1, h2⟩
    · exact .inl hid
    · rcases pend_or h1 with h1 | rfl
      · exact .inr ⟨j, h1, h2⟩
      · rw [h.ald j id h2] at hd; cases hd
  · refine h.fx.aput hp (fun t ⟨j, o', h1, h2, h3⟩ => ⟨j, o', h1, pend_lor h2, h3⟩) (fun t ht => ⟨i, o, ho, hpi, ht⟩)
/-- The same, where a block is made. -/
theorem Inv.settleNew (h : Inv E ops N ρ W w a fr st done forced al listed) {i : Nat} {o : Oper} (ho : ops[i]? = some o) (hq : quietOp E.P o.op = true) (hd : bit done i = false) {v : AV} {fr' : Fr} (hp : fr.put o.dst v = .ok fr') {ob : Ob} (h0 : ob.cl0) :
    Inv E ops N ρ W w a fr' (st.new ob) (Nat.lor done (Nat.pow 2 i)) forced ((i, st.next) :: al) listed := by
  have hs := h.settle ho hq hd hp
  have hfind : ∀ j id, find2 ((i, st.next) :: al) j = some id → (j = i ∧ id = st.next) ∨ (j ≠ i ∧ find2 al j = some id) := by
    intro j id hj
    simp only [find2] at hj
    split at hj
    · rename_i e; cases hj; exact .inl ⟨(beq_true e).symm, rfl⟩
    · rename_i e; exact .inr ⟨fun e' => beq_false e e'.symm, hj⟩
  have hlt : ∀ j id, Pend done listed j → find2 al j = some id → id < st.next := fun j id hj hf => (h.mr.no id (.inr ⟨j, hj, hf⟩)).2
  refine ⟨hs.size, hs.sub, hs.quiet, hs.closed, hs.forced, fun j id hj => ?_, fun j id hpd hj => ?_, fun j k id hj hk h1 h2 => ?_, hs.rng, ?_, hs.fx⟩
  · rcases hfind j id hj with ⟨rfl, _⟩ | ⟨_, hj⟩
    · rw [bit_lor, bit_pow]; simp
    · exact hs.ald j id hj
  · rcases hfind j id hj with ⟨rfl, rfl⟩ | ⟨hne, hj⟩
    · exact ⟨h.mr.ron, fun hn => h.mr.freshN (.inl hn)⟩
    · exact h.alro j id ((pend_or hpd).resolve_right hne) hj
  · rcases hfind j id h1 with ⟨rfl, rfl⟩ | ⟨hne, h3⟩
    · rcases hfind k _ h2 with ⟨rfl, _⟩ | ⟨hne', h4⟩
      · rfl
      · exact absurd (hlt k _ ((pend_or hk).resolve_right hne') h4) (Nat.lt_irrefl _)
    · rcases hfind k _ h2 with ⟨rfl, rfl⟩ | ⟨hne', h4⟩
      · exact absurd (hlt j _ ((pend_or hj).resolve_right hne) h3) (Nat.lt_irrefl _)
      · exact h.alinj j k id ((pend_or hj).resolve_right hne) ((pend_or hk).resolve_right hne') h3 h4
  · refine ((h.mr.pend h0).strengthen fun id hid => ?_)
    rcases hid with hid | ⟨j, h1, h2⟩
    · exact .inl (.inl hid)
    · rcases hfind j id h2 with ⟨rfl, rfl⟩ | ⟨hne, h2⟩
      · exact .inr ⟨h.mr.fresh, Nat.lt_succ_self _⟩
      · exact .inl (.inr ⟨j, (pend_or h1).resolve_right hne, h2⟩)
theorem allocA_cl0 {P : Program} {o : Op} {p : Ob × (Nat → AV)} (h : allocA P fr o = .ok p) : p.1.cl0 := by
  unfold allocA at h
  split at h
  · split at h
    · split at h
      · cases h; exact mkRow_cl0 _ _
      · cases h
    · cases h
  · split at h
    · split at h
      · cases h; exact mkRow_cl0 _ _
      · cases h
    · cases h
  · split at h
    · split at h
      · split at h
        · split at h
          · obtain ⟨l, _, h⟩ := Rs.bind_ok h
            split at h
            · cases h; exact mkRow_cl0 _ _
            · cases h
          · cases h
        · cases h
      · cases h
    · cases h
  · split at h
    · split at h
      · split at h
        · split at h
          · cases h; exact mkRow_cl0 _ _
          · cases h
        · cases h
      · cases h
    · cases h
  · cases h
theorem settleA_run {ms : PT Nat} : ∀ {l pre : List Oper} {fr fr' : Fr} {st st' : St} {done done' : Nat} {al al' : List (Nat × Nat)}, ops.toList = pre ++ l → settleA E.P ms ops.toList l pre.length fr st done al = .ok (fr', st', done', al') →
    Inv E ops N ρ W w a fr st done forced al listed → Inv E ops N ρ W w a fr' st' done' forced al' listed
  | [], pre, fr, fr', st, st', done, done', al, al', heq, h, hI => by
    cases h; exact hI
  | o :: r, pre, fr, fr', st, st', done, done', al, al', heq, h, hI => by
    have ho : ops[pre.length]? = some o := by
      rw [← Array.getElem?_toList, heq]
      simp
    have next : ∀ {fr1 : Fr} {st1 : St} {done1 : Nat} {al1 : List (Nat × Nat)}, settleA E.P ms ops.toList r (Nat.succ pre.length) fr1 st1 done1 al1 = .ok (fr', st', done', al') → Inv E ops N ρ W w a fr1 st1 done1 forced al1 listed → Inv E ops N ρ W w a fr' st' done' forced al' listed :=
      fun h1 h2 => settleA_run (l := r) (pre := pre ++ [o]) (by simp [heq]) (by rw [List.length_append, List.length_singleton]; exact h1) h2
    simp only [settleA] at h
    split at h
    · exact next h hI
    · cases h
    · rename_i hd hm
      split at h
      · exact next h hI
      · exact next h hI
      · rename_i hk
        have hq : quietOp E.P o.op = true := by unfold quietOp; rw [hk]
        split at h
        · cases h
        · obtain ⟨fr1, hp, h⟩ := Rs.bind_ok h
          exact next h (hI.settle ho hq hd hp)
        · obtain ⟨v, hv, h⟩ := Rs.bind_ok h
          obtain ⟨fr1, hp, h⟩ := Rs.bind_ok h
          exact next h (hI.settle ho hq hd hp)
      · rename_i hk
        have hq : quietOp E.P o.op = true := by unfold quietOp; rw [hk]
        split at h
        · cases h
        · obtain ⟨fr1, hp, h⟩ := Rs.bind_ok h
          exact next h (hI.settle ho hq hd hp)
        · obtain ⟨p, hv, h⟩ := Rs.bind_ok h
          obtain ⟨fr1, hp, h⟩ := Rs.bind_ok h
          exact next h (hI.settleNew ho hq hd hp (allocA_cl0 hv))
end
end Go.Proofs.YteegpmimbbgdlaaGreatDoor.Ab
