/- Frames; '=='. -/
import Derived.Test.YtjifnmilimdfdaaGreatDoorSym
import Derived.Laws.StructEq
set_option linter.unusedVariables false
set_option linter.unusedSimpArgs false
set_option linter.unnecessarySimpa false
namespace Go.Proofs.YtjifnmilimdfdaaGreatDoor.Ab
open Go Go.RowKit

def DR (ρ : Rho) (d : FuncId × List AV) (x : Deferred) : Prop := ∃ cap, x.target = .fn (.func d.1) cap ∧ VRs ρ d.2 (x.args.toList ++ cap.toList)
inductive DRs (ρ : Rho) : List (FuncId × List AV) → List Deferred → Prop where
  | nil : DRs ρ [] []
  | cons (d : FuncId × List AV) (x : Deferred) (l : List (FuncId × List AV)) (m : List Deferred) (h : DR ρ d x) (r : DRs ρ l m) : DRs ρ (d :: l) (x :: m)
theorem DR.mono {ρ ρ' : Rho} (hle : ρ.le ρ') {d : FuncId × List AV} {x : Deferred} (h : DR ρ d x) : DR ρ' d x := let ⟨c, a, b⟩ := h; ⟨c, a, b.mono hle⟩
theorem DRs.mono {ρ ρ' : Rho} (hle : ρ.le ρ') {l : List (FuncId × List AV)} {m : List Deferred} (h : DRs ρ l m) : DRs ρ' l m := by
  induction h with
  | nil => exact .nil
  | cons d x l m h _ ih => exact .cons _ _ _ _ (h.mono hle) ih
/-- 'X': temporaries of which nothing is said. -/
structure FX (X : Nat → Prop) (ρ : Rho) (fr : Fr) (a : Act) : Prop where
  size : a.tmps.size = fr.n
  get : ∀ t, ¬ X t → VR ρ (fr.get (.tmp t)) (a.tmps.getD t undef)
  glob : ∀ g, g < fr.g → ∃ n, ρ g = some ⟨g, n, 0⟩
  ds : DRs ρ fr.ds a.defers
abbrev FR := FX (fun _ => False)
theorem FX.mono {X : Nat → Prop} {ρ ρ' : Rho} (hle : ρ.le ρ') {fr : Fr} {a : Act} (h : FX X ρ fr a) : FX X ρ' fr a :=
  ⟨h.size, fun t ht => (h.get t ht).mono hle, fun g hg => let ⟨n, hn⟩ := h.glob g hg; ⟨n, hle.1 _ _ hn⟩, h.ds.mono hle⟩
theorem FX.eval {X : Nat → Prop} {ρ : Rho} {fr : Fr} {a : Act} (h : FX X ρ fr a) (x : Operand) (hx : ∀ t, x = .tmp t → ¬ X t) : VR ρ (fr.get x) (a.eval x) := by
  cases x with
  | tmp t => exact h.get t (hx t rfl)
  | const v => exact ofV_spec v
  | global g =>
    simp only [Fr.get]
    split
    · rename_i hg
      obtain ⟨n, hn⟩ := h.glob g (blt_true hg)
      have := VR.ptr (ρ := ρ) g 0 _ hn
      exact this
    · exact .top _
  | func f => exact .fn f [] [] #[] #[] .nil .nil
theorem FX.put {X : Nat → Prop} {ρ : Rho} {fr fr' : Fr} {a : Act} (h : FX X ρ fr a) {d : Option Tmp} {x : AV} {v : Value} (hp : fr.put d x = .ok fr') (hv : VR ρ x v) : FX X ρ fr' (a.put d v) := by
  cases d with
  | none => cases hp; exact h
  | some d =>
    simp only [Fr.put] at hp
    split at hp
    · rename_i hd
      cases hp
      have hlt := blt_true hd
      refine ⟨by simpa [Act.put] using h.size, fun t ht => ?_, h.glob, h.ds⟩
      simp only [Fr.get, Act.put]
      split
      · rename_i u hu
        rcases PT.get_set hu with ⟨rfl, rfl⟩ | ⟨hne, hu'⟩
        · have : t < a.tmps.size := by rw [h.size]; exact hlt
          simpa [Array.getD_eq_getD_getElem?, Array.getElem?_setIfInBounds, this] using hv
        · have hg := h.get t ht
          simp only [Fr.get, hu'] at hg
          rw [Array.getD_eq_getD_getElem?, Array.getElem?_setIfInBounds_ne (by omega), ← Array.getD_eq_getD_getElem?]
          exact hg
      · exact .top _
    · cases hp
theorem Fr.put_n {fr fr' : Fr} {d : Option Tmp} {x : AV} (hp : fr.put d x = .ok fr') : fr'.n = fr.n ∧ fr'.g = fr.g ∧ fr'.ds = fr.ds := by
  cases d with
  | none => cases hp; exact ⟨rfl, rfl, rfl⟩
  | some d =>
    simp only [Fr.put] at hp
    split at hp
    · cases hp; exact ⟨rfl, rfl, rfl⟩
    · cases hp
theorem all_eval {ρ : Rho} {fr : Fr} {ev : Operand → Value} : ∀ {l : List Operand}, (∀ x ∈ l, VR ρ (fr.get x) (ev x)) → VRs ρ (fr.all l) (l.map ev)
  | [], _ => .nil
  | x :: r, h => .cons _ _ _ _ (h x (by simp)) (all_eval fun y hy => h y (by simp [hy]))

section
variable {P : Program} {N : Nat → Prop} {ρ : Rho} {ro : Nat} {st : St} {W w : World}
theorem seval_run {α : Type} {s : Sem α} {a : α} (h : seval P s = some a) (w : World) : s.run P w = .ok a w := by
  induction s with
  | pure b => cases h; rfl
  | program k ih => exact ih P h
  | _ => cases h
theorem scal_run {s : Sem Value} {a : AV} (h : scal P s = .ok a) (w : World) : ∃ v, s.run P w = .ok v w ∧ VR ρ a v := by
  unfold scal at h
  split at h
  · rename_i v hv
    exact ⟨v, seval_run hv w, (of0_spec (Rs.of_ok h)).1⟩
  · cases h
theorem eqBytes_iff : ∀ (a b : List UInt8), eqBytes a b = (a == b)
  | [], [] => rfl
  | [], _ :: _ => rfl
  | _ :: _, [] => rfl
  | x :: r, y :: s => by
    simp only [eqBytes]
    split
    · rename_i h
      have hxy : x = y := UInt8.toNat.inj (beq_true h)
      subst hxy
      rw [eqBytes_iff r s]; simp
    · rename_i h
      have hne : x ≠ y := fun e => beq_false h (e ▸ rfl)
      symm
      simp [hne]
theorem ltBytes_iff : ∀ (a b : List UInt8), ltBytes a b = Op.bytesLess a b
  | [], [] => rfl
  | [], _ :: _ => rfl
  | _ :: _, [] => rfl
  | x :: r, y :: s => by
    simp only [ltBytes, Op.bytesLess]
    split
    · rename_i h
      have hxy : x = y := UInt8.toNat.inj (beq_true h)
      subst hxy
      rw [ltBytes_iff r s]; simp
    · rename_i h
      have hne : x ≠ y := fun e => beq_false h (e ▸ rfl)
      have h2 : (x == y) = false := by simp [hne]
      rw [h2]
      simp only [Bool.false_and, Bool.or_false]
      rw [Bool.eq_iff_iff]
      simp only [decide_eq_true_eq, UInt8.lt_iff_toNat_lt]
      constructor
      · exact blt_true
      · intro hlt; exact Nat.ble_eq_true_of_le hlt
theorem part_run {t off : Nat} {l : List AV} {c : Array Value} (hc : VRs ρ l c.toList) {a : AV} (h : Ab.part P t l off = .ok a) (w : World) : ∃ v, (Go.part t c off).run P w = .ok v w ∧ VR ρ a v := by
  unfold Ab.part at h
  split at h
  · rename_i hagg
    split at h
    · rename_i n hn
      cases h
      refine ⟨.agg (c.extract off (off + n)), by simp [Go.part, run_isAgg hagg, run_size hn], .agg _ _ ?_⟩
      have := (hc.drop off).take n
      simpa [Array.toList_extract, List.extract] using this
    · cases h
  · rename_i hagg
    split at h
    · rename_i x hx
      cases h
      obtain ⟨v, hv, hR⟩ := hc.get hx
      refine ⟨v, ?_, hR⟩
      have hv' : c[off]? = some v := by simpa using hv
      simp [Go.part, run_isAgg hagg, hv']
    · cases h
  · cases h
theorem eqFields_eval {xs ys : Array Value} {l m : List AV} (hl : VRs ρ l xs.toList) (hm : VRs ρ m ys.toList) {f : TypeId → AV → AV → Rs Bool} {d : Nat} (w : World)
    (hf : ∀ t a b v u q, VR ρ a v → VR ρ b u → f t a b = .ok q → (Op.equalIn d t v u).run P w = .ok q w) :
    ∀ (fs : List Field) {q : Bool}, eqAll f P l m (eqFields fs) = .ok q → (Op.eqFields d xs ys fs).run P w = .ok q w
  | [], q, h => by cases h; rfl
  | x :: r, q, h => by
    unfold Op.eqFields
    unfold Ab.eqFields at h
    by_cases hn : x.name ≠ "_"
    · rw [if_pos hn] at h
      simp only [eqAll] at h
      obtain ⟨a, ha, h⟩ := Rs.bind_ok h
      obtain ⟨b, hb, h⟩ := Rs.bind_ok h
      obtain ⟨e, he, h⟩ := Rs.bind_ok h
      obtain ⟨v, hv, hR⟩ := part_run hl ha w
      obtain ⟨u, hu, hS⟩ := part_run hm hb w
      have hq := hf _ _ _ _ _ _ hR hS he
      rw [if_pos hn]
      simp only [Sem.run_bind, hv, hu, hq, Result.andThen_ok]
      cases e with
      | true => simpa using eqFields_eval hl hm w hf r h
      | false => cases h; rfl
    · rw [if_neg hn] at h
      rw [if_neg hn]
      exact eqFields_eval hl hm w hf r h
theorem fieldsOf_of {t : TypeId} {fs : Array Field} (h : P.underlying t = some (.struct fs)) : P.fieldsOf t = fs := by simp [Program.fieldsOf, h]
theorem St.free_row {st : St} {id c : Nat} (h : st.free id = some c) : ∃ cs n e rel, st.heap.get id = some (.row cs n e 0 c rel) := by
  unfold St.free at h
  split at h
  · rename_i hr; cases h; exact ⟨_, _, _, _, hr⟩
  · cases h
theorem MR.apart (h : MR N ρ ro st W w) {i j c c' : Nat} {L M : Loc} (hi : ρ i = some L) (hj : ρ j = some M) (hne : i ≠ j) (hc : st.free i = some c) (hc' : st.free j = some c') (h0 : c = 0 ∨ c ≠ c') :
    L.b ≠ M.b := by
  intro e
  obtain ⟨cs, n, el, rel, h1⟩ := St.free_row hc
  obtain ⟨cs', n', el', rel', h2⟩ := St.free_row hc'
  rcases h.inj i j L M _ _ hi hj h1 h2 e with h' | ⟨_, _, _, _, _, _, _, _, _, _, _, h3, h4, _, _⟩
  · exact hne h'
  · cases h3; cases h4
    rcases h0 with h0 | h0
    · cases h0
    · exact h0 rfl
theorem MR.plain (h : MR N ρ ro st W w) {i c : Nat} {L : Loc} (hi : ρ i = some L) (hc : st.free i = some c) : ∃ cs e, w.heap[L.b]? = some (.cells cs e (0, 0)) ∧ cs.size = L.n := by
  obtain ⟨cs, n, el, rel, h1⟩ := St.free_row hc
  obtain ⟨c, lo, hi', hb, h2, _, _, h5, _⟩ := h.row hi h1
  obtain ⟨rfl, rfl⟩ := h5 rfl
  exact ⟨c, el, hb, h2⟩
theorem run_sameAddr_apart {a b : Nat} {o o' : Nat} {ca cb : Array Value} {ea eb : TypeId} (ha : w.heap[a]? = some (.cells ca ea (0, 0))) (hb : w.heap[b]? = some (.cells cb eb (0, 0))) (hne : a ≠ b) :
    (sameAddr ⟨a, o, none⟩ ⟨b, o', none⟩).run P w = .ok false w := by
  have h1 : ∀ o, w.frozen? ⟨a, o, none⟩ = false := fun o => by simp [World.frozen?, ha]
  have h2 : ∀ o, w.frozen? ⟨b, o, none⟩ = false := fun o => by simp [World.frozen?, hb]
  have h3 : w.shape? a = some (ea, ca.size) := by simp [World.shape?, ha]
  have h4 : w.shape? b = some (eb, cb.size) := by simp [World.shape?, hb]
  have e : (a == b) = false := by simp [hne]
  simp [sameAddr, e, h1, h2, h3, h4, noView, viewAt, mayBeOne, stringish]
theorem run_sameAddr_same {a o o' : Nat} : (sameAddr ⟨a, o, none⟩ ⟨a, o', none⟩).run P w = .ok (Nat.beq o o') w := by
  have : ((⟨a, o, none⟩ : Addr) == ⟨a, o', none⟩) = Nat.beq o o' := by
    rw [Bool.eq_iff_iff]
    simp only [beq_iff_eq, Addr.mk.injEq, true_and, and_true]
    exact ⟨fun e => by subst e; exact Nat.beq_refl o, beq_true⟩
  simp [sameAddr, this]
theorem eqPtr_run (h : MR N ρ ro st W w) {e i x j y : Nat} {L M : Loc} {q : Bool} (hL : ρ i = some L) (hM : ρ j = some M) (hq : eqPtr P st e i x j y = .ok q) :
    (∃ n, tySize P e = some (n + 1)) ∧ (sameAddr ⟨L.b, L.base + x, none⟩ ⟨M.b, M.base + y, none⟩).run P w = .ok q w := by
  unfold eqPtr at hq
  split at hq
  · rename_i n hn
    refine ⟨⟨n, hn⟩, ?_⟩
    split at hq
    · rename_i hij
      cases hq
      have := beq_true hij
      subst this
      rw [hL] at hM; cases hM
      rw [run_sameAddr_same]
      congr 1
      rw [Bool.eq_iff_iff]
      constructor
      · intro e; have := beq_true e; have h2 : x = y := by omega
        subst h2; exact Nat.beq_refl x
      · intro e; have := beq_true e; subst this; exact Nat.beq_refl _
    · rename_i hij
      split at hq
      · rename_i c c' hc hc'
        split at hq
        · rename_i e0
          cases hq
          have h0 : c = 0 ∨ c ≠ c' := by
            rcases Bool.or_eq_true_iff.1 e0 with e0 | e0
            · exact .inl (beq_true e0)
            · exact .inr (beq_false (by simpa using e0))
          have hne := h.apart hL hM (beq_false hij) hc hc' h0
          obtain ⟨ca, ea, h1, _⟩ := h.plain hL hc
          obtain ⟨cb, eb, h2, _⟩ := h.plain hM hc'
          exact run_sameAddr_apart h1 h2 hne
        · cases hq
      · cases hq
  · cases hq
set_option maxHeartbeats 2000000 in
theorem eqA_run (h : MR N ρ ro st W w) : ∀ (n d : Nat), n ≤ d → ∀ {t : TypeId} {a b : AV} {v u : Value} {q : Bool}, VR ρ a v → VR ρ b u → eqA P st n t a b = .ok q → (Op.equalIn d t v u).run P w = .ok q w := by
  intro n
  induction n with
  | zero => intro d hd t a b v u q hv hu hq; cases hq
  | succ n ih =>
    intro d hd t a b v u q hv hu hq
    obtain ⟨d, rfl⟩ : ∃ k, d = k + 1 := ⟨d - 1, by omega⟩
    have hnd : n ≤ d := by omega
    simp only [eqA] at hq
    split at hq
    · cases hq
    rename_i ty hty
    split at hq
    · unfold eqSym at hq
      split at hq
      · split at hq
        · rename_i x y hx hy
          obtain ⟨r, h1, h2⟩ := Rs.bind_ok hq
          obtain ⟨q', h3, h4⟩ := symBin_val (P := P) (t := t) h hv hu h1
          rw [symI_spec (k := x.1) (x := x.2) hx hv, symI_spec (k := y.1) (x := y.2) hy hu] at h3 ⊢
          unfold decided at h2
          split at h2 <;> cases h2
          cases h4
          by_cases hk : x.1 = y.1
          · simp [Go.binOp, Op.intCmp, hk] at h3
            simp [Op.equalIn, run_underlying hty, h3, hk]
          · simp [Go.binOp, hk] at h3
        · cases hq
      · split at hq
        · rename_i x y hx hy
          obtain ⟨r, h1, h2⟩ := Rs.bind_ok hq
          obtain ⟨q', h3, h4⟩ := symBin_val (P := P) (t := t) h hv hu h1
          rw [symS_spec hx hv, symS_spec hy hu] at h3 ⊢
          unfold decided at h2
          split at h2 <;> cases h2
          cases h4
          simp [Go.binOp, Op.stringOp] at h3
          simp [Op.equalIn, run_underlying hty, h3, beq_toListBytes]
        · cases hq
      · cases hq
    split at hq
    all_goals first
      | (cases hq; done)
      | skip
    · cases hv; cases hu; split at hq <;> cases hq
      simp [Op.equalIn, run_underlying hty]
    · cases hv; cases hu; split at hq
      · split at hq <;> cases hq
        rename_i e; subst e
        simp [Op.equalIn, run_underlying hty]
      · cases hq
    · cases hv; cases hu; split at hq
      · split at hq <;> cases hq
        rename_i e; subst e
        simp [Op.equalIn, run_underlying hty]
      · cases hq
    · cases hv; cases hu; split at hq <;> cases hq
      rw [eqBytes_iff]
      have := run_equalIn_string w d t ⟨⟨‹List UInt8›⟩⟩ ⟨⟨‹List UInt8›⟩⟩ hty
      simp [Op.equalIn, run_underlying hty, beq_toListBytes, ByteArray.toList_eq]
    -- pointers
    · cases hv; cases hu; split at hq <;> cases hq
      simp [Op.equalIn, run_underlying hty]
    · cases hv; cases hu; split at hq <;> cases hq
      simp [Op.equalIn, run_underlying hty]
    · cases hv; cases hu; split at hq <;> cases hq
      simp [Op.equalIn, run_underlying hty]
    · cases hv; cases hu; rename_i L hL M hM
      split at hq
      · have goal := eqPtr_run h hL hM hq
        obtain ⟨hs, goal⟩ := goal
        simp only [Op.equalIn, Sem.run_bind, run_underlying hty, Result.andThen_ok]
        obtain ⟨sz, hs⟩ := hs
        simpa [run_size hs] using goal
      · cases hq
    -- interfaces
    · cases hv; cases hu; split at hq <;> cases hq
      simp [Op.equalIn, run_underlying hty]
    · cases hv; cases hu; split at hq <;> cases hq
      simp [Op.equalIn, run_underlying hty]
    · cases hv; cases hu; split at hq <;> cases hq
      simp [Op.equalIn, run_underlying hty]
    · cases hv; cases hu; rename_i v hx u hy
      split at hq
      · split at hq
        · rename_i e; cases hq
          have := beq_false e
          simp [Op.equalIn, run_underlying hty, this]
        · rename_i e
          have := beq_true e
          subst this
          split at hq
          · rename_i hcmp
            unfold canCompare at hcmp
            split at hcmp
            · rename_i i hi
              simp only [Op.equalIn, Sem.run_bind, run_underlying hty, Result.andThen_ok]
              simp [typeInfo, hi, hcmp, ih d hnd hx hy hq]
            · cases hcmp
          · cases hq
      · cases hq
    -- aggregates
    · cases hv with | agg l c hl => cases hu with | agg m c' hm =>
      split at hq
      · split at hq
        · rename_i fs0 _ l' hl'
          unfold eqFieldsOf at hl'
          rw [hty] at hl'
          simp only at hl'
          split at hl'
          · rename_i hst
            cases hl'
            have hf := fieldsOf_of hty
            rw [run_equalIn_struct w d t c c' (by rw [hf]; exact hty) hst, hf]
            exact eqFields_eval hl hm w (fun t a b v u q ha hb hq => ih d hnd ha hb hq) _ hq
          · cases hl'
        · cases hq
      · cases hq
    all_goals
      cases hv; cases hu; split at hq <;> cases hq
      simp [Op.equalIn, run_underlying hty]
theorem eqGuardIn_nil {t : TypeId} {ms : Array (String × TypeId)} (h : P.underlying t = some (.interface ms)) (d : Nat) (w : World) : (Op.eqGuardIn (d + 1) t .nilIface .nilIface).run P w = .ok (!ms.isEmpty) w := by
  simp [Op.eqGuardIn, run_underlying h]
def guardCore (t : TypeId) (x y : Operand) (a b : Value) : Sem Unit := do
  match a, b with
  | .nilIface, .nilIface =>
    if (x matches .const _) || (y matches .const _) then return
    if ← Op.eqGuardIn Op.maxDepth t a b then unsupported (.noEntry "binop/eql: two nil values of an interface type with methods, neither of them the literal nil")
  | .agg _, .agg _ =>
    if !(← program).eqGuardType (← program).depth t then return
    if ← Op.eqGuardIn Op.maxDepth t a b then unsupported (.noEntry "binop/eql: two nil values of an interface type with methods, in a part of a struct or an array")
  | _, _ => pure ()
theorem guardCore_run {t : TypeId} {x y : Operand} {a b : AV} {v u : Value} (hv : VR ρ a v) (hu : VR ρ b u) (hl : eqLets P t x y a b = true) (w : World) : (guardCore t x y v u).run P w = .ok () w := by
  cases hv <;> cases hu <;> first
    | rfl
    | (exfalso; revert hl; simp only [eqLets]; intro hl; cases hl; done)
    | skip
  · simp only [eqLets] at hl
    cases x <;> cases y <;> simp only [isConst] at hl <;> first
      | rfl
      | (split at hl
         · rename_i ms hms
           have h1 := eqGuardIn_nil hms 9999 w
           have h2 : Op.maxDepth = 9999 + 1 := rfl
           rw [hl] at h1
           unfold guardCore
           rw [h2]
           generalize 9999 + 1 = k at *
           simp [h1]
         · cases hl)
  · simp only [eqLets, Bool.not_eq_true'] at hl
    unfold guardCore
    simp [run_program, hl]
/-- What the model asks ahead of '=='. -/
theorem eqGuard_run {op : BinOp} {t : TypeId} {x y : Operand} {a b : AV} {v u : Value} (hv : VR ρ a v) (hu : VR ρ b u) (hl : eqLets P t x y a b = true) (w : World) : (eqGuard op t x y v u).run P w = .ok () w := by
  cases op <;> first
    | rfl
    | exact guardCore_run hv hu hl w
end
end Go.Proofs.YtjifnmilimdfdaaGreatDoor.Ab
