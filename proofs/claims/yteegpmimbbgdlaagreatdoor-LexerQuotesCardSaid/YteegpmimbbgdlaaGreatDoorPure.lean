/- The operations that write nothing and make nothing. -/
import Derived.Test.YteegpmimbbgdlaaGreatDoorEq
import Derived.Laws.Tables
set_option linter.unusedVariables false
set_option linter.unusedSimpArgs false
set_option linter.unnecessarySimpa false
namespace Go.Proofs.YteegpmimbbgdlaaGreatDoor.Ab
open Go Go.RowKit

section
variable {P : Program} {N : Nat → Prop} {ρ : Rho} {ro : Nat} {st : St} {W w : World}
theorem strOp_run {op : BinOp} {s u : List UInt8} {r : AV} (h : strOp op s u = .ok r) (w : World) : ∃ q, (Op.stringOp op ⟨⟨s⟩⟩ ⟨⟨u⟩⟩).run P w = .ok q w ∧ VR ρ r q := by
  have e1 : (ByteArray.toList ⟨⟨s⟩⟩) = s := by simp [ByteArray.toList_eq]
  have e2 : (ByteArray.toList ⟨⟨u⟩⟩) = u := by simp [ByteArray.toList_eq]
  cases op <;> simp only [strOp] at h <;> first
    | (cases h; done)
    | skip
  · split at h
    · rename_i hl
      cases h
      have hl' := ble_true hl
      have hl2 : s.length + u.length ≤ 1000000 := hl'
      refine ⟨.string ⟨⟨s ++ u⟩⟩, ?_, .str _⟩
      have h1 : ¬ ((((⟨⟨s⟩⟩ : ByteArray).size + (⟨⟨u⟩⟩ : ByteArray).size : Nat) : Int) > IntKind.i64.max) := by
        show ¬ (((s.length + u.length : Nat) : Int) > 9223372036854775807)
        omega
      simp only [Op.stringOp]
      rw [if_neg h1]
      have h2 : (⟨⟨s⟩⟩ : ByteArray) ++ ⟨⟨u⟩⟩ = ⟨⟨s ++ u⟩⟩ := by
        apply ByteArray.ext
        simp
      rw [h2]; rfl
    · cases h
  all_goals
    cases h
    simp only [Op.stringOp, e1, e2, eqBytes_iff, ltBytes_iff]
    exact ⟨_, rfl, .bool _⟩
def eqSem (op : BinOp) (t : TypeId) (v u : Value) : Sem Value := match op with
  | .eql => do pure (.bool (← Op.equal t v u))
  | _ => do pure (.bool (!(← Op.equal t v u)))
theorem binOp_eql_forms (op : BinOp) (hop : op = .eql ∨ op = .neq) (t : TypeId) (v u : Value) : (Go.binOp op t v u = eqSem op t v u) ∨ (∃ k a k' b, v = .int k a ∧ u = .int k' b) ∨
    (∃ k a k' b, v = .float k a ∧ u = .float k' b) ∨ (∃ k a b k' c d, v = .complex k a b ∧ u = .complex k' c d) ∨ (∃ a b, v = .string a ∧ u = .string b) := by
  rcases hop with rfl | rfl <;> cases v <;> cases u <;> first
    | exact .inl rfl
    | exact .inr (.inl ⟨_, _, _, _, rfl, rfl⟩)
    | exact .inr (.inr (.inl ⟨_, _, _, _, rfl, rfl⟩))
    | exact .inr (.inr (.inr (.inl ⟨_, _, _, _, _, _, rfl, rfl⟩)))
    | exact .inr (.inr (.inr (.inr ⟨_, _, rfl, rfl⟩)))
theorem binOp_str (op : BinOp) (t : TypeId) (s u : ByteArray) : Go.binOp op t (.string s) (.string u) = Op.stringOp op s u := by cases op <;> rfl
theorem run_guarded {g : Sem Unit} {s : Sem Value} {q : Value} (hg : g.run P w = .ok () w) (hs : s.run P w = .ok q w) : (do g; s : Sem Value).run P w = .ok q w := by
  simp [Sem.run_bind, hg, hs]
theorem symBin_lets {st : St} {op : BinOp} {t : TypeId} {x y : Operand} {a b r : AV} (h : symBin st op a b = .ok r) : eqLets P t x y a b = true := by
  unfold symBin at h
  split at h
  · rename_i p q hp hq
    unfold symI at hp hq
    split at hp <;> split at hq <;> first | (cases hp; done) | (cases hq; done) | rfl
  · split at h
    · rename_i p q hp hq
      unfold symS at hp hq
      split at hp <;> split at hq <;> first | (cases hp; done) | (cases hq; done) | rfl
    · cases h
theorem binA_run (h : MR N ρ ro st W w) {op : BinOp} {t : TypeId} {x y : Operand} {a b r : AV} {v u : Value} (hv : VR ρ a v) (hu : VR ρ b u) (hq : binA P st op t x y a b = .ok r) :
    ∃ q, (do eqGuard op t x y v u; Go.binOp op t v u : Sem Value).run P w = .ok q w ∧ VR ρ r q := by
  unfold binA at hq
  split at hq
  · obtain ⟨q, h1, h2⟩ := symBin_val (P := P) (t := t) h hv hu hq
    exact ⟨q, run_guarded (eqGuard_run hv hu (symBin_lets hq) w) h1, h2⟩
  rename_i hsym
  split at hq
  · cases hv; cases hu
    obtain ⟨q, h1, h2⟩ := strOp_run (P := P) (ρ := ρ) hq w
    refine ⟨q, run_guarded (eqGuard_run (ρ := ρ) (.str _) (.str _) rfl w) ?_, h2⟩
    rw [binOp_str]; exact h1
  · cases hv; cases hu
    obtain ⟨q, h1, h2⟩ := scal_run (ρ := ρ) hq w
    exact ⟨q, run_guarded (eqGuard_run (ρ := ρ) (.int _ _) (.int _ _) rfl w) h1, h2⟩
  · cases hv; cases hu
    obtain ⟨q, h1, h2⟩ := scal_run (ρ := ρ) hq w
    exact ⟨q, run_guarded (eqGuard_run (ρ := ρ) (.flt _ _) (.flt _ _) rfl w) h1, h2⟩
  · rename_i n1 n2 n3
    have forms : ∀ op', (op' = .eql ∨ op' = .neq) → eqLets P t x y a b = true → Go.binOp op' t v u = eqSem op' t v u := by
      intro op' hop' hl
      rcases binOp_eql_forms op' hop' t v u with e | ⟨k, m, k', m', rfl, rfl⟩ | ⟨k, m, k', m', rfl, rfl⟩ | ⟨k, m, m1, k', m', m2, rfl, rfl⟩ | ⟨s, s', rfl, rfl⟩
      · exact e
      all_goals
        exfalso
        cases hv <;> cases hu <;> first
          | exact Bool.noConfusion (show true = false from hsym)
          | (revert hl; simp only [eqLets]; intro hl; cases hl; done)
          | exact n1 _ _ rfl rfl
          | exact n2 _ _ _ _ rfl rfl
          | exact n3 _ _ _ _ rfl rfl
    split at hq
    · split at hq
      · rename_i hl
        obtain ⟨e, he, hq⟩ := Rs.bind_ok hq
        cases hq
        have := eqA_run h 100 10000 (by omega) hv hu he
        refine ⟨.bool e, run_guarded (eqGuard_run hv hu hl w) ?_, .bool _⟩
        rw [forms _ (.inl rfl) hl]
        have h2 : (Op.equal t v u).run P w = .ok e w := this
        simp [eqSem, h2]
      · cases hq
    · split at hq
      · rename_i hl
        obtain ⟨e, he, hq⟩ := Rs.bind_ok hq
        cases hq
        have := eqA_run h 100 10000 (by omega) hv hu he
        refine ⟨.bool (!e), run_guarded (eqGuard_run hv hu hl w) ?_, .bool _⟩
        rw [forms _ (.inr rfl) hl]
        have h2 : (Op.equal t v u).run P w = .ok e w := this
        simp [eqSem, h2]
      · cases hq
    · cases hq
/- COMPOSITES. -/
theorem over_get {α : Type} {a b : List α} {off : Nat} (h : off + b.length ≤ a.length) (i : Nat) : (a.take off ++ b ++ a.drop (off + b.length))[i]? = if off ≤ i ∧ i < off + b.length then b[i - off]? else a[i]? := by
  have ht : (a.take off).length = off := by simp; omega
  by_cases h1 : i < off
  · rw [if_neg (by omega), List.append_assoc, List.getElem?_append_left (by omega), List.getElem?_take_of_lt h1]
  · by_cases h2 : i < off + b.length
    · rw [if_pos ⟨by omega, h2⟩, List.append_assoc, List.getElem?_append_right (by omega), ht, List.getElem?_append_left (by omega)]
    · rw [if_neg (by omega), List.append_assoc, List.getElem?_append_right (by omega), ht, List.getElem?_append_right (by omega), List.getElem?_drop]
      congr 1; omega
theorem VRs.write {l : List AV} {c : Array Value} (h : VRs ρ l c.toList) {l' : List AV} {vs : List Value} (h' : VRs ρ l' vs) {off : Nat} (hl : off + l'.length ≤ l.length) : VRs ρ (over l off l') (writeCells c off vs).toList := by
  have e1 := h.length
  have e2 := h'.length
  have e1' : c.size = l.length := by simpa using e1
  refine VRs.of_get ?_ fun i a v ha hv => ?_
  · simp only [Array.length_toList, writeCells_size, Ab.over, List.length_append, List.length_take, List.length_drop]
    omega
  · unfold Ab.over at ha
    rw [over_get hl] at ha
    have hv' : (writeCells c off vs)[i]? = some v := by simpa using hv
    rw [writeCells_get vs c off i (by omega)] at hv'
    rw [e2] at hv'
    split at ha
    · rename_i hi
      rw [if_pos hi] at hv'
      obtain ⟨u, hu, hR⟩ := h'.get ha
      rw [hu] at hv'; cases hv'; exact hR
    · rename_i hi
      rw [if_neg hi] at hv'
      obtain ⟨u, hu, hR⟩ := h.get ha
      have : c[i]? = some u := by simpa using hu
      rw [this] at hv'; cases hv'; exact hR
theorem foldl_write (vs : List Value) : ∀ (cs : Array Value) (off j : Nat), ((vs.zipIdx j).foldl (fun cs (x : Value × Nat) => cs.setIfInBounds (off + x.2) x.1) cs) = writeCells cs (off + j) vs := by
  induction vs with
  | nil => intro cs off j; rfl
  | cons v r ih =>
    intro cs off j
    simp only [List.zipIdx_cons, List.foldl_cons, writeCells]
    rw [ih, Nat.add_assoc]
theorem foldl_writeA (vs cs : Array Value) (off : Nat) : (vs.zipIdx.foldl (fun cs (x : Value × Nat) => cs.setIfInBounds (off + x.2) x.1) cs) = writeCells cs off vs.toList := by
  have := foldl_write vs.toList cs off 0
  rw [← Array.foldl_toList]
  simpa using this
theorem fill_run {place : Nat → Option (Nat × Nat)} : ∀ {parts : List (Nat × AV)} {vs : List (Nat × Value)} {l r : List AV} {c : Array Value}, parts.map (·.1) = vs.map (·.1) → VRs ρ (parts.map (·.2)) (vs.map (·.2)) → VRs ρ l c.toList →
    fillA place parts l = .ok r → ∃ c', Instr.fill place c vs = some c' ∧ VRs ρ r c'.toList
  | [], [], l, r, c, _, _, hl, h => by cases h; exact ⟨c, rfl, hl⟩
  | [], _ :: _, _, _, _, h1, _, _, _ => by simp at h1
  | _ :: _, [], _, _, _, h1, _, _, _ => by simp at h1
  | (i, a) :: ps, (j, v) :: vs, l, r, c, h1, h2, hl, h => by
    simp only [List.map_cons, List.cons.injEq] at h1
    obtain ⟨rfl, h1⟩ := h1
    cases h2 with
    | cons _ _ _ _ hv h2 =>
      simp only [fillA] at h
      split at h
      · rename_i off size lc hp hc
        split at h
        · rename_i hs hb
          have hs' := beq_true hs
          have hb' : off + lc.length ≤ l.length := ble_true hb
          have hcv := hv.cells hc
          have e1 : v.cells.size = lc.length := by simpa using hcv.length
          have e2 : c.size = l.length := by simpa using hl.length
          have hw := hl.write hcv hb'
          obtain ⟨c', h3, h4⟩ := fill_run h1 h2 hw h
          refine ⟨c', ?_, h4⟩
          simp only [Instr.fill, hp]
          rw [if_neg (by simp only [ne_eq, Bool.or_eq_true, decide_eq_true_eq]; omega), foldl_writeA]
          exact h3
        · cases h
      · cases h
theorem parts_map {fr : Fr} {ev : Operand → Value} (l : List (Nat × Operand)) : (parts fr l).map (·.1) = (l.map fun p => (p.1, ev p.2)).map (·.1) := by simp [parts, Function.comp_def]
theorem parts_rel {fr : Fr} {ev : Operand → Value} : ∀ {l : List (Nat × Operand)}, (∀ x ∈ l.map (·.2), VR ρ (fr.get x) (ev x)) → VRs ρ ((parts fr l).map (·.2)) ((l.map fun p => (p.1, ev p.2)).map (·.2))
  | [], _ => .nil
  | p :: r, h => .cons _ _ _ _ (h p.2 (by simp)) (parts_rel fun x hx => h x (by simp at hx ⊢; exact .inr hx))
theorem run_zero {t : TypeId} {z : AV} (h : tyZero P t = some z) (w : World) : ∃ v, (zeroValue t).run P w = .ok v w ∧ VR ρ z v := by
  unfold tyZero at h
  split at h
  · rename_i i hi
    split at h
    · rename_i v hv
      refine ⟨v, by simp [zeroValue, typeInfo, hi, hv], ?_⟩
      split at h
      · cases h
      · cases h; exact ofV_spec v
    · cases h
  · cases h
theorem buildA_run {t : TypeId} {ps : List (Nat × Operand)} {fr : Fr} {ev : Operand → Value} {r : AV} (he : ∀ x ∈ ps.map (·.2), VR ρ (fr.get x) (ev x)) (h : buildA P t (parts fr ps) = .ok r) (w : World) :
    ∃ v, (Instr.build t (ps.map fun p => (p.1, ev p.2)).toArray).run P w = .ok v w ∧ VR ρ r v := by
  unfold buildA at h
  split at h
  · rename_i z hz
    obtain ⟨zv, h1, h2⟩ := run_zero (ρ := ρ) hz w
    cases h2 with | agg _ zc hzc =>
    split at h
    · rename_i fs hfs
      split at h
      · rename_i pl hpl
        obtain ⟨cs, hcs, h⟩ := Rs.bind_ok h
        cases h
        obtain ⟨c', h3, h4⟩ := fill_run (parts_map ps) (parts_rel he) hzc hcs
        refine ⟨.agg c', ?_, .agg _ _ h4⟩
        unfold placesOf at hpl
        rw [hfs] at hpl
        have hpl' : fs.toList.mapM (fun f => (P.info? f.type).map fun i => (f.offset, i.size)) = some pl := by
          rw [← hpl]
          congr 1
          funext f
          unfold tySize
          cases P.info? f.type <;> rfl
        simp [Instr.build, h1, run_underlying hfs, Array.mapM_eq_mapM_toList, run_places w _ _ hpl', Value.cells, h3]
      · cases h
    · rename_i n e hty
      split at h
      · rename_i size hs
        obtain ⟨cs, hcs, h⟩ := Rs.bind_ok h
        cases h
        obtain ⟨c', h3, h4⟩ := fill_run (parts_map ps) (parts_rel he) hzc hcs
        refine ⟨.agg c', ?_, .agg _ _ h4⟩
        simp only [Instr.build, Sem.run_bind, h1, Result.andThen_ok, run_underlying hty, run_size hs]
        have h3' : Instr.fill (fun i => some (i * size, size)) zc (ps.map fun p => (p.1, ev p.2)) = some c' := h3
        simp [Value.cells, h3']
      · cases h
    · cases h
  · cases h
/- PLACES AND PARTS. -/
theorem natOf_spec {a : AV} {n : Nat} {v : Value} (h : natOf a = some n) (hv : VR ρ a v) : ∃ k, v = .int k (n : Int) := by
  unfold natOf at h
  split at h
  · cases h; cases hv; exact ⟨_, rfl⟩
  · cases h
theorem run_asIntOf {k : IntKind} {n : Int} (w : World) : (asIntOf (.int k n)).run P w = .ok (k, n) w := rfl
def OptR (x : Option Value) (n : Option Nat) : Prop := (x = none ∧ n = none) ∨ ∃ k m, x = some (.int k ((m : Nat) : Int)) ∧ n = some m
theorem numOf_spec {fr : Fr} {ev : Operand → Value} {x : Option Operand} {n : Option Nat} (hx : ∀ y, x = some y → VR ρ (fr.get y) (ev y)) (h : numOf fr x = .ok n) : OptR (x.map ev) n := by
  unfold numOf at h
  split at h
  · cases h; exact .inl ⟨rfl, rfl⟩
  · split at h
    · rename_i y _ m hm
      cases h
      obtain ⟨k, hk⟩ := natOf_spec hm (hx y rfl)
      exact .inr ⟨k, m, by simp [hk], rfl⟩
    · cases h
theorem run_sliceBound {k : IntKind} {n y : Nat} {code : BoundsCode} (h : n ≤ y) (w : World) : (Instr.sliceBound (.int k (n : Int)) y code).run P w = .ok n w := by
  have : (0 : Int) ≤ (n : Int) ∧ (n : Int) ≤ (y : Int) := by omega
  simp [Instr.sliceBound, run_asIntOf, h]
theorem run_sliceBounds {isSlice : Bool} {len cap : Nat} {lo hi mx : Option Value} {l h m : Option Nat} (hl : OptR lo l) (hh : OptR hi h) (hm : OptR mx m) (hb : l.getD 0 ≤ h.getD len) (hmax : m = none → h.getD len ≤ cap)
    (hmx : ∀ k, m = some k → k ≤ cap ∧ ∃ j, h = some j ∧ j ≤ k) (w : World) :
    (Instr.sliceBounds isSlice len cap lo hi mx).run P w = .ok (l.getD 0, h.getD len, m.getD cap) w := by
  rcases hm with ⟨rfl, rfl⟩ | ⟨km, m, rfl, rfl⟩
  · have hc := hmax rfl
    rcases hh with ⟨rfl, rfl⟩ | ⟨kh, h, rfl, rfl⟩
    · rcases hl with ⟨rfl, rfl⟩ | ⟨kl, l, rfl, rfl⟩
      · simp [Instr.sliceBounds]
      · simp [Instr.sliceBounds, run_sliceBound (show l ≤ len from hb)]
    · rcases hl with ⟨rfl, rfl⟩ | ⟨kl, l, rfl, rfl⟩
      · simp [Instr.sliceBounds, run_sliceBound (show h ≤ cap from hc)]
      · simp [Instr.sliceBounds, run_sliceBound (show h ≤ cap from hc), run_sliceBound (show l ≤ h from hb)]
  · obtain ⟨hk, h, rfl, hj⟩ := hmx m rfl
    rcases hh with ⟨_, e⟩ | ⟨kh, h', rfl, e⟩
    · cases e
    · cases e
      rcases hl with ⟨rfl, rfl⟩ | ⟨kl, l, rfl, rfl⟩
      · simp [Instr.sliceBounds, run_sliceBound hk, run_sliceBound hj]
      · simp [Instr.sliceBounds, run_sliceBound hk, run_sliceBound hj, run_sliceBound (show l ≤ h from hb)]
theorem sel_off {c l off s b : Nat} : (if c = l then b + off else b + off + l * s) = b + (match Nat.beq c l with | true => off | false => Nat.add off (Nat.mul l s)) := by
  by_cases h : c = l
  · subst h; rw [if_pos rfl]
    have : Nat.beq c c = true := Nat.beq_refl c
    rw [this]
  · rw [if_neg h]
    have : Nat.beq c l = false := by
      cases hb : Nat.beq c l with
      | false => rfl
      | true => exact absurd (beq_true hb) h
    rw [this]
    show b + off + l * s = b + (off + l * s)
    omega
theorem subslice_spec {id off len size : Nat} {cap : Cap} {l h m : Option Nat} {r : AV} {L : Loc} {c o : Nat} (hs : subslice id off len size cap l h m = .ok r) (hL : ρ id = some L) (hc : CapR L off cap c o) (hl : len ≤ c) :
    (l.getD 0 ≤ h.getD len) ∧ (m = none → h.getD len ≤ c) ∧ (∀ k, m = some k → k ≤ c ∧ ∃ j, h = some j ∧ j ≤ k) ∧
    VR ρ r (.slice (some ⟨L.b, if m.getD c = l.getD 0 then o else o + l.getD 0 * size, none⟩) (h.getD len - l.getD 0) (m.getD c - l.getD 0)) := by
  cases cap with
  | k n =>
    obtain ⟨rfl, rfl⟩ := hc
    cases m with
    | none =>
      simp only [subslice] at hs
      split at hs
      · rename_i h1 h2
        cases hs
        have h1' := ble_true h1
        have h2' := ble_true h2
        refine ⟨h2', fun _ => h1', (fun k hk => by cases hk), ?_⟩
        refine .sl _ _ _ _ L _ _ hL ⟨rfl, sel_off⟩ ?_
        show h.getD len - l.getD 0 ≤ c - l.getD 0
        omega
      · cases hs
    | some m =>
      cases h with
      | none => cases hs
      | some h =>
        simp only [subslice] at hs
        split at hs
        · rename_i h1 h2 h3
          cases hs
          have h1' := ble_true h1
          have h2' := ble_true h2
          have h3' := ble_true h3
          refine ⟨h3', (fun e => by cases e), (fun k hk => by cases hk; exact ⟨h1', h, rfl, h2'⟩), ?_⟩
          refine .sl _ _ _ _ L _ _ hL ⟨rfl, sel_off⟩ ?_
          show h - l.getD 0 ≤ m - l.getD 0
          omega
        · cases hs
  | g e =>
    obtain ⟨hn, ho⟩ := hc
    cases m with
    | none =>
      simp only [subslice] at hs
      split at hs
      · rename_i h1 h2 h3
        cases hs
        have h1' := ble_true h1
        have h2' := ble_true h2
        have h3' := beq_true h3
        subst h3'
        refine ⟨h2', fun _ => by omega, (fun k hk => by cases hk), ?_⟩
        simp only [Option.getD_none]
        refine .sl _ _ _ _ L _ _ hL ⟨?_, ?_⟩ (by show h.getD len - l.getD 0 ≤ c - l.getD 0; omega)
        · show L.base + (off + l.getD 0 * e) + (c - l.getD 0) * e = L.n
          have : l.getD 0 ≤ c := by omega
          rw [Nat.sub_mul]
          have := Nat.mul_le_mul_right e this
          omega
        · by_cases hcl : c = l.getD 0
          · left; omega
          · right
            rw [if_neg hcl]
            show o + l.getD 0 * e = L.base + (off + l.getD 0 * e)
            rcases ho with ho | ho <;> omega
      · cases hs
    | some m =>
      cases h with
      | none => cases hs
      | some h =>
        simp only [subslice] at hs
        split at hs
        · rename_i h1 h2 h3
          cases hs
          obtain ⟨h0, h00⟩ := Bool.and_eq_true_iff.1 h1
          have h0' := ble_true h0
          have h00' := blt_true h00
          have h2' := ble_true h2
          have h3' := ble_true h3
          have ho' : o = L.base + off := by rcases ho with ho | ho <;> omega
          subst ho'
          refine ⟨h3', (fun e => by cases e), (fun k hk => by cases hk; exact ⟨by omega, h, rfl, h2'⟩), ?_⟩
          refine .sl _ _ _ _ L _ _ hL ⟨rfl, sel_off⟩ ?_
          show h - l.getD 0 ≤ m - l.getD 0
          omega
        · cases hs
theorem sliceA_run {t : TypeId} {x : AV} {v : Value} {lo hi mx : Option Operand} {fr : Fr} {ev : Operand → Value} {r : AV} (hv : VR ρ x v) (he : ∀ y, (lo = some y ∨ hi = some y ∨ mx = some y) → VR ρ (fr.get y) (ev y))
    (h : sliceA P fr t x lo hi mx = .ok r) (w : World) : ∃ q, (Instr.sliceAt t v (lo.map ev) (hi.map ev) (mx.map ev)).run P w = .ok q w ∧ VR ρ r q := by
  unfold sliceA at h
  obtain ⟨l, hl, ha⟩ := Rs.bind_ok h
  clear h
  obtain ⟨hh, hhi, hb⟩ := Rs.bind_ok ha
  clear ha
  obtain ⟨m, hm, h⟩ := Rs.bind_ok hb
  clear hb
  have ol := numOf_spec (fun z hz => he z (.inl hz)) hl
  have oh := numOf_spec (fun z hz => he z (.inr (.inl hz))) hhi
  have om := numOf_spec (fun z hz => he z (.inr (.inr hz))) hm
  split at h
  · rename_i hty
    split at h
    · cases hv
      rename_i s
      split at h
      · dsimp only at h
        split at h
        · rename_i h1 h2
          cases h
          have h1' := ble_true h1
          have h2' := ble_true h2
          have em : mx.map ev = none := by
            rcases om with ⟨e, _⟩ | ⟨_, _, _, e⟩
            · exact e
            · cases e
          refine ⟨.string ⟨⟨(s.drop (l.getD 0)).take (hh.getD s.length - l.getD 0)⟩⟩, ?_, .str _⟩
          have hsz : (⟨⟨s⟩⟩ : ByteArray).size = s.length := rfl
          have hb := run_sliceBounds (P := P) (isSlice := false) (len := s.length) (cap := s.length) ol oh (.inl ⟨rfl, rfl⟩) h2' (fun _ => h1') (fun k hk => by cases hk) w
          have hx : (⟨⟨s⟩⟩ : ByteArray).extract (l.getD 0) (hh.getD s.length) = ⟨⟨(s.drop (l.getD 0)).take (hh.getD s.length - l.getD 0)⟩⟩ := by
            apply ByteArray.ext
            simp [ByteArray.data_extract]
          simp only [Instr.sliceAt, Sem.run_bind, run_underlying hty, Result.andThen_ok, Instr.slice]
          simp only [em, Option.isSome_none, Bool.false_eq_true, if_false, hsz]
          simp [hb, hx]
        · cases h
      · cases h
    · cases h
  · rename_i e hty
    split at h
    · rename_i size hsize
      split at h
      · cases hv
        rename_i L c o hL hle hc
        obtain ⟨h1, h2, h3, h4⟩ := subslice_spec h hL hc hle
        refine ⟨_, ?_, h4⟩
        have hb := run_sliceBounds (P := P) (isSlice := true) (cap := c) ol oh om h1 h2 h3 w
        simp only [Instr.sliceAt, Sem.run_bind, run_underlying hty, Result.andThen_ok, Instr.slice, hb, run_size hsize]
        simp only [Option.map_some, addr_add]
        split <;> rfl
      · cases hv
        split at h
        · rename_i h1 h2
          cases h
          refine ⟨.slice none 0 0, ?_, .nilsl⟩
          have hb := run_sliceBounds (P := P) (isSlice := true) (len := 0) (cap := 0) ol oh om (by omega) (fun _ => by omega) (fun k hk => by cases hk) w
          simp [Instr.sliceAt, run_underlying hty, Instr.slice, hb, run_size hsize, h1, h2]
        · cases h
      · cases h
    · cases h
  · rename_i n e hty
    split at h
    · rename_i size hsize
      split at h
      · cases hv
        rename_i L hL
        obtain ⟨h1, h2, h3, h4⟩ := subslice_spec h hL (c := n) (o := L.base + _) ⟨rfl, rfl⟩ (Nat.le_refl _)
        refine ⟨_, ?_, h4⟩
        have hb := run_sliceBounds (P := P) (isSlice := false) (cap := n) ol oh om h1 h2 h3 w
        simp only [Instr.sliceAt, Sem.run_bind, run_underlying hty, Result.andThen_ok, run_size hsize, Instr.sureAddr]
        simp only [Sem.run_pure, Result.andThen_ok, addr_add]
        rw [hb]
        simp only [Result.andThen_ok]
        split <;> rfl
      · cases h
    · cases h
  · cases h
end
end Go.Proofs.YteegpmimbbgdlaaGreatDoor.Ab
