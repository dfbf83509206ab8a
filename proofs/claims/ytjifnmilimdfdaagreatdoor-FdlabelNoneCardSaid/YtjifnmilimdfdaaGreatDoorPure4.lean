import Derived.Test.YtjifnmilimdfdaaGreatDoorEq
import Derived.Laws.Tables
/- The operations that write nothing and make nothing. -/
set_option linter.unusedVariables false
set_option linter.unusedSimpArgs false
set_option linter.unnecessarySimpa false
namespace Go.Proofs.YtjifnmilimdfdaaGreatDoor.Ab
open Go Go.RowKit

section
variable {P : Program} {N : Nat → Prop} {ρ : Rho} {ro : Nat} {st : St} {W w : World}
theorem strOp_run {op : BinOp} {s u : List UInt8} {r : AV} (h : strOp op s u = .ok r) (w : World) : ∃ q, (Op.stringOp op ⟨⟨s⟩⟩ ⟨⟨u⟩⟩).run P w = .ok q w ∧ VR ρ r q := by
  have e1 : (ByteArray.toList ⟨⟨s⟩⟩) = s := by simp [ByteArray.toList_eq]
  have e2 : (ByteArray.toList ⟨⟨u⟩⟩) = u := by simp [ByteArray.toList_eq]
  cases op <;> simp only [strOp] at h <;> first
    | (cases h; done)
    | skip
  · split at h
    · rename_i hl
      cases h
      have hl' := ble_true hl
      have hl2 : s.length + u.length ≤ 1000000 := hl'
      refine ⟨.string ⟨⟨s ++ u⟩⟩, ?_, .str _⟩
      have h1 : ¬ ((((⟨⟨s⟩⟩ : ByteArray).size + (⟨⟨u⟩⟩ : ByteArray).size : Nat) : Int) > IntKind.i64.max) := by
        show ¬ (((s.length + u.length : Nat) : Int) > 9223372036854775807)
        omega
      simp only [Op.stringOp]
      rw [if_neg h1]
      have h2 : (⟨⟨s⟩⟩ : ByteArray) ++ ⟨⟨u⟩⟩ = ⟨⟨s ++ u⟩⟩ := by
        apply ByteArray.ext
        simp
      rw [h2]; rfl
    · cases h
  all_goals
    cases h
    simp only [Op.stringOp, e1, e2, eqBytes_iff, ltBytes_iff]
    exact ⟨_, rfl, .bool _⟩
def eqSem (op : BinOp) (t : TypeId) (v u : Value) : Sem Value := match op with
  | .eql => do pure (.bool (← Op.equal t v u))
  | _ => do pure (.bool (!(← Op.equal t v u)))
theorem binOp_eql_forms (op : BinOp) (hop : op = .eql ∨ op = .neq) (t : TypeId) (v u : Value) : (Go.binOp op t v u = eqSem op t v u) ∨ (∃ k a k' b, v = .int k a ∧ u = .int k' b) ∨
    (∃ k a k' b, v = .float k a ∧ u = .float k' b) ∨ (∃ k a b k' c d, v = .complex k a b ∧ u = .complex k' c d) ∨ (∃ a b, v = .string a ∧ u = .string b) := by
  rcases hop with rfl | rfl <;> cases v <;> cases u <;> first
    | exact .inl rfl
    | exact .inr (.inl ⟨_, _, _, _, rfl, rfl⟩)
    | exact .inr (.inr (.inl ⟨_, _, _, _, rfl, rfl⟩))
    | exact .inr (.inr (.inr (.inl ⟨_, _, _, _, _, _, rfl, rfl⟩)))
    | exact .inr (.inr (.inr (.inr ⟨_, _, rfl, rfl⟩)))
theorem binOp_str (op : BinOp) (t : TypeId) (s u : ByteArray) : Go.binOp op t (.string s) (.string u) = Op.stringOp op s u := by cases op <;> rfl
theorem run_guarded {g : Sem Unit} {s : Sem Value} {q : Value} (hg : g.run P w = .ok () w) (hs : s.run P w = .ok q w) : (do g; s : Sem Value).run P w = .ok q w := by
  simp [Sem.run_bind, hg, hs]
theorem symBin_lets {st : St} {op : BinOp} {t : TypeId} {x y : Operand} {a b r : AV} (h : symBin st op a b = .ok r) : eqLets P t x y a b = true := by
  unfold symBin at h
  split at h
  · rename_i p q hp hq
    unfold symI at hp hq
    split at hp <;> split at hq <;> first | (cases hp; done) | (cases hq; done) | rfl
  · split at h
    · rename_i p q hp hq
      unfold symS at hp hq
      split at hp <;> split at hq <;> first | (cases hp; done) | (cases hq; done) | rfl
    · cases h
theorem binA_run (h : MR N ρ ro st W w) {op : BinOp} {t : TypeId} {x y : Operand} {a b r : AV} {v u : Value} (hv : VR ρ a v) (hu : VR ρ b u) (hq : binA P st op t x y a b = .ok r) :
    ∃ q, (do eqGuard op t x y v u; Go.binOp op t v u : Sem Value).run P w = .ok q w ∧ VR ρ r q := by
  unfold binA at hq
  split at hq
  · obtain ⟨q, h1, h2⟩ := symBin_val (P := P) (t := t) h hv hu hq
    exact ⟨q, run_guarded (eqGuard_run hv hu (symBin_lets hq) w) h1, h2⟩
  rename_i hsym
  split at hq
  · cases hv; cases hu
    obtain ⟨q, h1, h2⟩ := strOp_run (P := P) (ρ := ρ) hq w
    refine ⟨q, run_guarded (eqGuard_run (ρ := ρ) (.str _) (.str _) rfl w) ?_, h2⟩
    rw [binOp_str]; exact h1
  · cases hv; cases hu
    obtain ⟨q, h1, h2⟩ := scal_run (ρ := ρ) hq w
    exact ⟨q, run_guarded (eqGuard_run (ρ := ρ) (.int _ _) (.int _ _) rfl w) h1, h2⟩
  · cases hv; cases hu
    obtain ⟨q, h1, h2⟩ := scal_run (ρ := ρ) hq w
    exact ⟨q, run_guarded (eqGuard_run (ρ := ρ) (.flt _ _) (.flt _ _) rfl w) h1, h2⟩
  · rename_i n1 n2 n3
    have forms : ∀ op', (op' = .eql ∨ op' = .neq) → eqLets P t x y a b = true → Go.binOp op' t v u = eqSem op' t v u := by
      intro op' hop' hl
      rcases binOp_eql_forms op' hop' t v u with e | ⟨k, m, k', m', rfl, rfl⟩ | ⟨k, m, k', m', rfl, rfl⟩ | ⟨k, m, m1, k', m', m2, rfl, rfl⟩ | ⟨s, s', rfl, rfl⟩
      · exact e
      all_goals
        exfalso
        cases hv <;> cases hu <;> first
          | exact Bool.noConfusion (show true = false from hsym)
          | (revert hl; simp only [eqLets]; intro hl; cases hl; done)
          | exact n1 _ _ rfl rfl
          | exact n2 _ _ _ _ rfl rfl
          | exact n3 _ _ _ _ rfl rfl
    split at hq
    · split at hq
      · rename_i hl
        obtain ⟨e, he, hq⟩ := Rs.bind_ok hq
        cases hq
        have := eqA_run h 100 10000 (by omega) hv hu he
        refine ⟨.bool e, run_guarded (eqGuard_run hv hu hl w) ?_, .bool _⟩
        rw [forms _ (.inl rfl) hl]
        have h2 : (Op.equal t v u).run P w = .ok e w := this
        simp [eqSem, h2]
      · cases hq
    · split at hq
      · rename_i hl
        obtain ⟨e, he, hq⟩ := Rs.bind_ok hq
        cases hq
        have := eqA_run h 100 10000 (by omega) hv hu he
        refine ⟨.bool (!e), run_guarded (eqGuard_run hv hu hl w) ?_, .bool _⟩
        rw [forms _ (.inr rfl) hl]
        have h2 : (Op.equal t v u).run P w = .ok e w := this
        simp [eqSem, h2]
      · cases hq
    · cases hq
/- COMPOSITES. -/
theorem over_get {α : Type} {a b : List α} {off : Nat} (h : off + b.length ≤ a.length) (i : Nat) : (a.take off ++ b ++ a.drop (off + b.length))[i]? = if off ≤ i ∧ i < off + b.length then b[i - off]? else a[i]? := by
  have ht : (a.take off).length = off := by simp; omega
  by_cases h1 : i < off
  · rw [if_neg (by omega), List.append_assoc, List.getElem?_append_left (by omega), List.getElem?_take_of_lt h1]
  · by_cases h2 : i < off + b.length
    · rw [if_pos ⟨by omega, h2⟩, List.append_assoc, List.getElem?_append_right (by omega), ht, List.getElem?_append_left (by omega)]
    · rw [if_neg (by omega), List.append_assoc, List.getElem?_append_right (by omega), ht, List.getElem?_append_right (by omega), List.getElem?_drop]
      congr 1; omega
theorem VRs.write {l : List AV} {c : Array Value} (h : VRs ρ l c.toList) {l' : List AV} {vs : List Value} (h' : VRs ρ l' vs) {off : Nat} (hl : off + l'.length ≤ l.length) : VRs ρ (over l off l') (writeCells c off vs).toList := by
  have e1 := h.length
  have e2 := h'.length
  have e1' : c.size = l.length := by simpa using e1
  refine VRs.of_get ?_ fun i a v ha hv => ?_
  · simp only [Array.length_toList, writeCells_size, Ab.over, List.length_append, List.length_take, List.length_drop]
    omega
  · unfold Ab.over at ha
    rw [over_get hl] at ha
    have hv' : (writeCells c off vs)[i]? = some v := by simpa using hv
    rw [writeCells_get vs c off i (by omega)] at hv'
    rw [e2] at hv'
    split at ha
    · rename_i hi
      rw [if_pos hi] at hv'
      obtain ⟨u, hu, hR⟩ := h'.get ha
      rw [hu] at hv'; cases hv'; exact hR
    · rename_i hi
      rw [if_neg hi] at hv'
      obtain ⟨u, hu, hR⟩ := h.get ha
      have : c[i]? = some u := by simpa using hu
      rw [this] at hv'; cases hv'; exact hR
theorem foldl_write (vs : List Value) : ∀ (cs : Array Value) (off j : Nat), ((vs.zipIdx j).foldl (fun cs (x : Value × Nat) => cs.setIfInBounds (off + x.2) x.1) cs) = writeCells cs (off + j) vs := by
  induction vs with
  | nil => intro cs off j; rfl
  | cons v r ih =>
    intro cs off j
    simp only [List.zipIdx_cons, List.foldl_cons, writeCells]
    rw [ih, Nat.add_assoc]
theorem foldl_writeA (vs cs : Array Value) (off : Nat) : (vs.zipIdx.foldl (fun cs (x : Value × Nat) => cs.setIfInBounds (off + x.2) x.1) cs) = writeCells cs off vs.toList := by
  have := foldl_write vs.toList cs off 0
  rw [← Array.foldl_toList]
  simpa using this
theorem fill_run {place : Nat → Option (Nat × Nat)} : ∀ {parts : List (Nat × AV)} {vs : List (Nat × Value)} {l r : List AV} {c : Array Value}, parts.map (·.1) = vs.map (·.1) → VRs ρ (parts.map (·.2)) (vs.map (·.2)) → VRs ρ l c.toList →
    fillA place parts l = .ok r → ∃ c', Instr.fill place c vs = some c' ∧ VRs ρ r c'.toList
  | [], [], l, r, c, _, _, hl, h => by cases h; exact ⟨c, rfl, hl⟩
  | [], _ :: _, _, _, _, h1, _, _, _ => by simp at h1
  | _ :: _, [], _, _, _, h1, _, _, _ => by simp at h1
  | (i, a) :: ps, (j, v) :: vs, l, r, c, h1, h2, hl, h => by
    simp only [List.map_cons, List.cons.injEq] at h1
    obtain ⟨rfl, h1⟩ := h1
    cases h2 with
    | cons _ _ _ _ hv h2 =>
      simp only [fillA] at h
      split at h
      · rename_i off size lc hp hc
        split at h
        · rename_i hs hb
          have hs' := beq_true hs
          have hb' : off + lc.length ≤ l.length := ble_true hb
          have hcv := hv.cells hc
          have e1 : v.cells.size = lc.length := by simpa using hcv.length
          have e2 : c.size = l.length := by simpa using hl.length
          have hw := hl.write hcv hb'
          obtain ⟨c', h3, h4⟩ := fill_run h1 h2 hw h
          refine ⟨c', ?_, h4⟩
          simp only [Instr.fill, hp]
          rw [if_neg (by simp only [ne_eq, Bool.or_eq_true, decide_eq_true_eq]; omega), foldl_writeA]
          exact h3
        · cases h
      · cases h
theorem parts_map {fr : Fr} {ev : Operand → Value} (l : List (Nat × Operand)) : (parts fr l).map (·.1) = (l.map fun p => (p.1, ev p.2)).map (·.1) := by simp [parts, Function.comp_def]
theorem parts_rel {fr : Fr} {ev : Operand → Value} : ∀ {l : List (Nat × Operand)}, (∀ x ∈ l.map (·.2), VR ρ (fr.get x) (ev x)) → VRs ρ ((parts fr l).map (·.2)) ((l.map fun p => (p.1, ev p.2)).map (·.2))
  | [], _ => .nil
  | p :: r, h => .cons _ _ _ _ (h p.2 (by simp)) (parts_rel fun x hx => h x (by simp at hx ⊢; exact .inr hx))
theorem run_zero {t : TypeId} {z : AV} (h : tyZero P t = some z) (w : World) : ∃ v, (zeroValue t).run P w = .ok v w ∧ VR ρ z v := by
  unfold tyZero at h
  split at h
  · rename_i i hi
    split at h
    · rename_i v hv
      refine ⟨v, by simp [zeroValue, typeInfo, hi, hv], ?_⟩
      split at h
      · cases h
      · cases h; exact ofV_spec v
    · cases h
  · cases h
theorem buildA_run {t : TypeId} {ps : List (Nat × Operand)} {fr : Fr} {ev : Operand → Value} {r : AV} (he : ∀ x ∈ ps.map (·.2), VR ρ (fr.get x) (ev x)) (h : buildA P t (parts fr ps) = .ok r) (w : World) :
    ∃ v, (Instr.build t (ps.map fun p => (p.1, ev p.2)).toArray).run P w = .ok v w ∧ VR ρ r v := by
  unfold buildA at h
  split at h
  · rename_i z hz
    obtain ⟨zv, h1, h2⟩ := run_zero (ρ := ρ) hz w
    cases h2 with | agg _ zc hzc =>
    split at h
    · rename_i fs hfs
      split at h
      · rename_i pl hpl
        obtain ⟨cs, hcs, h⟩ := Rs.bind_ok h
        cases h
        obtain ⟨c', h3, h4⟩ := fill_run (parts_map ps) (parts_rel he) hzc hcs
        refine ⟨.agg c', ?_, .agg _ _ h4⟩
        unfold placesOf at hpl
        rw [hfs] at hpl
        have hpl' : fs.toList.mapM (fun f => (P.info? f.type).map fun i => (f.offset, i.size)) = some pl := by
          rw [← hpl]
          congr 1
          funext f
          unfold tySize
          cases P.info? f.type <;> rfl
        simp [Instr.build, h1, run_underlying hfs, Array.mapM_eq_mapM_toList, run_places w _ _ hpl', Value.cells, h3]
      · cases h
    · rename_i n e hty
      split at h
      · rename_i size hs
        obtain ⟨cs, hcs, h⟩ := Rs.bind_ok h
        cases h
        obtain ⟨c', h3, h4⟩ := fill_run (parts_map ps) (parts_rel he) hzc hcs
        refine ⟨.agg c', ?_, .agg _ _ h4⟩
        simp only [Instr.build, Sem.run_bind, h1, Result.andThen_ok, run_underlying hty, run_size hs]
        have h3' : Instr.fill (fun i => some (i * size, size)) zc (ps.map fun p => (p.1, ev p.2)) = some c' := h3
        simp [Value.cells, h3']
      · cases h
    · cases h
  · cases h
/- PLACES AND PARTS. -/
theorem natOf_spec {a : AV} {n : Nat} {v : Value} (h : natOf a = some n) (hv : VR ρ a v) : ∃ k, v = .int k (n : Int) := by
  unfold natOf at h
  split at h
  · cases h; cases hv; exact ⟨_, rfl⟩
  · cases h
theorem run_asIntOf {k : IntKind} {n : Int} (w : World) : (asIntOf (.int k n)).run P w = .ok (k, n) w := rfl
def OptR (x : Option Value) (n : Option Nat) : Prop := (x = none ∧ n = none) ∨ ∃ k m, x = some (.int k ((m : Nat) : Int)) ∧ n = some m
theorem numOf_spec {fr : Fr} {ev : Operand → Value} {x : Option Operand} {n : Option Nat} (hx : ∀ y, x = some y → VR ρ (fr.get y) (ev y)) (h : numOf fr x = .ok n) : OptR (x.map ev) n := by
  unfold numOf at h
  split at h
  · cases h; exact .inl ⟨rfl, rfl⟩
  · split at h
    · rename_i y _ m hm
      cases h
      obtain ⟨k, hk⟩ := natOf_spec hm (hx y rfl)
      exact .inr ⟨k, m, by simp [hk], rfl⟩
    · cases h
theorem run_sliceBound {k : IntKind} {n y : Nat} {code : BoundsCode} (h : n ≤ y) (w : World) : (Instr.sliceBound (.int k (n : Int)) y code).run P w = .ok n w := by
  have : (0 : Int) ≤ (n : Int) ∧ (n : Int) ≤ (y : Int) := by omega
  simp [Instr.sliceBound, run_asIntOf, h]
theorem run_sliceBounds {isSlice : Bool} {len cap : Nat} {lo hi mx : Option Value} {l h m : Option Nat} (hl : OptR lo l) (hh : OptR hi h) (hm : OptR mx m) (hb : l.getD 0 ≤ h.getD len) (hmax : m = none → h.getD len ≤ cap)
    (hmx : ∀ k, m = some k → k ≤ cap ∧ ∃ j, h = some j ∧ j ≤ k) (w : World) :
    (Instr.sliceBounds isSlice len cap lo hi mx).run P w = .ok (l.getD 0, h.getD len, m.getD cap) w := by
  rcases hm with ⟨rfl, rfl⟩ | ⟨km, m, rfl, rfl⟩
  · have hc := hmax rfl
    rcases hh with ⟨rfl, rfl⟩ | ⟨kh, h, rfl, rfl⟩
    · rcases hl with ⟨rfl, rfl⟩ | ⟨kl, l, rfl, rfl⟩
      · simp [Instr.sliceBounds]
      · simp [Instr.sliceBounds, run_sliceBound (show l ≤ len from hb)]
    · rcases hl with ⟨rfl, rfl⟩ | ⟨kl, l, rfl, rfl⟩
      · simp [Instr.sliceBounds, run_sliceBound (show h ≤ cap from hc)]
      · simp [Instr.sliceBounds, run_sliceBound (show h ≤ cap from hc), run_sliceBound (show l ≤ h from hb)]
  · obtain ⟨hk, h, rfl, hj⟩ := hmx m rfl
    rcases hh with ⟨_, e⟩ | ⟨kh, h', rfl, e⟩
    · cases e
    · cases e
      rcases hl with ⟨rfl, rfl⟩ | ⟨kl, l, rfl, rfl⟩
      · simp [Instr.sliceBounds, run_sliceBound hk, run_sliceBound hj]
      · simp [Instr.sliceBounds, run_sliceBound hk, run_sliceBound hj, run_sliceBound (show l ≤ h from hb)]
theorem sel_off {c l off s b : Nat} : (if c = l then b + off else b + off + l * s) = b + (match Nat.beq c l with | true => off | false => Nat.add off (Nat.mul l s)) := by
  by_cases h : c = l
  · subst h; rw [if_pos rfl]
    have : Nat.beq c c = true := Nat.beq_refl c
    rw [this]
  · rw [if_neg h]
    have : Nat.beq c l = false := by
      cases hb : Nat.beq c l with
      | false => rfl
      | true => exact absurd (beq_true hb) h
    rw [this]
    show b + off + l * s = b + (off + l * s)
    omega
theorem subslice_spec {id off len size : Nat} {cap : Cap} {l h m : Option Nat} {r : AV} {L : Loc} {c o : Nat} (hs : subslice id off len size cap l h m = .ok r) (hL : ρ id = some L) (hc : CapR L off cap c o) (hl : len ≤ c) :
    (l.getD 0 ≤ h.getD len) ∧ (m = none → h.getD len ≤ c) ∧ (∀ k, m = some k → k ≤ c ∧ ∃ j, h = some j ∧ j ≤ k) ∧
    VR ρ r (.slice (some ⟨L.b, if m.getD c = l.getD 0 then o else o + l.getD 0 * size, none⟩) (h.getD len - l.getD 0) (m.getD c - l.getD 0)) := by
  cases cap with
  | k n =>
    obtain ⟨rfl, rfl⟩ := hc
    cases m with
    | none =>
      simp only [subslice] at hs
      split at hs
      · rename_i h1 h2
        cases hs
        have h1' := ble_true h1
        have h2' := ble_true h2
        refine ⟨h2', fun _ => h1', (fun k hk => by cases hk), ?_⟩
        refine .sl _ _ _ _ L _ _ hL ⟨rfl, sel_off⟩ ?_
        show h.getD len - l.getD 0 ≤ c - l.getD 0
        omega
      · cases hs
    | some m =>
      cases h with
      | none => cases hs
      | some h =>
        simp only [subslice] at hs
        split at hs
        · rename_i h1 h2 h3
          cases hs
          have h1' := ble_true h1
          have h2' := ble_true h2
          have h3' := ble_true h3
          refine ⟨h3', (fun e => by cases e), (fun k hk => by cases hk; exact ⟨h1', h, rfl, h2'⟩), ?_⟩
          refine .sl _ _ _ _ L _ _ hL ⟨rfl, sel_off⟩ ?_
          show h - l.getD 0 ≤ m - l.getD 0
          omega
        · cases hs
  | g e =>
    obtain ⟨hn, ho⟩ := hc
    cases m with
    | none =>
      simp only [subslice] at hs
      split at hs
      · rename_i h1 h2 h3
        cases hs
        have h1' := ble_true h1
        have h2' := ble_true h2
        have h3' := beq_true h3
        subst h3'
        refine ⟨h2', fun _ => by omega, (fun k hk => by cases hk), ?_⟩
        simp only [Option.getD_none]
        refine .sl _ _ _ _ L _ _ hL ⟨?_, ?_⟩ (by show h.getD len - l.getD 0 ≤ c - l.getD 0; omega)
        · show L.base + (off + l.getD 0 * e) + (c - l.getD 0) * e = L.n
          have : l.getD 0 ≤ c := by omega
          rw [Nat.sub_mul]
          have := Nat.mul_le_mul_right e this
          omega
        · by_cases hcl : c = l.getD 0
          · left; omega
          · right
            rw [if_neg hcl]
            show o + l.getD 0 * e = L.base + (off + l.getD 0 * e)
            rcases ho with ho | ho <;> omega
      · cases hs
    | some m =>
      cases h with
      | none => cases hs
      | some h =>
        simp only [subslice] at hs
        split at hs
        · rename_i h1 h2 h3
          cases hs
          obtain ⟨h0, h00⟩ := Bool.and_eq_true_iff.1 h1
          have h0' := ble_true h0
          have h00' := blt_true h00
          have h2' := ble_true h2
          have h3' := ble_true h3
          have ho' : o = L.base + off := by rcases ho with ho | ho <;> omega
          subst ho'
          refine ⟨h3', (fun e => by cases e), (fun k hk => by cases hk; exact ⟨by omega, h, rfl, h2'⟩), ?_⟩
          refine .sl _ _ _ _ L _ _ hL ⟨rfl, sel_off⟩ ?_
          show h - l.getD 0 ≤ m - l.getD 0
          omega
        · cases hs
theorem sliceA_run {t : TypeId} {x : AV} {v : Value} {lo hi mx : Option Operand} {fr : Fr} {ev : Operand → Value} {r : AV} (hv : VR ρ x v) (he : ∀ y, (lo = some y ∨ hi = some y ∨ mx = some y) → VR ρ (fr.get y) (ev y))
    (h : sliceA P fr t x lo hi mx = .ok r) (w : World) : ∃ q, (Instr.sliceAt t v (lo.map ev) (hi.map ev) (mx.map ev)).run P w = .ok q w ∧ VR ρ r q := by
  unfold sliceA at h
  obtain ⟨l, hl, ha⟩ := Rs.bind_ok h
  clear h
  obtain ⟨hh, hhi, hb⟩ := Rs.bind_ok ha
  clear ha
  obtain ⟨m, hm, h⟩ := Rs.bind_ok hb
  clear hb
  have ol := numOf_spec (fun z hz => he z (.inl hz)) hl
  have oh := numOf_spec (fun z hz => he z (.inr (.inl hz))) hhi
  have om := numOf_spec (fun z hz => he z (.inr (.inr hz))) hm
  split at h
  · rename_i hty
    split at h
    · cases hv
      rename_i s
      split at h
      · dsimp only at h
        split at h
        · rename_i h1 h2
          cases h
          have h1' := ble_true h1
          have h2' := ble_true h2
          have em : mx.map ev = none := by
            rcases om with ⟨e, _⟩ | ⟨_, _, _, e⟩
            · exact e
            · cases e
          refine ⟨.string ⟨⟨(s.drop (l.getD 0)).take (hh.getD s.length - l.getD 0)⟩⟩, ?_, .str _⟩
          have hsz : (⟨⟨s⟩⟩ : ByteArray).size = s.length := rfl
          have hb := run_sliceBounds (P := P) (isSlice := false) (len := s.length) (cap := s.length) ol oh (.inl ⟨rfl, rfl⟩) h2' (fun _ => h1') (fun k hk => by cases hk) w
          have hx : (⟨⟨s⟩⟩ : ByteArray).extract (l.getD 0) (hh.getD s.length) = ⟨⟨(s.drop (l.getD 0)).take (hh.getD s.length - l.getD 0)⟩⟩ := by
            apply ByteArray.ext
            simp [ByteArray.data_extract]
          simp only [Instr.sliceAt, Sem.run_bind, run_underlying hty, Result.andThen_ok, Instr.slice]
          simp only [em, Option.isSome_none, Bool.false_eq_true, if_false, hsz]
          simp [hb, hx]
        · cases h
      · cases h
    · cases h
  · rename_i e hty
    split at h
    · rename_i size hsize
      split at h
      · cases hv
        rename_i L c o hL hle hc
        obtain ⟨h1, h2, h3, h4⟩ := subslice_spec h hL hc hle
        refine ⟨_, ?_, h4⟩
        have hb := run_sliceBounds (P := P) (isSlice := true) (cap := c) ol oh om h1 h2 h3 w
        simp only [Instr.sliceAt, Sem.run_bind, run_underlying hty, Result.andThen_ok, Instr.slice, hb, run_size hsize]
        simp only [Option.map_some, addr_add]
        split <;> rfl
      · cases hv
        split at h
        · rename_i h1 h2
          cases h
          refine ⟨.slice none 0 0, ?_, .nilsl⟩
          have hb := run_sliceBounds (P := P) (isSlice := true) (len := 0) (cap := 0) ol oh om (by omega) (fun _ => by omega) (fun k hk => by cases hk) w
          simp [Instr.sliceAt, run_underlying hty, Instr.slice, hb, run_size hsize, h1, h2]
        · cases h
      · cases h
    · cases h
  · rename_i n e hty
    split at h
    · rename_i size hsize
      split at h
      · cases hv
        rename_i L hL
        obtain ⟨h1, h2, h3, h4⟩ := subslice_spec h hL (c := n) (o := L.base + _) ⟨rfl, rfl⟩ (Nat.le_refl _)
        refine ⟨_, ?_, h4⟩
        have hb := run_sliceBounds (P := P) (isSlice := false) (cap := n) ol oh om h1 h2 h3 w
        simp only [Instr.sliceAt, Sem.run_bind, run_underlying hty, Result.andThen_ok, run_size hsize, Instr.sureAddr]
        simp only [Sem.run_pure, Result.andThen_ok, addr_add]
        rw [hb]
        simp only [Result.andThen_ok]
        split <;> rfl
      · cases h
    · cases h
  · cases h
end
end Go.Proofs.YtjifnmilimdfdaaGreatDoor.Ab
/- The operations that write nothing and make nothing: the rest of them, and all of them together. -/
set_option linter.unusedVariables false
set_option linter.unusedSimpArgs false
set_option linter.unnecessarySimpa false
namespace Go.Proofs.YtjifnmilimdfdaaGreatDoor.Ab
open Go Go.RowKit

section
variable {P : Program} {N : Nat → Prop} {ρ : Rho} {ro : Nat} {st : St} {W w : World}
theorem fieldAt_spec {s f : Nat} {t o : Nat} (h : fieldAt P s f = some (t, o)) : ∃ fs x, P.underlying s = some (.struct fs) ∧ fs[f]? = some x ∧ x.type = t ∧ x.offset = o := by
  unfold fieldAt at h
  split at h
  · rename_i fs hfs
    split at h
    · rename_i x hx
      cases h
      exact ⟨fs, x, hfs, by simpa using hx, rfl, rfl⟩
    · cases h
  · cases h
theorem fieldAddr_run {s f id off o : Nat} {v : Value} (hv : VR ρ (.ptr id off) v) (h : fieldOff P s f = some o) (w : World) : ∃ q, (Instr.fieldAt s v f).run P w = .ok q w ∧ VR ρ (.ptr id (Nat.add off o)) q := by
  cases hv with | ptr _ _ L hL =>
  unfold fieldOff at h
  split at h
  · rename_i t o' hf
    split at h
    · rename_i n hn
      cases h
      obtain ⟨fs, x, h1, h2, rfl, rfl⟩ := fieldAt_spec hf
      refine ⟨_, ?_, .ptr id (off + x.offset) L hL⟩
      simp [Instr.fieldAt, run_underlying h1, h2, Instr.sureAddr, fieldPlace, run_size hn, addr_add, Nat.add_assoc]
    · cases h
  · cases h
theorem field_run {s f t o : Nat} {cs : List AV} {v : Value} {r : AV} (hv : VR ρ (.agg cs) v) (hf : fieldAt P s f = some (t, o)) (h : Ab.part P t cs o = .ok r) (w : World) : ∃ q, (Instr.field s v f).run P w = .ok q w ∧ VR ρ r q := by
  cases hv with | agg _ c hc =>
  obtain ⟨fs, x, h1, h2, rfl, rfl⟩ := fieldAt_spec hf
  obtain ⟨q, h3, h4⟩ := part_run hc h w
  exact ⟨q, by simp [Instr.field, run_underlying h1, h2, asAgg, h3], h4⟩
theorem indexAddr_run {t : Nat} {x i r : AV} {v u : Value} (hv : VR ρ x v) (hu : VR ρ i u) (h : indexAddrA P t x i = .ok r) (w : World) : ∃ q, (Instr.indexAt t v u).run P w = .ok q w ∧ VR ρ r q := by
  unfold indexAddrA at h
  split at h
  · cases h
  rename_i n hn
  obtain ⟨k, rfl⟩ := natOf_spec hn hu
  split at h
  · rename_i len e hty
    split at h
    · rename_i size id off hsz
      cases hv with | ptr _ _ L hL =>
      split at h
      · rename_i hb
        cases h
        have hb' := blt_true hb
        refine ⟨_, ?_, .ptr id (off + n * size) L hL⟩
        have h1 : (0 : Int) ≤ (n : Int) ∧ (n : Int) < (len : Int) := by omega
        simp [Instr.indexAt, run_asIntOf, run_underlying hty, Instr.sureAddr, run_size hsz, addr_add, Nat.add_assoc, hb']
      · cases h
    · cases h
  · rename_i e hty
    split at h
    · rename_i size id off len cap hsz
      cases hv with | sl _ _ _ _ L c o hL hc hle =>
      split at h
      · rename_i hb
        cases h
        have hb' := blt_true hb
        have ho : o = L.base + off := by
          cases cap with
          | k m => exact hc.2
          | g m => rcases hc.2 with h0 | h0
                   · omega
                   · exact h0
        subst ho
        refine ⟨_, ?_, .ptr id (off + n * size) L hL⟩
        simp [Instr.indexAt, run_asIntOf, run_underlying hty, run_size hsz, addr_add, Nat.add_assoc, hb']
      · cases h
    · cases h
  · cases h
theorem index_run {t : Nat} {x i r : AV} {v u : Value} (hv : VR ρ x v) (hu : VR ρ i u) (h : indexA P t x i = .ok r) (w : World) : ∃ q, (Instr.index t v u).run P w = .ok q w ∧ VR ρ r q := by
  unfold indexA at h
  split at h
  · cases h
  rename_i n hn
  obtain ⟨k, rfl⟩ := natOf_spec hn hu
  split at h
  · rename_i len e cs hty
    cases hv with | agg _ c hc =>
    split at h
    · rename_i size hsz hb
      have hb' := blt_true hb
      obtain ⟨q, h3, h4⟩ := part_run hc h w
      refine ⟨q, ?_, h4⟩
      have h3' : (Go.part e c (n * size)).run P w = .ok q w := h3
      simp [Instr.index, run_asIntOf, run_underlying hty, run_size hsz, hb', h3']
    · cases h
  · rename_i s hty
    cases hv
    split at h
    · rename_i b hb
      cases h
      refine ⟨_, ?_, .int _ _⟩
      have hlt := (List.getElem?_eq_some_iff.1 hb).1
      have hlt' : n < (⟨⟨s⟩⟩ : ByteArray).size := hlt
      have hget : (⟨⟨s⟩⟩ : ByteArray)[n]? = some b := by
        rw [getElem?_pos (⟨⟨s⟩⟩ : ByteArray) n hlt']
        congr 1
        exact (List.getElem?_eq_some_iff.1 hb).2
      simp [Instr.index, run_asIntOf, run_underlying hty, hget]
    · cases h
  · cases h
theorem extract_run {r : AV} {v : Value} {i : Nat} {vs : List AV} (hv : VR ρ (.tup vs) v) (h : vs[i]? = some r) (w : World) : ∃ q, (Instr.extract v i).run P w = .ok q w ∧ VR ρ r q := by
  cases hv with | tup _ c hc =>
  obtain ⟨q, h1, h2⟩ := hc.get h
  have h1' : c[i]? = some q := by simpa using h1
  exact ⟨q, by simp [Instr.extract, h1'], h2⟩
theorem withOk_run {ok : Bool} {a : AV} {u : Value} (ha : VR ρ a u) (w : World) : ∃ q, (pure (if ok = true then .tuple #[u, .bool true] else u) : Sem Value).run P w = .ok q w ∧ VR ρ (withOk ok a) q := by
  cases ok
  · exact ⟨_, rfl, ha⟩
  · exact ⟨_, rfl, .tup _ _ (.cons _ _ _ _ ha (.cons _ _ _ _ (.bool _) .nil))⟩
theorem assertNo_run {ok : Bool} {t : TypeId} {r : AV} (s d : Option TypeId) (m : String) (h : assertNo P t ok = .ok r) (w : World) :
    ∃ q, (if ok = true then (do pure (.tuple #[← zeroValue t, .bool false])) else runtimePanic (.typeAssertion s d t m) : Sem Value).run P w = .ok q w ∧ VR ρ r q := by
  unfold assertNo at h
  cases ok
  · cases h
  · simp only at h
    split at h
    · rename_i z hz
      cases h
      obtain ⟨zv, h1, h2⟩ := run_zero (ρ := ρ) hz w
      exact ⟨_, by simp [h1], .tup _ _ (.cons _ _ _ _ h2 (.cons _ _ _ _ (.bool _) .nil))⟩
    · cases h
theorem assert_run {x r : AV} {v : Value} {xt t : TypeId} {ok : Bool} (hv : VR ρ x v) (h : assertA P x t ok = .ok r) (w : World) : ∃ q, (Instr.typeAssert v xt t ok).run P w = .ok q w ∧ VR ρ r q := by
  unfold assertA at h
  split at h
  · cases hv
    split at h
    · rename_i d hty
      simp only [Instr.typeAssert, Sem.run_bind, run_underlying hty, Result.andThen_ok]
      cases d
      case interface ms => exact assertNo_run none none "" h w
      all_goals exact assertNo_run (some xt) none "" h w
    · cases h
  · rename_i d y
    cases hv with | iface _ _ u hu =>
    split at h
    · rename_i want hty
      simp only [Instr.typeAssert, Sem.run_bind, run_underlying hty, Result.andThen_ok]
      split at h
      · rename_i i hi
        simp only [typeInfo, Sem.run_bind, run_program, Result.andThen_ok, hi, Sem.run_pure]
        split at h
        · rename_i hm
          cases h
          simp only [hm]
          exact withOk_run (VR.iface d y u hu) w
        · rename_i m hm
          simp only [hm]
          exact assertNo_run none (some d) m h w
      · cases h
    · rename_i dd hn hty
      simp only [Instr.typeAssert, Sem.run_bind, run_underlying hty, Result.andThen_ok]
      have key : ∃ q, (if d = t then (pure (if ok = true then .tuple #[u, .bool true] else u) : Sem Value) else (if ok = true then (do pure (.tuple #[← zeroValue t, .bool false])) else runtimePanic (.typeAssertion (some xt) (some d) t "")) : Sem Value).run P w = .ok q w ∧ VR ρ r q := by
        split at h
        · rename_i e
          cases h
          rw [if_pos (beq_true e)]
          exact withOk_run hu w
        · rename_i e
          rw [if_neg (beq_false e)]
          exact assertNo_run (some xt) (some d) "" h w
      cases dd
      case interface ms => exact absurd rfl (hn ms)
      all_goals exact key
    · cases h
  · cases h
/- MAPS. -/
theorem checkKey_fields {n : Nat} {cs : List AV} {c : Array Value} (hc : VRs ρ cs c.toList) (e : Bool) (d : Nat) (w : World) (hf : ∀ t a v, VR ρ a v → checkA P n t a = true → (Instr.checkKey e d t v).run P w = .ok () w) :
    ∀ (fs : List Field), checkFields (checkA P n) P cs (eqFields fs) = true →
      (forIn fs PUnit.unit (fun f (_ : PUnit) => if f.name ≠ "_" then (do Instr.checkKey e d f.type (← Go.part f.type c f.offset); pure (ForInStep.yield PUnit.unit)) else pure (ForInStep.yield PUnit.unit)) : Sem PUnit).run P w = .ok PUnit.unit w
  | [], _ => rfl
  | x :: r, h => by
    unfold Ab.eqFields at h
    by_cases hn : x.name ≠ "_"
    · rw [if_pos hn] at h
      simp only [checkFields] at h
      split at h
      · rename_i a ha
        obtain ⟨h1, h2⟩ := Bool.and_eq_true_iff.1 h
        obtain ⟨v, hv, hR⟩ := part_run hc ha w
        have := hf _ _ _ hR h1
        simp only [List.forIn_cons, Sem.run_bind, if_pos hn, hv, this, Result.andThen_ok, Sem.run_pure]
        exact checkKey_fields hc e d w hf r h2
      · cases h
    · rw [if_neg hn] at h
      simp only [List.forIn_cons, Sem.run_bind, if_neg hn, Sem.run_pure, Result.andThen_ok]
      exact checkKey_fields hc e d w hf r h
theorem checkA_run : ∀ (n d : Nat), n ≤ d → ∀ {t : TypeId} {a : AV} {v : Value} (e : Bool) (w : World), VR ρ a v → checkA P n t a = true → (Instr.checkKey e d t v).run P w = .ok () w := by
  intro n
  induction n with
  | zero => intro d _ t a v e w _ h; cases h
  | succ n ih =>
    intro d hd t a v e w hv h
    obtain ⟨d, rfl⟩ : ∃ k, d = k + 1 := ⟨d - 1, by omega⟩
    simp only [checkA] at h
    split at h
    · cases h
    rename_i ty hty
    split at h
    · cases hv; split at h <;> cases h
      simp [Instr.checkKey, run_underlying hty]
    · cases hv; split at h <;> cases h
      simp [Instr.checkKey, run_underlying hty]
    · cases hv; split at h <;> cases h
      simp [Instr.checkKey, run_underlying hty]
    · cases hv with | agg _ c hc =>
      split at h
      · rename_i fs
        have := checkKey_fields hc e d w (fun t a v ha hb => ih d (by omega) e w ha hb) _ h
        simp only [Instr.checkKey, Sem.run_bind, run_underlying hty, Result.andThen_ok]
        rw [← Array.forIn_toList, this]
        rfl
      · cases h
    · cases h
theorem sameNow_run {t : TypeId} {d : TypeDesc} {a b : Value} {q : Bool} (ht : P.underlying t = some d) (h : Instr.sameNow d a b = some q) (n : Nat) (w : World) : (Op.equalIn (n + 1) t a b).run P w = .ok q w := by
  unfold Instr.sameNow at h
  split at h
  · split at h
    · rename_i e; cases h; subst e
      simp [Op.equalIn, run_underlying ht]
    · cases h
  · cases h; simp [Op.equalIn, run_underlying ht]
  · cases h; simp [Op.equalIn, run_underlying ht]
  · cases h
theorem findNow_asking {t : TypeId} {d : TypeDesc} {k : Value} (ht : P.underlying t = some d) (w : World) : ∀ {m : List MapEntry} {i : Nat} {r : Option (Nat × Value)}, Instr.findNow d k m i = some r → (Instr.findAsking t k m i).run P w = .ok r w
  | [], i, r, h => by cases h; rfl
  | e :: es, i, r, h => by
    simp only [Instr.findNow] at h
    have hq := fun q (hs : Instr.sameNow d k e.key = some q) => sameNow_run (P := P) ht hs 9999 w
    simp only [Instr.findAsking, Sem.run_bind]
    split at h
    · rename_i hs
      cases h
      have h2 : (Op.equal t k e.key).run P w = .ok true w := hq _ hs
      rw [h2]; rfl
    · rename_i hs
      have h2 : (Op.equal t k e.key).run P w = .ok false w := hq _ hs
      rw [h2]
      exact findNow_asking ht w h
    · cases h
theorem findKey_of {t : TypeId} {d : TypeDesc} {k : Value} (ht : P.underlying t = some d) {m : List MapEntry} {r : Option (Nat × Value)} {w : World} (h : (Instr.findAsking t k m).run P w = .ok r w) : (Instr.findKey t k m).run P w = .ok r w := by
  simp only [Instr.findKey, Sem.run_bind, run_underlying ht, Result.andThen_ok]
  split
  · rename_i r' hr'
    have := findNow_asking (P := P) ht w hr'
    rw [this] at h
    cases h; rfl
  · exact h
def FoundR (ρ : Rho) (m : List MapEntry) (i : Nat) (r : Option (Nat × AV × AV)) (r' : Option (Nat × Value)) : Prop := match r with
  | none => r' = none
  | some p => ∃ me, r' = some (p.1, me.val) ∧ i ≤ p.1 ∧ m[p.1 - i]? = some me ∧ VR ρ p.2.1 me.key ∧ VR ρ p.2.2 me.val
theorem findA_run (h : MR N ρ ro st W w) {t : TypeId} {k : AV} {kv : Value} (hk : VR ρ k kv) : ∀ {es : List (AV × AV)} {m : List MapEntry} {i : Nat} {r : Option (Nat × AV × AV)}, ERs ρ es m → findA P st t k es i = .ok r →
    ∃ r', (Instr.findAsking t kv m i).run P w = .ok r' w ∧ FoundR ρ m i r r'
  | [], m, i, r, he, hr => by
    cases hr
    obtain ⟨h1, _⟩ := he
    have : m = [] := by
      have := h1.length; simpa using this
    subst this
    exact ⟨none, rfl, rfl⟩
  | e :: es, [], i, r, he, hr => by
    obtain ⟨h1, _⟩ := he
    have := h1.length; simp at this
  | e :: es, me :: m, i, r, he, hr => by
    obtain ⟨h1, h2⟩ := he
    cases h1 with | cons _ _ _ _ hk1 h1 => cases h2 with | cons _ _ _ _ hv1 h2 =>
    simp only [findA] at hr
    obtain ⟨q, hq, hr⟩ := Rs.bind_ok hr
    have hq' : (Op.equal t kv me.key).run P w = .ok q w := eqA_run h 20 10000 (by omega) hk hk1 hq
    simp only [Instr.findAsking, Sem.run_bind, hq', Result.andThen_ok]
    cases q with
    | true =>
      cases hr
      exact ⟨_, rfl, me, rfl, Nat.le_refl _, (by simp), hk1, hv1⟩
    | false =>
      obtain ⟨r', h3, h4⟩ := findA_run h hk (i := i + 1) ⟨h1, h2⟩ hr
      refine ⟨r', h3, ?_⟩
      cases r with
      | none => exact h4
      | some p =>
        obtain ⟨x, a, b, c, d⟩ := h4
        refine ⟨x, a, by omega, ?_, d⟩
        rw [show p.1 - i = (p.1 - (i + 1)) + 1 from by omega]
        simpa using c
theorem mapKV_spec {t k v : TypeId} (h : mapKV P t = some (k, v)) : P.underlying t = some (.map k v) := by
  unfold mapKV at h
  split at h
  · rename_i hu; cases h; exact hu
  · cases h
theorem run_getObj {b : Nat} {o : Obj} (hb : w.heap[b]? = some o) (hc : ∀ c e f, o ≠ .cells c e f) : (getObj b).run P w = .ok o w := by
  unfold getObj Sem.run
  rw [hb]
  cases o <;> first | rfl | exact absurd rfl (hc _ _ _)
/- A map of which the order is not known. -/
theorem absentK_spec {n : Int} : ∀ {es : List (AV × AV)}, absentK n es = true → ∀ e ∈ es, ∀ k, e.1 ≠ .int k n
  | [], _, e, he, _ => by cases he
  | x :: r, h, e, he, k => by
    unfold absentK at h
    split at h
    · rename_i k' m hx
      split at h
      · cases h
      · rename_i hne
        have hne := of_decide_eq_false hne
        rcases List.mem_cons.1 he with rfl | he
        · rw [hx]; intro e; cases e; exact hne rfl
        · exact absentK_spec h e he k
    · cases h
theorem distinctK_cons {kk : IntKind} {x : AV × AV} {r : List (AV × AV)} (h : distinctK kk (x :: r) = true) : ∃ n, x.1 = .int kk n ∧ absentK n r = true ∧ distinctK kk r = true := by
  unfold distinctK at h
  split at h
  · rename_i k n hx
    split at h
    · rename_i hc
      simp only [Bool.and_eq_true, decide_eq_true_eq] at hc
      obtain ⟨rfl, hc⟩ := hc
      exact ⟨n, hx, hc, h⟩
    · cases h
  · cases h
theorem distinctK_all {kk : IntKind} : ∀ {es : List (AV × AV)}, distinctK kk es = true → ∀ e ∈ es, ∃ n, e.1 = .int kk n
  | [], _, e, he => by cases he
  | x :: r, h, e, he => by
    obtain ⟨n, h1, _, h3⟩ := distinctK_cons h
    rcases List.mem_cons.1 he with rfl | he
    · exact ⟨n, h1⟩
    · exact distinctK_all h3 e he
theorem findK_mem {kk : IntKind} {n : Int} {v : AV} : ∀ {es : List (AV × AV)}, distinctK kk es = true → (.int kk n, v) ∈ es → findK n es = some v
  | [], _, he => by cases he
  | x :: r, h, he => by
    obtain ⟨m, h1, h2, h3⟩ := distinctK_cons h
    unfold findK
    rw [h1]
    simp only
    rcases List.mem_cons.1 he with rfl | he
    · cases h1
      rw [show decide (n = n) = true from decide_eq_true rfl]
    · have hne : n ≠ m := fun e => absentK_spec h2 _ he kk (by rw [e])
      rw [show decide (n = m) = false from decide_eq_false hne]
      exact findK_mem h3 he
theorem findK_of {kk : IntKind} {n : Int} {v : AV} : ∀ {l : List (AV × AV)}, (∀ e ∈ l, ∃ n, e.1 = .int kk n) → findK n l = some v → (.int kk n, v) ∈ l
  | [], _, h => by cases h
  | x :: r, ha, h => by
    obtain ⟨m, hm⟩ := ha x (List.mem_cons_self ..)
    unfold findK at h
    rw [hm] at h
    simp only at h
    split at h
    · rename_i he
      have he := of_decide_eq_true he
      cases h
      subst he
      obtain ⟨x1, x2⟩ := x
      cases hm
      exact .head _
    · exact .tail _ (findK_of (fun e he => ha e (List.mem_cons_of_mem _ he)) h)
theorem findNow_ints {kk : IntKind} {d : IntKind} {n : Int} : ∀ {l : List (AV × AV)} {m : List MapEntry} {i : Nat}, (∀ e ∈ l, ∃ n, e.1 = .int kk n) → ERs ρ l m →
    (∀ v, findK n l = some v → ∃ j q, Instr.findNow (.int d) (.int kk n) m i = some (some (j, q)) ∧ VR ρ v q) ∧ (findK n l = none → Instr.findNow (.int d) (.int kk n) m i = some none)
  | [], m, i, _, he => by
    obtain ⟨h1, _⟩ := he
    have hm : m = [] := by have := h1.length; simpa using this
    rw [hm]
    exact ⟨fun v h => (by cases h), fun _ => rfl⟩
  | e :: es, [], i, _, he => by
    obtain ⟨h1, _⟩ := he
    have := h1.length; simp at this
  | e :: es, me :: m, i, ha, he => by
    obtain ⟨h1, h2⟩ := he
    cases h1 with | cons _ _ _ _ hk1 h1 => cases h2 with | cons _ _ _ _ hv1 h2 =>
    obtain ⟨x, hx⟩ := ha e (List.mem_cons_self ..)
    have hk1 : VR ρ e.1 me.key := hk1
    rw [hx] at hk1
    obtain ⟨ih1, ih2⟩ := findNow_ints (d := d) (n := n) (i := i + 1) (fun y hy => ha y (List.mem_cons_of_mem _ hy)) ⟨h1, h2⟩
    have hkey : me.key = .int kk x := by
      generalize me.key = q at hk1
      cases hk1; rfl
    simp only [findK, hx, Instr.findNow, hkey, Instr.sameNow, if_true]
    by_cases e1 : n = x
    · subst e1
      simp only [decide_true, beq_self_eq_true]
      exact ⟨fun v h => by cases h; exact ⟨i, me.val, rfl, hv1⟩, fun h => by cases h⟩
    · have e2 : (n == x) = false := beq_eq_false_iff_ne.2 e1
      simp only [decide_eq_false e1, e2]
      exact ⟨ih1, ih2⟩
theorem notin_findK {kk : IntKind} {n : Int} {v : AV} : ∀ {l : List (AV × AV)}, (∀ e ∈ l, ∃ n, e.1 = .int kk n) → findK n l = none → (.int kk n, v) ∉ l
  | [], _, _, hm => by cases hm
  | x :: l, ha, h, hm => by
    obtain ⟨m, hx⟩ := ha x (List.mem_cons_self ..)
    unfold findK at h
    rw [hx] at h
    simp only at h
    split at h
    · cases h
    · rename_i hne
      rcases List.mem_cons.1 hm with rfl | hm'
      · cases hx
        exact of_decide_eq_false hne rfl
      · exact notin_findK (fun e he => ha e (List.mem_cons_of_mem _ he)) h hm'
theorem msetOf_spec (h : MR N ρ ro st W w) {m : AV} {es : List (AV × AV)} {mv : Value} (hm : VR ρ m mv) (hs : msetOf st m = some es) : ∃ b arr clock l, mv = .map (some b) ∧ w.heap[b]? = some (.map arr clock) ∧ l.Perm es ∧ ERs ρ l arr.toList := by
  unfold msetOf at hs
  split at hs
  · split at hs
    · rename_i id es' hg
      cases hs
      cases hm with | map _ L hL =>
      obtain ⟨o, ho, arr, clock, l, rfl, h1, h2, _⟩ := h.obs _ L _ hL hg
      exact ⟨L.b, arr, clock, l, rfl, ho, h1, h2⟩
    · cases hs
  · cases hs
theorem zeroOr_spec {vt : TypeId} {ok : Bool} {r : AV} (h : zeroOr P vt ok = .ok r) (w : World) : ∃ z q, (zeroValue vt).run P w = .ok z w ∧ VR ρ r q ∧ q = if ok = true then .tuple #[z, .bool false] else z := by
  unfold zeroOr at h
  split at h
  · rename_i z hz
    obtain ⟨zv, h5, h6⟩ := run_zero (ρ := ρ) hz w
    cases h
    cases ok
    · exact ⟨zv, zv, h5, h6, rfl⟩
    · exact ⟨zv, _, h5, .tup _ _ (.cons _ _ _ _ h6 (.cons _ _ _ _ (.bool _) .nil)), rfl⟩
  · cases h
theorem lookM_run {t kt vt : TypeId} {es l : List (AV × AV)} {k r : AV} {kv : Value} {ok : Bool} {b : Nat} {arr : Array MapEntry} {clock : Nat} (ht : P.underlying t = some (.map kt vt)) (hck : checkA P 20 kt k = true) (hb : w.heap[b]? = some (.map arr clock)) (hp : l.Perm es) (he : ERs ρ l arr.toList) (hk : VR ρ k kv) (hr : lookM P kt vt es k ok = .ok r) :
    ∃ q, (Instr.lookup t (.map (some b)) kv ok).run P w = .ok q w ∧ VR ρ r q := by
  have h4 := checkA_run (P := P) 20 10000 (by omega) arr.isEmpty w hk hck
  unfold lookM at hr
  split at hr
  case h_2 => cases hr
  rename_i kk n
  split at hr
  case h_2 => cases hr
  rename_i d hd
  split at hr
  case h_2 => cases hr
  rename_i hdis
  cases hk
  have hgo := run_getObj (P := P) hb (by intro c e f hh; cases hh)
  have hall := distinctK_all hdis
  have halll : ∀ e ∈ l, ∃ n, e.1 = .int kk n := fun e hx => hall e (hp.mem_iff.1 hx)
  obtain ⟨f1, f2⟩ := findNow_ints (ρ := ρ) (d := d) (n := n) (i := 0) halll he
  have hfk : ∀ x, Instr.findNow (.int d) (.int kk n) arr.toList 0 = some x → (Instr.findKey kt (.int kk n) arr.toList).run P w = .ok x w := by
    intro x hx
    simp only [Instr.findKey, Sem.run_bind, run_underlying hd, Result.andThen_ok, hx, Sem.run_pure]
  simp only [Instr.lookup, Sem.run_bind, run_underlying ht, Result.andThen_ok, hgo, Sem.run_pure, h4]
  cases hfl : findK n l with
  | some v =>
    obtain ⟨j, q, h5, h6⟩ := f1 v hfl
    have hes : findK n es = some v := findK_mem hdis (hp.mem_iff.1 (findK_of halll hfl))
    rw [hes] at hr
    cases hr
    rw [hfk _ h5]
    cases ok
    · exact ⟨q, rfl, h6⟩
    · exact ⟨_, rfl, .tup _ _ (.cons _ _ _ _ h6 (.cons _ _ _ _ (.bool _) .nil))⟩
  | none =>
    have h5 := f2 hfl
    have hes : findK n es = none := by
      cases hx : findK n es with
      | none => rfl
      | some v =>
        have hm := findK_of hall hx
        exact absurd (hp.mem_iff.2 hm) (notin_findK halll hfl)
    rw [hes] at hr
    obtain ⟨z, q, h6, h7, rfl⟩ := zeroOr_spec (ρ := ρ) hr w
    rw [hfk _ h5]
    refine ⟨_, ?_, h7⟩
    simp only [Result.andThen_ok, Sem.run_bind, h6, Sem.run_pure]
theorem lookup_run (h : MR N ρ ro st W w) {t : TypeId} {m k r : AV} {mv kv : Value} {ok : Bool} (hm : VR ρ m mv) (hk : VR ρ k kv) (hr : lookupA P st t m k ok = .ok r) : ∃ q, (Instr.lookup t mv kv ok).run P w = .ok q w ∧ VR ρ r q := by
  unfold lookupA at hr
  split at hr
  · cases hr
  rename_i kt vt ht
  have ht' := mapKV_spec ht
  split at hr
  · cases hr
  rename_i hck
  split at hr
  · rename_i es hs
    obtain ⟨b, arr, clock, l, rfl, hb, hp, he⟩ := msetOf_spec h hm hs
    exact lookM_run ht' hck hb hp he hk hr
  obtain ⟨es, hes, hr⟩ := Rs.bind_ok hr
  obtain ⟨f, hf, hr⟩ := Rs.bind_ok hr
  have fin : ∀ (arr : Array MapEntry), ERs ρ es arr.toList → (Instr.checkKey arr.isEmpty 10000 kt kv).run P w = .ok () w ∧ ∃ r' q, (Instr.findKey kt kv arr.toList).run P w = .ok r' w ∧ VR ρ r q ∧
      ((∃ i v, r' = some (i, v) ∧ q = if ok = true then .tuple #[v, .bool true] else v) ∨ (r' = none ∧ ∃ z, (zeroValue vt).run P w = .ok z w ∧ q = if ok = true then .tuple #[z, .bool false] else z)) := by
    intro arr harr
    obtain ⟨r', h1, h2⟩ := findA_run h hk harr hf
    have hkey : ∃ d, P.underlying kt = some d := by
      cases hd : P.underlying kt with
      | none => simp [checkA, hd] at hck
      | some d => exact ⟨d, rfl⟩
    obtain ⟨d, hd⟩ := hkey
    have h3 := findKey_of hd h1
    have h4 := checkA_run (P := P) 20 10000 (by omega) arr.isEmpty w hk hck
    refine ⟨h4, r', ?_⟩
    cases f with
    | none =>
      have : r' = none := h2
      subst this
      simp only at hr
      split at hr
      · rename_i z hz
        obtain ⟨zv, h5, h6⟩ := run_zero (ρ := ρ) hz w
        cases hr
        cases ok
        · exact ⟨zv, h3, h6, .inr ⟨rfl, zv, h5, rfl⟩⟩
        · exact ⟨_, h3, .tup _ _ (.cons _ _ _ _ h6 (.cons _ _ _ _ (.bool _) .nil)), .inr ⟨rfl, zv, h5, rfl⟩⟩
      · cases hr
    | some p =>
      obtain ⟨me, rfl, _, _, _, hv⟩ := h2
      cases hr
      cases ok
      · exact ⟨me.val, h3, hv, .inl ⟨_, _, rfl, rfl⟩⟩
      · exact ⟨_, h3, .tup _ _ (.cons _ _ _ _ hv (.cons _ _ _ _ (.bool _) .nil)), .inl ⟨_, _, rfl, rfl⟩⟩
  unfold St.entries at hes
  split at hes
  · cases hes
    cases hm
    obtain ⟨h0, r', q, h1, h2, h3⟩ := fin #[] ⟨.nil, .nil⟩
    refine ⟨q, ?_, h2⟩
    simp only [Instr.lookup, Sem.run_bind, run_underlying ht', Result.andThen_ok, Sem.run_pure]
    rw [h0]
    simp only [Result.andThen_ok]
    rw [h1]
    rcases h3 with ⟨i, v, rfl, rfl⟩ | ⟨rfl, z, hz, rfl⟩
    · rfl
    · simp [hz]
  · cases hm
    split at hes
    · rename_i L hL _ pr es' hg
      cases hes
      obtain ⟨o, ho, arr, clock, rfl, harr, _⟩ := h.obs _ L _ hL hg
      obtain ⟨h0, r', q, h1, h2, h3⟩ := fin arr harr
      refine ⟨q, ?_, h2⟩
      have hgo := run_getObj (P := P) ho (by intro c e f hh; cases hh)
      simp only [Instr.lookup, Sem.run_bind, run_underlying ht', Result.andThen_ok, hgo, Sem.run_pure]
      rw [h0]
      simp only [Result.andThen_ok]
      rw [h1]
      rcases h3 with ⟨i, v, rfl, rfl⟩ | ⟨rfl, z, hz, rfl⟩
      · rfl
      · simp [hz]
    · cases hes
  · cases hes
end
end Go.Proofs.YtjifnmilimdfdaaGreatDoor.Ab
/- Conversions, builtins; all that write nothing and make nothing. -/
set_option linter.unusedVariables false
set_option linter.unusedSimpArgs false
set_option linter.unnecessarySimpa false
namespace Go.Proofs.YtjifnmilimdfdaaGreatDoor.Ab
open Go Go.RowKit

section
variable {P : Program} {N : Nat → Prop} {ρ : Rho} {ro : Nat} {st : St} {W w : World}
theorem MR.cellLt (h : MR N ρ ro st W w) {id off : Nat} {L : Loc} (hL : ρ id = some L) {a : AV} (hc : st.cell id off = .ok a) : ∃ c e f, w.heap[L.b]? = some (.cells c e f) ∧ L.base + off < c.size := by
  unfold St.cell at hc
  split at hc
  · rename_i cs n e fz cl rel hr
    obtain ⟨c, lo, hi, hb, _, _, hcs, _⟩ := h.row hL hr
    obtain ⟨_, v, hv, _⟩ := hcs off a (Rs.of_ok hc)
    have : L.base + off < c.size := by
      rcases Nat.lt_or_ge (L.base + off) c.size with h' | h'
      · exact h'
      · rw [Array.getElem?_eq_none h'] at hv; cases hv
    exact ⟨c, e, (lo, hi), hb, this⟩
  · cases hc
theorem run_seenAt {b : Nat} {c : Array Value} {e : TypeId} {f : Nat × Nat} (hb : w.heap[b]? = some (.cells c e f)) (o : Nat) : (Conv.seenAt ⟨b, o, none⟩).run P w = .ok ⟨b, o, none⟩ w := by
  have h3 : w.shape? b = some (e, c.size) := by simp [World.shape?, hb]
  simp [Conv.seenAt, viewAt, h3]
theorem info_size {t n : Nat} (h : tySize P t = some n) : P.cellsOf t = n := by
  unfold tySize at h
  split at h
  · rename_i i hi; cases h; simp [Program.cellsOf, hi]
  · cases h
theorem liesAt_whole {u n cells : Nat} (hs : P.cellsOf u = n + 1) (hc : n + 1 ≤ cells) : liesAt P P.depth u (cells / P.cellsOf u) 0 u 1 = true := by
  obtain ⟨d, hd⟩ : ∃ d, P.depth = d + 1 := ⟨2 * (P.types.size + Made.depth) + 1, rfl⟩
  rw [hd]
  simp only [liesAt]
  have h1 : rowAt P (fun x => sameLayout P P.depth x u) P.depth u (cells / P.cellsOf u) 0 1 = true := by
    rw [hd]
    simp only [rowAt]
    have h2 : 1 ≤ cells / (n + 1) := by
      rw [Nat.le_div_iff_mul_le (by omega)]; omega
    simp [hs, h2, sameLayout]
  rw [h1]; rfl
theorem conv_run (h : MR N ρ ro st W w) {s d : TypeId} {x r : AV} {v : Value} (hv : VR ρ x v) (hr : convA P st s d x = .ok r) : ∃ q, (Go.convert s d v).run P w = .ok q w ∧ VR ρ r q := by
  unfold convA at hr
  split at hr
  · cases hv with | ptr _ _ L hL =>
    split at hr
    · rename_i t h1 h2
      split at hr
      · rename_i n a hn hc
        cases hr
        obtain ⟨c, e, f, hb, hlt⟩ := h.cellLt hL hc
        refine ⟨_, ?_, .ptr _ _ L hL⟩
        have h3 : w.shape? L.b = some (e, c.size) := by simp [World.shape?, hb]
        have h4 := run_seenAt (P := P) hb
        simp only [Go.convert, Sem.run_bind, run_underlying h1, run_underlying h2, Result.andThen_ok, Conv.unsafePointer]
        simp [h4, cellsIn, h3, run_size hn, Nat.not_le.2 hlt]
      · cases hr
    · rename_i u h1 h2
      split at hr
      · rename_i hw
        cases hr
        unfold St.wholeAt at hw
        split at hw
        · rename_i cs n e fz cl rel k hg hk
          split at hw
          · rename_i c0 e1 e3 e4
            have he := beq_true e1
            subst he
            have hn := ble_true e3
            obtain ⟨c, lo, hi, hb, hsz, h0, hcs, _⟩ := h.row hL hg
            have hb0 := h0 rfl
            obtain ⟨_, v0, hv0, _⟩ := hcs k c0 e4
            have hlt : k < c.size := by
              rw [hb0] at hv0
              rcases Nat.lt_or_ge k c.size with h' | h'
              · exact h'
              · rw [Array.getElem?_eq_none (by omega)] at hv0; cases hv0
            refine ⟨_, ?_, .ptr _ 0 L hL⟩
            have h3 : w.shape? L.b = some (e, c.size) := by simp [World.shape?, hb]
            have h4 := run_seenAt (P := P) hb 0
            have h5 := liesAt_whole (info_size hk) (show k + 1 ≤ c.size from hlt)
            rw [hb0]
            simp only [Go.convert, Sem.run_bind, run_underlying h1, run_underlying h2, Result.andThen_ok, Conv.unsafePointer, Nat.zero_add]
            simp [h4, variablesAt, h3, run_size hk, h5]
          · cases hw
        · cases hw
      · cases hr
    · cases hr
  · cases hv; exact scal_run hr w
  · cases hv; exact scal_run hr w
  · cases hv
    split at hr
    · rename_i h1 h2
      cases hr
      refine ⟨_, ?_, .str _⟩
      simp [Go.convert, run_underlying h1, run_underlying h2]
    · cases hr
  · cases hv
    split at hr
    · rename_i h1 h2
      cases hr
      refine ⟨_, ?_, .sx _⟩
      simp [Go.convert, run_underlying h1, run_underlying h2]
    · cases hr
  · cases hv
    split at hr
    · rename_i e _ _ _ k h1 h2
      cases hr
      refine ⟨.int k (k.wrap (e.den ρ.sg).int), ?_, .ix k (.conv k e)⟩
      simp [Go.convert, run_underlying h1, run_underlying h2, Conv.intToInt]
    · cases hr
  · cases hr
theorem len_run (h : MR N ρ ro st W w) {t : TypeId} {x r : AV} {v : Value} {ts : Array TypeId} {ty : TypeId} {rest : List TypeId} (hts : ts.toList = t :: rest) (hv : VR ρ x v) (hr : lenA P st t x = .ok r) :
    ∃ q, (Builtin.len_ ts ty #[v]).run P w = .ok q w ∧ VR ρ r q := by
  have ht : ts[0]? = some t := by
    have : ts.toList[0]? = some t := by rw [hts]; rfl
    simpa using this
  unfold lenA at hr
  split at hr
  · rename_i s hty; cases hr; cases hv
    exact ⟨_, by simp [Builtin.len_, ht, run_underlying hty]; rfl, .int _ _⟩
  · rename_i e hty; cases hr; cases hv
    exact ⟨.int .i64 (Int.ofNat (e.den ρ.sg).str.length), by simp [Builtin.len_, ht, run_underlying hty]; rfl, .ix .i64 (.len e)⟩
  · rename_i n e hty; cases hr
    exact ⟨_, by simp [Builtin.len_, ht, run_underlying hty]; rfl, .int _ _⟩
  · rename_i e id off n c hty; cases hr; cases hv
    exact ⟨_, by simp [Builtin.len_, ht, run_underlying hty]; rfl, .int _ _⟩
  · rename_i e hty; cases hr; cases hv
    exact ⟨_, by simp [Builtin.len_, ht, run_underlying hty]; rfl, .int _ _⟩
  · rename_i k e hty; cases hr; cases hv
    exact ⟨_, by simp [Builtin.len_, ht, run_underlying hty]; rfl, .int _ _⟩
  · rename_i k e id hty; cases hv with | map _ L hL =>
    split at hr
    · rename_i es hg
      cases hr
      obtain ⟨o, ho, arr, clock, rfl, harr, _⟩ := h.obs _ L _ hL hg
      have hgo := run_getObj (P := P) ho (by intro c e f hh; cases hh)
      have hlen : arr.size = es.length := by
        have := harr.1.length
        simpa using this
      refine ⟨_, ?_, .int _ _⟩
      simp [Builtin.len_, ht, run_underlying hty, hgo, hlen, goInt]
    · rename_i es hg
      cases hr
      obtain ⟨o, ho, arr, clock, l, rfl, hp, harr, _⟩ := h.obs _ L _ hL hg
      have hgo := run_getObj (P := P) ho (by intro c e f hh; cases hh)
      have hlen : arr.size = es.length := by
        have h1 := harr.1.length
        have h2 := hp.length_eq
        simp at h1
        omega
      refine ⟨_, ?_, .int _ _⟩
      simp [Builtin.len_, ht, run_underlying hty, hgo, hlen, goInt]
    · cases hr
  · rename_i a x' hty
    split at hr
    · rename_i n e hty2
      cases hr
      refine ⟨_, ?_, .int _ _⟩
      simp [Builtin.len_, ht, run_underlying hty, run_underlying hty2]; rfl
    · cases hr
  · cases hr
theorem cap_run {t : TypeId} {x r : AV} {v : Value} {ts : Array TypeId} {ty : TypeId} {rest : List TypeId} (hts : ts.toList = t :: rest) (hv : VR ρ x v) (hr : capA P t x = .ok r) (w : World) :
    ∃ q, (Builtin.cap_ ts ty #[v]).run P w = .ok q w ∧ VR ρ r q := by
  have ht : ts[0]? = some t := by
    have : ts.toList[0]? = some t := by rw [hts]; rfl
    simpa using this
  unfold capA at hr
  split at hr
  · rename_i hty; cases hr; cases hv with | sl _ _ _ _ L c o hL hc hl =>
    obtain ⟨rfl, _⟩ := hc
    exact ⟨_, by simp [Builtin.cap_, ht, run_underlying hty]; rfl, .int _ _⟩
  · rename_i hty; cases hr; cases hv
    exact ⟨_, by simp [Builtin.cap_, ht, run_underlying hty]; rfl, .int _ _⟩
  · rename_i hty; cases hr
    exact ⟨_, by simp [Builtin.cap_, ht, run_underlying hty]; rfl, .int _ _⟩
  · cases hr
theorem all_of {fr : Fr} {ev : Operand → Value} {l : List Operand} (he : ∀ x ∈ l, VR ρ (fr.get x) (ev x)) {as : List AV} (h : fr.all l = as) : VRs ρ as (l.map ev) := h ▸ all_eval he
/-- The builtin calls, as the model makes them. -/
theorem call_builtin (ev : Operand → Value) (o : Oper) (c : Call) (b : Builtin) (ho : o.op = .call c) (hc : c.callee = .builtin b) :
    execOp ev o = (do let d ← (pure { target := .builtin b c.argTypes o.type (c.args.map fun | .const _ => true | _ => false), args := c.args.map ev } : Sem Deferred); invoke d.target d.args) := by
  unfold execOp
  rw [ho]
  simp only [resolve, hc]
  rfl
theorem VR.int_inv {k : IntKind} {n : Int} {v : Value} (h : VR ρ (.int k n) v) : v = .int k n := by cases h; rfl
theorem map_one {ev : Operand → Value} {l : Array Operand} {y : Operand} (h : l.toList = [y]) : l.map ev = #[ev y] := by
  apply Array.ext'
  simp [h]
theorem map_two {ev : Operand → Value} {l : Array Operand} {y z : Operand} (h : l.toList = [y, z]) : l.map ev = #[ev y, ev z] := by
  apply Array.ext'
  simp [h]
theorem list_one {α β : Type} {f : α → β} {l : List α} {x : β} (h : l.map f = [x]) : ∃ y, l = [y] ∧ f y = x := by
  cases l with
  | nil => cases h
  | cons a r => cases r with
    | nil => simp only [List.map_cons, List.map_nil, List.cons.injEq, and_true] at h; exact ⟨a, rfl, h⟩
    | cons _ _ => simp at h
theorem list_two {α β : Type} {f : α → β} {l : List α} {x x' : β} (h : l.map f = [x, x']) : ∃ y z, l = [y, z] ∧ f y = x ∧ f z = x' := by
  cases l with
  | nil => cases h
  | cons a r =>
    simp only [List.map_cons, List.cons.injEq] at h
    obtain ⟨b, rfl, hb⟩ := list_one h.2
    exact ⟨a, b, rfl, h.1, hb⟩
theorem sliceData_run {ts : Array TypeId} {ty : TypeId} {b : Addr} {n c : Nat} (hc : c ≠ 0) (w : World) : (Builtin.unsafeSliceData_ ts ty #[.slice (some b) n c]).run P w = .ok (.pointer (some b)) w := by
  have e : Builtin.unsafeSliceData_ ts ty #[.slice (some b) n c] = (if c ≠ 0 then pure (.pointer (some b)) else (do
    if (← viewAt b.block).isSome then pure (.pointer (some b)) else pure (.pointer (some ⟨← newObj (.view b (← Go.elemOf ty)), 0, none⟩)))) := rfl
  rw [e, if_pos hc]; rfl
theorem pureBuiltin_run (h : MR N ρ ro st W w) {fr : Fr} {ev : Operand → Value} {o : Oper} {c : Call} {b : Builtin} {r : AV} (ho : o.op = .call c) (hc : c.callee = .builtin b) (he : ∀ x ∈ c.args.toList, VR ρ (fr.get x) (ev x))
    (hr : pureBuiltin P fr st b c.args.toList c.argTypes.toList = .ok r) : ∃ q, (execOp ev o).run P w = .ok (.value q) w ∧ VR ρ r q := by
  rw [call_builtin ev o c b ho hc]
  unfold pureBuiltin at hr
  have fin : ∀ {s : Sem Value} {q : Value}, s.run P w = .ok q w → ((do pure (.value (← s)) : Sem Next).run P w = .ok (.value q) w) := by
    intro s q hs; simp [hs]
  split at hr
  · rename_i x t rest ha ht
    obtain ⟨y, hy, rfl⟩ := list_one ha
    obtain ⟨q, h1, h2⟩ := len_run (ty := o.type) h ht (he y (by simp [hy])) hr
    exact ⟨q, by rw [map_one hy]; exact fin h1, h2⟩
  · rename_i x t rest ha ht
    obtain ⟨y, hy, rfl⟩ := list_one ha
    obtain ⟨q, h1, h2⟩ := cap_run (ty := o.type) ht (he y (by simp [hy])) hr w
    exact ⟨q, by rw [map_one hy]; exact fin h1, h2⟩
  · rename_i ha
    unfold minMaxA at hr
    split at hr
    · rename_i k a k' a' hl
      obtain ⟨y, z, hy, hy1, hz1⟩ := list_two (hl : c.args.toList.map fr.get = _)
      have e1 : ev y = .int k a := VR.int_inv (ρ := ρ) (hy1 ▸ he y (by simp [hy]))
      have e2 : ev z = .int k' a' := VR.int_inv (ρ := ρ) (hz1 ▸ he z (by simp [hy]))
      obtain ⟨q, h1, h2⟩ := scal_run (ρ := ρ) hr w
      exact ⟨q, by rw [map_two hy, e1, e2]; exact fin h1, h2⟩
    · cases hr
  · rename_i ha
    unfold minMaxA at hr
    split at hr
    · rename_i k a k' a' hl
      obtain ⟨y, z, hy, hy1, hz1⟩ := list_two (hl : c.args.toList.map fr.get = _)
      have e1 : ev y = .int k a := VR.int_inv (ρ := ρ) (hy1 ▸ he y (by simp [hy]))
      have e2 : ev z = .int k' a' := VR.int_inv (ρ := ρ) (hz1 ▸ he z (by simp [hy]))
      obtain ⟨q, h1, h2⟩ := scal_run (ρ := ρ) hr w
      exact ⟨q, by rw [map_two hy, e1, e2]; exact fin h1, h2⟩
    · cases hr
  · rename_i id off n k ha
    obtain ⟨y, hy, hy1⟩ := list_one ha
    cases hr
    have hv := he y (by simp [hy])
    rw [hy1] at hv
    generalize hq : ev y = q at hv
    cases hv with | sl _ _ _ _ L cc oo hL hcap hl =>
    obtain ⟨h1, h2⟩ := hcap
    refine ⟨_, ?_, .ptr id off L hL⟩
    rw [map_one hy, hq, h1, h2]
    exact fin (sliceData_run (by omega) w)
  · rename_i id off k cap _ ha
    obtain ⟨y, hy, hy1⟩ := list_one ha
    cases hr
    have hv := he y (by simp [hy])
    rw [hy1] at hv
    generalize hq : ev y = q at hv
    cases hv with | sl _ _ _ _ L cc oo hL hcap hl =>
    have hoo : oo = L.base + off := by
      cases cap with
      | k m => exact hcap.2
      | g m => rcases hcap.2 with h0 | h0
               · omega
               · exact h0
    refine ⟨_, ?_, .ptr id off L hL⟩
    rw [map_one hy, hq, hoo]
    exact fin (sliceData_run (by omega) w)
  · rename_i ha
    obtain ⟨y, hy, hy1⟩ := list_one ha
    cases hr
    have hv := he y (by simp [hy])
    rw [hy1] at hv
    generalize hq : ev y = q at hv
    cases hv
    exact ⟨_, by rw [map_one hy, hq]; exact fin rfl, .nilp⟩
  · cases hr
end
end Go.Proofs.YtjifnmilimdfdaaGreatDoor.Ab
/- Symbols in an index, in a slice of a string. -/
set_option linter.unusedVariables false
set_option linter.unusedSimpArgs false
set_option linter.unnecessarySimpa false
namespace Go.Proofs.YtjifnmilimdfdaaGreatDoor.Ab
open Go Go.RowKit

section
variable {P : Program} {N : Nat → Prop} {ρ : Rho} {ro : Nat} {st : St} {W w : World}
theorem indexS_run (hM : MR N ρ ro st W w) {t : Nat} {x i r : AV} {v u : Value} (hv : VR ρ x v) (hu : VR ρ i u) (h : indexS P st t x i = .ok r) : ∃ q, (Instr.index t v u).run P w = .ok q w ∧ VR ρ r q := by
  unfold indexS at h
  split at h
  case h_2 => cases h
  rename_i s k e hty hs he
  split at h
  case h_2 => cases h
  rename_i h1 h2
  cases h
  rw [symS_spec hs hv, symI_spec he hu]
  have h1 := hM.nonNeg h1
  have h2 := hM.holdsF h2
  rw [den_lss] at h2
  have h2 : (e.den ρ.sg).int < ((s.den ρ.sg).str.length : Int) := of_decide_eq_true h2
  obtain ⟨n, hn⟩ : ∃ n : Nat, (e.den ρ.sg).int = (n : Int) := ⟨(e.den ρ.sg).int.toNat, by omega⟩
  have hlt : n < (s.den ρ.sg).str.length := by omega
  have hlt' : n < (⟨⟨(s.den ρ.sg).str⟩⟩ : ByteArray).size := hlt
  have hget : (⟨⟨(s.den ρ.sg).str⟩⟩ : ByteArray)[n]? = some ((s.den ρ.sg).str[n]) := by
    rw [getElem?_pos (⟨⟨(s.den ρ.sg).str⟩⟩ : ByteArray) n hlt']
    rfl
  refine ⟨.int .u8 ((s.den ρ.sg).str[n].toNat : Int), ?_, ?_⟩
  · rw [hn]
    simp [Instr.index, run_asIntOf, run_underlying hty, hget]
  · have : ((SX.byte s e).den ρ.sg).int = ((s.den ρ.sg).str[n].toNat : Int) := by
      have h3 : (s.den ρ.sg).str[(e.den ρ.sg).int.toNat]? = some ((s.den ρ.sg).str[n]) := by
        rw [hn]
        simp [hlt]
      show (match (s.den ρ.sg).str[(e.den ρ.sg).int.toNat]? with | some b => Int.ofNat b.toNat | none => 0) = _
      rw [h3]
      rfl
    rw [← this]
    exact .ix _ _
theorem boundS_spec {fr : Fr} {ev : Operand → Value} {o : Option Operand} {d e : SX} (he : ∀ y, o = some y → VR ρ (fr.get y) (ev y)) (h : boundS fr o d = .ok e) (h0 : 0 ≤ (e.den ρ.sg).int) {m : Nat} (hm : (d.den ρ.sg).int = (m : Int)) :
    ∃ l : Option Nat, OptR (o.map ev) l ∧ ((l.getD m : Nat) : Int) = (e.den ρ.sg).int := by
  unfold boundS at h
  split at h
  · cases h
    exact ⟨none, .inl ⟨rfl, rfl⟩, by simp [hm]⟩
  · rename_i y
    split at h
    · rename_i k x hx
      cases h
      have := symI_spec hx (he y rfl)
      refine ⟨some (e.den ρ.sg).int.toNat, .inr ⟨k, _, ?_, rfl⟩, ?_⟩
      · simp only [Option.map_some, this]
        congr 2
        omega
      · simp only [Option.getD_some]
        omega
    · cases h
theorem sliceS_run (hM : MR N ρ ro st W w) {t : TypeId} {x : AV} {v : Value} {lo hi mx : Option Operand} {fr : Fr} {ev : Operand → Value} {r : AV} (hv : VR ρ x v) (he : ∀ y, (lo = some y ∨ hi = some y ∨ mx = some y) → VR ρ (fr.get y) (ev y))
    (h : sliceS P st fr t x lo hi mx = .ok r) : ∃ q, (Instr.sliceAt t v (lo.map ev) (hi.map ev) (mx.map ev)).run P w = .ok q w ∧ VR ρ r q := by
  unfold sliceS at h
  split at h
  case h_2 => cases h
  rename_i s hty hs
  obtain ⟨l, hl, h⟩ := Rs.bind_ok h
  obtain ⟨hh, hhi, h⟩ := Rs.bind_ok h
  split at h
  case h_2 => cases h
  rename_i h1 h2 h3
  cases h
  have h1 := hM.nonNeg h1
  have h2 := hM.leF h2
  have h3 : (hh.den ρ.sg).int ≤ ((s.den ρ.sg).str.length : Int) := hM.leF h3
  obtain ⟨l', ol, el⟩ := boundS_spec (m := 0) (fun z hz => he z (.inl hz)) hl h1 rfl
  obtain ⟨h', oh, eh⟩ := boundS_spec (m := (s.den ρ.sg).str.length) (fun z hz => he z (.inr (.inl hz))) hhi (by omega) rfl
  rw [symS_spec hs hv]
  have hsz : (⟨⟨(s.den ρ.sg).str⟩⟩ : ByteArray).size = (s.den ρ.sg).str.length := rfl
  have hb := run_sliceBounds (P := P) (isSlice := false) (len := (s.den ρ.sg).str.length) (cap := (s.den ρ.sg).str.length) ol oh (.inl ⟨rfl, rfl⟩) (by omega) (fun _ => by omega) (fun k hk => by cases hk) w
  have hx : (⟨⟨(s.den ρ.sg).str⟩⟩ : ByteArray).extract (l'.getD 0) (h'.getD (s.den ρ.sg).str.length) = ⟨⟨((s.den ρ.sg).str.drop (l'.getD 0)).take (h'.getD (s.den ρ.sg).str.length - l'.getD 0)⟩⟩ := by
    apply ByteArray.ext
    simp [ByteArray.data_extract]
  refine ⟨.string ⟨⟨((s.den ρ.sg).str.drop (l'.getD 0)).take (h'.getD (s.den ρ.sg).str.length - l'.getD 0)⟩⟩, ?_, ?_⟩
  · simp only [Instr.sliceAt, Sem.run_bind, run_underlying hty, Result.andThen_ok, Instr.slice]
    simp only [Option.map_none, Option.isSome_none, Bool.false_eq_true, if_false, hsz]
    simp [hb, hx]
  · have : ((SX.cut s l hh).den ρ.sg).str = ((s.den ρ.sg).str.drop (l'.getD 0)).take (h'.getD (s.den ρ.sg).str.length - l'.getD 0) := by
      show ((s.den ρ.sg).str.drop (l.den ρ.sg).int.toNat).take ((hh.den ρ.sg).int.toNat - (l.den ρ.sg).int.toNat) = _
      rw [← el, ← eh]
      simp
    rw [← this]
    exact .sx _
end
end Go.Proofs.YtjifnmilimdfdaaGreatDoor.Ab
/- All operations that write nothing; those that make a row. -/
set_option linter.unusedVariables false
set_option linter.unusedSimpArgs false
set_option linter.unnecessarySimpa false
namespace Go.Proofs.YtjifnmilimdfdaaGreatDoor.Ab
open Go Go.RowKit

section
variable {P : Program} {N : Nat → Prop} {ρ : Rho} {ro : Nat} {st : St} {W w : World}
theorem wrapV {s : Sem Value} {q : Value} {w w' : World} (h : s.run P w = .ok q w') : (do pure (.value (← s)) : Sem Next).run P w = .ok (.value q) w' := by simp [h]
theorem VR.bool_inv {b : Bool} {v : Value} (h : VR ρ (.bool b) v) : v = .bool b := by cases h; rfl
theorem VR.flt_inv {k : FloatKind} {n : Nat} {v : Value} (h : VR ρ (.flt k n) v) : v = .float k n := by cases h; rfl
theorem VR.ptr_inv {id off : Nat} {v : Value} (h : VR ρ (.ptr id off) v) : ∃ L, ρ id = some L ∧ v = .pointer (some ⟨L.b, L.base + off, none⟩) := by cases h with | ptr _ _ L hL => exact ⟨L, hL, rfl⟩
theorem VR.str_inv {s : List UInt8} {v : Value} (h : VR ρ (.str s) v) : v = .string ⟨⟨s⟩⟩ := by cases h; rfl
theorem pureA_run (h : MR N ρ ro st W w) {fr : Fr} {ev : Operand → Value} {o : Oper} {r : AV} (he : ∀ x ∈ o.op.operands.toList, VR ρ (fr.get x) (ev x)) (hr : pureA P fr st o.op = .ok r) : ∃ q, (execOp ev o).run P w = .ok (.value q) w ∧ VR ρ r q := by
  unfold execOp
  generalize hop : o.op = op at he hr
  cases op <;> simp only [pureA] at hr <;> first
    | (cases hr; done)
    | dsimp only
  case move x => cases hr; exact ⟨ev x, rfl, he x (by simp [Op.operands])⟩
  case pick c a b =>
    have hc := he c (by simp [Op.operands])
    split at hr
    · rename_i hb; rw [hb] at hc; have := hc.bool_inv; cases hr
      exact ⟨ev a, by simp [this, asBool], he a (by simp [Op.operands])⟩
    · rename_i hb; rw [hb] at hc; have := hc.bool_inv; cases hr
      exact ⟨ev b, by simp [this, asBool], he b (by simp [Op.operands])⟩
    · cases hr
  case build t ps =>
    obtain ⟨q, h1, h2⟩ := buildA_run (ps := ps.toList) (ev := ev) (fun x hx => he x hx) hr w
    refine ⟨q, wrapV ?_, h2⟩
    have e : (ps.map fun (x : Nat × Operand) => (x.1, ev x.2)) = (ps.toList.map fun p => (p.1, ev p.2)).toArray := by
      apply Array.ext'
      rw [Array.toList_map]
    rw [← e] at h1
    exact h1
  case load t a =>
    have ha := he a (by simp [Op.operands])
    split at hr
    · rename_i id off hp; rw [hp] at ha
      obtain ⟨L, hL, e⟩ := ha.ptr_inv
      obtain ⟨q, h1, h2⟩ := h.loadVar hL hr
      exact ⟨q, wrapV (by simp [Instr.loadAt, e, Instr.sureAddr, h1]), h2⟩
    · cases hr
  case nilCheck x =>
    have hx := he x (by simp [Op.operands])
    split at hr
    · rename_i id off hp; rw [hp] at hx; cases hr
      obtain ⟨L, hL, e⟩ := hx.ptr_inv
      exact ⟨_, by rw [e]; rfl, .ptr id off L hL⟩
    · rename_i f a c hp; rw [hp] at hx; cases hr
      generalize ev x = q at hx
      cases hx with | fn _ _ _ x' c' h1 h2 => exact ⟨_, rfl, .fn _ _ _ _ _ h1 h2⟩
    · rename_i t v hp; rw [hp] at hx; cases hr
      generalize ev x = q at hx
      cases hx with | iface _ _ u hu => exact ⟨_, rfl, .iface _ _ _ hu⟩
    · cases hr
  case binOp op t x y t' =>
    obtain ⟨q, h1, h2⟩ := binA_run h (he x (by simp [Op.operands])) (he y (by simp [Op.operands])) hr
    exact ⟨q, wrapV h1, h2⟩
  case unOp op t x =>
    have hx := he x (by simp [Op.operands])
    split at hr
    · rename_i b hp; rw [hp] at hx; rw [hx.bool_inv]
      obtain ⟨q, h1, h2⟩ := scal_run (ρ := ρ) hr w
      exact ⟨q, wrapV h1, h2⟩
    · rename_i k n hp; rw [hp] at hx; rw [hx.int_inv]
      obtain ⟨q, h1, h2⟩ := scal_run (ρ := ρ) hr w
      exact ⟨q, wrapV h1, h2⟩
    · rename_i k n hp; rw [hp] at hx; rw [hx.flt_inv]
      obtain ⟨q, h1, h2⟩ := scal_run (ρ := ρ) hr w
      exact ⟨q, wrapV h1, h2⟩
    · rename_i e hp; rw [hp] at hx
      split at hr
      · cases hr
        have hxv : ev x = .bool (e.den ρ.sg).bool := by
          revert hx
          generalize ev x = y
          intro hx
          cases hx
          rfl
        rw [hxv]
        exact ⟨.bool (!(e.den ρ.sg).bool), by simp [Op.unary], h.tst (.not e)⟩
      · cases hr
    · cases hr
  case convert s d x =>
    obtain ⟨q, h1, h2⟩ := conv_run h (he x (by simp [Op.operands])) hr
    exact ⟨q, wrapV h1, h2⟩
  case makeInterface t x =>
    have hx := he x (by simp [Op.operands])
    split at hr
    · cases hr
    · rename_i d hn hty
      split at hr
      · cases hr
      · cases hr
        refine ⟨.iface t (ev x), wrapV ?_, .iface _ _ _ hx⟩
        simp only [Instr.makeInterface, Sem.run_bind, run_underlying hty, Result.andThen_ok]
        cases d <;> first | rfl | exact absurd rfl (hn _)
    · cases hr
  case makeFunc f first cap =>
    split at hr
    · cases hr
      refine ⟨_, wrapV rfl, .fn _ _ _ _ _ ?_ ?_⟩
      · simpa using all_eval (ev := ev) fun x hx => he x (by simp [Op.operands] at hx ⊢; exact .inl hx)
      · simpa using all_eval (ev := ev) fun x hx => he x (by simp [Op.operands] at hx ⊢; exact .inr hx)
    · cases hr
  case slice t x lo hi mx =>
    split at hr
    · obtain ⟨q, h1, h2⟩ := sliceS_run h (ev := ev) (he x (by simp [Op.operands])) (fun y hy => he y (by simp [Op.operands]; rcases hy with rfl | rfl | rfl <;> simp)) hr
      exact ⟨q, wrapV h1, h2⟩
    · obtain ⟨q, h1, h2⟩ := sliceA_run (ev := ev) (he x (by simp [Op.operands])) (fun y hy => he y (by simp [Op.operands]; rcases hy with rfl | rfl | rfl <;> simp)) hr w
      exact ⟨q, wrapV h1, h2⟩
  case fieldAddr s x f =>
    have hx := he x (by simp [Op.operands])
    split at hr
    · rename_i id off o' hp ho; rw [hp] at hx; cases hr
      obtain ⟨q, h1, h2⟩ := fieldAddr_run hx ho w
      exact ⟨q, wrapV h1, h2⟩
    · cases hr
  case field s x f =>
    have hx := he x (by simp [Op.operands])
    split at hr
    · rename_i cs t o' hp ho; rw [hp] at hx
      obtain ⟨q, h1, h2⟩ := field_run hx ho hr w
      exact ⟨q, wrapV h1, h2⟩
    · cases hr
  case indexAddr t x i =>
    obtain ⟨q, h1, h2⟩ := indexAddr_run (he x (by simp [Op.operands])) (he i (by simp [Op.operands])) hr w
    exact ⟨q, wrapV h1, h2⟩
  case index t x i =>
    split at hr
    · obtain ⟨q, h1, h2⟩ := indexS_run h (he x (by simp [Op.operands])) (he i (by simp [Op.operands])) hr
      exact ⟨q, wrapV h1, h2⟩
    · obtain ⟨q, h1, h2⟩ := index_run (he x (by simp [Op.operands])) (he i (by simp [Op.operands])) hr w
      exact ⟨q, wrapV h1, h2⟩
  case lookup t m k ok =>
    obtain ⟨q, h1, h2⟩ := lookup_run h (he m (by simp [Op.operands])) (he k (by simp [Op.operands])) hr
    exact ⟨q, wrapV h1, h2⟩
  case typeAssert x xt t ok =>
    obtain ⟨q, h1, h2⟩ := assert_run (xt := xt) (he x (by simp [Op.operands])) hr w
    exact ⟨q, wrapV h1, h2⟩
  case extract t i =>
    have hx := he t (by simp [Op.operands])
    split at hr
    · rename_i vs hp; rw [hp] at hx
      obtain ⟨q, h1, h2⟩ := extract_run hx (Rs.of_ok hr) w
      exact ⟨q, wrapV h1, h2⟩
    · cases hr
  case call c =>
    split at hr
    · rename_i b hb
      have := pureBuiltin_run h (o := o) (ev := ev) hop hb (fun x hx => he x (by simp only [Op.operands, Call.operands, hb]; simpa using hx)) hr
      obtain ⟨q, h1, h2⟩ := this
      refine ⟨q, ?_, h2⟩
      unfold execOp at h1
      rw [hop] at h1
      exact h1
    · cases hr
/- ROWS. -/
theorem lay_row {l : List AV} {vs : List Value} (h : VRs ρ l vs) {i : Nat} {a : AV} (hg : (PT.lay l 0 .nil).get i = some a) : i < l.length ∧ ∃ v, vs[i]? = some v ∧ VR ρ a v := by
  rcases PT.get_lay hg with ⟨_, h1⟩ | ⟨_, h1⟩
  · have hlt := (List.getElem?_eq_some_iff.1 h1).1
    obtain ⟨v, h2, h3⟩ := h.get h1
    exact ⟨by simpa using hlt, v, by simpa using h2, h3⟩
  · cases h1
theorem mkRow_cl0 (l : List AV) (e : TypeId) : (mkRow l e).cl0 := by
  intro cs n e' fz cl rel h
  cases h
theorem mkRow_OR {l : List AV} {c : Array Value} (h : VRs ρ l c.toList) (e : TypeId) (b : Nat) : OR ρ ⟨b, c.size, 0⟩ (mkRow l e) (.cells c e) := by
  refine ⟨c, 0, 0, rfl, rfl, fun _ => rfl, fun i a hg => ?_, fun _ => ⟨rfl, rfl⟩, fun h1 => by cases h1⟩
  obtain ⟨h1, v, h2, h3⟩ := lay_row h hg
  exact ⟨h1, v, by simpa using h2, h3⟩
theorem rep_len (n : Nat) (z : List AV) : (rep n z).length = n * z.length := by
  induction n with
  | zero => simp [rep]
  | succ n ih => simp [rep, ih, Nat.succ_mul]; omega
def repV (n : Nat) (z : List Value) : List Value := match n with
  | 0 => []
  | n + 1 => z ++ repV n z
theorem rep_rel {z : List AV} {v : List Value} (h : VRs ρ z v) : ∀ n, VRs ρ (rep n z) (repV n v)
  | 0 => .nil
  | n + 1 => h.append (rep_rel h n)
theorem repV_get (z : List Value) : ∀ (n i : Nat), i < n * z.length → (repV n z)[i]? = z[i % z.length]?
  | 0, i, h => by simp at h
  | n + 1, i, h => by
    simp only [repV]
    by_cases hi : i < z.length
    · rw [List.getElem?_append_left hi, Nat.mod_eq_of_lt hi]
    · rw [List.getElem?_append_right (by omega), repV_get z n (i - z.length) (by rw [Nat.succ_mul] at h; omega)]
      congr 1
      have : i = (i - z.length) + z.length := by omega
      conv => rhs; rw [this, Nat.add_mod_right]
theorem repV_len (n : Nat) (z : List Value) : (repV n z).length = n * z.length := by
  induction n with
  | zero => simp [repV]
  | succ n ih => simp [repV, ih, Nat.succ_mul]; omega
theorem zero_row (z : Array Value) (n : Nat) : ((Array.range (n * z.size)).map (z[· % z.size]!)) = (repV n z.toList).toArray := by
  apply Array.ext
  · simp [repV_len]
  · intro i h1 h2
    simp only [Array.size_map, Array.size_range] at h1
    have hz : 0 < z.size := by
      rcases Nat.eq_zero_or_pos z.size with h | h
      · rw [h] at h1; simp at h1
      · exact h
    have hm : i % z.size < z.size := Nat.mod_lt _ hz
    have := repV_get z.toList n i (by simpa using h1)
    simp only [Array.getElem_map, Array.getElem_range]
    have h3 : (repV n z.toList).toArray[i]? = z.toList[i % z.toList.length]? := by simpa using this
    rw [Array.getElem?_eq_getElem h2] at h3
    simp only [Array.length_toList, Array.getElem?_toList] at h3
    rw [Array.getElem?_eq_getElem hm] at h3
    rw [getElem!_pos z _ hm]
    exact (Option.some.inj h3).symm
end
end Go.Proofs.YtjifnmilimdfdaaGreatDoor.Ab
