/- Symbols: facts, tests, operations of them are sound. -/
import Derived.Test.YtjifnmilimdfdaaGreatDoorHeap
import Derived.Laws.Strings
set_option linter.unusedVariables false
set_option linter.unusedSimpArgs false
set_option linter.unnecessarySimpa false
namespace Go.Proofs.YtjifnmilimdfdaaGreatDoor.Ab
open Go Go.RowKit

theorem eqSX_spec : ∀ {a b : SX}, eqSX a b = true → a = b := by
  intro a
  induction a with
  | v i => intro b h; cases b <;> simp only [eqSX] at h <;> first | (cases h; done) | (rw [beq_true h])
  | int n => intro b h; cases b <;> simp only [eqSX] at h <;> first | (cases h; done) | (rw [of_decide_eq_true h])
  | bool x => intro b h; cases b <;> simp only [eqSX] at h <;> first | (cases h; done) | (rw [eq_of_beq h])
  | str l => intro b h; cases b <;> simp only [eqSX] at h <;> first | (cases h; done) | (rw [of_decide_eq_true h])
  | bin op k x k' y ihx ihy =>
    intro b h
    cases b <;> simp only [eqSX] at h <;> first | (cases h; done) | skip
    simp only [Bool.and_eq_true, decide_eq_true_eq] at h
    obtain ⟨⟨⟨⟨rfl, rfl⟩, rfl⟩, h1⟩, h2⟩ := h
    rw [ihx h1, ihy h2]
  | seq x y ihx ihy =>
    intro b h
    cases b <;> simp only [eqSX] at h <;> first | (cases h; done) | skip
    simp only [Bool.and_eq_true] at h
    rw [ihx h.1, ihy h.2]
  | not x ih =>
    intro b h
    cases b <;> simp only [eqSX] at h <;> first | (cases h; done) | (rw [ih h])
  | len x ih =>
    intro b h
    cases b <;> simp only [eqSX] at h <;> first | (cases h; done) | (rw [ih h])
  | byte x y ihx ihy =>
    intro b h
    cases b <;> simp only [eqSX] at h <;> first | (cases h; done) | skip
    simp only [Bool.and_eq_true] at h
    rw [ihx h.1, ihy h.2]
  | cut x y z ihx ihy ihz =>
    intro b h
    cases b <;> simp only [eqSX] at h <;> first | (cases h; done) | skip
    simp only [Bool.and_eq_true] at h
    rw [ihx h.1.1, ihy h.1.2, ihz h.2]
  | cat x y ihx ihy =>
    intro b h
    cases b <;> simp only [eqSX] at h <;> first | (cases h; done) | skip
    simp only [Bool.and_eq_true] at h
    rw [ihx h.1, ihy h.2]
  | cons x y ihx ihy =>
    intro b h
    cases b <;> simp only [eqSX] at h <;> first | (cases h; done) | skip
    simp only [Bool.and_eq_true] at h
    rw [ihx h.1, ihy h.2]
  | conv k x ih =>
    intro b h
    cases b <;> simp only [eqSX] at h <;> first | (cases h; done) | skip
    simp only [Bool.and_eq_true, decide_eq_true_eq] at h
    rw [h.1, ih h.2]
  | ap f x y z ihx ihy ihz =>
    intro b h
    cases b <;> simp only [eqSX] at h <;> first | (cases h; done) | skip
    simp only [Bool.and_eq_true] at h
    rw [beq_true h.1.1.1, ihx h.1.1.2, ihy h.1.2, ihz h.2]
theorem lookF_spec {σ : Sg} : ∀ {l : List (SX × Bool)} {e : SX} {b : Bool}, lookF l e = some b → (∀ p ∈ l, (p.1.den σ).bool = p.2) → (e.den σ).bool = b
  | [], e, b, h, _ => by cases h
  | x :: r, e, b, h, hf => by
    unfold lookF at h
    split at h
    · rename_i hx
      cases h
      rw [← eqSX_spec hx]
      exact hf x (.head _)
    · exact lookF_spec h fun p hp => hf p (.tail _ hp)
section
variable {P : Program} {N : Nat → Prop} {ρ : Rho} {ro : Nat} {st : St} {W w : World}
theorem MR.tst (h : MR N ρ ro st W w) (e : SX) : VR ρ (tst st e) (.bool (e.den ρ.sg).bool) := by
  unfold Ab.tst
  split
  · rename_i b hb
    rw [lookF_spec hb h.fx]
    exact .bool _
  · exact .bx _
theorem MR.holdsF (h : MR N ρ ro st W w) {e : SX} (he : holdsF st e = true) : (e.den ρ.sg).bool = true := by
  unfold Ab.holdsF at he
  split at he
  · rename_i hb
    exact lookF_spec hb h.fx
  · cases he
theorem den_cmp (σ : Sg) (op : BinOp) (k : IntKind) (a b : SX) : ((SX.bin op k a k b).den σ) = svOf (semV (Go.binOp op 0 (.int k (a.den σ).int) (.int k (b.den σ).int))) := rfl
theorem den_leq (σ : Sg) (k : IntKind) (a b : SX) : ((SX.bin .leq k a k b).den σ).bool = decide ((a.den σ).int ≤ (b.den σ).int) := by
  rw [den_cmp]
  simp only [Go.binOp, Op.intCmp, ne_eq, not_true_eq_false, if_false]
  rfl
theorem den_lss (σ : Sg) (k : IntKind) (a b : SX) : ((SX.bin .lss k a k b).den σ).bool = decide ((a.den σ).int < (b.den σ).int) := by
  rw [den_cmp]
  simp only [Go.binOp, Op.intCmp, ne_eq, not_true_eq_false, if_false]
  rfl
theorem MR.leF (h : MR N ρ ro st W w) {a b : SX} (he : leF st a b = true) : (a.den ρ.sg).int ≤ (b.den ρ.sg).int := by
  have rest : (eqSX a b || Ab.holdsF st (leI a b)) = true → (a.den ρ.sg).int ≤ (b.den ρ.sg).int := by
    intro hr
    rw [Bool.or_eq_true] at hr
    rcases hr with h1 | h1
    · rw [eqSX_spec h1]; exact Int.le_refl _
    · have := h.holdsF h1
      unfold leI at this
      rw [den_leq] at this
      exact of_decide_eq_true this
  unfold Ab.leF at he
  split at he
  · exact of_decide_eq_true he
  · exact rest he
theorem MR.nonNeg (h : MR N ρ ro st W w) {e : SX} (he : nonNeg st e = true) : 0 ≤ (e.den ρ.sg).int := by
  unfold Ab.nonNeg at he
  split at he
  · exact Int.natCast_nonneg _
  · exact Int.natCast_nonneg _
  · simp only [SX.den, SV.int]
    split
    · exact Int.natCast_nonneg _
    · exact Int.le_refl _
  · have := h.holdsF he
    unfold leI at this
    rw [den_leq] at this
    exact of_decide_eq_true this
theorem symI_spec {a : AV} {k : IntKind} {x : SX} {v : Value} (h : symI a = some (k, x)) (hv : VR ρ a v) : v = .int k (x.den ρ.sg).int := by
  unfold symI at h
  split at h
  · cases h; cases hv; rfl
  · cases h; cases hv; rfl
  · cases h
theorem symS_spec {a : AV} {x : SX} {v : Value} (h : symS a = some x) (hv : VR ρ a v) : v = .string ⟨⟨(x.den ρ.sg).str⟩⟩ := by
  unfold symS at h
  split at h
  · cases h; cases hv; rfl
  · cases h; cases hv; rfl
  · cases h
theorem bin_int {op : BinOp} {k k' : IntKind} {x y : SX} {t : TypeId} {n : Int} (h : ∀ t, Go.binOp op t (.int k (x.den ρ.sg).int) (.int k' (y.den ρ.sg).int) = pure (.int k n)) : ∃ q, (Go.binOp op t (.int k (x.den ρ.sg).int) (.int k' (y.den ρ.sg).int)).run P w = .ok q w ∧ VR ρ (.ix k (.bin op k x k' y)) q := by
  refine ⟨.int k n, by rw [h]; rfl, ?_⟩
  have : ((SX.bin op k x k' y).den ρ.sg).int = n := by
    show (svOf (semV (Go.binOp op 0 (.int k (x.den ρ.sg).int) (.int k' (y.den ρ.sg).int)))).int = n
    rw [h]; rfl
  rw [← this]
  exact .ix _ _
theorem bin_bool (hM : MR N ρ ro st W w) {op : BinOp} {k k' : IntKind} {x y : SX} {t : TypeId} {b : Bool} (h : ∀ t, Go.binOp op t (.int k (x.den ρ.sg).int) (.int k' (y.den ρ.sg).int) = pure (.bool b)) : ∃ q, (Go.binOp op t (.int k (x.den ρ.sg).int) (.int k' (y.den ρ.sg).int)).run P w = .ok q w ∧ VR ρ (tst st (.bin op k x k' y)) q := by
  refine ⟨.bool b, by rw [h]; rfl, ?_⟩
  have : ((SX.bin op k x k' y).den ρ.sg).bool = b := by
    show (svOf (semV (Go.binOp op 0 (.int k (x.den ρ.sg).int) (.int k' (y.den ρ.sg).int)))).bool = b
    rw [h]; rfl
  rw [← this]
  exact hM.tst _
theorem symInt_run (hM : MR N ρ ro st W w) {op : BinOp} {k k' : IntKind} {x y : SX} {t : TypeId} {r : AV} (h : symInt st op k x k' y = .ok r) :
    ∃ q, (Go.binOp op t (.int k (x.den ρ.sg).int) (.int k' (y.den ρ.sg).int)).run P w = .ok q w ∧ VR ρ r q := by
  cases op <;> simp only [symInt] at h
  case shl =>
    split at h <;> cases h
    rename_i n
    refine bin_int (n := ?_) fun t => ?_
    rotate_left
    · show Op.shift .shl k _ k' (Int.ofNat n) = _
      unfold Op.shift
      rw [if_neg (by have := Int.natCast_nonneg n; show ¬ ((n : Int) < 0); omega)]
  case shr =>
    split at h <;> cases h
    rename_i n
    refine bin_int (n := ?_) fun t => ?_
    rotate_left
    · show Op.shift .shr k _ k' (Int.ofNat n) = _
      unfold Op.shift
      rw [if_neg (by have := Int.natCast_nonneg n; show ¬ ((n : Int) < 0); omega)]
  case quo =>
    split at h
    · split at h <;> cases h
      rename_i n hk
      subst hk
      refine bin_int (n := ?_) fun t => ?_
      rotate_left
      · simp only [Go.binOp, ne_eq, not_true_eq_false, if_false]
        unfold Op.intDiv
        rw [if_neg (by show ¬ ((Int.ofNat (n + 1) : Int) = 0); simp; omega)]
    · cases h
  case rem =>
    split at h
    · split at h <;> cases h
      rename_i n hk
      subst hk
      refine bin_int (n := ?_) fun t => ?_
      rotate_left
      · simp only [Go.binOp, ne_eq, not_true_eq_false, if_false]
        unfold Op.intDiv
        rw [if_neg (by show ¬ ((Int.ofNat (n + 1) : Int) = 0); simp; omega)]
    · cases h
  all_goals
    split at h <;> cases h
    rename_i hk
    subst hk
    first
      | exact bin_int fun t => by simp [Go.binOp, Op.intArith]; rfl
      | exact bin_int fun t => by simp [Go.binOp, Op.intBits]; rfl
      | exact bin_bool hM fun t => by simp [Go.binOp, Op.intCmp]; rfl
theorem symStr_run (hM : MR N ρ ro st W w) {op : BinOp} {x y : SX} {r : AV} (h : symStr st op x y = .ok r) :
    ∃ q, (Op.stringOp op ⟨⟨(x.den ρ.sg).str⟩⟩ ⟨⟨(y.den ρ.sg).str⟩⟩).run P w = .ok q w ∧ VR ρ r q := by
  have hl : ∀ l : List UInt8, (⟨⟨l⟩⟩ : ByteArray).toList = l := fun l => by simp [ByteArray.toList_eq]
  unfold symStr at h
  split at h
  · cases h
    refine ⟨.bool ((x.den ρ.sg).str == (y.den ρ.sg).str), ?_, hM.tst (.seq x y)⟩
    simp [Op.stringOp, hl]
  · cases h
    refine ⟨.bool (!((x.den ρ.sg).str == (y.den ρ.sg).str)), by simp [Op.stringOp, hl], ?_⟩
    have := hM.tst (.seq x y)
    split
    · rename_i b hb
      rw [hb] at this
      have e : ((SX.seq x y).den ρ.sg).bool = b := by cases this; rfl
      rw [← e]
      exact .bool _
    · exact .bx (.not (.seq x y))
  · split at h
    · rename_i hh
      cases h
      have := hM.holdsF hh
      unfold leI at this
      rw [den_leq] at this
      have := of_decide_eq_true this
      have : ((((x.den ρ.sg).str ++ (y.den ρ.sg).str).length : Nat) : Int) ≤ 4611686018427387904 := this
      rw [List.length_append] at this
      refine ⟨.string ⟨⟨(x.den ρ.sg).str ++ (y.den ρ.sg).str⟩⟩, ?_, .sx (.cat x y)⟩
      have hn : ¬ ((((⟨⟨(x.den ρ.sg).str⟩⟩ : ByteArray).size + (⟨⟨(y.den ρ.sg).str⟩⟩ : ByteArray).size : Nat) : Int) > IntKind.i64.max) := by
        simp only [ByteArray.size, List.size_toArray]
        show ¬ ((((x.den ρ.sg).str.length + (y.den ρ.sg).str.length : Nat) : Int) > 9223372036854775807)
        omega
      simp only [Op.stringOp]
      rw [if_neg hn]
      rfl
    · cases h
  · cases h
theorem symBin_run (hM : MR N ρ ro st W w) {op : BinOp} {a b r : AV} {v u : Value} {t : TypeId} (hv : VR ρ a v) (hu : VR ρ b u) (h : symBin st op a b = .ok r) :
    (∃ k m k' m', v = .int k m ∧ u = .int k' m') ∨ (∃ s s', v = .string s ∧ u = .string s') := by
  unfold symBin at h
  split at h
  · rename_i x y hx hy
    exact .inl ⟨_, _, _, _, symI_spec (k := x.1) (x := x.2) hx hv, symI_spec (k := y.1) (x := y.2) hy hu⟩
  · split at h
    · rename_i x y hx hy
      exact .inr ⟨_, _, symS_spec hx hv, symS_spec hy hu⟩
    · cases h
theorem symBin_val (hM : MR N ρ ro st W w) {op : BinOp} {a b r : AV} {v u : Value} {t : TypeId} (hv : VR ρ a v) (hu : VR ρ b u) (h : symBin st op a b = .ok r) :
    ∃ q, (Go.binOp op t v u).run P w = .ok q w ∧ VR ρ r q := by
  unfold symBin at h
  split at h
  · rename_i x y hx hy
    rw [symI_spec (k := x.1) (x := x.2) hx hv, symI_spec (k := y.1) (x := y.2) hy hu]
    exact symInt_run hM h
  · split at h
    · rename_i x y hx hy
      rw [symS_spec hx hv, symS_spec hy hu]
      obtain ⟨q, h1, h2⟩ := symStr_run (P := P) hM h
      refine ⟨q, ?_, h2⟩
      have : ∀ (s s' : ByteArray), Go.binOp op t (.string s) (.string s') = Op.stringOp op s s' := fun s s' => by cases op <;> rfl
      rw [this]
      exact h1
    · cases h
end
end Go.Proofs.YtjifnmilimdfdaaGreatDoor.Ab
