/- 'append' as the model makes it. -/
import Derived.Test.YteegpmimbbgdlaaGreatDoorAppend
set_option linter.unusedVariables false
set_option linter.unusedSimpArgs false
set_option linter.unnecessarySimpa false
namespace Go.Proofs.YteegpmimbbgdlaaGreatDoor.Ab
open Go Go.RowKit

section
variable {P : Program} {N : Nat → Prop} {ρ : Rho} {ro : Nat} {st : St} {W w : World}
def zerosK (xt : Option TypeId) (K : Bool → Sem Value) : Sem Value :=
  match xt with
  | some xType => do
    let d ← underlying xType
    let zeros ← pure (match d with | .int _ => true | _ => false)
    K zeros
  | none => do
    let zeros ← pure false
    K zeros
theorem notInt_K {xt : Option TypeId} (h : notInt P xt = true) (w : World) (K : Bool → Sem Value) :
    (zerosK xt K).run P w = (K false).run P w := by
  unfold notInt at h
  unfold zerosK
  cases xt with
  | none => rfl
  | some u =>
    simp only at h ⊢
    split at h
    · cases h
    · rename_i d hn hu
      simp only [Sem.run_bind, run_underlying hu, Result.andThen_ok]
      cases d <;> first | rfl | exact absurd rfl (hn _)
    · cases h
structure AppIn (P : Program) (w : World) (ts : Array TypeId) (e size n : Nat) (xv : Value) : Prop where
  ty : ∃ t, ts[0]? = some t ∧ P.underlying t = some (.slice e)
  sz : tySize P e = some size
  int : notInt P ts[1]? = true
  len : (Builtin.lenOf xv).run P w = .ok n w
theorem append_room {ts : Array TypeId} {ty : TypeId} {e size n len c : Nat} {base : Option Addr} {xv : Value} {vs : List Value} {w' : World} (h : AppIn P w ts e size n xv) (hcells : (Builtin.firstCells size n xv).run P w = .ok vs.toArray w) (hroom : len + n ≤ c)
    (hst : ∀ a, base = some a → (storeCells (a.add (len * size)) vs).run P w = .ok () w') (hno : base = none → w' = w) :
    (Builtin.append_ ts ty #[.slice base len c, xv]).run P w = .ok (.slice base (len + n) c) w' := by
  obtain ⟨t, ht, hu⟩ := h.ty
  unfold Builtin.append_
  simp only [ht, List.getElem?_toArray, List.getElem?_cons_zero, List.getElem?_cons_succ, Sem.run_bind, run_underlying hu, Result.andThen_ok, run_size h.sz]
  refine (notInt_K h.int w _).trans ?_
  simp only [Bool.false_eq_true, if_false, Sem.run_bind, h.len, Result.andThen_ok, if_pos hroom, Bool.not_false, if_true, hcells]
  cases base with
  | none => cases hno rfl; rfl
  | some a =>
    have := hst a rfl
    simp [Sem.run_bind, this]
theorem growBy_le (n : Nat) : ∀ (r c : Nat), c ≤ n + (n + 768) / 4 → Builtin.growBy n r c ≤ n + (n + 768) / 4
  | 0, c, h => h
  | r + 1, c, h => by
    simp only [Builtin.growBy]
    split
    · exact h
    · rename_i hc
      exact growBy_le n r _ (by omega)
theorem nextcap_le {n c : Nat} (h : c < n) : Builtin.nextslicecap n c ≤ 2 * n + 192 := by
  unfold Builtin.nextslicecap
  split
  · omega
  · split
    · omega
    · have := growBy_le n 4 c (by omega)
      omega
theorem append_grow {ts : Array TypeId} {ty : TypeId} {e size n len c : Nat} {base : Option Addr} {xv : Value} {vs ov : List Value} {bytes : Nat} (h : AppIn P w ts e size n xv) (hroom : c < len + n)
    (hb : tyBytes P e = some bytes) (hb0 : 0 < bytes) (hb1 : bytes ≤ 100000) (hn : len + n ≤ 100000) (hz : zeroOk P e size = true) (hcells : (Builtin.firstCells size n xv).run P { w with drawn := w.drawn + 1 } = .ok vs.toArray { w with drawn := w.drawn + 1 })
    (hold : (Builtin.firstCells size len (.slice base len c)).run P { w with drawn := w.drawn + 1 } = .ok ov.toArray { w with drawn := w.drawn + 1 }) :
    ∃ newCap rest w', (Builtin.append_ ts ty #[.slice base len c, xv]).run P w = .ok (.slice (some ⟨w.heap.size, 0, none⟩) (len + n) newCap) w' ∧ w' = { w with drawn := w.drawn + 1, heap := w.heap.push (.cells (ov.toArray ++ vs.toArray ++ rest) e) } ∧ len + n ≤ newCap ∧ rest.size = (newCap - (len + n)) * size := by
  obtain ⟨t, ht, hu⟩ := h.ty
  have hinfo : ∃ i, P.info? e = some i ∧ i.bytes = bytes := by
    unfold tyBytes at hb
    split at hb
    · rename_i i hi; cases hb; exact ⟨i, hi, rfl⟩
    · cases hb
  obtain ⟨i, hi, hib⟩ := hinfo
  have hzero : ∃ zv : Value, zv.cells.size = size ∧ ∀ w', (zeroValue e).run P w' = .ok zv w' := by
    unfold zeroOk at hz
    split at hz
    · rename_i z hz1
      split at hz
      · rename_i l hl
        have hlen := beq_true hz
        obtain ⟨zv, h1, h2⟩ := run_zero (ρ := Rho.no) hz1 w
        have hc := (h2.cells hl).length
        refine ⟨zv, by simp at hc; omega, fun w' => ?_⟩
        obtain ⟨zv', h3, _⟩ := run_zero (ρ := Rho.no) hz1 w'
        have : zv' = zv := by
          unfold tyZero at hz1
          rw [hi] at hz1
          simp only at hz1
          split at hz1
          · rename_i v hv
            simp [zeroValue, typeInfo, hi, hv] at h1 h3
            rw [← h1, ← h3]
          · cases hz1
        rw [← this]; exact h3
      · cases hz
    · cases hz
  obtain ⟨zv, hzs, hzr⟩ := hzero
  have hmax : ¬ ((((len + n : Nat) : Int) > IntKind.i64.max) ∧ ((false = true) ∨ i.bytes = 0)) := by
    rintro ⟨h1, _⟩
    have : ((len + n : Nat) : Int) > 9223372036854775807 := h1
    omega
  have hnext : ¬ (Builtin.nextslicecap (len + n) c * i.bytes > 2 ^ 48) := by
    have h1 := nextcap_le hroom
    have h2 : Builtin.nextslicecap (len + n) c ≤ 200192 := by omega
    have h3 : Builtin.nextslicecap (len + n) c * i.bytes ≤ 200192 * 100000 := Nat.mul_le_mul h2 (by omega)
    omega
  have hnoroom : ¬ (len + n ≤ c) := by omega
  unfold Builtin.append_
  simp only [ht, List.getElem?_toArray, List.getElem?_cons_zero, List.getElem?_cons_succ, Sem.run_bind, run_underlying hu, Result.andThen_ok, run_size h.sz]
  have hmax' : ¬ ((((len + n : Nat) : Int) > IntKind.i64.max) ∧ ((false = true) ∨ bytes = 0)) := hib ▸ hmax
  have hnext' : ¬ (Builtin.nextslicecap (len + n) c * bytes > 2 ^ 48) := hib ▸ hnext
  have hty : ∀ w', (typeInfo e).run P w' = .ok i w' := fun w' => by simp [typeInfo, hi]
  obtain ⟨newCap, hcap, hge⟩ : ∃ newCap, (choose (.appendCap (len + n) c e)).run P w = .ok newCap { w with drawn := w.drawn + 1 } ∧ len + n ≤ newCap := by
    refine ⟨(Question.appendCap (len + n) c e).cut (w.tape w.drawn (.appendCap (len + n) c e)), ?_, ?_⟩
    · rw [run_choose]; rw [if_neg (by simp [Question.forced])]
    · simp [Question.cut]
  refine ⟨newCap, Builtin.zeroCells zv.cells (newCap - (len + n)), _, (notInt_K h.int w _).trans ?_, rfl, hge, by simp [Builtin.zeroCells, hzs]⟩
  simp only [Bool.false_eq_true, if_false, Sem.run_bind, h.len, Result.andThen_ok, if_neg hnoroom, Bool.not_false, if_true, hty, hib, if_neg hnext', false_or, hcap, run_askRoom]
  rw [if_neg (by rintro ⟨_, h2⟩; omega)]
  simp only [Sem.run_bind, hty, hib, if_neg hnext', hcap, run_askRoom, Result.andThen_ok, Sem.run_pure]
  rw [hold]
  simp only [Sem.run_bind, Result.andThen_ok]
  rw [hcells]
  simp only [Sem.run_bind, Result.andThen_ok]
  rw [hzr]
  simp only [Sem.run_bind, Result.andThen_ok, newRow, run_newObj, Sem.run_pure]
end
end Go.Proofs.YteegpmimbbgdlaaGreatDoor.Ab
