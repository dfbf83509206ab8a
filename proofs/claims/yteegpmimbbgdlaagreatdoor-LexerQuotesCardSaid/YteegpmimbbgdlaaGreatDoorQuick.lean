/- The quicker reading of one operation is the plain one. -/
import Derived.Test.YteegpmimbbgdlaaGreatDoorAbs
set_option linter.unusedVariables false
set_option linter.unusedSimpArgs false
set_option linter.unnecessarySimpa false
namespace Go.Proofs.YteegpmimbbgdlaaGreatDoor.Ab
open Go

theorem ltI_spec (a b : Int) : ltI a b = decide (a < b) := by
  cases a <;> cases b <;> simp only [ltI]
  · rename_i m n
    cases h : Nat.blt m n with
    | true => have := Nat.le_of_ble_eq_true h; symm; apply decide_eq_true; show ((m : Int) < (n : Int)); omega
    | false =>
      symm; apply decide_eq_false; intro h2
      have h2 : (m : Int) < (n : Int) := h2
      have : Nat.blt m n = true := Nat.ble_eq_true_of_le (by omega)
      rw [h] at this; cases this
  · rename_i m n; symm; apply decide_eq_false; show ¬ ((m : Int) < Int.negSucc n); omega
  · rename_i m n; symm; apply decide_eq_true; show Int.negSucc m < (n : Int); omega
  · rename_i m n
    cases h : Nat.blt n m with
    | true => have := Nat.le_of_ble_eq_true h; symm; apply decide_eq_true; omega
    | false =>
      symm; apply decide_eq_false; intro h2
      have : Nat.blt n m = true := Nat.ble_eq_true_of_le (by omega)
      rw [h] at this; cases this
theorem eqI_spec (a b : Int) : eqI a b = (a == b) := by
  cases a <;> cases b <;> simp only [eqI]
  · rename_i m n
    cases h : Nat.beq m n with
    | true => have := Nat.eq_of_beq_eq_true h; subst this; simp
    | false =>
      have := Nat.ne_of_beq_eq_false h
      symm; rw [beq_eq_false_iff_ne]; intro e; cases e; exact this rfl
  · rfl
  · rfl
  · rename_i m n
    cases h : Nat.beq m n with
    | true => have := Nat.eq_of_beq_eq_true h; subst this; simp
    | false =>
      have := Nat.ne_of_beq_eq_false h
      symm; rw [beq_eq_false_iff_ne]; intro e; cases e; exact this rfl
theorem kind_eq {k k' : IntKind} (h : Nat.beq k.ctorIdx k'.ctorIdx = true) : k = k' := by
  have := Nat.eq_of_beq_eq_true h
  cases k <;> cases k' <;> first | rfl | cases this
theorem scal_pure {P : Program} {v : Value} {a : AV} (h : AV.of0 v = some a) : scal P (.pure v) = .ok a := by
  simp only [scal, seval, Rs.of, h]
theorem binA_int {P : Program} {st : St} {op : BinOp} {t : TypeId} {x y : Operand} {k : IntKind} {m n : Int} {v : Value} {a : AV} (h : Go.binOp op t (.int k m) (.int k n) = .pure v) (ha : AV.of0 v = some a) : binA P st op t x y (.int k m) (.int k n) = .ok a := by
  show scal P (Go.binOp op t (.int k m) (.int k n)) = .ok a
  rw [h]
  exact scal_pure ha
theorem cmpI_spec {P : Program} {st : St} {op : BinOp} {t : TypeId} {x y : Operand} {k : IntKind} {m n : Int} {b : Bool} (h : cmpI op m n = some b) : binA P st op t x y (.int k m) (.int k n) = .ok (.bool b) := by
  refine binA_int (v := .bool b) ?_ rfl
  cases op <;> simp only [cmpI] at h <;> first | (cases h; done) | skip
  all_goals
    cases h
    simp only [Go.binOp, Op.intCmp, ltI_spec, eqI_spec, ne_eq, not_true_eq_false, if_false]
  · rfl
  · rfl
  · rfl
  · rw [← decide_not]
    congr 2
    simp
  · rfl
  · rw [← decide_not]
    congr 2
    simp
theorem wrap_i64 {n : Nat} (h : n < 9223372036854775808) : IntKind.i64.wrap (n : Int) = (n : Int) := by
  simp only [IntKind.wrap, IntKind.signed, IntKind.bits]
  simp
  omega
theorem sumI_spec {P : Program} {st : St} {op : BinOp} {t : TypeId} {x y : Operand} {k : IntKind} {m n z : Int} (h : sumI op k m n = some z) : binA P st op t x y (.int k m) (.int k n) = .ok (.int k z) := by
  refine binA_int (v := .int k z) ?_ rfl
  unfold sumI at h
  split at h
  case h_2 => cases h
  split at h
  · split at h
    · split at h
      · rename_i m n _ hb
        have hb : Nat.add m n < 9223372036854775808 := Nat.le_of_ble_eq_true hb
        cases h
        simp only [Go.binOp, Op.intArith, ne_eq, not_true_eq_false, if_false]
        have : IntKind.i64.wrap (Int.ofNat m + Int.ofNat n) = Int.ofNat (Nat.add m n) := wrap_i64 hb
        rw [this]; rfl
      · cases h
    · cases h
  · split at h
    · split at h
      · rename_i m n _ _ hb1 hb2
        have hb1 : n ≤ m := Nat.le_of_ble_eq_true hb1
        have hb2 : m < 9223372036854775808 := Nat.le_of_ble_eq_true hb2
        cases h
        simp only [Go.binOp, Op.intArith, ne_eq, not_true_eq_false, if_false]
        have e : Int.ofNat m - Int.ofNat n = ((m - n : Nat) : Int) := by show (m : Int) - (n : Int) = _; omega
        have : IntKind.i64.wrap (Int.ofNat m - Int.ofNat n) = Int.ofNat (Nat.sub m n) := by rw [e]; exact wrap_i64 (by omega)
        rw [this]; rfl
      · cases h
    · cases h
  · cases h
theorem stepA_eq (P : Program) (ro : Nat) (fr : Fr) (st : St) (o : Op) : stepA P ro fr st o = stepS P ro fr st o := by
  cases o <;> try rfl
  case pick c a b =>
    show pickF fr st (fr.get c) a b = Rs.bind (match fr.get c with
      | .bool true => .ok (fr.get a)
      | .bool false => .ok (fr.get b)
      | _ => .bad "pick") (fun v => .ok (.val v st))
    unfold pickF
    generalize fr.get c = q
    cases q <;> try rfl
    rename_i q
    cases q <;> rfl
  case load t a =>
    show loadF P st t (fr.get a) = Rs.bind (match fr.get a with
      | .ptr id off => loadVar P st t id off
      | _ => .bad "load address") (fun v => .ok (.val v st))
    unfold loadF
    generalize fr.get a = q
    cases q <;> rfl
  case binOp op t x y t' =>
    show binF P st op t x y (fr.get x) (fr.get y) = Rs.bind (binA P st op t x y (fr.get x) (fr.get y)) (fun v => .ok (.val v st))
    generalize fr.get x = a
    generalize fr.get y = b
    unfold binF
    split
    · split
      · rename_i k m k' n
        unfold binK
        split
        · rename_i hk
          have hk := kind_eq hk
          subst hk
          split
          · rename_i hc
            rw [cmpI_spec hc]; rfl
          · split
            · rename_i hs
              rw [sumI_spec hs]; rfl
            · rfl
        · rfl
      · rfl
    · rfl
end Go.Proofs.YteegpmimbbgdlaaGreatDoor.Ab
