/- All operations that write nothing; those that make a row. -/
import Derived.Test.YteegpmimbbgdlaaGreatDoorSymop
set_option linter.unusedVariables false
set_option linter.unusedSimpArgs false
set_option linter.unnecessarySimpa false
namespace Go.Proofs.YteegpmimbbgdlaaGreatDoor.Ab
open Go Go.RowKit

section
variable {P : Program} {N : Nat → Prop} {ρ : Rho} {ro : Nat} {st : St} {W w : World}
theorem wrapV {s : Sem Value} {q : Value} {w w' : World} (h : s.run P w = .ok q w') : (do pure (.value (← s)) : Sem Next).run P w = .ok (.value q) w' := by simp [h]
theorem VR.bool_inv {b : Bool} {v : Value} (h : VR ρ (.bool b) v) : v = .bool b := by cases h; rfl
theorem VR.flt_inv {k : FloatKind} {n : Nat} {v : Value} (h : VR ρ (.flt k n) v) : v = .float k n := by cases h; rfl
theorem VR.ptr_inv {id off : Nat} {v : Value} (h : VR ρ (.ptr id off) v) : ∃ L, ρ id = some L ∧ v = .pointer (some ⟨L.b, L.base + off, none⟩) := by cases h with | ptr _ _ L hL => exact ⟨L, hL, rfl⟩
theorem VR.str_inv {s : List UInt8} {v : Value} (h : VR ρ (.str s) v) : v = .string ⟨⟨s⟩⟩ := by cases h; rfl
theorem pureA_run (h : MR N ρ ro st W w) {fr : Fr} {ev : Operand → Value} {o : Oper} {r : AV} (he : ∀ x ∈ o.op.operands.toList, VR ρ (fr.get x) (ev x)) (hr : pureA P fr st o.op = .ok r) : ∃ q, (execOp ev o).run P w = .ok (.value q) w ∧ VR ρ r q := by
  unfold execOp
  generalize hop : o.op = op at he hr
  cases op <;> simp only [pureA] at hr <;> first
    | (cases hr; done)
    | dsimp only
  case move x => cases hr; exact ⟨ev x, rfl, he x (by simp [Op.operands])⟩
  case pick c a b =>
    have hc := he c (by simp [Op.operands])
    split at hr
    · rename_i hb; rw [hb] at hc; have := hc.bool_inv; cases hr
      exact ⟨ev a, by simp [this, asBool], he a (by simp [Op.operands])⟩
    · rename_i hb; rw [hb] at hc; have := hc.bool_inv; cases hr
      exact ⟨ev b, by simp [this, asBool], he b (by simp [Op.operands])⟩
    · cases hr
  case build t ps =>
    obtain ⟨q, h1, h2⟩ := buildA_run (ps := ps.toList) (ev := ev) (fun x hx => he x hx) hr w
    refine ⟨q, wrapV ?_, h2⟩
    have e : (ps.map fun (x : Nat × Operand) => (x.1, ev x.2)) = (ps.toList.map fun p => (p.1, ev p.2)).toArray := by
      apply Array.ext'
      rw [Array.toList_map]
    rw [← e] at h1
    exact h1
  case load t a =>
    have ha := he a (by simp [Op.operands])
    split at hr
    · rename_i id off hp; rw [hp] at ha
      obtain ⟨L, hL, e⟩ := ha.ptr_inv
      obtain ⟨q, h1, h2⟩ := h.loadVar hL hr
      exact ⟨q, wrapV (by simp [Instr.loadAt, e, Instr.sureAddr, h1]), h2⟩
    · cases hr
  case nilCheck x =>
    have hx := he x (by simp [Op.operands])
    split at hr
    · rename_i id off hp; rw [hp] at hx; cases hr
      obtain ⟨L, hL, e⟩ := hx.ptr_inv
      exact ⟨_, by rw [e]; rfl, .ptr id off L hL⟩
    · rename_i f a c hp; rw [hp] at hx; cases hr
      generalize ev x = q at hx
      cases hx with | fn _ _ _ x' c' h1 h2 => exact ⟨_, rfl, .fn _ _ _ _ _ h1 h2⟩
    · rename_i t v hp; rw [hp] at hx; cases hr
      generalize ev x = q at hx
      cases hx with | iface _ _ u hu => exact ⟨_, rfl, .iface _ _ _ hu⟩
    · cases hr
  case binOp op t x y t' =>
    obtain ⟨q, h1, h2⟩ := binA_run h (he x (by simp [Op.operands])) (he y (by simp [Op.operands])) hr
    exact ⟨q, wrapV h1, h2⟩
  case unOp op t x =>
    have hx := he x (by simp [Op.operands])
    split at hr
    · rename_i b hp; rw [hp] at hx; rw [hx.bool_inv]
      obtain ⟨q, h1, h2⟩ := scal_run (ρ := ρ) hr w
      exact ⟨q, wrapV h1, h2⟩
    · rename_i k n hp; rw [hp] at hx; rw [hx.int_inv]
      obtain ⟨q, h1, h2⟩ := scal_run (ρ := ρ) hr w
      exact ⟨q, wrapV h1, h2⟩
    · rename_i k n hp; rw [hp] at hx; rw [hx.flt_inv]
      obtain ⟨q, h1, h2⟩ := scal_run (ρ := ρ) hr w
      exact ⟨q, wrapV h1, h2⟩
    · rename_i e hp; rw [hp] at hx
      split at hr
      · cases hr
        have hxv : ev x = .bool (e.den ρ.sg).bool := by
          revert hx
          generalize ev x = y
          intro hx
          cases hx
          rfl
        rw [hxv]
        exact ⟨.bool (!(e.den ρ.sg).bool), by simp [Op.unary], h.tst (.not e)⟩
      · cases hr
    · cases hr
  case convert s d x =>
    obtain ⟨q, h1, h2⟩ := conv_run h (he x (by simp [Op.operands])) hr
    exact ⟨q, wrapV h1, h2⟩
  case makeInterface t x =>
    have hx := he x (by simp [Op.operands])
    split at hr
    · cases hr
    · rename_i d hn hty
      split at hr
      · cases hr
      · cases hr
        refine ⟨.iface t (ev x), wrapV ?_, .iface _ _ _ hx⟩
        simp only [Instr.makeInterface, Sem.run_bind, run_underlying hty, Result.andThen_ok]
        cases d <;> first | rfl | exact absurd rfl (hn _)
    · cases hr
  case makeFunc f first cap =>
    split at hr
    · cases hr
      refine ⟨_, wrapV rfl, .fn _ _ _ _ _ ?_ ?_⟩
      · simpa using all_eval (ev := ev) fun x hx => he x (by simp [Op.operands] at hx ⊢; exact .inl hx)
      · simpa using all_eval (ev := ev) fun x hx => he x (by simp [Op.operands] at hx ⊢; exact .inr hx)
    · cases hr
  case slice t x lo hi mx =>
    split at hr
    · obtain ⟨q, h1, h2⟩ := sliceS_run h (ev := ev) (he x (by simp [Op.operands])) (fun y hy => he y (by simp [Op.operands]; rcases hy with rfl | rfl | rfl <;> simp)) hr
      exact ⟨q, wrapV h1, h2⟩
    · obtain ⟨q, h1, h2⟩ := sliceA_run (ev := ev) (he x (by simp [Op.operands])) (fun y hy => he y (by simp [Op.operands]; rcases hy with rfl | rfl | rfl <;> simp)) hr w
      exact ⟨q, wrapV h1, h2⟩
  case fieldAddr s x f =>
    have hx := he x (by simp [Op.operands])
    split at hr
    · rename_i id off o' hp ho; rw [hp] at hx; cases hr
      obtain ⟨q, h1, h2⟩ := fieldAddr_run hx ho w
      exact ⟨q, wrapV h1, h2⟩
    · cases hr
  case field s x f =>
    have hx := he x (by simp [Op.operands])
    split at hr
    · rename_i cs t o' hp ho; rw [hp] at hx
      obtain ⟨q, h1, h2⟩ := field_run hx ho hr w
      exact ⟨q, wrapV h1, h2⟩
    · cases hr
  case indexAddr t x i =>
    obtain ⟨q, h1, h2⟩ := indexAddr_run (he x (by simp [Op.operands])) (he i (by simp [Op.operands])) hr w
    exact ⟨q, wrapV h1, h2⟩
  case index t x i =>
    split at hr
    · obtain ⟨q, h1, h2⟩ := indexS_run h (he x (by simp [Op.operands])) (he i (by simp [Op.operands])) hr
      exact ⟨q, wrapV h1, h2⟩
    · obtain ⟨q, h1, h2⟩ := index_run (he x (by simp [Op.operands])) (he i (by simp [Op.operands])) hr w
      exact ⟨q, wrapV h1, h2⟩
  case lookup t m k ok =>
    obtain ⟨q, h1, h2⟩ := lookup_run h (he m (by simp [Op.operands])) (he k (by simp [Op.operands])) hr
    exact ⟨q, wrapV h1, h2⟩
  case typeAssert x xt t ok =>
    obtain ⟨q, h1, h2⟩ := assert_run (xt := xt) (he x (by simp [Op.operands])) hr w
    exact ⟨q, wrapV h1, h2⟩
  case extract t i =>
    have hx := he t (by simp [Op.operands])
    split at hr
    · rename_i vs hp; rw [hp] at hx
      obtain ⟨q, h1, h2⟩ := extract_run hx (Rs.of_ok hr) w
      exact ⟨q, wrapV h1, h2⟩
    · cases hr
  case call c =>
    split at hr
    · rename_i b hb
      have := pureBuiltin_run h (o := o) (ev := ev) hop hb (fun x hx => he x (by simp only [Op.operands, Call.operands, hb]; simpa using hx)) hr
      obtain ⟨q, h1, h2⟩ := this
      refine ⟨q, ?_, h2⟩
      unfold execOp at h1
      rw [hop] at h1
      exact h1
    · cases hr
/- ROWS. -/
theorem lay_row {l : List AV} {vs : List Value} (h : VRs ρ l vs) {i : Nat} {a : AV} (hg : (PT.lay l 0 .nil).get i = some a) : i < l.length ∧ ∃ v, vs[i]? = some v ∧ VR ρ a v := by
  rcases PT.get_lay hg with ⟨_, h1⟩ | ⟨_, h1⟩
  · have hlt := (List.getElem?_eq_some_iff.1 h1).1
    obtain ⟨v, h2, h3⟩ := h.get h1
    exact ⟨by simpa using hlt, v, by simpa using h2, h3⟩
  · cases h1
theorem mkRow_cl0 (l : List AV) (e : TypeId) : (mkRow l e).cl0 := by
  intro cs n e' fz cl rel h
  cases h
theorem mkRow_OR {l : List AV} {c : Array Value} (h : VRs ρ l c.toList) (e : TypeId) (b : Nat) : OR ρ ⟨b, c.size, 0⟩ (mkRow l e) (.cells c e) := by
  refine ⟨c, 0, 0, rfl, rfl, fun _ => rfl, fun i a hg => ?_, fun _ => ⟨rfl, rfl⟩, fun h1 => by cases h1⟩
  obtain ⟨h1, v, h2, h3⟩ := lay_row h hg
  exact ⟨h1, v, by simpa using h2, h3⟩
theorem rep_len (n : Nat) (z : List AV) : (rep n z).length = n * z.length := by
  induction n with
  | zero => simp [rep]
  | succ n ih => simp [rep, ih, Nat.succ_mul]; omega
def repV (n : Nat) (z : List Value) : List Value := match n with
  | 0 => []
  | n + 1 => z ++ repV n z
theorem rep_rel {z : List AV} {v : List Value} (h : VRs ρ z v) : ∀ n, VRs ρ (rep n z) (repV n v)
  | 0 => .nil
  | n + 1 => h.append (rep_rel h n)
theorem repV_get (z : List Value) : ∀ (n i : Nat), i < n * z.length → (repV n z)[i]? = z[i % z.length]?
  | 0, i, h => by simp at h
  | n + 1, i, h => by
    simp only [repV]
    by_cases hi : i < z.length
    · rw [List.getElem?_append_left hi, Nat.mod_eq_of_lt hi]
    · rw [List.getElem?_append_right (by omega), repV_get z n (i - z.length) (by rw [Nat.succ_mul] at h; omega)]
      congr 1
      have : i = (i - z.length) + z.length := by omega
      conv => rhs; rw [this, Nat.add_mod_right]
theorem repV_len (n : Nat) (z : List Value) : (repV n z).length = n * z.length := by
  induction n with
  | zero => simp [repV]
  | succ n ih => simp [repV, ih, Nat.succ_mul]; omega
theorem zero_row (z : Array Value) (n : Nat) : ((Array.range (n * z.size)).map (z[· % z.size]!)) = (repV n z.toList).toArray := by
  apply Array.ext
  · simp [repV_len]
  · intro i h1 h2
    simp only [Array.size_map, Array.size_range] at h1
    have hz : 0 < z.size := by
      rcases Nat.eq_zero_or_pos z.size with h | h
      · rw [h] at h1; simp at h1
      · exact h
    have hm : i % z.size < z.size := Nat.mod_lt _ hz
    have := repV_get z.toList n i (by simpa using h1)
    simp only [Array.getElem_map, Array.getElem_range]
    have h3 : (repV n z.toList).toArray[i]? = z.toList[i % z.toList.length]? := by simpa using this
    rw [Array.getElem?_eq_getElem h2] at h3
    simp only [Array.length_toList, Array.getElem?_toList] at h3
    rw [Array.getElem?_eq_getElem hm] at h3
    rw [getElem!_pos z _ hm]
    exact (Option.some.inj h3).symm
end
end Go.Proofs.YteegpmimbbgdlaaGreatDoor.Ab
