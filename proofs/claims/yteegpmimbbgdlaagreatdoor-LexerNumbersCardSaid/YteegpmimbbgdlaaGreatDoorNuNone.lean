/- LexerNumbers: the law answers true, for every input that its row lets in. -/
import Derived.Test.YteegpmimbbgdlaaGreatDoorNuLaw
import Derived.Test.YteegpmimbbgdlaaGreatDoorCards
import Derived.Test.YteegpmimbbgdlaaGreatDoorTie
import Derived.SizedLaws
import Derived.Lib.SmallJoins
import Derived.ChangeSlices
namespace Go.Proofs.YteegpmimbbgdlaaGreatDoor
open Go Go.Proofs.YteegpmimbbgdlaaGreatDoor.Ab Go.ChangeShapes Go.WideShapes Go.ChangeAt Go.RowKit
open Go.Joins (open_agg2)
open Go.Deep (oneCellFields)
namespace Nu
theorem own : ownKnob Tryz.prog.godebug = none := by kernel_rfl
theorem types_ok : typesOk Tryz.prog = true := by kernel_rfl
theorem spec : LawSpec Rows.lexerNumbersSpec 1 := ⟨rfl, fun H ds h => by
  match ds, h with
  | [d1], _ => rfl⟩
theorem noHandles : (Rows.lexerNumbersRow.laid.filter fun x => x.2.handleName?.isSome).isEmpty = true := by kernel_rfl
theorem paramsOk : ∀ t ∈ Tryz.f8.params.toList, t < Tryz.prog.types.size := by
  rw [Tryz.params8]
  intro t ht
  have h : ([41].all fun t => decide (t < Tryz.prog.types.size)) = true := by kernel_rfl
  exact of_decide_eq_true (List.all_eq_true.1 h t ht)
theorem cellTypes41 : Tryz.prog.cellTypes Tryz.prog.depth 41 = some [4, 39] := by kernel_rfl
theorem cells41 : Tryz.prog.cellsOf 41 = 2 := by kernel_rfl
theorem cells67 : Tryz.prog.cellsOf 67 = 1 := by kernel_rfl
theorem bytes67 : Tryz.prog.bytesOf 67 = 4 := by kernel_rfl
theorem fields41 : ∃ f0 f1 : Field, Tryz.prog.underlying 41 = some (.struct #[f0, f1]) ∧ f0.type = 4 ∧ f1.type = 39 ∧ oneCellFields Tryz.prog #[f0, f1] = true := ⟨_, _, Tryz.underlying41, rfl, rfl, by kernel_rfl⟩
/-- A number of given limbs. -/
theorem limbs_of : ∀ (m : Nat) (f : Nat → Nat), (∀ j, j < m → f j < Bg.B) → ∃ x, x < Bg.B ^ m ∧ ∀ j, j < m → Bg.limb x j = f j
  | 0, _, _ => ⟨0, by simp, fun j h => by omega⟩
  | m + 1, f, hf => by
    obtain ⟨x, h1, h2⟩ := limbs_of m (fun j => f (j + 1)) (fun j hj => hf (j + 1) (by omega))
    have h0 := hf 0 (by omega)
    refine ⟨f 0 + Bg.B * x, ?_, fun j hj => ?_⟩
    · have e : Bg.B ^ (m + 1) = Bg.B * Bg.B ^ m := by rw [Nat.pow_succ, Nat.mul_comm]
      rw [e]
      have : Bg.B * (x + 1) ≤ Bg.B * Bg.B ^ m := Nat.mul_le_mul_left _ h1
      rw [Nat.mul_add, Nat.mul_one] at this
      omega
    · cases j with
      | zero =>
        unfold Bg.limb
        rw [Nat.pow_zero, Nat.div_one, Nat.add_mul_mod_self_left, Nat.mod_eq_of_lt h0]
      | succ j =>
        rw [← h2 j (by omega)]
        unfold Bg.limb
        rw [Nat.pow_succ, Nat.mul_comm (Bg.B ^ j), ← Nat.div_div_eq_div_mul, Nat.add_mul_div_left _ _ Bg.B_pos, Nat.div_eq_of_lt h0, Nat.zero_add]
set_option maxRecDepth 100000 in
theorem spot_of {W : World} {base : Nat} {neg : Bool} {a : Addr} {n c : Nat} (h : Row.okWide Tryz.prog W .any base 41 #[.bool neg, .slice (some a) n c]) : a.spot = none := by
  obtain ⟨ts, h1, _, h2⟩ := h
  obtain rfl := Option.some.inj (h1.symm.trans cellTypes41)
  obtain ⟨u, h3, h4⟩ := h2 1 _ rfl
  obtain rfl : 39 = u := by simpa using h3
  unfold Cell.okWide at h4
  rw [Tryz.underlying39] at h4
  unfold Cell.ok at h4
  rw [Tryz.underlying39] at h4
  exact h4.2.2.2.1
set_option maxRecDepth 100000 in
/-- The argument: an integer of any limbs. -/
theorem open_int41 {H : Type} {enc : TypeId × Value → H} {W : World} {base : Nat} {v : Value} {d : DataW H} {p : List MemPlace} (hval : Value.okWide Tryz.prog W .any base 41 v) (h : DataW.Trod enc Tryz.prog W 0 (fun _ => true) true 41 v d p)
    (hsz : ∀ n ∈ DataW.weights Tryz.prog 41 d, n ≤ reachBytes) :
    ∃ (neg : Bool) (sl : Value) (x m : Nat), v = .agg #[.bool neg, sl] ∧ m ≤ 70368744177664 ∧ LimV W sl x m := by
  obtain ⟨f0, f1, hu, t0, t1, hone⟩ := fields41
  obtain ⟨v0, v1, y0, y1, n, rfl, rfl, rfl, r0, r1⟩ := open_agg2 hu hone cells41 hval h
  rw [t0] at r0
  rw [t1] at r1
  obtain ⟨neg, hc0, _⟩ := DataW.trod_bool Tryz.underlying4 r0
  simp only [List.cons.injEq, and_true] at hc0
  subst hc0
  rcases open_ints Tryz.underlying39 Tryz.underlying67 cells67 r1 with ⟨hcs, hx⟩ | ⟨a, len, cap, zs, hcs, _, hl, hm, hz, hx, hcell, hwz⟩
  · simp only [List.cons.injEq, and_true] at hcs
    subst hcs
    exact ⟨neg, _, 0, 0, rfl, by omega, .inl ⟨rfl, rfl, rfl⟩⟩
  · simp only [List.cons.injEq, and_true] at hcs
    subst hcs
    simp only [if_true] at hz
    have hreach : cap * 4 ≤ 140737488351232 := by
      have h1 := hsz (((lits .u32 (zs.take len) : List (DataW H)).length + (lits .u32 (zs.drop len) : List (DataW H)).length) * Tryz.prog.bytesOf 67) (by
        rw [hx]
        simp [DataW.weights, DataW.weightsEach, hu, t1, Tryz.underlying39])
      rw [bytes67] at h1
      simp only [lits, List.length_map, List.length_take, List.length_drop, reachBytes] at h1
      omega
    have hsp : a.spot = none := by
      unfold Value.okWide at hval
      rw [hu] at hval
      obtain ⟨cs, e, _, hrow⟩ := hval
      cases e
      exact spot_of hrow
    obtain ⟨kb, ko, spot⟩ := a
    have hsp' : spot = none := hsp
    subst hsp'
    obtain ⟨x, hx1, hx2⟩ := limbs_of len (fun j => (zs.getD j 0).toNat) (fun j hj => by
      have h1 := hwz (zs.getD j 0) (by rw [List.getD_eq_getElem?_getD, List.getElem?_eq_getElem (by omega)]; exact List.getElem_mem _)
      simp only [Lit.wf, Bool.and_eq_true, decide_eq_true_eq] at h1
      have h2 : zs.getD j 0 ≤ 4294967295 := h1.2
      show (zs.getD j 0).toNat < 4294967296
      omega)
    refine ⟨neg, _, x, len, rfl, by omega, .inr ⟨kb, ko, cap, rfl, hl, hm, hx1, fun j hj => ?_⟩⟩
    have h1 := hcell j (by omega)
    rw [Addr.add_lit] at h1
    have h3 := hwz (zs.getD j 0) (by rw [List.getD_eq_getElem?_getD, List.getElem?_eq_getElem (by omega)]; exact List.getElem_mem _)
    simp only [Lit.wf, Bool.and_eq_true, decide_eq_true_eq] at h3
    have h4 : 0 ≤ zs.getD j 0 := h3.1
    rw [h1, hx2 j hj, Int.toNat_of_nonneg h4]
theorem lawNumbers (neg : Bool) (sl : Value) (x m : Nat) (w : World) (L0 : Laid0 w) (hm : m ≤ 70368744177664) (hv : Hid (LimV w sl x m)) : Calls Tryz.prog 8 #[.agg #[.bool neg, sl]] w (LawSays w) := by
  obtain ⟨m1, h1⟩ := tight_exists x
  by_cases h : sz x m1 ≤ 4096
  · exact Tryz.lawNumbers_ok neg sl x m w L0 hm hv (Lib.hid fun m' ht => by rw [ht.inj h1]; exact h)
  · exact Tryz.lawNumbers_big neg sl x m w L0 hm hv (Lib.hid fun m' ht => by rw [ht.inj h1]; omega)
set_option maxRecDepth 100000 in
theorem contract (H : Type) (enc : TypeId × Value → H) (W : World) (base : Nat) (args : Array Value) (ds gs : List (DataW H)) (before : List MemPlace)
    (hval : ∀ (j : Nat) t v, Tryz.f8.params[j]? = some t → args[j]? = some v → Value.okWide Tryz.prog W .any base t v)
    (hW : DataW.Whole enc Tryz.prog Tryz.f8.params.toList Rows.lexerNumbersSpec.vars false W args.toList ds gs before)
    (hsz : (DataW.weightsEach Tryz.prog (Tryz.f8.params.toList ++ (OpenSpec.ofChange Rows.lexerNumbersSpec).bare.plain.varTypes Tryz.prog) (ds ++ gs)).all (· ≤ reachBytes) = true)
    (hL : laidMetH Tryz.prog Rows.lexerNumbersRow.laid W) (hsh : W.ShapedOpen Tryz.prog) :
    Calls Tryz.prog 8 args W fun e W' => ∃ v, e = .returned v ∧ Rows.lexerNumbersSpec.post enc Tryz.prog Tryz.f8 false true false false W args v W' := by
  have hW' := hW
  obtain ⟨p, q, hA0, _, _, _, _⟩ := hW
  have hA : DataW.TrodAll enc Tryz.prog W 0 (fun _ => true) true Tryz.f8.params.toList args.toList ds p := hA0
  rw [Tryz.params8] at hA hval hsz
  obtain ⟨v0, vs0, d0, ds0, p0, q0, hargs, rfl, rfl, h0, r0⟩ := trodAll_cons hA
  obtain ⟨rfl, rfl, rfl⟩ := trodAll_nil r0
  obtain rfl : args = #[v0] := by cases args; simp_all
  have k0 : Value.okWide Tryz.prog W .any base 41 v0 := hval 0 41 v0 (by simp) (by simp)
  obtain ⟨neg, sl, x, m, rfl, hm, hlv⟩ := open_int41 k0 h0 (fun n hn => of_decide_eq_true (List.all_eq_true.1 hsz n (DataW.weights_mem_each (j := 0) rfl rfl n hn)))
  have hL2 : laidMet Tryz.prog Rows.lexerQuotesRow.laid W := laidMet_of_H noHandles hL
  have L0 := Laid0.of hL2 hsh
  refine (lawNumbers neg sl x m W L0 hm (Lib.hid hlv)).mono fun e W' ⟨h1, h2⟩ => ⟨_, h1, ?_⟩
  exact law_post spec (by kernel_rfl) Tryz.underlying4 types_ok paramsOk hW' h2
end Nu
end Go.Proofs.YteegpmimbbgdlaaGreatDoor
