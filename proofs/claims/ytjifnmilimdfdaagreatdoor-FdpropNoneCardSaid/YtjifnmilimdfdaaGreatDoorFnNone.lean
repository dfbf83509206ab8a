/- FdpropNone: the law answers true, for every input that its row lets in. -/
import Derived.Test.YtjifnmilimdfdaaGreatDoorFnRun
import Derived.Test.YtjifnmilimdfdaaGreatDoorTabA
import Derived.Test.YtjifnmilimdfdaaGreatDoorCards
import Derived.Test.YtjifnmilimdfdaaGreatDoorTie
namespace Go.Proofs.YtjifnmilimdfdaaGreatDoor
open Go Go.Proofs.YtjifnmilimdfdaaGreatDoor.Ab Go.ChangeShapes Go.WideShapes Go.ChangeAt Go.RowKit
namespace Fn
theorem own : ownKnob Tryz.prog.godebug = none := by kernel_rfl
theorem types_ok : typesOk Tryz.prog = true := by kernel_rfl
theorem spec : LawSpec Rows.fdpropNoneSpec 2 := ⟨rfl, fun H ds h => by
  match ds, h with
  | [d0, d1], _ => rfl⟩
theorem body : ∃ c, Tryz.f3.body = some c := ⟨_, rfl⟩
theorem noHandles : (Rows.fdpropNoneRow.laid.filter fun x => x.2.handleName?.isSome).isEmpty = true := by kernel_rfl
theorem paramsOk : ∀ t ∈ Tryz.f3.params.toList, t < Tryz.prog.types.size := by
  rw [Tryz.params3]
  intro t ht
  have h : ([3, 25].all fun t => decide (t < Tryz.prog.types.size)) = true := by kernel_rfl
  exact of_decide_eq_true (List.all_eq_true.1 h t ht)
theorem cells25 : Tryz.prog.cellsOf 25 = 6 := by kernel_rfl
set_option maxRecDepth 100000 in
theorem contract (H : Type) (enc : TypeId × Value → H) (W : World) (base : Nat) (args : Array Value) (ds gs : List (DataW H)) (before : List MemPlace)
    (hval : ∀ (j : Nat) t v, Tryz.f3.params[j]? = some t → args[j]? = some v → Value.okWide Tryz.prog W .any base t v)
    (hW : DataW.Whole enc Tryz.prog Tryz.f3.params.toList Rows.fdpropNoneSpec.vars false W args.toList ds gs before) (hL : laidMetH Tryz.prog Rows.fdpropNoneRow.laid W) (hsh : W.ShapedOpen Tryz.prog) :
    Calls Tryz.prog 3 args W fun e W' => ∃ v, e = .returned v ∧ Rows.fdpropNoneSpec.post enc Tryz.prog Tryz.f3 false true false false W args v W' := by
  have hW' := hW
  obtain ⟨p, q, hA0, _, _, _, _⟩ := hW
  have hA : DataW.TrodAll enc Tryz.prog W 0 (fun _ => true) true Tryz.f3.params.toList args.toList ds p := hA0
  rw [Tryz.params3] at hA hval
  obtain ⟨v0, vs0, d0, ds0, p0, q0, hargs0, rfl, rfl, h0, r0⟩ := trodAll_cons hA
  obtain ⟨v1, vs1, d1, ds1, p1, q1, rfl, rfl, rfl, h1, r1⟩ := trodAll_cons r0
  obtain ⟨rfl, rfl, rfl⟩ := trodAll_nil r1
  obtain rfl : args = #[v0, v1] := by cases args; simp_all
  have k0 : Value.okWide Tryz.prog W .any base 3 v0 := hval 0 3 v0 (by simp) (by simp)
  have k1 : Value.okWide Tryz.prog W .any base 25 v1 := hval 1 25 v1 (by simp) (by simp)
  have e0 : ∀ ρ : Rho, VR ρ .any v0 := fun ρ => by
    obtain ⟨n, e, _⟩ := open_int Tryz.underlying3 k0 h0
    subst e
    exact .any _ rfl
  have e1 : ∀ ρ : Rho, VR ρ (.agg (List.replicate 6 .any)) v1 := fun ρ => anys_of_okWide Tryz.underlying25 k1 cells25
  have hv : ∀ ρ : Rho, VRs ρ [.any, .agg (List.replicate 6 .any)] [v0, v1] := fun ρ => (.cons _ _ _ _ (e0 ρ) (.cons _ _ _ _ (e1 ρ) .nil))
  obtain ⟨c, hc⟩ := body
  exact law_calls (E := env.memo (tabOf atab)) (σ := Rho.no.sg) afits noHandles rfl (Nat.le_refl _) rows_ok Tryz.func3 hc (fx := []) (fun p hp => by cases hp) (saysTrue_spec alaw_run) spec (by kernel_rfl) Tryz.underlying4 types_ok paramsOk hW' hL hsh (hv _)
end Fn
end Go.Proofs.YtjifnmilimdfdaaGreatDoor
