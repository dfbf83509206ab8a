/- FdlabelNone: the law answers true, for every input that its row lets in. -/
import Derived.Test.YtjifnmilimdfdaaGreatDoorFlRun
import Derived.Test.YtjifnmilimdfdaaGreatDoorTabB
import Derived.Test.YtjifnmilimdfdaaGreatDoorCards
import Derived.Test.YtjifnmilimdfdaaGreatDoorTie
namespace Go.Proofs.YtjifnmilimdfdaaGreatDoor
open Go Go.Proofs.YtjifnmilimdfdaaGreatDoor.Ab Go.ChangeShapes Go.WideShapes Go.ChangeAt Go.RowKit
namespace Fl
theorem own : ownKnob Tryz.prog.godebug = none := by kernel_rfl
theorem types_ok : typesOk Tryz.prog = true := by kernel_rfl
theorem spec : LawSpec Rows.fdlabelNoneSpec 1 := ⟨rfl, fun H ds h => by
  match ds, h with
  | [d0], _ => rfl⟩
theorem body : ∃ c, Tryz.f4.body = some c := ⟨_, rfl⟩
theorem noHandles : (Rows.fdlabelNoneRow.laid.filter fun x => x.2.handleName?.isSome).isEmpty = true := by kernel_rfl
theorem paramsOk : ∀ t ∈ Tryz.f4.params.toList, t < Tryz.prog.types.size := by
  rw [Tryz.params4]
  intro t ht
  have h : ([55].all fun t => decide (t < Tryz.prog.types.size)) = true := by kernel_rfl
  exact of_decide_eq_true (List.all_eq_true.1 h t ht)
theorem cells55 : Tryz.prog.cellsOf 55 = 4 := by kernel_rfl
set_option maxRecDepth 100000 in
theorem contract (H : Type) (enc : TypeId × Value → H) (W : World) (base : Nat) (args : Array Value) (ds gs : List (DataW H)) (before : List MemPlace)
    (hval : ∀ (j : Nat) t v, Tryz.f4.params[j]? = some t → args[j]? = some v → Value.okWide Tryz.prog W .any base t v)
    (hW : DataW.Whole enc Tryz.prog Tryz.f4.params.toList Rows.fdlabelNoneSpec.vars false W args.toList ds gs before) (hL : laidMetH Tryz.prog Rows.fdlabelNoneRow.laid W) (hsh : W.ShapedOpen Tryz.prog) :
    Calls Tryz.prog 4 args W fun e W' => ∃ v, e = .returned v ∧ Rows.fdlabelNoneSpec.post enc Tryz.prog Tryz.f4 false true false false W args v W' := by
  have hW' := hW
  obtain ⟨p, q, hA0, _, _, _, _⟩ := hW
  have hA : DataW.TrodAll enc Tryz.prog W 0 (fun _ => true) true Tryz.f4.params.toList args.toList ds p := hA0
  rw [Tryz.params4] at hA hval
  obtain ⟨v0, vs0, d0, ds0, p0, q0, hargs0, rfl, rfl, h0, r0⟩ := trodAll_cons hA
  obtain ⟨rfl, rfl, rfl⟩ := trodAll_nil r0
  obtain rfl : args = #[v0] := by cases args; simp_all
  have k0 : Value.okWide Tryz.prog W .any base 55 v0 := hval 0 55 v0 (by simp) (by simp)
  have e0 : ∀ ρ : Rho, VR ρ (.agg (List.replicate 4 .any)) v0 := fun ρ => anys_of_okWide Tryz.underlying55 k0 cells55
  have hv : ∀ ρ : Rho, VRs ρ [.agg (List.replicate 4 .any)] [v0] := fun ρ => (.cons _ _ _ _ (e0 ρ) .nil)
  obtain ⟨c, hc⟩ := body
  exact law_calls (E := env.memo (tabOf btab)) (σ := Rho.no.sg) bfits noHandles rfl (Nat.le_refl _) rows_ok Tryz.func4 hc (fx := []) (fun p hp => by cases hp) (saysTrue_spec blaw_run) spec (by kernel_rfl) Tryz.underlying4 types_ok paramsOk hW' hL hsh (hv _)
end Fl
end Go.Proofs.YtjifnmilimdfdaaGreatDoor
