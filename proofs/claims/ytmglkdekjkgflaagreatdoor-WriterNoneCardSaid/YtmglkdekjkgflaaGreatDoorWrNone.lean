/- WriterNone: whatever the term and the options, without operators' table nothing is written: the law answers true, for every input that its row lets in. -/
import Derived.Test.YtmglkdekjkgflaaGreatDoorWrRun
import Derived.Test.YtmglkdekjkgflaaGreatDoorCards
import Derived.Test.YtmglkdekjkgflaaGreatDoorTie
namespace Go.Proofs.YtmglkdekjkgflaaGreatDoor
open Go Go.Proofs.YtmglkdekjkgflaaGreatDoor.Ab Go.ChangeShapes Go.WideShapes Go.ChangeAt Go.RowKit
namespace Wr
theorem own : ownKnob Tryz.prog.godebug = none := by kernel_rfl
theorem types_ok : typesOk Tryz.prog = true := by kernel_rfl
theorem spec : LawSpec Rows.writerNoneSpec 2 := ⟨rfl, fun H ds h => by
  match ds, h with
  | [d1, d2], _ => rfl⟩
theorem body : ∃ c, Tryz.f5.body = some c := ⟨_, rfl⟩
theorem cells28 : Tryz.prog.cellsOf 28 = 6 := by kernel_rfl
theorem cells45 : Tryz.prog.cellsOf 45 = 3 := by kernel_rfl
theorem noHandles : (Rows.writerNoneRow.laid.filter fun x => x.2.handleName?.isSome).isEmpty = true := by kernel_rfl
theorem paramsOk : ∀ t ∈ Tryz.f5.params.toList, t < Tryz.prog.types.size := by
  rw [Tryz.params5]
  intro t ht
  have h : ([28, 45].all fun t => decide (t < Tryz.prog.types.size)) = true := by kernel_rfl
  exact of_decide_eq_true (List.all_eq_true.1 h t ht)
set_option maxRecDepth 100000 in
theorem contract (H : Type) (enc : TypeId × Value → H) (W : World) (base : Nat) (args : Array Value) (ds gs : List (DataW H)) (before : List MemPlace)
    (hval : ∀ (j : Nat) t v, Tryz.f5.params[j]? = some t → args[j]? = some v → Value.okWide Tryz.prog W .any base t v)
    (hW : DataW.Whole enc Tryz.prog Tryz.f5.params.toList Rows.writerNoneSpec.vars false W args.toList ds gs before) (hL : laidMetH Tryz.prog Rows.writerNoneRow.laid W) (hsh : W.ShapedOpen Tryz.prog) :
    Calls Tryz.prog 5 args W fun e W' => ∃ v, e = .returned v ∧ Rows.writerNoneSpec.post enc Tryz.prog Tryz.f5 false true false false W args v W' := by
  have hW' := hW
  obtain ⟨p, q, hA0, _, _, _, _⟩ := hW
  have hA : DataW.TrodAll enc Tryz.prog W 0 (fun _ => true) true Tryz.f5.params.toList args.toList ds p := hA0
  rw [Tryz.params5] at hA hval
  obtain ⟨v0, vs0, d0, ds0, p0, q0, hargs, rfl, rfl, _, r0⟩ := trodAll_cons hA
  obtain ⟨v1, vs1, d1, ds1, p1, q1, rfl, rfl, rfl, _, r1⟩ := trodAll_cons r0
  obtain ⟨rfl, rfl, rfl⟩ := trodAll_nil r1
  obtain rfl : args = #[v0, v1] := by cases args; simp_all
  have k0 : Value.okWide Tryz.prog W .any base 28 v0 := hval 0 28 v0 (by simp) (by simp)
  have k1 : Value.okWide Tryz.prog W .any base 45 v1 := hval 1 45 v1 (by simp) (by simp)
  have e0 : ∀ ρ : Rho, VR ρ (.agg (List.replicate 6 .any)) v0 := fun ρ => anys_of_okWide Tryz.underlying28 k0 cells28
  have e1 : ∀ ρ : Rho, VR ρ (.agg (List.replicate 3 .any)) v1 := fun ρ => anys_of_okWide Tryz.underlying45 k1 cells45
  have hv : ∀ ρ : Rho, VRs ρ [.agg (List.replicate 6 .any), .agg (List.replicate 3 .any)] [v0, v1] := fun ρ => .cons _ _ _ _ (e0 ρ) (.cons _ _ _ _ (e1 ρ) .nil)
  obtain ⟨c, hc⟩ := body
  refine law_calls (E := env) fits noHandles rfl (Nat.le_refl _) rows_ok Tryz.func5 hc (saysTrue_spec writer_run) spec (by kernel_rfl) Tryz.underlying4 types_ok paramsOk hW' hL hsh (hv _)
end Wr
end Go.Proofs.YtmglkdekjkgflaaGreatDoor
