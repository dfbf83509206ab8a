/- LexerChars: the law answers true, for every input that its row lets in. -/
import Derived.Test.YteegpmimbbgdlaaGreatDoorChLaw
import Derived.Test.YteegpmimbbgdlaaGreatDoorCards
import Derived.Test.YteegpmimbbgdlaaGreatDoorTie
namespace Go.Proofs.YteegpmimbbgdlaaGreatDoor
open Go Go.Proofs.YteegpmimbbgdlaaGreatDoor.Ab Go.ChangeShapes Go.WideShapes Go.ChangeAt Go.RowKit
namespace Ch
theorem own : ownKnob Tryz.prog.godebug = none := by kernel_rfl
theorem types_ok : typesOk Tryz.prog = true := by kernel_rfl
theorem spec : LawSpec Rows.lexerCharsSpec 1 := ⟨rfl, fun H ds h => by
  match ds, h with
  | [d1], _ => rfl⟩
theorem noHandles : (Rows.lexerCharsRow.laid.filter fun x => x.2.handleName?.isSome).isEmpty = true := by kernel_rfl
theorem paramsOk : ∀ t ∈ Tryz.f9.params.toList, t < Tryz.prog.types.size := by
  rw [Tryz.params9]
  intro t ht
  have h : ([3].all fun t => decide (t < Tryz.prog.types.size)) = true := by kernel_rfl
  exact of_decide_eq_true (List.all_eq_true.1 h t ht)
set_option maxRecDepth 100000 in
theorem contract (H : Type) (enc : TypeId × Value → H) (W : World) (base : Nat) (args : Array Value) (ds gs : List (DataW H)) (before : List MemPlace)
    (hval : ∀ (j : Nat) t v, Tryz.f9.params[j]? = some t → args[j]? = some v → Value.okWide Tryz.prog W .any base t v)
    (hW : DataW.Whole enc Tryz.prog Tryz.f9.params.toList Rows.lexerCharsSpec.vars false W args.toList ds gs before)
    (hL : laidMetH Tryz.prog Rows.lexerCharsRow.laid W) (hsh : W.ShapedOpen Tryz.prog) :
    Calls Tryz.prog 9 args W fun e W' => ∃ v, e = .returned v ∧ Rows.lexerCharsSpec.post enc Tryz.prog Tryz.f9 false true false false W args v W' := by
  have hW' := hW
  obtain ⟨p, q, hA0, _, _, _, _⟩ := hW
  have hA : DataW.TrodAll enc Tryz.prog W 0 (fun _ => true) true Tryz.f9.params.toList args.toList ds p := hA0
  rw [Tryz.params9] at hA hval
  obtain ⟨v0, vs0, d0, ds0, p0, q0, hargs, rfl, rfl, h0, r0⟩ := trodAll_cons hA
  obtain ⟨rfl, rfl, rfl⟩ := trodAll_nil r0
  obtain rfl : args = #[v0] := by cases args; simp_all
  have k0 : Value.okWide Tryz.prog W .any base 3 v0 := hval 0 3 v0 (by simp) (by simp)
  obtain ⟨n, rfl, _, _, _⟩ := open_int Tryz.underlying3 k0 h0
  have hL2 : laidMet Tryz.prog Rows.lexerQuotesRow.laid W := laidMet_of_H noHandles hL
  refine (Tryz.lawChars n W hL2 hsh).mono fun e W' ⟨h1, h2⟩ => ⟨_, h1, ?_⟩
  exact law_post spec (by kernel_rfl) Tryz.underlying4 types_ok paramsOk hW' h2
end Ch
end Go.Proofs.YteegpmimbbgdlaaGreatDoor
