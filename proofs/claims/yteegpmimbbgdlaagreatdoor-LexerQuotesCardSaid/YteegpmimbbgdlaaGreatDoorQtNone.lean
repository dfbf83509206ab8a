/- LexerQuotes: the law answers true, for every input that its row lets in. -/
import Derived.Test.YteegpmimbbgdlaaGreatDoorQtLaw
import Derived.Test.YteegpmimbbgdlaaGreatDoorCards
import Derived.Test.YteegpmimbbgdlaaGreatDoorTie
import Derived.SizedLaws
namespace Go.Proofs.YteegpmimbbgdlaaGreatDoor
open Go Go.Proofs.YteegpmimbbgdlaaGreatDoor.Ab Go.ChangeShapes Go.WideShapes Go.ChangeAt Go.RowKit
open Go.ChangeMaps (open_string)
namespace Qt
theorem own : ownKnob Tryz.prog.godebug = none := by kernel_rfl
theorem types_ok : typesOk Tryz.prog = true := by kernel_rfl
theorem spec : LawSpec Rows.lexerQuotesSpec 1 := ⟨rfl, fun H ds h => by
  match ds, h with
  | [d1], _ => rfl⟩
theorem noHandles : (Rows.lexerQuotesRow.laid.filter fun x => x.2.handleName?.isSome).isEmpty = true := by kernel_rfl
theorem paramsOk : ∀ t ∈ Tryz.f7.params.toList, t < Tryz.prog.types.size := by
  rw [Tryz.params7]
  intro t ht
  have h : ([9].all fun t => decide (t < Tryz.prog.types.size)) = true := by kernel_rfl
  exact of_decide_eq_true (List.all_eq_true.1 h t ht)
set_option maxRecDepth 100000 in
theorem contract (H : Type) (enc : TypeId × Value → H) (W : World) (base : Nat) (args : Array Value) (ds gs : List (DataW H)) (before : List MemPlace)
    (hval : ∀ (j : Nat) t v, Tryz.f7.params[j]? = some t → args[j]? = some v → Value.okWide Tryz.prog W .any base t v)
    (hW : DataW.Whole enc Tryz.prog Tryz.f7.params.toList Rows.lexerQuotesSpec.vars false W args.toList ds gs before)
    (hsz : (DataW.weightsEach Tryz.prog (Tryz.f7.params.toList ++ (OpenSpec.ofChange Rows.lexerQuotesSpec).bare.plain.varTypes Tryz.prog) (ds ++ gs)).all (· ≤ reachBytes) = true)
    (hL : laidMetH Tryz.prog Rows.lexerQuotesRow.laid W) (hsh : W.ShapedOpen Tryz.prog) :
    Calls Tryz.prog 7 args W fun e W' => ∃ v, e = .returned v ∧ Rows.lexerQuotesSpec.post enc Tryz.prog Tryz.f7 false true false false W args v W' := by
  have hW' := hW
  obtain ⟨p, q, hA0, _, _, _, _⟩ := hW
  have hA : DataW.TrodAll enc Tryz.prog W 0 (fun _ => true) true Tryz.f7.params.toList args.toList ds p := hA0
  rw [Tryz.params7] at hA hval hsz
  obtain ⟨v0, vs0, d0, ds0, p0, q0, hargs, rfl, rfl, h0, r0⟩ := trodAll_cons hA
  obtain ⟨rfl, rfl, rfl⟩ := trodAll_nil r0
  obtain rfl : args = #[v0] := by cases args; simp_all
  have k0 : Value.okWide Tryz.prog W .any base 9 v0 := hval 0 9 v0 (by simp) (by simp)
  obtain ⟨s, rfl, rfl, _, _⟩ := open_string Tryz.underlying9 k0 h0
  have hs := sized_string hsz (j := 0) (t := 9) rfl rfl
  have hs2 : s.size ≤ 4611686018427387904 := by
    have h1 : s.data.toList.length = s.size := by simp
    have h2 : reachBytes ≤ 4611686018427387904 := by decide
    omega
  refine (Tryz.lawQuotes s W hs2 (laidMet_of_H noHandles hL) hsh).mono fun e W' ⟨h1, h2⟩ => ⟨_, h1, ?_⟩
  exact law_post spec (by kernel_rfl) Tryz.underlying4 types_ok paramsOk hW' h2
end Qt
end Go.Proofs.YteegpmimbbgdlaaGreatDoor
