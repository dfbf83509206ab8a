/- ParserSkips: the law answers true, for every input that its row lets in. -/
import Derived.Test.YtnipmfaikiaipaaGreatDoorPsLaw
import Derived.Test.YtnipmfaikiaipaaGreatDoorCards
import Derived.Test.YtnipmfaikiaipaaGreatDoorTie
import Derived.SizedLaws
namespace Go.Proofs.YtnipmfaikiaipaaGreatDoor
open Go Go.Proofs.YtnipmfaikiaipaaGreatDoor.Ab Go.ChangeShapes Go.WideShapes Go.ChangeAt Go.RowKit
open Go.ChangeMaps (open_string)
namespace Ps
theorem own : ownKnob Tryz.prog.godebug = none := by kernel_rfl
theorem types_ok : typesOk Tryz.prog = true := by kernel_rfl
theorem spec : LawSpec Rows.parserSkipsSpec 2 := ⟨rfl, fun H ds h => by
  match ds, h with
  | [d0, d1], _ => rfl⟩
theorem noHandles : (Rows.parserSkipsRow.laid.filter fun x => x.2.handleName?.isSome).isEmpty = true := by kernel_rfl
theorem paramsOk : ∀ t ∈ Tryz.f3.params.toList, t < Tryz.prog.types.size := by
  rw [Tryz.params3]
  intro t ht
  have h : ([9, 3].all fun t => decide (t < Tryz.prog.types.size)) = true := by kernel_rfl
  exact of_decide_eq_true (List.all_eq_true.1 h t ht)
set_option maxRecDepth 100000 in
theorem contract (H : Type) (enc : TypeId × Value → H) (W : World) (base : Nat) (args : Array Value) (ds gs : List (DataW H)) (before : List MemPlace)
    (hval : ∀ (j : Nat) t v, Tryz.f3.params[j]? = some t → args[j]? = some v → Value.okWide Tryz.prog W .any base t v)
    (hW : DataW.Whole enc Tryz.prog Tryz.f3.params.toList Rows.parserSkipsSpec.vars false W args.toList ds gs before)
    (hsz : (DataW.weightsEach Tryz.prog (Tryz.f3.params.toList ++ (OpenSpec.ofChange Rows.parserSkipsSpec).bare.plain.varTypes Tryz.prog) (ds ++ gs)).all (· ≤ reachBytes) = true)
    (hL : laidMetH Tryz.prog Rows.parserSkipsRow.laid W) (hsh : W.ShapedOpen Tryz.prog) :
    Calls Tryz.prog 3 args W fun e W' => ∃ v, e = .returned v ∧ Rows.parserSkipsSpec.post enc Tryz.prog Tryz.f3 false true false false W args v W' := by
  have hW' := hW
  obtain ⟨p, q, hA0, _, _, _, _⟩ := hW
  have hA : DataW.TrodAll enc Tryz.prog W 0 (fun _ => true) true Tryz.f3.params.toList args.toList ds p := hA0
  rw [Tryz.params3] at hA hval hsz
  obtain ⟨v0, vs0, d0, ds0, p0, q0, hargs0, rfl, rfl, h0, r0⟩ := trodAll_cons hA
  obtain ⟨v1, vs1, d1, ds1, p1, q1, hargs1, rfl, rfl, h1, r1⟩ := trodAll_cons r0
  subst hargs1
  obtain ⟨rfl, rfl, rfl⟩ := trodAll_nil r1
  obtain rfl : args = #[v0, v1] := by cases args; simp_all
  have k0 : Value.okWide Tryz.prog W .any base 9 v0 := hval 0 9 v0 (by simp) (by simp)
  have k1 : Value.okWide Tryz.prog W .any base 3 v1 := hval 1 3 v1 (by simp) (by simp)
  obtain ⟨s0, rfl, rfl, _, _⟩ := open_string Tryz.underlying9 k0 h0
  have y0 := sized_string hsz (j := 0) (t := 9) rfl rfl
  have z0 : s0.size ≤ 4611686018427387904 := by
    have h1 : s0.data.toList.length = s0.size := by simp
    have h2 : reachBytes ≤ 4611686018427387904 := by decide
    omega
  obtain ⟨n1, rfl, rfl, _, z1⟩ := open_int Tryz.underlying3 k1 h1
  have hL2 : laidMet Tryz.prog Rows.parserSkipsRow.laid W := laidMet_of_H noHandles hL
  refine (lawSkipsAt s0 n1 W z0 z1 hL2 hsh).mono fun e W' ⟨h1, h2⟩ => ⟨_, h1, ?_⟩
  exact law_post spec (by kernel_rfl) Tryz.underlying4 types_ok paramsOk hW' h2
end Ps
end Go.Proofs.YtnipmfaikiaipaaGreatDoor
