/- ParserNone: without operators' table, or outside of the text, nothing is read: the law answers true, for every input that its row lets in. -/
import Derived.Test.YtmglkdekjkgflaaGreatDoorPaRunA
import Derived.Test.YtmglkdekjkgflaaGreatDoorPaRunB
import Derived.Test.YtmglkdekjkgflaaGreatDoorPaRunC
import Derived.Test.YtmglkdekjkgflaaGreatDoorCards
import Derived.Test.YtmglkdekjkgflaaGreatDoorTie
namespace Go.Proofs.YtmglkdekjkgflaaGreatDoor
open Go Go.Proofs.YtmglkdekjkgflaaGreatDoor.Ab Go.ChangeShapes Go.WideShapes Go.ChangeAt Go.RowKit
open Go.ChangeMaps (open_string)
namespace Pa
theorem own : ownKnob Tryz.prog.godebug = none := by kernel_rfl
theorem types_ok : typesOk Tryz.prog = true := by kernel_rfl
theorem spec : LawSpec Rows.parserNoneSpec 2 := ⟨rfl, fun H ds h => by
  match ds, h with
  | [d1, d2], _ => rfl⟩
theorem body : ∃ c, Tryz.f4.body = some c := ⟨_, rfl⟩
theorem noHandles : (Rows.parserNoneRow.laid.filter fun x => x.2.handleName?.isSome).isEmpty = true := by kernel_rfl
theorem paramsOk : ∀ t ∈ Tryz.f4.params.toList, t < Tryz.prog.types.size := by
  rw [Tryz.params4]
  intro t ht
  have h : ([9, 3].all fun t => decide (t < Tryz.prog.types.size)) = true := by kernel_rfl
  exact of_decide_eq_true (List.all_eq_true.1 h t ht)
def sg (l : List UInt8) (n : Int) : Sg := ⟨fun i => match i with | 0 => .s l | _ => .i n, fun _ _ _ _ => .i 0⟩
theorem d_ge (l : List UInt8) (n : Int) : (ge.den (sg l n)).bool = decide (n ≥ 0) := rfl
theorem d_le (l : List UInt8) (n : Int) : (le.den (sg l n)).bool = decide (n ≤ (l.length : Int)) := rfl
theorem d_lt (l : List UInt8) (n : Int) : (lt.den (sg l n)).bool = decide (n < 0) := rfl
theorem d_gt (l : List UInt8) (n : Int) : (gt.den (sg l n)).bool = decide (n > (l.length : Int)) := rfl
theorem run (l : List UInt8) (n : Int) : ∃ fx : List (SX × Bool), (∀ p ∈ fx, (p.1.den (sg l n)).bool = p.2) ∧ saysTrue ((ev env 100000).call 4 [.sx (.v 0), .ix .i64 (.v 1)] (seed env.P Rows.parserNoneRow.laid env.ro fx)) = true := by
  by_cases h0 : n ≥ 0
  · by_cases h1 : n ≤ (l.length : Int)
    · refine ⟨_, fun p hp => ?_, runA⟩
      simp only [List.mem_cons, List.mem_nil_iff, or_false] at hp
      rcases hp with rfl | rfl
      · rw [d_ge]; exact decide_eq_true h0
      · rw [d_le]; exact decide_eq_true h1
    · refine ⟨_, fun p hp => ?_, runC⟩
      simp only [List.mem_cons, List.mem_nil_iff, or_false] at hp
      rcases hp with rfl | rfl | rfl | rfl
      · rw [d_ge]; exact decide_eq_true h0
      · rw [d_le]; exact decide_eq_false h1
      · rw [d_lt]; exact decide_eq_false (by omega)
      · rw [d_gt]; exact decide_eq_true (by omega)
  · refine ⟨_, fun p hp => ?_, runB⟩
    simp only [List.mem_cons, List.mem_nil_iff, or_false] at hp
    rcases hp with rfl | rfl
    · rw [d_ge]; exact decide_eq_false h0
    · rw [d_lt]; exact decide_eq_true (by omega)
set_option maxRecDepth 100000 in
theorem contract (H : Type) (enc : TypeId × Value → H) (W : World) (base : Nat) (args : Array Value) (ds gs : List (DataW H)) (before : List MemPlace)
    (hval : ∀ (j : Nat) t v, Tryz.f4.params[j]? = some t → args[j]? = some v → Value.okWide Tryz.prog W .any base t v)
    (hW : DataW.Whole enc Tryz.prog Tryz.f4.params.toList Rows.parserNoneSpec.vars false W args.toList ds gs before) (hL : laidMetH Tryz.prog Rows.parserNoneRow.laid W) (hsh : W.ShapedOpen Tryz.prog) :
    Calls Tryz.prog 4 args W fun e W' => ∃ v, e = .returned v ∧ Rows.parserNoneSpec.post enc Tryz.prog Tryz.f4 false true false false W args v W' := by
  have hW' := hW
  obtain ⟨p, q, hA0, _, _, _, _⟩ := hW
  have hA : DataW.TrodAll enc Tryz.prog W 0 (fun _ => true) true Tryz.f4.params.toList args.toList ds p := hA0
  rw [Tryz.params4] at hA hval
  obtain ⟨v0, vs0, d0, ds0, p0, q0, hargs, rfl, rfl, h0, r0⟩ := trodAll_cons hA
  obtain ⟨v1, vs1, d1, ds1, p1, q1, rfl, rfl, rfl, h1, r1⟩ := trodAll_cons r0
  obtain ⟨rfl, rfl, rfl⟩ := trodAll_nil r1
  obtain rfl : args = #[v0, v1] := by cases args; simp_all
  have k0 : Value.okWide Tryz.prog W .any base 9 v0 := hval 0 9 v0 (by simp) (by simp)
  have k1 : Value.okWide Tryz.prog W .any base 3 v1 := hval 1 3 v1 (by simp) (by simp)
  obtain ⟨s, rfl, _, _, _⟩ := open_string Tryz.underlying9 k0 h0
  obtain ⟨n, rfl, _, _, _⟩ := open_int Tryz.underlying3 k1 h1
  obtain ⟨fx, hfx, hrun⟩ := run s.data.toList n
  have es : s = ⟨⟨s.data.toList⟩⟩ := by cases s; simp
  have e0 : ∀ W : World, VR (rho0 env.P.globals.size W (sg s.data.toList n)) (.sx (.v 0)) (.string s) := fun W => by
    have := VR.sx (ρ := rho0 env.P.globals.size W (sg s.data.toList n)) (.v 0)
    exact es ▸ this
  have e1 : ∀ W : World, VR (rho0 env.P.globals.size W (sg s.data.toList n)) (.ix .i64 (.v 1)) (.int .i64 n) := fun W => VR.ix (ρ := rho0 env.P.globals.size W (sg s.data.toList n)) .i64 (.v 1)
  obtain ⟨c, hc⟩ := body
  exact law_calls (E := env) fits noHandles rfl (Nat.le_refl _) rows_ok Tryz.func4 hc hfx (saysTrue_spec hrun) spec (by kernel_rfl) Tryz.underlying4 types_ok paramsOk hW' hL hsh (.cons _ _ _ _ (e0 W) (.cons _ _ _ _ (e1 W) .nil))
end Pa
end Go.Proofs.YtmglkdekjkgflaaGreatDoor
