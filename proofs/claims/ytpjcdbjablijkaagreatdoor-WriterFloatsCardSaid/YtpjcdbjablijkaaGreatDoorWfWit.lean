import Derived.Test.YtpjcdbjablijkaaGreatDoorFlX
import Derived.Test.YtpjcdbjablijkaaGreatDoorCards
import Derived.Test.YtpjcdbjablijkaaGreatDoorTie
import Derived.SizedLaws
import Derived.ProofKit
/- WriterFloats: the law answers true, for every input that its row lets in. -/
namespace Go.Proofs.YtpjcdbjablijkaaGreatDoor
open Go Go.Proofs.YtpjcdbjablijkaaGreatDoor.Ab Go.ChangeShapes Go.WideShapes Go.ChangeAt Go.RowKit
open Go.ChangeMaps (open_string)
namespace Wf
theorem own : ownKnob Tryz.prog.godebug = none := by kernel_rfl
theorem types_ok : typesOk Tryz.prog = true := by kernel_rfl
theorem spec : LawSpec Rows.writerFloatsSpec 1 := ⟨rfl, fun H ds h => by
  match ds, h with
  | [d0], _ => rfl⟩
theorem noHandles : (Rows.writerFloatsRow.laid.filter fun x => x.2.handleName?.isSome).isEmpty = true := by kernel_rfl
theorem paramsOk : ∀ t ∈ Tryz.f3.params.toList, t < Tryz.prog.types.size := by
  rw [Tryz.params3]
  intro t ht
  have h : ([22].all fun t => decide (t < Tryz.prog.types.size)) = true := by kernel_rfl
  exact of_decide_eq_true (List.all_eq_true.1 h t ht)
set_option maxRecDepth 100000 in
theorem contract (H : Type) (enc : TypeId × Value → H) (W : World) (base : Nat) (args : Array Value) (ds gs : List (DataW H)) (before : List MemPlace)
    (hval : ∀ (j : Nat) t v, Tryz.f3.params[j]? = some t → args[j]? = some v → Value.okWide Tryz.prog W .any base t v)
    (hW : DataW.Whole enc Tryz.prog Tryz.f3.params.toList Rows.writerFloatsSpec.vars false W args.toList ds gs before)
    (hsz : (DataW.weightsEach Tryz.prog (Tryz.f3.params.toList ++ (OpenSpec.ofChange Rows.writerFloatsSpec).bare.plain.varTypes Tryz.prog) (ds ++ gs)).all (· ≤ reachBytes) = true)
    (hL : laidMetH Tryz.prog Rows.writerFloatsRow.laid W) (hsh : W.ShapedOpen Tryz.prog) :
    Calls Tryz.prog 3 args W fun e W' => ∃ v, e = .returned v ∧ Rows.writerFloatsSpec.post enc Tryz.prog Tryz.f3 false true false false W args v W' := by
  have hW' := hW
  obtain ⟨p, q, hA0, _, _, _, _⟩ := hW
  have hA : DataW.TrodAll enc Tryz.prog W 0 (fun _ => true) true Tryz.f3.params.toList args.toList ds p := hA0
  rw [Tryz.params3] at hA hval hsz
  obtain ⟨v0, vs0, d0, ds0, p0, q0, hargs0, rfl, rfl, h0, r0⟩ := trodAll_cons hA
  obtain ⟨rfl, rfl, rfl⟩ := trodAll_nil r0
  obtain rfl : args = #[v0] := by cases args; simp_all
  have k0 : Value.okWide Tryz.prog W .any base 22 v0 := hval 0 22 v0 (by simp) (by simp)
  obtain ⟨n0, rfl, rfl, _, z0⟩ := open_int Tryz.underlying22 k0 h0
  have hL2 : laidMet Tryz.prog Rows.writerFloatsRow.laid W := laidMet_of_H noHandles hL
  refine (lawFloats n0 W z0 hL2 hsh).mono fun e W' ⟨h1, h2⟩ => ⟨_, h1, ?_⟩
  exact law_post spec (by kernel_rfl) Tryz.underlying4 types_ok paramsOk hW' h2
end Wf
end Go.Proofs.YtpjcdbjablijkaaGreatDoor
/- WriterFloats: an input that fits its row. -/
namespace Go.Proofs.YtpjcdbjablijkaaGreatDoor
open Go Go.Proofs.YtpjcdbjablijkaaGreatDoor.Ab Go.ChangeShapes Go.WideShapes Go.ChangeAt Go.RowKit
namespace Wf
def wargs : Array Value := #[.int .u64 0]
theorem w_shaped (os : Os) : ((World.laidAll Tryz.prog os Rows.writerFloatsRow.laid).forCall (fun _ _ => 0) ⟨#[], wargs, []⟩).Shaped Tryz.prog := World.shaped_of_ZipB (by kernel_rfl) (by kernel_rfl)
theorem w_laid (os : Os) : laidMetH Tryz.prog Rows.writerFloatsRow.laid ((World.laidAll Tryz.prog os Rows.writerFloatsRow.laid).forCall (fun _ _ => 0) ⟨#[], wargs, []⟩).memory := by
  rw [MakeChecks.laidMetH_plain _ _ _ (by kernel_rfl)]
  exact laidMet_laidAll _ (by kernel_rfl) (by kernel_rfl)
theorem w_reads (os : Os) {H : Type} (enc : TypeId × Value → H) : (DataW.whole enc Tryz.prog ((World.laidAll Tryz.prog os Rows.writerFloatsRow.laid).forCall (fun _ _ => 0) ⟨#[], wargs, []⟩).memory Tryz.f3.params.toList Rows.writerFloatsSpec.vars false wargs.toList 8).isSome = true := by kernel_rfl
theorem funcNamed3 : Tryz.prog.funcNamed "hornbeam/hornbeamlaw06.WriterFloats" = some 3 := by kernel_rfl
theorem inst3 : Tryz.f3.isInstance Tryz.prog Rows.writerFloatsRow.origin Rows.writerFloatsRow.targs := of_decide_eq_true (by kernel_rfl)
theorem wrap3 : Tryz.f3.isWrapper Tryz.prog Rows.writerFloatsRow.wrapper Rows.writerFloatsRow.mainSum := by unfold Func.isWrapper; first | (rw [if_pos (by decide +kernel)]; kernel_rfl) | (rw [if_neg (by decide +kernel)]; exact ⟨rfl, rfl⟩)
theorem plain (f : FuncId) (fn : Func) (hf : Tryz.pinned.checked.prog.funcNamed "hornbeam/hornbeamlaw06.WriterFloats" = some f) (hfn : Tryz.pinned.checked.prog.funcs[f]? = some fn) :
    true = Tryz.pinned.checked.prog.looks [] ∧ ∀ (j : Nat) t, fn.params[j]? = some t → Tryz.pinned.checked.prog.wantsStandIn t = false := by
  obtain rfl : f = 3 := Option.some.inj (funcNamed3.symm.trans hf) |>.symm
  obtain rfl : fn = Tryz.f3 := (Option.some.inj (Tryz.func3.symm.trans hfn)).symm
  refine ⟨by kernel_rfl, fun j t ht => ?_⟩
  rw [Tryz.params3] at ht
  have hm : t ∈ [22] := by simpa using Array.mem_of_getElem? ht
  have hall : ([22].all fun u => !Tryz.prog.wantsStandIn u) = true := by kernel_rfl
  exact (show Tryz.prog.wantsStandIn t = false by simpa using List.all_eq_true.1 hall t hm)
theorem noInit3 : Tryz.prog.inits.idxOf? 3 = none := by kernel_rfl
theorem okw3 (os : Os) : Input.okWideB Tryz.prog ((World.laidAll Tryz.prog os Rows.writerFloatsRow.laid).forCall (fun _ _ => 0) ⟨#[], wargs, []⟩) 3 ⟨#[], wargs, []⟩ = true := by kernel_rfl
theorem sized3 (os : Os) {H : Type} (enc : TypeId × Value → H) : (OpenSpec.ofChange Rows.writerFloatsSpec).bare.sizedB enc Tryz.prog Tryz.f3 false ((World.laidAll Tryz.prog os Rows.writerFloatsRow.laid).forCall (fun _ _ => 0) ⟨#[], wargs, []⟩).memory wargs 8 = true := by kernel_rfl
end Wf
end Go.Proofs.YtpjcdbjablijkaaGreatDoor
