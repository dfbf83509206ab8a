/- LexerNumbers: an input that fits its row. -/
import Derived.Test.YteegpmimbbgdlaaGreatDoorNuNone
import Derived.ProofKit
namespace Go.Proofs.YteegpmimbbgdlaaGreatDoor
open Go Go.Proofs.YteegpmimbbgdlaaGreatDoor.Ab Go.ChangeShapes Go.WideShapes Go.ChangeAt Go.RowKit
namespace Nu
def wargs : Array Value := #[.agg #[.bool false, .slice none 0 0]]
theorem w_shaped (os : Os) : ((World.laidAll Tryz.prog os Rows.lexerNumbersRow.laid).forCall (fun _ _ => 0) ⟨#[], wargs, []⟩).Shaped Tryz.prog := World.shaped_of_ZipB (by kernel_rfl) (by kernel_rfl)
theorem w_laid (os : Os) : laidMetH Tryz.prog Rows.lexerNumbersRow.laid ((World.laidAll Tryz.prog os Rows.lexerNumbersRow.laid).forCall (fun _ _ => 0) ⟨#[], wargs, []⟩).memory := by
  rw [MakeChecks.laidMetH_plain _ _ _ (by kernel_rfl)]
  exact laidMet_laidAll _ (by kernel_rfl) (by kernel_rfl)
theorem w_reads (os : Os) {H : Type} (enc : TypeId × Value → H) : (DataW.whole enc Tryz.prog ((World.laidAll Tryz.prog os Rows.lexerNumbersRow.laid).forCall (fun _ _ => 0) ⟨#[], wargs, []⟩).memory Tryz.f8.params.toList Rows.lexerNumbersSpec.vars false wargs.toList 8).isSome = true := by kernel_rfl
theorem funcNamed8 : Tryz.prog.funcNamed "hornbeam/hornbeamlaw03.LexerNumbers" = some 8 := by kernel_rfl
theorem inst8 : Tryz.f8.isInstance Tryz.prog Rows.lexerNumbersRow.origin Rows.lexerNumbersRow.targs := of_decide_eq_true (by kernel_rfl)
theorem wrap8 : Tryz.f8.isWrapper Tryz.prog Rows.lexerNumbersRow.wrapper Rows.lexerNumbersRow.mainSum := by unfold Func.isWrapper; first | (rw [if_pos (by decide +kernel)]; kernel_rfl) | (rw [if_neg (by decide +kernel)]; exact ⟨rfl, rfl⟩)
theorem plain (f : FuncId) (fn : Func) (hf : Tryz.pinned.checked.prog.funcNamed "hornbeam/hornbeamlaw03.LexerNumbers" = some f) (hfn : Tryz.pinned.checked.prog.funcs[f]? = some fn) :
    true = Tryz.pinned.checked.prog.looks [] ∧ ∀ (j : Nat) t, fn.params[j]? = some t → Tryz.pinned.checked.prog.wantsStandIn t = false := by
  obtain rfl : f = 8 := Option.some.inj (funcNamed8.symm.trans hf) |>.symm
  obtain rfl : fn = Tryz.f8 := (Option.some.inj (Tryz.func8.symm.trans hfn)).symm
  refine ⟨by kernel_rfl, fun j t ht => ?_⟩
  rw [Tryz.params8] at ht
  have hm : t ∈ [41] := by simpa using Array.mem_of_getElem? ht
  have hall : ([41].all fun u => !Tryz.prog.wantsStandIn u) = true := by kernel_rfl
  exact (show Tryz.prog.wantsStandIn t = false by simpa using List.all_eq_true.1 hall t hm)
theorem noInit8 : Tryz.prog.inits.idxOf? 8 = none := by kernel_rfl
theorem okw8 (os : Os) : Input.okWideB Tryz.prog ((World.laidAll Tryz.prog os Rows.lexerNumbersRow.laid).forCall (fun _ _ => 0) ⟨#[], wargs, []⟩) 8 ⟨#[], wargs, []⟩ = true := by kernel_rfl
theorem sized8 (os : Os) {H : Type} (enc : TypeId × Value → H) : (OpenSpec.ofChange Rows.lexerNumbersSpec).bare.sizedB enc Tryz.prog Tryz.f8 false ((World.laidAll Tryz.prog os Rows.lexerNumbersRow.laid).forCall (fun _ _ => 0) ⟨#[], wargs, []⟩).memory wargs 8 = true := by kernel_rfl
end Nu
end Go.Proofs.YteegpmimbbgdlaaGreatDoor
