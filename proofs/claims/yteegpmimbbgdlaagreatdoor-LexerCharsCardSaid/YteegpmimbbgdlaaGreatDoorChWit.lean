/- LexerChars: an input that fits its row. -/
import Derived.Test.YteegpmimbbgdlaaGreatDoorChNone
import Derived.ProofKit
namespace Go.Proofs.YteegpmimbbgdlaaGreatDoor
open Go Go.Proofs.YteegpmimbbgdlaaGreatDoor.Ab Go.ChangeShapes Go.WideShapes Go.ChangeAt Go.RowKit
namespace Ch
def wargs : Array Value := #[.int .i64 0]
theorem w_shaped (os : Os) : ((World.laidAll Tryz.prog os Rows.lexerCharsRow.laid).forCall (fun _ _ => 0) ⟨#[], wargs, []⟩).Shaped Tryz.prog := World.shaped_of_ZipB (by kernel_rfl) (by kernel_rfl)
theorem w_laid (os : Os) : laidMetH Tryz.prog Rows.lexerCharsRow.laid ((World.laidAll Tryz.prog os Rows.lexerCharsRow.laid).forCall (fun _ _ => 0) ⟨#[], wargs, []⟩).memory := by
  rw [MakeChecks.laidMetH_plain _ _ _ (by kernel_rfl)]
  exact laidMet_laidAll _ (by kernel_rfl) (by kernel_rfl)
theorem w_reads (os : Os) {H : Type} (enc : TypeId × Value → H) : (DataW.whole enc Tryz.prog ((World.laidAll Tryz.prog os Rows.lexerCharsRow.laid).forCall (fun _ _ => 0) ⟨#[], wargs, []⟩).memory Tryz.f9.params.toList Rows.lexerCharsSpec.vars false wargs.toList 8).isSome = true := by kernel_rfl
theorem funcNamed9 : Tryz.prog.funcNamed "hornbeam/hornbeamlaw03.LexerChars" = some 9 := by kernel_rfl
theorem inst9 : Tryz.f9.isInstance Tryz.prog Rows.lexerCharsRow.origin Rows.lexerCharsRow.targs := of_decide_eq_true (by kernel_rfl)
theorem wrap9 : Tryz.f9.isWrapper Tryz.prog Rows.lexerCharsRow.wrapper Rows.lexerCharsRow.mainSum := by unfold Func.isWrapper; first | (rw [if_pos (by decide +kernel)]; kernel_rfl) | (rw [if_neg (by decide +kernel)]; exact ⟨rfl, rfl⟩)
theorem plain (f : FuncId) (fn : Func) (hf : Tryz.pinned.checked.prog.funcNamed "hornbeam/hornbeamlaw03.LexerChars" = some f) (hfn : Tryz.pinned.checked.prog.funcs[f]? = some fn) :
    true = Tryz.pinned.checked.prog.looks [] ∧ ∀ (j : Nat) t, fn.params[j]? = some t → Tryz.pinned.checked.prog.wantsStandIn t = false := by
  obtain rfl : f = 9 := Option.some.inj (funcNamed9.symm.trans hf) |>.symm
  obtain rfl : fn = Tryz.f9 := (Option.some.inj (Tryz.func9.symm.trans hfn)).symm
  refine ⟨by kernel_rfl, fun j t ht => ?_⟩
  rw [Tryz.params9] at ht
  have hm : t ∈ [3] := by simpa using Array.mem_of_getElem? ht
  have hall : ([3].all fun u => !Tryz.prog.wantsStandIn u) = true := by kernel_rfl
  exact (show Tryz.prog.wantsStandIn t = false by simpa using List.all_eq_true.1 hall t hm)
theorem noInit9 : Tryz.prog.inits.idxOf? 9 = none := by kernel_rfl
theorem okw9 (os : Os) : Input.okWideB Tryz.prog ((World.laidAll Tryz.prog os Rows.lexerCharsRow.laid).forCall (fun _ _ => 0) ⟨#[], wargs, []⟩) 9 ⟨#[], wargs, []⟩ = true := by kernel_rfl
theorem sized9 (os : Os) {H : Type} (enc : TypeId × Value → H) : (OpenSpec.ofChange Rows.lexerCharsSpec).bare.sizedB enc Tryz.prog Tryz.f9 false ((World.laidAll Tryz.prog os Rows.lexerCharsRow.laid).forCall (fun _ _ => 0) ⟨#[], wargs, []⟩).memory wargs 8 = true := by kernel_rfl
end Ch
end Go.Proofs.YteegpmimbbgdlaaGreatDoor
