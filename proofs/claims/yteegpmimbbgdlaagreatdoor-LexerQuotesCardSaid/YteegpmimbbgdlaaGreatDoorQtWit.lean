/- LexerQuotes: an input that fits its row. -/
import Derived.Test.YteegpmimbbgdlaaGreatDoorQtNone
import Derived.ProofKit
namespace Go.Proofs.YteegpmimbbgdlaaGreatDoor
open Go Go.Proofs.YteegpmimbbgdlaaGreatDoor.Ab Go.ChangeShapes Go.WideShapes Go.ChangeAt Go.RowKit
namespace Qt
def wargs : Array Value := #[.string ⟨#[]⟩]
theorem w_shaped (os : Os) : ((World.laidAll Tryz.prog os Rows.lexerQuotesRow.laid).forCall (fun _ _ => 0) ⟨#[], wargs, []⟩).Shaped Tryz.prog := World.shaped_of_ZipB (by kernel_rfl) (by kernel_rfl)
theorem w_laid (os : Os) : laidMetH Tryz.prog Rows.lexerQuotesRow.laid ((World.laidAll Tryz.prog os Rows.lexerQuotesRow.laid).forCall (fun _ _ => 0) ⟨#[], wargs, []⟩).memory := by
  rw [MakeChecks.laidMetH_plain _ _ _ (by kernel_rfl)]
  exact laidMet_laidAll _ (by kernel_rfl) (by kernel_rfl)
theorem w_reads (os : Os) {H : Type} (enc : TypeId × Value → H) : (DataW.whole enc Tryz.prog ((World.laidAll Tryz.prog os Rows.lexerQuotesRow.laid).forCall (fun _ _ => 0) ⟨#[], wargs, []⟩).memory Tryz.f7.params.toList Rows.lexerQuotesSpec.vars false wargs.toList 8).isSome = true := by kernel_rfl
theorem funcNamed7 : Tryz.prog.funcNamed "hornbeam/hornbeamlaw03.LexerQuotes" = some 7 := by kernel_rfl
theorem inst7 : Tryz.f7.isInstance Tryz.prog Rows.lexerQuotesRow.origin Rows.lexerQuotesRow.targs := of_decide_eq_true (by kernel_rfl)
theorem wrap7 : Tryz.f7.isWrapper Tryz.prog Rows.lexerQuotesRow.wrapper Rows.lexerQuotesRow.mainSum := by unfold Func.isWrapper; first | (rw [if_pos (by decide +kernel)]; kernel_rfl) | (rw [if_neg (by decide +kernel)]; exact ⟨rfl, rfl⟩)
theorem plain (f : FuncId) (fn : Func) (hf : Tryz.pinned.checked.prog.funcNamed "hornbeam/hornbeamlaw03.LexerQuotes" = some f) (hfn : Tryz.pinned.checked.prog.funcs[f]? = some fn) :
    true = Tryz.pinned.checked.prog.looks [] ∧ ∀ (j : Nat) t, fn.params[j]? = some t → Tryz.pinned.checked.prog.wantsStandIn t = false := by
  obtain rfl : f = 7 := Option.some.inj (funcNamed7.symm.trans hf) |>.symm
  obtain rfl : fn = Tryz.f7 := (Option.some.inj (Tryz.func7.symm.trans hfn)).symm
  refine ⟨by kernel_rfl, fun j t ht => ?_⟩
  rw [Tryz.params7] at ht
  have hm : t ∈ [9] := by simpa using Array.mem_of_getElem? ht
  have hall : ([9].all fun u => !Tryz.prog.wantsStandIn u) = true := by kernel_rfl
  exact (show Tryz.prog.wantsStandIn t = false by simpa using List.all_eq_true.1 hall t hm)
theorem noInit7 : Tryz.prog.inits.idxOf? 7 = none := by kernel_rfl
theorem okw7 (os : Os) : Input.okWideB Tryz.prog ((World.laidAll Tryz.prog os Rows.lexerQuotesRow.laid).forCall (fun _ _ => 0) ⟨#[], wargs, []⟩) 7 ⟨#[], wargs, []⟩ = true := by kernel_rfl
theorem sized7 (os : Os) {H : Type} (enc : TypeId × Value → H) : (OpenSpec.ofChange Rows.lexerQuotesSpec).bare.sizedB enc Tryz.prog Tryz.f7 false ((World.laidAll Tryz.prog os Rows.lexerQuotesRow.laid).forCall (fun _ _ => 0) ⟨#[], wargs, []⟩).memory wargs 8 = true := by kernel_rfl
end Qt
end Go.Proofs.YteegpmimbbgdlaaGreatDoor
