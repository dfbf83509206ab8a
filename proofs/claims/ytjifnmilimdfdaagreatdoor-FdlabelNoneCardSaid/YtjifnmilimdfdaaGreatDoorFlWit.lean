/- FdlabelNone: an input that fits its row. -/
import Derived.Test.YtjifnmilimdfdaaGreatDoorFlNone
import Derived.ProofKit
namespace Go.Proofs.YtjifnmilimdfdaaGreatDoor
open Go Go.Proofs.YtjifnmilimdfdaaGreatDoor.Ab Go.ChangeShapes Go.WideShapes Go.ChangeAt Go.RowKit
namespace Fl
def wargs : Array Value := #[.agg #[.slice none 0 0, .slice none 0 0, .int .i64 0, .int .i64 0]]
theorem w_shaped (os : Os) : ((World.laidAll Tryz.prog os Rows.fdlabelNoneRow.laid).forCall (fun _ _ => 0) ⟨#[], wargs, []⟩).Shaped Tryz.prog := World.shaped_of_ZipB (by kernel_rfl) (by kernel_rfl)
theorem w_laid (os : Os) : laidMetH Tryz.prog Rows.fdlabelNoneRow.laid ((World.laidAll Tryz.prog os Rows.fdlabelNoneRow.laid).forCall (fun _ _ => 0) ⟨#[], wargs, []⟩).memory := by
  rw [MakeChecks.laidMetH_plain _ _ _ (by kernel_rfl)]
  exact laidMet_laidAll _ (by kernel_rfl) (by kernel_rfl)
theorem w_reads (os : Os) {H : Type} (enc : TypeId × Value → H) : (DataW.whole enc Tryz.prog ((World.laidAll Tryz.prog os Rows.fdlabelNoneRow.laid).forCall (fun _ _ => 0) ⟨#[], wargs, []⟩).memory Tryz.f4.params.toList Rows.fdlabelNoneSpec.vars false wargs.toList 8).isSome = true := by kernel_rfl
theorem funcNamed4 : Tryz.prog.funcNamed "hornbeam/hornbeamlaw19.FdlabelNone" = some 4 := by kernel_rfl
theorem inst4 : Tryz.f4.isInstance Tryz.prog Rows.fdlabelNoneRow.origin Rows.fdlabelNoneRow.targs := of_decide_eq_true (by kernel_rfl)
theorem wrap4 : Tryz.f4.isWrapper Tryz.prog Rows.fdlabelNoneRow.wrapper Rows.fdlabelNoneRow.mainSum := by unfold Func.isWrapper; first | (rw [if_pos (by decide +kernel)]; kernel_rfl) | (rw [if_neg (by decide +kernel)]; exact ⟨rfl, rfl⟩)
theorem plain (f : FuncId) (fn : Func) (hf : Tryz.pinned.checked.prog.funcNamed "hornbeam/hornbeamlaw19.FdlabelNone" = some f) (hfn : Tryz.pinned.checked.prog.funcs[f]? = some fn) :
    true = Tryz.pinned.checked.prog.looks [] ∧ ∀ (j : Nat) t, fn.params[j]? = some t → Tryz.pinned.checked.prog.wantsStandIn t = false := by
  obtain rfl : f = 4 := Option.some.inj (funcNamed4.symm.trans hf) |>.symm
  obtain rfl : fn = Tryz.f4 := (Option.some.inj (Tryz.func4.symm.trans hfn)).symm
  refine ⟨by kernel_rfl, fun j t ht => ?_⟩
  rw [Tryz.params4] at ht
  have hm : t ∈ [55] := by simpa using Array.mem_of_getElem? ht
  have hall : ([55].all fun u => !Tryz.prog.wantsStandIn u) = true := by kernel_rfl
  exact (show Tryz.prog.wantsStandIn t = false by simpa using List.all_eq_true.1 hall t hm)
theorem noInit4 : Tryz.prog.inits.idxOf? 4 = none := by kernel_rfl
theorem okw4 (os : Os) : Input.okWideB Tryz.prog ((World.laidAll Tryz.prog os Rows.fdlabelNoneRow.laid).forCall (fun _ _ => 0) ⟨#[], wargs, []⟩) 4 ⟨#[], wargs, []⟩ = true := by kernel_rfl
theorem sized4 (os : Os) {H : Type} (enc : TypeId × Value → H) : (OpenSpec.ofChange Rows.fdlabelNoneSpec).bare.sizedB enc Tryz.prog Tryz.f4 false ((World.laidAll Tryz.prog os Rows.fdlabelNoneRow.laid).forCall (fun _ _ => 0) ⟨#[], wargs, []⟩).memory wargs 8 = true := by kernel_rfl
end Fl
end Go.Proofs.YtjifnmilimdfdaaGreatDoor
