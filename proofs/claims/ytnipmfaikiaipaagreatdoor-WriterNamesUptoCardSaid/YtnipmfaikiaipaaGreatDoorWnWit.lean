/- WriterNames: an input that fits its row. -/
import Derived.Test.YtnipmfaikiaipaaGreatDoorWnNone
import Derived.ProofKit
namespace Go.Proofs.YtnipmfaikiaipaaGreatDoor
open Go Go.Proofs.YtnipmfaikiaipaaGreatDoor.Ab Go.ChangeShapes Go.WideShapes Go.ChangeAt Go.RowKit
namespace Wn
def wargs : Array Value := #[.string ⟨#[]⟩]
theorem w_shaped (os : Os) : ((World.laidAll Tryz.prog os Rows.writerNamesUptoRow.laid).forCall (fun _ _ => 0) ⟨#[], wargs, []⟩).Shaped Tryz.prog := World.shaped_of_ZipB (by kernel_rfl) (by kernel_rfl)
theorem w_laid (os : Os) : laidMetH Tryz.prog Rows.writerNamesUptoRow.laid ((World.laidAll Tryz.prog os Rows.writerNamesUptoRow.laid).forCall (fun _ _ => 0) ⟨#[], wargs, []⟩).memory := by
  rw [MakeChecks.laidMetH_plain _ _ _ (by kernel_rfl)]
  exact laidMet_laidAll _ (by kernel_rfl) (by kernel_rfl)
theorem w_reads (os : Os) {H : Type} (enc : TypeId × Value → H) : (DataW.whole enc Tryz.prog ((World.laidAll Tryz.prog os Rows.writerNamesUptoRow.laid).forCall (fun _ _ => 0) ⟨#[], wargs, []⟩).memory Tryz.f5.params.toList Rows.writerNamesSpec.vars false wargs.toList 8).isSome = true := by kernel_rfl
theorem w_small (os : Os) {H : Type} (enc : TypeId × Value → H) : (match DataW.whole enc Tryz.prog ((World.laidAll Tryz.prog os Rows.writerNamesUptoRow.laid).forCall (fun _ _ => 0) ⟨#[], wargs, []⟩).memory Tryz.f5.params.toList Rows.writerNamesSpec.vars false wargs.toList 8 with | some x => Rows.uptoSmall H (x.1 ++ x.2.1) | none => true) = true := by kernel_rfl
theorem funcNamed5 : Tryz.prog.funcNamed "hornbeam/hornbeamlaw06.WriterNames" = some 5 := by kernel_rfl
theorem inst5 : Tryz.f5.isInstance Tryz.prog Rows.writerNamesUptoRow.origin Rows.writerNamesUptoRow.targs := of_decide_eq_true (by kernel_rfl)
theorem wrap5 : Tryz.f5.isWrapper Tryz.prog Rows.writerNamesUptoRow.wrapper Rows.writerNamesUptoRow.mainSum := by unfold Func.isWrapper; first | (rw [if_pos (by decide +kernel)]; kernel_rfl) | (rw [if_neg (by decide +kernel)]; exact ⟨rfl, rfl⟩)
theorem plain (f : FuncId) (fn : Func) (hf : Tryz.pinned.checked.prog.funcNamed "hornbeam/hornbeamlaw06.WriterNames" = some f) (hfn : Tryz.pinned.checked.prog.funcs[f]? = some fn) :
    true = Tryz.pinned.checked.prog.looks [] ∧ ∀ (j : Nat) t, fn.params[j]? = some t → Tryz.pinned.checked.prog.wantsStandIn t = false := by
  obtain rfl : f = 5 := Option.some.inj (funcNamed5.symm.trans hf) |>.symm
  obtain rfl : fn = Tryz.f5 := (Option.some.inj (Tryz.func5.symm.trans hfn)).symm
  refine ⟨by kernel_rfl, fun j t ht => ?_⟩
  rw [Tryz.params5] at ht
  have hm : t ∈ [9] := by simpa using Array.mem_of_getElem? ht
  have hall : ([9].all fun u => !Tryz.prog.wantsStandIn u) = true := by kernel_rfl
  exact (show Tryz.prog.wantsStandIn t = false by simpa using List.all_eq_true.1 hall t hm)
theorem noInit5 : Tryz.prog.inits.idxOf? 5 = none := by kernel_rfl
theorem okw5 (os : Os) : Input.okWideB Tryz.prog ((World.laidAll Tryz.prog os Rows.writerNamesUptoRow.laid).forCall (fun _ _ => 0) ⟨#[], wargs, []⟩) 5 ⟨#[], wargs, []⟩ = true := by kernel_rfl
theorem sized5 (os : Os) {H : Type} (enc : TypeId × Value → H) : (Rows.OpenSpec.upto Rows.writerNamesSpec).bare.sizedB enc Tryz.prog Tryz.f5 false ((World.laidAll Tryz.prog os Rows.writerNamesUptoRow.laid).forCall (fun _ _ => 0) ⟨#[], wargs, []⟩).memory wargs 8 = true := by kernel_rfl
end Wn
end Go.Proofs.YtnipmfaikiaipaaGreatDoor
