/- LexerWhole: an input that fits its row. -/
import Derived.Test.YteegpmimbbgdlaaGreatDoorWhNone
import Derived.ProofKit
namespace Go.Proofs.YteegpmimbbgdlaaGreatDoor
open Go Go.Proofs.YteegpmimbbgdlaaGreatDoor.Ab Go.ChangeShapes Go.WideShapes Go.ChangeAt Go.RowKit
namespace Wh
def wargs : Array Value := #[.string ⟨#[]⟩, .int .i64 0]
theorem w_shaped (os : Os) : ((World.laidAll Tryz.prog os Rows.lexerWholeUptoRow.laid).forCall (fun _ _ => 0) ⟨#[], wargs, []⟩).Shaped Tryz.prog := World.shaped_of_ZipB (by kernel_rfl) (by kernel_rfl)
theorem w_laid (os : Os) : laidMetH Tryz.prog Rows.lexerWholeUptoRow.laid ((World.laidAll Tryz.prog os Rows.lexerWholeUptoRow.laid).forCall (fun _ _ => 0) ⟨#[], wargs, []⟩).memory := by
  rw [MakeChecks.laidMetH_plain _ _ _ (by kernel_rfl)]
  exact laidMet_laidAll _ (by kernel_rfl) (by kernel_rfl)
theorem w_reads (os : Os) {H : Type} (enc : TypeId × Value → H) : (DataW.whole enc Tryz.prog ((World.laidAll Tryz.prog os Rows.lexerWholeUptoRow.laid).forCall (fun _ _ => 0) ⟨#[], wargs, []⟩).memory Tryz.f10.params.toList Rows.lexerWholeSpec.vars false wargs.toList 8).isSome = true := by kernel_rfl
theorem w_small (os : Os) {H : Type} (enc : TypeId × Value → H) : (match DataW.whole enc Tryz.prog ((World.laidAll Tryz.prog os Rows.lexerWholeUptoRow.laid).forCall (fun _ _ => 0) ⟨#[], wargs, []⟩).memory Tryz.f10.params.toList Rows.lexerWholeSpec.vars false wargs.toList 8 with | some x => Rows.uptoSmall H (x.1 ++ x.2.1) | none => true) = true := by kernel_rfl
theorem funcNamed10 : Tryz.prog.funcNamed "hornbeam/hornbeamlaw03.LexerWhole" = some 10 := by kernel_rfl
theorem inst10 : Tryz.f10.isInstance Tryz.prog Rows.lexerWholeUptoRow.origin Rows.lexerWholeUptoRow.targs := of_decide_eq_true (by kernel_rfl)
theorem wrap10 : Tryz.f10.isWrapper Tryz.prog Rows.lexerWholeUptoRow.wrapper Rows.lexerWholeUptoRow.mainSum := by unfold Func.isWrapper; first | (rw [if_pos (by decide +kernel)]; kernel_rfl) | (rw [if_neg (by decide +kernel)]; exact ⟨rfl, rfl⟩)
theorem plain (f : FuncId) (fn : Func) (hf : Tryz.pinned.checked.prog.funcNamed "hornbeam/hornbeamlaw03.LexerWhole" = some f) (hfn : Tryz.pinned.checked.prog.funcs[f]? = some fn) :
    true = Tryz.pinned.checked.prog.looks [] ∧ ∀ (j : Nat) t, fn.params[j]? = some t → Tryz.pinned.checked.prog.wantsStandIn t = false := by
  obtain rfl : f = 10 := Option.some.inj (funcNamed10.symm.trans hf) |>.symm
  obtain rfl : fn = Tryz.f10 := (Option.some.inj (Tryz.func10.symm.trans hfn)).symm
  refine ⟨by kernel_rfl, fun j t ht => ?_⟩
  rw [Tryz.params10] at ht
  have hm : t ∈ [9, 3] := by simpa using Array.mem_of_getElem? ht
  have hall : ([9, 3].all fun u => !Tryz.prog.wantsStandIn u) = true := by kernel_rfl
  exact (show Tryz.prog.wantsStandIn t = false by simpa using List.all_eq_true.1 hall t hm)
theorem noInit10 : Tryz.prog.inits.idxOf? 10 = none := by kernel_rfl
theorem okw10 (os : Os) : Input.okWideB Tryz.prog ((World.laidAll Tryz.prog os Rows.lexerWholeUptoRow.laid).forCall (fun _ _ => 0) ⟨#[], wargs, []⟩) 10 ⟨#[], wargs, []⟩ = true := by kernel_rfl
theorem sized10 (os : Os) {H : Type} (enc : TypeId × Value → H) : (Rows.OpenSpec.upto Rows.lexerWholeSpec).bare.sizedB enc Tryz.prog Tryz.f10 false ((World.laidAll Tryz.prog os Rows.lexerWholeUptoRow.laid).forCall (fun _ _ => 0) ⟨#[], wargs, []⟩).memory wargs 8 = true := by kernel_rfl
end Wh
end Go.Proofs.YteegpmimbbgdlaaGreatDoor
