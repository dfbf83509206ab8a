import Derived.Test.YteegpmimbbgdlaaGreatDoorTbn
import Derived.ProofKit
namespace Go.Proofs.YteegpmimbbgdlaaGreatDoor
open Go Go.Proofs.YteegpmimbbgdlaaGreatDoor.Ab Go.ChangeShapes Go.WideShapes Go.ChangeAt Go.RowKit
namespace Tl
def wargs : Array Value := #[.string ⟨#[]⟩, .int .i64 0]
theorem w_shaped (os : Os) : ((World.laidAll Tryz.prog os Rows.lexerTellsUptoRow.laid).forCall (fun _ _ => 0) ⟨#[], wargs, []⟩).Shaped Tryz.prog := World.shaped_of_ZipB (by kernel_rfl) (by kernel_rfl)
theorem w_laid (os : Os) : laidMetH Tryz.prog Rows.lexerTellsUptoRow.laid ((World.laidAll Tryz.prog os Rows.lexerTellsUptoRow.laid).forCall (fun _ _ => 0) ⟨#[], wargs, []⟩).memory := by
 rw [MakeChecks.laidMetH_plain _ _ _ (by kernel_rfl)]
 exact laidMet_laidAll _ (by kernel_rfl) (by kernel_rfl)
theorem w_reads (os : Os) {H : Type} (enc : TypeId × Value → H) : (DataW.whole enc Tryz.prog ((World.laidAll Tryz.prog os Rows.lexerTellsUptoRow.laid).forCall (fun _ _ => 0) ⟨#[], wargs, []⟩).memory Tryz.f3.params.toList Rows.lexerTellsSpec.vars false wargs.toList 8).isSome = true := by kernel_rfl
theorem w_small (os : Os) {H : Type} (enc : TypeId × Value → H) : (match DataW.whole enc Tryz.prog ((World.laidAll Tryz.prog os Rows.lexerTellsUptoRow.laid).forCall (fun _ _ => 0) ⟨#[], wargs, []⟩).memory Tryz.f3.params.toList Rows.lexerTellsSpec.vars false wargs.toList 8 with | some x => Rows.uptoSmall H (x.1 ++ x.2.1) | none => true) = true := by kernel_rfl
theorem funcNamed3 : Tryz.prog.funcNamed "hornbeam/hornbeamlaw03.LexerTells" = some 3 := by kernel_rfl
theorem inst3 : Tryz.f3.isInstance Tryz.prog Rows.lexerTellsUptoRow.origin Rows.lexerTellsUptoRow.targs := of_decide_eq_true (by kernel_rfl)
theorem wrap3 : Tryz.f3.isWrapper Tryz.prog Rows.lexerTellsUptoRow.wrapper Rows.lexerTellsUptoRow.mainSum := by unfold Func.isWrapper; first | (rw [if_pos (by decide +kernel)]; kernel_rfl) | (rw [if_neg (by decide +kernel)]; exact ⟨rfl, rfl⟩)
theorem plain (f : FuncId) (fn : Func) (hf : Tryz.pinned.checked.prog.funcNamed "hornbeam/hornbeamlaw03.LexerTells" = some f) (hfn : Tryz.pinned.checked.prog.funcs[f]? = some fn) :
 true = Tryz.pinned.checked.prog.looks [] ∧ ∀ (j : Nat) t, fn.params[j]? = some t → Tryz.pinned.checked.prog.wantsStandIn t = false := by
 obtain rfl : f = 3 := Option.some.inj (funcNamed3.symm.trans hf) |>.symm
 obtain rfl : fn = Tryz.f3 := (Option.some.inj (Tryz.func3.symm.trans hfn)).symm
 refine ⟨by kernel_rfl, fun j t ht => ?_⟩
 rw [Tryz.params3] at ht
 have hm : t ∈ [9, 3] := by simpa using Array.mem_of_getElem? ht
 have hall : ([9, 3].all fun u => !Tryz.prog.wantsStandIn u) = true := by kernel_rfl
 exact (show Tryz.prog.wantsStandIn t = false by simpa using List.all_eq_true.1 hall t hm)
theorem noInit3 : Tryz.prog.inits.idxOf? 3 = none := by kernel_rfl
theorem okw3 (os : Os) : Input.okWideB Tryz.prog ((World.laidAll Tryz.prog os Rows.lexerTellsUptoRow.laid).forCall (fun _ _ => 0) ⟨#[], wargs, []⟩) 3 ⟨#[], wargs, []⟩ = true := by kernel_rfl
theorem sized3 (os : Os) {H : Type} (enc : TypeId × Value → H) : (Rows.OpenSpec.upto Rows.lexerTellsSpec).bare.sizedB enc Tryz.prog Tryz.f3 false ((World.laidAll Tryz.prog os Rows.lexerTellsUptoRow.laid).forCall (fun _ _ => 0) ⟨#[], wargs, []⟩).memory wargs 8 = true := by kernel_rfl
end Tl
end Go.Proofs.YteegpmimbbgdlaaGreatDoor
