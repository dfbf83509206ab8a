/- WriterAtoms: an input that fits its row. -/
import Derived.Test.YtnipmfaikiaipaaGreatDoorWaNone
namespace Go.Proofs.YtnipmfaikiaipaaGreatDoor
open Go Go.Proofs.YtnipmfaikiaipaaGreatDoor.Ab Go.ChangeShapes Go.WideShapes Go.ChangeAt Go.RowKit
namespace Wa
def gQ : Array Value := #[.string ⟨#[]⟩]
theorem gV (os : Os) : ((World.laidAll Tryz.prog os Rows.writerAtomsUptoRow.laid).forCall (fun _ _ => 0) ⟨#[], gQ, []⟩).Shaped Tryz.prog := World.shaped_of_ZipB (by kernel_rfl) (by kernel_rfl)
theorem gu (os : Os) : laidMetH Tryz.prog Rows.writerAtomsUptoRow.laid ((World.laidAll Tryz.prog os Rows.writerAtomsUptoRow.laid).forCall (fun _ _ => 0) ⟨#[], gQ, []⟩).memory := by
  rw [MakeChecks.laidMetH_plain _ _ _ (by kernel_rfl)]
  exact laidMet_laidAll _ (by kernel_rfl) (by kernel_rfl)
theorem gm (os : Os) {H : Type} (enc : TypeId × Value → H) : (DataW.whole enc Tryz.prog ((World.laidAll Tryz.prog os Rows.writerAtomsUptoRow.laid).forCall (fun _ _ => 0) ⟨#[], gQ, []⟩).memory Tryz.f4.params.toList Rows.writerAtomsSpec.vars false gQ.toList 8).isSome = true := by kernel_rfl
theorem gq (os : Os) {H : Type} (enc : TypeId × Value → H) : (match DataW.whole enc Tryz.prog ((World.laidAll Tryz.prog os Rows.writerAtomsUptoRow.laid).forCall (fun _ _ => 0) ⟨#[], gQ, []⟩).memory Tryz.f4.params.toList Rows.writerAtomsSpec.vars false gQ.toList 8 with | some x => Rows.uptoSmall H (x.1 ++ x.2.1) | none => true) = true := by kernel_rfl
theorem gS : Tryz.prog.funcNamed "hornbeam/hornbeamlaw06.WriterAtoms" = some 4 := by kernel_rfl
theorem gx : Tryz.f4.isInstance Tryz.prog Rows.writerAtomsUptoRow.origin Rows.writerAtomsUptoRow.targs := of_decide_eq_true (by kernel_rfl)
theorem gv : Tryz.f4.isWrapper Tryz.prog Rows.writerAtomsUptoRow.wrapper Rows.writerAtomsUptoRow.mainSum := by unfold Func.isWrapper; first | (rw [if_pos (by decide +kernel)]; kernel_rfl) | (rw [if_neg (by decide +kernel)]; exact ⟨rfl, rfl⟩)
theorem plain (f : FuncId) (fn : Func) (hf : Tryz.pinned.checked.prog.funcNamed "hornbeam/hornbeamlaw06.WriterAtoms" = some f) (hfn : Tryz.pinned.checked.prog.funcs[f]? = some fn) :
    true = Tryz.pinned.checked.prog.looks [] ∧ ∀ (j : Nat) t, fn.params[j]? = some t → Tryz.pinned.checked.prog.wantsStandIn t = false := by
  obtain rfl : f = 4 := Option.some.inj (gS.symm.trans hf) |>.symm
  obtain rfl : fn = Tryz.f4 := (Option.some.inj (Tryz.func4.symm.trans hfn)).symm
  refine ⟨by kernel_rfl, fun j t ht => ?_⟩
  rw [Tryz.params4] at ht
  have hm : t ∈ [9] := by simpa using Array.mem_of_getElem? ht
  have hall : ([9].all fun u => !Tryz.prog.wantsStandIn u) = true := by kernel_rfl
  exact (show Tryz.prog.wantsStandIn t = false by simpa using List.all_eq_true.1 hall t hm)
theorem gp : Tryz.prog.inits.idxOf? 4 = none := by kernel_rfl
theorem gz (os : Os) : Input.okWideB Tryz.prog ((World.laidAll Tryz.prog os Rows.writerAtomsUptoRow.laid).forCall (fun _ _ => 0) ⟨#[], gQ, []⟩) 4 ⟨#[], gQ, []⟩ = true := by kernel_rfl
theorem gr (os : Os) {H : Type} (enc : TypeId × Value → H) : (Rows.OpenSpec.upto Rows.writerAtomsSpec).bare.sizedB enc Tryz.prog Tryz.f4 false ((World.laidAll Tryz.prog os Rows.writerAtomsUptoRow.laid).forCall (fun _ _ => 0) ⟨#[], gQ, []⟩).memory gQ 8 = true := by kernel_rfl
end Wa
end Go.Proofs.YtnipmfaikiaipaaGreatDoor
