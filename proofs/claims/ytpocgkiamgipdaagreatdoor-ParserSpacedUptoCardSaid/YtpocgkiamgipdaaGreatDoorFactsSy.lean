/- The closed facts of the row of ParserSpaced, one by one. -/
import Derived.Test.YtpocgkiamgipdaaGreatDoorRows
import Derived.JoinedCond
import Derived.KernelRfl
namespace Go.Proofs.YtpocgkiamgipdaaGreatDoor
open Go
namespace SyFacts
theorem j0 : (Rows.parserSpacedUptoRow.wf (OpenSpec.ofChange (Rows.OpenSpec.upto Rows.parserSpacedSpec).bare)) = true := by kernel_rfl
theorem j1 : (laidOutB Tryz.prog) = true := by kernel_rfl
theorem j2 : (mapsRowed Tryz.prog) = true := by kernel_rfl
theorem j3 : (Tryz.f4.params.all (Tryz.prog.readableRec ·)) = true := by kernel_rfl
theorem j4 : (namedTie Tryz.prog Rows.parserSpacedUptoRow.named (Rows.OpenSpec.upto Rows.parserSpacedSpec).bare.vars) = true := by kernel_rfl
theorem j5 : ((Rows.parserSpacedUptoRow.stops == [])) = true := by kernel_rfl
theorem j6 : ((Tryz.prog.stops == [])) = true := by kernel_rfl
theorem j7 : ((Rows.parserSpacedUptoRow.knobs == [])) = true := by kernel_rfl
theorem j8 : ((Tryz.prog.stopKnobs == [])) = true := by kernel_rfl
theorem j9 : ((Rows.parserSpacedUptoRow.inPlace == Tryz.prog.inPlace 4)) = true := by kernel_rfl
theorem mB : ((Rows.parserSpacedUptoRow.unfollowed == Tryz.prog.unfollowed 4)) = true := by kernel_rfl
theorem l8 : ((Rows.parserSpacedUptoRow.recurses == Tryz.prog.recurses 4)) = true := by kernel_rfl
theorem l5 : ((Rows.parserSpacedUptoRow.named == Tryz.prog.varsNamed 4)) = true := by kernel_rfl
theorem mH : ((Rows.parserSpacedUptoRow.maps == (Tryz.f4.params.toList ++ (Rows.OpenSpec.upto Rows.parserSpacedSpec).bare.plain.varTypes Tryz.prog).any (Tryz.prog.mapsRec ·))) = true := by kernel_rfl
theorem mE : ((Rows.parserSpacedUptoRow.ifaces == (Tryz.f4.params.toList ++ (Rows.OpenSpec.upto Rows.parserSpacedSpec).bare.plain.varTypes Tryz.prog).any (Tryz.prog.ifacesRec ·))) = true := by kernel_rfl
theorem lC : ((Rows.parserSpacedUptoRow.mapsOut == Tryz.prog.mapsAmong Tryz.f4.resultTypes.toList)) = true := by kernel_rfl
theorem lZ : ((Rows.parserSpacedUptoRow.loops == (Tryz.f4.params.toList ++ (Rows.OpenSpec.upto Rows.parserSpacedSpec).bare.plain.varTypes Tryz.prog).any (Tryz.prog.loopsFrom ·))) = true := by kernel_rfl
theorem mC : ((Rows.parserSpacedUptoRow.wideKeys == (Tryz.f4.params.toList ++ (Rows.OpenSpec.upto Rows.parserSpacedSpec).bare.plain.varTypes Tryz.prog ++ Tryz.f4.resultTypes.toList).any (Tryz.prog.wideKeysFrom ·))) = true := by kernel_rfl
theorem mJ : ((Rows.OpenSpec.upto Rows.parserSpacedSpec).bare.vars.all (Tryz.prog.varReadable ·)) = true := by kernel_rfl
theorem lg : (Tryz.f4.resultTypes.all (fun t => Tryz.prog.readableRec t && decide (t < Tryz.prog.types.size))) = true := by kernel_rfl
theorem mI : ((Rows.parserSpacedUptoRow.ifacesOut == Tryz.f4.resultTypes.toList.any (Tryz.prog.ifacesRec ·))) = true := by kernel_rfl
theorem l6 : ((Rows.parserSpacedUptoRow.loopsOut == Tryz.f4.resultTypes.toList.any (Tryz.prog.loopsFrom ·))) = true := by kernel_rfl
theorem mD : ((Rows.parserSpacedUptoRow.plainKeys == Tryz.prog.plainKeys)) = true := by kernel_rfl
theorem mA : (Rows.parserSpacedUptoRow.shortTexts.isNone) = true := by kernel_rfl
theorem mF : (Tryz.prog.stopsHeard) = true := by kernel_rfl
theorem l9 : (Tryz.prog.mayEnter) = true := by kernel_rfl
theorem ls : ((Rows.parserSpacedUptoRow.lifted == Tryz.prog.liftsFinal)) = true := by kernel_rfl
theorem lY : ((Tryz.prog.make == some Rows.parserSpacedUptoRow.make)) = true := by kernel_rfl
theorem lh : ((Rows.parserSpacedUptoRow.kinds == (if Rows.parserSpacedUptoRow.domain.isEmpty then [] else Tryz.f4.params.toList.map fun t => match Tryz.prog.underlying t with | some (.int k) => some k | _ => none))) = true := by kernel_rfl
theorem lj : ((Rows.parserSpacedUptoRow.pinned == Rows.parserSpacedUptoRow.pinnedBy)) = true := by kernel_rfl
theorem lu : ((Rows.parserSpacedUptoRow.veiled == (Tryz.f4.params.toList ++ (Rows.OpenSpec.upto Rows.parserSpacedSpec).bare.plain.varTypes Tryz.prog ++ Tryz.f4.resultTypes.toList).any (Tryz.prog.veiledRec ·))) = true := by kernel_rfl
theorem mG : (Rows.parserSpacedUptoRow.veiledFits Tryz.prog Tryz.f4.params.toList (Tryz.f4.params.toList ++ (Rows.OpenSpec.upto Rows.parserSpacedSpec).bare.plain.varTypes Tryz.prog ++ Tryz.f4.resultTypes.toList)) = true := by kernel_rfl
theorem lK {a b : Bool} (h : a = true) (h2 : b = true) : (a && b) = true := by rw [h, h2]; rfl
set_option maxRecDepth 1000000 in
theorem closed : joinedFacts Tryz.prog 4 Tryz.f4 (Rows.OpenSpec.upto Rows.parserSpacedSpec).bare Rows.parserSpacedUptoRow = true := by
  unfold joinedFacts
  exact (lK (lK (lK (lK (lK (lK (lK (lK (lK (lK (lK (lK (lK (lK (lK (lK (lK (lK (lK (lK (lK (lK (lK (lK (lK (lK (lK (lK (lK (lK (lK j0 j1) j2) j3) j4) j5) j6) j7) j8) j9) mB) l8) l5) mH) mE) lC) lZ) mC) mJ) lg) mI) l6) mD) mA) mF) l9) ls) lY) lh) lj) lu) mG)
end SyFacts
end Go.Proofs.YtpocgkiamgipdaaGreatDoor
