/- The closed facts of the row of ParserSound, one by one. -/
import Derived.Test.YtpocgkiamgipdaaGreatDoorRows
import Derived.JoinedCond
import Derived.KernelRfl
namespace Go.Proofs.YtpocgkiamgipdaaGreatDoor
open Go
namespace SxFacts
theorem j0 : (Rows.parserSoundUptoRow.wf (OpenSpec.ofChange (Rows.OpenSpec.upto Rows.parserSoundSpec).bare)) = true := by kernel_rfl
theorem j1 : (laidOutB Tryz.prog) = true := by kernel_rfl
theorem j2 : (mapsRowed Tryz.prog) = true := by kernel_rfl
theorem j3 : (Tryz.f3.params.all (Tryz.prog.readableRec ·)) = true := by kernel_rfl
theorem j4 : (namedTie Tryz.prog Rows.parserSoundUptoRow.named (Rows.OpenSpec.upto Rows.parserSoundSpec).bare.vars) = true := by kernel_rfl
theorem j5 : ((Rows.parserSoundUptoRow.stops == [])) = true := by kernel_rfl
theorem j6 : ((Tryz.prog.stops == [])) = true := by kernel_rfl
theorem j7 : ((Rows.parserSoundUptoRow.knobs == [])) = true := by kernel_rfl
theorem j8 : ((Tryz.prog.stopKnobs == [])) = true := by kernel_rfl
theorem j9 : ((Rows.parserSoundUptoRow.inPlace == Tryz.prog.inPlace 3)) = true := by kernel_rfl
theorem mB : ((Rows.parserSoundUptoRow.unfollowed == Tryz.prog.unfollowed 3)) = true := by kernel_rfl
theorem l8 : ((Rows.parserSoundUptoRow.recurses == Tryz.prog.recurses 3)) = true := by kernel_rfl
theorem l5 : ((Rows.parserSoundUptoRow.named == Tryz.prog.varsNamed 3)) = true := by kernel_rfl
theorem mH : ((Rows.parserSoundUptoRow.maps == (Tryz.f3.params.toList ++ (Rows.OpenSpec.upto Rows.parserSoundSpec).bare.plain.varTypes Tryz.prog).any (Tryz.prog.mapsRec ·))) = true := by kernel_rfl
theorem mE : ((Rows.parserSoundUptoRow.ifaces == (Tryz.f3.params.toList ++ (Rows.OpenSpec.upto Rows.parserSoundSpec).bare.plain.varTypes Tryz.prog).any (Tryz.prog.ifacesRec ·))) = true := by kernel_rfl
theorem lC : ((Rows.parserSoundUptoRow.mapsOut == Tryz.prog.mapsAmong Tryz.f3.resultTypes.toList)) = true := by kernel_rfl
theorem lZ : ((Rows.parserSoundUptoRow.loops == (Tryz.f3.params.toList ++ (Rows.OpenSpec.upto Rows.parserSoundSpec).bare.plain.varTypes Tryz.prog).any (Tryz.prog.loopsFrom ·))) = true := by kernel_rfl
theorem mC : ((Rows.parserSoundUptoRow.wideKeys == (Tryz.f3.params.toList ++ (Rows.OpenSpec.upto Rows.parserSoundSpec).bare.plain.varTypes Tryz.prog ++ Tryz.f3.resultTypes.toList).any (Tryz.prog.wideKeysFrom ·))) = true := by kernel_rfl
theorem mJ : ((Rows.OpenSpec.upto Rows.parserSoundSpec).bare.vars.all (Tryz.prog.varReadable ·)) = true := by kernel_rfl
theorem lg : (Tryz.f3.resultTypes.all (fun t => Tryz.prog.readableRec t && decide (t < Tryz.prog.types.size))) = true := by kernel_rfl
theorem mI : ((Rows.parserSoundUptoRow.ifacesOut == Tryz.f3.resultTypes.toList.any (Tryz.prog.ifacesRec ·))) = true := by kernel_rfl
theorem l6 : ((Rows.parserSoundUptoRow.loopsOut == Tryz.f3.resultTypes.toList.any (Tryz.prog.loopsFrom ·))) = true := by kernel_rfl
theorem mD : ((Rows.parserSoundUptoRow.plainKeys == Tryz.prog.plainKeys)) = true := by kernel_rfl
theorem mA : (Rows.parserSoundUptoRow.shortTexts.isNone) = true := by kernel_rfl
theorem mF : (Tryz.prog.stopsHeard) = true := by kernel_rfl
theorem l9 : (Tryz.prog.mayEnter) = true := by kernel_rfl
theorem ls : ((Rows.parserSoundUptoRow.lifted == Tryz.prog.liftsFinal)) = true := by kernel_rfl
theorem lY : ((Tryz.prog.make == some Rows.parserSoundUptoRow.make)) = true := by kernel_rfl
theorem lh : ((Rows.parserSoundUptoRow.kinds == (if Rows.parserSoundUptoRow.domain.isEmpty then [] else Tryz.f3.params.toList.map fun t => match Tryz.prog.underlying t with | some (.int k) => some k | _ => none))) = true := by kernel_rfl
theorem lj : ((Rows.parserSoundUptoRow.pinned == Rows.parserSoundUptoRow.pinnedBy)) = true := by kernel_rfl
theorem lu : ((Rows.parserSoundUptoRow.veiled == (Tryz.f3.params.toList ++ (Rows.OpenSpec.upto Rows.parserSoundSpec).bare.plain.varTypes Tryz.prog ++ Tryz.f3.resultTypes.toList).any (Tryz.prog.veiledRec ·))) = true := by kernel_rfl
theorem mG : (Rows.parserSoundUptoRow.veiledFits Tryz.prog Tryz.f3.params.toList (Tryz.f3.params.toList ++ (Rows.OpenSpec.upto Rows.parserSoundSpec).bare.plain.varTypes Tryz.prog ++ Tryz.f3.resultTypes.toList)) = true := by kernel_rfl
theorem lK {a b : Bool} (h : a = true) (h2 : b = true) : (a && b) = true := by rw [h, h2]; rfl
set_option maxRecDepth 1000000 in
theorem closed : joinedFacts Tryz.prog 3 Tryz.f3 (Rows.OpenSpec.upto Rows.parserSoundSpec).bare Rows.parserSoundUptoRow = true := by
  unfold joinedFacts
  exact (lK (lK (lK (lK (lK (lK (lK (lK (lK (lK (lK (lK (lK (lK (lK (lK (lK (lK (lK (lK (lK (lK (lK (lK (lK (lK (lK (lK (lK (lK (lK j0 j1) j2) j3) j4) j5) j6) j7) j8) j9) mB) l8) l5) mH) mE) lC) lZ) mC) mJ) lg) mI) l6) mD) mA) mF) l9) ls) lY) lh) lj) lu) mG)
end SxFacts
end Go.Proofs.YtpocgkiamgipdaaGreatDoor
