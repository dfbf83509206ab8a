/- The closed facts of the row of WriterAtoms, one by one. -/
import Derived.Test.YtnipmfaikiaipaaGreatDoorRows
import Derived.JoinedCond
import Derived.KernelRfl
namespace Go.Proofs.YtnipmfaikiaipaaGreatDoor
open Go
namespace WaFacts
theorem j0 : (Rows.writerAtomsUptoRow.wf (OpenSpec.ofChange (Rows.OpenSpec.upto Rows.writerAtomsSpec).bare)) = true := by kernel_rfl
theorem j1 : (laidOutB Tryz.prog) = true := by kernel_rfl
theorem j2 : (mapsRowed Tryz.prog) = true := by kernel_rfl
theorem j3 : (Tryz.f4.params.all (Tryz.prog.readableRec ·)) = true := by kernel_rfl
theorem j4 : (namedTie Tryz.prog Rows.writerAtomsUptoRow.named (Rows.OpenSpec.upto Rows.writerAtomsSpec).bare.vars) = true := by kernel_rfl
theorem j5 : ((Rows.writerAtomsUptoRow.stops == [])) = true := by kernel_rfl
theorem j6 : ((Tryz.prog.stops == [])) = true := by kernel_rfl
theorem j7 : ((Rows.writerAtomsUptoRow.knobs == [])) = true := by kernel_rfl
theorem j8 : ((Tryz.prog.stopKnobs == [])) = true := by kernel_rfl
theorem j9 : ((Rows.writerAtomsUptoRow.inPlace == Tryz.prog.inPlace 4)) = true := by kernel_rfl
theorem iT : ((Rows.writerAtomsUptoRow.unfollowed == Tryz.prog.unfollowed 4)) = true := by kernel_rfl
theorem iP : ((Rows.writerAtomsUptoRow.recurses == Tryz.prog.recurses 4)) = true := by kernel_rfl
theorem iN : ((Rows.writerAtomsUptoRow.named == Tryz.prog.varsNamed 4)) = true := by kernel_rfl
theorem iO : ((Rows.writerAtomsUptoRow.maps == (Tryz.f4.params.toList ++ (Rows.OpenSpec.upto Rows.writerAtomsSpec).bare.plain.varTypes Tryz.prog).any (Tryz.prog.mapsRec ·))) = true := by kernel_rfl
theorem iM : ((Rows.writerAtomsUptoRow.ifaces == (Tryz.f4.params.toList ++ (Rows.OpenSpec.upto Rows.writerAtomsSpec).bare.plain.varTypes Tryz.prog).any (Tryz.prog.ifacesRec ·))) = true := by kernel_rfl
theorem hO : ((Rows.writerAtomsUptoRow.mapsOut == Tryz.prog.mapsAmong Tryz.f4.resultTypes.toList)) = true := by kernel_rfl
theorem iI : ((Rows.writerAtomsUptoRow.loops == (Tryz.f4.params.toList ++ (Rows.OpenSpec.upto Rows.writerAtomsSpec).bare.plain.varTypes Tryz.prog).any (Tryz.prog.loopsFrom ·))) = true := by kernel_rfl
theorem iU : ((Rows.writerAtomsUptoRow.wideKeys == (Tryz.f4.params.toList ++ (Rows.OpenSpec.upto Rows.writerAtomsSpec).bare.plain.varTypes Tryz.prog ++ Tryz.f4.resultTypes.toList).any (Tryz.prog.wideKeysFrom ·))) = true := by kernel_rfl
theorem iS : ((Rows.OpenSpec.upto Rows.writerAtomsSpec).bare.vars.all (Tryz.prog.varReadable ·)) = true := by kernel_rfl
theorem iB : (Tryz.f4.resultTypes.all (fun t => Tryz.prog.readableRec t && decide (t < Tryz.prog.types.size))) = true := by kernel_rfl
theorem iQ : ((Rows.writerAtomsUptoRow.ifacesOut == Tryz.f4.resultTypes.toList.any (Tryz.prog.ifacesRec ·))) = true := by kernel_rfl
theorem iC : ((Rows.writerAtomsUptoRow.loopsOut == Tryz.f4.resultTypes.toList.any (Tryz.prog.loopsFrom ·))) = true := by kernel_rfl
theorem iH : ((Rows.writerAtomsUptoRow.plainKeys == Tryz.prog.plainKeys)) = true := by kernel_rfl
theorem iF : (Rows.writerAtomsUptoRow.shortTexts.isNone) = true := by kernel_rfl
theorem iD : (Tryz.prog.stopsHeard) = true := by kernel_rfl
theorem iR : (Tryz.prog.mayEnter) = true := by kernel_rfl
theorem iE : ((Rows.writerAtomsUptoRow.lifted == Tryz.prog.liftsFinal)) = true := by kernel_rfl
theorem iL : ((Tryz.prog.make == some Rows.writerAtomsUptoRow.make)) = true := by kernel_rfl
theorem iG : ((Rows.writerAtomsUptoRow.kinds == (if Rows.writerAtomsUptoRow.domain.isEmpty then [] else Tryz.f4.params.toList.map fun t => match Tryz.prog.underlying t with | some (.int k) => some k | _ => none))) = true := by kernel_rfl
theorem iJ : ((Rows.writerAtomsUptoRow.pinned == Rows.writerAtomsUptoRow.pinnedBy)) = true := by kernel_rfl
theorem iK : ((Rows.writerAtomsUptoRow.veiled == (Tryz.f4.params.toList ++ (Rows.OpenSpec.upto Rows.writerAtomsSpec).bare.plain.varTypes Tryz.prog ++ Tryz.f4.resultTypes.toList).any (Tryz.prog.veiledRec ·))) = true := by kernel_rfl
theorem iA : (Rows.writerAtomsUptoRow.veiledFits Tryz.prog Tryz.f4.params.toList (Tryz.f4.params.toList ++ (Rows.OpenSpec.upto Rows.writerAtomsSpec).bare.plain.varTypes Tryz.prog ++ Tryz.f4.resultTypes.toList)) = true := by kernel_rfl
theorem gP {a b : Bool} (h : a = true) (h2 : b = true) : (a && b) = true := by rw [h, h2]; rfl
set_option maxRecDepth 1000000 in
theorem closed : joinedFacts Tryz.prog 4 Tryz.f4 (Rows.OpenSpec.upto Rows.writerAtomsSpec).bare Rows.writerAtomsUptoRow = true := by
  unfold joinedFacts
  exact (gP (gP (gP (gP (gP (gP (gP (gP (gP (gP (gP (gP (gP (gP (gP (gP (gP (gP (gP (gP (gP (gP (gP (gP (gP (gP (gP (gP (gP (gP (gP j0 j1) j2) j3) j4) j5) j6) j7) j8) j9) iT) iP) iN) iO) iM) hO) iI) iU) iS) iB) iQ) iC) iH) iF) iD) iR) iE) iL) iG) iJ) iK) iA)
end WaFacts
end Go.Proofs.YtnipmfaikiaipaaGreatDoor
