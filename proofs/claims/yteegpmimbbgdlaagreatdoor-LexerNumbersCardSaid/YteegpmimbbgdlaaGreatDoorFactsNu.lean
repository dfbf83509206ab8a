/- The closed facts of the row of LexerNumbers, one by one. -/
import Derived.Test.YteegpmimbbgdlaaGreatDoorRows
import Derived.JoinedCond
import Derived.KernelRfl
namespace Go.Proofs.YteegpmimbbgdlaaGreatDoor
open Go
namespace NuFacts
theorem j0 : (Rows.lexerNumbersRow.wf (OpenSpec.ofChange (OpenSpec.ofChange Rows.lexerNumbersSpec).bare)) = true := by kernel_rfl
theorem j1 : (laidOutB Tryz.prog) = true := by kernel_rfl
theorem j2 : (mapsRowed Tryz.prog) = true := by kernel_rfl
theorem j3 : (Tryz.f8.params.all (Tryz.prog.readableRec ·)) = true := by kernel_rfl
theorem j4 : (namedTie Tryz.prog Rows.lexerNumbersRow.named (OpenSpec.ofChange Rows.lexerNumbersSpec).bare.vars) = true := by kernel_rfl
theorem j5 : ((Rows.lexerNumbersRow.stops == [])) = true := by kernel_rfl
theorem j6 : ((Tryz.prog.stops == [])) = true := by kernel_rfl
theorem j7 : ((Rows.lexerNumbersRow.knobs == [])) = true := by kernel_rfl
theorem j8 : ((Tryz.prog.stopKnobs == [])) = true := by kernel_rfl
theorem j9 : ((Rows.lexerNumbersRow.inPlace == Tryz.prog.inPlace 8)) = true := by kernel_rfl
theorem j10 : ((Rows.lexerNumbersRow.unfollowed == Tryz.prog.unfollowed 8)) = true := by kernel_rfl
theorem j11 : ((Rows.lexerNumbersRow.recurses == Tryz.prog.recurses 8)) = true := by kernel_rfl
theorem j12 : ((Rows.lexerNumbersRow.named == Tryz.prog.varsNamed 8)) = true := by kernel_rfl
theorem j13 : ((Rows.lexerNumbersRow.maps == (Tryz.f8.params.toList ++ (OpenSpec.ofChange Rows.lexerNumbersSpec).bare.plain.varTypes Tryz.prog).any (Tryz.prog.mapsRec ·))) = true := by kernel_rfl
theorem j14 : ((Rows.lexerNumbersRow.ifaces == (Tryz.f8.params.toList ++ (OpenSpec.ofChange Rows.lexerNumbersSpec).bare.plain.varTypes Tryz.prog).any (Tryz.prog.ifacesRec ·))) = true := by kernel_rfl
theorem j15 : ((Rows.lexerNumbersRow.mapsOut == Tryz.prog.mapsAmong Tryz.f8.resultTypes.toList)) = true := by kernel_rfl
theorem j16 : ((Rows.lexerNumbersRow.loops == (Tryz.f8.params.toList ++ (OpenSpec.ofChange Rows.lexerNumbersSpec).bare.plain.varTypes Tryz.prog).any (Tryz.prog.loopsFrom ·))) = true := by kernel_rfl
theorem j17 : ((Rows.lexerNumbersRow.wideKeys == (Tryz.f8.params.toList ++ (OpenSpec.ofChange Rows.lexerNumbersSpec).bare.plain.varTypes Tryz.prog ++ Tryz.f8.resultTypes.toList).any (Tryz.prog.wideKeysFrom ·))) = true := by kernel_rfl
theorem j18 : ((OpenSpec.ofChange Rows.lexerNumbersSpec).bare.vars.all (Tryz.prog.varReadable ·)) = true := by kernel_rfl
theorem j19 : (Tryz.f8.resultTypes.all (fun t => Tryz.prog.readableRec t && decide (t < Tryz.prog.types.size))) = true := by kernel_rfl
theorem j20 : ((Rows.lexerNumbersRow.ifacesOut == Tryz.f8.resultTypes.toList.any (Tryz.prog.ifacesRec ·))) = true := by kernel_rfl
theorem j21 : ((Rows.lexerNumbersRow.loopsOut == Tryz.f8.resultTypes.toList.any (Tryz.prog.loopsFrom ·))) = true := by kernel_rfl
theorem j22 : ((Rows.lexerNumbersRow.plainKeys == Tryz.prog.plainKeys)) = true := by kernel_rfl
theorem j23 : (Rows.lexerNumbersRow.shortTexts.isNone) = true := by kernel_rfl
theorem j24 : (Tryz.prog.stopsHeard) = true := by kernel_rfl
theorem j25 : (Tryz.prog.mayEnter) = true := by kernel_rfl
theorem j26 : ((Rows.lexerNumbersRow.lifted == Tryz.prog.liftsFinal)) = true := by kernel_rfl
theorem j27 : ((Tryz.prog.make == some Rows.lexerNumbersRow.make)) = true := by kernel_rfl
theorem j28 : ((Rows.lexerNumbersRow.kinds == (if Rows.lexerNumbersRow.domain.isEmpty then [] else Tryz.f8.params.toList.map fun t => match Tryz.prog.underlying t with | some (.int k) => some k | _ => none))) = true := by kernel_rfl
theorem j29 : ((Rows.lexerNumbersRow.pinned == Rows.lexerNumbersRow.pinnedBy)) = true := by kernel_rfl
theorem j30 : ((Rows.lexerNumbersRow.veiled == (Tryz.f8.params.toList ++ (OpenSpec.ofChange Rows.lexerNumbersSpec).bare.plain.varTypes Tryz.prog ++ Tryz.f8.resultTypes.toList).any (Tryz.prog.veiledRec ·))) = true := by kernel_rfl
theorem j31 : (Rows.lexerNumbersRow.veiledFits Tryz.prog Tryz.f8.params.toList (Tryz.f8.params.toList ++ (OpenSpec.ofChange Rows.lexerNumbersSpec).bare.plain.varTypes Tryz.prog ++ Tryz.f8.resultTypes.toList)) = true := by kernel_rfl
theorem band {a b : Bool} (h : a = true) (h2 : b = true) : (a && b) = true := by rw [h, h2]; rfl
set_option maxRecDepth 1000000 in
theorem closed : joinedFacts Tryz.prog 8 Tryz.f8 (OpenSpec.ofChange Rows.lexerNumbersSpec).bare Rows.lexerNumbersRow = true := by
  unfold joinedFacts
  exact (band (band (band (band (band (band (band (band (band (band (band (band (band (band (band (band (band (band (band (band (band (band (band (band (band (band (band (band (band (band (band j0 j1) j2) j3) j4) j5) j6) j7) j8) j9) j10) j11) j12) j13) j14) j15) j16) j17) j18) j19) j20) j21) j22) j23) j24) j25) j26) j27) j28) j29) j30) j31)
end NuFacts
end Go.Proofs.YteegpmimbbgdlaaGreatDoor
