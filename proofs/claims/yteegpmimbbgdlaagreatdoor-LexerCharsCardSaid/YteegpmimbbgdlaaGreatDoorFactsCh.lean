/- The closed facts of the row of LexerChars, one by one. -/
import Derived.Test.YteegpmimbbgdlaaGreatDoorRows
import Derived.JoinedCond
import Derived.KernelRfl
namespace Go.Proofs.YteegpmimbbgdlaaGreatDoor
open Go
namespace ChFacts
theorem j0 : (Rows.lexerCharsRow.wf (OpenSpec.ofChange (OpenSpec.ofChange Rows.lexerCharsSpec).bare)) = true := by kernel_rfl
theorem j1 : (laidOutB Tryz.prog) = true := by kernel_rfl
theorem j2 : (mapsRowed Tryz.prog) = true := by kernel_rfl
theorem j3 : (Tryz.f9.params.all (Tryz.prog.readableRec ·)) = true := by kernel_rfl
theorem j4 : (namedTie Tryz.prog Rows.lexerCharsRow.named (OpenSpec.ofChange Rows.lexerCharsSpec).bare.vars) = true := by kernel_rfl
theorem j5 : ((Rows.lexerCharsRow.stops == [])) = true := by kernel_rfl
theorem j6 : ((Tryz.prog.stops == [])) = true := by kernel_rfl
theorem j7 : ((Rows.lexerCharsRow.knobs == [])) = true := by kernel_rfl
theorem j8 : ((Tryz.prog.stopKnobs == [])) = true := by kernel_rfl
theorem j9 : ((Rows.lexerCharsRow.inPlace == Tryz.prog.inPlace 9)) = true := by kernel_rfl
theorem j10 : ((Rows.lexerCharsRow.unfollowed == Tryz.prog.unfollowed 9)) = true := by kernel_rfl
theorem j11 : ((Rows.lexerCharsRow.recurses == Tryz.prog.recurses 9)) = true := by kernel_rfl
theorem j12 : ((Rows.lexerCharsRow.named == Tryz.prog.varsNamed 9)) = true := by kernel_rfl
theorem j13 : ((Rows.lexerCharsRow.maps == (Tryz.f9.params.toList ++ (OpenSpec.ofChange Rows.lexerCharsSpec).bare.plain.varTypes Tryz.prog).any (Tryz.prog.mapsRec ·))) = true := by kernel_rfl
theorem j14 : ((Rows.lexerCharsRow.ifaces == (Tryz.f9.params.toList ++ (OpenSpec.ofChange Rows.lexerCharsSpec).bare.plain.varTypes Tryz.prog).any (Tryz.prog.ifacesRec ·))) = true := by kernel_rfl
theorem j15 : ((Rows.lexerCharsRow.mapsOut == Tryz.prog.mapsAmong Tryz.f9.resultTypes.toList)) = true := by kernel_rfl
theorem j16 : ((Rows.lexerCharsRow.loops == (Tryz.f9.params.toList ++ (OpenSpec.ofChange Rows.lexerCharsSpec).bare.plain.varTypes Tryz.prog).any (Tryz.prog.loopsFrom ·))) = true := by kernel_rfl
theorem j17 : ((Rows.lexerCharsRow.wideKeys == (Tryz.f9.params.toList ++ (OpenSpec.ofChange Rows.lexerCharsSpec).bare.plain.varTypes Tryz.prog ++ Tryz.f9.resultTypes.toList).any (Tryz.prog.wideKeysFrom ·))) = true := by kernel_rfl
theorem j18 : ((OpenSpec.ofChange Rows.lexerCharsSpec).bare.vars.all (Tryz.prog.varReadable ·)) = true := by kernel_rfl
theorem j19 : (Tryz.f9.resultTypes.all (fun t => Tryz.prog.readableRec t && decide (t < Tryz.prog.types.size))) = true := by kernel_rfl
theorem j20 : ((Rows.lexerCharsRow.ifacesOut == Tryz.f9.resultTypes.toList.any (Tryz.prog.ifacesRec ·))) = true := by kernel_rfl
theorem j21 : ((Rows.lexerCharsRow.loopsOut == Tryz.f9.resultTypes.toList.any (Tryz.prog.loopsFrom ·))) = true := by kernel_rfl
theorem j22 : ((Rows.lexerCharsRow.plainKeys == Tryz.prog.plainKeys)) = true := by kernel_rfl
theorem j23 : (Rows.lexerCharsRow.shortTexts.isNone) = true := by kernel_rfl
theorem j24 : (Tryz.prog.stopsHeard) = true := by kernel_rfl
theorem j25 : (Tryz.prog.mayEnter) = true := by kernel_rfl
theorem j26 : ((Rows.lexerCharsRow.lifted == Tryz.prog.liftsFinal)) = true := by kernel_rfl
theorem j27 : ((Tryz.prog.make == some Rows.lexerCharsRow.make)) = true := by kernel_rfl
theorem j28 : ((Rows.lexerCharsRow.kinds == (if Rows.lexerCharsRow.domain.isEmpty then [] else Tryz.f9.params.toList.map fun t => match Tryz.prog.underlying t with | some (.int k) => some k | _ => none))) = true := by kernel_rfl
theorem j29 : ((Rows.lexerCharsRow.pinned == Rows.lexerCharsRow.pinnedBy)) = true := by kernel_rfl
theorem j30 : ((Rows.lexerCharsRow.veiled == (Tryz.f9.params.toList ++ (OpenSpec.ofChange Rows.lexerCharsSpec).bare.plain.varTypes Tryz.prog ++ Tryz.f9.resultTypes.toList).any (Tryz.prog.veiledRec ·))) = true := by kernel_rfl
theorem j31 : (Rows.lexerCharsRow.veiledFits Tryz.prog Tryz.f9.params.toList (Tryz.f9.params.toList ++ (OpenSpec.ofChange Rows.lexerCharsSpec).bare.plain.varTypes Tryz.prog ++ Tryz.f9.resultTypes.toList)) = true := by kernel_rfl
theorem band {a b : Bool} (h : a = true) (h2 : b = true) : (a && b) = true := by rw [h, h2]; rfl
set_option maxRecDepth 1000000 in
theorem closed : joinedFacts Tryz.prog 9 Tryz.f9 (OpenSpec.ofChange Rows.lexerCharsSpec).bare Rows.lexerCharsRow = true := by
  unfold joinedFacts
  exact (band (band (band (band (band (band (band (band (band (band (band (band (band (band (band (band (band (band (band (band (band (band (band (band (band (band (band (band (band (band (band j0 j1) j2) j3) j4) j5) j6) j7) j8) j9) j10) j11) j12) j13) j14) j15) j16) j17) j18) j19) j20) j21) j22) j23) j24) j25) j26) j27) j28) j29) j30) j31)
end ChFacts
end Go.Proofs.YteegpmimbbgdlaaGreatDoor
