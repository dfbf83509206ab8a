/- The closed facts of the row of LexerQuotes, one by one. -/
import Derived.Test.YteegpmimbbgdlaaGreatDoorRows
import Derived.JoinedCond
import Derived.KernelRfl
namespace Go.Proofs.YteegpmimbbgdlaaGreatDoor
open Go
namespace QtFacts
theorem j0 : (Rows.lexerQuotesRow.wf (OpenSpec.ofChange (OpenSpec.ofChange Rows.lexerQuotesSpec).bare)) = true := by kernel_rfl
theorem j1 : (laidOutB Tryz.prog) = true := by kernel_rfl
theorem j2 : (mapsRowed Tryz.prog) = true := by kernel_rfl
theorem j3 : (Tryz.f7.params.all (Tryz.prog.readableRec ·)) = true := by kernel_rfl
theorem j4 : (namedTie Tryz.prog Rows.lexerQuotesRow.named (OpenSpec.ofChange Rows.lexerQuotesSpec).bare.vars) = true := by kernel_rfl
theorem j5 : ((Rows.lexerQuotesRow.stops == [])) = true := by kernel_rfl
theorem j6 : ((Tryz.prog.stops == [])) = true := by kernel_rfl
theorem j7 : ((Rows.lexerQuotesRow.knobs == [])) = true := by kernel_rfl
theorem j8 : ((Tryz.prog.stopKnobs == [])) = true := by kernel_rfl
theorem j9 : ((Rows.lexerQuotesRow.inPlace == Tryz.prog.inPlace 7)) = true := by kernel_rfl
theorem j10 : ((Rows.lexerQuotesRow.unfollowed == Tryz.prog.unfollowed 7)) = true := by kernel_rfl
theorem j11 : ((Rows.lexerQuotesRow.recurses == Tryz.prog.recurses 7)) = true := by kernel_rfl
theorem j12 : ((Rows.lexerQuotesRow.named == Tryz.prog.varsNamed 7)) = true := by kernel_rfl
theorem j13 : ((Rows.lexerQuotesRow.maps == (Tryz.f7.params.toList ++ (OpenSpec.ofChange Rows.lexerQuotesSpec).bare.plain.varTypes Tryz.prog).any (Tryz.prog.mapsRec ·))) = true := by kernel_rfl
theorem j14 : ((Rows.lexerQuotesRow.ifaces == (Tryz.f7.params.toList ++ (OpenSpec.ofChange Rows.lexerQuotesSpec).bare.plain.varTypes Tryz.prog).any (Tryz.prog.ifacesRec ·))) = true := by kernel_rfl
theorem j15 : ((Rows.lexerQuotesRow.mapsOut == Tryz.prog.mapsAmong Tryz.f7.resultTypes.toList)) = true := by kernel_rfl
theorem j16 : ((Rows.lexerQuotesRow.loops == (Tryz.f7.params.toList ++ (OpenSpec.ofChange Rows.lexerQuotesSpec).bare.plain.varTypes Tryz.prog).any (Tryz.prog.loopsFrom ·))) = true := by kernel_rfl
theorem j17 : ((Rows.lexerQuotesRow.wideKeys == (Tryz.f7.params.toList ++ (OpenSpec.ofChange Rows.lexerQuotesSpec).bare.plain.varTypes Tryz.prog ++ Tryz.f7.resultTypes.toList).any (Tryz.prog.wideKeysFrom ·))) = true := by kernel_rfl
theorem j18 : ((OpenSpec.ofChange Rows.lexerQuotesSpec).bare.vars.all (Tryz.prog.varReadable ·)) = true := by kernel_rfl
theorem j19 : (Tryz.f7.resultTypes.all (fun t => Tryz.prog.readableRec t && decide (t < Tryz.prog.types.size))) = true := by kernel_rfl
theorem j20 : ((Rows.lexerQuotesRow.ifacesOut == Tryz.f7.resultTypes.toList.any (Tryz.prog.ifacesRec ·))) = true := by kernel_rfl
theorem j21 : ((Rows.lexerQuotesRow.loopsOut == Tryz.f7.resultTypes.toList.any (Tryz.prog.loopsFrom ·))) = true := by kernel_rfl
theorem j22 : ((Rows.lexerQuotesRow.plainKeys == Tryz.prog.plainKeys)) = true := by kernel_rfl
theorem j23 : (Rows.lexerQuotesRow.shortTexts.isNone) = true := by kernel_rfl
theorem j24 : (Tryz.prog.stopsHeard) = true := by kernel_rfl
theorem j25 : (Tryz.prog.mayEnter) = true := by kernel_rfl
theorem j26 : ((Rows.lexerQuotesRow.lifted == Tryz.prog.liftsFinal)) = true := by kernel_rfl
theorem j27 : ((Tryz.prog.make == some Rows.lexerQuotesRow.make)) = true := by kernel_rfl
theorem j28 : ((Rows.lexerQuotesRow.kinds == (if Rows.lexerQuotesRow.domain.isEmpty then [] else Tryz.f7.params.toList.map fun t => match Tryz.prog.underlying t with | some (.int k) => some k | _ => none))) = true := by kernel_rfl
theorem j29 : ((Rows.lexerQuotesRow.pinned == Rows.lexerQuotesRow.pinnedBy)) = true := by kernel_rfl
theorem j30 : ((Rows.lexerQuotesRow.veiled == (Tryz.f7.params.toList ++ (OpenSpec.ofChange Rows.lexerQuotesSpec).bare.plain.varTypes Tryz.prog ++ Tryz.f7.resultTypes.toList).any (Tryz.prog.veiledRec ·))) = true := by kernel_rfl
theorem j31 : (Rows.lexerQuotesRow.veiledFits Tryz.prog Tryz.f7.params.toList (Tryz.f7.params.toList ++ (OpenSpec.ofChange Rows.lexerQuotesSpec).bare.plain.varTypes Tryz.prog ++ Tryz.f7.resultTypes.toList)) = true := by kernel_rfl
theorem band {a b : Bool} (h : a = true) (h2 : b = true) : (a && b) = true := by rw [h, h2]; rfl
set_option maxRecDepth 1000000 in
theorem closed : joinedFacts Tryz.prog 7 Tryz.f7 (OpenSpec.ofChange Rows.lexerQuotesSpec).bare Rows.lexerQuotesRow = true := by
  unfold joinedFacts
  exact (band (band (band (band (band (band (band (band (band (band (band (band (band (band (band (band (band (band (band (band (band (band (band (band (band (band (band (band (band (band (band j0 j1) j2) j3) j4) j5) j6) j7) j8) j9) j10) j11) j12) j13) j14) j15) j16) j17) j18) j19) j20) j21) j22) j23) j24) j25) j26) j27) j28) j29) j30) j31)
end QtFacts
end Go.Proofs.YteegpmimbbgdlaaGreatDoor
