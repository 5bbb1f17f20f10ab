/- Rules of runs and contracts of functions, for the claims of one seat. -/
import Derived.JoinedOf
import Derived.SevenTiedAt
import Derived.Test.YtfnljcallbalgaaGreatDoorRows
namespace Go.Proofs.YtfnljcallbalgaaGreatDoor
open Go
set_option maxRecDepth 100000
theorem andT {a b : Bool} (h : a = true) (k : b = true) : (a && b) = true := by rw [h, k]; rfl
theorem scenarioErrors_j0 : (Rows.scenarioErrorsRow.wf (OpenSpec.ofChange Rows.scenarioErrorsSpec)) = true := by kernel_rfl
theorem scenarioErrors_j1 : (laidOutB Tryz.prog) = true := by kernel_rfl
theorem scenarioErrors_j2 : (mapsRowed Tryz.prog) = true := by kernel_rfl
theorem scenarioErrors_j3 : (Tryz.f3.params.all (Tryz.prog.readableRec ·)) = true := by kernel_rfl
theorem scenarioErrors_j4 : (namedTie Tryz.prog Rows.scenarioErrorsRow.named Rows.scenarioErrorsSpec.vars) = true := by kernel_rfl
theorem scenarioErrors_j5 : ((Rows.scenarioErrorsRow.stops == [])) = true := by kernel_rfl
theorem scenarioErrors_j6 : ((Tryz.prog.stops == [])) = true := by kernel_rfl
theorem scenarioErrors_j7 : ((Rows.scenarioErrorsRow.knobs == [])) = true := by kernel_rfl
theorem scenarioErrors_j8 : ((Tryz.prog.stopKnobs == [])) = true := by kernel_rfl
theorem scenarioErrors_j9 : ((Rows.scenarioErrorsRow.inPlace == Tryz.prog.inPlace 3)) = true := by kernel_rfl
theorem scenarioErrors_j10 : ((Rows.scenarioErrorsRow.unfollowed == Tryz.prog.unfollowed 3)) = true := by kernel_rfl
theorem scenarioErrors_j11 : ((Rows.scenarioErrorsRow.recurses == Tryz.prog.recurses 3)) = true := by kernel_rfl
theorem scenarioErrors_j12 : ((Rows.scenarioErrorsRow.named == Tryz.prog.varsNamed 3)) = true := by kernel_rfl
theorem scenarioErrors_j13 : ((Rows.scenarioErrorsRow.maps == (Tryz.f3.params.toList ++ Rows.scenarioErrorsSpec.plain.varTypes Tryz.prog).any (Tryz.prog.mapsRec ·))) = true := by kernel_rfl
theorem scenarioErrors_j14 : ((Rows.scenarioErrorsRow.ifaces == (Tryz.f3.params.toList ++ Rows.scenarioErrorsSpec.plain.varTypes Tryz.prog).any (Tryz.prog.ifacesRec ·))) = true := by kernel_rfl
theorem scenarioErrors_j15 : ((Rows.scenarioErrorsRow.mapsOut == Tryz.prog.mapsAmong Tryz.f3.resultTypes.toList)) = true := by kernel_rfl
theorem scenarioErrors_j16 : ((Rows.scenarioErrorsRow.loops == (Tryz.f3.params.toList ++ Rows.scenarioErrorsSpec.plain.varTypes Tryz.prog).any (Tryz.prog.loopsFrom ·))) = true := by kernel_rfl
theorem scenarioErrors_j17 : ((Rows.scenarioErrorsRow.wideKeys == (Tryz.f3.params.toList ++ Rows.scenarioErrorsSpec.plain.varTypes Tryz.prog ++ Tryz.f3.resultTypes.toList).any (Tryz.prog.wideKeysFrom ·))) = true := by kernel_rfl
theorem scenarioErrors_j18 : (Rows.scenarioErrorsSpec.vars.all (Tryz.prog.varReadable ·)) = true := by kernel_rfl
theorem scenarioErrors_j19 : (Tryz.f3.resultTypes.all (fun t => Tryz.prog.readableRec t && decide (t < Tryz.prog.types.size))) = true := by kernel_rfl
theorem scenarioErrors_j20 : ((Rows.scenarioErrorsRow.ifacesOut == Tryz.f3.resultTypes.toList.any (Tryz.prog.ifacesRec ·))) = true := by kernel_rfl
theorem scenarioErrors_j21 : ((Rows.scenarioErrorsRow.loopsOut == Tryz.f3.resultTypes.toList.any (Tryz.prog.loopsFrom ·))) = true := by kernel_rfl
theorem scenarioErrors_j22 : ((Rows.scenarioErrorsRow.plainKeys == Tryz.prog.plainKeys)) = true := by kernel_rfl
theorem scenarioErrors_j23 : (Rows.scenarioErrorsRow.shortTexts.isNone) = true := by kernel_rfl
theorem scenarioErrors_j24 : (Tryz.prog.stopsHeard) = true := by kernel_rfl
theorem scenarioErrors_j25 : (Tryz.prog.mayEnter) = true := by kernel_rfl
theorem scenarioErrors_j26 : ((Rows.scenarioErrorsRow.lifted == Tryz.prog.liftsFinal)) = true := by kernel_rfl
theorem scenarioErrors_j27 : ((Tryz.prog.make == some Rows.scenarioErrorsRow.make)) = true := by kernel_rfl
theorem scenarioErrors_j28 : ((Rows.scenarioErrorsRow.kinds == (if Rows.scenarioErrorsRow.domain.isEmpty then [] else Tryz.f3.params.toList.map fun t => match Tryz.prog.underlying t with | some (.int k) => some k | _ => none))) = true := by kernel_rfl
theorem scenarioErrors_j29 : ((Rows.scenarioErrorsRow.pinned == Rows.scenarioErrorsRow.pinnedBy)) = true := by kernel_rfl
theorem scenarioErrors_j30 : ((Rows.scenarioErrorsRow.veiled == (Tryz.f3.params.toList ++ Rows.scenarioErrorsSpec.plain.varTypes Tryz.prog ++ Tryz.f3.resultTypes.toList).any (Tryz.prog.veiledRec ·))) = true := by kernel_rfl
theorem scenarioErrors_j31 : (Rows.scenarioErrorsRow.veiledFits Tryz.prog Tryz.f3.params.toList (Tryz.f3.params.toList ++ Rows.scenarioErrorsSpec.plain.varTypes Tryz.prog ++ Tryz.f3.resultTypes.toList)) = true := by kernel_rfl
theorem scenarioErrors_joined : joinedFacts Tryz.prog 3 Tryz.f3 Rows.scenarioErrorsSpec Rows.scenarioErrorsRow = true := by
 unfold joinedFacts
 exact (andT (andT (andT (andT (andT (andT (andT (andT (andT (andT (andT (andT (andT (andT (andT (andT (andT (andT (andT (andT (andT (andT (andT (andT (andT (andT (andT (andT (andT (andT (andT scenarioErrors_j0 scenarioErrors_j1) scenarioErrors_j2) scenarioErrors_j3) scenarioErrors_j4) scenarioErrors_j5) scenarioErrors_j6) scenarioErrors_j7) scenarioErrors_j8) scenarioErrors_j9) scenarioErrors_j10) scenarioErrors_j11) scenarioErrors_j12) scenarioErrors_j13) scenarioErrors_j14) scenarioErrors_j15) scenarioErrors_j16) scenarioErrors_j17) scenarioErrors_j18) scenarioErrors_j19) scenarioErrors_j20) scenarioErrors_j21) scenarioErrors_j22) scenarioErrors_j23) scenarioErrors_j24) scenarioErrors_j25) scenarioErrors_j26) scenarioErrors_j27) scenarioErrors_j28) scenarioErrors_j29) scenarioErrors_j30) scenarioErrors_j31)
theorem scenarioErrors_inst : decide (Tryz.f3.isInstance Tryz.prog Rows.scenarioErrorsRow.origin Rows.scenarioErrorsRow.targs) = true := by kernel_rfl
theorem scenarioErrors_looks : true = Tryz.prog.looks [] := by kernel_rfl
end Go.Proofs.YtfnljcallbalgaaGreatDoor

