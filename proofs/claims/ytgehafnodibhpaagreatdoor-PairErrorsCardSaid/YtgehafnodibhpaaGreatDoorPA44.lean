/- Rules of runs and contracts of functions, for the claims of one seat. -/
import Derived.JoinedOf
import Derived.SevenTiedAt
import Derived.Test.YtgehafnodibhpaaGreatDoorRows
namespace Go.Proofs.YtgehafnodibhpaaGreatDoor
open Go
set_option maxRecDepth 100000
theorem andT {a b : Bool} (h : a = true) (k : b = true) : (a && b) = true := by rw [h, k]; rfl
theorem pairErrors_j0 : (Rows.pairErrorsRow.wf (OpenSpec.ofChange Rows.pairErrorsSpec)) = true := by kernel_rfl
theorem pairErrors_j1 : (laidOutB Tryz.prog) = true := by kernel_rfl
theorem pairErrors_j2 : (mapsRowed Tryz.prog) = true := by kernel_rfl
theorem pairErrors_j3 : (Tryz.f3.params.all (Tryz.prog.readableRec ·)) = true := by kernel_rfl
theorem pairErrors_j4 : (namedTie Tryz.prog Rows.pairErrorsRow.named Rows.pairErrorsSpec.vars) = true := by kernel_rfl
theorem pairErrors_j5 : ((Rows.pairErrorsRow.stops == [])) = true := by kernel_rfl
theorem pairErrors_j6 : ((Tryz.prog.stops == [])) = true := by kernel_rfl
theorem pairErrors_j7 : ((Rows.pairErrorsRow.knobs == [])) = true := by kernel_rfl
theorem pairErrors_j8 : ((Tryz.prog.stopKnobs == [])) = true := by kernel_rfl
theorem pairErrors_j9 : ((Rows.pairErrorsRow.inPlace == Tryz.prog.inPlace 3)) = true := by kernel_rfl
theorem pairErrors_j10 : ((Rows.pairErrorsRow.unfollowed == Tryz.prog.unfollowed 3)) = true := by kernel_rfl
theorem pairErrors_j11 : ((Rows.pairErrorsRow.recurses == Tryz.prog.recurses 3)) = true := by kernel_rfl
theorem pairErrors_j12 : ((Rows.pairErrorsRow.named == Tryz.prog.varsNamed 3)) = true := by kernel_rfl
theorem pairErrors_j13 : ((Rows.pairErrorsRow.maps == (Tryz.f3.params.toList ++ Rows.pairErrorsSpec.plain.varTypes Tryz.prog).any (Tryz.prog.mapsRec ·))) = true := by kernel_rfl
theorem pairErrors_j14 : ((Rows.pairErrorsRow.ifaces == (Tryz.f3.params.toList ++ Rows.pairErrorsSpec.plain.varTypes Tryz.prog).any (Tryz.prog.ifacesRec ·))) = true := by kernel_rfl
theorem pairErrors_j15 : ((Rows.pairErrorsRow.mapsOut == Tryz.prog.mapsAmong Tryz.f3.resultTypes.toList)) = true := by kernel_rfl
theorem pairErrors_j16 : ((Rows.pairErrorsRow.loops == (Tryz.f3.params.toList ++ Rows.pairErrorsSpec.plain.varTypes Tryz.prog).any (Tryz.prog.loopsFrom ·))) = true := by kernel_rfl
theorem pairErrors_j17 : ((Rows.pairErrorsRow.wideKeys == (Tryz.f3.params.toList ++ Rows.pairErrorsSpec.plain.varTypes Tryz.prog ++ Tryz.f3.resultTypes.toList).any (Tryz.prog.wideKeysFrom ·))) = true := by kernel_rfl
theorem pairErrors_j18 : (Rows.pairErrorsSpec.vars.all (Tryz.prog.varReadable ·)) = true := by kernel_rfl
theorem pairErrors_j19 : (Tryz.f3.resultTypes.all (fun t => Tryz.prog.readableRec t && decide (t < Tryz.prog.types.size))) = true := by kernel_rfl
theorem pairErrors_j20 : ((Rows.pairErrorsRow.ifacesOut == Tryz.f3.resultTypes.toList.any (Tryz.prog.ifacesRec ·))) = true := by kernel_rfl
theorem pairErrors_j21 : ((Rows.pairErrorsRow.loopsOut == Tryz.f3.resultTypes.toList.any (Tryz.prog.loopsFrom ·))) = true := by kernel_rfl
theorem pairErrors_j22 : ((Rows.pairErrorsRow.plainKeys == Tryz.prog.plainKeys)) = true := by kernel_rfl
theorem pairErrors_j23 : (Rows.pairErrorsRow.shortTexts.isNone) = true := by kernel_rfl
theorem pairErrors_j24 : (Tryz.prog.stopsHeard) = true := by kernel_rfl
theorem pairErrors_j25 : (Tryz.prog.mayEnter) = true := by kernel_rfl
theorem pairErrors_j26 : ((Rows.pairErrorsRow.lifted == Tryz.prog.liftsFinal)) = true := by kernel_rfl
theorem pairErrors_j27 : ((Tryz.prog.make == some Rows.pairErrorsRow.make)) = true := by kernel_rfl
theorem pairErrors_j28 : ((Rows.pairErrorsRow.kinds == (if Rows.pairErrorsRow.domain.isEmpty then [] else Tryz.f3.params.toList.map fun t => match Tryz.prog.underlying t with | some (.int k) => some k | _ => none))) = true := by kernel_rfl
theorem pairErrors_j29 : ((Rows.pairErrorsRow.pinned == Rows.pairErrorsRow.pinnedBy)) = true := by kernel_rfl
theorem pairErrors_j30 : ((Rows.pairErrorsRow.veiled == (Tryz.f3.params.toList ++ Rows.pairErrorsSpec.plain.varTypes Tryz.prog ++ Tryz.f3.resultTypes.toList).any (Tryz.prog.veiledRec ·))) = true := by kernel_rfl
theorem pairErrors_j31 : (Rows.pairErrorsRow.veiledFits Tryz.prog Tryz.f3.params.toList (Tryz.f3.params.toList ++ Rows.pairErrorsSpec.plain.varTypes Tryz.prog ++ Tryz.f3.resultTypes.toList)) = true := by kernel_rfl
theorem pairErrors_joined : joinedFacts Tryz.prog 3 Tryz.f3 Rows.pairErrorsSpec Rows.pairErrorsRow = true := by
 unfold joinedFacts
 exact (andT (andT (andT (andT (andT (andT (andT (andT (andT (andT (andT (andT (andT (andT (andT (andT (andT (andT (andT (andT (andT (andT (andT (andT (andT (andT (andT (andT (andT (andT (andT pairErrors_j0 pairErrors_j1) pairErrors_j2) pairErrors_j3) pairErrors_j4) pairErrors_j5) pairErrors_j6) pairErrors_j7) pairErrors_j8) pairErrors_j9) pairErrors_j10) pairErrors_j11) pairErrors_j12) pairErrors_j13) pairErrors_j14) pairErrors_j15) pairErrors_j16) pairErrors_j17) pairErrors_j18) pairErrors_j19) pairErrors_j20) pairErrors_j21) pairErrors_j22) pairErrors_j23) pairErrors_j24) pairErrors_j25) pairErrors_j26) pairErrors_j27) pairErrors_j28) pairErrors_j29) pairErrors_j30) pairErrors_j31)
theorem pairErrors_inst : decide (Tryz.f3.isInstance Tryz.prog Rows.pairErrorsRow.origin Rows.pairErrorsRow.targs) = true := by kernel_rfl
theorem pairErrors_looks : false = Tryz.prog.looks [] := by kernel_rfl
end Go.Proofs.YtgehafnodibhpaaGreatDoor

