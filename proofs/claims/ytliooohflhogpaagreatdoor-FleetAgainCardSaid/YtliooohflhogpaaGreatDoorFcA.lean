/-
  Closed facts of the row of FleetAgain, one by one. Printed by wip/tools/mkfacts.py.
-/
import Derived.Test.YtliooohflhogpaaGreatDoorRows
import Derived.JoinedOf
import Derived.SevenTiedAt
import Derived.Clock
namespace Go.Proofs.YtliooohflhogpaaGreatDoor
open Go.ChangeShapes Go.WideShapes Go.ChangeAt Go.RowKit
set_option maxRecDepth 100000
theorem andT {a b : Bool} (h : a = true) (k : b = true) : (a && b) = true := by rw [h, k]; rfl
theorem fleetAgain_j0 : (Rows.fleetAgainRow.wf (OpenSpec.ofChange Rows.fleetAgainSpec)) = true := by kernel_rfl
theorem fleetAgain_j1 : (laidOutB Tryz.prog) = true := by kernel_rfl
theorem fleetAgain_j2 : (mapsRowed Tryz.prog) = true := by kernel_rfl
theorem fleetAgain_j3 : (Tryz.f6.params.all (Tryz.prog.readableRec ·)) = true := by kernel_rfl
theorem fleetAgain_j4 : (namedTie Tryz.prog Rows.fleetAgainRow.named Rows.fleetAgainSpec.vars) = true := by kernel_rfl
theorem fleetAgain_j5 : ((Rows.fleetAgainRow.stops == [])) = true := by kernel_rfl
theorem fleetAgain_j6 : ((Tryz.prog.stops == [])) = true := by kernel_rfl
theorem fleetAgain_j7 : ((Rows.fleetAgainRow.knobs == [])) = true := by kernel_rfl
theorem fleetAgain_j8 : ((Tryz.prog.stopKnobs == [])) = true := by kernel_rfl
theorem fleetAgain_j9 : ((Rows.fleetAgainRow.inPlace == Tryz.prog.inPlace 6)) = true := by kernel_rfl
theorem fleetAgain_j10 : ((Rows.fleetAgainRow.unfollowed == Tryz.prog.unfollowed 6)) = true := by kernel_rfl
theorem fleetAgain_j11 : ((Rows.fleetAgainRow.recurses == Tryz.prog.recurses 6)) = true := by kernel_rfl
theorem fleetAgain_j12 : ((Rows.fleetAgainRow.named == Tryz.prog.varsNamed 6)) = true := by kernel_rfl
theorem fleetAgain_j13 : ((Rows.fleetAgainRow.maps == (Tryz.f6.params.toList ++ Rows.fleetAgainSpec.plain.varTypes Tryz.prog).any (Tryz.prog.mapsRec ·))) = true := by kernel_rfl
theorem fleetAgain_j14 : ((Rows.fleetAgainRow.ifaces == (Tryz.f6.params.toList ++ Rows.fleetAgainSpec.plain.varTypes Tryz.prog).any (Tryz.prog.ifacesRec ·))) = true := by kernel_rfl
theorem fleetAgain_j15 : ((Rows.fleetAgainRow.mapsOut == Tryz.prog.mapsAmong Tryz.f6.resultTypes.toList)) = true := by kernel_rfl
theorem fleetAgain_j16 : ((Rows.fleetAgainRow.loops == (Tryz.f6.params.toList ++ Rows.fleetAgainSpec.plain.varTypes Tryz.prog).any (Tryz.prog.loopsFrom ·))) = true := by kernel_rfl
theorem fleetAgain_j17 : ((Rows.fleetAgainRow.wideKeys == (Tryz.f6.params.toList ++ Rows.fleetAgainSpec.plain.varTypes Tryz.prog ++ Tryz.f6.resultTypes.toList).any (Tryz.prog.wideKeysFrom ·))) = true := by kernel_rfl
theorem fleetAgain_j18 : (Rows.fleetAgainSpec.vars.all (Tryz.prog.varReadable ·)) = true := by kernel_rfl
theorem fleetAgain_j19 : (Tryz.f6.resultTypes.all (fun t => Tryz.prog.readableRec t && decide (t < Tryz.prog.types.size))) = true := by kernel_rfl
theorem fleetAgain_j20 : ((Rows.fleetAgainRow.ifacesOut == Tryz.f6.resultTypes.toList.any (Tryz.prog.ifacesRec ·))) = true := by kernel_rfl
theorem fleetAgain_j21 : ((Rows.fleetAgainRow.loopsOut == Tryz.f6.resultTypes.toList.any (Tryz.prog.loopsFrom ·))) = true := by kernel_rfl
theorem fleetAgain_j22 : ((Rows.fleetAgainRow.plainKeys == Tryz.prog.plainKeys)) = true := by kernel_rfl
theorem fleetAgain_j23 : (Rows.fleetAgainRow.shortTexts.isNone) = true := by kernel_rfl
theorem fleetAgain_j24 : (Tryz.prog.stopsHeard) = true := by kernel_rfl
theorem fleetAgain_j25 : (Tryz.prog.mayEnter) = true := by kernel_rfl
theorem fleetAgain_j26 : ((Rows.fleetAgainRow.lifted == Tryz.prog.liftsFinal)) = true := by kernel_rfl
theorem fleetAgain_j27 : ((Tryz.prog.make == some Rows.fleetAgainRow.make)) = true := by kernel_rfl
theorem fleetAgain_j28 : ((Rows.fleetAgainRow.kinds == (if Rows.fleetAgainRow.domain.isEmpty then [] else Tryz.f6.params.toList.map fun t => match Tryz.prog.underlying t with | some (.int k) => some k | _ => none))) = true := by kernel_rfl
theorem fleetAgain_j29 : ((Rows.fleetAgainRow.pinned == Rows.fleetAgainRow.pinnedBy)) = true := by kernel_rfl
theorem fleetAgain_j30 : ((Rows.fleetAgainRow.veiled == (Tryz.f6.params.toList ++ Rows.fleetAgainSpec.plain.varTypes Tryz.prog ++ Tryz.f6.resultTypes.toList).any (Tryz.prog.veiledRec ·))) = true := by kernel_rfl
theorem fleetAgain_j31 : (Rows.fleetAgainRow.veiledFits Tryz.prog Tryz.f6.params.toList (Tryz.f6.params.toList ++ Rows.fleetAgainSpec.plain.varTypes Tryz.prog ++ Tryz.f6.resultTypes.toList)) = true := by kernel_rfl
theorem fleetAgain_joined : joinedFacts Tryz.prog 6 Tryz.f6 Rows.fleetAgainSpec Rows.fleetAgainRow = true := by
  unfold joinedFacts
  exact (andT (andT (andT (andT (andT (andT (andT (andT (andT (andT (andT (andT (andT (andT (andT (andT (andT (andT (andT (andT (andT (andT (andT (andT (andT (andT (andT (andT (andT (andT (andT fleetAgain_j0 fleetAgain_j1) fleetAgain_j2) fleetAgain_j3) fleetAgain_j4) fleetAgain_j5) fleetAgain_j6) fleetAgain_j7) fleetAgain_j8) fleetAgain_j9) fleetAgain_j10) fleetAgain_j11) fleetAgain_j12) fleetAgain_j13) fleetAgain_j14) fleetAgain_j15) fleetAgain_j16) fleetAgain_j17) fleetAgain_j18) fleetAgain_j19) fleetAgain_j20) fleetAgain_j21) fleetAgain_j22) fleetAgain_j23) fleetAgain_j24) fleetAgain_j25) fleetAgain_j26) fleetAgain_j27) fleetAgain_j28) fleetAgain_j29) fleetAgain_j30) fleetAgain_j31)
theorem fleetAgain_inst : decide (Tryz.f6.isInstance Tryz.prog Rows.fleetAgainRow.origin Rows.fleetAgainRow.targs) = true := by kernel_rfl
theorem fleetAgain_looks : false = Tryz.prog.looks [] := by kernel_rfl
theorem fleetAgain_goes : false = Rows.fleetAgainRow.goesBy Tryz.prog := by kernel_rfl
end Go.Proofs.YtliooohflhogpaaGreatDoor
