/-
  Closed facts of the row of FleetEqual, one by one. Printed by wip/tools/mkfacts.py.
-/
import Derived.Test.YtnaknldbmapolaaGreatDoorRows
import Derived.JoinedOf
import Derived.SevenTiedAt
import Derived.Clock
namespace Go.Proofs.YtnaknldbmapolaaGreatDoor
open Go.ChangeShapes Go.WideShapes Go.ChangeAt Go.RowKit
set_option maxRecDepth 100000
theorem andT {a b : Bool} (h : a = true) (k : b = true) : (a && b) = true := by rw [h, k]; rfl
theorem fleetEqual_j0 : (Rows.fleetEqualRow.wf (OpenSpec.ofChange Rows.fleetEqualSpec)) = true := by kernel_rfl
theorem fleetEqual_j1 : (laidOutB Tryz.prog) = true := by kernel_rfl
theorem fleetEqual_j2 : (mapsRowed Tryz.prog) = true := by kernel_rfl
theorem fleetEqual_j3 : (Tryz.f6.params.all (Tryz.prog.readableRec ·)) = true := by kernel_rfl
theorem fleetEqual_j4 : (namedTie Tryz.prog Rows.fleetEqualRow.named Rows.fleetEqualSpec.vars) = true := by kernel_rfl
theorem fleetEqual_j5 : ((Rows.fleetEqualRow.stops == [])) = true := by kernel_rfl
theorem fleetEqual_j6 : ((Tryz.prog.stops == [])) = true := by kernel_rfl
theorem fleetEqual_j7 : ((Rows.fleetEqualRow.knobs == [])) = true := by kernel_rfl
theorem fleetEqual_j8 : ((Tryz.prog.stopKnobs == [])) = true := by kernel_rfl
theorem fleetEqual_j9 : ((Rows.fleetEqualRow.inPlace == Tryz.prog.inPlace 6)) = true := by kernel_rfl
theorem fleetEqual_j10 : ((Rows.fleetEqualRow.unfollowed == Tryz.prog.unfollowed 6)) = true := by kernel_rfl
theorem fleetEqual_j11 : ((Rows.fleetEqualRow.recurses == Tryz.prog.recurses 6)) = true := by kernel_rfl
theorem fleetEqual_j12 : ((Rows.fleetEqualRow.named == Tryz.prog.varsNamed 6)) = true := by kernel_rfl
theorem fleetEqual_j13 : ((Rows.fleetEqualRow.maps == (Tryz.f6.params.toList ++ Rows.fleetEqualSpec.plain.varTypes Tryz.prog).any (Tryz.prog.mapsRec ·))) = true := by kernel_rfl
theorem fleetEqual_j14 : ((Rows.fleetEqualRow.ifaces == (Tryz.f6.params.toList ++ Rows.fleetEqualSpec.plain.varTypes Tryz.prog).any (Tryz.prog.ifacesRec ·))) = true := by kernel_rfl
theorem fleetEqual_j15 : ((Rows.fleetEqualRow.mapsOut == Tryz.prog.mapsAmong Tryz.f6.resultTypes.toList)) = true := by kernel_rfl
theorem fleetEqual_j16 : ((Rows.fleetEqualRow.loops == (Tryz.f6.params.toList ++ Rows.fleetEqualSpec.plain.varTypes Tryz.prog).any (Tryz.prog.loopsFrom ·))) = true := by kernel_rfl
theorem fleetEqual_j17 : ((Rows.fleetEqualRow.wideKeys == (Tryz.f6.params.toList ++ Rows.fleetEqualSpec.plain.varTypes Tryz.prog ++ Tryz.f6.resultTypes.toList).any (Tryz.prog.wideKeysFrom ·))) = true := by kernel_rfl
theorem fleetEqual_j18 : (Rows.fleetEqualSpec.vars.all (Tryz.prog.varReadable ·)) = true := by kernel_rfl
theorem fleetEqual_j19 : (Tryz.f6.resultTypes.all (fun t => Tryz.prog.readableRec t && decide (t < Tryz.prog.types.size))) = true := by kernel_rfl
theorem fleetEqual_j20 : ((Rows.fleetEqualRow.ifacesOut == Tryz.f6.resultTypes.toList.any (Tryz.prog.ifacesRec ·))) = true := by kernel_rfl
theorem fleetEqual_j21 : ((Rows.fleetEqualRow.loopsOut == Tryz.f6.resultTypes.toList.any (Tryz.prog.loopsFrom ·))) = true := by kernel_rfl
theorem fleetEqual_j22 : ((Rows.fleetEqualRow.plainKeys == Tryz.prog.plainKeys)) = true := by kernel_rfl
theorem fleetEqual_j23 : (Rows.fleetEqualRow.shortTexts.isNone) = true := by kernel_rfl
theorem fleetEqual_j24 : (Tryz.prog.stopsHeard) = true := by kernel_rfl
theorem fleetEqual_j25 : (Tryz.prog.mayEnter) = true := by kernel_rfl
theorem fleetEqual_j26 : ((Rows.fleetEqualRow.lifted == Tryz.prog.liftsFinal)) = true := by kernel_rfl
theorem fleetEqual_j27 : ((Tryz.prog.make == some Rows.fleetEqualRow.make)) = true := by kernel_rfl
theorem fleetEqual_j28 : ((Rows.fleetEqualRow.kinds == (if Rows.fleetEqualRow.domain.isEmpty then [] else Tryz.f6.params.toList.map fun t => match Tryz.prog.underlying t with | some (.int k) => some k | _ => none))) = true := by kernel_rfl
theorem fleetEqual_j29 : ((Rows.fleetEqualRow.pinned == Rows.fleetEqualRow.pinnedBy)) = true := by kernel_rfl
theorem fleetEqual_j30 : ((Rows.fleetEqualRow.veiled == (Tryz.f6.params.toList ++ Rows.fleetEqualSpec.plain.varTypes Tryz.prog ++ Tryz.f6.resultTypes.toList).any (Tryz.prog.veiledRec ·))) = true := by kernel_rfl
theorem fleetEqual_j31 : (Rows.fleetEqualRow.veiledFits Tryz.prog Tryz.f6.params.toList (Tryz.f6.params.toList ++ Rows.fleetEqualSpec.plain.varTypes Tryz.prog ++ Tryz.f6.resultTypes.toList)) = true := by kernel_rfl
theorem fleetEqual_joined : joinedFacts Tryz.prog 6 Tryz.f6 Rows.fleetEqualSpec Rows.fleetEqualRow = true := by
  unfold joinedFacts
  exact (andT (andT (andT (andT (andT (andT (andT (andT (andT (andT (andT (andT (andT (andT (andT (andT (andT (andT (andT (andT (andT (andT (andT (andT (andT (andT (andT (andT (andT (andT (andT fleetEqual_j0 fleetEqual_j1) fleetEqual_j2) fleetEqual_j3) fleetEqual_j4) fleetEqual_j5) fleetEqual_j6) fleetEqual_j7) fleetEqual_j8) fleetEqual_j9) fleetEqual_j10) fleetEqual_j11) fleetEqual_j12) fleetEqual_j13) fleetEqual_j14) fleetEqual_j15) fleetEqual_j16) fleetEqual_j17) fleetEqual_j18) fleetEqual_j19) fleetEqual_j20) fleetEqual_j21) fleetEqual_j22) fleetEqual_j23) fleetEqual_j24) fleetEqual_j25) fleetEqual_j26) fleetEqual_j27) fleetEqual_j28) fleetEqual_j29) fleetEqual_j30) fleetEqual_j31)
theorem fleetEqual_inst : decide (Tryz.f6.isInstance Tryz.prog Rows.fleetEqualRow.origin Rows.fleetEqualRow.targs) = true := by kernel_rfl
theorem fleetEqual_looks : false = Tryz.prog.looks [] := by kernel_rfl
theorem fleetEqual_goes : false = Rows.fleetEqualRow.goesBy Tryz.prog := by kernel_rfl
end Go.Proofs.YtnaknldbmapolaaGreatDoor
