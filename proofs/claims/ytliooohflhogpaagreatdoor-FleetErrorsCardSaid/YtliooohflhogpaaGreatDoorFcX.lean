/-
  Closed facts of the row of FleetErrors, one by one. Printed by wip/tools/mkfacts.py.
-/
import Derived.Test.YtliooohflhogpaaGreatDoorRows
import Derived.JoinedOf
import Derived.SevenTiedAt
import Derived.Clock
namespace Go.Proofs.YtliooohflhogpaaGreatDoor
open Go.ChangeShapes Go.WideShapes Go.ChangeAt Go.RowKit
set_option maxRecDepth 100000
theorem andT {a b : Bool} (h : a = true) (k : b = true) : (a && b) = true := by rw [h, k]; rfl
theorem fleetErrors_j0 : (Rows.fleetErrorsRow.wf (OpenSpec.ofChange Rows.fleetErrorsSpec)) = true := by kernel_rfl
theorem fleetErrors_j1 : (laidOutB Tryz.prog) = true := by kernel_rfl
theorem fleetErrors_j2 : (mapsRowed Tryz.prog) = true := by kernel_rfl
theorem fleetErrors_j3 : (Tryz.f3.params.all (Tryz.prog.readableRec ·)) = true := by kernel_rfl
theorem fleetErrors_j4 : (namedTie Tryz.prog Rows.fleetErrorsRow.named Rows.fleetErrorsSpec.vars) = true := by kernel_rfl
theorem fleetErrors_j5 : ((Rows.fleetErrorsRow.stops == [])) = true := by kernel_rfl
theorem fleetErrors_j6 : ((Tryz.prog.stops == [])) = true := by kernel_rfl
theorem fleetErrors_j7 : ((Rows.fleetErrorsRow.knobs == [])) = true := by kernel_rfl
theorem fleetErrors_j8 : ((Tryz.prog.stopKnobs == [])) = true := by kernel_rfl
theorem fleetErrors_j9 : ((Rows.fleetErrorsRow.inPlace == Tryz.prog.inPlace 3)) = true := by kernel_rfl
theorem fleetErrors_j10 : ((Rows.fleetErrorsRow.unfollowed == Tryz.prog.unfollowed 3)) = true := by kernel_rfl
theorem fleetErrors_j11 : ((Rows.fleetErrorsRow.recurses == Tryz.prog.recurses 3)) = true := by kernel_rfl
theorem fleetErrors_j12 : ((Rows.fleetErrorsRow.named == Tryz.prog.varsNamed 3)) = true := by kernel_rfl
theorem fleetErrors_j13 : ((Rows.fleetErrorsRow.maps == (Tryz.f3.params.toList ++ Rows.fleetErrorsSpec.plain.varTypes Tryz.prog).any (Tryz.prog.mapsRec ·))) = true := by kernel_rfl
theorem fleetErrors_j14 : ((Rows.fleetErrorsRow.ifaces == (Tryz.f3.params.toList ++ Rows.fleetErrorsSpec.plain.varTypes Tryz.prog).any (Tryz.prog.ifacesRec ·))) = true := by kernel_rfl
theorem fleetErrors_j15 : ((Rows.fleetErrorsRow.mapsOut == Tryz.prog.mapsAmong Tryz.f3.resultTypes.toList)) = true := by kernel_rfl
theorem fleetErrors_j16 : ((Rows.fleetErrorsRow.loops == (Tryz.f3.params.toList ++ Rows.fleetErrorsSpec.plain.varTypes Tryz.prog).any (Tryz.prog.loopsFrom ·))) = true := by kernel_rfl
theorem fleetErrors_j17 : ((Rows.fleetErrorsRow.wideKeys == (Tryz.f3.params.toList ++ Rows.fleetErrorsSpec.plain.varTypes Tryz.prog ++ Tryz.f3.resultTypes.toList).any (Tryz.prog.wideKeysFrom ·))) = true := by kernel_rfl
theorem fleetErrors_j18 : (Rows.fleetErrorsSpec.vars.all (Tryz.prog.varReadable ·)) = true := by kernel_rfl
theorem fleetErrors_j19 : (Tryz.f3.resultTypes.all (fun t => Tryz.prog.readableRec t && decide (t < Tryz.prog.types.size))) = true := by kernel_rfl
theorem fleetErrors_j20 : ((Rows.fleetErrorsRow.ifacesOut == Tryz.f3.resultTypes.toList.any (Tryz.prog.ifacesRec ·))) = true := by kernel_rfl
theorem fleetErrors_j21 : ((Rows.fleetErrorsRow.loopsOut == Tryz.f3.resultTypes.toList.any (Tryz.prog.loopsFrom ·))) = true := by kernel_rfl
theorem fleetErrors_j22 : ((Rows.fleetErrorsRow.plainKeys == Tryz.prog.plainKeys)) = true := by kernel_rfl
theorem fleetErrors_j23 : (Rows.fleetErrorsRow.shortTexts.isNone) = true := by kernel_rfl
theorem fleetErrors_j24 : (Tryz.prog.stopsHeard) = true := by kernel_rfl
theorem fleetErrors_j25 : (Tryz.prog.mayEnter) = true := by kernel_rfl
theorem fleetErrors_j26 : ((Rows.fleetErrorsRow.lifted == Tryz.prog.liftsFinal)) = true := by kernel_rfl
theorem fleetErrors_j27 : ((Tryz.prog.make == some Rows.fleetErrorsRow.make)) = true := by kernel_rfl
theorem fleetErrors_j28 : ((Rows.fleetErrorsRow.kinds == (if Rows.fleetErrorsRow.domain.isEmpty then [] else Tryz.f3.params.toList.map fun t => match Tryz.prog.underlying t with | some (.int k) => some k | _ => none))) = true := by kernel_rfl
theorem fleetErrors_j29 : ((Rows.fleetErrorsRow.pinned == Rows.fleetErrorsRow.pinnedBy)) = true := by kernel_rfl
theorem fleetErrors_j30 : ((Rows.fleetErrorsRow.veiled == (Tryz.f3.params.toList ++ Rows.fleetErrorsSpec.plain.varTypes Tryz.prog ++ Tryz.f3.resultTypes.toList).any (Tryz.prog.veiledRec ·))) = true := by kernel_rfl
theorem fleetErrors_j31 : (Rows.fleetErrorsRow.veiledFits Tryz.prog Tryz.f3.params.toList (Tryz.f3.params.toList ++ Rows.fleetErrorsSpec.plain.varTypes Tryz.prog ++ Tryz.f3.resultTypes.toList)) = true := by kernel_rfl
theorem fleetErrors_joined : joinedFacts Tryz.prog 3 Tryz.f3 Rows.fleetErrorsSpec Rows.fleetErrorsRow = true := by
  unfold joinedFacts
  exact (andT (andT (andT (andT (andT (andT (andT (andT (andT (andT (andT (andT (andT (andT (andT (andT (andT (andT (andT (andT (andT (andT (andT (andT (andT (andT (andT (andT (andT (andT (andT fleetErrors_j0 fleetErrors_j1) fleetErrors_j2) fleetErrors_j3) fleetErrors_j4) fleetErrors_j5) fleetErrors_j6) fleetErrors_j7) fleetErrors_j8) fleetErrors_j9) fleetErrors_j10) fleetErrors_j11) fleetErrors_j12) fleetErrors_j13) fleetErrors_j14) fleetErrors_j15) fleetErrors_j16) fleetErrors_j17) fleetErrors_j18) fleetErrors_j19) fleetErrors_j20) fleetErrors_j21) fleetErrors_j22) fleetErrors_j23) fleetErrors_j24) fleetErrors_j25) fleetErrors_j26) fleetErrors_j27) fleetErrors_j28) fleetErrors_j29) fleetErrors_j30) fleetErrors_j31)
theorem fleetErrors_inst : decide (Tryz.f3.isInstance Tryz.prog Rows.fleetErrorsRow.origin Rows.fleetErrorsRow.targs) = true := by kernel_rfl
theorem fleetErrors_looks : false = Tryz.prog.looks [] := by kernel_rfl
theorem fleetErrors_goes : false = Rows.fleetErrorsRow.goesBy Tryz.prog := by kernel_rfl
end Go.Proofs.YtliooohflhogpaaGreatDoor
