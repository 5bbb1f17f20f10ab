/-
  Closed facts of the row of FleetBetween, one by one. Printed by wip/tools/mkfacts.py.
-/
import Derived.Test.YtliooohflhogpaaGreatDoorRows
import Derived.JoinedOf
import Derived.SevenTiedAt
import Derived.Clock
namespace Go.Proofs.YtliooohflhogpaaGreatDoor
open Go.ChangeShapes Go.WideShapes Go.ChangeAt Go.RowKit
set_option maxRecDepth 100000
theorem andT {a b : Bool} (h : a = true) (k : b = true) : (a && b) = true := by rw [h, k]; rfl
theorem fleetBetween_j0 : (Rows.fleetBetweenRow.wf (OpenSpec.ofChange Rows.fleetBetweenSpec)) = true := by kernel_rfl
theorem fleetBetween_j1 : (laidOutB Tryz.prog) = true := by kernel_rfl
theorem fleetBetween_j2 : (mapsRowed Tryz.prog) = true := by kernel_rfl
theorem fleetBetween_j3 : (Tryz.f5.params.all (Tryz.prog.readableRec ·)) = true := by kernel_rfl
theorem fleetBetween_j4 : (namedTie Tryz.prog Rows.fleetBetweenRow.named Rows.fleetBetweenSpec.vars) = true := by kernel_rfl
theorem fleetBetween_j5 : ((Rows.fleetBetweenRow.stops == [])) = true := by kernel_rfl
theorem fleetBetween_j6 : ((Tryz.prog.stops == [])) = true := by kernel_rfl
theorem fleetBetween_j7 : ((Rows.fleetBetweenRow.knobs == [])) = true := by kernel_rfl
theorem fleetBetween_j8 : ((Tryz.prog.stopKnobs == [])) = true := by kernel_rfl
theorem fleetBetween_j9 : ((Rows.fleetBetweenRow.inPlace == Tryz.prog.inPlace 5)) = true := by kernel_rfl
theorem fleetBetween_j10 : ((Rows.fleetBetweenRow.unfollowed == Tryz.prog.unfollowed 5)) = true := by kernel_rfl
theorem fleetBetween_j11 : ((Rows.fleetBetweenRow.recurses == Tryz.prog.recurses 5)) = true := by kernel_rfl
theorem fleetBetween_j12 : ((Rows.fleetBetweenRow.named == Tryz.prog.varsNamed 5)) = true := by kernel_rfl
theorem fleetBetween_j13 : ((Rows.fleetBetweenRow.maps == (Tryz.f5.params.toList ++ Rows.fleetBetweenSpec.plain.varTypes Tryz.prog).any (Tryz.prog.mapsRec ·))) = true := by kernel_rfl
theorem fleetBetween_j14 : ((Rows.fleetBetweenRow.ifaces == (Tryz.f5.params.toList ++ Rows.fleetBetweenSpec.plain.varTypes Tryz.prog).any (Tryz.prog.ifacesRec ·))) = true := by kernel_rfl
theorem fleetBetween_j15 : ((Rows.fleetBetweenRow.mapsOut == Tryz.prog.mapsAmong Tryz.f5.resultTypes.toList)) = true := by kernel_rfl
theorem fleetBetween_j16 : ((Rows.fleetBetweenRow.loops == (Tryz.f5.params.toList ++ Rows.fleetBetweenSpec.plain.varTypes Tryz.prog).any (Tryz.prog.loopsFrom ·))) = true := by kernel_rfl
theorem fleetBetween_j17 : ((Rows.fleetBetweenRow.wideKeys == (Tryz.f5.params.toList ++ Rows.fleetBetweenSpec.plain.varTypes Tryz.prog ++ Tryz.f5.resultTypes.toList).any (Tryz.prog.wideKeysFrom ·))) = true := by kernel_rfl
theorem fleetBetween_j18 : (Rows.fleetBetweenSpec.vars.all (Tryz.prog.varReadable ·)) = true := by kernel_rfl
theorem fleetBetween_j19 : (Tryz.f5.resultTypes.all (fun t => Tryz.prog.readableRec t && decide (t < Tryz.prog.types.size))) = true := by kernel_rfl
theorem fleetBetween_j20 : ((Rows.fleetBetweenRow.ifacesOut == Tryz.f5.resultTypes.toList.any (Tryz.prog.ifacesRec ·))) = true := by kernel_rfl
theorem fleetBetween_j21 : ((Rows.fleetBetweenRow.loopsOut == Tryz.f5.resultTypes.toList.any (Tryz.prog.loopsFrom ·))) = true := by kernel_rfl
theorem fleetBetween_j22 : ((Rows.fleetBetweenRow.plainKeys == Tryz.prog.plainKeys)) = true := by kernel_rfl
theorem fleetBetween_j23 : (Rows.fleetBetweenRow.shortTexts.isNone) = true := by kernel_rfl
theorem fleetBetween_j24 : (Tryz.prog.stopsHeard) = true := by kernel_rfl
theorem fleetBetween_j25 : (Tryz.prog.mayEnter) = true := by kernel_rfl
theorem fleetBetween_j26 : ((Rows.fleetBetweenRow.lifted == Tryz.prog.liftsFinal)) = true := by kernel_rfl
theorem fleetBetween_j27 : ((Tryz.prog.make == some Rows.fleetBetweenRow.make)) = true := by kernel_rfl
theorem fleetBetween_j28 : ((Rows.fleetBetweenRow.kinds == (if Rows.fleetBetweenRow.domain.isEmpty then [] else Tryz.f5.params.toList.map fun t => match Tryz.prog.underlying t with | some (.int k) => some k | _ => none))) = true := by kernel_rfl
theorem fleetBetween_j29 : ((Rows.fleetBetweenRow.pinned == Rows.fleetBetweenRow.pinnedBy)) = true := by kernel_rfl
theorem fleetBetween_j30 : ((Rows.fleetBetweenRow.veiled == (Tryz.f5.params.toList ++ Rows.fleetBetweenSpec.plain.varTypes Tryz.prog ++ Tryz.f5.resultTypes.toList).any (Tryz.prog.veiledRec ·))) = true := by kernel_rfl
theorem fleetBetween_j31 : (Rows.fleetBetweenRow.veiledFits Tryz.prog Tryz.f5.params.toList (Tryz.f5.params.toList ++ Rows.fleetBetweenSpec.plain.varTypes Tryz.prog ++ Tryz.f5.resultTypes.toList)) = true := by kernel_rfl
theorem fleetBetween_joined : joinedFacts Tryz.prog 5 Tryz.f5 Rows.fleetBetweenSpec Rows.fleetBetweenRow = true := by
  unfold joinedFacts
  exact (andT (andT (andT (andT (andT (andT (andT (andT (andT (andT (andT (andT (andT (andT (andT (andT (andT (andT (andT (andT (andT (andT (andT (andT (andT (andT (andT (andT (andT (andT (andT fleetBetween_j0 fleetBetween_j1) fleetBetween_j2) fleetBetween_j3) fleetBetween_j4) fleetBetween_j5) fleetBetween_j6) fleetBetween_j7) fleetBetween_j8) fleetBetween_j9) fleetBetween_j10) fleetBetween_j11) fleetBetween_j12) fleetBetween_j13) fleetBetween_j14) fleetBetween_j15) fleetBetween_j16) fleetBetween_j17) fleetBetween_j18) fleetBetween_j19) fleetBetween_j20) fleetBetween_j21) fleetBetween_j22) fleetBetween_j23) fleetBetween_j24) fleetBetween_j25) fleetBetween_j26) fleetBetween_j27) fleetBetween_j28) fleetBetween_j29) fleetBetween_j30) fleetBetween_j31)
theorem fleetBetween_inst : decide (Tryz.f5.isInstance Tryz.prog Rows.fleetBetweenRow.origin Rows.fleetBetweenRow.targs) = true := by kernel_rfl
theorem fleetBetween_looks : false = Tryz.prog.looks [] := by kernel_rfl
theorem fleetBetween_goes : false = Rows.fleetBetweenRow.goesBy Tryz.prog := by kernel_rfl
end Go.Proofs.YtliooohflhogpaaGreatDoor
