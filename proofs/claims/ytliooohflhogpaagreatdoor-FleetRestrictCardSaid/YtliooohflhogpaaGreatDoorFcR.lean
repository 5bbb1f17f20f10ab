/-
  Closed facts of the row of FleetRestrict, one by one. Printed by wip/tools/mkfacts.py.
-/
import Derived.Test.YtliooohflhogpaaGreatDoorRows
import Derived.JoinedOf
import Derived.SevenTiedAt
import Derived.Clock
namespace Go.Proofs.YtliooohflhogpaaGreatDoor
open Go.ChangeShapes Go.WideShapes Go.ChangeAt Go.RowKit
set_option maxRecDepth 100000
theorem andT {a b : Bool} (h : a = true) (k : b = true) : (a && b) = true := by rw [h, k]; rfl
theorem fleetRestrict_j0 : (Rows.fleetRestrictRow.wf (OpenSpec.ofChange Rows.fleetRestrictSpec)) = true := by kernel_rfl
theorem fleetRestrict_j1 : (laidOutB Tryz.prog) = true := by kernel_rfl
theorem fleetRestrict_j2 : (mapsRowed Tryz.prog) = true := by kernel_rfl
theorem fleetRestrict_j3 : (Tryz.f4.params.all (Tryz.prog.readableRec ·)) = true := by kernel_rfl
theorem fleetRestrict_j4 : (namedTie Tryz.prog Rows.fleetRestrictRow.named Rows.fleetRestrictSpec.vars) = true := by kernel_rfl
theorem fleetRestrict_j5 : ((Rows.fleetRestrictRow.stops == [])) = true := by kernel_rfl
theorem fleetRestrict_j6 : ((Tryz.prog.stops == [])) = true := by kernel_rfl
theorem fleetRestrict_j7 : ((Rows.fleetRestrictRow.knobs == [])) = true := by kernel_rfl
theorem fleetRestrict_j8 : ((Tryz.prog.stopKnobs == [])) = true := by kernel_rfl
theorem fleetRestrict_j9 : ((Rows.fleetRestrictRow.inPlace == Tryz.prog.inPlace 4)) = true := by kernel_rfl
theorem fleetRestrict_j10 : ((Rows.fleetRestrictRow.unfollowed == Tryz.prog.unfollowed 4)) = true := by kernel_rfl
theorem fleetRestrict_j11 : ((Rows.fleetRestrictRow.recurses == Tryz.prog.recurses 4)) = true := by kernel_rfl
theorem fleetRestrict_j12 : ((Rows.fleetRestrictRow.named == Tryz.prog.varsNamed 4)) = true := by kernel_rfl
theorem fleetRestrict_j13 : ((Rows.fleetRestrictRow.maps == (Tryz.f4.params.toList ++ Rows.fleetRestrictSpec.plain.varTypes Tryz.prog).any (Tryz.prog.mapsRec ·))) = true := by kernel_rfl
theorem fleetRestrict_j14 : ((Rows.fleetRestrictRow.ifaces == (Tryz.f4.params.toList ++ Rows.fleetRestrictSpec.plain.varTypes Tryz.prog).any (Tryz.prog.ifacesRec ·))) = true := by kernel_rfl
theorem fleetRestrict_j15 : ((Rows.fleetRestrictRow.mapsOut == Tryz.prog.mapsAmong Tryz.f4.resultTypes.toList)) = true := by kernel_rfl
theorem fleetRestrict_j16 : ((Rows.fleetRestrictRow.loops == (Tryz.f4.params.toList ++ Rows.fleetRestrictSpec.plain.varTypes Tryz.prog).any (Tryz.prog.loopsFrom ·))) = true := by kernel_rfl
theorem fleetRestrict_j17 : ((Rows.fleetRestrictRow.wideKeys == (Tryz.f4.params.toList ++ Rows.fleetRestrictSpec.plain.varTypes Tryz.prog ++ Tryz.f4.resultTypes.toList).any (Tryz.prog.wideKeysFrom ·))) = true := by kernel_rfl
theorem fleetRestrict_j18 : (Rows.fleetRestrictSpec.vars.all (Tryz.prog.varReadable ·)) = true := by kernel_rfl
theorem fleetRestrict_j19 : (Tryz.f4.resultTypes.all (fun t => Tryz.prog.readableRec t && decide (t < Tryz.prog.types.size))) = true := by kernel_rfl
theorem fleetRestrict_j20 : ((Rows.fleetRestrictRow.ifacesOut == Tryz.f4.resultTypes.toList.any (Tryz.prog.ifacesRec ·))) = true := by kernel_rfl
theorem fleetRestrict_j21 : ((Rows.fleetRestrictRow.loopsOut == Tryz.f4.resultTypes.toList.any (Tryz.prog.loopsFrom ·))) = true := by kernel_rfl
theorem fleetRestrict_j22 : ((Rows.fleetRestrictRow.plainKeys == Tryz.prog.plainKeys)) = true := by kernel_rfl
theorem fleetRestrict_j23 : (Rows.fleetRestrictRow.shortTexts.isNone) = true := by kernel_rfl
theorem fleetRestrict_j24 : (Tryz.prog.stopsHeard) = true := by kernel_rfl
theorem fleetRestrict_j25 : (Tryz.prog.mayEnter) = true := by kernel_rfl
theorem fleetRestrict_j26 : ((Rows.fleetRestrictRow.lifted == Tryz.prog.liftsFinal)) = true := by kernel_rfl
theorem fleetRestrict_j27 : ((Tryz.prog.make == some Rows.fleetRestrictRow.make)) = true := by kernel_rfl
theorem fleetRestrict_j28 : ((Rows.fleetRestrictRow.kinds == (if Rows.fleetRestrictRow.domain.isEmpty then [] else Tryz.f4.params.toList.map fun t => match Tryz.prog.underlying t with | some (.int k) => some k | _ => none))) = true := by kernel_rfl
theorem fleetRestrict_j29 : ((Rows.fleetRestrictRow.pinned == Rows.fleetRestrictRow.pinnedBy)) = true := by kernel_rfl
theorem fleetRestrict_j30 : ((Rows.fleetRestrictRow.veiled == (Tryz.f4.params.toList ++ Rows.fleetRestrictSpec.plain.varTypes Tryz.prog ++ Tryz.f4.resultTypes.toList).any (Tryz.prog.veiledRec ·))) = true := by kernel_rfl
theorem fleetRestrict_j31 : (Rows.fleetRestrictRow.veiledFits Tryz.prog Tryz.f4.params.toList (Tryz.f4.params.toList ++ Rows.fleetRestrictSpec.plain.varTypes Tryz.prog ++ Tryz.f4.resultTypes.toList)) = true := by kernel_rfl
theorem fleetRestrict_joined : joinedFacts Tryz.prog 4 Tryz.f4 Rows.fleetRestrictSpec Rows.fleetRestrictRow = true := by
  unfold joinedFacts
  exact (andT (andT (andT (andT (andT (andT (andT (andT (andT (andT (andT (andT (andT (andT (andT (andT (andT (andT (andT (andT (andT (andT (andT (andT (andT (andT (andT (andT (andT (andT (andT fleetRestrict_j0 fleetRestrict_j1) fleetRestrict_j2) fleetRestrict_j3) fleetRestrict_j4) fleetRestrict_j5) fleetRestrict_j6) fleetRestrict_j7) fleetRestrict_j8) fleetRestrict_j9) fleetRestrict_j10) fleetRestrict_j11) fleetRestrict_j12) fleetRestrict_j13) fleetRestrict_j14) fleetRestrict_j15) fleetRestrict_j16) fleetRestrict_j17) fleetRestrict_j18) fleetRestrict_j19) fleetRestrict_j20) fleetRestrict_j21) fleetRestrict_j22) fleetRestrict_j23) fleetRestrict_j24) fleetRestrict_j25) fleetRestrict_j26) fleetRestrict_j27) fleetRestrict_j28) fleetRestrict_j29) fleetRestrict_j30) fleetRestrict_j31)
theorem fleetRestrict_inst : decide (Tryz.f4.isInstance Tryz.prog Rows.fleetRestrictRow.origin Rows.fleetRestrictRow.targs) = true := by kernel_rfl
theorem fleetRestrict_looks : false = Tryz.prog.looks [] := by kernel_rfl
theorem fleetRestrict_goes : false = Rows.fleetRestrictRow.goesBy Tryz.prog := by kernel_rfl
end Go.Proofs.YtliooohflhogpaaGreatDoor
