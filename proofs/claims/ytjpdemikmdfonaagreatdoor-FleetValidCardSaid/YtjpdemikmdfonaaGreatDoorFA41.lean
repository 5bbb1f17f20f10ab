/- Rules of runs and contracts of functions, for the claims of one seat. -/
import Derived.JoinedOf
import Derived.SevenTiedAt
import Derived.Test.YtjpdemikmdfonaaGreatDoorRows
namespace Go.Proofs.YtjpdemikmdfonaaGreatDoor
open Go
set_option maxRecDepth 100000
theorem andT {a b : Bool} (h : a = true) (k : b = true) : (a && b) = true := by rw [h, k]; rfl
theorem fleetValid_j0 : (Rows.fleetValidRow.wf (OpenSpec.ofChange Rows.fleetValidSpec)) = true := by kernel_rfl
theorem fleetValid_j1 : (laidOutB Tryz.prog) = true := by kernel_rfl
theorem fleetValid_j2 : (mapsRowed Tryz.prog) = true := by kernel_rfl
theorem fleetValid_j3 : (Tryz.f3.params.all (Tryz.prog.readableRec ·)) = true := by kernel_rfl
theorem fleetValid_j4 : (namedTie Tryz.prog Rows.fleetValidRow.named Rows.fleetValidSpec.vars) = true := by kernel_rfl
theorem fleetValid_j5 : ((Rows.fleetValidRow.stops == [])) = true := by kernel_rfl
theorem fleetValid_j6 : ((Tryz.prog.stops == [])) = true := by kernel_rfl
theorem fleetValid_j7 : ((Rows.fleetValidRow.knobs == [])) = true := by kernel_rfl
theorem fleetValid_j8 : ((Tryz.prog.stopKnobs == [])) = true := by kernel_rfl
theorem fleetValid_j9 : ((Rows.fleetValidRow.inPlace == Tryz.prog.inPlace 3)) = true := by kernel_rfl
theorem fleetValid_j10 : ((Rows.fleetValidRow.unfollowed == Tryz.prog.unfollowed 3)) = true := by kernel_rfl
theorem fleetValid_j11 : ((Rows.fleetValidRow.recurses == Tryz.prog.recurses 3)) = true := by kernel_rfl
theorem fleetValid_j12 : ((Rows.fleetValidRow.named == Tryz.prog.varsNamed 3)) = true := by kernel_rfl
theorem fleetValid_j13 : ((Rows.fleetValidRow.maps == (Tryz.f3.params.toList ++ Rows.fleetValidSpec.plain.varTypes Tryz.prog).any (Tryz.prog.mapsRec ·))) = true := by kernel_rfl
theorem fleetValid_j14 : ((Rows.fleetValidRow.ifaces == (Tryz.f3.params.toList ++ Rows.fleetValidSpec.plain.varTypes Tryz.prog).any (Tryz.prog.ifacesRec ·))) = true := by kernel_rfl
theorem fleetValid_j15 : ((Rows.fleetValidRow.mapsOut == Tryz.prog.mapsAmong Tryz.f3.resultTypes.toList)) = true := by kernel_rfl
theorem fleetValid_j16 : ((Rows.fleetValidRow.loops == (Tryz.f3.params.toList ++ Rows.fleetValidSpec.plain.varTypes Tryz.prog).any (Tryz.prog.loopsFrom ·))) = true := by kernel_rfl
theorem fleetValid_j17 : ((Rows.fleetValidRow.wideKeys == (Tryz.f3.params.toList ++ Rows.fleetValidSpec.plain.varTypes Tryz.prog ++ Tryz.f3.resultTypes.toList).any (Tryz.prog.wideKeysFrom ·))) = true := by kernel_rfl
theorem fleetValid_j18 : (Rows.fleetValidSpec.vars.all (Tryz.prog.varReadable ·)) = true := by kernel_rfl
theorem fleetValid_j19 : (Tryz.f3.resultTypes.all (fun t => Tryz.prog.readableRec t && decide (t < Tryz.prog.types.size))) = true := by kernel_rfl
theorem fleetValid_j20 : ((Rows.fleetValidRow.ifacesOut == Tryz.f3.resultTypes.toList.any (Tryz.prog.ifacesRec ·))) = true := by kernel_rfl
theorem fleetValid_j21 : ((Rows.fleetValidRow.loopsOut == Tryz.f3.resultTypes.toList.any (Tryz.prog.loopsFrom ·))) = true := by kernel_rfl
theorem fleetValid_j22 : ((Rows.fleetValidRow.plainKeys == Tryz.prog.plainKeys)) = true := by kernel_rfl
theorem fleetValid_j23 : (Rows.fleetValidRow.shortTexts.isNone) = true := by kernel_rfl
theorem fleetValid_j24 : (Tryz.prog.stopsHeard) = true := by kernel_rfl
theorem fleetValid_j25 : (Tryz.prog.mayEnter) = true := by kernel_rfl
theorem fleetValid_j26 : ((Rows.fleetValidRow.lifted == Tryz.prog.liftsFinal)) = true := by kernel_rfl
theorem fleetValid_j27 : ((Tryz.prog.make == some Rows.fleetValidRow.make)) = true := by kernel_rfl
theorem fleetValid_j28 : ((Rows.fleetValidRow.kinds == (if Rows.fleetValidRow.domain.isEmpty then [] else Tryz.f3.params.toList.map fun t => match Tryz.prog.underlying t with | some (.int k) => some k | _ => none))) = true := by kernel_rfl
theorem fleetValid_j29 : ((Rows.fleetValidRow.pinned == Rows.fleetValidRow.pinnedBy)) = true := by kernel_rfl
theorem fleetValid_j30 : ((Rows.fleetValidRow.veiled == (Tryz.f3.params.toList ++ Rows.fleetValidSpec.plain.varTypes Tryz.prog ++ Tryz.f3.resultTypes.toList).any (Tryz.prog.veiledRec ·))) = true := by kernel_rfl
theorem fleetValid_j31 : (Rows.fleetValidRow.veiledFits Tryz.prog Tryz.f3.params.toList (Tryz.f3.params.toList ++ Rows.fleetValidSpec.plain.varTypes Tryz.prog ++ Tryz.f3.resultTypes.toList)) = true := by kernel_rfl
theorem fleetValid_joined : joinedFacts Tryz.prog 3 Tryz.f3 Rows.fleetValidSpec Rows.fleetValidRow = true := by
 unfold joinedFacts
 exact (andT (andT (andT (andT (andT (andT (andT (andT (andT (andT (andT (andT (andT (andT (andT (andT (andT (andT (andT (andT (andT (andT (andT (andT (andT (andT (andT (andT (andT (andT (andT fleetValid_j0 fleetValid_j1) fleetValid_j2) fleetValid_j3) fleetValid_j4) fleetValid_j5) fleetValid_j6) fleetValid_j7) fleetValid_j8) fleetValid_j9) fleetValid_j10) fleetValid_j11) fleetValid_j12) fleetValid_j13) fleetValid_j14) fleetValid_j15) fleetValid_j16) fleetValid_j17) fleetValid_j18) fleetValid_j19) fleetValid_j20) fleetValid_j21) fleetValid_j22) fleetValid_j23) fleetValid_j24) fleetValid_j25) fleetValid_j26) fleetValid_j27) fleetValid_j28) fleetValid_j29) fleetValid_j30) fleetValid_j31)
theorem fleetValid_inst : decide (Tryz.f3.isInstance Tryz.prog Rows.fleetValidRow.origin Rows.fleetValidRow.targs) = true := by kernel_rfl
theorem fleetValid_looks : false = Tryz.prog.looks [] := by kernel_rfl
end Go.Proofs.YtjpdemikmdfonaaGreatDoor

