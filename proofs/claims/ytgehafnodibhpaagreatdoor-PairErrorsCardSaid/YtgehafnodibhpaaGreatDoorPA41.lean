/- Rules of runs and contracts of functions, for the claims of one seat. -/
import Derived.Test.YtgehafnodibhpaaGreatDoorPA38
namespace Go.Proofs.YtgehafnodibhpaaGreatDoor
open Go Go.RowKit
set_option maxRecDepth 100000
set_option maxHeartbeats 8000000
theorem run3 : acall Tryz.prog (annT T2) 60 52 args3 [] = some res3 := by kernel_rfl
theorem run6 : acall Tryz.prog (annT T5) 60 52 args6 [] = some res6 := by kernel_rfl
theorem run9 : acall Tryz.prog (annT T8) 60 289 args9 [] = some res9 := by kernel_rfl
theorem run12 : acall Tryz.prog (annT T11) 60 70 args12 [] = some res12 := by kernel_rfl
theorem run15 : acall Tryz.prog (annT T14) 60 269 args15 [] = some res15 := by kernel_rfl
theorem run18 : acall Tryz.prog (annT T17) 60 269 args18 [] = some res18 := by kernel_rfl
theorem run21 : acall Tryz.prog (annT T20) 60 55 args21 [] = some res21 := by kernel_rfl
theorem run24 : acall Tryz.prog (annT T23) 60 7 args24 [] = some res24 := by kernel_rfl
theorem run27 : acall Tryz.prog (annT T26) 60 39 args27 [] = some res27 := by kernel_rfl
end Go.Proofs.YtgehafnodibhpaaGreatDoor

