/- Rules of runs and contracts of functions, for the claims of one seat. -/
import Derived.Test.YtgehafnodibhpaaGreatDoorPA38
namespace Go.Proofs.YtgehafnodibhpaaGreatDoor
open Go Go.RowKit
set_option maxRecDepth 100000
set_option maxHeartbeats 8000000
theorem run1 : acall Tryz.prog (annT T0) 60 152 args1 [] = some res1 := by kernel_rfl
theorem run4 : acall Tryz.prog (annT T3) 60 152 args4 [] = some res4 := by kernel_rfl
theorem run7 : acall Tryz.prog (annT T6) 60 289 args7 [] = some res7 := by kernel_rfl
theorem run10 : acall Tryz.prog (annT T9) 60 70 args10 [] = some res10 := by kernel_rfl
theorem run13 : acall Tryz.prog (annT T12) 60 69 args13 [] = some res13 := by kernel_rfl
theorem run16 : acall Tryz.prog (annT T15) 60 70 args16 [] = some res16 := by kernel_rfl
theorem run19 : acall Tryz.prog (annT T18) 60 269 args19 [] = some res19 := by kernel_rfl
theorem run22 : acall Tryz.prog (annT T21) 60 7 args22 [] = some res22 := by kernel_rfl
theorem run25 : acall Tryz.prog (annT T24) 60 52 args25 [] = some res25 := by kernel_rfl
theorem run28 : acall Tryz.prog (annT T27) 60 11 args28 [] = some res28 := by kernel_rfl
end Go.Proofs.YtgehafnodibhpaaGreatDoor

