/- Rules of runs and contracts of functions, for the claims of one seat. -/
import Derived.Test.YtbafhclppppkgaaGreatDoorVA29
namespace Go.Proofs.YtbafhclppppkgaaGreatDoor
open Go Go.RowKit
set_option maxRecDepth 100000
set_option maxHeartbeats 8000000
theorem run2 : acall Tryz.prog (annT T1) 60 115 args2 [] = some res2 := by kernel_rfl
theorem run6 : acall Tryz.prog (annT T5) 60 115 args6 [] = some res6 := by kernel_rfl
theorem run10 : acall Tryz.prog (annT T9) 60 70 args10 [] = some res10 := by kernel_rfl
theorem run14 : acall Tryz.prog (annT T13) 60 155 args14 [] = some res14 := by kernel_rfl
theorem run18 : acall Tryz.prog (annT T17) 60 155 args18 [] = some res18 := by kernel_rfl
theorem runB3 : acall Tryz.prog (annW T19 B2) 60 22 argB3 bxB3 = some resB3 := by kernel_rfl
theorem runB7 : acall Tryz.prog (annW T19 B6) 60 22 argB7 bxB7 = some resB7 := by kernel_rfl
theorem runB11 : acall Tryz.prog (annW T19 B10) 60 22 argB11 bxB11 = some resB11 := by kernel_rfl
theorem runB15 : acall Tryz.prog (annW T19 B14) 60 22 argB15 bxB15 = some resB15 := by kernel_rfl
end Go.Proofs.YtbafhclppppkgaaGreatDoor

