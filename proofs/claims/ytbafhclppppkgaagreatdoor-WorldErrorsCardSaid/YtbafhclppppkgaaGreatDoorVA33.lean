/- Rules of runs and contracts of functions, for the claims of one seat. -/
import Derived.Test.YtbafhclppppkgaaGreatDoorVA29
namespace Go.Proofs.YtbafhclppppkgaaGreatDoor
open Go Go.RowKit
set_option maxRecDepth 100000
set_option maxHeartbeats 8000000
theorem run4 : acall Tryz.prog (annT T3) 60 115 args4 [] = some res4 := by kernel_rfl
theorem run8 : acall Tryz.prog (annT T7) 60 70 args8 [] = some res8 := by kernel_rfl
theorem run12 : acall Tryz.prog (annT T11) 60 70 args12 [] = some res12 := by kernel_rfl
theorem run16 : acall Tryz.prog (annT T15) 60 155 args16 [] = some res16 := by kernel_rfl
theorem runB1 : acall Tryz.prog (annW T19 B0) 60 22 argB1 bxB1 = some resB1 := by kernel_rfl
theorem runB5 : acall Tryz.prog (annW T19 B4) 60 22 argB5 bxB5 = some resB5 := by kernel_rfl
theorem runB9 : acall Tryz.prog (annW T19 B8) 60 22 argB9 bxB9 = some resB9 := by kernel_rfl
theorem runB13 : acall Tryz.prog (annW T19 B12) 60 22 argB13 bxB13 = some resB13 := by kernel_rfl
theorem runB17 : acall Tryz.prog (annW T19 B16) 60 22 argB17 bxB17 = some resB17 := by kernel_rfl
end Go.Proofs.YtbafhclppppkgaaGreatDoor

