/- Rules of runs and contracts of functions, for the claims of one seat. -/
import Derived.Test.YtbafhclppppkgaaGreatDoorVA29
namespace Go.Proofs.YtbafhclppppkgaaGreatDoor
open Go Go.RowKit
set_option maxRecDepth 100000
set_option maxHeartbeats 8000000
theorem run3 : acall Tryz.prog (annT T2) 60 115 args3 [] = some res3 := by kernel_rfl
theorem run7 : acall Tryz.prog (annT T6) 60 13 args7 [] = some res7 := by kernel_rfl
theorem run11 : acall Tryz.prog (annT T10) 60 70 args11 [] = some res11 := by kernel_rfl
theorem run15 : acall Tryz.prog (annT T14) 60 155 args15 [] = some res15 := by kernel_rfl
theorem run19 : acall Tryz.prog (annD T18) 60 6 args19 [] = some res19 := by kernel_rfl
theorem runB4 : acall Tryz.prog (annW T19 B3) 60 43 argB4 bxB4 = some resB4 := by kernel_rfl
theorem runB8 : acall Tryz.prog (annW T19 B7) 60 77 argB8 bxB8 = some resB8 := by kernel_rfl
theorem runB12 : acall Tryz.prog (annW T19 B11) 60 43 argB12 bxB12 = some resB12 := by kernel_rfl
theorem runB16 : acall Tryz.prog (annW T19 B15) 60 72 argB16 bxB16 = some resB16 := by kernel_rfl
end Go.Proofs.YtbafhclppppkgaaGreatDoor

