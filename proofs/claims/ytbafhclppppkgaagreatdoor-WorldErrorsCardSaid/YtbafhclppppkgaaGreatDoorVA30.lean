/- Rules of runs and contracts of functions, for the claims of one seat. -/
import Derived.Test.YtbafhclppppkgaaGreatDoorVA29
namespace Go.Proofs.YtbafhclppppkgaaGreatDoor
open Go Go.RowKit
set_option maxRecDepth 100000
set_option maxHeartbeats 8000000
theorem run1 : acall Tryz.prog (annT T0) 60 114 args1 [] = some res1 := by kernel_rfl
theorem run5 : acall Tryz.prog (annT T4) 60 115 args5 [] = some res5 := by kernel_rfl
theorem run9 : acall Tryz.prog (annT T8) 60 70 args9 [] = some res9 := by kernel_rfl
theorem run13 : acall Tryz.prog (annT T12) 60 70 args13 [] = some res13 := by kernel_rfl
theorem run17 : acall Tryz.prog (annT T16) 60 155 args17 [] = some res17 := by kernel_rfl
theorem runB2 : acall Tryz.prog (annW T19 B1) 60 72 argB2 bxB2 = some resB2 := by kernel_rfl
theorem runB6 : acall Tryz.prog (annW T19 B5) 60 43 argB6 bxB6 = some resB6 := by kernel_rfl
theorem runB10 : acall Tryz.prog (annW T19 B9) 60 72 argB10 bxB10 = some resB10 := by kernel_rfl
theorem runB14 : acall Tryz.prog (annW T19 B13) 60 43 argB14 bxB14 = some resB14 := by kernel_rfl
theorem awake_run : acall Tryz.prog (annW T19 B17) 60 4 [] [] = some { vals := [(false, [.d (.v (.bool true))])] } := by kernel_rfl
end Go.Proofs.YtbafhclppppkgaaGreatDoor

