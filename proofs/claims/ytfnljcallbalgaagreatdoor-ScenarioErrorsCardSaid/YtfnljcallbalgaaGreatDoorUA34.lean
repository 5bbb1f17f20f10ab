/- Rules of runs and contracts of functions, for the claims of one seat. -/
import Derived.Test.YtfnljcallbalgaaGreatDoorUA29
namespace Go.Proofs.YtfnljcallbalgaaGreatDoor
open Go Go.RowKit
set_option maxRecDepth 100000
set_option maxHeartbeats 8000000
theorem run5 : acall Tryz.prog (annW T4 B0) 60 14 args5 [] = some res5 := by kernel_rfl
theorem run10 : acall Tryz.prog (annW T9 B1) 60 286 args10 [] = some res10 := by kernel_rfl
theorem runB6 : acall Tryz.prog (annW T11 B5) 60 99 argB6 bxB6 = some resB6 := by kernel_rfl
theorem awake_run : acall Tryz.prog (annW T15 B7) 60 4 [] [] = some { vals := [(false, [.d (.v (.bool true))])] } := by kernel_rfl
end Go.Proofs.YtfnljcallbalgaaGreatDoor

