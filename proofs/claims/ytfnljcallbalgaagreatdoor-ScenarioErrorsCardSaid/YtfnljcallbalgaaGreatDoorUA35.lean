/- Rules of runs and contracts of functions, for the claims of one seat. -/
import Derived.Test.YtfnljcallbalgaaGreatDoorUA29
namespace Go.Proofs.YtfnljcallbalgaaGreatDoor
open Go Go.RowKit
set_option maxRecDepth 100000
set_option maxHeartbeats 8000000
theorem run6 : acall Tryz.prog (annD T5) 60 18 args6 [] = some res6 := by kernel_rfl
theorem run11 : acall Tryz.prog (annW T10 B1) 60 215 args11 [] = some res11 := by kernel_rfl
theorem runB7 : acall Tryz.prog (annW T11 B6) 60 23 argB7 bxB7 = some resB7 := by kernel_rfl
end Go.Proofs.YtfnljcallbalgaaGreatDoor

