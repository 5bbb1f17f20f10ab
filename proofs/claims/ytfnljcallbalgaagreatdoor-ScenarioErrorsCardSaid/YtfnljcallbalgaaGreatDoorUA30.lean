/- Rules of runs and contracts of functions, for the claims of one seat. -/
import Derived.Test.YtfnljcallbalgaaGreatDoorUA29
namespace Go.Proofs.YtfnljcallbalgaaGreatDoor
open Go Go.RowKit
set_option maxRecDepth 100000
set_option maxHeartbeats 8000000
theorem run1 : acall Tryz.prog (annW T0 B0) 60 52 args1 [] = some res1 := by kernel_rfl
theorem runB1 : acall Tryz.prog (annW T6 B0) 60 59 argB1 bxB1 = some resB1 := by kernel_rfl
theorem runB2 : acall Tryz.prog (annW T11 B1) 60 151 argB2 bxB2 = some resB2 := by kernel_rfl
theorem run12 : acall Tryz.prog (annW T11 B7) 60 61 args12 [] = some res12 := by kernel_rfl
end Go.Proofs.YtfnljcallbalgaaGreatDoor

