/- Rules of runs and contracts of functions, for the claims of one seat. -/
import Derived.Test.YtfnljcallbalgaaGreatDoorUA29
namespace Go.Proofs.YtfnljcallbalgaaGreatDoor
open Go Go.RowKit
set_option maxRecDepth 100000
set_option maxHeartbeats 8000000
theorem run4 : acall Tryz.prog (annW T3 B0) 60 41 args4 [] = some res4 := by kernel_rfl
theorem run9 : acall Tryz.prog (annW T8 B1) 60 100 args9 [] = some res9 := by kernel_rfl
theorem runB5 : acall Tryz.prog (annW T11 B4) 60 103 argB5 bxB5 = some resB5 := by kernel_rfl
theorem run15 : acall Tryz.prog (annW T14 B7) 60 10 args15 [] = some res15 := by kernel_rfl
end Go.Proofs.YtfnljcallbalgaaGreatDoor

