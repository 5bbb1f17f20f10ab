/- Rules of runs and contracts of functions, for the claims of one seat. -/
import Derived.Test.YtfnljcallbalgaaGreatDoorUA29
namespace Go.Proofs.YtfnljcallbalgaaGreatDoor
open Go Go.RowKit
set_option maxRecDepth 100000
set_option maxHeartbeats 8000000
theorem run2 : acall Tryz.prog (annW T1 B0) 60 30 args2 [] = some res2 := by kernel_rfl
theorem run7 : acall Tryz.prog (annW T6 B1) 60 214 args7 [] = some res7 := by kernel_rfl
theorem runB3 : acall Tryz.prog (annW T11 B2) 60 99 argB3 bxB3 = some resB3 := by kernel_rfl
theorem run13 : acall Tryz.prog (annW T12 B7) 60 100 args13 [] = some res13 := by kernel_rfl
end Go.Proofs.YtfnljcallbalgaaGreatDoor

