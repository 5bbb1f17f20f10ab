/- Rules of runs and contracts of functions, for the claims of one seat. -/
import Derived.Test.YtfnljcallbalgaaGreatDoorUA29
namespace Go.Proofs.YtfnljcallbalgaaGreatDoor
open Go Go.RowKit
set_option maxRecDepth 100000
set_option maxHeartbeats 8000000
theorem run3 : acall Tryz.prog (annW T2 B0) 60 12 args3 [] = some res3 := by kernel_rfl
theorem run8 : acall Tryz.prog (annW T7 B1) 60 215 args8 [] = some res8 := by kernel_rfl
theorem runB4 : acall Tryz.prog (annW T11 B3) 60 59 argB4 bxB4 = some resB4 := by kernel_rfl
theorem run14 : acall Tryz.prog (annW T13 B7) 60 8 args14 [] = some res14 := by kernel_rfl
end Go.Proofs.YtfnljcallbalgaaGreatDoor

