/- Rules of runs and contracts of functions, for the claims of one seat. -/
import Derived.Test.YtgehafnodibhpaaGreatDoorPA38
namespace Go.Proofs.YtgehafnodibhpaaGreatDoor
open Go Go.RowKit
set_option maxRecDepth 100000
set_option maxHeartbeats 8000000
theorem run2 : acall Tryz.prog (annT T1) 60 95 args2 [] = some res2 := by kernel_rfl
theorem run5 : acall Tryz.prog (annT T4) 60 95 args5 [] = some res5 := by kernel_rfl
theorem run8 : acall Tryz.prog (annT T7) 60 70 args8 [] = some res8 := by kernel_rfl
theorem run11 : acall Tryz.prog (annT T10) 60 69 args11 [] = some res11 := by kernel_rfl
theorem run14 : acall Tryz.prog (annT T13) 60 70 args14 [] = some res14 := by kernel_rfl
theorem run17 : acall Tryz.prog (annT T16) 60 269 args17 [] = some res17 := by kernel_rfl
theorem run20 : acall Tryz.prog (annT T19) 60 70 args20 [] = some res20 := by kernel_rfl
theorem run23 : acall Tryz.prog (annT T22) 60 52 args23 [] = some res23 := by kernel_rfl
theorem run26 : acall Tryz.prog (annT T25) 60 7 args26 [] = some res26 := by kernel_rfl
theorem awake_run : acall Tryz.prog (annT T28) 60 5 [] [] = some { vals := [(false, [.d (.v (.bool true))])] } := by kernel_rfl
end Go.Proofs.YtgehafnodibhpaaGreatDoor

