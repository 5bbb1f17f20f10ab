/- Rules of runs and contracts of functions, for the claims of one seat. -/
import Derived.Test.YtgehafnodibhpaaGreatDoorPA39
import Derived.Test.YtgehafnodibhpaaGreatDoorPA40
import Derived.Test.YtgehafnodibhpaaGreatDoorPA41
namespace Go.Proofs.YtgehafnodibhpaaGreatDoor
open Go Go.RowKit
set_option maxRecDepth 100000
set_option maxHeartbeats 8000000
theorem T0_ok : TabOk Tryz.prog T0 := trivial
theorem T1_ok : TabOk Tryz.prog T1 := ⟨annT_ok T0_ok 60 _ _ _ _ run1, T0_ok⟩
theorem T2_ok : TabOk Tryz.prog T2 := ⟨annT_ok T1_ok 60 _ _ _ _ run2, T1_ok⟩
theorem T3_ok : TabOk Tryz.prog T3 := ⟨annT_ok T2_ok 60 _ _ _ _ run3, T2_ok⟩
theorem T4_ok : TabOk Tryz.prog T4 := ⟨annT_ok T3_ok 60 _ _ _ _ run4, T3_ok⟩
theorem T5_ok : TabOk Tryz.prog T5 := ⟨annT_ok T4_ok 60 _ _ _ _ run5, T4_ok⟩
theorem T6_ok : TabOk Tryz.prog T6 := ⟨annT_ok T5_ok 60 _ _ _ _ run6, T5_ok⟩
theorem T7_ok : TabOk Tryz.prog T7 := ⟨annT_ok T6_ok 60 _ _ _ _ run7, T6_ok⟩
theorem T8_ok : TabOk Tryz.prog T8 := ⟨annT_ok T7_ok 60 _ _ _ _ run8, T7_ok⟩
theorem T9_ok : TabOk Tryz.prog T9 := ⟨annT_ok T8_ok 60 _ _ _ _ run9, T8_ok⟩
theorem T10_ok : TabOk Tryz.prog T10 := ⟨annT_ok T9_ok 60 _ _ _ _ run10, T9_ok⟩
theorem T11_ok : TabOk Tryz.prog T11 := ⟨annT_ok T10_ok 60 _ _ _ _ run11, T10_ok⟩
theorem T12_ok : TabOk Tryz.prog T12 := ⟨annT_ok T11_ok 60 _ _ _ _ run12, T11_ok⟩
theorem T13_ok : TabOk Tryz.prog T13 := ⟨annT_ok T12_ok 60 _ _ _ _ run13, T12_ok⟩
theorem T14_ok : TabOk Tryz.prog T14 := ⟨annT_ok T13_ok 60 _ _ _ _ run14, T13_ok⟩
theorem T15_ok : TabOk Tryz.prog T15 := ⟨annT_ok T14_ok 60 _ _ _ _ run15, T14_ok⟩
theorem T16_ok : TabOk Tryz.prog T16 := ⟨annT_ok T15_ok 60 _ _ _ _ run16, T15_ok⟩
theorem T17_ok : TabOk Tryz.prog T17 := ⟨annT_ok T16_ok 60 _ _ _ _ run17, T16_ok⟩
theorem T18_ok : TabOk Tryz.prog T18 := ⟨annT_ok T17_ok 60 _ _ _ _ run18, T17_ok⟩
theorem T19_ok : TabOk Tryz.prog T19 := ⟨annT_ok T18_ok 60 _ _ _ _ run19, T18_ok⟩
theorem T20_ok : TabOk Tryz.prog T20 := ⟨annT_ok T19_ok 60 _ _ _ _ run20, T19_ok⟩
theorem T21_ok : TabOk Tryz.prog T21 := ⟨annT_ok T20_ok 60 _ _ _ _ run21, T20_ok⟩
theorem T22_ok : TabOk Tryz.prog T22 := ⟨annT_ok T21_ok 60 _ _ _ _ run22, T21_ok⟩
theorem T23_ok : TabOk Tryz.prog T23 := ⟨annT_ok T22_ok 60 _ _ _ _ run23, T22_ok⟩
theorem T24_ok : TabOk Tryz.prog T24 := ⟨annT_ok T23_ok 60 _ _ _ _ run24, T23_ok⟩
theorem T25_ok : TabOk Tryz.prog T25 := ⟨annT_ok T24_ok 60 _ _ _ _ run25, T24_ok⟩
theorem T26_ok : TabOk Tryz.prog T26 := ⟨annT_ok T25_ok 60 _ _ _ _ run26, T25_ok⟩
theorem T27_ok : TabOk Tryz.prog T27 := ⟨annT_ok T26_ok 60 _ _ _ _ run27, T26_ok⟩
theorem T28_ok : TabOk Tryz.prog T28 := ⟨annT_ok T27_ok 60 _ _ _ _ run28, T27_ok⟩
theorem awake33_fn : FnSound Tryz.prog 5 [] [] { vals := [(false, [.d (.v (.bool true))])] } := annT_ok T28_ok 60 _ _ _ _ awake_run
end Go.Proofs.YtgehafnodibhpaaGreatDoor

