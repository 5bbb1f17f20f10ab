/-
  varint.Big at two numbers.
-/
import Derived.Test.YtliooohflhogpaaGreatDoorGa
import Derived.Handy
import Derived.Laws.IdiomStrings
namespace Go.Proofs.YtliooohflhogpaaGreatDoor
open Go Go.RowKit
set_option linter.unusedSimpArgs false
set_option linter.unusedVariables false
set_option maxHeartbeats 2000000
set_option maxRecDepth 20000
theorem big0 (w : World) : Calls Tryz.prog 205 #[.int .u64 0] w fun e w' => e = .returned (.string ⟨#[]⟩) ∧ Below w.heap.size w w' := by
  have hcv : ∀ (x : World) (b o c : Nat), (convert 37 9 (.slice (some ⟨b, o, none⟩) 0 c)).run Tryz.prog x = .ok (.string ⟨#[]⟩) x := fun x b o c => run_convert_bytes_back x _ _ _ ⟨b, o, none⟩ c [] Tryz.underlying37 Tryz.underlying5 Tryz.underlying9 (fun j hj => by simp at hj)
  go_enter Tryz.func205, Tryz.ntmps205
  go_wp2
  go_rounds 1
  go_wp2
  go_ret
  exact ⟨rfl, ext_alloc (ext_refl w) _⟩
theorem big12 (w : World) : Calls Tryz.prog 205 #[.int .u64 12] w fun e w' => e = .returned (.string ⟨#[12]⟩) ∧ Below w.heap.size w w' := by
  have hcv : ∀ (x : World) (b o c : Nat), x.cell? ⟨b, o, none⟩ = some (.int .u8 12) → (convert 37 9 (.slice (some ⟨b, o, none⟩) 1 c)).run Tryz.prog x = .ok (.string ⟨#[12]⟩) x := fun x b o c h => run_convert_bytes_back x _ _ _ ⟨b, o, none⟩ c [12] Tryz.underlying37 Tryz.underlying5 Tryz.underlying9 (fun j hj => by
    have : j = 0 := by simpa using hj
    subst this
    simpa [Addr.add] using h)
  go_enter Tryz.func205, Tryz.ntmps205
  go_wp2
  go_rounds 2
  go_wp2
  go_ret
  exact ⟨rfl, ext_alloc (ext_refl w) _⟩
end Go.Proofs.YtliooohflhogpaaGreatDoor
