/-
  Contracts of the comparison of mixes (layer 36), program and reference.
-/
import Derived.Test.YtfpcpjnmffbhgaaDoorSmall
import Derived.Test.YtfpcpjnmffbhgaaDoorMixPlain
namespace Go.Proofs.YtfpcpjnmffbhgaaDoor
open Go.RowKit
set_option linter.unusedSimpArgs false
set_option linter.unusedVariables false
set_option maxHeartbeats 2000000
set_option maxRecDepth 100000
def cmpMix (a b : MixD) : Int := if cmpInts a.base b.base ≠ 0 then cmpInts a.base b.base else if cmpInts a.next b.next ≠ 0 then cmpInts a.next b.next else cmpInts a.held b.held
theorem cmp1_lt {a b : Int} (h : a < b) : cmp1 a b = -1 := by unfold cmp1; rw [if_pos h]
theorem cmp1_gt {a b : Int} (h : b < a) : cmp1 a b = 1 := by unfold cmp1; rw [if_neg (by omega), if_pos h]
theorem cmp1_eq {a b : Int} (h : ¬ a < b) (h' : ¬ b < a) : cmp1 a b = 0 := by unfold cmp1; rw [if_neg h, if_neg h']
theorem take_step {α : Type} {l : List α} {k : Nat} (h : k < l.length) : l.take (k + 1) = l.take k ++ [l[k]] := by
  rw [List.take_add_one, List.getElem?_eq_getElem h]; rfl
theorem cells_new (w : World) (t : TypeId) (xs : List Value) : Cells (w.alloc (.cells xs.toArray t)) (some ⟨w.heap.size, 0, none⟩) xs := by
  intro j hj
  refine ⟨_, _, rfl, by simp, ?_⟩
  rw [(Blk.new w t xs.toArray).cell]
  simp [List.getElem?_eq_getElem hj]
theorem ext_step' {w a b : World} (h : Below w.heap.size w a) (k : Below w.heap.size a b) : Below w.heap.size w b := h.trans k
def GrownSl (w : World) (t : TypeId) (sz n : Nat) (xs : List Value) (e : Ending) (w' : World) : Prop :=
  ∃ A c, e = .returned (.slice A n c) ∧ Own w.heap.size w' t sz A n c xs ∧ Below w.heap.size w w'
def Bytes (xs : List Int) : Prop := ∀ x ∈ xs, 0 ≤ x ∧ x < 256
end Go.Proofs.YtfpcpjnmffbhgaaDoor
