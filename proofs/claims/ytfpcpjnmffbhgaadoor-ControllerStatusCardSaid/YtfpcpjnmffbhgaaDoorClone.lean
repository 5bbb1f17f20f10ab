/-
  The contract of slices.Clone, at each type: a slice of its own with the same elements.
-/
import Derived.Test.YtfpcpjnmffbhgaaDoorOwn
import Derived.Lib.SliceRun
namespace Go.Proofs.YtfpcpjnmffbhgaaDoor
open Go.RowKit
set_option linter.unusedSimpArgs false
set_option linter.unusedVariables false
set_option maxHeartbeats 1000000
set_option maxRecDepth 100000
/-- What a call returns: a slice of its own of n elements. -/
def NewSl (w : World) (t : TypeId) (sz n : Nat) (xs : List Value) (e : Ending) (w' : World) : Prop :=
  ∃ A c, e = .returned (.slice A n c) ∧ Own w.heap.size w' t sz A n c xs ∧ (n = 0 → c = 0) ∧ Below w.heap.size w w'
theorem infoInt : (Tryd.prog.info? 3).map (fun i => (i.zero, i.size, i.bytes)) = some (some (.int .i64 0), 1, 8) := by kernel_rfl
theorem cloneInt (A : Option Addr) (n c : Nat) (xs : List Value) (w : World) (h : Cells w A xs) (hl : xs.length = n * 1) (h1 : ∀ u ∈ xs, u.oneCell' = true) (hb : n * 8 ≤ 140737488355328) :
    Calls Tryd.prog 28 #[.slice A n c] w (NewSl w 3 1 n xs) := by
  obtain ⟨i, hi, hz0, hz1, hz2⟩ := info_parts infoInt
  have HC := hid h
  have qn : ∀ (w : World) (a : Option Addr) (n c n' c' : Nat), (binOp .eql 23 (.slice a n c) (.slice none n' c')).run Tryd.prog w = .ok (.bool a.isNone) w := fun w a n c n' c' => Lib.run_eql_slice_nil w _ _ a n c n' c' Tryd.underlying23
  clear h
  cases A with
  | none =>
    have hx0 : xs.length = 0 := HC.out.none rfl
    obtain rfl : n = 0 := by omega
    obtain rfl : xs = [] := List.length_eq_zero_iff.1 hx0
    go_enter Tryd.func28, Tryd.ntmps28
    go_wp2
    go_ret
    exact ⟨none, 0, rfl, Own.nil _ _ _ _ _, fun _ => rfl, ext_refl _⟩
  | some a =>
    go_enter Tryd.func28, Tryd.ntmps28
    have hW : (w.alloc (.cells #[] 3)).heap.size = w.heap.size + 1 := by simp
    go_wp2_with (at_builtin; refine wpList_app rfl (.tmp 5) (.tmp 6) 23 23 rfl _ 0 0 (0 + n) (.slice (some a) n c) (by rfl) (by rfl) (run_own0 (w := w.alloc (.cells #[] 3)) w.heap.size (by omega) 23 23 _ 3 i _ Tryd.underlying23 hi hz0 (by rw [hz1]; rfl) _ _ n xs (by rw [hz1]; exact src_cells Tryd.underlying23 (HC.out.ext (ext_alloc (ext_refl _) _)) hl (fun e => by cases e) h1) (by rw [hz2]; omega) (by omega)) ?_; intro A' c' w' hR; have HR := hid hR; clear hR)
    obtain ⟨hO, hC, hB⟩ := HR.out
    rw [hz1, Nat.zero_add] at hO
    go_ret
    exact ⟨A', c', by simp, hO, hC, (ext_alloc (ext_refl _) _).trans hB⟩
theorem infoSet : (Tryd.prog.info? 85).map (fun i => (i.zero, i.size, i.bytes)) = some (some (.int .u8 0), 1, 1) := by kernel_rfl
theorem cloneSet (A : Option Addr) (n c : Nat) (xs : List Value) (w : World) (h : Cells w A xs) (hl : xs.length = n * 1) (h1 : ∀ u ∈ xs, u.oneCell' = true) (hb : n * 1 ≤ 140737488355328) :
    Calls Tryd.prog 32 #[.slice A n c] w (NewSl w 85 1 n xs) := by
  obtain ⟨i, hi, hz0, hz1, hz2⟩ := info_parts infoSet
  have HC := hid h
  have qn : ∀ (w : World) (a : Option Addr) (n c n' c' : Nat), (binOp .eql 24 (.slice a n c) (.slice none n' c')).run Tryd.prog w = .ok (.bool a.isNone) w := fun w a n c n' c' => Lib.run_eql_slice_nil w _ _ a n c n' c' Tryd.underlying24
  clear h
  cases A with
  | none =>
    have hx0 : xs.length = 0 := HC.out.none rfl
    obtain rfl : n = 0 := by omega
    obtain rfl : xs = [] := List.length_eq_zero_iff.1 hx0
    go_enter Tryd.func32, Tryd.ntmps32
    go_wp2
    go_ret
    exact ⟨none, 0, rfl, Own.nil _ _ _ _ _, fun _ => rfl, ext_refl _⟩
  | some a =>
    go_enter Tryd.func32, Tryd.ntmps32
    have hW : (w.alloc (.cells #[] 85)).heap.size = w.heap.size + 1 := by simp
    go_wp2_with (at_builtin; refine wpList_app rfl (.tmp 5) (.tmp 6) 24 24 rfl _ 0 0 (0 + n) (.slice (some a) n c) (by rfl) (by rfl) (run_own0 (w := w.alloc (.cells #[] 85)) w.heap.size (by omega) 24 24 _ 85 i _ Tryd.underlying24 hi hz0 (by rw [hz1]; rfl) _ _ n xs (by rw [hz1]; exact src_cells Tryd.underlying24 (HC.out.ext (ext_alloc (ext_refl _) _)) hl (fun e => by cases e) h1) (by rw [hz2]; omega) (by omega)) ?_; intro A' c' w' hR; have HR := hid hR; clear hR)
    obtain ⟨hO, hC, hB⟩ := HR.out
    rw [hz1, Nat.zero_add] at hO
    go_ret
    exact ⟨A', c', by simp, hO, hC, (ext_alloc (ext_refl _) _).trans hB⟩
theorem infoStep : (Tryd.prog.info? 58).map (fun i => (i.zero, i.size, i.bytes)) = some (some (.agg #[.int .i64 0, .int .i64 0, .int .i64 0]), 3, 24) := by kernel_rfl
theorem cloneStep (A : Option Addr) (n c : Nat) (xs : List Value) (w : World) (h : Cells w A xs) (hl : xs.length = n * 3) (h1 : ∀ u ∈ xs, u.oneCell' = true) (hb : n * 24 ≤ 140737488355328) :
    Calls Tryd.prog 17 #[.slice A n c] w (NewSl w 58 3 n xs) := by
  obtain ⟨i, hi, hz0, hz1, hz2⟩ := info_parts infoStep
  have HC := hid h
  have qn : ∀ (w : World) (a : Option Addr) (n c n' c' : Nat), (binOp .eql 22 (.slice a n c) (.slice none n' c')).run Tryd.prog w = .ok (.bool a.isNone) w := fun w a n c n' c' => Lib.run_eql_slice_nil w _ _ a n c n' c' Tryd.underlying22
  clear h
  cases A with
  | none =>
    have hx0 : xs.length = 0 := HC.out.none rfl
    obtain rfl : n = 0 := by omega
    obtain rfl : xs = [] := List.length_eq_zero_iff.1 hx0
    go_enter Tryd.func17, Tryd.ntmps17
    go_wp2
    go_ret
    exact ⟨none, 0, rfl, Own.nil _ _ _ _ _, fun _ => rfl, ext_refl _⟩
  | some a =>
    go_enter Tryd.func17, Tryd.ntmps17
    have hW : (w.alloc (.cells #[] 58)).heap.size = w.heap.size + 1 := by simp
    go_wp2_with (at_builtin; refine wpList_app rfl (.tmp 5) (.tmp 6) 22 22 rfl _ 0 0 (0 + n) (.slice (some a) n c) (by rfl) (by rfl) (run_own0 (w := w.alloc (.cells #[] 58)) w.heap.size (by omega) 22 22 _ 58 i _ Tryd.underlying22 hi hz0 (by rw [hz1]; rfl) _ _ n xs (by rw [hz1]; exact src_cells Tryd.underlying22 (HC.out.ext (ext_alloc (ext_refl _) _)) hl (fun e => by cases e) h1) (by rw [hz2]; omega) (by omega)) ?_; intro A' c' w' hR; have HR := hid hR; clear hR)
    obtain ⟨hO, hC, hB⟩ := HR.out
    rw [hz1, Nat.zero_add] at hO
    go_ret
    exact ⟨A', c', by simp, hO, hC, (ext_alloc (ext_refl _) _).trans hB⟩
end Go.Proofs.YtfpcpjnmffbhgaaDoor
