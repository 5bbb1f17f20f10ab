/-
  The contract of slices.Clone, at each type: a slice of its own with the same elements.
-/
import Derived.Test.YtliooohflhogpaaGreatDoorGb
import Derived.Lib.SliceRun
namespace Go.Proofs.YtliooohflhogpaaGreatDoor
open Go.RowKit
set_option linter.unusedSimpArgs false
set_option linter.unusedVariables false
set_option maxHeartbeats 1000000
set_option maxRecDepth 100000
/-- What a call returns: a slice of its own of n elements. -/
def NewSl (w : World) (t : TypeId) (sz n : Nat) (xs : List Value) (e : Ending) (w' : World) : Prop :=
  ∃ A c, e = .returned (.slice A n c) ∧ Own w.heap.size w' t sz A n c xs ∧ (n = 0 → c = 0) ∧ Below w.heap.size w w'
theorem infoInt : (Tryz.prog.info? 3).map (fun i => (i.zero, i.size, i.bytes)) = some (some (.int .i64 0), 1, 8) := by kernel_rfl
theorem cloneInt (A : Option Addr) (n c : Nat) (xs : List Value) (w : World) (h : Cells w A xs) (hl : xs.length = n * 1) (h1 : ∀ u ∈ xs, u.oneCell' = true) (hb : n * 8 ≤ 140737488355328) :
    Calls Tryz.prog 38 #[.slice A n c] w (NewSl w 3 1 n xs) := by
  obtain ⟨i, hi, hz0, hz1, hz2⟩ := info_parts infoInt
  have HC := hid h
  have qn : ∀ (w : World) (a : Option Addr) (n c n' c' : Nat), (binOp .eql 22 (.slice a n c) (.slice none n' c')).run Tryz.prog w = .ok (.bool a.isNone) w := fun w a n c n' c' => Lib.run_eql_slice_nil w _ _ a n c n' c' Tryz.underlying22
  clear h
  cases A with
  | none =>
    have hx0 : xs.length = 0 := HC.out.none rfl
    obtain rfl : n = 0 := by omega
    obtain rfl : xs = [] := List.length_eq_zero_iff.1 hx0
    go_enter Tryz.func38, Tryz.ntmps38
    go_wp2
    go_ret
    exact ⟨none, 0, rfl, Own.nil _ _ _ _ _, fun _ => rfl, ext_refl _⟩
  | some a =>
    go_enter Tryz.func38, Tryz.ntmps38
    have hW : (w.alloc (.cells #[] 3)).heap.size = w.heap.size + 1 := by simp
    go_wp2_with (at_builtin; refine wpList_app rfl (.tmp 5) (.tmp 6) 22 22 rfl _ 0 0 (0 + n) (.slice (some a) n c) (by rfl) (by rfl) (run_own0 (w := w.alloc (.cells #[] 3)) w.heap.size (by omega) 22 22 _ 3 i _ Tryz.underlying22 hi hz0 (by rw [hz1]; rfl) _ _ n xs (by rw [hz1]; exact src_cells Tryz.underlying22 (HC.out.ext (ext_alloc (ext_refl _) _)) hl (fun e => by cases e) h1) (by rw [hz2]; omega) (by omega)) ?_; intro A' c' w' hR; have HR := hid hR; clear hR)
    obtain ⟨hO, hC, hB⟩ := HR.out
    rw [hz1, Nat.zero_add] at hO
    go_ret
    exact ⟨A', c', by simp, hO, hC, (ext_alloc (ext_refl _) _).trans hB⟩
theorem infoBool : (Tryz.prog.info? 4).map (fun i => (i.zero, i.size, i.bytes)) = some (some (.bool false), 1, 1) := by kernel_rfl
theorem cloneBool (A : Option Addr) (n c : Nat) (xs : List Value) (w : World) (h : Cells w A xs) (hl : xs.length = n * 1) (h1 : ∀ u ∈ xs, u.oneCell' = true) (hb : n * 1 ≤ 140737488355328) :
    Calls Tryz.prog 53 #[.slice A n c] w (NewSl w 4 1 n xs) := by
  obtain ⟨i, hi, hz0, hz1, hz2⟩ := info_parts infoBool
  have HC := hid h
  have qn : ∀ (w : World) (a : Option Addr) (n c n' c' : Nat), (binOp .eql 50 (.slice a n c) (.slice none n' c')).run Tryz.prog w = .ok (.bool a.isNone) w := fun w a n c n' c' => Lib.run_eql_slice_nil w _ _ a n c n' c' Tryz.underlying50
  clear h
  cases A with
  | none =>
    have hx0 : xs.length = 0 := HC.out.none rfl
    obtain rfl : n = 0 := by omega
    obtain rfl : xs = [] := List.length_eq_zero_iff.1 hx0
    go_enter Tryz.func53, Tryz.ntmps53
    go_wp2
    go_ret
    exact ⟨none, 0, rfl, Own.nil _ _ _ _ _, fun _ => rfl, ext_refl _⟩
  | some a =>
    go_enter Tryz.func53, Tryz.ntmps53
    have hW : (w.alloc (.cells #[] 4)).heap.size = w.heap.size + 1 := by simp
    go_wp2_with (at_builtin; refine wpList_app rfl (.tmp 5) (.tmp 6) 50 50 rfl _ 0 0 (0 + n) (.slice (some a) n c) (by rfl) (by rfl) (run_own0 (w := w.alloc (.cells #[] 4)) w.heap.size (by omega) 50 50 _ 4 i _ Tryz.underlying50 hi hz0 (by rw [hz1]; rfl) _ _ n xs (by rw [hz1]; exact src_cells Tryz.underlying50 (HC.out.ext (ext_alloc (ext_refl _) _)) hl (fun e => by cases e) h1) (by rw [hz2]; omega) (by omega)) ?_; intro A' c' w' hR; have HR := hid hR; clear hR)
    obtain ⟨hO, hC, hB⟩ := HR.out
    rw [hz1, Nat.zero_add] at hO
    go_ret
    exact ⟨A', c', by simp, hO, hC, (ext_alloc (ext_refl _) _).trans hB⟩
theorem infoRow : (Tryz.prog.info? 50).map (fun i => (i.zero, i.size, i.bytes)) = some (some (.slice none 0 0), 1, 24) := by kernel_rfl
theorem cloneRow (A : Option Addr) (n c : Nat) (xs : List Value) (w : World) (h : Cells w A xs) (hl : xs.length = n * 1) (h1 : ∀ u ∈ xs, u.oneCell' = true) (hb : n * 24 ≤ 140737488355328) :
    Calls Tryz.prog 52 #[.slice A n c] w (NewSl w 50 1 n xs) := by
  obtain ⟨i, hi, hz0, hz1, hz2⟩ := info_parts infoRow
  have HC := hid h
  have qn : ∀ (w : World) (a : Option Addr) (n c n' c' : Nat), (binOp .eql 51 (.slice a n c) (.slice none n' c')).run Tryz.prog w = .ok (.bool a.isNone) w := fun w a n c n' c' => Lib.run_eql_slice_nil w _ _ a n c n' c' Tryz.underlying51
  clear h
  cases A with
  | none =>
    have hx0 : xs.length = 0 := HC.out.none rfl
    obtain rfl : n = 0 := by omega
    obtain rfl : xs = [] := List.length_eq_zero_iff.1 hx0
    go_enter Tryz.func52, Tryz.ntmps52
    go_wp2
    go_ret
    exact ⟨none, 0, rfl, Own.nil _ _ _ _ _, fun _ => rfl, ext_refl _⟩
  | some a =>
    go_enter Tryz.func52, Tryz.ntmps52
    have hW : (w.alloc (.cells #[] 50)).heap.size = w.heap.size + 1 := by simp
    go_wp2_with (at_builtin; refine wpList_app rfl (.tmp 5) (.tmp 6) 51 51 rfl _ 0 0 (0 + n) (.slice (some a) n c) (by rfl) (by rfl) (run_own0 (w := w.alloc (.cells #[] 50)) w.heap.size (by omega) 51 51 _ 50 i _ Tryz.underlying51 hi hz0 (by rw [hz1]; rfl) _ _ n xs (by rw [hz1]; exact src_cells Tryz.underlying51 (HC.out.ext (ext_alloc (ext_refl _) _)) hl (fun e => by cases e) h1) (by rw [hz2]; omega) (by omega)) ?_; intro A' c' w' hR; have HR := hid hR; clear hR)
    obtain ⟨hO, hC, hB⟩ := HR.out
    rw [hz1, Nat.zero_add] at hO
    go_ret
    exact ⟨A', c', by simp, hO, hC, (ext_alloc (ext_refl _) _).trans hB⟩
theorem infoTyp : (Tryz.prog.info? 94).map (fun i => (i.zero, i.size, i.bytes)) = some (some (.agg #[.int .i64 0, .string ⟨#[]⟩, .int .i64 0, .int .i64 0, .int .i64 0, .slice none 0 0, .slice none 0 0, .int .i64 0, .int .i64 0, .bool false]), 10, 120) := by kernel_rfl
theorem cloneTyp (A : Option Addr) (n c : Nat) (xs : List Value) (w : World) (h : Cells w A xs) (hl : xs.length = n * 10) (h1 : ∀ u ∈ xs, u.oneCell' = true) (hb : n * 120 ≤ 140737488355328) :
    Calls Tryz.prog 72 #[.slice A n c] w (NewSl w 94 10 n xs) := by
  obtain ⟨i, hi, hz0, hz1, hz2⟩ := info_parts infoTyp
  have HC := hid h
  have qn : ∀ (w : World) (a : Option Addr) (n c n' c' : Nat), (binOp .eql 80 (.slice a n c) (.slice none n' c')).run Tryz.prog w = .ok (.bool a.isNone) w := fun w a n c n' c' => Lib.run_eql_slice_nil w _ _ a n c n' c' Tryz.underlying80
  clear h
  cases A with
  | none =>
    have hx0 : xs.length = 0 := HC.out.none rfl
    obtain rfl : n = 0 := by omega
    obtain rfl : xs = [] := List.length_eq_zero_iff.1 hx0
    go_enter Tryz.func72, Tryz.ntmps72
    go_wp2
    go_ret
    exact ⟨none, 0, rfl, Own.nil _ _ _ _ _, fun _ => rfl, ext_refl _⟩
  | some a =>
    go_enter Tryz.func72, Tryz.ntmps72
    have hW : (w.alloc (.cells #[] 94)).heap.size = w.heap.size + 1 := by simp
    go_wp2_with (at_builtin; refine wpList_app rfl (.tmp 5) (.tmp 6) 80 80 rfl _ 0 0 (0 + n) (.slice (some a) n c) (by rfl) (by rfl) (run_own0 (w := w.alloc (.cells #[] 94)) w.heap.size (by omega) 80 80 _ 94 i _ Tryz.underlying80 hi hz0 (by rw [hz1]; rfl) _ _ n xs (by rw [hz1]; exact src_cells Tryz.underlying80 (HC.out.ext (ext_alloc (ext_refl _) _)) hl (fun e => by cases e) h1) (by rw [hz2]; omega) (by omega)) ?_; intro A' c' w' hR; have HR := hid hR; clear hR)
    obtain ⟨hO, hC, hB⟩ := HR.out
    rw [hz1, Nat.zero_add] at hO
    go_ret
    exact ⟨A', c', by simp, hO, hC, (ext_alloc (ext_refl _) _).trans hB⟩
end Go.Proofs.YtliooohflhogpaaGreatDoor
