/-
  The contract of slices.Repeat for one number, up to six times.
-/
import Derived.Test.YtfpcpjnmffbhgaaDoorCmp
import Derived.Deep.OwnRows
import Derived.Deep.Cut
import Derived.Laws.CopyRow
import Derived.StillTailTactics
namespace Go.Proofs.YtfpcpjnmffbhgaaDoor
open Go.RowKit
set_option linter.unusedSimpArgs false
set_option linter.unusedVariables false
set_option maxHeartbeats 2000000
set_option maxRecDepth 100000
theorem mul64_any (n : Int) (w : World) (h0 : 0 ≤ n) (h1 : n ≤ 6) : Calls Tryd.prog 75 #[.int .u64 1, .int .u64 n] w fun e w' => e = .returned (.tuple #[.int .u64 0, .int .u64 n]) ∧ Below w.heap.size w w' := by
  rcases (by omega : n = 0 ∨ n = 1 ∨ n = 2 ∨ n = 3 ∨ n = 4 ∨ n = 5 ∨ n = 6) with h | h | h | h | h | h | h <;> subst h
  all_goals go_enter Tryd.func75, Tryd.ntmps75
  all_goals go_wp2
  all_goals go_ret2
  all_goals exact ⟨rfl, ext_refl _⟩
theorem mul_any (n : Int) (w : World) (h0 : 0 ≤ n) (h1 : n ≤ 6) : Calls Tryd.prog 49 #[.int .u64 1, .int .u64 n] w fun e w' => e = .returned (.tuple #[.int .u64 0, .int .u64 n]) ∧ Below w.heap.size w w' := by
  go_enter Tryd.func49, Tryd.ntmps49
  go_wp2_with fail
  refine (mul64_any n _ h0 h1).mono ?_
  rintro e w1 ⟨rfl, hb1⟩
  go_wp2_with fail
  go_ret2
  exact ⟨rfl, hb1⟩
theorem blk_row {w : World} {g : Nat} {t : TypeId} {cs : Array Value} (h : Blk w g t cs) (ds : Array Value) : Blk (w.setRow g ds) g t ds := setRow_heap w g cs ds t (0, 0) h
theorem row_below {B g : Nat} (w : World) (hg : B ≤ g) (ds : Array Value) : Below B w (w.setRow g ds) := by
  refine ⟨rfl, rfl, rfl, by simp [World.setRow], fun k hk => ?_⟩
  simp only [World.setRow, Array.getElem?_modify]
  rw [if_neg (by omega)]
/-- The walk at a copy whose run is known. -/
theorem wpList_cp {P : Program} {w w' : World} {ops : Array Oper} {rest : List Oper} {o : Oper} {a : Act} {Q : Exit → Act → World → Prop} (hgd : o.guard = none) (s x : Operand) (t tx : TypeId)
    (ho : o.op = .call { callee := .builtin .copy, args := #[s, x], argTypes := #[t, tx] }) (sv xv v : Value) (hv : a.eval s = sv) (hx : a.eval x = xv)
    (h : (Builtin.copy_ #[t, tx] o.type #[sv, xv]).run P w = .ok v w')
    (hK : wpList P ops Q rest (a.put o.dst v) w') : wpList P ops Q (o :: rest) a w := by
  refine wpList_plain hgd fun K hK' => ?_
  unfold Oper.wp
  simp [execOp, ho, resolve, invoke, builtin, hv, hx, h, Result.andThen]
  exact hK' _ _ hK
theorem made_zeros (n : Nat) : madeCells #[.int .i64 0] n = (List.replicate n (Value.int .i64 0)).toArray := by
  apply Array.ext
  · simp [madeCells]
  · intro i h1 h2
    simp [madeCells, Nat.mod_one]
/-- j times -1, then zeros up to n. -/
def rep (n j : Nat) : List Int := List.replicate j (-1) ++ List.replicate (n - j) 0
theorem rep_len {n j : Nat} (h : j ≤ n) : (rep n j).length = n := by simp [rep]; omega
theorem rep_copy0 {n j : Nat} (h : j ≤ n) : (List.take 0 (ints (rep n 0)).toArray.toList ++ List.replicate j (Value.int .i64 (-1)) ++ List.drop (0 + j) (ints (rep n 0)).toArray.toList).toArray = (ints (rep n j)).toArray := by
  simp [rep, ints, List.drop_replicate]
theorem rep_copy {n j k : Nat} (h : j + k ≤ n) (hk : k ≤ j) : (List.take j (ints (rep n j)).toArray.toList ++ List.replicate k (Value.int .i64 (-1)) ++ List.drop (j + k) (ints (rep n j)).toArray.toList).toArray = (ints (rep n (j + k))).toArray := by
  have e1 : List.take j (rep n j) = List.replicate j (-1) := by simp [rep, List.take_append]
  have e2 : List.drop (j + k) (rep n j) = List.replicate (n - (j + k)) 0 := by
    simp [rep, List.drop_append, List.drop_replicate]
    omega
  simp only [ints, List.toList_toArray, ← List.map_take, ← List.map_drop, e1, e2]
  rw [show rep n (j + k) = List.replicate j (-1) ++ List.replicate k (-1) ++ List.replicate (n - (j + k)) 0 from by rw [List.replicate_append_replicate]; rfl]
  simp
theorem repeat_any (A : Option Addr) (c n : Nat) (w : World) (hA : Cells w A (ints [-1])) (hn : n ≤ 6) :
    Calls Tryd.prog 29 #[.slice A 1 c, .int .i64 n] w (NewSl w 3 1 n (ints (List.replicate n (-1)))) := by
  obtain ⟨b0, o0, rfl, hb0, p0⟩ := hA.at_int (k := 0) (by simp)
  simp at p0
  have hmk := run_make_row' (P := Tryd.prog) 23 3 (.int .i64 0) 8 Tryd.underlying23 infoInt rfl .i64 .i64 n (by omega) (by omega)
  have hsz : (Tryd.prog.info? 3).map (·.size) = some 1 := by kernel_rfl
  have d1 : decide ((9223372036854775807 : Int) < (n : Int)) = false := by simp; omega
  go_enter Tryd.func29, Tryd.ntmps29
  go_wp2_with fail
  refine (mul_any n _ (by omega) (by omega)).mono ?_
  rintro e w1 ⟨rfl, hb1⟩
  have q0 := ext_cell hb1 hb0 p0
  have zb : b0 < w1.heap.size := Nat.lt_of_lt_of_le hb0 hb1.size
  go_upto_region 7 with (fail)
  have B2 : Blk (w1.alloc (.cells (madeCells #[.int .i64 0] n) 3)) w1.heap.size 3 (ints (rep n 0)).toArray := by
    rw [made_zeros, show ints (rep n 0) = List.replicate n (Value.int .i64 0) from by simp [rep, ints]]
    exact Blk.new _ _ _
  have X2 := hid (ext_alloc hb1 (.cells (madeCells #[.int .i64 0] n) 3))
  have q2 := ext_cell (ext_alloc (ext_refl w1) (.cells (madeCells #[.int .i64 0] n) 3)) zb q0
  have z1 := hb1.size
  have Z2 : (w1.alloc (.cells (madeCells #[.int .i64 0] n) 3)).heap.size = w1.heap.size + 1 := by simp
  generalize (w1.alloc (.cells (madeCells #[.int .i64 0] n) 3)) = w2 at B2 X2 q2 Z2 ⊢
  obtain ⟨j0, hj0⟩ : ∃ j0 : Nat, j0 = Nat.min 1 n := ⟨_, rfl⟩
  have hj1 : j0 ≤ 1 ∧ j0 ≤ n ∧ (0 < n → j0 = 1) := by rw [hj0]; simp only [Nat.min_def]; split <;> omega
  have hcp : ∀ ty, (Builtin.copy_ #[23, 23] ty #[.slice (some ⟨w1.heap.size, 0, none⟩) n n, .slice (some ⟨b0, o0, none⟩) 1 c]).run Tryd.prog w2 = .ok (goInt j0) (w2.setRow w1.heap.size (ints (rep n j0)).toArray) := by
    intro ty
    have := run_copy_row (P := Tryd.prog) w2 23 23 ty 3 w1.heap.size 0 n n ⟨b0, o0, none⟩ 1 c (ints (rep n 0)).toArray 3 (List.replicate j0 (.int .i64 (-1))) Tryd.underlying23 hsz B2 (by simp [hj0]) (fun j v hv => by
      rw [List.getElem?_replicate] at hv
      split at hv
      · cases hv
        obtain rfl : j = 0 := by omega
        simpa [Addr.add] using q2
      · cases hv) (by simp [rep]; omega) (by intro v hv; rw [List.eq_of_mem_replicate hv]; rfl)
    rw [this]
    simp only [List.length_replicate]
    rw [rep_copy0 hj1.2.1]
  clear hj0
  have B3 := blk_row B2 (ints (rep n j0)).toArray
  have X3 := hid (X2.out.trans (row_below (B := w.heap.size) w2 (show w.heap.size ≤ w1.heap.size from z1) (ints (rep n j0)).toArray))
  go_wp2_with (refine wpList_cp rfl (.tmp 31) (.tmp 32) 23 23 rfl (.slice (some ⟨w1.heap.size, 0, none⟩) n n) (.slice (some ⟨b0, o0, none⟩) 1 c) (goInt j0) (by rfl) (by rfl) (hcp _) ?_)
  clear hcp
  go_loopw [8] (fun iv wr => ∃ j : Nat, j ≤ n ∧ (0 < n → 1 ≤ j) ∧ iv = .int .i64 j ∧ Hid (Blk wr w1.heap.size 3 (ints (rep n j)).toArray) ∧ Hid (Below w.heap.size w wr)) (fun iv _ => n - (intOf iv).toNat)
  case atStart => exact ⟨j0, hj1.2.1, fun h => by have := hj1.2.2 h; omega, rfl, B3, X3⟩
  case round =>
    obtain ⟨j, hj, hj2, rfl, B4, X4⟩ := hrel
    by_cases hlt : j < n
    · have hpos := hj2 (by omega)
      obtain ⟨k, hk⟩ : ∃ k : Nat, k = Nat.min j (n - j) := ⟨_, rfl⟩
      have hk1 : k ≤ j ∧ k ≤ n - j ∧ 1 ≤ k := by rw [hk]; simp only [Nat.min_def]; split <;> omega
      have hcp : ∀ ty, (Builtin.copy_ #[23, 23] ty #[.slice (some ⟨w1.heap.size, j, none⟩) (n - j) (n - j), .slice (some ⟨w1.heap.size, 0, none⟩) j n]).run Tryd.prog wr.drew = .ok (goInt k) (wr.drew.setRow w1.heap.size (ints (rep n (j + k))).toArray) := by
        intro ty
        have := run_copy_row (P := Tryd.prog) wr.drew 23 23 ty 3 w1.heap.size j (n - j) (n - j) ⟨w1.heap.size, 0, none⟩ j n (ints (rep n j)).toArray 3 (List.replicate k (.int .i64 (-1))) Tryd.underlying23 hsz B4.out.drew (by simp [hk]) (fun i v hv => by
          rw [List.getElem?_replicate] at hv
          split at hv
          · cases hv
            rw [Addr.add_lit, Nat.zero_add, B4.out.drew.cell]
            have hij : i < j := by omega
            simp [rep, ints, List.getElem?_append, List.getElem?_replicate, hij]
          · cases hv) (by simp [rep]; omega) (by intro v hv; rw [List.eq_of_mem_replicate hv]; rfl)
        rw [this]
        simp only [List.length_replicate]
        rw [rep_copy (by omega) (by omega)]
      have B5 := blk_row B4.out.drew (ints (rep n (j + k))).toArray
      have X5 := hid (X4.out.drew.trans (row_below (B := w.heap.size) wr.drew (show w.heap.size ≤ w1.heap.size from z1) (ints (rep n (j + k))).toArray))
      clear hk
      have hjk : j + k ≤ n := by omega
      go_wp2_with fail
      go_region
      go_wp2_with fail
      go_roundw
      case rel => exact ⟨j + k, hjk, fun _ => by omega, by simp, B5, X5⟩
      case measure => simp [intOf]; omega
    · obtain rfl : j = n := by omega
      go_wp2_with fail
      go_ret
      refine ⟨some ⟨w1.heap.size, 0, none⟩, j, rfl, ⟨Nat.le_refl _, by simp, .inr ⟨w1.heap.size, [], rfl, z1, by simp, ?_⟩⟩, fun h => h, X4.out⟩
      rw [List.append_nil, show ints (List.replicate j (-1)) = ints (rep j j) from by simp [rep]]
      exact B4.out
end Go.Proofs.YtfpcpjnmffbhgaaDoor
