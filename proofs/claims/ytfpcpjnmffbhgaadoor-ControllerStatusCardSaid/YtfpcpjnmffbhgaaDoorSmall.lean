/-
  Contracts of small functions on lists of numbers and steps: equality and comparison (Go's library, layers 36 and 37).
-/
import Derived.Test.YtfpcpjnmffbhgaaDoorClone
namespace Go.Proofs.YtfpcpjnmffbhgaaDoor
open Go.RowKit
set_option linter.unusedSimpArgs false
set_option linter.unusedVariables false
set_option maxHeartbeats 2000000
set_option maxRecDepth 100000
structure StepD where
  kind : Int
  idx : Int
  ver : Int
deriving DecidableEq
def stepCells (s : StepD) : List Value := [.int .i64 s.kind, .int .i64 s.idx, .int .i64 s.ver]
/-- Steps from an address on: three cells each. -/
def Steps (w : World) (A : Option Addr) (l : List StepD) : Prop :=
  ∀ i (h : i < l.length), ∃ b off, A = some ⟨b, off, none⟩ ∧ b < w.heap.size ∧ w.cell? ⟨b, off + i * 3, none⟩ = some (.int .i64 (l[i]).kind) ∧ w.cell? ⟨b, off + i * 3 + 1, none⟩ = some (.int .i64 (l[i]).idx) ∧ w.cell? ⟨b, off + i * 3 + 2, none⟩ = some (.int .i64 (l[i]).ver)
theorem Steps.ext {w w' : World} {A : Option Addr} {l : List StepD} (h : Steps w A l) (hb : Below w.heap.size w w') : Steps w' A l := fun i hi => by
  obtain ⟨b, off, h1, h2, c0, c1, c2⟩ := h i hi
  have k : ∀ o, w'.cell? ⟨b, o, none⟩ = w.cell? ⟨b, o, none⟩ := fun o => hb.cell (p := ⟨b, o, none⟩) h2
  exact ⟨b, off, h1, Nat.lt_of_lt_of_le h2 hb.size, (k _).trans c0, (k _).trans c1, (k _).trans c2⟩
theorem beq_step {α : Type} [BEq α] {xs ys : List α} {k : Nat} (h : k < xs.length) (h' : k < ys.length) : (xs.drop k == ys.drop k) = ((xs[k] == ys[k]) && (xs.drop (k + 1) == ys.drop (k + 1))) := by
  rw [drop_cons h, drop_cons h']; rfl
theorem eqInt (A B : Option Addr) (c d : Nat) (xs ys : List Int) (w : World) (hA : Cells w A (ints xs)) (hB : Cells w B (ints ys)) (l0 : xs.length ≤ 4611686018427387904) (l1 : ys.length ≤ 4611686018427387904) :
    Calls Tryd.prog 72 #[.slice A xs.length c, .slice B ys.length d] w fun e w' => e = .returned (.bool (xs == ys)) ∧ Below w.heap.size w w' := by
  have HA := hid hA
  have HB := hid hB
  clear hA hB
  by_cases hq : xs.length = ys.length
  rotate_left
  · have hq' : ((xs.length : Int) != ys.length) = true := by simp; omega
    have HN : Hid ((xs == ys) = false) := by show _ = _; simp; intro e; exact hq (by rw [e])
    go_enter Tryd.func72, Tryd.ntmps72
    go_wp2
    go_ret
    exact ⟨ret_bool HN.out.symm, ext_refl _⟩
  have hq' : ((xs.length : Int) != ys.length) = false := by simp; omega
  have q1 : xs.length ≤ ys.length := by omega
  have q2 : ys.length ≤ xs.length := by omega
  clear hq
  go_enter Tryd.func72, Tryd.ntmps72
  go_wp2_with fail
  go_loopw [13] (fun iv wr => ∃ k : Nat, k ≤ xs.length ∧ iv = .int .i64 k ∧ Hid ((xs.drop k == ys.drop k) = (xs == ys)) ∧ Below w.heap.size w wr) (fun iv _ => xs.length - (intOf iv).toNat)
  case atStart => exact ⟨0, Nat.zero_le _, rfl, rfl, ext_refl _⟩
  case round =>
    obtain ⟨k, hk, rfl, hS, hB⟩ := hrel
    by_cases hlt : k < xs.length
    · have HD := hid (beq_step hlt (show k < ys.length by omega))
      obtain ⟨b0, o0, rfl, hb0, p0⟩ := HA.out.at_int hlt
      obtain ⟨b1, o1, rfl, hb1, p1⟩ := HB.out.at_int (k := k) (by omega)
      have k0 := gr_cell (Nat.lt_of_lt_of_le hb0 hB.size) (gr_cell0 hB hb0 p0)
      have k1 := gr_cell (Nat.lt_of_lt_of_le hb1 hB.size) (gr_cell0 hB hb1 p1)
      clear p0 p1
      generalize xs[k] = x at k0 HD
      generalize ys[k] = y at k1 HD
      by_cases g : x = y
      · have g' : (x != y) = false := by simpa using g
        have G := hid g
        clear g
        go_wp2_with fail
        refine wp_region_gr (by kernel_rfl) (by kernel_rfl) ?_
        repeat (go_big_quiet_step (fail))
        refine wpQuiet_nil ?_
        intro w9 hw'
        have hb9 := gr_out hw'
        clear hw'
        go_wp2_with fail
        go_roundw
        case rel => exact ⟨k + 1, by omega, by go_num, by show _ = _; rw [← hS.out, HD.out, G.out]; simp, ext_step hB hb9⟩
        case measure => simp [intOf]; omega
      · have g' : (x != y) = true := by simpa using g
        have G := hid g
        clear g
        go_wp2_with fail
        refine wp_region_gr (by kernel_rfl) (by kernel_rfl) ?_
        repeat (go_big_quiet_step (fail))
        refine wpQuiet_nil ?_
        intro w9 hw'
        have hb9 := gr_out hw'
        clear hw'
        go_wp2_with fail
        go_ret
        exact ⟨ret_bool (by rw [← hS.out, HD.out]; simp [G.out]), ext_step hB hb9⟩
    · go_wp2_with fail
      go_ret
      exact ⟨ret_bool (by rw [← hS.out, List.drop_eq_nil_of_le (by omega), List.drop_eq_nil_of_le (by omega)]; rfl), hB⟩
theorem run_neqStep (w : World) (a b c a' b' c' : Int) : (binOp .neq 58 (.agg #[.int .i64 a, .int .i64 b, .int .i64 c]) (.agg #[.int .i64 a', .int .i64 b', .int .i64 c'])).run Tryd.prog w = .ok (.bool (!(((⟨a, b, c⟩ : StepD) == ⟨a', b', c'⟩)))) w := by
  have e : ((⟨a, b, c⟩ : StepD) == ⟨a', b', c'⟩) = (a == a' && (b == b' && c == c')) := by
    rw [Bool.eq_iff_iff]; simp
  rw [e]
  by_cases g1 : a = a' <;> by_cases g2 : b = b' <;> by_cases g3 : c = c' <;> simp [go_sem, g1, g2, g3]
def cmp1 (a b : Int) : Int := if a < b then -1 else if b < a then 1 else 0
def cmpInts : List Int → List Int → Int
  | [], [] => 0
  | [], _ :: _ => -1
  | _ :: _, [] => 1
  | a :: r, b :: s => if cmp1 a b ≠ 0 then cmp1 a b else cmpInts r s
theorem cmp_step {xs ys : List Int} {k : Nat} (h : k < xs.length) (h' : k < ys.length) : cmpInts (xs.drop k) (ys.drop k) = if cmp1 xs[k] ys[k] ≠ 0 then cmp1 xs[k] ys[k] else cmpInts (xs.drop (k + 1)) (ys.drop (k + 1)) := by
  rw [drop_cons h, drop_cons h']; rfl
theorem cmp_left {xs ys : List Int} {k : Nat} (h : k < xs.length) (h' : ys.length ≤ k) : cmpInts (xs.drop k) (ys.drop k) = 1 := by
  rw [drop_cons h, List.drop_eq_nil_of_le h']; rfl
theorem cmp_right {xs ys : List Int} {k : Nat} (h : xs.length ≤ k) (h' : k < ys.length) : cmpInts (xs.drop k) (ys.drop k) = -1 := by
  rw [drop_cons h', List.drop_eq_nil_of_le h]; rfl
theorem cmp_nil {xs ys : List Int} {k : Nat} (h : xs.length ≤ k) (h' : ys.length ≤ k) : cmpInts (xs.drop k) (ys.drop k) = 0 := by
  rw [List.drop_eq_nil_of_le h', List.drop_eq_nil_of_le h]; rfl
theorem isNaNInt (a : Int) (w : World) : Calls Tryd.prog 95 #[.int .i64 a] w fun e w' => e = .returned (.bool false) ∧ Below w.heap.size w w' := by
  go_enter Tryd.func95, Tryd.ntmps95
  go_wp2
  go_ret
  exact ⟨rfl, ext_refl _⟩
theorem cmpInt (a b : Int) (w : World) : Calls Tryd.prog 90 #[.int .i64 a, .int .i64 b] w fun e w' => e = .returned (.int .i64 (cmp1 a b)) ∧ Below w.heap.size w w' := by
  go_enter Tryd.func90, Tryd.ntmps90
  go_wp2_with fail
  refine (isNaNInt _ _).mono ?_
  rintro e w1 ⟨rfl, hb1⟩
  obtain ⟨hc1, hf1⟩ := bcell hb1
  have hz1 := hb1.size
  try simp at hz1
  go_wp2_with fail
  refine (isNaNInt _ _).mono ?_
  rintro e w2 ⟨rfl, hb2⟩
  obtain ⟨hc2, hf2⟩ := bcell hb2
  have hz2 := hb2.size
  try simp at hz2
  go_wp2_with fail
  all_goals go_ret
  all_goals exact ⟨ret_int (by unfold cmp1; repeat (first | rw [if_pos (by omega)] | rw [if_neg (by omega)])), ext_step hb1 hb2⟩
theorem compareInt (A B : Option Addr) (c d : Nat) (xs ys : List Int) (w : World) (hA : Cells w A (ints xs)) (hB : Cells w B (ints ys)) (l0 : xs.length ≤ 4611686018427387904) (l1 : ys.length ≤ 4611686018427387904) :
    Calls Tryd.prog 78 #[.slice A xs.length c, .slice B ys.length d] w fun e w' => e = .returned (.int .i64 (cmpInts xs ys)) ∧ Below w.heap.size w w' := by
  have HA := hid hA
  have HB := hid hB
  clear hA hB
  go_enter Tryd.func78, Tryd.ntmps78
  go_wp2_with fail
  go_loopw [11] (fun iv wr => ∃ k : Nat, k ≤ xs.length ∧ iv = .int .i64 k ∧ Hid (k ≤ ys.length) ∧ Hid (cmpInts (xs.drop k) (ys.drop k) = cmpInts xs ys) ∧ Below w.heap.size w wr) (fun iv _ => xs.length - (intOf iv).toNat)
  case atStart => exact ⟨0, Nat.zero_le _, rfl, Nat.zero_le _, rfl, ext_refl _⟩
  case round =>
    obtain ⟨k, hk, rfl, hy, hS, hB⟩ := hrel
    by_cases hlt : k < xs.length
    · obtain ⟨b0, o0, rfl, hb0, p0⟩ := HA.out.at_int hlt
      have k0 := gr_cell0 hB hb0 p0
      by_cases hly : k < ys.length
      · have HD := hid (cmp_step hlt hly)
        obtain ⟨b1, o1, rfl, hb1, p1⟩ := HB.out.at_int hly
        have k1 := gr_cell0 hB hb1 p1
        clear p0 p1
        generalize xs[k] = x at k0 HD
        generalize ys[k] = y at k1 HD
        go_wp2_with fail
        refine (cmpInt _ _ _).mono ?_
        rintro e w1 ⟨rfl, hb1⟩
        obtain ⟨hc1, hf1⟩ := bcell hb1
        have hz1 := hb1.size
        try simp at hz1
        by_cases g : cmp1 x y = 0
        · have g' : (cmp1 x y != 0) = false := by simpa using g
          have G := hid g
          clear g
          go_wp2_with fail
          go_roundw
          case rel => exact ⟨k + 1, by omega, by go_num, hly, by show _ = _; rw [← hS.out, HD.out, if_neg (by simp [G.out])], ext_step hB hb1⟩
          case measure => simp [intOf]; omega
        · have g' : (cmp1 x y != 0) = true := by simpa using g
          have G := hid g
          clear g
          go_wp2_with fail
          go_ret
          exact ⟨ret_int (by rw [← hS.out, HD.out, if_pos G.out]), ext_step hB hb1⟩
      · clear p0
        go_wp2_with fail
        go_ret
        exact ⟨ret_int (by rw [← hS.out, cmp_left hlt (by omega)]), hB⟩
    · by_cases hly : k < ys.length
      · have z : xs.length < ys.length := by omega
        go_wp2_with fail
        go_ret
        exact ⟨ret_int (by rw [← hS.out, cmp_right (by omega) hly]), hB⟩
      · have hy' := hy.out
        have z : ys.length ≤ xs.length := by omega
        go_wp2_with fail
        go_ret
        exact ⟨ret_int (by rw [← hS.out, cmp_nil (by omega) (by omega)]), hB⟩
theorem isNaNSet (a : Int) (w : World) : Calls Tryd.prog 96 #[.int .u8 a] w fun e w' => e = .returned (.bool false) ∧ Below w.heap.size w w' := by
  go_enter Tryd.func96, Tryd.ntmps96
  go_wp2
  go_ret
  exact ⟨rfl, ext_refl _⟩
theorem cmpSet (a b : Int) (w : World) : Calls Tryd.prog 91 #[.int .u8 a, .int .u8 b] w fun e w' => e = .returned (.int .i64 (cmp1 a b)) ∧ Below w.heap.size w w' := by
  go_enter Tryd.func91, Tryd.ntmps91
  go_wp2_with fail
  refine (isNaNSet _ _).mono ?_
  rintro e w1 ⟨rfl, hb1⟩
  obtain ⟨hc1, hf1⟩ := bcell hb1
  have hz1 := hb1.size
  try simp at hz1
  go_wp2_with fail
  refine (isNaNSet _ _).mono ?_
  rintro e w2 ⟨rfl, hb2⟩
  obtain ⟨hc2, hf2⟩ := bcell hb2
  have hz2 := hb2.size
  try simp at hz2
  go_wp2_with fail
  all_goals go_ret
  all_goals exact ⟨ret_int (by unfold cmp1; repeat (first | rw [if_pos (by omega)] | rw [if_neg (by omega)])), ext_step hb1 hb2⟩
theorem compareSet (A B : Option Addr) (c d : Nat) (xs ys : List Int) (w : World) (hA : Cells w A (sets xs)) (hB : Cells w B (sets ys)) (l0 : xs.length ≤ 4611686018427387904) (l1 : ys.length ≤ 4611686018427387904) :
    Calls Tryd.prog 79 #[.slice A xs.length c, .slice B ys.length d] w fun e w' => e = .returned (.int .i64 (cmpInts xs ys)) ∧ Below w.heap.size w w' := by
  have HA := hid hA
  have HB := hid hB
  clear hA hB
  go_enter Tryd.func79, Tryd.ntmps79
  go_wp2_with fail
  go_loopw [11] (fun iv wr => ∃ k : Nat, k ≤ xs.length ∧ iv = .int .i64 k ∧ Hid (k ≤ ys.length) ∧ Hid (cmpInts (xs.drop k) (ys.drop k) = cmpInts xs ys) ∧ Below w.heap.size w wr) (fun iv _ => xs.length - (intOf iv).toNat)
  case atStart => exact ⟨0, Nat.zero_le _, rfl, Nat.zero_le _, rfl, ext_refl _⟩
  case round =>
    obtain ⟨k, hk, rfl, hy, hS, hB⟩ := hrel
    by_cases hlt : k < xs.length
    · obtain ⟨b0, o0, rfl, hb0, p0⟩ := HA.out.at_set hlt
      have k0 := gr_cell0 hB hb0 p0
      by_cases hly : k < ys.length
      · have HD := hid (cmp_step hlt hly)
        obtain ⟨b1, o1, rfl, hb1, p1⟩ := HB.out.at_set hly
        have k1 := gr_cell0 hB hb1 p1
        clear p0 p1
        generalize xs[k] = x at k0 HD
        generalize ys[k] = y at k1 HD
        go_wp2_with fail
        refine (cmpSet _ _ _).mono ?_
        rintro e w1 ⟨rfl, hb1⟩
        obtain ⟨hc1, hf1⟩ := bcell hb1
        have hz1 := hb1.size
        try simp at hz1
        by_cases g : cmp1 x y = 0
        · have g' : (cmp1 x y != 0) = false := by simpa using g
          have G := hid g
          clear g
          go_wp2_with fail
          go_roundw
          case rel => exact ⟨k + 1, by omega, by go_num, hly, by show _ = _; rw [← hS.out, HD.out, if_neg (by simp [G.out])], ext_step hB hb1⟩
          case measure => simp [intOf]; omega
        · have g' : (cmp1 x y != 0) = true := by simpa using g
          have G := hid g
          clear g
          go_wp2_with fail
          go_ret
          exact ⟨ret_int (by rw [← hS.out, HD.out, if_pos G.out]), ext_step hB hb1⟩
      · clear p0
        go_wp2_with fail
        go_ret
        exact ⟨ret_int (by rw [← hS.out, cmp_left hlt (by omega)]), hB⟩
    · by_cases hly : k < ys.length
      · have z : xs.length < ys.length := by omega
        go_wp2_with fail
        go_ret
        exact ⟨ret_int (by rw [← hS.out, cmp_right (by omega) hly]), hB⟩
      · have hy' := hy.out
        have z : ys.length ≤ xs.length := by omega
        go_wp2_with fail
        go_ret
        exact ⟨ret_int (by rw [← hS.out, cmp_nil (by omega) (by omega)]), hB⟩
end Go.Proofs.YtfpcpjnmffbhgaaDoor
