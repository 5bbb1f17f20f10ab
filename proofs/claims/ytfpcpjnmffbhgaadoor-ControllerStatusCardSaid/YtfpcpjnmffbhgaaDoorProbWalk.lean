/-
  Contracts of fleet.ValidProblem and what it calls: each returns what the plain function computes, and changes nothing that was there.
-/
import Derived.Test.YtfpcpjnmffbhgaaDoorProbPlain
namespace Go.Proofs.YtfpcpjnmffbhgaaDoor
open Go.RowKit
set_option linter.unusedSimpArgs false
set_option linter.unusedVariables false
set_option maxHeartbeats 2000000
set_option maxRecDepth 100000
theorem within_any (k n : Int) (w : World) : Calls Tryd.prog 43 #[.int .i64 k, .int .i64 n] w fun e w' => e = .returned (.bool (withinB k n)) ∧ Below w.heap.size w w' := by
  go_enter Tryd.func43, Tryd.ntmps43
  go_wp2
  all_goals go_ret
  all_goals exact ⟨ret_bool (by rw [Bool.eq_iff_iff]; simp only [withinB, decide_eq_true_eq, Bool.false_eq_true, false_iff, true_iff]; omega), ext_refl _⟩
theorem fkind_any (k : Int) (aw : Bool) (w : World) : Calls Tryd.prog 66 #[.int .i64 k, .bool aw] w fun e w' => e = .returned (.bool (kindOK k aw)) ∧ Below w.heap.size w w' := by
  go_enter Tryd.func66, Tryd.ntmps66
  go_wp2
  all_goals go_ret
  all_goals refine ⟨ret_bool ?_, ext_refl _⟩
  all_goals (rw [Bool.eq_iff_iff]; simp_all [kindOK]; try omega)
theorem matrix1_any (rA : Option Addr) (n rc g : Nat) (m : Int) (w : World) (hm : w.cell? ⟨g, 0, none⟩ = some (.int .i64 m)) :
    Calls Tryd.prog 84 #[.slice rA n rc, .pointer (some ⟨g, 0, none⟩)] w fun e w' => e = .returned (.bool ((n : Int) != m)) ∧ Below w.heap.size w w' := by
  go_enter Tryd.func84, Tryd.ntmps84
  go_wp2
  go_ret
  exact ⟨rfl, ext_refl _⟩
def IdxPost (B : Bool) (w : World) (e : Ending) (w' : World) : Prop := ∃ r : Int, e = .returned (.int .i64 r) ∧ decide (0 ≤ r) = B ∧ Below w.heap.size w w'
theorem indexRows_any (A : Option Addr) (c g : Nat) (l : List (List Bool)) (m : Int) (w : World) (hg : g < w.heap.size) (hm : w.cell? ⟨g, 0, none⟩ = some (.int .i64 m)) (hl : Mat w A l) (hn : l.length ≤ 4611686018427387904) :
    Calls Tryd.prog 92 #[.slice A l.length c, .func (.func 84) #[] #[.pointer (some ⟨g, 0, none⟩)]] w (IdxPost (!sqRows l m) w) := by
  have HM := hid hl
  clear hl
  go_enter Tryd.func92, Tryd.ntmps92
  go_wp2_with fail
  go_loopw [8] (fun iv wr => ∃ k : Nat, k ≤ l.length ∧ iv = .int .i64 k ∧ Hid (sqRows (l.drop k) m = sqRows l m) ∧ Below w.heap.size w wr) (fun iv _ => l.length - (intOf iv).toNat)
  case atStart => exact ⟨0, Nat.zero_le _, rfl, rfl, ext_refl _⟩
  case round =>
    obtain ⟨k, hk, rfl, hS, hB⟩ := hrel
    by_cases hlt : k < l.length
    · obtain ⟨b, off, rA, rc, rfl, hbl, q0, _, _⟩ := HM.out k hlt
      have p0 := (hB.cell (p := ⟨b, off + k, none⟩) hbl).trans q0
      have pm := (hB.cell (p := ⟨g, 0, none⟩) hg).trans hm
      clear q0
      have HD : Hid (sqRows (l.drop k) m = ((((l[k]).length : Int) == m) && sqRows (l.drop (k + 1)) m)) := by
        show _ = _; rw [drop_cons hlt]; rfl
      by_cases hq : ((l[k]).length : Int) = m
      · have hq' : (((l[k]).length : Int) != m) = false := by simpa using hq
        have Hq := hid hq
        clear hq
        go_wp2_with fail
        refine (matrix1_any _ _ _ _ _ _ pm).mono ?_
        rintro e w1 ⟨rfl, hb1⟩
        obtain ⟨hc1, hf1⟩ := bcell hb1
        have hz1 := hb1.size
        try simp at hz1
        go_wp2_with fail
        go_roundw
        case rel => exact ⟨k + 1, by omega, by go_num, by show _ = _; rw [← hS.out, HD.out, Hq.out]; simp, ext_step hB hb1⟩
        case measure => simp [intOf]; omega
      · have hq' : (((l[k]).length : Int) != m) = true := by simpa using hq
        have Hq := hid hq
        clear hq
        go_wp2_with fail
        refine (matrix1_any _ _ _ _ _ _ pm).mono ?_
        rintro e w1 ⟨rfl, hb1⟩
        obtain ⟨hc1, hf1⟩ := bcell hb1
        have hz1 := hb1.size
        try simp at hz1
        go_wp2_with fail
        go_ret
        exact ⟨_, rfl, by rw [← hS.out, HD.out]; simp [Hq.out], ext_step hB hb1⟩
    · go_wp2
      go_ret
      refine ⟨_, rfl, ?_, hB⟩
      rw [← hS.out, List.drop_eq_nil_of_le (by omega)]
      simp [sqRows]
theorem containsRows_any (A : Option Addr) (c g : Nat) (l : List (List Bool)) (m : Int) (w : World) (hg : g < w.heap.size) (hm : w.cell? ⟨g, 0, none⟩ = some (.int .i64 m)) (hl : Mat w A l) (hn : l.length ≤ 4611686018427387904) :
    Calls Tryd.prog 83 #[.slice A l.length c, .func (.func 84) #[] #[.pointer (some ⟨g, 0, none⟩)]] w fun e w' => e = .returned (.bool (!sqRows l m)) ∧ Below w.heap.size w w' := by
  go_enter Tryd.func83, Tryd.ntmps83
  go_wp2_with fail
  refine (indexRows_any _ _ _ _ _ _ hg hm hl hn).mono ?_
  rintro e w1 ⟨r, rfl, hr, hb⟩
  have Hr := hid hr
  clear hr
  go_wp2_with fail
  go_ret
  exact ⟨ret_bool Hr.out, hb⟩
theorem matrix_any (A : Option Addr) (c : Nat) (l : List (List Bool)) (n m : Int) (w : World) (hl : Mat w A l) (hn : l.length ≤ 4611686018427387904) :
    Calls Tryd.prog 67 #[.slice A l.length c, .int .i64 n, .int .i64 m] w fun e w' => e = .returned (.bool (sq l n m)) ∧ Below w.heap.size w w' := by
  by_cases hq : (l.length : Int) = n
  · have hq' : ((l.length : Int) == n) = true := by simpa using hq
    have Hq := hid hq
    clear hq
    have HM := hid hl
    clear hl
    go_enter Tryd.func67, Tryd.ntmps67
    go_wp2_with fail
    refine (containsRows_any _ _ _ _ m _ (by simp) (by simp [go_sem]) (HM.out.ext (ext_alloc (ext_refl _) _)) hn).mono ?_
    rintro e w1 ⟨rfl, hb⟩
    go_wp2_with fail
    go_ret
    exact ⟨ret_bool (by simp [sq, Hq.out]), ext_step (ext_alloc (ext_refl _) _) hb⟩
  · have hq' : ((l.length : Int) == n) = false := by simpa using hq
    go_enter Tryd.func67, Tryd.ntmps67
    go_wp2_with fail
    go_ret
    exact ⟨ret_bool (by simp [sq, hq']), ext_alloc (ext_refl _) _⟩
end Go.Proofs.YtfpcpjnmffbhgaaDoor
