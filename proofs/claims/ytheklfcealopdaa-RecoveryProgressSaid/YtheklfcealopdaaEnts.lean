/-
  Entries of a journal; contracts of recovery.Progress and sheaveref54.Progress, recovery.firstReplica, sheavelaw54.entry.
-/
import Derived.Test.YtheklfcealopdaaCmp
namespace Go.Proofs.Ytheklfcealopdaa
open Go.RowKit
set_option linter.unusedSimpArgs false
set_option linter.unusedVariables false
set_option maxHeartbeats 2000000
set_option maxRecDepth 100000
structure EntD where
  kind : Int
  token : Int
  idx : Int
  data : ByteArray
/-- Entries from an address on: four cells each. -/
def Ents (w : World) (A : Option Addr) (l : List EntD) : Prop :=
  ∀ i (h : i < l.length), ∃ b off, A = some ⟨b, off, none⟩ ∧ b < w.heap.size ∧ w.cell? ⟨b, off + i * 4, none⟩ = some (.int .i64 (l[i]).kind) ∧ w.cell? ⟨b, off + i * 4 + 1, none⟩ = some (.int .i64 (l[i]).token) ∧ w.cell? ⟨b, off + i * 4 + 2, none⟩ = some (.int .i64 (l[i]).idx) ∧ w.cell? ⟨b, off + i * 4 + 3, none⟩ = some (.string (l[i]).data)
theorem Ents.ext {w w' : World} {A : Option Addr} {l : List EntD} (h : Ents w A l) (hb : Below w.heap.size w w') : Ents w' A l := fun i hi => by
  obtain ⟨b, off, h1, h2, c0, c1, c2, c3⟩ := h i hi
  have k : ∀ o, w'.cell? ⟨b, o, none⟩ = w.cell? ⟨b, o, none⟩ := fun o => hb.cell (p := ⟨b, o, none⟩) h2
  exact ⟨b, off, h1, Nat.lt_of_lt_of_le h2 hb.size, (k _).trans c0, (k _).trans c1, (k _).trans c2, (k _).trans c3⟩
def progStep (k n : Int) (b : Bool) : Int × Bool := if k = 1 then (n, true) else if k = 4 then (n, false) else if k = 2 then (n + 1, false) else (n, b)
def prog : List EntD → Int → Bool → Int × Bool
  | [], n, b => (n, b)
  | e :: r, n, b => prog r (progStep e.kind n b).1 (progStep e.kind n b).2
theorem prog_step {l : List EntD} {k : Nat} {n : Int} {b : Bool} (h : k < l.length) : prog (l.drop k) n b = prog (l.drop (k + 1)) (progStep (l[k]).kind n b).1 (progStep (l[k]).kind n b).2 := by
  rw [drop_cons h]; rfl
theorem progress_any (A : Option Addr) (c : Nat) (l : List EntD) (w : World) (hA : Ents w A l) (l0 : l.length ≤ 1000000) :
    Calls Try.prog 6 #[.slice A l.length c] w fun e w' => e = .returned (.tuple #[.int .i64 (prog l 0 false).1, .bool (prog l 0 false).2]) ∧ Below w.heap.size w w' := by
  have HA := hid hA
  clear hA
  go_enter Try.func6, Try.ntmps6
  go_wp2_with fail
  go_loopw [4, 5, 10] (fun nv bv iv wr => ∃ (k : Nat) (n : Int) (b : Bool), k ≤ l.length ∧ iv = .int .i64 k ∧ nv = .int .i64 n ∧ bv = .bool b ∧ Hid (prog (l.drop k) n b = prog l 0 false) ∧ 0 ≤ n ∧ n ≤ k ∧ Hid (Below w.heap.size w wr)) (fun _ _ iv _ => l.length - (intOf iv).toNat)
  case atStart => exact ⟨0, 0, false, Nat.zero_le _, rfl, rfl, rfl, rfl, by omega, by omega, ext_refl _⟩
  case round =>
    obtain ⟨k, n, b, hk, rfl, rfl, rfl, hS, n0, n1, X2⟩ := hrel
    by_cases hlt : k < l.length
    · obtain ⟨g, off, rfl, hg, q0, q1, q2, q3⟩ := HA.out k hlt
      have HD := hid (prog_step (n := n) (b := b) hlt)
      have p0 := gr_cell0 X2.out hg q0
      have p1 := gr_cell0 X2.out hg q1
      have p2 := gr_cell0 X2.out hg q2
      have p3 := gr_cell0 X2.out hg q3
      clear q0 q1 q2 q3
      generalize l[k] = x at p0 p1 p2 p3 HD
      obtain ⟨kd, tk, ix, dt⟩ := x
      have X3 := hid (ext_alloc X2.out (.cells #[.int .i64 kd, .int .i64 tk, .int .i64 ix, .string dt] 28))
      by_cases g1 : kd = 1
      · subst g1
        go_wp2_with fail
        go_roundw
        case rel => exact ⟨k + 1, n, true, by omega, by go_num, rfl, rfl, by show _ = _; rw [← hS.out, HD.out]; rfl, n0, by omega, X3⟩
        case measure => simp [intOf]; omega
      have g1' : (kd == 1) = false := by simpa using g1
      by_cases g2 : kd = 4
      · subst g2
        clear g1 g1'
        go_wp2_with fail
        go_roundw
        case rel => exact ⟨k + 1, n, false, by omega, by go_num, rfl, rfl, by show _ = _; rw [← hS.out, HD.out]; rfl, n0, by omega, X3⟩
        case measure => simp [intOf]; omega
      have g2' : (kd == 4) = false := by simpa using g2
      by_cases g3 : kd = 2
      · subst g3
        clear g1 g1' g2 g2'
        go_wp2_with fail
        go_roundw
        case rel => exact ⟨k + 1, n + 1, false, by omega, by go_num, by go_num, rfl, by show _ = _; rw [← hS.out, HD.out]; rfl, by omega, by omega, X3⟩
        case measure => simp [intOf]; omega
      have g3' : (kd == 2) = false := by simpa using g3
      have HP : Hid (progStep kd n b = (n, b)) := by show _ = _; unfold progStep; rw [if_neg g1, if_neg g2, if_neg g3]
      clear g1 g2 g3
      go_wp2_with fail
      go_roundw
      case rel => exact ⟨k + 1, n, b, by omega, by go_num, rfl, rfl, by show _ = _; rw [← hS.out, HD.out, HP.out], n0, by omega, X3⟩
      case measure => simp [intOf]; omega
    · have HE : Hid (prog l 0 false = (n, b)) := by show _ = _; rw [← hS.out, List.drop_eq_nil_of_le (by omega)]; rfl
      go_wp2_with fail
      go_ret2
      exact ⟨by rw [HE.out]; rfl, X2.out⟩
theorem rprogress_any (A : Option Addr) (c : Nat) (l : List EntD) (w : World) (hA : Ents w A l) (l0 : l.length ≤ 1000000) :
    Calls Try.prog 8 #[.slice A l.length c] w fun e w' => e = .returned (.tuple #[.int .i64 (prog l 0 false).1, .bool (prog l 0 false).2]) ∧ Below w.heap.size w w' := by
  have HA := hid hA
  clear hA
  go_enter Try.func8, Try.ntmps8
  go_wp2_with fail
  go_loopw [4, 5, 6] (fun nv bv iv wr => ∃ (k : Nat) (n : Int) (b : Bool), k ≤ l.length ∧ iv = .int .i64 k ∧ nv = .int .i64 n ∧ bv = .bool b ∧ Hid (prog (l.drop k) n b = prog l 0 false) ∧ 0 ≤ n ∧ n ≤ k ∧ Hid (Below w.heap.size w wr)) (fun _ _ iv _ => l.length - (intOf iv).toNat)
  case atStart => exact ⟨0, 0, false, Nat.zero_le _, rfl, rfl, rfl, rfl, by omega, by omega, ext_refl _⟩
  case round =>
    obtain ⟨k, n, b, hk, rfl, rfl, rfl, hS, n0, n1, X2⟩ := hrel
    by_cases hlt : k < l.length
    · obtain ⟨g, off, rfl, hg, q0, q1, q2, q3⟩ := HA.out k hlt
      have HD := hid (prog_step (n := n) (b := b) hlt)
      have p0 := gr_cell0 X2.out hg q0
      clear q0 q1 q2 q3
      generalize l[k] = x at p0 HD
      obtain ⟨kd, tk, ix, dt⟩ := x
      by_cases g1 : kd = 1
      · subst g1
        go_wp2_with fail
        go_roundw
        case rel => exact ⟨k + 1, n, true, by omega, by go_num, rfl, rfl, by show _ = _; rw [← hS.out, HD.out]; rfl, n0, by omega, X2⟩
        case measure => simp [intOf]; omega
      have g1' : (kd == 1) = false := by simpa using g1
      by_cases g2 : kd = 4
      · subst g2
        clear g1 g1'
        go_wp2_with fail
        go_roundw
        case rel => exact ⟨k + 1, n, false, by omega, by go_num, rfl, rfl, by show _ = _; rw [← hS.out, HD.out]; rfl, n0, by omega, X2⟩
        case measure => simp [intOf]; omega
      have g2' : (kd == 4) = false := by simpa using g2
      by_cases g3 : kd = 2
      · subst g3
        clear g1 g1' g2 g2'
        go_wp2_with fail
        go_roundw
        case rel => exact ⟨k + 1, n + 1, false, by omega, by go_num, by go_num, rfl, by show _ = _; rw [← hS.out, HD.out]; rfl, by omega, by omega, X2⟩
        case measure => simp [intOf]; omega
      have g3' : (kd == 2) = false := by simpa using g3
      have HP : Hid (progStep kd n b = (n, b)) := by show _ = _; unfold progStep; rw [if_neg g1, if_neg g2, if_neg g3]
      clear g1 g2 g3
      go_wp2_with fail
      go_roundw
      case rel => exact ⟨k + 1, n, b, by omega, by go_num, rfl, rfl, by show _ = _; rw [← hS.out, HD.out, HP.out], n0, by omega, X2⟩
      case measure => simp [intOf]; omega
    · have HE : Hid (prog l 0 false = (n, b)) := by show _ = _; rw [← hS.out, List.drop_eq_nil_of_le (by omega)]; rfl
      go_wp2_with fail
      go_ret2
      exact ⟨by rw [HE.out]; rfl, X2.out⟩
theorem entry_any (k i : Int) (w : World) : Calls Try.prog 13 #[.int .i64 k, .int .i64 i] w fun e w' => e = .returned (.agg #[.int .i64 k, .int .i64 1, .int .i64 i, .string ⟨#[]⟩]) ∧ Below w.heap.size w w' := by
  go_enter Try.func13, Try.ntmps13
  go_wp2
  refine bodyPost_ret (by simp [results, Try.results13, go_sem, *]; rfl) rfl ⟨?_, ?_⟩
  · rfl
  · (repeat (first | with_reducible exact ext_refl _ | with_reducible refine ext_alloc ?_ _ | with_reducible refine ext_set ?_ (by omega) _ | with_reducible refine ext_drew ?_ | with_reducible refine ext_step ?_ (by assumption)))
end Go.Proofs.Ytheklfcealopdaa
