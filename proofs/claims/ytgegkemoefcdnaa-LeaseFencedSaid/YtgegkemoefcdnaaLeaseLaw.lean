/-
  The examples of the chapter on leases ('awake'), and the five laws on single calls: each returns true and changes nothing that was there.
-/
import Derived.Test.YtgegkemoefcdnaaLeaseWalkB
import Derived.Deep.RegionHeld3
namespace Go.Proofs.Ytgegkemoefcdnaa
open Go.RowKit
set_option linter.unusedSimpArgs false
set_option linter.unusedVariables false
set_option maxHeartbeats 2000000

theorem free_any (w : World) : Calls Try.prog 23 #[] w fun e w' => e = .returned (lv (-1) 0 0) ∧ Below w.heap.size w w' := by
  go_enter Try.func23, Try.ntmps23
  go_wp2
  refine bodyPost_ret (v := lv (-1) 0 0) (by simp [results, Try.results23, go_sem]) rfl ⟨rfl, ext_alloc (ext_refl _) _⟩

theorem awake_any (w : World) : Calls Try.prog 10 #[] w fun e w' => e = .returned (.bool true) ∧ Below w.heap.size w w' := by
  have q1 : acq (-1) 0 0 0 10 5 = (0, 1, 15, 0) := by decide
  have q2 : acq 0 1 15 1 12 5 = (0, 0, 0, 11) := by decide
  have q3 : acq 0 1 15 0 14 5 = (0, 1, 19, 0) := by decide
  have q4 : acq 0 1 19 1 19 5 = (1, 2, 24, 0) := by decide
  have q5 : fen 2 1 = (0, 16) := by decide
  go_enter Try.func10, Try.ntmps10
  go_wp2_with fail
  refine (free_any _).mono ?_
  rintro e w1 ⟨rfl, hb1⟩
  obtain ⟨hc1, hf1⟩ := bcell hb1
  have hz1 := hb1.size
  try simp at hz1
  go_wp2_with fail
  refine (acquire_any _ _ _ _ _ _ _ ⟨by omega, by omega⟩ (by omega)).mono ?_
  rintro e w2 ⟨rfl, hb2⟩
  obtain ⟨hc2, hf2⟩ := bcell hb2
  have hz2 := hb2.size
  try simp at hz2
  go_wp2_with fail
  refine (acquire_any _ _ _ _ _ _ _ ⟨by omega, by omega⟩ (by omega)).mono ?_
  rintro e w3 ⟨rfl, hb3⟩
  obtain ⟨hc3, hf3⟩ := bcell hb3
  have hz3 := hb3.size
  try simp at hz3
  have z3_0 : w2.heap.size < w3.heap.size := by omega
  go_wp2_with fail
  refine (acquire_any _ _ _ _ _ _ _ ⟨by omega, by omega⟩ (by omega)).mono ?_
  rintro e w4 ⟨rfl, hb4⟩
  obtain ⟨hc4, hf4⟩ := bcell hb4
  have hz4 := hb4.size
  try simp at hz4
  have z4_0 : w2.heap.size < w4.heap.size := by omega
  have z4_1 : w3.heap.size < w4.heap.size := by omega
  go_wp2_with fail
  refine (acquire_any _ _ _ _ _ _ _ ⟨by omega, by omega⟩ (by omega)).mono ?_
  rintro e w5 ⟨rfl, hb5⟩
  obtain ⟨hc5, hf5⟩ := bcell hb5
  have hz5 := hb5.size
  try simp at hz5
  have z5_0 : w2.heap.size < w5.heap.size := by omega
  have z5_1 : w3.heap.size < w5.heap.size := by omega
  have z5_2 : w4.heap.size < w5.heap.size := by omega
  go_wp2_with fail
  refine (fence_any _ _ _).mono ?_
  rintro e w6 ⟨rfl, hb6⟩
  obtain ⟨hc6, hf6⟩ := bcell hb6
  have hz6 := hb6.size
  try simp at hz6
  have z6_0 : w2.heap.size < w6.heap.size := by omega
  have z6_1 : w3.heap.size < w6.heap.size := by omega
  have z6_2 : w4.heap.size < w6.heap.size := by omega
  have z6_3 : w5.heap.size < w6.heap.size := by omega
  go_wp2
  go_ret
  refine ⟨rfl, ?_⟩
  (repeat (first | with_reducible exact ext_refl _ | with_reducible refine ext_alloc ?_ _ | with_reducible refine ext_set ?_ (by omega) _ | with_reducible refine ext_drew ?_ | with_reducible refine ext_step ?_ (by assumption)))

theorem leaseAcquire_any (hd tk un who a b : Int) (w : World) (ht : I64 tk) (hb : b ≤ 9223372036854775807) :
    Calls Try.prog 3 #[lv hd tk un, .int .i64 who, .agg #[.int .i64 a, .int .i64 b]] w fun e w' => e = .returned (.bool true) ∧ Below w.heap.size w w' := by
  go_enter Try.func3, Try.ntmps3
  go_wp2_with fail
  refine (awake_any _).mono ?_
  rintro e w1 ⟨rfl, hb1⟩
  obtain ⟨hc1, hf1⟩ := bcell hb1
  have hz1 := hb1.size
  try simp at hz1
  have z1_0 : w.heap.size < w1.heap.size := by omega
  have z1_1 : w.heap.size + 1 < w1.heap.size := by omega
  go_wp2_with fail
  refine (acquire_any _ _ _ _ _ _ _ ht hb).mono ?_
  rintro e w2 ⟨rfl, hb2⟩
  obtain ⟨hc2, hf2⟩ := bcell hb2
  have hz2 := hb2.size
  try simp at hz2
  have z2_0 : w.heap.size < w2.heap.size := by omega
  have z2_1 : w.heap.size + 1 < w2.heap.size := by omega
  go_wp2_with fail
  refine (racquire_any _ _ _ _ _ _ _ ht hb).mono ?_
  rintro e w3 ⟨rfl, hb3⟩
  obtain ⟨hc3, hf3⟩ := bcell hb3
  have hz3 := hb3.size
  try simp at hz3
  have z3_0 : w.heap.size < w3.heap.size := by omega
  have z3_1 : w.heap.size + 1 < w3.heap.size := by omega
  have z3_2 : w2.heap.size < w3.heap.size := by omega
  go_wp2
  go_ret
  refine ⟨by simp, ?_⟩
  (repeat (first | with_reducible exact ext_refl _ | with_reducible refine ext_alloc ?_ _ | with_reducible refine ext_set ?_ (by omega) _ | with_reducible refine ext_drew ?_ | with_reducible refine ext_step ?_ (by assumption)))
theorem leaseFence_any (a b : Int) (w : World) :
    Calls Try.prog 4 #[.int .i64 a, .int .i64 b] w fun e w' => e = .returned (.bool true) ∧ Below w.heap.size w w' := by
  go_enter Try.func4, Try.ntmps4
  go_wp2_with fail
  refine (awake_any _).mono ?_
  rintro e w1 ⟨rfl, hb1⟩
  obtain ⟨hc1, hf1⟩ := bcell hb1
  have hz1 := hb1.size
  try simp at hz1
  go_wp2_with fail
  refine (fence_any _ _ _).mono ?_
  rintro e w2 ⟨rfl, hb2⟩
  obtain ⟨hc2, hf2⟩ := bcell hb2
  have hz2 := hb2.size
  try simp at hz2
  go_wp2_with fail
  refine (rfence_any _ _ _).mono ?_
  rintro e w3 ⟨rfl, hb3⟩
  obtain ⟨hc3, hf3⟩ := bcell hb3
  have hz3 := hb3.size
  try simp at hz3
  go_wp2
  go_ret
  refine ⟨by simp, ?_⟩
  (repeat (first | with_reducible exact ext_refl _ | with_reducible refine ext_alloc ?_ _ | with_reducible refine ext_set ?_ (by omega) _ | with_reducible refine ext_drew ?_ | with_reducible refine ext_step ?_ (by assumption)))
theorem leaseRenew_any (hd tk un who a b c : Int) (w : World) (hb : c ≤ 9223372036854775807) :
    Calls Try.prog 5 #[lv hd tk un, .int .i64 who, .agg #[.int .i64 a, .int .i64 b, .int .i64 c]] w fun e w' => e = .returned (.bool true) ∧ Below w.heap.size w w' := by
  go_enter Try.func5, Try.ntmps5
  go_wp2_with fail
  refine (awake_any _).mono ?_
  rintro e w1 ⟨rfl, hb1⟩
  obtain ⟨hc1, hf1⟩ := bcell hb1
  have hz1 := hb1.size
  try simp at hz1
  have z1_0 : w.heap.size < w1.heap.size := by omega
  have z1_1 : w.heap.size + 1 < w1.heap.size := by omega
  go_wp2_with fail
  refine (renew_any _ _ _ _ _ _ _ _ hb).mono ?_
  rintro e w2 ⟨rfl, hb2⟩
  obtain ⟨hc2, hf2⟩ := bcell hb2
  have hz2 := hb2.size
  try simp at hz2
  have z2_0 : w.heap.size < w2.heap.size := by omega
  have z2_1 : w.heap.size + 1 < w2.heap.size := by omega
  go_wp2_with fail
  refine (rrenew_any _ _ _ _ _ _ _ _ hb).mono ?_
  rintro e w3 ⟨rfl, hb3⟩
  obtain ⟨hc3, hf3⟩ := bcell hb3
  have hz3 := hb3.size
  try simp at hz3
  have z3_0 : w.heap.size < w3.heap.size := by omega
  have z3_1 : w.heap.size + 1 < w3.heap.size := by omega
  have z3_2 : w2.heap.size < w3.heap.size := by omega
  go_wp2
  go_ret
  refine ⟨by simp, ?_⟩
  (repeat (first | with_reducible exact ext_refl _ | with_reducible refine ext_alloc ?_ _ | with_reducible refine ext_set ?_ (by omega) _ | with_reducible refine ext_drew ?_ | with_reducible refine ext_step ?_ (by assumption)))
theorem leaseRelease_any (hd tk un who a b : Int) (w : World) :
    Calls Try.prog 7 #[lv hd tk un, .int .i64 who, .agg #[.int .i64 a, .int .i64 b]] w fun e w' => e = .returned (.bool true) ∧ Below w.heap.size w w' := by
  go_enter Try.func7, Try.ntmps7
  go_wp2_with fail
  refine (awake_any _).mono ?_
  rintro e w1 ⟨rfl, hb1⟩
  obtain ⟨hc1, hf1⟩ := bcell hb1
  have hz1 := hb1.size
  try simp at hz1
  have z1_0 : w.heap.size < w1.heap.size := by omega
  have z1_1 : w.heap.size + 1 < w1.heap.size := by omega
  go_wp2_with fail
  refine (release_any _ _ _ _ _ _ _).mono ?_
  rintro e w2 ⟨rfl, hb2⟩
  obtain ⟨hc2, hf2⟩ := bcell hb2
  have hz2 := hb2.size
  try simp at hz2
  have z2_0 : w.heap.size < w2.heap.size := by omega
  have z2_1 : w.heap.size + 1 < w2.heap.size := by omega
  go_wp2_with fail
  refine (rrelease_any _ _ _ _ _ _ _).mono ?_
  rintro e w3 ⟨rfl, hb3⟩
  obtain ⟨hc3, hf3⟩ := bcell hb3
  have hz3 := hb3.size
  try simp at hz3
  have z3_0 : w.heap.size < w3.heap.size := by omega
  have z3_1 : w.heap.size + 1 < w3.heap.size := by omega
  have z3_2 : w2.heap.size < w3.heap.size := by omega
  go_wp2
  go_ret
  refine ⟨by simp, ?_⟩
  (repeat (first | with_reducible exact ext_refl _ | with_reducible refine ext_alloc ?_ _ | with_reducible refine ext_set ?_ (by omega) _ | with_reducible refine ext_drew ?_ | with_reducible refine ext_step ?_ (by assumption)))
theorem leaseHolds_any (hd tk un p q a b c : Int) (w : World) (hun : un ≤ 9223372036854775807) :
    Calls Try.prog 6 #[lv hd tk un, .agg #[.int .i64 p, .int .i64 q], .agg #[.int .i64 a, .int .i64 b, .int .i64 c]] w fun e w' => e = .returned (.bool true) ∧ Below w.heap.size w w' := by
  have key : ¬ p = q → holdsB hd tk un p a b c = true → holdsB hd tk un q a b c = true → False := by grind [holdsB]
  have Key := hid key; clear key
  go_enter Try.func6, Try.ntmps6
  go_wp2_with fail
  refine (awake_any _).mono ?_
  rintro e w1 ⟨rfl, hb1⟩
  obtain ⟨hc1, hf1⟩ := bcell hb1
  have hz1 := hb1.size
  try simp at hz1
  have z1_0 : w.heap.size < w1.heap.size := by omega
  have z1_1 : w.heap.size + 1 < w1.heap.size := by omega
  have z1_2 : w.heap.size + 2 < w1.heap.size := by omega
  go_wp2_with fail
  refine (holds_any _ _ _ _ _ _ _ _ hun).mono ?_
  rintro e w2 ⟨rfl, hb2⟩
  obtain ⟨hc2, hf2⟩ := bcell hb2
  have hz2 := hb2.size
  try simp at hz2
  have z2_0 : w.heap.size < w2.heap.size := by omega
  have z2_1 : w.heap.size + 1 < w2.heap.size := by omega
  have z2_2 : w.heap.size + 2 < w2.heap.size := by omega
  go_wp2_with fail
  refine (holds_any _ _ _ _ _ _ _ _ hun).mono ?_
  rintro e w3 ⟨rfl, hb3⟩
  obtain ⟨hc3, hf3⟩ := bcell hb3
  have hz3 := hb3.size
  try simp at hz3
  have z3_0 : w.heap.size < w3.heap.size := by omega
  have z3_1 : w.heap.size + 1 < w3.heap.size := by omega
  have z3_2 : w.heap.size + 2 < w3.heap.size := by omega
  go_wp2_with fail
  have k0 : w3.drew.cell? ⟨w.heap.size, 0, none⟩ = some (.int .i64 hd) := by simp [go_sem, *]
  have k1 : w3.drew.cell? ⟨w.heap.size, 1, none⟩ = some (.int .i64 tk) := by simp [go_sem, *]
  have k2 : w3.drew.cell? ⟨w.heap.size, 2, none⟩ = some (.int .i64 un) := by simp [go_sem, *]
  have k3 : w3.drew.cell? ⟨w.heap.size + 1, 0, none⟩ = some (.int .i64 p) := by simp [go_sem, *]
  have k4 : w3.drew.cell? ⟨w.heap.size + 1, 1, none⟩ = some (.int .i64 q) := by simp [go_sem, *]
  have k5 : w3.drew.cell? ⟨w.heap.size + 2, 0, none⟩ = some (.int .i64 a) := by simp [go_sem, *]
  have k6 : w3.drew.cell? ⟨w.heap.size + 2, 1, none⟩ = some (.int .i64 b) := by simp [go_sem, *]
  have k7 : w3.drew.cell? ⟨w.heap.size + 2, 2, none⟩ = some (.int .i64 c) := by simp [go_sem, *]
  have k9 : w.heap.size + 2 < w3.drew.heap.size := z3_2
  go_region_held3 (fun w' => w'.cell? ⟨w.heap.size, 0, none⟩ = some (.int .i64 hd) ∧ w'.cell? ⟨w.heap.size, 1, none⟩ = some (.int .i64 tk) ∧ w'.cell? ⟨w.heap.size, 2, none⟩ = some (.int .i64 un) ∧ w'.cell? ⟨w.heap.size + 1, 0, none⟩ = some (.int .i64 p) ∧ w'.cell? ⟨w.heap.size + 1, 1, none⟩ = some (.int .i64 q) ∧ w'.cell? ⟨w.heap.size + 2, 0, none⟩ = some (.int .i64 a) ∧ w'.cell? ⟨w.heap.size + 2, 1, none⟩ = some (.int .i64 b) ∧ w'.cell? ⟨w.heap.size + 2, 2, none⟩ = some (.int .i64 c) ∧ w.heap.size + 2 < w'.heap.size)
    ((repeat' refine And.intro ?_ ?_) <;> first | assumption | omega | (refine ext_cell hb ?_ ?_ <;> first | omega | assumption | (simp only [*]; done) | simp [*]))
    (first
      | (go_at_call 18; refine (rholds_any _ _ _ _ _ _ _ _ hun).mono ?_; rintro e w' ⟨rfl, hb⟩; have hz := hb.size)
      | (go_at_call 19; refine (holder_any _ _ _ _ _).mono ?_; rintro e w' ⟨rfl, hb⟩; have hz := hb.size)
      | (go_at_call 20; refine (rholder_any _ _ _ _ _).mono ?_; rintro e w' ⟨rfl, hb⟩; have hz := hb.size))
  go_wp2
  all_goals go_ret
  all_goals refine ⟨?_, ?_⟩
  all_goals first | ((repeat (first | with_reducible exact ext_refl _ | with_reducible refine ext_alloc ?_ _ | with_reducible refine ext_set ?_ (by omega) _ | with_reducible refine ext_drew ?_ | with_reducible refine ext_step ?_ (by assumption))); done) | skip
  · rfl
  · have hk : holdsB hd tk un q a b c = false := by
      cases hx : holdsB hd tk un q a b c with
      | false => rfl
      | true => exact (Key.out ‹¬ p = q› ‹holdsB hd tk un p a b c = true› hx).elim
    exact ret_bool (by simp [hk])
  · rfl
end Go.Proofs.Ytgegkemoefcdnaa
