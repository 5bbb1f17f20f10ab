/-
  Contracts of the functions of the packages lease and sheaveref49: each returns what the plain function of XLeasePlain computes, and changes nothing that was there.
-/
import Derived.Test.YtgegkemoefcdnaaLeasePlain
namespace Go.Proofs.Ytgegkemoefcdnaa
open Go.RowKit
set_option linter.unusedSimpArgs false
set_option linter.unusedVariables false
set_option maxHeartbeats 1000000

theorem valid_any (hd tk un : Int) (w : World) : Calls Try.prog 31 #[lv hd tk un] w fun e w' => e = .returned (.bool (validB hd tk un)) ∧ Below w.heap.size w w' := by
  go_enter Try.func31, Try.ntmps31
  go_wp2
  all_goals go_ret
  all_goals exact ⟨ret_bool (by rw [Bool.eq_iff_iff]; simp only [validB, decide_eq_true_eq, Bool.false_eq_true, false_iff, true_iff]; omega), ext_alloc (ext_refl _) _⟩
theorem rvalid_any (hd tk un : Int) (w : World) : Calls Try.prog 32 #[lv hd tk un] w fun e w' => e = .returned (.bool (validB hd tk un)) ∧ Below w.heap.size w w' := by
  go_enter Try.func32, Try.ntmps32
  go_wp2
  all_goals go_ret
  all_goals exact ⟨ret_bool (by rw [Bool.eq_iff_iff]; simp only [validB, decide_eq_true_eq, Bool.false_eq_true, false_iff, true_iff]; omega), ext_alloc (ext_refl _) _⟩
theorem held_any (hd tk un now : Int) (w : World) : Calls Try.prog 27 #[lv hd tk un, .int .i64 now] w fun e w' => e = .returned (.bool (heldB hd un now)) ∧ Below w.heap.size w w' := by
  go_enter Try.func27, Try.ntmps27
  go_wp2
  all_goals go_ret
  all_goals exact ⟨ret_bool (by rw [Bool.eq_iff_iff]; simp only [heldB, decide_eq_true_eq, Bool.false_eq_true, false_iff, true_iff]; omega), ext_alloc (ext_refl _) _⟩
theorem extended_any (hd tk un x : Int) (w : World) : Calls Try.prog 28 #[lv hd tk un, .int .i64 x] w fun e w' => e = .returned (lv hd tk (max un x)) ∧ Below w.heap.size w w' := by
  go_enter Try.func28, Try.ntmps28
  go_wp2
  all_goals refine bodyPost_ret (v := lv hd tk (max un x)) (by simp [results, Try.results28, go_sem]; omega) rfl ⟨rfl, ext_alloc (ext_alloc (ext_refl _) _) _⟩
theorem checked_any (hd tk un who token now ttl : Int) (w : World) (httl : ttl ≤ 9223372036854775807) :
    Calls Try.prog 26 #[lv hd tk un, .int .i64 who, .int .i64 token, .int .i64 now, .int .i64 ttl] w fun e w' => e = .returned (.int .i64 (chk hd tk un who token now ttl)) ∧ Below w.heap.size w w' := by
  by_cases hv : -1 ≤ hd ∧ 0 ≤ tk ∧ 0 ≤ un
  · have hv' : validB hd tk un = true := by simpa [validB] using hv
    have Hv := hid hv; clear hv
    go_enter Try.func26, Try.ntmps26
    go_wp2_with (go_at_call 31; refine (valid_any _ _ _ _).mono ?_; rintro e w1 ⟨rfl, hb⟩; obtain ⟨hc, hf⟩ := bcell hb; have hz := hb.size; (try simp at hz); have z0 : w.heap.size < w1.heap.size := (by omega))
    all_goals go_ret
    all_goals refine ⟨ret_int ?_, ext_step (ext_alloc (ext_refl _) _) hb⟩
    all_goals (have := Hv.out; simp [chk, this]; try omega)
  · have hv' : validB hd tk un = false := by simp [validB]; omega
    have Hv := hid hv; clear hv
    go_enter Try.func26, Try.ntmps26
    go_wp2_with (go_at_call 31; refine (valid_any _ _ _ _).mono ?_; rintro e w1 ⟨rfl, hb⟩; obtain ⟨hc, hf⟩ := bcell hb; have hz := hb.size; (try simp at hz); have z0 : w.heap.size < w1.heap.size := (by omega))
    go_ret
    exact ⟨ret_int (by simp [chk, Hv.out]), ext_step (ext_alloc (ext_refl _) _) hb⟩
theorem rerror_any (hd tk un who now ttl : Int) (w : World) (httl : ttl ≤ 9223372036854775807) :
    Calls Try.prog 29 #[lv hd tk un, .int .i64 who, .int .i64 now, .int .i64 ttl] w fun e w' => e = .returned (.int .i64 (chk hd tk un who 0 now ttl)) ∧ Below w.heap.size w w' := by
  by_cases hv : -1 ≤ hd ∧ 0 ≤ tk ∧ 0 ≤ un
  · have hv' : validB hd tk un = true := by simpa [validB] using hv
    have Hv := hid hv; clear hv
    go_enter Try.func29, Try.ntmps29
    go_wp2_with (go_at_call 32; refine (rvalid_any _ _ _ _).mono ?_; rintro e w1 ⟨rfl, hb⟩; obtain ⟨hc, hf⟩ := bcell hb; have hz := hb.size; (try simp at hz); have z0 : w.heap.size < w1.heap.size := (by omega))
    all_goals go_ret
    all_goals refine ⟨ret_int ?_, ext_step (ext_alloc (ext_refl _) _) hb⟩
    all_goals (have := Hv.out; simp [chk, this]; try omega)
  · have hv' : validB hd tk un = false := by simp [validB]; omega
    have Hv := hid hv; clear hv
    go_enter Try.func29, Try.ntmps29
    go_wp2_with (go_at_call 32; refine (rvalid_any _ _ _ _).mono ?_; rintro e w1 ⟨rfl, hb⟩; obtain ⟨hc, hf⟩ := bcell hb; have hz := hb.size; (try simp at hz); have z0 : w.heap.size < w1.heap.size := (by omega))
    go_ret
    exact ⟨ret_int (by simp [chk, Hv.out]), ext_step (ext_alloc (ext_refl _) _) hb⟩
theorem holder_any (hd tk un now : Int) (w : World) : Calls Try.prog 19 #[lv hd tk un, .int .i64 now] w fun e w' => e = .returned (.int .i64 (holderI hd tk un now)) ∧ Below w.heap.size w w' := by
  go_enter Try.func19, Try.ntmps19
  go_wp2_with (first | (go_at_call 31; refine (valid_any _ _ _ _).mono ?_; rintro e w1 ⟨rfl, hb⟩; obtain ⟨hc, hf⟩ := bcell hb; have hz := hb.size; (try simp at hz); have z0 : w.heap.size < w1.heap.size := (by omega)) | (go_at_call 27; refine (held_any _ _ _ _ _).mono ?_; rintro e w1 ⟨rfl, hb⟩; obtain ⟨hc, hf⟩ := bcell hb; have hz := hb.size; (try simp at hz); have z0 : w.heap.size < w1.heap.size := (by omega)))
  all_goals go_ret
  all_goals refine ⟨ret_int ?_, ?_⟩
  all_goals first | ((repeat (first | with_reducible exact ext_refl _ | with_reducible refine ext_alloc ?_ _ | with_reducible refine ext_set ?_ (by omega) _ | with_reducible refine ext_drew ?_ | with_reducible refine ext_step ?_ (by assumption))); done) | skip
  all_goals (clear hc hf; simp_all [validB, heldB, holderI]; try omega)
theorem rholder_any (hd tk un now : Int) (w : World) : Calls Try.prog 20 #[lv hd tk un, .int .i64 now] w fun e w' => e = .returned (.int .i64 (holderI hd tk un now)) ∧ Below w.heap.size w w' := by
  go_enter Try.func20, Try.ntmps20
  go_wp2_with (first | (go_at_call 32; refine (rvalid_any _ _ _ _).mono ?_; rintro e w1 ⟨rfl, hb⟩; obtain ⟨hc, hf⟩ := bcell hb; have hz := hb.size; (try simp at hz); have z0 : w.heap.size < w1.heap.size := (by omega)))
  all_goals go_ret
  all_goals refine ⟨ret_int ?_, ?_⟩
  all_goals first | ((repeat (first | with_reducible exact ext_refl _ | with_reducible refine ext_alloc ?_ _ | with_reducible refine ext_set ?_ (by omega) _ | with_reducible refine ext_drew ?_ | with_reducible refine ext_step ?_ (by assumption))); done) | skip
  all_goals (clear hc hf; simp_all [validB, heldB, holderI]; try omega)
end Go.Proofs.Ytgegkemoefcdnaa
