/-
  Contracts of the exported functions of the packages lease and sheaveref49: each returns what the plain function of XLeasePlain computes, and changes nothing that was there.
-/
import Derived.Test.YtgegkemoefcdnaaLeaseWalk
namespace Go.Proofs.Ytgegkemoefcdnaa
open Go.RowKit
set_option linter.unusedSimpArgs false
set_option linter.unusedVariables false
set_option maxHeartbeats 2000000

theorem acquire_any (hd tk un who now ttl : Int) (w : World) (ht : I64 tk) (httl : ttl ≤ 9223372036854775807) :
    Calls Try.prog 11 #[lv hd tk un, .int .i64 who, .int .i64 now, .int .i64 ttl] w fun e w' =>
      e = .returned (.tuple #[lv (acq hd tk un who now ttl).1 (acq hd tk un who now ttl).2.1 (acq hd tk un who now ttl).2.2.1, .int .i64 (acq hd tk un who now ttl).2.2.2]) ∧ Below w.heap.size w w' := by
  go_enter Try.func11, Try.ntmps11
  go_wp2_with (first | (go_at_call 26; refine (checked_any _ _ _ _ _ _ _ _ httl).mono ?_; rintro e w1 ⟨rfl, hb⟩; obtain ⟨hc, hf⟩ := bcell hb; have hz := hb.size; (try simp at hz); have z0 : w.heap.size < w1.heap.size := (by omega); have z1 : w.heap.size + 1 < w1.heap.size := (by omega)) | (go_at_call 27; refine (held_any _ _ _ _ _).mono ?_; rintro e w1 ⟨rfl, hb⟩; obtain ⟨hc, hf⟩ := bcell hb; have hz := hb.size; (try simp at hz); have z0 : w.heap.size < w1.heap.size := (by omega); have z1 : w.heap.size + 1 < w1.heap.size := (by omega)) | (go_at_call 28; refine (extended_any _ _ _ _ _).mono ?_; rintro e w1 ⟨rfl, hb⟩; obtain ⟨hc, hf⟩ := bcell hb; have hz := hb.size; (try simp at hz); have z0 : w.heap.size < w1.heap.size := (by omega); have z1 : w.heap.size + 1 < w1.heap.size := (by omega)))
  all_goals refine bodyPost_ret (by simp [results, Try.results11, go_sem, *]; rfl) rfl ⟨?_, ?_⟩
  all_goals first | ((repeat (first | with_reducible exact ext_refl _ | with_reducible refine ext_alloc ?_ _ | with_reducible refine ext_set ?_ (by omega) _ | with_reducible refine ext_drew ?_ | with_reducible refine ext_step ?_ (by assumption))); done) | refine ret_l ?_
  · exact acq_1 ‹_›
  · exact acq_2 ‹_› ‹_› ‹_›
  · exact acq_3 ‹_› ‹_› ‹_›
  · exact acq_4 ‹_› ‹_› ‹_›
  · exact acq_5 ‹_› ‹_› ‹_› ht
theorem racquire_any (hd tk un who now ttl : Int) (w : World) (ht : I64 tk) (httl : ttl ≤ 9223372036854775807) :
    Calls Try.prog 12 #[lv hd tk un, .int .i64 who, .int .i64 now, .int .i64 ttl] w fun e w' =>
      e = .returned (.tuple #[lv (acq hd tk un who now ttl).1 (acq hd tk un who now ttl).2.1 (acq hd tk un who now ttl).2.2.1, .int .i64 (acq hd tk un who now ttl).2.2.2]) ∧ Below w.heap.size w w' := by
  go_enter Try.func12, Try.ntmps12
  go_wp2_with (first | (go_at_call 29; refine (rerror_any _ _ _ _ _ _ _ httl).mono ?_; rintro e w1 ⟨rfl, hb⟩; obtain ⟨hc, hf⟩ := bcell hb; have hz := hb.size; (try simp at hz); have z0 : w.heap.size < w1.heap.size := (by omega); have z1 : w.heap.size + 1 < w1.heap.size := (by omega)) | (go_at_call 20; refine (rholder_any _ _ _ _ _).mono ?_; rintro e w1 ⟨rfl, hb⟩; obtain ⟨hc, hf⟩ := bcell hb; have hz := hb.size; (try simp at hz); have z0 : w.heap.size < w1.heap.size := (by omega); have z1 : w.heap.size + 1 < w1.heap.size := (by omega)))
  all_goals refine bodyPost_ret (by simp [results, Try.results12, go_sem, *]; rfl) rfl ⟨?_, ?_⟩
  all_goals first | ((repeat (first | with_reducible exact ext_refl _ | with_reducible refine ext_alloc ?_ _ | with_reducible refine ext_set ?_ (by omega) _ | with_reducible refine ext_drew ?_ | with_reducible refine ext_step ?_ (by assumption))); done) | refine ret_l ?_
  · exact acq_1 ‹_›
  · exact racq_2 ‹_› ‹_› ‹_›
  · exact racq_3 ‹_› ‹_› ‹_› ht
  · exact racq_4 ‹_› ‹_› ‹_›
  · exact racq_5 ‹_› ‹_› ‹_› ‹_›
  · exact racq_6 ‹_› ‹_› ‹_› ‹_›
theorem owns_any (hd tk un who token now : Int) (w : World) : Calls Try.prog 30 #[lv hd tk un, .int .i64 who, .int .i64 token, .int .i64 now] w fun e w' => e = .returned (.bool (ownsB hd tk un who token now)) ∧ Below w.heap.size w w' := by
  go_enter Try.func30, Try.ntmps30
  go_wp2_with (first | (go_at_call 27; refine (held_any _ _ _ _ _).mono ?_; rintro e w1 ⟨rfl, hb⟩; obtain ⟨hc, hf⟩ := bcell hb; have hz := hb.size; (try simp at hz); have z0 : w.heap.size < w1.heap.size := (by omega)))
  all_goals go_ret
  all_goals refine ⟨ret_bool ?_, ?_⟩
  all_goals first | ((repeat (first | with_reducible exact ext_refl _ | with_reducible refine ext_alloc ?_ _ | with_reducible refine ext_set ?_ (by omega) _ | with_reducible refine ext_drew ?_ | with_reducible refine ext_step ?_ (by assumption))); done) | skip
  all_goals (clear hc hf; rw [Bool.eq_iff_iff]; simp_all [heldB, ownsB]; try omega)
theorem fence_any (seen token : Int) (w : World) : Calls Try.prog 13 #[.int .i64 seen, .int .i64 token] w fun e w' => e = .returned (.tuple #[.int .i64 (fen seen token).1, .int .i64 (fen seen token).2]) ∧ Below w.heap.size w w' := by
  go_enter Try.func13, Try.ntmps13
  go_wp2
  all_goals go_ret2
  all_goals refine ⟨ret_2 ?_, ?_⟩
  all_goals first | ((repeat (first | with_reducible exact ext_refl _ | with_reducible refine ext_alloc ?_ _ | with_reducible refine ext_set ?_ (by omega) _ | with_reducible refine ext_drew ?_ | with_reducible refine ext_step ?_ (by assumption))); done) | skip
  all_goals (unfold fen; split <;> first | (split <;> simp <;> omega) | (simp <;> omega))
theorem rfence_any (seen token : Int) (w : World) : Calls Try.prog 14 #[.int .i64 seen, .int .i64 token] w fun e w' => e = .returned (.tuple #[.int .i64 (fen seen token).1, .int .i64 (fen seen token).2]) ∧ Below w.heap.size w w' := by
  go_enter Try.func14, Try.ntmps14
  go_wp2
  all_goals go_ret2
  all_goals refine ⟨ret_2 ?_, ?_⟩
  all_goals first | ((repeat (first | with_reducible exact ext_refl _ | with_reducible refine ext_alloc ?_ _ | with_reducible refine ext_set ?_ (by omega) _ | with_reducible refine ext_drew ?_ | with_reducible refine ext_step ?_ (by assumption))); done) | skip
  all_goals (unfold fen; split <;> first | (split <;> simp <;> omega) | (simp <;> omega))
theorem renew_any (hd tk un who token now ttl : Int) (w : World) (httl : ttl ≤ 9223372036854775807) :
    Calls Try.prog 15 #[lv hd tk un, .int .i64 who, .int .i64 token, .int .i64 now, .int .i64 ttl] w fun e w' =>
      e = .returned (.tuple #[lv (ren hd tk un who token now ttl).1 (ren hd tk un who token now ttl).2.1 (ren hd tk un who token now ttl).2.2.1, .int .i64 (ren hd tk un who token now ttl).2.2.2]) ∧ Below w.heap.size w w' := by
  go_enter Try.func15, Try.ntmps15
  go_wp2_with (first | (go_at_call 26; refine (checked_any _ _ _ _ _ _ _ _ httl).mono ?_; rintro e w1 ⟨rfl, hb⟩; obtain ⟨hc, hf⟩ := bcell hb; have hz := hb.size; (try simp at hz); have z0 : w.heap.size < w1.heap.size := (by omega); have z1 : w.heap.size + 1 < w1.heap.size := (by omega)) | (go_at_call 30; refine (owns_any _ _ _ _ _ _ _).mono ?_; rintro e w1 ⟨rfl, hb⟩; obtain ⟨hc, hf⟩ := bcell hb; have hz := hb.size; (try simp at hz); have z0 : w.heap.size < w1.heap.size := (by omega); have z1 : w.heap.size + 1 < w1.heap.size := (by omega)) | (go_at_call 28; refine (extended_any _ _ _ _ _).mono ?_; rintro e w1 ⟨rfl, hb⟩; obtain ⟨hc, hf⟩ := bcell hb; have hz := hb.size; (try simp at hz); have z0 : w.heap.size < w1.heap.size := (by omega); have z1 : w.heap.size + 1 < w1.heap.size := (by omega)))
  all_goals refine bodyPost_ret (by simp [results, Try.results15, go_sem, *]; rfl) rfl ⟨?_, ?_⟩
  all_goals first | ((repeat (first | with_reducible exact ext_refl _ | with_reducible refine ext_alloc ?_ _ | with_reducible refine ext_set ?_ (by omega) _ | with_reducible refine ext_drew ?_ | with_reducible refine ext_step ?_ (by assumption))); done) | refine ret_l ?_
  · exact ren_1 ‹_›
  · exact ren_2 ‹_› ‹_›
  · exact ren_3 ‹_› ‹_›
theorem rrenew_any (hd tk un who token now ttl : Int) (w : World) (httl : ttl ≤ 9223372036854775807) :
    Calls Try.prog 16 #[lv hd tk un, .int .i64 who, .int .i64 token, .int .i64 now, .int .i64 ttl] w fun e w' =>
      e = .returned (.tuple #[lv (ren hd tk un who token now ttl).1 (ren hd tk un who token now ttl).2.1 (ren hd tk un who token now ttl).2.2.1, .int .i64 (ren hd tk un who token now ttl).2.2.2]) ∧ Below w.heap.size w w' := by
  go_enter Try.func16, Try.ntmps16
  go_wp2_with (first | (go_at_call 29; refine (rerror_any _ _ _ _ _ _ _ httl).mono ?_; rintro e w1 ⟨rfl, hb⟩; obtain ⟨hc, hf⟩ := bcell hb; have hz := hb.size; (try simp at hz); have z0 : w.heap.size < w1.heap.size := (by omega); have z1 : w.heap.size + 1 < w1.heap.size := (by omega)) | (go_at_call 20; refine (rholder_any _ _ _ _ _).mono ?_; rintro e w1 ⟨rfl, hb⟩; obtain ⟨hc, hf⟩ := bcell hb; have hz := hb.size; (try simp at hz); have z0 : w.heap.size < w1.heap.size := (by omega); have z1 : w.heap.size + 1 < w1.heap.size := (by omega)))
  all_goals refine bodyPost_ret (by simp [results, Try.results16, go_sem, *]; rfl) rfl ⟨?_, ?_⟩
  all_goals first | ((repeat (first | with_reducible exact ext_refl _ | with_reducible refine ext_alloc ?_ _ | with_reducible refine ext_set ?_ (by omega) _ | with_reducible refine ext_drew ?_ | with_reducible refine ext_step ?_ (by assumption))); done) | refine ret_l ?_
  · exact rren_1 ‹_›
  · exact rren_2 ‹_› ‹_›
  · exact rren_3 ‹_› ‹_› ‹_› ‹_›
  · exact rren_4 ‹_› ‹_› ‹_› ‹_› ‹_›
  · exact rren_5 ‹_› ‹_› ‹_› ‹_› ‹_›
  · exact rren_6 ‹_› ‹_› ‹_›
theorem release_any (hd tk un who token now : Int) (w : World) :
    Calls Try.prog 21 #[lv hd tk un, .int .i64 who, .int .i64 token, .int .i64 now] w fun e w' =>
      e = .returned (.tuple #[lv (rel hd tk un who token now).1 (rel hd tk un who token now).2.1 (rel hd tk un who token now).2.2.1, .int .i64 (rel hd tk un who token now).2.2.2]) ∧ Below w.heap.size w w' := by
  go_enter Try.func21, Try.ntmps21
  go_wp2_with (first | (go_at_call 31; refine (valid_any _ _ _ _).mono ?_; rintro e w1 ⟨rfl, hb⟩; obtain ⟨hc, hf⟩ := bcell hb; have hz := hb.size; (try simp at hz); have z0 : w.heap.size < w1.heap.size := (by omega); have z1 : w.heap.size + 1 < w1.heap.size := (by omega)) | (go_at_call 30; refine (owns_any _ _ _ _ _ _ _).mono ?_; rintro e w1 ⟨rfl, hb⟩; obtain ⟨hc, hf⟩ := bcell hb; have hz := hb.size; (try simp at hz); have z0 : w.heap.size < w1.heap.size := (by omega); have z1 : w.heap.size + 1 < w1.heap.size := (by omega)))
  all_goals refine bodyPost_ret (by simp [results, Try.results21, go_sem, *]; rfl) rfl ⟨?_, ?_⟩
  all_goals first | ((repeat (first | with_reducible exact ext_refl _ | with_reducible refine ext_alloc ?_ _ | with_reducible refine ext_set ?_ (by omega) _ | with_reducible refine ext_drew ?_ | with_reducible refine ext_step ?_ (by assumption))); done) | refine ret_l ?_
  · exact rel_1 ‹_›
  · exact rel_2 ‹_› ‹_›
  · exact rel_3 ‹_› ‹_› ‹_›
  · exact rel_4 ‹_› ‹_› ‹_›
  · exact rel_5 ‹_› ‹_›
  · exact rel_6 ‹_› ‹_›
theorem rrelease_any (hd tk un who token now : Int) (w : World) :
    Calls Try.prog 22 #[lv hd tk un, .int .i64 who, .int .i64 token, .int .i64 now] w fun e w' =>
      e = .returned (.tuple #[lv (rel hd tk un who token now).1 (rel hd tk un who token now).2.1 (rel hd tk un who token now).2.2.1, .int .i64 (rel hd tk un who token now).2.2.2]) ∧ Below w.heap.size w w' := by
  go_enter Try.func22, Try.ntmps22
  go_wp2_with (first | (go_at_call 32; refine (rvalid_any _ _ _ _).mono ?_; rintro e w1 ⟨rfl, hb⟩; obtain ⟨hc, hf⟩ := bcell hb; have hz := hb.size; (try simp at hz); have z0 : w.heap.size < w1.heap.size := (by omega); have z1 : w.heap.size + 1 < w1.heap.size := (by omega)) | (go_at_call 20; refine (rholder_any _ _ _ _ _).mono ?_; rintro e w1 ⟨rfl, hb⟩; obtain ⟨hc, hf⟩ := bcell hb; have hz := hb.size; (try simp at hz); have z0 : w.heap.size < w1.heap.size := (by omega); have z1 : w.heap.size + 1 < w1.heap.size := (by omega)))
  all_goals refine bodyPost_ret (by simp [results, Try.results22, go_sem, *]; rfl) rfl ⟨?_, ?_⟩
  all_goals first | ((repeat (first | with_reducible exact ext_refl _ | with_reducible refine ext_alloc ?_ _ | with_reducible refine ext_set ?_ (by omega) _ | with_reducible refine ext_drew ?_ | with_reducible refine ext_step ?_ (by assumption))); done) | refine ret_l ?_
  · exact rel_1 ‹_›
  · exact rrel_2 ‹_› ‹_›
  · exact rrel_3 ‹_› ‹_› ‹_› ‹_›
  · exact rrel_4 ‹_› ‹_› ‹_› ‹_›
  · exact rrel_5 ‹_› ‹_› ‹_›
  · exact rel_7 ‹_› ‹_›
  · exact rel_6 ‹_› ‹_›
theorem holds_any (hd tk un who token now margin : Int) (w : World) (hun : un ≤ 9223372036854775807) :
    Calls Try.prog 17 #[lv hd tk un, .int .i64 who, .int .i64 token, .int .i64 now, .int .i64 margin] w fun e w' => e = .returned (.bool (holdsB hd tk un who token now margin)) ∧ Below w.heap.size w w' := by
  go_enter Try.func17, Try.ntmps17
  go_wp2_with (first | (go_at_call 31; refine (valid_any _ _ _ _).mono ?_; rintro e w1 ⟨rfl, hb⟩; obtain ⟨hc, hf⟩ := bcell hb; have hz := hb.size; (try simp at hz); have z0 : w.heap.size < w1.heap.size := (by omega)) | (go_at_call 30; refine (owns_any _ _ _ _ _ _ _).mono ?_; rintro e w1 ⟨rfl, hb⟩; obtain ⟨hc, hf⟩ := bcell hb; have hz := hb.size; (try simp at hz); have z0 : w.heap.size < w1.heap.size := (by omega)))
  all_goals go_ret
  all_goals refine ⟨ret_bool ?_, ?_⟩
  all_goals first | ((repeat (first | with_reducible exact ext_refl _ | with_reducible refine ext_alloc ?_ _ | with_reducible refine ext_set ?_ (by omega) _ | with_reducible refine ext_drew ?_ | with_reducible refine ext_step ?_ (by assumption))); done) | skip
  · exact holds_1 ‹_› ‹_› ‹_› hun
  · exact holds_2 ‹_›
  · exact holds_3 ‹_›
  · exact holds_4 ‹_›
theorem rholds_any (hd tk un who token now margin : Int) (w : World) (hun : un ≤ 9223372036854775807) :
    Calls Try.prog 18 #[lv hd tk un, .int .i64 who, .int .i64 token, .int .i64 now, .int .i64 margin] w fun e w' => e = .returned (.bool (holdsB hd tk un who token now margin)) ∧ Below w.heap.size w w' := by
  go_enter Try.func18, Try.ntmps18
  go_wp2_with (first | (go_at_call 20; refine (rholder_any _ _ _ _ _).mono ?_; rintro e w1 ⟨rfl, hb⟩; obtain ⟨hc, hf⟩ := bcell hb; have hz := hb.size; (try simp at hz); have z0 : w.heap.size < w1.heap.size := (by omega)))
  all_goals go_ret
  all_goals refine ⟨ret_bool ?_, ?_⟩
  all_goals first | ((repeat (first | with_reducible exact ext_refl _ | with_reducible refine ext_alloc ?_ _ | with_reducible refine ext_set ?_ (by omega) _ | with_reducible refine ext_drew ?_ | with_reducible refine ext_step ?_ (by assumption))); done) | skip
  · exact rholds_1 ‹_› ‹_› ‹_› ‹_› hun
  · exact rholds_2 ‹_›
  · exact rholds_3 ‹_›
  · exact holds_3 ‹_›
  · exact rholds_5 ‹_›
end Go.Proofs.Ytgegkemoefcdnaa
