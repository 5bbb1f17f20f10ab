/- Rules of runs and contracts of functions, for the claims of one seat. -/
import Derived.Test.YtfnljcallbalgaaGreatDoorUA13
import Derived.Test.YtfnljcallbalgaaGreatDoorUA21
import Derived.Test.YtfnljcallbalgaaGreatDoorUA23
namespace Go.Proofs.YtfnljcallbalgaaGreatDoor
open Go Go.RowKit
set_option maxRecDepth 100000
set_option maxHeartbeats 8000000
set_option linter.unusedSimpArgs false
set_option linter.unusedVariables false
theorem apply0_fn (p : Prob) (m : MixD) (s : StepD) (h : ¬ mixErr p m = 0) : FnSound Tryz.prog 138 [.val true (probC p), .val true (mixC m), .val true (stepC s)] [] { vals := [(true, mixC nilM), (false, [.d (.v (.int .i64 (mixErr p m)))])] } := by
 refine startW (tm := [(0, _), (1, _), (2, _)]) Tryz.func138 rfl Tryz.ntmps138 rfl rfl rfl rfl ?_
 repeat' (first
 |(with_reducible refine K_ca 199 ?_); refine zC (mixValid_fn p m) ?_
 |(with_reducible refine K_ca 200 ?_); refine zC (stepValid_fn s) ?_
 |(with_reducible refine K_ca 201 ?_); refine zC (after_fn p m s (mixIn_of (by assumption)) (stepAt_of (by assumption) (by assumption)) (by omega)) ?_
 |refine wA ?_
 |(refine wC ?_ ?_ <;> intro hc)
 |refine wB ?_ ?_
 |(with_reducible refine JL.block ?_)
 |(with_reducible refine F_at ?_); refine eW (vs := [(_, _), (_, _)]) Tryz.results138 ?_; (focus (repeat' (first | exact oA | refine oB ?_ | refine oC ?_ ?_ | fail)))
 |exact oM
 |fail)
 all_goals first | rfl | exact absurd hc h | exact absurd (by assumption) h
theorem apply1_fn (p : Prob) (m : MixD) (s : StepD) (h : mixErr p m = 0) (hs : stepOK s = false) : FnSound Tryz.prog 138 [.val true (probC p), .val true (mixC m), .val true (stepC s)] [] { vals := [(true, mixC nilM), (false, [.d (.v (.int .i64 1))])] } := by
 have hv := stepValid_fn s
 rw [hs] at hv
 refine startW (tm := [(0, _), (1, _), (2, _)]) Tryz.func138 rfl Tryz.ntmps138 rfl rfl rfl rfl ?_
 repeat' (first
 |(with_reducible refine K_ca 199 ?_); refine zC (mixValidOK_fn h) ?_
 |(with_reducible refine K_ca 200 ?_); refine zC (hv) ?_
 |refine wA ?_
 |(refine wC ?_ ?_ <;> intro hc)
 |refine wB ?_ ?_
 |(with_reducible refine JL.block ?_)
 |(with_reducible refine F_at ?_); refine eW (vs := [(_, _), (_, _)]) Tryz.results138 ?_; (focus (repeat' (first | exact oA | refine oB ?_ | refine oC ?_ ?_ | fail)))
 |exact oM
 |fail)
 all_goals rfl
theorem apply2_fn (p : Prob) (m : MixD) (s : StepD) (h : mixErr p m = 0) (hs : stepOK s = true) (ht : thereB p s = false) : FnSound Tryz.prog 138 [.val true (probC p), .val true (mixC m), .val true (stepC s)] [] { vals := [(true, mixC nilM), (false, [.d (.v (.int .i64 4))])] } := by
 have hv := stepValid_fn s
 rw [hs] at hv
 have h2 : 0 ≤ s.idx := by simp only [stepOK, decide_eq_true_eq] at hs; omega
 have h3 : ¬ ((s.kind = 3 → s.idx < p.tabs.length) ∧ (¬ s.kind = 3 → s.idx < p.vs.length) ∧ (s.kind = 1 → s.ver < p.vs.getD s.idx.toNat 0)) := by
  intro ⟨a, b, c⟩
  have : thereB p s = true := by
   unfold thereB
   split
   ·simp; omega
   ·simp only [Bool.and_eq_true, Bool.or_eq_true, decide_eq_true_eq]
    by_cases k1 : s.kind = 1
    ·exact ⟨by omega, .inr (c k1)⟩
    ·exact ⟨by omega, .inl k1⟩
  rw [ht] at this; cases this
 refine startW (tm := [(0, _), (1, _), (2, _)]) Tryz.func138 rfl Tryz.ntmps138 rfl rfl rfl rfl ?_
 repeat' (first
 |(with_reducible refine K_ca 199 ?_); refine zC (mixValidOK_fn h) ?_
 |(with_reducible refine K_ca 200 ?_); refine zC (hv) ?_
 |refine wA ?_
 |(refine wC ?_ ?_ <;> intro hc)
 |refine wB ?_ ?_
 |(with_reducible refine JL.block ?_)
 |(with_reducible refine F_at ?_); refine eW (vs := [(_, _), (_, _)]) Tryz.results138 ?_; (focus (repeat' (first | exact oA | refine oB ?_ | refine oC ?_ ?_ | fail)))
 |exact oM
 |fail)
 all_goals first | rfl | (exfalso; omega)
theorem apply3_fn (p : Prob) (m : MixD) (s : StepD) (h : mixErr p m = 0) (hs : stepOK s = true) (ht : thereB p s = true) (hn : afterP p m s = none) : FnSound Tryz.prog 138 [.val true (probC p), .val true (mixC m), .val true (stepC s)] [] { vals := [(true, mixC nilM), (false, [.d (.v (.int .i64 11))])] } := by
 have hv := stepValid_fn s
 rw [hs] at hv
 have hk : 1 ≤ s.kind ∧ s.kind ≤ 4 := by simp only [stepOK, decide_eq_true_eq] at hs; omega
 have hat := stepAt_of hs ht
 have ha := after_fn p m s (mixIn_of h) hat hk
 rw [hn] at ha
 have h1 := hat.nn; have h2 := hat.tab; have h3 := hat.svc; have h4 := hat.ver
 refine startW (tm := [(0, _), (1, _), (2, _)]) Tryz.func138 rfl Tryz.ntmps138 rfl rfl rfl rfl ?_
 repeat' (first
 |(with_reducible refine K_ca 199 ?_); refine zC (mixValidOK_fn h) ?_
 |(with_reducible refine K_ca 200 ?_); refine zC (hv) ?_
 |(with_reducible refine K_ca 201 ?_); refine zC (ha) ?_
 |refine wA ?_
 |(refine wC ?_ ?_ <;> intro hc)
 |refine wB ?_ ?_
 |(with_reducible refine JL.block ?_)
 |(with_reducible refine F_at ?_); refine eW (vs := [(_, _), (_, _)]) Tryz.results138 ?_; (focus (repeat' (first | exact oA | refine oB ?_ | refine oC ?_ ?_ | fail)))
 |exact oM
 |fail)
 all_goals first | rfl | (exfalso; omega)
theorem apply4_fn (p : Prob) (m x : MixD) (s : StepD) (h : mixErr p m = 0) (hs : stepOK s = true) (ht : thereB p s = true) (hn : afterP p m s = some x) : FnSound Tryz.prog 138 [.val true (probC p), .val true (mixC m), .val true (stepC s)] [] { vals := [(true, mixC x), (false, [.d (.v (.int .i64 0))])] } := by
 have hv := stepValid_fn s
 rw [hs] at hv
 have hk : 1 ≤ s.kind ∧ s.kind ≤ 4 := by simp only [stepOK, decide_eq_true_eq] at hs; omega
 have hat := stepAt_of hs ht
 have ha := after_fn p m s (mixIn_of h) hat hk
 rw [hn] at ha
 have h1 := hat.nn; have h2 := hat.tab; have h3 := hat.svc; have h4 := hat.ver
 refine startW (tm := [(0, _), (1, _), (2, _)]) Tryz.func138 rfl Tryz.ntmps138 rfl rfl rfl rfl ?_
 repeat' (first
 |(with_reducible refine K_ca 199 ?_); refine zC (mixValidOK_fn h) ?_
 |(with_reducible refine K_ca 200 ?_); refine zC (hv) ?_
 |(with_reducible refine K_ca 201 ?_); refine zC (ha) ?_
 |refine wA ?_
 |(refine wC ?_ ?_ <;> intro hc)
 |refine wB ?_ ?_
 |(with_reducible refine JL.block ?_)
 |(with_reducible refine F_at ?_); refine eW (vs := [(_, _), (_, _)]) Tryz.results138 ?_; (focus (repeat' (first | exact oA | refine oB ?_ | refine oC ?_ ?_ | fail)))
 |exact oM
 |fail)
 all_goals first | rfl | (exfalso; omega)
theorem apply_fn (p : Prob) (m : MixD) (s : StepD) : FnSound Tryz.prog 138 [.val true (probC p), .val true (mixC m), .val true (stepC s)] [] { vals := [(true, mixC (applyP p m s).1), (false, [.d (.v (.int .i64 (applyP p m s).2))])] } := by
 unfold applyP
 by_cases h : mixErr p m = 0
 ·rw [if_neg (by simpa using h)]
  cases hs : stepOK s with
  | false => rw [if_pos rfl]; exact apply1_fn p m s h hs
  | true =>
   rw [if_neg (by decide)]
   cases ht : thereB p s with
   | false => rw [if_pos rfl]; exact apply2_fn p m s h hs ht
   | true =>
    rw [if_neg (by decide)]
    cases hn : afterP p m s with
    | none => exact apply3_fn p m s h hs ht hn
    | some x => exact apply4_fn p m x s h hs ht hn
 ·rw [if_pos h]; exact apply0_fn p m s h
def st1 (p : Prob) (m : MixD) (k : Nat) : List StepD := (List.range k).flatMap fun (kind : Nat) => (List.range (max p.vs.length p.tabs.length)).flatMap fun (i : Nat) => (List.range 6).flatMap fun (v : Nat) => if (applyP p m ⟨(kind : Int) + 1, i, v⟩).2 = 0 then [⟨(kind : Int) + 1, i, v⟩] else []
end Go.Proofs.YtfnljcallbalgaaGreatDoor

