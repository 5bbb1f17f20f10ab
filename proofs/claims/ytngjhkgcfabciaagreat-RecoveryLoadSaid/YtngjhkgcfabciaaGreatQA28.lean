/- Rules of runs and contracts of functions, for the claims of one seat. -/
import Derived.Test.YtngjhkgcfabciaaGreatQA13
import Derived.Test.YtngjhkgcfabciaaGreatQA15
import Derived.Test.YtngjhkgcfabciaaGreatQA26
import Derived.Test.YtngjhkgcfabciaaGreatQA27
namespace Go.Proofs.YtngjhkgcfabciaaGreat
open Go Go.RowKit
set_option maxRecDepth 100000
set_option maxHeartbeats 8000000
set_option linter.unusedSimpArgs false
set_option linter.unusedVariables false
theorem nextX_fn (p : Prob) (rs : List Int) (c : CtlD) (k tk rd rp vr tb : Int) (pa : Bool) (h : CtlK p c) (hk : ¬ k = 1 ∧ ¬ k = 2 ∧ ¬ k = 3 ∧ ¬ k = 4 ∧ ¬ k = 5 ∧ ¬ k = 6 ∧ ¬ k = 7) : FnSound Tryz.prog 25 [.val true (probC p), .val false [.d (.sl 1 (dInts rs))], .val true (ctlC c), .val true [.d (.v (.int .i64 k)), .d (.v (.int .i64 tk)), .d (.v (.int .i64 rd)), .d (.v (.int .i64 rp)), .d (.v (.int .i64 vr)), .d (.v (.bool pa)), .d (.v (.int .i64 tb))]] [] { vals := [(true, ctlC (nextP p rs c ⟨k, tk, rd, rp, vr, pa, tb⟩).1), (false, [.d (.sl 10 (dActs (nextP p rs c ⟨k, tk, rd, rp, vr, pa, tb⟩).2))])] } := by
 have e : nextP p rs c ⟨k, tk, rd, rp, vr, pa, tb⟩ = (c, []) := by unfold nextP; simp [hk]
 rw [e]
 refine startW (tm := [(0, _), (1, _), (2, _), (3, _)]) Tryz.func25 rfl Tryz.ntmps25 rfl rfl rfl rfl ?_
 repeat' (first
 |refine wA ?_
 |(refine wC ?_ ?_ <;> intro hc)
 |refine wB ?_ ?_
 |(with_reducible refine JL.block ?_)
 |(with_reducible refine F_at ?_); refine eW (vs := [(_, _), (_, _)]) Tryz.results25 ?_; (focus (repeat' (first | exact oA | refine oB ?_ | refine oC ?_ ?_ | fail)))
 |exact oM
 |fail)
 all_goals first | rfl | (exfalso; omega) | trace_state
theorem next_fn (p : Prob) (rs : List Int) (c : CtlD) (s : SigD) (h : CtlK p c) (hs : setErr p rs = 0) (hl : c.plan.length ≤ 1000000) (hrd : -1000000000 ≤ c.round ∧ c.round ≤ 1000000000) (hrp : -1000000000 ≤ c.replica ∧ c.replica ≤ 1000000000) : FnSound Tryz.prog 25 [.val true (probC p), .val false [.d (.sl 1 (dInts rs))], .val true (ctlC c), .val true (sigC s)] [] { vals := [(true, ctlC (nextP p rs c s).1), (false, [.d (.sl 10 (dActs (nextP p rs c s).2))])] } := by
 obtain ⟨k, tk, rd, rp, vr, pa, tb⟩ := s
 by_cases k1 : k = 1
 ·subst k1; exact next1_fn p rs c tk rd rp vr tb pa h hs hl hrd hrp
 by_cases k2 : k = 2
 ·subst k2; exact next2_fn p rs c tk rd rp vr tb pa h hs hl hrd hrp
 by_cases k3 : k = 3
 ·subst k3; exact next3_fn p rs c tk rd rp vr tb pa h hs hl hrd hrp
 by_cases k4 : k = 4
 ·subst k4; exact next4_fn p rs c tk rd rp vr tb pa h hs hl hrd hrp
 by_cases k5 : k = 5
 ·subst k5; exact next5_fn p rs c tk rd rp vr tb pa h hs hl hrd hrp
 by_cases k6 : k = 6
 ·subst k6; exact next6_fn p rs c tk rd rp vr tb pa h hs hl hrd hrp
 by_cases k7 : k = 7
 ·subst k7; exact next7_fn p rs c tk rd rp vr tb pa h hs hl hrd hrp
 exact nextX_fn p rs c k tk rd rp vr tb pa h ⟨k1, k2, k3, k4, k5, k6, k7⟩
theorem u8_div {n : Int} (h : 0 ≤ n ∧ n < 256) : (0 ≤ n.tdiv 32 ∧ n.tdiv 32 ≤ 7) ∧ (0 ≤ n.tdiv 128 ∧ n.tdiv 128 ≤ 1) ∧ (0 ≤ n.tmod 16 ∧ n.tmod 16 < 16) ∧ (0 ≤ n.tmod 4 ∧ n.tmod 4 < 4) := by
 rw [Int.tdiv_eq_ediv_of_nonneg h.1, Int.tdiv_eq_ediv_of_nonneg h.1, Int.tmod_eq_emod_of_nonneg h.1, Int.tmod_eq_emod_of_nonneg h.1]
 omega
theorem useful0_fn (c : CtlD) (n : Int) (hn : 0 ≤ n ∧ n < 256) (ht : c.token = 0) : FnSound Tryz.prog 11 [.val true (ctlC c), .val false [.d (.v (.int .u8 n))]] [] { vals := [(true, sigC (usefulP c n))] } := by
 obtain ⟨d1, d2, d3, d4⟩ := u8_div hn
 have e : usefulP c n = ⟨1, 1 + n.tdiv 32, 0, 0, 0, false, 0⟩ := by unfold usefulP; rw [if_pos ht]; rfl
 rw [e]
 refine startW (tm := [(0, _), (1, _)]) Tryz.func11 rfl Tryz.ntmps11 rfl rfl rfl rfl ?_
 repeat' (first
 |refine wA ?_
 |(refine wC ?_ ?_ <;> intro hc)
 |refine wB ?_ ?_
 |(with_reducible refine JL.block ?_)
 |(with_reducible refine F_at ?_); refine eW (vs := [(_, _)]) Tryz.results11 ?_; (focus (repeat' (first | exact oA | refine oB ?_ | refine oC ?_ ?_ | fail)))
 |exact oM
 |fail)
 all_goals first | rfl | (exfalso; omega) | (rw [wr_u8 (n := n.tdiv 32) ⟨by omega, by omega⟩, wrapI (n := n.tdiv 32) ⟨by omega, by omega⟩, wrapI (n := 1 + n.tdiv 32) ⟨by omega, by omega⟩]; done) | trace_state
theorem useful1_fn (p : Prob) (c : CtlD) (n : Int) (h : CtlK p c) (hl : c.plan.length ≤ 1000000) (hn : 0 ≤ n ∧ n < 256) (ht : ¬ c.token = 0) : FnSound Tryz.prog 11 [.val true (ctlC c), .val false [.d (.v (.int .u8 n))]] [] { vals := [(true, sigC (usefulP c n))] } := by
 obtain ⟨d1, d2, d3, d4⟩ := u8_div hn
 have hr := h.rng
 have hlt := h.lt
 have hbu := h.busy
 have hps := h.phs
 have hb1 : c.phase = 1 ∨ c.phase = 3 → 0 ≤ c.at_ ∧ c.at_ < c.plan.length ∧ 0 ≤ (c.plan.getD c.at_.toNat nilS).idx ∧ (c.plan.getD c.at_.toNat nilS).idx < c.mix.base.length ∧ (c.plan.getD c.at_.toNat nilS).idx < c.mix.next.length := fun a => by
  have := hbu (by omega); have := hlt (by omega); omega
 have e : usefulP c n = if n.tmod 16 = 12 then ⟨3, 0, 0, 0, 0, false, 0⟩ else if n.tmod 16 = 13 then ⟨2, 0, 0, 0, 0, false, 0⟩ else if n.tmod 16 = 14 then ⟨1, w64 (c.token + n.tdiv 128), 0, 0, 0, false, 0⟩
     else if c.phase = 1 ∨ c.phase = 3 then ⟨4, 0, (if n.tmod 16 = 15 then w64 (c.round - 1) else c.round), c.replica, wantedP c, false, 0⟩
     else if c.phase = 2 then ⟨5, 0, (if n.tmod 16 = 15 then w64 (c.round - 1) else c.round), 0, 0, !decide (n.tmod 4 = 3), 0⟩
     else if c.phase = 4 then ⟨6, 0, (if n.tmod 16 = 15 then w64 (c.round - 1) else c.round), 0, 0, false, (c.plan.getD c.at_.toNat nilS).idx⟩
     else if c.phase = 5 then ⟨7, 0, 0, 0, 0, false, 0⟩ else ⟨3, 0, 0, 0, 0, false, 0⟩ := by unfold usefulP; rw [if_neg ht]; rfl
 rw [e]
 clear hbu e h
 generalize hlate : (if n.tmod 16 = 15 then w64 (c.round - 1) else c.round) = late
 refine startW (tm := [(0, _), (1, _)]) Tryz.func11 rfl Tryz.ntmps11 rfl rfl rfl rfl ?_
 repeat' (first
 |((with_reducible refine cond_at (t := 18) ?_); (refine JL.cutW 602 (fun tm => (5, .one false [.d (.v (.int .i64 (late)))]) :: tm) (fun bo => bo) ?_ ?_))
 |((with_reducible refine AtJ.mk rfl ?_); (focus (apply SubW [] rfl ?_ ?_ rfl ?_; (repeat' (first | exact kA | refine kB ?_ | refine kC ?_ ?_ | exact kD | fail)))))
 |(with_reducible refine K_ca 26 ?_); refine zC (wanted_fn c (by omega) (by omega)) ?_
 |refine wA ?_
 |(refine wC ?_ ?_ <;> intro hc)
 |refine wB ?_ ?_
 |(with_reducible refine JL.block ?_)
 |(with_reducible refine F_at ?_); refine eW (vs := [(_, _)]) Tryz.results11 ?_; (focus (repeat' (first | exact oA | refine oB ?_ | refine oC ?_ ?_ | fail)))
 |exact oM
 |fail)
 all_goals first
  | (rw [← hlate, if_pos hc]; rfl)
  | (rw [← hlate, if_neg hc]; done)
  | (clear hlt hb1; (repeat' split) <;> first | rfl | (exfalso; omega) | (rw [wr_u8 (n := n.tdiv 128) ⟨by omega, by omega⟩, wrapI (n := n.tdiv 128) ⟨by omega, by omega⟩]; rfl) | (simp; done))
  | trace_state
end Go.Proofs.YtngjhkgcfabciaaGreat

