/- Rules of runs and contracts of functions, for the claims of one seat. -/
import Derived.Test.YtngjhkgcfabciaaGreatQA15
import Derived.Test.YtngjhkgcfabciaaGreatQA17
import Derived.Test.YtngjhkgcfabciaaGreatQA18
import Derived.Test.YtngjhkgcfabciaaGreatQA19
namespace Go.Proofs.YtngjhkgcfabciaaGreat
open Go Go.RowKit
set_option maxRecDepth 100000
set_option maxHeartbeats 8000000
set_option linter.unusedSimpArgs false
set_option linter.unusedVariables false
structure Few (m : MixD) : Prop where
 lb : m.base.length ≤ 12
 ln : m.next.length ≤ 12
 lh : m.held.length ≤ 12
theorem MixIn.few {p : Prob} {m : MixD} (h : MixIn p m) : Few m := by
 have h1 := vp_all h.vp
 have := h.lb; have := h.ln; have := h.lh
 exact ⟨by omega, by omega, by omega⟩
theorem copied_fn (m : MixD) (hf : Few m) : FnSound Tryz.prog 99 [.val true (mixC m)] [] { vals := [(true, [.own (192, 200), .own (448, 200), .own (704, 200)])], bx := [((192, 200), .sl 3 1 (dInts m.base)), ((448, 200), .sl 3 1 (dInts m.next)), ((704, 200), .sl 146 1 (dSets m.held))] } := by
 obtain ⟨h1, h2, h3⟩ := hf
 refine startO (tm := [(0, _)]) [] Tryz.func99 rfl Tryz.ntmps99 rfl rfl rfl rfl ?_
 repeat' (first
 |refine wA ?_
 |(refine wC ?_ ?_ <;> intro hc)
 |refine wB ?_ ?_
 |(with_reducible refine JL.block ?_)
 |(with_reducible refine FO_at ?_); refine eO (vs := [(_, _)]) Tryz.results99 ?_
 |exact oM
 |fail)
 kernel_rfl
theorem all_fn (m : MixD) (hf : Few m) : FnSound Tryz.prog 75 [.val true (mixC m)] [] { vals := [(false, [.d (.sl 3 (dMixes (allP m)))])] } := by
 have hf' := hf
 obtain ⟨h1, h2, h3⟩ := hf
 have hop : ∀ i, openN (m.next.take i) ≤ i := fun i => Nat.le_trans (openN_le _) (by rw [List.length_take]; omega)
 have hon := openN_le m.next
 have hpw := @pow_open
 refine startW (tm := [(0, _)]) Tryz.func75 rfl Tryz.ntmps75 rfl rfl rfl rfl ?_
 repeat' (first
 |(with_reducible refine rgn 5 500 ?_ ?_); exact rfl
 |(with_reducible refine rgn 6 600 ?_ ?_); exact rfl
 |(with_reducible refine rgn 4 700 ?_ ?_); exact rfl
 |(with_reducible refine rgn 11 1100 ?_ ?_); exact rfl
 |(with_reducible refine rgn 12 1200 ?_ ?_); exact rfl
 |(with_reducible refine rgn 13 1300 ?_ ?_); exact rfl
 |(with_reducible refine rgn 14 1400 ?_ ?_); exact rfl
 |(with_reducible refine rgn 16 1500 ?_ ?_); exact rfl
 |(with_reducible refine rgn 17 1600 ?_ ?_); exact rfl
 |(with_reducible refine rgn 18 1700 ?_ ?_); exact rfl
 |(with_reducible refine rgn 19 1800 ?_ ?_); exact rfl
 |(with_reducible refine rgn 15 1900 ?_ ?_); exact rfl
 |(with_reducible refine reg_at (id := 20) ?_); (try (refine JL.shutBW (cs2 := [_, _, _]) (128, 1100) 0 rfl rfl rfl rfl ?_)); (try (refine JL.shutBW (cs2 := [_, _, _]) (128, 1100) 1 rfl rfl rfl rfl ?_)); (try (refine JL.shutBW (cs2 := [_, _, _]) (128, 1100) 2 rfl rfl rfl rfl ?_)); (with_reducible refine rgn 20 2000 ?_ ?_); exact rfl
 |(with_reducible refine rgn 10 2100 ?_ ?_); exact rfl
 |(with_reducible refine K_ca 99 ?_); refine W.callM 64 65 66 rfl rfl rfl rfl rfl BoC.h (copied_fn m hf') rfl rfl ?_
 |(with_reducible refine blk_at (id := 0) ?_); ((with_reducible refine JL.loopW 0 399 (fun (i : Nat) tm => (4, .one false [.d (.v (.int .i64 ((i : Int))))]) :: (3, .one false [.d (.v (.int .i64 (((openN (m.next.take i) : Nat) : Int))))]) :: tm) (fun (i : Nat) bo => bo) (fun (i : Nat) => i ≤ m.next.length) (fun (i : Nat) => m.next.length - i) (0) ?_ (fun i hi => have ho := hop i; ?_) ?_); (focus (apply SubW [] rfl ?_ ?_ rfl ?_; (repeat' (first | exact kA | refine kB ?_ | refine kC ?_ ?_ | exact kD | fail)))))
 |((with_reducible refine round_next (i := i) (i + 1) ?_ ?_ ?_); (focus (apply SubW [] rfl ?_ ?_ rfl ?_; (repeat' (first | exact kA | refine kB ?_ | refine kC ?_ ?_ | exact kD | fail)))))
 |(with_reducible refine blk_at (id := 2) ?_); (try (refine JL.zeroW 5 _ 45 3 rfl rfl ?_)); (refine JL.rekW 5 (1080, 951) rfl rfl rfl rfl ?_); ((with_reducible refine JL.loopW 2 999 (fun (k : Nat) tm => (6, .one false [.d (.v (.int .i64 ((k : Int))))]) :: (5, .one false [.own (1080, 951)]) :: tm) (fun (k : Nat) bo => ((1080, 951), some (.sl 45 3 ((dMixes ((List.range k).map (abM m)))))) :: bo) (fun (k : Nat) => k ≤ 2 ^ openN (m.next.take i) ∧ m.next.length ≤ i) (fun (k : Nat) => 2 ^ openN (m.next.take i) - k) (0) ?_ (fun k hk => have hp2 := pow_open (n := openN (m.next.take i)) (by have := hop i; omega); ?_) ?_); (focus (apply SubW [((1080, 951), _)] rfl ?_ ?_ rfl ?_; (repeat' (first | exact kA | refine kB ?_ | refine kC ?_ ?_ | exact kD | fail)))))
 |((with_reducible refine round_next (i := k) (k + 1) ?_ ?_ ?_); (focus (apply SubW [((1080, 951), _)] rfl ?_ ?_ rfl ?_; (repeat' (first | exact kA | refine kB ?_ | refine kC ?_ ?_ | exact kD | fail)))))
 |(with_reducible refine blk_at (id := 4) ?_); (try (refine JL.zeroBW (cs2 := [_, _, _]) (128, 1100) 0 _ 3 1 rfl rfl rfl rfl ?_)); (refine JL.rekBW (cs2 := [_, _, _]) (128, 1100) 0 (1112, 1351) rfl rfl rfl rfl rfl rfl ?_); (try (refine JL.zeroBW (cs2 := [_, _, _]) (128, 1100) 1 _ 3 1 rfl rfl rfl rfl ?_)); (refine JL.rekBW (cs2 := [_, _, _]) (128, 1100) 1 (1113, 1353) rfl rfl rfl rfl rfl rfl ?_); (try (refine JL.zeroBW (cs2 := [_, _, _]) (128, 1100) 2 _ 146 1 rfl rfl rfl rfl ?_)); (refine JL.rekBW (cs2 := [_, _, _]) (128, 1100) 2 (1114, 1355) rfl rfl rfl rfl rfl rfl ?_); ((with_reducible refine JL.loopW 4 1399 (fun (j : Nat) tm => (9, .one false [.d (.v (.int .i64 ((j : Int))))]) :: (8, .one false [.d (.v (.int .i64 (((openN (m.next.take j) : Nat) : Int))))]) :: tm) (fun (j : Nat) bo => ((128, 1100), some (.st 45 [.own (1112, 1351), .own (1113, 1353), .own (1114, 1355)])) :: ((1112, 1351), some (.sl 3 1 ((dInts m.base)))) :: ((1113, 1353), some (.sl 3 1 ((dInts (abw m.next k j))))) :: ((1114, 1355), some (.sl 146 1 ((dSets m.held)))) :: bo) (fun (j : Nat) => j ≤ m.next.length) (fun (j : Nat) => m.next.length - j) (0) ?_ (fun j hj => have ho2 := hop j; have hal := abw_len (l := m.next) (k := k) (i := j) hj; ?_) ?_); (focus (apply SubW [((1112, 1351), _), ((1113, 1353), _), ((1114, 1355), _)] rfl ?_ ?_ rfl ?_; (repeat' (first | exact kA | refine kB ?_ | refine kC ?_ ?_ | exact kD | fail)))))
 |((with_reducible refine round_next (i := j) (j + 1) ?_ ?_ ?_); (focus (apply SubW [((1112, 1351), _), ((1113, 1353), _), ((1114, 1355), _)] rfl ?_ ?_ rfl ?_; (repeat' (first | exact kA | refine kB ?_ | refine kC ?_ ?_ | exact kD | fail)))))
 |refine wA ?_
 |(refine wC ?_ ?_ <;> intro hc)
 |refine wB ?_ ?_
 |(with_reducible refine JL.block ?_)
 |(with_reducible refine F_at ?_); refine eW (vs := [(_, _)]) Tryz.results75 ?_; (focus (repeat' (first | exact oA | refine oB ?_ | refine oC ?_ ?_ | fail)))
 |exact oM
 |fail)
 all_goals first
  | rfl
  | (rw [openN_step (by omega), if_pos (by omega)]; rfl)
  | (rw [openN_step (by omega), if_neg (by omega)]; rfl)
  | (rw [abw_keep (by omega) (by omega)])
  | (rw [abw_keep (by omega) (fun h => hc (shr_mod.2 h.2))])
  | (rw [Int.toNat_natCast, abw_set (by omega) ⟨by omega, shr_mod.1 hc⟩])
  | (rw [abw_all (by omega), List.range_succ, List.map_append]; rfl)
  | (have e : k = 2 ^ openN m.next := by
       rw [hp2.1, take_len (by omega)] at hc
       have := hk.1
       rw [take_len (by omega)] at this
       omega
     rw [e]; rfl)
  | exact ⟨Nat.zero_le _, by omega⟩
  | (refine ⟨?_, hk.2⟩; have := hp2.1; omega)
  | (have := hp2.1; omega)
end Go.Proofs.YtngjhkgcfabciaaGreat

namespace Go.Proofs.YtngjhkgcfabciaaGreat
open Go Go.RowKit
set_option maxRecDepth 100000
set_option maxHeartbeats 8000000
set_option linter.unusedSimpArgs false
set_option linter.unusedVariables false
theorem safe_fn (p : Prob) (m : MixD) (hm : MixIn p m) : FnSound Tryz.prog 76 [.val true (probC p), .val true (mixC m)] [] { vals := [(false, [.d (.v (.bool (safeP p m)))])] } := by
 refine startW (tm := [(0, _), (1, _)]) Tryz.func76 rfl Tryz.ntmps76 rfl rfl rfl rfl ?_
 repeat' (first
 |(with_reducible refine K_ca 100 ?_); refine zC (found_fn p m hm) ?_
 |refine wA ?_
 |(refine wC ?_ ?_ <;> intro hc)
 |refine wB ?_ ?_
 |(with_reducible refine JL.block ?_)
 |(with_reducible refine F_at ?_); refine eW (vs := [(_, _)]) Tryz.results76 ?_; (focus (repeat' (first | exact oA | refine oB ?_ | refine oC ?_ ?_ | fail)))
 |exact oM
 |fail)
 unfold safeP; cases foundP p m <;> simp <;> omega
theorem robust_fn (p : Prob) (m : MixD) (hm : MixIn p m) : FnSound Tryz.prog 43 [.val true (probC p), .val true (mixC m)] [] { vals := [(false, [.d (.v (.bool (robustP p m)))])] } := by
 have hal : (allP m).length ≤ 4096 := by
  have h1 := openN_le m.next
  have h2 := hm.few.ln
  have h3 := (pow_open (n := openN m.next) (by omega)).2.1
  rw [allP_len]; omega
 have hin : ∀ k, MixIn p ((allP m).getD k nilM) ∨ ¬ k < (allP m).length := fun k => by
  by_cases hk : k < (allP m).length
  ·left; rw [allP_get hk]; exact abM_in hm k
  ·exact .inr hk
 refine startW (tm := [(0, _), (1, _)]) Tryz.func43 rfl Tryz.ntmps43 rfl rfl rfl rfl ?_
 repeat' (first
 |(with_reducible refine rgn 5 500 ?_ ?_); exact rfl
 |(with_reducible refine rgn 6 600 ?_ ?_); exact rfl
 |(with_reducible refine rgn 4 700 ?_ ?_); exact rfl
 |(with_reducible refine K_ca 75 ?_); refine zC (all_fn m hm.few) ?_
 |(with_reducible refine K_ca 76 ?_); refine zC (safe_fn p ((allP m).getD k nilM) ((hin k).resolve_right (by omega))) ?_
 |(with_reducible refine blk_at (id := 0) ?_); ((with_reducible refine JL.loopW 0 399 (fun (k : Nat) tm => (6, .one false [.d (.v (.int .i64 ((k : Int))))]) :: tm) (fun (k : Nat) bo => bo) (fun (k : Nat) => k ≤ (allP m).length ∧ ∀ j, j < k → safeP p ((allP m).getD j nilM) = true) (fun (k : Nat) => (allP m).length - k) (0) ?_ (fun k hk => ?_) ?_); (focus (apply SubW [] rfl ?_ ?_ rfl ?_; (repeat' (first | exact kA | refine kB ?_ | refine kC ?_ ?_ | exact kD | fail)))))
 |((with_reducible refine round_next (i := k) (k + 1) ?_ ?_ ?_); (focus (apply SubW [] rfl ?_ ?_ rfl ?_; (repeat' (first | exact kA | refine kB ?_ | refine kC ?_ ?_ | exact kD | fail)))))
 |refine wA ?_
 |(refine wC ?_ ?_ <;> intro hc)
 |refine wB ?_ ?_
 |(with_reducible refine JL.block ?_)
 |(with_reducible refine F_at ?_); refine eW (vs := [(_, _)]) Tryz.results43 ?_; (focus (repeat' (first | exact oA | refine oB ?_ | refine oC ?_ ?_ | fail)))
 |exact oM
 |fail)
 all_goals first
  | (rw [all_unsafe (k := k) (by omega) (by simpa using hc)])
  | exact ⟨by omega, fun j hj => by omega⟩
  | (refine ⟨by omega, fun j hj => ?_⟩; by_cases e : j = k; (subst e; simpa using hc); exact hk.2 j (by omega))
  | (rw [all_safe hk.2 (by omega)])
theorem aborts0_fn (p : Prob) (m : MixD) (h : ¬ mixErr p m = 0) : FnSound Tryz.prog 116 [.val true (probC p), .val true (mixC m)] [] { vals := [(false, [.d (.sl 3 (dMixes []))]), (false, [.d (.v (.int .i64 (mixErr p m)))])] } := by
 refine startW (tm := [(0, _), (1, _)]) Tryz.func116 rfl Tryz.ntmps116 rfl rfl rfl rfl ?_
 repeat' (first
 |(with_reducible refine K_ca 80 ?_); refine zC (mixValid_fn p m) ?_
 |refine wA ?_
 |(refine wC ?_ ?_ <;> intro hc)
 |refine wB ?_ ?_
 |(with_reducible refine JL.block ?_)
 |(with_reducible refine F_at ?_); refine eW (vs := [(_, _), (_, _)]) Tryz.results116 ?_; (focus (repeat' (first | exact oA | refine oB ?_ | refine oC ?_ ?_ | fail)))
 |exact oM
 |fail)
 all_goals first | rfl | exact absurd hc h
theorem aborts_fn (p : Prob) (m : MixD) (h : mixErr p m = 0) : FnSound Tryz.prog 116 [.val true (probC p), .val true (mixC m)] [] { vals := [(false, [.d (.sl 3 (dMixes (allP m)))]), (false, [.d (.v (.int .i64 0))])] } := by
 refine startW (tm := [(0, _), (1, _)]) Tryz.func116 rfl Tryz.ntmps116 rfl rfl rfl rfl ?_
 repeat' (first
 |(with_reducible refine K_ca 80 ?_); refine zC (mixValidOK_fn h) ?_
 |(with_reducible refine K_ca 75 ?_); refine zC (all_fn m (mixIn_of h).few) ?_
 |refine wA ?_
 |(refine wC ?_ ?_ <;> intro hc)
 |refine wB ?_ ?_
 |(with_reducible refine JL.block ?_)
 |(with_reducible refine F_at ?_); refine eW (vs := [(_, _), (_, _)]) Tryz.results116 ?_; (focus (repeat' (first | exact oA | refine oB ?_ | refine oC ?_ ?_ | fail)))
 |exact oM
 |fail)
 all_goals rfl
theorem blame0_fn (p : Prob) (m : MixD) (h : ¬ mixErr p m = 0) : FnSound Tryz.prog 104 [.val true (probC p), .val true (mixC m)] [] { vals := [(true, mixC (blameP p m).1), (true, confC (blameP p m).2.1), (false, [.d (.v (.int .i64 (blameP p m).2.2))])] } := by
 have e : blameP p m = (nilM, ⟨0, 0, 0⟩, mixErr p m) := by unfold blameP; rw [if_pos h]
 rw [e]
 refine startW (tm := [(0, _), (1, _)]) Tryz.func104 rfl Tryz.ntmps104 rfl rfl rfl rfl ?_
 repeat' (first
 |(with_reducible refine rgn 7 700 ?_ ?_); exact rfl
 |(with_reducible refine rgn 8 800 ?_ ?_); exact rfl
 |(with_reducible refine rgn 9 900 ?_ ?_); exact rfl
 |(with_reducible refine rgn 6 1000 ?_ ?_); exact rfl
 |(with_reducible refine K_ca 116 ?_); refine zC (aborts0_fn p m h) ?_
 |refine wA ?_
 |(refine wC ?_ ?_ <;> intro hc)
 |refine wB ?_ ?_
 |(with_reducible refine JL.block ?_)
 |(with_reducible refine F_at ?_); refine eW (vs := [(_, _), (_, _), (_, _)]) Tryz.results104 ?_; (focus (repeat' (first | exact oA | refine oB ?_ | refine oC ?_ ?_ | fail)))
 |exact oM
 |fail)
 all_goals first | rfl | exact absurd hc h
theorem blame_fn (p : Prob) (m : MixD) (h : mixErr p m = 0) : FnSound Tryz.prog 104 [.val true (probC p), .val true (mixC m)] [] { vals := [(true, mixC (blameP p m).1), (true, confC (blameP p m).2.1), (false, [.d (.v (.int .i64 (blameP p m).2.2))])] } := by
 have hm := mixIn_of h
 have hal : (allP m).length ≤ 4096 := by
  have h1 := openN_le m.next
  have h2 := hm.few.ln
  have h3 := (pow_open (n := openN m.next) (by omega)).2.1
  rw [allP_len]; omega
 have hin : ∀ k, MixIn p ((allP m).getD k nilM) ∨ ¬ k < (allP m).length := fun k => by
  by_cases hk : k < (allP m).length
  ·left; rw [allP_get hk]; exact abM_in hm k
  ·exact .inr hk
 have e : blameP p m = blameL p (allP m) := by unfold blameP; rw [if_neg (by simpa using h)]
 rw [e]
 refine startW (tm := [(0, _), (1, _)]) Tryz.func104 rfl Tryz.ntmps104 rfl rfl rfl rfl ?_
 repeat' (first
 |(with_reducible refine rgn 7 700 ?_ ?_); exact rfl
 |(with_reducible refine rgn 8 800 ?_ ?_); exact rfl
 |(with_reducible refine rgn 9 900 ?_ ?_); exact rfl
 |(with_reducible refine rgn 6 1000 ?_ ?_); exact rfl
 |(with_reducible refine K_ca 116 ?_); refine zC (aborts_fn p m h) ?_
 |(with_reducible refine K_ca 100 ?_); refine zC (found_fn p ((allP m).getD k nilM) ((hin k).resolve_right (by omega))) ?_
 |(with_reducible refine blk_at (id := 0) ?_); ((with_reducible refine JL.loopW 0 599 (fun (k : Nat) tm => (9, .one false [.d (.v (.int .i64 ((k : Int))))]) :: tm) (fun (k : Nat) bo => bo) (fun (k : Nat) => k ≤ (allP m).length ∧ ∀ j, j < k → foundP p ((allP m).getD j nilM) = []) (fun (k : Nat) => (allP m).length - k) (0) ?_ (fun k hk => ?_) ?_); (focus (apply SubW [] rfl ?_ ?_ rfl ?_; (repeat' (first | exact kA | refine kB ?_ | refine kC ?_ ?_ | exact kD | fail)))))
 |((with_reducible refine round_next (i := k) (k + 1) ?_ ?_ ?_); (focus (apply SubW [] rfl ?_ ?_ rfl ?_; (repeat' (first | exact kA | refine kB ?_ | refine kC ?_ ?_ | exact kD | fail)))))
 |refine wA ?_
 |(refine wC ?_ ?_ <;> intro hc)
 |refine wB ?_ ?_
 |(with_reducible refine JL.block ?_)
 |(with_reducible refine F_at ?_); refine eW (vs := [(_, _), (_, _), (_, _)]) Tryz.results104 ?_; (focus (repeat' (first | exact oA | refine oB ?_ | refine oC ?_ ?_ | fail)))
 |exact oM
 |fail)
 all_goals first
  | (have hb := blameL_at (l := allP m) (k := k) (by omega) hk.2 (by intro h; rw [h] at hc; simp at hc); rw [hb] <;> rfl)
  | (have hb := blameL_no (l := allP m) (k := k) (by omega) hk.2; rw [hb] <;> rfl)
  | (refine ⟨by omega, fun j hj => ?_⟩; omega)
  | (refine ⟨by omega, fun j hj => ?_⟩; by_cases e : j = k; (subst e; exact List.eq_nil_of_length_eq_zero (by omega)); exact hk.2 j (by omega))
theorem goal_bad {p : Prob} {m : MixD} (h : ¬ mixErr p m = 0) : goalP p m = false := by unfold goalP; simp [h]
theorem goal_no {p : Prob} {m : MixD} {k : Nat} (hk : k < m.base.length) (h : goalI p m k = false) : goalP p m = false := by unfold goalP; rw [range_no hk h, Bool.and_false]
theorem goal_yes {p : Prob} {m : MixD} {k : Nat} (h : mixErr p m = 0) (h0 : ∀ j, j < k → goalI p m j = true) (hk : m.base.length ≤ k) : goalP p m = true := by
 unfold goalP
 rw [decide_eq_true h, Bool.true_and, List.all_eq_true]
 exact fun j hj => h0 j (by have := List.mem_range.1 hj; omega)
theorem goal_fn (p : Prob) (m : MixD) : FnSound Tryz.prog 81 [.val true (probC p), .val true (mixC m)] [] { vals := [(false, [.d (.v (.bool (goalP p m)))])] } := by
 refine startW (tm := [(0, _), (1, _)]) Tryz.func81 rfl Tryz.ntmps81 rfl rfl rfl rfl ?_
 repeat' (first
 |(with_reducible refine rgn 6 600 ?_ ?_); exact rfl
 |(with_reducible refine rgn 7 700 ?_ ?_); exact rfl
 |(with_reducible refine rgn 5 800 ?_ ?_); exact rfl
 |(with_reducible refine K_ca 80 ?_); refine zC (mixValid_fn p m) ?_
 |(with_reducible refine blk_at (id := 0) ?_); ((with_reducible refine JL.loopW 0 499 (fun (k : Nat) tm => (5, .one false [.d (.v (.int .i64 ((k : Int))))]) :: tm) (fun (k : Nat) bo => bo) (fun (k : Nat) => k ≤ m.base.length ∧ ∀ j, j < k → goalI p m j = true) (fun (k : Nat) => m.base.length - k) (0) ?_ (fun k hk => have hin := mixIn_of (p := p) (m := m) (by assumption); have h1 := hin.lb; have h2 := hin.ln; have hvp := vp_all hin.vp; ?_) ?_); (focus (apply SubW [] rfl ?_ ?_ rfl ?_; (repeat' (first | exact kA | refine kB ?_ | refine kC ?_ ?_ | exact kD | fail)))))
 |((with_reducible refine round_next (i := k) (k + 1) ?_ ?_ ?_); (focus (apply SubW [] rfl ?_ ?_ rfl ?_; (repeat' (first | exact kA | refine kB ?_ | refine kC ?_ ?_ | exact kD | fail)))))
 |refine wA ?_
 |(refine wC ?_ ?_ <;> intro hc)
 |refine wB ?_ ?_
 |(with_reducible refine JL.block ?_)
 |(with_reducible refine F_at ?_); refine eW (vs := [(_, _)]) Tryz.results81 ?_; (focus (repeat' (first | exact oA | refine oB ?_ | refine oC ?_ ?_ | fail)))
 |exact oM
 |fail)
 all_goals first
  | exact (goal_bad hc).symm
  | exact (goal_no (k := k) (by omega) (by simp only [goalI]; grind)).symm
  | exact (goal_yes (by assumption) hk.2 (by omega)).symm
  | exact ⟨Nat.zero_le _, fun j hj => absurd hj (Nat.not_lt_zero j)⟩
  | (refine ⟨by omega, fun j hj => ?_⟩; by_cases e : j = k; (subst e; simp only [goalI]; grind); exact hk.2 j (by omega))
theorem ints_fn (a b : List Int) (ha : a.length ≤ 1000) : FnSound Tryz.prog 72 [.val false [.d (.sl 1 (dInts a))], .val false [.d (.sl 1 (dInts b))]] [] { vals := [(false, [.d (.v (.int .i64 (cmpL a b)))])] } := by
 refine startW (tm := [(0, _), (1, _)]) Tryz.func72 rfl Tryz.ntmps72 rfl rfl rfl rfl ?_
 repeat' (first
 |(with_reducible refine rgn 4 400 ?_ ?_); exact rfl
 |(with_reducible refine rgn 5 500 ?_ ?_); exact rfl
 |(with_reducible refine rgn 6 600 ?_ ?_); exact rfl
 |(with_reducible refine rgn 7 700 ?_ ?_); exact rfl
 |(with_reducible refine rgn 3 800 ?_ ?_); exact rfl
 |(with_reducible refine blk_at (id := 0) ?_); ((with_reducible refine JL.loopW 0 299 (fun (k : Nat) tm => (5, .one false [.d (.v (.int .i64 ((k : Int))))]) :: tm) (fun (k : Nat) bo => bo) (fun (k : Nat) => k ≤ a.length ∧ k ≤ b.length ∧ ∀ j, j < k → a.getD j 0 = b.getD j 0) (fun (k : Nat) => a.length - k) (0) ?_ (fun k hk => ?_) ?_); (focus (apply SubW [] rfl ?_ ?_ rfl ?_; (repeat' (first | exact kA | refine kB ?_ | refine kC ?_ ?_ | exact kD | fail)))))
 |((with_reducible refine round_next (i := k) (k + 1) ?_ ?_ ?_); (focus (apply SubW [] rfl ?_ ?_ rfl ?_; (repeat' (first | exact kA | refine kB ?_ | refine kC ?_ ?_ | exact kD | fail)))))
 |refine wA ?_
 |(refine wC ?_ ?_ <;> intro hc)
 |refine wB ?_ ?_
 |(with_reducible refine JL.block ?_)
 |(with_reducible refine F_at ?_); refine eW (vs := [(_, _)]) Tryz.results72 ?_; (focus (repeat' (first | exact oA | refine oB ?_ | refine oC ?_ ?_ | fail)))
 |exact oM
 |fail)
 all_goals first
  | exact ((cmpL_at (k := k) (by omega) (by omega) hk.2.2).1 hc).symm
  | exact ((cmpL_at (k := k) (by omega) (by omega) hk.2.2).2 hc).symm
  | exact ⟨Nat.zero_le _, Nat.zero_le _, fun j hj => absurd hj (Nat.not_lt_zero j)⟩
  | (refine ⟨by omega, by omega, fun j hj => ?_⟩; by_cases e : j = k; (subst e; omega); exact hk.2.2 j (by omega))
  | (rw [cmpL_end hk.2.2 (by omega) (by omega) (by omega)]; grind)
theorem numbers_fn (a : List Int) (ha : a.length ≤ 1000) (hu : u8s a) : FnSound Tryz.prog 73 [.val false [.d (.sl 1 (dSets a))]] [] { vals := [(false, [.d (.sl 1 (dInts a))])] } := by
 have hx := u8s_get hu
 refine startW (tm := [(0, _)]) Tryz.func73 rfl Tryz.ntmps73 rfl rfl rfl rfl ?_
 repeat' (first
 |(with_reducible refine rgn 5 500 ?_ ?_); exact rfl
 |(with_reducible refine rgn 4 600 ?_ ?_); exact rfl
 |(with_reducible refine blk_at (id := 0) ?_); (try (refine JL.zeroW 3 _ 3 1 rfl rfl ?_)); (refine JL.rekW 3 (1048, 351) rfl rfl rfl rfl ?_); ((with_reducible refine JL.loopW 0 399 (fun (k : Nat) tm => (4, .one false [.d (.v (.int .i64 ((k : Int))))]) :: (3, .one false [.own (1048, 351)]) :: tm) (fun (k : Nat) bo => ((1048, 351), some (.sl 3 1 ((dInts (a.take k))))) :: bo) (fun (k : Nat) => k ≤ a.length) (fun (k : Nat) => a.length - k) (0) ?_ (fun k hk => have hx1 := hx k; ?_) ?_); (focus (apply SubW [((1048, 351), _)] rfl ?_ ?_ rfl ?_; (repeat' (first | exact kA | refine kB ?_ | refine kC ?_ ?_ | exact kD | fail)))))
 |((with_reducible refine round_next (i := k) (k + 1) ?_ ?_ ?_); (focus (apply SubW [((1048, 351), _)] rfl ?_ ?_ rfl ?_; (repeat' (first | exact kA | refine kB ?_ | refine kC ?_ ?_ | exact kD | fail)))))
 |refine wA ?_
 |(refine wC ?_ ?_ <;> intro hc)
 |refine wB ?_ ?_
 |(with_reducible refine JL.block ?_)
 |(with_reducible refine F_at ?_); refine eW (vs := [(_, _)]) Tryz.results73 ?_; (focus (repeat' (first | exact oA | refine oB ?_ | refine oC ?_ ?_ | fail)))
 |exact oM
 |fail)
 all_goals first
  | rfl
  | rw [take_snoc (by omega)]
  | rw [take_len (by omega)]
theorem compare_fn (a b : MixD) (ha : Few a) (hb : Few b) (ua : u8s a.held) (ub : u8s b.held) : FnSound Tryz.prog 38 [.val true (mixC a), .val true (mixC b)] [] { vals := [(false, [.d (.v (.int .i64 (cmpM a b)))])] } := by
 obtain ⟨a1, a2, a3⟩ := ha
 obtain ⟨b1, b2, b3⟩ := hb
 refine startW (tm := [(0, _), (1, _)]) Tryz.func38 rfl Tryz.ntmps38 rfl rfl rfl rfl ?_
 repeat' (first
 |(with_reducible refine K_ca 72 ?_); (first
 |refine zC (ints_fn a.base b.base (by omega)) ?_
 |refine zC (ints_fn a.next b.next (by omega)) ?_
 |refine zC (ints_fn a.held b.held (by omega)) ?_)
 |(with_reducible refine K_ca 73 ?_); (first
 |refine zC (numbers_fn a.held (by omega) ua) ?_
 |refine zC (numbers_fn b.held (by omega) ub) ?_)
 |refine wA ?_
 |(refine wC ?_ ?_ <;> intro hc)
 |refine wB ?_ ?_
 |(with_reducible refine JL.block ?_)
 |(with_reducible refine F_at ?_); refine eW (vs := [(_, _)]) Tryz.results38 ?_; (focus (repeat' (first | exact oA | refine oB ?_ | refine oC ?_ ?_ | fail)))
 |exact oM
 |fail)
 all_goals first
  | (unfold cmpM; rw [if_pos hc]; done)
  | (unfold cmpM; rw [if_neg (by omega), if_pos hc])
  | (unfold cmpM; rw [if_neg (by omega), if_neg (by omega)])
theorem equal_fn (a b : MixD) (ha : Few a) (hb : Few b) (ua : u8s a.held) (ub : u8s b.held) : FnSound Tryz.prog 20 [.val true (mixC a), .val true (mixC b)] [] { vals := [(false, [.d (.v (.bool (decide (a = b))))])] } := by
 refine startW (tm := [(0, _), (1, _)]) Tryz.func20 rfl Tryz.ntmps20 rfl rfl rfl rfl ?_
 repeat' (first
 |(with_reducible refine K_ca 38 ?_); refine zC (compare_fn a b ha hb ua ub) ?_
 |refine wA ?_
 |(refine wC ?_ ?_ <;> intro hc)
 |refine wB ?_ ?_
 |(with_reducible refine JL.block ?_)
 |(with_reducible refine F_at ?_); refine eW (vs := [(_, _)]) Tryz.results20 ?_; (focus (repeat' (first | exact oA | refine oB ?_ | refine oC ?_ ?_ | fail)))
 |exact oM
 |fail)
 all_goals (simp only [cmpM_zero])
end Go.Proofs.YtngjhkgcfabciaaGreat

namespace Go.Proofs.YtngjhkgcfabciaaGreat
open Go Go.RowKit
set_option linter.unusedSimpArgs false
set_option linter.unusedVariables false
structure StepAt (p : Prob) (s : StepD) : Prop where
 nn : 0 ≤ s.idx
 tab : s.kind = 3 → s.idx < p.tabs.length
 svc : ¬ s.kind = 3 → s.idx < p.vs.length
 ver : s.kind = 1 → 0 ≤ s.ver ∧ s.ver < p.vs.getD s.idx.toNat 0
theorem stepAt_of {p : Prob} {s : StepD} (h1 : stepOK s = true) (h2 : thereB p s = true) : StepAt p s := by
 simp only [stepOK, decide_eq_true_eq] at h1
 unfold thereB at h2
 split at h2
 ·have h2 := of_decide_eq_true h2
  exact ⟨by omega, fun _ => h2, fun h => by contradiction, fun h => by omega⟩
 ·simp only [Bool.and_eq_true, Bool.or_eq_true, decide_eq_true_eq] at h2
  exact ⟨by omega, fun h => by contradiction, fun _ => h2.1, fun h => ⟨by omega, by rcases h2.2 with h3 | h3; exact absurd h h3; exact h3⟩⟩
theorem set_len {α : Type} {l : List α} {k : Nat} {x : α} : (l.set k x).length = l.length := List.length_set
def hup (p : Prob) (m : MixD) (i v : Int) (k : Nat) : List Int := (List.range m.held.length).map fun j => if j < k then heldUp p i v (p.tabs.getD j nilT) (m.held.getD j 0) else m.held.getD j 0
theorem hup_len {p : Prob} {m : MixD} {i v : Int} {k : Nat} : (hup p m i v k).length = m.held.length := by simp [hup]
theorem hup_get {p : Prob} {m : MixD} {i v : Int} {k j : Nat} (h : j < m.held.length) : (hup p m i v k).getD j 0 = if j < k then heldUp p i v (p.tabs.getD j nilT) (m.held.getD j 0) else m.held.getD j 0 := by
 unfold hup
 rw [List.getD_eq_getElem?_getD, List.getElem?_map, List.getElem?_range h]
 rfl
theorem getD_ext {l r : List Int} (h1 : l.length = r.length) (h : ∀ j, j < l.length → l.getD j 0 = r.getD j 0) : l = r := by
 refine List.ext_getElem h1 fun j a b => ?_
 have := h j a
 rwa [List.getD_eq_getElem?_getD, List.getElem?_eq_getElem a, List.getD_eq_getElem?_getD, List.getElem?_eq_getElem b] at this
theorem getDi_set {l : List Int} {k j : Nat} {x : Int} : (l.set k x).getD j 0 = if k = j ∧ k < l.length then x else l.getD j 0 := by
 rw [List.getD_eq_getElem?_getD, List.getElem?_set, List.getD_eq_getElem?_getD]
 by_cases h : k = j
 ·subst h
  by_cases h2 : k < l.length
  ·simp [h2]
  ·simp [h2]
 ·simp [h]
theorem hup_0 {p : Prob} {m : MixD} {i v : Int} : hup p m i v 0 = m.held := by
 refine getD_ext hup_len fun j hj => ?_
 rw [hup_len] at hj
 rw [hup_get hj, if_neg (by omega)]
theorem hup_all {p : Prob} {m : MixD} {i v : Int} {k : Nat} (h : m.held.length ≤ k) : hup p m i v k = (List.range m.held.length).map fun k => heldUp p i v (p.tabs.getD k nilT) (m.held.getD k 0) := by
 unfold hup
 refine List.map_congr_left fun j hj => ?_
 rw [if_pos (by have := List.mem_range.1 hj; omega)]
theorem hup_set {p : Prob} {m : MixD} {i v : Int} {k : Nat} (h : k < m.held.length) (h1 : (p.tabs.getD k nilT).frm = i) (h2 : storedB (p.tabs.getD k nilT).kind = true) : (hup p m i v k).set k (bits BinOp.or IntKind.u8 ((hup p m i v k).getD k 0) (one8 v)) = hup p m i v (k + 1) := by
 refine getD_ext (by rw [set_len, hup_len, hup_len]) fun j hj => ?_
 rw [set_len, hup_len] at hj
 rw [getDi_set, hup_len, hup_get hj, hup_get hj, hup_get h, if_neg (Nat.lt_irrefl k)]
 by_cases e : k = j
 ·subst e
  rw [if_pos ⟨rfl, h⟩, if_pos (by omega)]
  unfold heldUp
  rw [if_pos ⟨h1, h2⟩]
 ·rw [if_neg (fun a => e a.1)]
  by_cases e2 : j < k
  ·rw [if_pos e2, if_pos (by omega)]
  ·rw [if_neg e2, if_neg (by omega)]
theorem hup_keep {p : Prob} {m : MixD} {i v : Int} {k : Nat} (h : ¬ ((p.tabs.getD k nilT).frm = i ∧ storedB (p.tabs.getD k nilT).kind = true)) : hup p m i v (k + 1) = hup p m i v k := by
 refine getD_ext (by rw [hup_len, hup_len]) fun j hj => ?_
 rw [hup_len] at hj
 rw [hup_get hj, hup_get hj]
 by_cases e : j = k
 ·subst e
  rw [if_pos (by omega), if_neg (by omega)]
  unfold heldUp
  rw [if_neg h]
 ·by_cases e2 : j < k
  ·rw [if_pos e2, if_pos (by omega)]
  ·rw [if_neg e2, if_neg (by omega)]
def clr1 (p : Prob) (m : MixD) (t : Tab) (h : Int) (u : Nat) : Bool := !(hasV h u && !hasV (runS m t.frm) u && (decide (t.kind = 4) && !rwAt t u (m.base.getD t.frm.toNat 0)))
theorem clear_no {p : Prob} {m : MixD} {t : Tab} {h : Int} {u : Nat} (hu : (u : Int) < p.vs.getD t.frm.toNat 0) (h1 : clr1 p m t h u = false) : clearB p m t h = false := range_no (by omega) h1
theorem clear_yes {p : Prob} {m : MixD} {t : Tab} {h : Int} {u : Nat} (hu : ¬ (u : Int) < p.vs.getD t.frm.toNat 0) (h1 : ∀ j, j < u → clr1 p m t h j = true) : clearB p m t h = true := by
 unfold clearB
 rw [List.all_eq_true]
 exact fun j hj => h1 j (by have := List.mem_range.1 hj; omega)
theorem after1 {p : Prob} {m : MixD} {s : StepD} (h : s.kind = 1) : afterP p m s = if 0 ≤ m.next.getD s.idx.toNat 0 ∨ s.ver = m.base.getD s.idx.toNat 0 then none else some (startedM p m s) := by unfold afterP; rw [if_pos h]
theorem after2 {p : Prob} {m : MixD} {s : StepD} (h : s.kind = 2) : afterP p m s = if m.next.getD s.idx.toNat 0 < 0 then none else some ⟨m.base.set s.idx.toNat (m.next.getD s.idx.toNat 0), m.next.set s.idx.toNat (-1), m.held⟩ := by unfold afterP; rw [if_neg (by omega), if_pos h]
theorem after3 {p : Prob} {m : MixD} {s : StepD} (h : s.kind = 3) : afterP p m s = if storedB (p.tabs.getD s.idx.toNat nilT).kind = false then none
     else if m.held.getD s.idx.toNat 0 = runS m (p.tabs.getD s.idx.toNat nilT).frm then none
     else if clearB p m (p.tabs.getD s.idx.toNat nilT) (m.held.getD s.idx.toNat 0) = false then none
     else some ⟨m.base, m.next, m.held.set s.idx.toNat (runS m (p.tabs.getD s.idx.toNat nilT).frm)⟩ := by unfold afterP; rw [if_neg (by omega), if_neg (by omega), if_pos h]
theorem after4 {p : Prob} {m : MixD} {s : StepD} (h1 : ¬ s.kind = 1) (h2 : ¬ s.kind = 2) (h3 : ¬ s.kind = 3) : afterP p m s = if m.next.getD s.idx.toNat 0 < 0 then none else some ⟨m.base, m.next.set s.idx.toNat (-1), m.held⟩ := by unfold afterP; rw [if_neg h1, if_neg h2, if_neg h3]
end Go.Proofs.YtngjhkgcfabciaaGreat

