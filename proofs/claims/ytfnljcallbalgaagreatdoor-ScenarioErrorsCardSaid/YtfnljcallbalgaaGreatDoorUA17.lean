/- Rules of runs and contracts of functions, for the claims of one seat. -/
import Derived.Test.YtfnljcallbalgaaGreatDoorUA12
import Derived.Test.YtfnljcallbalgaaGreatDoorUA13
import Derived.Test.YtfnljcallbalgaaGreatDoorUA14
namespace Go.Proofs.YtfnljcallbalgaaGreatDoor
open Go Go.RowKit
set_option maxRecDepth 100000
set_option maxHeartbeats 8000000
set_option linter.unusedSimpArgs false
set_option linter.unusedVariables false
theorem has_fn (s v : Int) (hv : 0 ≤ v ∧ v ≤ 6) : FnSound Tryz.prog 264 [.val false [.d (.v (.int .u8 s))], .val false [.d (.v (.int .i64 v))]] [] { vals := [(false, [.d (.v (.bool (hasV s v)))])] } := by
 refine startW (tm := [(0, _), (1, _)]) Tryz.func264 rfl Tryz.ntmps264 rfl rfl rfl rfl ?_
 repeat' (first
 |refine wA ?_
 |(refine wC ?_ ?_ <;> intro hc)
 |refine wB ?_ ?_
 |(with_reducible refine JL.block ?_)
 |(with_reducible refine F_at ?_); refine eW (vs := [(_, _)]) Tryz.results264 ?_; (focus (repeat' (first | exact oA | refine oB ?_ | refine oC ?_ ?_ | fail)))
 |exact oM
 |fail)
theorem run_fn (m : MixD) (s : Int) (hs : 0 ≤ s ∧ s < m.base.length ∧ s < m.next.length) (hb : 0 ≤ m.base.getD s.toNat 0 ∧ m.base.getD s.toNat 0 ≤ 6) (hn : m.next.getD s.toNat 0 ≤ 6) : FnSound Tryz.prog 263 [.val true (mixC m), .val false [.d (.v (.int .i64 s))]] [] { vals := [(false, [.d (.v (.int .u8 (runS m s)))])] } := by
 refine startW (tm := [(0, _), (1, _)]) Tryz.func263 rfl Tryz.ntmps263 rfl rfl rfl rfl ?_
 repeat' (first
 |refine wA ?_
 |(refine wC ?_ ?_ <;> intro hc)
 |refine wB ?_ ?_
 |(with_reducible refine JL.block ?_)
 |(with_reducible refine F_at ?_); refine eW (vs := [(_, _)]) Tryz.results263 ?_; (focus (repeat' (first | exact oA | refine oB ?_ | refine oC ?_ ?_ | fail)))
 |exact oM
 |fail)
 ·unfold runS runV; rw [if_pos hc]; rfl
 ·unfold runS runV; rw [if_neg hc]; rfl
theorem mixValid_fn (p : Prob) (m : MixD) : FnSound Tryz.prog 199 [.val true (probC p), .val true (mixC m)] [] { vals := [(false, [.d (.v (.int .i64 (mixErr p m)))])] } := by
 refine startW (tm := [(0, _), (1, _)]) Tryz.func199 rfl Tryz.ntmps199 rfl rfl rfl rfl ?_
 repeat' (first
 |(with_reducible refine rgn 10 1000 ?_ ?_); exact rfl
 |(with_reducible refine rgn 11 1100 ?_ ?_); exact rfl
 |(with_reducible refine rgn 12 1200 ?_ ?_); exact rfl
 |(with_reducible refine rgn 13 1300 ?_ ?_); exact rfl
 |(with_reducible refine rgn 9 1400 ?_ ?_); exact rfl
 |(with_reducible refine rgn 17 1700 ?_ ?_); exact rfl
 |(with_reducible refine rgn 18 1800 ?_ ?_); exact rfl
 |(with_reducible refine rgn 19 1900 ?_ ?_); exact rfl
 |(with_reducible refine rgn 20 2000 ?_ ?_); exact rfl
 |(with_reducible refine rgn 16 2100 ?_ ?_); exact rfl
 |(with_reducible refine K_ca 51 ?_); refine zC (rvp_fn p) ?_
 |(with_reducible refine K_ca 93 ?_); refine zC (stored_fn (p.tabs.getD j nilT)) ?_
 |(with_reducible refine K_ca 263 ?_); refine zC (run_fn m (p.tabs.getD j nilT).frm (by omega) (by omega) (by omega)) ?_
 |(with_reducible refine blk_at (id := 0) ?_); ((with_reducible refine JL.loopW 0 899 (fun (k : Nat) tm => (7, .one false [.d (.v (.int .i64 ((k : Int))))]) :: tm) (fun (k : Nat) bo => bo) (fun (k : Nat) => k ≤ p.vs.length ∧ (∀ i, i < k → svcI p.vs m.base m.next i = 0)) (fun (k : Nat) => p.vs.length - k) (0) ?_ (fun k hk => have hvp := vp_all (p := p) (by assumption); ?_) ?_); (focus (apply SubW [] rfl ?_ ?_ rfl ?_; (repeat' (first | exact kA | refine kB ?_ | refine kC ?_ ?_ | exact kD | fail)))))
 |((with_reducible refine round_next (i := k) (k + 1) ?_ ?_ ?_); (focus (apply SubW [] rfl ?_ ?_ rfl ?_; (repeat' (first | exact kA | refine kB ?_ | refine kC ?_ ?_ | exact kD | fail)))))
 |(with_reducible refine blk_at (id := 2) ?_); ((with_reducible refine JL.loopW 2 1599 (fun (j : Nat) tm => (8, .one false [.d (.v (.int .i64 ((j : Int))))]) :: tm) (fun (j : Nat) bo => bo) (fun (j : Nat) => j ≤ p.tabs.length ∧ (∀ i, i < p.vs.length → svcI p.vs m.base m.next i = 0) ∧ ∀ i, i < j → heldB p m (p.tabs.getD i nilT) (m.held.getD i 0) = false) (fun (j : Nat) => p.tabs.length - j) (0) ?_ (fun j hj => have hvp := vp_all (p := p) (by assumption); have htn := tabN (p := p) (by assumption) j; have hsn := svc_nn (m := m) hj.2.1 (p.tabs.getD j nilT).frm; ?_) ?_); (focus (apply SubW [] rfl ?_ ?_ rfl ?_; (repeat' (first | exact kA | refine kB ?_ | refine kC ?_ ?_ | exact kD | fail)))))
 |((with_reducible refine round_next (i := j) (j + 1) ?_ ?_ ?_); (focus (apply SubW [] rfl ?_ ?_ rfl ?_; (repeat' (first | exact kA | refine kB ?_ | refine kC ?_ ?_ | exact kD | fail)))))
 |refine wA ?_
 |(refine wC ?_ ?_ <;> intro hc)
 |refine wB ?_ ?_
 |(with_reducible refine JL.block ?_)
 |(with_reducible refine F_at ?_); refine eW (vs := [(_, _)]) Tryz.results199 ?_; (focus (repeat' (first | exact oA | refine oB ?_ | refine oC ?_ ?_ | fail)))
 |exact oM
 |fail)
 all_goals first
  | exact (mixErr_vp hc).symm
  | exact (mixErr_ar (by assumption) (by omega)).symm
  | exact ⟨by omega, fun i hi => by omega⟩
  | exact (mixErr_svc (k := k) (e := 7) (by assumption) (by omega) (by omega) (by omega) (by omega) hk.2 (by unfold svcI svcE; rw [if_pos (by omega)]) (by decide)).symm
  | exact (mixErr_svc (k := k) (e := 1) (by assumption) (by omega) (by omega) (by omega) (by omega) hk.2 (by unfold svcI svcE; rw [if_neg (by omega), if_pos hc]) (by decide)).symm
  | (refine ⟨by omega, fun i hi => ?_⟩; by_cases e : i = k; (subst e; unfold svcI svcE; rw [if_neg (by omega), if_neg (by omega)]); exact hk.2 i (by omega))
  | exact ⟨by omega, fun i hi => hk.2 i (by omega), fun i hi => by omega⟩
  | exact (mixErr_held (k := j) (by assumption) (by omega) (by omega) (by omega) hj.2.1 (by omega) hj.2.2 (by simp only [heldB, storedB, allV, one8]; grind)).symm
  | (refine ⟨by omega, hj.2.1, fun i hi => ?_⟩; by_cases e : i = j; (subst e; simp only [heldB, storedB, allV, one8]; grind); exact hj.2.2 i (by omega))
  | exact (mixErr_ok (by assumption) (by omega) (by omega) (by omega) hj.2.1 (fun i hi => hj.2.2 i (by omega))).symm
theorem mixValidOK_fn {p : Prob} {m : MixD} (h : mixErr p m = 0) : FnSound Tryz.prog 199 [.val true (probC p), .val true (mixC m)] [] { vals := [(false, [.d (.v (.int .i64 0))])] } := by rw [← h]; exact mixValid_fn p m
theorem rvpOK_fn {p : Prob} (h : vpErr p = 0) : FnSound Tryz.prog 51 [.val true (probC p)] [] { vals := [(false, [.d (.v (.int .i64 0))])] } := by rw [← h]; exact rvp_fn p
theorem map_getD {α β : Type} {f : α → β} {l : List α} {d : α} {k : Nat} (h : k < l.length) : (l.map f).getD k (f d) = f (l.getD k d) := by
 rw [List.getD_eq_getElem?_getD, List.getElem?_map, List.getElem?_eq_getElem h, List.getD_eq_getElem?_getD, List.getElem?_eq_getElem h]; rfl
theorem start_fn (p : Prob) (h : vpErr p = 0) : FnSound Tryz.prog 50 [.val true (probC p)] [] { vals := [(true, mixC (startM p)), (false, [.d (.v (.int .i64 0))])] } := by
 have hvp := vp_all h
 refine startW (tm := [(0, _)]) Tryz.func50 rfl Tryz.ntmps50 rfl rfl rfl rfl ?_
 repeat' (first
 |(with_reducible refine rgn 8 800 ?_ ?_); exact rfl
 |(with_reducible refine rgn 9 900 ?_ ?_); exact rfl
 |(with_reducible refine rgn 7 1000 ?_ ?_); exact rfl
 |(with_reducible refine rgn 13 1300 ?_ ?_); exact rfl
 |(with_reducible refine rgn 14 1400 ?_ ?_); exact rfl
 |(with_reducible refine rgn 15 1500 ?_ ?_); exact rfl
 |(with_reducible refine rgn 16 1600 ?_ ?_); exact rfl
 |(with_reducible refine rgn 12 1700 ?_ ?_); exact rfl
 |(with_reducible refine K_ca 51 ?_); refine zC (rvpOK_fn h) ?_
 |(with_reducible refine K_ca 93 ?_); refine zC (stored_fn (p.tabs.getD j nilT)) ?_
 |(with_reducible refine blk_at (id := 0) ?_); (try (refine JL.zeroBW (cs2 := [_, _, _]) (0, 500) 0 _ 3 1 rfl rfl rfl rfl ?_)); (refine JL.rekBW (cs2 := [_, _, _]) (0, 500) 0 (1080, 651) rfl rfl rfl rfl rfl rfl ?_); (try (refine JL.zeroBW (cs2 := [_, _, _]) (0, 500) 1 _ 3 1 rfl rfl rfl rfl ?_)); (refine JL.rekBW (cs2 := [_, _, _]) (0, 500) 1 (1081, 653) rfl rfl rfl rfl rfl rfl ?_); ((with_reducible refine JL.loopW 0 699 (fun (k : Nat) tm => (6, .one false [.d (.v (.int .i64 ((k : Int))))]) :: tm) (fun (k : Nat) bo => ((0, 500), some (.st 57 [.own (1080, 651), .own (1081, 653), .zero])) :: ((1080, 651), some (.sl 3 1 ((dInts (p.now.take k))))) :: ((1081, 653), some (.sl 3 1 ((dInts (List.replicate k (-1)))))) :: bo) (fun (k : Nat) => k ≤ p.vs.length) (fun (k : Nat) => p.vs.length - k) (0) ?_ (fun k hk => ?_) ?_); (focus (apply SubW [((1080, 651), _), ((1081, 653), _)] rfl ?_ ?_ rfl ?_; (repeat' (first | exact kA | refine kB ?_ | refine kC ?_ ?_ | exact kD | fail)))))
 |((with_reducible refine round_next (i := k) (k + 1) ?_ ?_ ?_); (focus (apply SubW [((1080, 651), _), ((1081, 653), _)] rfl ?_ ?_ rfl ?_; (repeat' (first | exact kA | refine kB ?_ | refine kC ?_ ?_ | exact kD | fail)))))
 |(with_reducible refine blk_at (id := 2) ?_); (try (refine JL.zeroBW (cs2 := [_, _, _]) (0, 500) 0 _ 3 1 rfl rfl rfl rfl ?_)); (refine JL.rekBW (cs2 := [_, _, _]) (0, 500) 0 (1080, 1151) rfl rfl rfl rfl rfl rfl ?_); (try (refine JL.zeroBW (cs2 := [_, _, _]) (0, 500) 1 _ 3 1 rfl rfl rfl rfl ?_)); (refine JL.rekBW (cs2 := [_, _, _]) (0, 500) 1 (1081, 1153) rfl rfl rfl rfl rfl rfl ?_); (try (refine JL.zeroBW (cs2 := [_, _, _]) (0, 500) 2 _ 183 1 rfl rfl rfl rfl ?_)); (refine JL.rekBW (cs2 := [_, _, _]) (0, 500) 2 (1082, 1155) rfl rfl rfl rfl rfl rfl ?_); ((with_reducible refine JL.loopW 2 1199 (fun (j : Nat) tm => (7, .one false [.d (.v (.int .i64 ((j : Int))))]) :: tm) (fun (j : Nat) bo => ((0, 500), some (.st 57 [.own (1080, 1151), .own (1081, 1153), .own (1082, 1155)])) :: ((1080, 1151), some (.sl 3 1 ((dInts (p.now.take k))))) :: ((1081, 1153), some (.sl 3 1 ((dInts (List.replicate k (-1)))))) :: ((1082, 1155), some (.sl 183 1 ((dSets ((p.tabs.map (startHeld p)).take j))))) :: bo) (fun (j : Nat) => j ≤ p.tabs.length) (fun (j : Nat) => p.tabs.length - j) (0) ?_ (fun j hj => have htn := tabN h j; have hnw := hvp.2.2.2.2 (p.tabs.getD j nilT).frm.toNat; ?_) ?_); (focus (apply SubW [((1080, 1151), _), ((1081, 1153), _), ((1082, 1155), _)] rfl ?_ ?_ rfl ?_; (repeat' (first | exact kA | refine kB ?_ | refine kC ?_ ?_ | exact kD | fail)))))
 |((with_reducible refine round_next (i := j) (j + 1) ?_ ?_ ?_); (focus (apply SubW [((1080, 1151), _), ((1081, 1153), _), ((1082, 1155), _)] rfl ?_ ?_ rfl ?_; (repeat' (first | exact kA | refine kB ?_ | refine kC ?_ ?_ | exact kD | fail)))))
 |refine wA ?_
 |(refine wC ?_ ?_ <;> intro hc)
 |refine wB ?_ ?_
 |(with_reducible refine JL.block ?_)
 |(with_reducible refine F_at ?_); refine eW (vs := [(_, _), (_, _)]) Tryz.results50 ?_; (focus (repeat' (first | exact oA | refine oB ?_ | refine oC ?_ ?_ | fail)))
 |exact oM
 |fail)
 all_goals first
  | rfl
  | rw [take_snoc (by omega)]
  | rw [← List.replicate_succ']
  | (rw [← take_snoc (d := startHeld p nilT) (by simp; omega)]; congr 2; rw [map_getD (by omega)]; unfold startHeld storedB; first | (rw [if_pos (decide_eq_true hc)]; rfl) | rw [if_neg (fun h => hc (of_decide_eq_true h))])
  | (rw [take_len (by omega)]; rfl)
  | (rw [take_len (by simp; omega)]; rfl)
  | (have e : k = p.vs.length := by omega
     rw [e]; rfl)
end Go.Proofs.YtfnljcallbalgaaGreatDoor

