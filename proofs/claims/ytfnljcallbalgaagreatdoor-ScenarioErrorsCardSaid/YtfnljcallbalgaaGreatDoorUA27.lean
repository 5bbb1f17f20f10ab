/- Rules of runs and contracts of functions, for the claims of one seat. -/
import Derived.Laws.Externs
import Derived.Lib.Builder
import Derived.Shelf.LaysM
import Derived.Shelf.Small.Strs
import Derived.Shelf.Strconv.Atoi
import Derived.Shelf.Strconv.Itoa3
import Derived.Shelf.Strconv.Itoa4
import Derived.Shelf.Strings.OnBuilder
import Derived.Shelf.Strings.Split
import Derived.Test.YtfnljcallbalgaaGreatDoorProg
import Derived.Test.YtfnljcallbalgaaGreatDoorUA13
import Derived.Test.YtfnljcallbalgaaGreatDoorUA14
import Derived.Test.YtfnljcallbalgaaGreatDoorUA16
import Derived.Test.YtfnljcallbalgaaGreatDoorUA26
import Derived.Test.YtfnljcallbalgaaGreatDoorUA6
namespace Go.Proofs.YtfnljcallbalgaaGreatDoor
open Go Go.RowKit
set_option maxRecDepth 100000
set_option maxHeartbeats 8000000
set_option linter.unusedSimpArgs false
set_option linter.unusedVariables false
def fewRows (l : List (List Bool)) : Bool := l.all fun r => decide (r.length ≤ 8)
def fewTab (t : Tab) : Bool := decide (t.ok.length ≤ 8) && (decide (t.rw.length ≤ 8) && (fewRows t.ok && fewRows t.rw))
def fewP (p : Prob) : Bool := decide (p.vs.length ≤ 8) && (decide (p.now.length ≤ 8) && (decide (p.tgt.length ≤ 8) && (decide (p.tabs.length ≤ 14) && p.tabs.all fewTab)))
theorem all_no {α : Type} {f : α → Bool} {l : List α} {d : α} {k : Nat} (hk : k < l.length) (h : f (l.getD k d) = false) : l.all f = false := by
 rw [List.getD_eq_getElem?_getD, List.getElem?_eq_getElem hk] at h
 rw [List.all_eq_false]
 exact ⟨_, List.getElem_mem hk, by simpa using h⟩
theorem all_yes {α : Type} {f : α → Bool} {l : List α} {d : α} (h : ∀ k, k < l.length → f (l.getD k d) = true) : l.all f = true := by
 rw [List.all_eq_true]
 intro x hx
 obtain ⟨k, hk, rfl⟩ := List.mem_iff_getElem.1 hx
 have := h k hk
 rwa [List.getD_eq_getElem?_getD, List.getElem?_eq_getElem hk] at this
theorem fewP_no {p : Prob} (h : ¬ (p.vs.length ≤ 8 ∧ p.now.length ≤ 8 ∧ p.tgt.length ≤ 8 ∧ p.tabs.length ≤ 14)) : false = fewP p := by
 unfold fewP
 by_cases h1 : p.vs.length ≤ 8 <;> by_cases h2 : p.now.length ≤ 8 <;> by_cases h3 : p.tgt.length ≤ 8 <;> by_cases h4 : p.tabs.length ≤ 14 <;> simp [h1, h2, h3, h4]
 exact absurd ⟨h1, h2, h3, h4⟩ h
theorem fewP_tab {p : Prob} {k : Nat} (hk : k < p.tabs.length) (h : fewTab (p.tabs.getD k nilT) = false) : false = fewP p := by
 unfold fewP
 rw [all_no hk h]
 simp
theorem fewT_len {t : Tab} (h : ¬ (t.ok.length ≤ 8 ∧ t.rw.length ≤ 8)) : fewTab t = false := by
 unfold fewTab
 by_cases h1 : t.ok.length ≤ 8 <;> by_cases h2 : t.rw.length ≤ 8 <;> simp [h1, h2]
 exact absurd ⟨h1, h2⟩ h
theorem fewR_no {l : List (List Bool)} {j : Nat} (hj : j < l.length) (h : ¬ (l.getD j []).length ≤ 8) : fewRows l = false := all_no (d := []) hj (by simpa using h)
theorem fewT_ok {t : Tab} {j : Nat} (hj : j < t.ok.length) (h : ¬ (t.ok.getD j []).length ≤ 8) : fewTab t = false := by unfold fewTab; rw [fewR_no hj h]; simp
theorem fewT_rw {t : Tab} {j : Nat} (hj : j < t.rw.length) (h : ¬ (t.rw.getD j []).length ≤ 8) : fewTab t = false := by unfold fewTab; rw [fewR_no hj h]; simp
theorem fewT_y {t : Tab} (h1 : t.ok.length ≤ 8) (h2 : t.rw.length ≤ 8) (h3 : ∀ i, i < t.ok.length → (t.ok.getD i []).length ≤ 8) (h4 : ∀ i, i < t.rw.length → (t.rw.getD i []).length ≤ 8) : fewTab t = true := by
 unfold fewTab fewRows
 rw [all_yes (d := []) (fun k hk => by simpa using h3 k hk), all_yes (d := []) (fun k hk => by simpa using h4 k hk)]
 simp [h1, h2]
theorem fewP_y {p : Prob} (h : p.vs.length ≤ 8 ∧ p.now.length ≤ 8 ∧ p.tgt.length ≤ 8 ∧ p.tabs.length ≤ 14) (h5 : ∀ k, k < p.tabs.length → fewTab (p.tabs.getD k nilT) = true) : true = fewP p := by
 unfold fewP
 rw [all_yes h5]
 simp [h.1, h.2.1, h.2.2.1, h.2.2.2]
theorem few_fn (p : Prob) : FnSound Tryz.prog 15 [.val true (probC p)] [] { vals := [(false, [.d (.v (.bool (fewP p)))])] } := by
 refine startW (tm := [(0, _)]) Tryz.func15 rfl Tryz.ntmps15 rfl rfl rfl rfl ?_
 repeat' (first
 |(with_reducible refine rgn 6 600 ?_ ?_); exact rfl
 |(with_reducible refine rgn 7 700 ?_ ?_); exact rfl
 |(with_reducible refine rgn 8 800 ?_ ?_); exact rfl
 |(with_reducible refine rgn 9 900 ?_ ?_); exact rfl
 |(with_reducible refine rgn 11 1000 ?_ ?_); exact rfl
 |(with_reducible refine rgn 12 1100 ?_ ?_); exact rfl
 |(with_reducible refine rgn 10 1200 ?_ ?_); exact rfl
 |(with_reducible refine rgn 13 1300 ?_ ?_); exact rfl
 |(with_reducible refine rgn 14 1400 ?_ ?_); exact rfl
 |(with_reducible refine rgn 16 1500 ?_ ?_); exact rfl
 |(with_reducible refine rgn 17 1600 ?_ ?_); exact rfl
 |(with_reducible refine rgn 15 1700 ?_ ?_); exact rfl
 |(with_reducible refine rgn 5 1800 ?_ ?_); exact rfl
 |(with_reducible refine blk_at (id := 0) ?_); ((with_reducible refine JL.loopW 0 499 (fun (k : Nat) tm => (3, .one false [.d (.v (.int .i64 ((k : Int))))]) :: tm) (fun (k : Nat) bo => bo) (fun (k : Nat) => k ≤ p.tabs.length ∧ ∀ i, i < k → fewTab (p.tabs.getD i nilT) = true) (fun (k : Nat) => p.tabs.length - k) (0) ?_ (fun k hk => ?_) ?_); (focus (apply SubW [] rfl ?_ ?_ rfl ?_; (repeat' (first | exact kA | refine kB ?_ | refine kC ?_ ?_ | exact kD | fail)))))
 |((with_reducible refine round_next (i := k) (k + 1) ?_ ?_ ?_); (focus (apply SubW [] rfl ?_ ?_ rfl ?_; (repeat' (first | exact kA | refine kB ?_ | refine kC ?_ ?_ | exact kD | fail)))))
 |(with_reducible refine blk_at (id := 2) ?_); ((with_reducible refine JL.loopW 2 899 (fun (j : Nat) tm => (4, .one false [.d (.v (.int .i64 ((j : Int))))]) :: tm) (fun (j : Nat) bo => bo) (fun (j : Nat) => j ≤ (p.tabs.getD k nilT).ok.length ∧ ∀ i, i < j → ((p.tabs.getD k nilT).ok.getD i []).length ≤ 8) (fun (j : Nat) => (p.tabs.getD k nilT).ok.length - j) (0) ?_ (fun j hj => ?_) ?_); (focus (apply SubW [] rfl ?_ ?_ rfl ?_; (repeat' (first | exact kA | refine kB ?_ | refine kC ?_ ?_ | exact kD | fail)))))
 |((with_reducible refine round_next (i := j) (j + 1) ?_ ?_ ?_); (focus (apply SubW [] rfl ?_ ?_ rfl ?_; (repeat' (first | exact kA | refine kB ?_ | refine kC ?_ ?_ | exact kD | fail)))))
 |(with_reducible refine blk_at (id := 4) ?_); ((with_reducible refine JL.loopW 4 1399 (fun (i : Nat) tm => (5, .one false [.d (.v (.int .i64 ((i : Int))))]) :: tm) (fun (i : Nat) bo => bo) (fun (i : Nat) => i ≤ (p.tabs.getD k nilT).rw.length ∧ (∀ b, b < (p.tabs.getD k nilT).ok.length → ((p.tabs.getD k nilT).ok.getD b []).length ≤ 8) ∧ ∀ b, b < i → ((p.tabs.getD k nilT).rw.getD b []).length ≤ 8) (fun (i : Nat) => (p.tabs.getD k nilT).rw.length - i) (0) ?_ (fun i hi => ?_) ?_); (focus (apply SubW [] rfl ?_ ?_ rfl ?_; (repeat' (first | exact kA | refine kB ?_ | refine kC ?_ ?_ | exact kD | fail)))))
 |((with_reducible refine round_next (i := i) (i + 1) ?_ ?_ ?_); (focus (apply SubW [] rfl ?_ ?_ rfl ?_; (repeat' (first | exact kA | refine kB ?_ | refine kC ?_ ?_ | exact kD | fail)))))
 |refine wA ?_
 |(refine wC ?_ ?_ <;> intro hc)
 |refine wB ?_ ?_
 |(with_reducible refine JL.block ?_)
 |(with_reducible refine F_at ?_); refine eW (vs := [(_, _)]) Tryz.results15 ?_; (focus (repeat' (first | exact oA | refine oB ?_ | refine oC ?_ ?_ | fail)))
 |exact oM
 |fail)
 all_goals first
  | exact fewP_no (by omega)
  | exact ⟨by omega, fun i hi => by omega⟩
  | exact fewP_tab (k := k) (by omega) (fewT_len (by omega))
  | exact fewP_tab (k := k) (by omega) (fewT_ok (j := j) (by omega) (by omega))
  | exact fewP_tab (k := k) (by omega) (fewT_rw (j := i) (by omega) (by omega))
  | (refine ⟨by omega, fun b hb => ?_⟩; by_cases e : b = j; (subst e; omega); exact hj.2 b (by omega))
  | exact ⟨by omega, fun b hb => hj.2 b (by omega), fun b hb => by omega⟩
  | (refine ⟨by omega, hi.2.1, fun b hb => ?_⟩; by_cases e : b = i; (subst e; omega); exact hi.2.2 b (by omega))
  | (refine ⟨by omega, fun b hb => ?_⟩; by_cases e : b = k; (subst e; exact fewT_y (by omega) (by omega) (fun c hc => hi.2.1 c hc) (fun c hc => hi.2.2 c (by omega))); exact hk.2 b (by omega))
  | exact fewP_y (by omega) (fun b hb => hk.2 b (by omega))
  | trace_state
end Go.Proofs.YtfnljcallbalgaaGreatDoor

namespace Go.Proofs.YtfnljcallbalgaaGreatDoor
open Go Go.RowKit
set_option maxRecDepth 100000
set_option maxHeartbeats 8000000
set_option linter.unusedSimpArgs false
set_option linter.unusedVariables false
def scenC (p : Prob) (rs : List Int) (l : List StepD) (ttl : Int) : List C := [.d (.sl 1 (dInts p.vs)), .d (.sl 1 (dInts p.now)), .d (.sl 1 (dInts p.tgt)), .d (.sl 6 (dTabs p.tabs)), .d (.sl 1 (dInts rs)), .d (.sl 3 (dSteps l)), .d (.v (.int .i64 ttl)), .zero]
theorem srun_no (p : Prob) (rs : List Int) (l : List StepD) (ttl : Int) (hr : rs.length ≤ 1000000) (hl : l.length ≤ 1000000) (h : ¬ worldErr p rs l ttl = 0) (m : C) : FnSound Tryz.prog 19 [.val true (scenC p rs l ttl), .val false [.zero]] [] { vals := [(false, [.d (.v (.pointer none))]), (false, [.d (.v (.int .i64 (worldErr p rs l ttl)))])] } := by
 have a1 := pworld_no p rs l ttl hr hl h
 generalize worldErr p rs l ttl = e at *
 refine startW (tm := [(0, _), (1, _)]) Tryz.func19 rfl Tryz.ntmps19 rfl rfl rfl rfl ?_
 repeat' (first
 |(with_reducible refine K_ca 18 ?_); refine zC (a1) ?_
 |refine wA ?_
 |(refine wC ?_ ?_ <;> intro hc)
 |refine wB ?_ ?_
 |(with_reducible refine JL.block ?_)
 |(with_reducible refine F_at ?_); refine eW (vs := [(_, _), (_, _)]) Tryz.results19 ?_; (focus (repeat' (first | exact oA | refine oB ?_ | refine oC ?_ ?_ | fail)))
 |exact oM
 |fail)
 all_goals first | rfl | (exfalso; omega) | trace_state
theorem srunRun_no (p : Prob) (rs : List Int) (l : List StepD) (ttl : Int) (hr : rs.length ≤ 1000000) (hl : l.length ≤ 1000000) (h : ¬ worldErr p rs l ttl = 0) : FnSound Tryz.prog 8 [.val true (scenC p rs l ttl)] [] { vals := [(false, [.zero]), (false, [.d (.v (.int .i64 0))]), (false, [.d (.v (.int .i64 0))]), (false, [.d (.v (.bool false))]), (false, [.d (.v (.int .i64 (worldErr p rs l ttl)))])] } := by
 have a1 := srun_no p rs l ttl hr hl h .zero
 generalize worldErr p rs l ttl = e at *
 refine startW (tm := [(0, _)]) Tryz.func8 rfl Tryz.ntmps8 rfl rfl rfl rfl ?_
 repeat' (first
 |(with_reducible refine K_ca 19 ?_); refine zC (a1) ?_
 |refine wA ?_
 |(refine wC ?_ ?_ <;> intro hc)
 |refine wB ?_ ?_
 |(with_reducible refine JL.block ?_)
 |(with_reducible refine F_at ?_); refine eW (vs := [(_, _), (_, _), (_, _), (_, _), (_, _)]) Tryz.results8 ?_; (focus (repeat' (first | exact oA | refine oB ?_ | refine oC ?_ ?_ | fail)))
 |exact oM
 |fail)
 all_goals first | rfl | (exfalso; omega) | trace_state
theorem scount_no (p : Prob) (rs : List Int) (l : List StepD) (ttl : Int) (hr : rs.length ≤ 1000000) (hl : l.length ≤ 1000000) (h : ¬ worldErr p rs l ttl = 0) : FnSound Tryz.prog 10 [.val true (scenC p rs l ttl)] [] { vals := [(false, [.zero]), (false, [.d (.v (.int .i64 0))]), (false, [.d (.v (.int .i64 0))]), (false, [.d (.v (.int .i64 0))]), (false, [.d (.v (.int .i64 (worldErr p rs l ttl)))])] } := by
 have a1 := srun_no p rs l ttl hr hl h .zero
 generalize worldErr p rs l ttl = e at *
 refine startW (tm := [(0, _)]) Tryz.func10 rfl Tryz.ntmps10 rfl rfl rfl rfl ?_
 repeat' (first
 |(with_reducible refine K_ca 19 ?_); refine zC (a1) ?_
 |refine wA ?_
 |(refine wC ?_ ?_ <;> intro hc)
 |refine wB ?_ ?_
 |(with_reducible refine JL.block ?_)
 |(with_reducible refine F_at ?_); refine eW (vs := [(_, _), (_, _), (_, _), (_, _), (_, _)]) Tryz.results10 ?_; (focus (repeat' (first | exact oA | refine oB ?_ | refine oC ?_ ?_ | fail)))
 |exact oM
 |fail)
 all_goals first | rfl | (exfalso; omega) | trace_state
theorem sshrink_no (p : Prob) (rs : List Int) (l : List StepD) (ttl : Int) (hr : rs.length ≤ 1000000) (hl : l.length ≤ 1000000) (h : ¬ worldErr p rs l ttl = 0) : FnSound Tryz.prog 9 [.val true (scenC p rs l ttl)] [] { vals := [(true, [.zero, .zero, .zero, .zero, .zero, .zero, .d (.v (.int .i64 0)), .zero]), (false, [.d (.v (.int .i64 (worldErr p rs l ttl)))])] } := by
 have a1 := srun_no p rs l ttl hr hl h .zero
 generalize worldErr p rs l ttl = e at *
 refine startW (tm := [(0, _)]) Tryz.func9 rfl Tryz.ntmps9 rfl rfl rfl rfl ?_
 repeat' (first
 |(with_reducible refine rgn 10 1000 ?_ ?_); exact rfl
 |(with_reducible refine rgn 11 1100 ?_ ?_); exact rfl
 |(with_reducible refine rgn 12 1200 ?_ ?_); exact rfl
 |(with_reducible refine rgn 13 1300 ?_ ?_); exact rfl
 |(with_reducible refine rgn 14 1400 ?_ ?_); exact rfl
 |(with_reducible refine rgn 9 1500 ?_ ?_); exact rfl
 |(with_reducible refine K_ca 19 ?_); refine zC (a1) ?_
 |refine wA ?_
 |(refine wC ?_ ?_ <;> intro hc)
 |refine wB ?_ ?_
 |(with_reducible refine JL.block ?_)
 |(with_reducible refine F_at ?_); refine eW (vs := [(_, _), (_, _)]) Tryz.results9 ?_; (focus (repeat' (first | exact oA | refine oB ?_ | refine oC ?_ ?_ | fail)))
 |exact oM
 |fail)
 all_goals first | rfl | (exfalso; omega) | trace_state
theorem sexpl_no (p : Prob) (rs : List Int) (l : List StepD) (ttl n : Int) (hr : rs.length ≤ 1000000) (hl : l.length ≤ 1000000) (h : ¬ worldErr p rs l ttl = 0) : FnSound Tryz.prog 7 [.val true (scenC p rs l ttl), .val false [.d (.v (.int .i64 n))]] [] { vals := [(false, [.zero]), (false, [.d (.v (.int .i64 (worldErr p rs l ttl)))])] } := by
 have a1 := pworld_no p rs l ttl hr hl h
 generalize worldErr p rs l ttl = e at *
 refine startW (tm := [(0, _), (1, _)]) Tryz.func7 rfl Tryz.ntmps7 rfl rfl rfl rfl ?_
 repeat' (first
 |(with_reducible refine rgn 11 1100 ?_ ?_); exact rfl
 |(with_reducible refine rgn 12 1200 ?_ ?_); exact rfl
 |(with_reducible refine rgn 13 1300 ?_ ?_); exact rfl
 |(with_reducible refine rgn 14 1400 ?_ ?_); exact rfl
 |(with_reducible refine rgn 15 1500 ?_ ?_); exact rfl
 |(with_reducible refine rgn 16 1600 ?_ ?_); exact rfl
 |(with_reducible refine rgn 17 1700 ?_ ?_); exact rfl
 |(with_reducible refine rgn 18 1800 ?_ ?_); exact rfl
 |(with_reducible refine rgn 19 1900 ?_ ?_); exact rfl
 |(with_reducible refine rgn 20 2000 ?_ ?_); exact rfl
 |(with_reducible refine rgn 21 2100 ?_ ?_); exact rfl
 |(with_reducible refine rgn 22 2200 ?_ ?_); exact rfl
 |(with_reducible refine rgn 23 2300 ?_ ?_); exact rfl
 |(with_reducible refine rgn 24 2400 ?_ ?_); exact rfl
 |(with_reducible refine rgn 25 2500 ?_ ?_); exact rfl
 |(with_reducible refine rgn 26 2600 ?_ ?_); exact rfl
 |(with_reducible refine rgn 27 2700 ?_ ?_); exact rfl
 |(with_reducible refine rgn 28 2800 ?_ ?_); exact rfl
 |(with_reducible refine rgn 29 2900 ?_ ?_); exact rfl
 |(with_reducible refine rgn 30 3000 ?_ ?_); exact rfl
 |(with_reducible refine rgn 10 3100 ?_ ?_); exact rfl
 |(with_reducible refine K_ca 18 ?_); refine zC (a1) ?_
 |refine wA ?_
 |(refine wC ?_ ?_ <;> intro hc)
 |refine wB ?_ ?_
 |(with_reducible refine JL.block ?_)
 |(with_reducible refine F_at ?_); refine eW (vs := [(_, _), (_, _)]) Tryz.results7 ?_; (focus (repeat' (first | exact oA | refine oB ?_ | refine oC ?_ ?_ | fail)))
 |exact oM
 |fail)
 all_goals first | rfl | (exfalso; omega) | trace_state
theorem sexpl_range (p : Prob) (rs : List Int) (l : List StepD) (ttl n : Int) (hr : rs.length ≤ 1000000) (hl : l.length ≤ 1000000) (h : worldErr p rs l ttl = 0) (hn : n < 0 ∨ 3 < n) : FnSound Tryz.prog 7 [.val true (scenC p rs l ttl), .val false [.d (.v (.int .i64 n))]] [] { vals := [(false, [.zero]), (false, [.d (.v (.int .i64 7))])] } := by
 have a1 := pworld_ok p rs l ttl hr hl h
 refine startW (tm := [(0, _), (1, _)]) Tryz.func7 rfl Tryz.ntmps7 rfl rfl rfl rfl ?_
 repeat' (first
 |(with_reducible refine rgn 11 1100 ?_ ?_); exact rfl
 |(with_reducible refine rgn 12 1200 ?_ ?_); exact rfl
 |(with_reducible refine rgn 13 1300 ?_ ?_); exact rfl
 |(with_reducible refine rgn 14 1400 ?_ ?_); exact rfl
 |(with_reducible refine rgn 15 1500 ?_ ?_); exact rfl
 |(with_reducible refine rgn 16 1600 ?_ ?_); exact rfl
 |(with_reducible refine rgn 17 1700 ?_ ?_); exact rfl
 |(with_reducible refine rgn 18 1800 ?_ ?_); exact rfl
 |(with_reducible refine rgn 19 1900 ?_ ?_); exact rfl
 |(with_reducible refine rgn 20 2000 ?_ ?_); exact rfl
 |(with_reducible refine rgn 21 2100 ?_ ?_); exact rfl
 |(with_reducible refine rgn 22 2200 ?_ ?_); exact rfl
 |(with_reducible refine rgn 23 2300 ?_ ?_); exact rfl
 |(with_reducible refine rgn 24 2400 ?_ ?_); exact rfl
 |(with_reducible refine rgn 25 2500 ?_ ?_); exact rfl
 |(with_reducible refine rgn 26 2600 ?_ ?_); exact rfl
 |(with_reducible refine rgn 27 2700 ?_ ?_); exact rfl
 |(with_reducible refine rgn 28 2800 ?_ ?_); exact rfl
 |(with_reducible refine rgn 29 2900 ?_ ?_); exact rfl
 |(with_reducible refine rgn 30 3000 ?_ ?_); exact rfl
 |(with_reducible refine rgn 10 3100 ?_ ?_); exact rfl
 |(with_reducible refine K_ca 18 ?_); refine zC (a1) ?_
 |refine wA ?_
 |(refine wC ?_ ?_ <;> intro hc)
 |refine wB ?_ ?_
 |(with_reducible refine JL.block ?_)
 |(with_reducible refine F_at ?_); refine eW (vs := [(_, _), (_, _)]) Tryz.results7 ?_; (focus (repeat' (first | exact oA | refine oB ?_ | refine oC ?_ ?_ | fail)))
 |exact oM
 |fail)
 all_goals first | rfl | (exfalso; omega) | trace_state
theorem few59_fn (p : Prob) (rs : List Int) (l : List StepD) (ttl : Int) (ch : List (List D)) : FnSound Tryz.prog 5 [.val true [.d (.sl 1 (dInts p.vs)), .d (.sl 1 (dInts p.now)), .d (.sl 1 (dInts p.tgt)), .d (.sl 6 (dTabs p.tabs)), .d (.sl 1 (dInts rs)), .d (.sl 3 (dSteps l)), .d (.v (.int .i64 ttl)), .d (.sl 1 ch)]] [] { vals := [(false, [.d (.v (.bool (fewP p && (decide (rs.length ≤ 10) && (decide (l.length ≤ 110) && decide (ch.length ≤ 1010))))))])] } := by
 have a1 := few_fn p
 cases hg : fewP p with
 | false =>
  rw [hg] at a1
  refine startW (tm := [(0, _)]) Tryz.func5 rfl Tryz.ntmps5 rfl rfl rfl rfl ?_
  repeat' (first
 |(with_reducible refine K_ca 15 ?_); refine zC (a1) ?_
 |refine wA ?_
 |(refine wC ?_ ?_ <;> intro hc)
 |refine wB ?_ ?_
 |(with_reducible refine JL.block ?_)
 |(with_reducible refine F_at ?_); refine eW (vs := [(_, _)]) Tryz.results5 ?_; (focus (repeat' (first | exact oA | refine oB ?_ | refine oC ?_ ?_ | fail)))
 |exact oM
 |fail)
  all_goals first | rfl | (exfalso; omega) | (simp; omega) | trace_state
 | true =>
  rw [hg] at a1
  refine startW (tm := [(0, _)]) Tryz.func5 rfl Tryz.ntmps5 rfl rfl rfl rfl ?_
  repeat' (first
 |(with_reducible refine K_ca 15 ?_); refine zC (a1) ?_
 |refine wA ?_
 |(refine wC ?_ ?_ <;> intro hc)
 |refine wB ?_ ?_
 |(with_reducible refine JL.block ?_)
 |(with_reducible refine F_at ?_); refine eW (vs := [(_, _)]) Tryz.results5 ?_; (focus (repeat' (first | exact oA | refine oB ?_ | refine oC ?_ ?_ | fail)))
 |exact oM
 |fail)
  all_goals first | rfl | (exfalso; omega) | (simp; omega) | (have e1 : rs.length ≤ 10 := (by omega); have e2 : l.length ≤ 110 := (by omega); rw [decide_eq_true e1, decide_eq_true e2]; simp only [Bool.true_and]; exact decide_eq_decide.2 (by omega)) | trace_state
end Go.Proofs.YtfnljcallbalgaaGreatDoor

namespace Go.Proofs.YtfnljcallbalgaaGreatDoor
open Go Go.RowKit
set_option linter.unusedSimpArgs false
set_option linter.unusedVariables false
def argsEq : List Arg → List Arg → Bool
 | [], [] => true
 | .val x a :: r, .val y b :: s => (x == y) && (csEq a b && argsEq r s)
 | _, _ => false
theorem argsEq_ok : ∀ {a b : List Arg}, argsEq a b = true → a = b
 | [], [], _ => rfl
 | .val x a :: r, .val y b :: s, h => by
  simp only [argsEq, Bool.and_eq_true, beq_iff_eq] at h
  rw [h.1, csEq_ok h.2.1, argsEq_ok h.2.2]
 | .io .. :: _, .val .. :: _, h => by simp [argsEq] at h
 | .val .. :: _, .io .. :: _, h => by simp [argsEq] at h
 | .io .. :: _, .io .. :: _, h => by simp [argsEq] at h
 | [], _ :: _, h => by simp [argsEq] at h
 | .val .. :: _, [], h => by simp [argsEq] at h
 | .io .. :: _, [], h => by simp [argsEq] at h
abbrev CallT := List (FuncId × List Arg × ARes)
def lookT : CallT → FuncId → List Arg → Option ARes
 | [], _, _ => none
 | (g, xs, r) :: T, f, args => if f = g && argsEq args xs then some r else lookT T f args
def extT (T : CallT) (base : CallF) : CallF := fun f args bxs => match bxs with
 | [] => match lookT T f args with
  | some r => some r
  | none => base f args []
 | _ => base f args bxs
def TabOk (P : Program) : CallT → Prop
 | [] => True
 | (g, xs, r) :: T => FnSound P g xs [] r ∧ TabOk P T
theorem lookT_ok {P : Program} : ∀ {T : CallT}, TabOk P T → ∀ {f : FuncId} {args : List Arg} {r : ARes}, lookT T f args = some r → FnSound P f args [] r
 | [], _, f, args, r, he => by cases he
 | (g, xs, r0) :: T, h, f, args, r, he => by
  unfold lookT at he
  split at he
  ·rename_i hc
   simp only [Bool.and_eq_true, decide_eq_true_eq] at hc
   cases he
   rw [hc.1, argsEq_ok hc.2]
   exact h.1
  ·exact lookT_ok h.2 he
theorem extT_ok {P : Program} {T : CallT} {base : CallF} (hT : TabOk P T) (hb : CallOk P base) : CallOk P (extT T base) := by
 intro f args bxs r he
 unfold extT at he
 split at he
 ·split at he
  ·rename_i r' hr
   cases he
   exact lookT_ok hT hr
  ·exact hb _ _ _ _ he
 ·exact hb _ _ _ _ he
def bxsEq : List (Key × Box) → List (Key × Box) → Bool
 | [], [] => true
 | (k, a) :: r, (l, b) :: s => decide (k = l) && (boxEq a b && bxsEq r s)
 | _, _ => false
theorem bxsEq_ok : ∀ {a b : List (Key × Box)}, bxsEq a b = true → a = b
 | [], [], _ => rfl
 | (k, a) :: r, (l, b) :: s, h => by
  simp only [bxsEq, Bool.and_eq_true, decide_eq_true_eq] at h
  rw [h.1, boxEq_ok h.2.1, bxsEq_ok h.2.2]
 | [], _ :: _, h => by simp [bxsEq] at h
 | _ :: _, [], h => by simp [bxsEq] at h
abbrev CallB := List (FuncId × List Arg × List (Key × Box) × ARes)
def lookB : CallB → FuncId → List Arg → List (Key × Box) → Option ARes
 | [], _, _, _ => none
 | (g, xs, bs, r) :: T, f, args, bxs => if f = g && (argsEq args xs && bxsEq bxs bs) then some r else lookB T f args bxs
def extB (B : CallB) (base : CallF) : CallF := fun f args bxs => match lookB B f args bxs with
 | some r => some r
 | none => base f args bxs
def TabB (P : Program) : CallB → Prop
 | [] => True
 | (g, xs, bs, r) :: T => FnSound P g xs bs r ∧ TabB P T
theorem lookB_ok {P : Program} : ∀ {T : CallB}, TabB P T → ∀ {f : FuncId} {args : List Arg} {bxs : List (Key × Box)} {r : ARes}, lookB T f args bxs = some r → FnSound P f args bxs r
 | [], _, f, args, bxs, r, he => by cases he
 | (g, xs, bs, r0) :: T, h, f, args, bxs, r, he => by
  unfold lookB at he
  split at he
  ·rename_i hc
   simp only [Bool.and_eq_true, decide_eq_true_eq] at hc
   cases he
   rw [hc.1, argsEq_ok hc.2.1, bxsEq_ok hc.2.2]
   exact h.1
  ·exact lookB_ok h.2 he
theorem extB_ok {P : Program} {B : CallB} {base : CallF} (hB : TabB P B) (hb : CallOk P base) : CallOk P (extB B base) := by
 intro f args bxs r he
 unfold extB at he
 split at he
 ·rename_i r' hr
  cases he
  exact lookB_ok hB hr
 ·exact hb _ _ _ _ he
end Go.Proofs.YtfnljcallbalgaaGreatDoor

namespace Go.Proofs
open Go.Shelf
def Tryz.lays156_ren : Go.Shelf.Ren := ⟨fun | 156 => 42 | 165 => 85 | 166 => 31 | 169 => 36 | 240 => 73 | 241 => 136 | 276 => 121 | 277 => 197 | n => n, fun | 31 => 110 | 9 => 9 | 3 => 3 | 4 => 4 | 0 => 0 | 20 => 20 | 72 => 97 | 76 => 100 | 70 => 95 | 37 => 29 | 75 => 99 | 127 => 160 | 164 => 211 | 5 => 5 | 80 => 109 | n => n, fun | n => n⟩
theorem Tryz.lays156 : Go.Proofs.Lays.n156 Tryz.prog Tryz.lays156_ren := {
 mixed := by kernel_rfl
 f156 := Tryz.func42.trans (congrArg some (by kernel_rfl))
 f165 := Tryz.func85.trans (congrArg some (by kernel_rfl))
 f166 := Tryz.func31.trans (congrArg some (by kernel_rfl))
 f169 := Tryz.func36.trans (congrArg some (by kernel_rfl))
 f240 := Tryz.func73.trans (congrArg some (by kernel_rfl))
 f241 := Tryz.func136.trans (congrArg some (by kernel_rfl))
 f276 := Tryz.func121.trans (congrArg some (by kernel_rfl))
 f277 := Tryz.func197.trans (congrArg some (by kernel_rfl))
 t0 := Tryz.underlying0
 a0 := Tryz.isAgg0
 z0 := Tryz.sizeOf0
 v0 := Tryz.zeroValue0
 t3 := Tryz.underlying3
 a3 := Tryz.isAgg3
 z3 := Tryz.sizeOf3
 v3 := Tryz.zeroValue3
 t4 := Tryz.underlying4
 a4 := Tryz.isAgg4
 z4 := Tryz.sizeOf4
 v4 := Tryz.zeroValue4
 t9 := Tryz.underlying9
 a9 := Tryz.isAgg9
 z9 := Tryz.sizeOf9
 v9 := Tryz.zeroValue9
 t20 := Tryz.underlying20
 a20 := Tryz.isAgg20
 z20 := Tryz.sizeOf20
 v20 := Tryz.zeroValue20
 t31 := Tryz.underlying110
 a31 := Tryz.isAgg110
 z31 := Tryz.sizeOf110
 v31 := Tryz.zeroValue110
 t37 := Tryz.underlying29
 a37 := Tryz.isAgg29
 z37 := Tryz.sizeOf29
 v37 := Tryz.zeroValue29
 t70 := Tryz.underlying95
 a70 := Tryz.isAgg95
 z70 := Tryz.sizeOf95
 v70 := Tryz.zeroValue95
 t72 := Tryz.underlying97
 a72 := Tryz.isAgg97
 z72 := Tryz.sizeOf97
 v72 := Tryz.zeroValue97
 t75 := Tryz.underlying99
 a75 := Tryz.isAgg99
 z75 := Tryz.sizeOf99
 v75 := Tryz.zeroValue99
 t76 := Tryz.underlying100
 a76 := Tryz.isAgg100
 z76 := Tryz.sizeOf100
 v76 := Tryz.zeroValue100
 t127 := Tryz.underlying160
 a127 := Tryz.isAgg160
 z127 := Tryz.sizeOf160
 v127 := Tryz.zeroValue160
 t164 := Tryz.underlying211
 a164 := Tryz.isAgg211
 z164 := Tryz.sizeOf211
 v164 := Tryz.zeroValue211 }
theorem Tryz.Builder_Extra_156 : Builder.Extra Tryz.prog Tryz.lays156_ren := {
 sizeBuilder := by kernel_rfl
 liesBuilder := by kernel_rfl
 t5 := Tryz.underlying5
 a5 := Tryz.isAgg5
 z5 := Tryz.sizeOf5
 v5 := Tryz.zeroValue5
 infoByte := by kernel_rfl
 cellsByte := by kernel_rfl
 sizeByte := by kernel_rfl
 neB5 := by decide }
open Go.RowKit in
open Go.RowKit in
theorem Tryz.strings_Join (bk o c : Nat) (xs : List ByteArray) (sep : ByteArray) (w : World) (hcells : ∀ (j : Nat) x, xs[j]? = some x → w.cell? ⟨bk, o + j, none⟩ = some (.string x)) (hbk : bk < w.heap.size) (hN : xs.length ≤ 140737488355328) (hcap : xs.length ≤ c) (hlen : (Lib.join (xs.map (·.data.toList)) sep.data.toList).length ≤ 140737488355328) :
    Calls Tryz.prog 42 #[.slice (some ⟨bk, o, none⟩) xs.length c, .string sep] w fun e w' => e = .returned (.string ⟨(Lib.join (xs.map (·.data.toList)) sep.data.toList).toArray⟩) ∧ Below w.heap.size w w' := Any.strings_Join Tryz.lays156 Tryz.Builder_Extra_156 bk o c xs sep w hcells hbk hN hcap hlen
def Tryz.lays137_ren : Go.Shelf.Ren := ⟨fun | 137 => 91 | 217 => 137 | 266 => 198 | n => n, fun | 9 => 9 | 5 => 5 | 3 => 3 | n => n, fun | n => n⟩
theorem Tryz.lays137 : Go.Proofs.Lays.n137 Tryz.prog Tryz.lays137_ren := {
 mixed := by kernel_rfl
 f137 := Tryz.func91.trans (congrArg some (by kernel_rfl))
 f217 := Tryz.func137.trans (congrArg some (by kernel_rfl))
 f266 := Tryz.func198.trans (congrArg some (by kernel_rfl))
 t3 := Tryz.underlying3
 a3 := Tryz.isAgg3
 z3 := Tryz.sizeOf3
 v3 := Tryz.zeroValue3
 t5 := Tryz.underlying5
 a5 := Tryz.isAgg5
 z5 := Tryz.sizeOf5
 v5 := Tryz.zeroValue5
 t9 := Tryz.underlying9
 a9 := Tryz.isAgg9
 z9 := Tryz.sizeOf9
 v9 := Tryz.zeroValue9 }
open Go.RowKit in
theorem Tryz.strings_IndexByte (s : ByteArray) (c : Int) (w : World) :
    Calls Tryz.prog 91 #[.string s, .int .u8 c] w fun e w' => e = .returned (.int .i64 (Lib.indexByte s.data.toList c.toNat.toUInt8)) ∧ w' = w := Any.strings_IndexByte Tryz.lays137 s c w
def Tryz.lays172_ren : Go.Shelf.Ren := ⟨fun | 172 => 132 | 244 => 193 | 245 => 194 | 247 => 251 | 279 => 252 | 280 => 253 | 281 => 254 | 282 => 255 | 287 => 303 | 316 => 304 | 171 => 32 | 205 => 305 | 321 => 321 | 322 => 322 | 243 => 74 | 246 => 77 | 283 => 122 | 284 => 123 | 285 => 124 | 286 => 125 | 129 => 183 | 317 => 182 | 318 => 184 | 319 => 185 | 320 => 186 | 337 => 244 | 338 => 245 | n => n, fun | 9 => 9 | 3 => 3 | 75 => 99 | 76 => 100 | 4 => 4 | 5 => 5 | 167 => 330 | 37 => 29 | 0 => 0 | 85 => 331 | 2 => 2 | 168 => 333 | 53 => 214 | 175 => 385 | 46 => 108 | 210 => 389 | 127 => 160 | 145 => 405 | 143 => 403 | 21 => 21 | 171 => 213 | 173 => 217 | 212 => 267 | 51 => 232 | 20 => 20 | 213 => 268 | 232 => 378 | 233 => 379 | 80 => 109 | n => n, fun | 15 => 7 | 16 => 8 | 17 => 1 | 18 => 3 | 19 => 4 | n => n⟩
theorem Tryz.lays172 : Go.Proofs.Lays.n172 Tryz.prog Tryz.lays172_ren := {
 mixed := by kernel_rfl
 f129 := Tryz.func183.trans (congrArg some (by kernel_rfl))
 f171 := Tryz.func32.trans (congrArg some (by kernel_rfl))
 f172 := Tryz.func132.trans (congrArg some (by kernel_rfl))
 f205 := Tryz.func305.trans (congrArg some (by kernel_rfl))
 f243 := Tryz.func74.trans (congrArg some (by kernel_rfl))
 f244 := Tryz.func193.trans (congrArg some (by kernel_rfl))
 f245 := Tryz.func194.trans (congrArg some (by kernel_rfl))
 f246 := Tryz.func77.trans (congrArg some (by kernel_rfl))
 f247 := Tryz.func251.trans (congrArg some (by kernel_rfl))
 f279 := Tryz.func252.trans (congrArg some (by kernel_rfl))
 f280 := Tryz.func253.trans (congrArg some (by kernel_rfl))
 f281 := Tryz.func254.trans (congrArg some (by kernel_rfl))
 f282 := Tryz.func255.trans (congrArg some (by kernel_rfl))
 f283 := Tryz.func122.trans (congrArg some (by kernel_rfl))
 f284 := Tryz.func123.trans (congrArg some (by kernel_rfl))
 f285 := Tryz.func124.trans (congrArg some (by kernel_rfl))
 f286 := Tryz.func125.trans (congrArg some (by kernel_rfl))
 f287 := Tryz.func303.trans (congrArg some (by kernel_rfl))
 f316 := Tryz.func304.trans (congrArg some (by kernel_rfl))
 f317 := Tryz.func182.trans (congrArg some (by kernel_rfl))
 f318 := Tryz.func184.trans (congrArg some (by kernel_rfl))
 f319 := Tryz.func185.trans (congrArg some (by kernel_rfl))
 f320 := Tryz.func186.trans (congrArg some (by kernel_rfl))
 f321 := Tryz.func321.trans (congrArg some (by kernel_rfl))
 f322 := Tryz.func322.trans (congrArg some (by kernel_rfl))
 f337 := Tryz.func244.trans (congrArg some (by kernel_rfl))
 f338 := Tryz.func245.trans (congrArg some (by kernel_rfl))
 t0 := Tryz.underlying0
 a0 := Tryz.isAgg0
 z0 := Tryz.sizeOf0
 v0 := Tryz.zeroValue0
 t2 := Tryz.underlying2
 a2 := Tryz.isAgg2
 z2 := Tryz.sizeOf2
 v2 := Tryz.zeroValue2
 t3 := Tryz.underlying3
 a3 := Tryz.isAgg3
 z3 := Tryz.sizeOf3
 v3 := Tryz.zeroValue3
 t4 := Tryz.underlying4
 a4 := Tryz.isAgg4
 z4 := Tryz.sizeOf4
 v4 := Tryz.zeroValue4
 t5 := Tryz.underlying5
 a5 := Tryz.isAgg5
 z5 := Tryz.sizeOf5
 v5 := Tryz.zeroValue5
 t9 := Tryz.underlying9
 a9 := Tryz.isAgg9
 z9 := Tryz.sizeOf9
 v9 := Tryz.zeroValue9
 t20 := Tryz.underlying20
 a20 := Tryz.isAgg20
 z20 := Tryz.sizeOf20
 v20 := Tryz.zeroValue20
 t21 := Tryz.underlying21
 a21 := Tryz.isAgg21
 z21 := Tryz.sizeOf21
 v21 := Tryz.zeroValue21
 t37 := Tryz.underlying29
 a37 := Tryz.isAgg29
 z37 := Tryz.sizeOf29
 v37 := Tryz.zeroValue29
 t46 := Tryz.underlying108
 a46 := Tryz.isAgg108
 z46 := Tryz.sizeOf108
 v46 := Tryz.zeroValue108
 t51 := Tryz.underlying232
 a51 := Tryz.isAgg232
 z51 := Tryz.sizeOf232
 v51 := Tryz.zeroValue232
 t53 := Tryz.underlying214
 a53 := Tryz.isAgg214
 z53 := Tryz.sizeOf214
 v53 := Tryz.zeroValue214
 t75 := Tryz.underlying99
 a75 := Tryz.isAgg99
 z75 := Tryz.sizeOf99
 v75 := Tryz.zeroValue99
 t76 := Tryz.underlying100
 a76 := Tryz.isAgg100
 z76 := Tryz.sizeOf100
 v76 := Tryz.zeroValue100
 t85 := Tryz.underlying331
 a85 := Tryz.isAgg331
 z85 := Tryz.sizeOf331
 v85 := Tryz.zeroValue331
 t127 := Tryz.underlying160
 a127 := Tryz.isAgg160
 z127 := Tryz.sizeOf160
 v127 := Tryz.zeroValue160
 t143 := Tryz.underlying403
 a143 := Tryz.isAgg403
 z143 := Tryz.sizeOf403
 v143 := Tryz.zeroValue403
 t145 := Tryz.underlying405
 a145 := Tryz.isAgg405
 z145 := Tryz.sizeOf405
 v145 := Tryz.zeroValue405
 t167 := Tryz.underlying330
 a167 := Tryz.isAgg330
 z167 := Tryz.sizeOf330
 v167 := Tryz.zeroValue330
 t168 := Tryz.underlying333
 a168 := Tryz.isAgg333
 z168 := Tryz.sizeOf333
 v168 := Tryz.zeroValue333
 t171 := Tryz.underlying213
 a171 := Tryz.isAgg213
 z171 := Tryz.sizeOf213
 v171 := Tryz.zeroValue213
 t173 := Tryz.underlying217
 a173 := Tryz.isAgg217
 z173 := Tryz.sizeOf217
 v173 := Tryz.zeroValue217
 t175 := Tryz.underlying385
 a175 := Tryz.isAgg385
 z175 := Tryz.sizeOf385
 v175 := Tryz.zeroValue385
 t210 := Tryz.underlying389
 a210 := Tryz.isAgg389
 z210 := Tryz.sizeOf389
 v210 := Tryz.zeroValue389
 t212 := Tryz.underlying267
 a212 := Tryz.isAgg267
 z212 := Tryz.sizeOf267
 v212 := Tryz.zeroValue267
 t213 := Tryz.underlying268
 a213 := Tryz.isAgg268
 z213 := Tryz.sizeOf268
 t232 := Tryz.underlying378
 a232 := Tryz.isAgg378
 z232 := Tryz.sizeOf378
 v232 := Tryz.zeroValue378
 t233 := Tryz.underlying379
 a233 := Tryz.isAgg379
 z233 := Tryz.sizeOf379
 v233 := Tryz.zeroValue379
 g15 := by kernel_rfl
 g16 := by kernel_rfl
 g17 := by kernel_rfl
 g18 := by kernel_rfl
 g19 := by kernel_rfl }
open Go.RowKit in
theorem Tryz.strconv_Atoi (s : ByteArray) (n : Int) (hl : s.size ≤ 18) (h : Lib.atoi s.data.toList = some n) (w : World) :
    Calls Tryz.prog 132 #[.string s] w fun e w' => e = .returned (.tuple #[.int .i64 n, .nilIface]) ∧ ∃ t, w' = Lib.bytesWorld w 5 t := Any.strconv_Atoi Tryz.lays172 s n hl h w
def Tryz.lays171_ren : Go.Shelf.Ren := ⟨fun | 171 => 32 | 243 => 74 | 246 => 77 | 283 => 122 | 284 => 123 | 285 => 124 | 286 => 125 | 129 => 183 | 317 => 182 | 318 => 184 | 319 => 185 | 320 => 186 | 337 => 244 | 338 => 245 | n => n, fun | 3 => 3 | 9 => 9 | 2 => 2 | 4 => 4 | 171 => 213 | 0 => 0 | 53 => 214 | 37 => 29 | 5 => 5 | 173 => 217 | 212 => 267 | 51 => 232 | 20 => 20 | 213 => 268 | 46 => 108 | 232 => 378 | 233 => 379 | n => n, fun | 17 => 1 | 18 => 3 | 19 => 4 | n => n⟩
theorem Tryz.lays171 : Go.Proofs.Lays.n171 Tryz.prog Tryz.lays171_ren := {
 mixed := by kernel_rfl
 f129 := Tryz.func183.trans (congrArg some (by kernel_rfl))
 f171 := Tryz.func32.trans (congrArg some (by kernel_rfl))
 f243 := Tryz.func74.trans (congrArg some (by kernel_rfl))
 f246 := Tryz.func77.trans (congrArg some (by kernel_rfl))
 f283 := Tryz.func122.trans (congrArg some (by kernel_rfl))
 f284 := Tryz.func123.trans (congrArg some (by kernel_rfl))
 f285 := Tryz.func124.trans (congrArg some (by kernel_rfl))
 f286 := Tryz.func125.trans (congrArg some (by kernel_rfl))
 f317 := Tryz.func182.trans (congrArg some (by kernel_rfl))
 f318 := Tryz.func184.trans (congrArg some (by kernel_rfl))
 f319 := Tryz.func185.trans (congrArg some (by kernel_rfl))
 f320 := Tryz.func186.trans (congrArg some (by kernel_rfl))
 f337 := Tryz.func244.trans (congrArg some (by kernel_rfl))
 f338 := Tryz.func245.trans (congrArg some (by kernel_rfl))
 t0 := Tryz.underlying0
 a0 := Tryz.isAgg0
 z0 := Tryz.sizeOf0
 v0 := Tryz.zeroValue0
 t2 := Tryz.underlying2
 a2 := Tryz.isAgg2
 z2 := Tryz.sizeOf2
 v2 := Tryz.zeroValue2
 t3 := Tryz.underlying3
 a3 := Tryz.isAgg3
 z3 := Tryz.sizeOf3
 v3 := Tryz.zeroValue3
 t4 := Tryz.underlying4
 a4 := Tryz.isAgg4
 z4 := Tryz.sizeOf4
 v4 := Tryz.zeroValue4
 t5 := Tryz.underlying5
 a5 := Tryz.isAgg5
 z5 := Tryz.sizeOf5
 v5 := Tryz.zeroValue5
 t9 := Tryz.underlying9
 a9 := Tryz.isAgg9
 z9 := Tryz.sizeOf9
 v9 := Tryz.zeroValue9
 t20 := Tryz.underlying20
 a20 := Tryz.isAgg20
 z20 := Tryz.sizeOf20
 v20 := Tryz.zeroValue20
 t37 := Tryz.underlying29
 a37 := Tryz.isAgg29
 z37 := Tryz.sizeOf29
 v37 := Tryz.zeroValue29
 t46 := Tryz.underlying108
 a46 := Tryz.isAgg108
 z46 := Tryz.sizeOf108
 v46 := Tryz.zeroValue108
 t51 := Tryz.underlying232
 a51 := Tryz.isAgg232
 z51 := Tryz.sizeOf232
 v51 := Tryz.zeroValue232
 t53 := Tryz.underlying214
 a53 := Tryz.isAgg214
 z53 := Tryz.sizeOf214
 v53 := Tryz.zeroValue214
 t171 := Tryz.underlying213
 a171 := Tryz.isAgg213
 z171 := Tryz.sizeOf213
 v171 := Tryz.zeroValue213
 t173 := Tryz.underlying217
 a173 := Tryz.isAgg217
 z173 := Tryz.sizeOf217
 v173 := Tryz.zeroValue217
 t212 := Tryz.underlying267
 a212 := Tryz.isAgg267
 z212 := Tryz.sizeOf267
 v212 := Tryz.zeroValue267
 t213 := Tryz.underlying268
 a213 := Tryz.isAgg268
 z213 := Tryz.sizeOf268
 t232 := Tryz.underlying378
 a232 := Tryz.isAgg378
 z232 := Tryz.sizeOf378
 v232 := Tryz.zeroValue378
 t233 := Tryz.underlying379
 a233 := Tryz.isAgg379
 z233 := Tryz.sizeOf379
 v233 := Tryz.zeroValue379
 g17 := by kernel_rfl
 g18 := by kernel_rfl
 g19 := by kernel_rfl }
open Go.RowKit Go.Sort Go.Lib in
theorem Tryz.strconv_Itoa_small (i : Nat) (hi : i < 100) (w : World) :
    Calls Tryz.prog 32 #[.int .i64 i] w fun e w' => e = .returned (.string ⟨(Lib.decDigits i).toArray⟩) ∧ w' = w := Any.strconv_Itoa_small Tryz.lays171 i hi w
def Tryz.lays173_ren : Go.Shelf.Ren := ⟨fun | 173 => 34 | 246 => 77 | 283 => 122 | 284 => 123 | 285 => 124 | 286 => 125 | 129 => 183 | 317 => 182 | 318 => 184 | 319 => 185 | 320 => 186 | 337 => 244 | 338 => 245 | n => n, fun | 2 => 2 | 3 => 3 | 9 => 9 | 4 => 4 | 171 => 213 | 0 => 0 | 53 => 214 | 37 => 29 | 5 => 5 | 173 => 217 | 212 => 267 | 51 => 232 | 20 => 20 | 213 => 268 | 46 => 108 | 232 => 378 | 233 => 379 | n => n, fun | 17 => 1 | 18 => 3 | 19 => 4 | n => n⟩
theorem Tryz.lays173 : Go.Proofs.Lays.n173 Tryz.prog Tryz.lays173_ren := {
 mixed := by kernel_rfl
 f129 := Tryz.func183.trans (congrArg some (by kernel_rfl))
 f173 := Tryz.func34.trans (congrArg some (by kernel_rfl))
 f246 := Tryz.func77.trans (congrArg some (by kernel_rfl))
 f283 := Tryz.func122.trans (congrArg some (by kernel_rfl))
 f284 := Tryz.func123.trans (congrArg some (by kernel_rfl))
 f285 := Tryz.func124.trans (congrArg some (by kernel_rfl))
 f286 := Tryz.func125.trans (congrArg some (by kernel_rfl))
 f317 := Tryz.func182.trans (congrArg some (by kernel_rfl))
 f318 := Tryz.func184.trans (congrArg some (by kernel_rfl))
 f319 := Tryz.func185.trans (congrArg some (by kernel_rfl))
 f320 := Tryz.func186.trans (congrArg some (by kernel_rfl))
 f337 := Tryz.func244.trans (congrArg some (by kernel_rfl))
 f338 := Tryz.func245.trans (congrArg some (by kernel_rfl))
 t0 := Tryz.underlying0
 a0 := Tryz.isAgg0
 z0 := Tryz.sizeOf0
 v0 := Tryz.zeroValue0
 t2 := Tryz.underlying2
 a2 := Tryz.isAgg2
 z2 := Tryz.sizeOf2
 v2 := Tryz.zeroValue2
 t3 := Tryz.underlying3
 a3 := Tryz.isAgg3
 z3 := Tryz.sizeOf3
 v3 := Tryz.zeroValue3
 t4 := Tryz.underlying4
 a4 := Tryz.isAgg4
 z4 := Tryz.sizeOf4
 v4 := Tryz.zeroValue4
 t5 := Tryz.underlying5
 a5 := Tryz.isAgg5
 z5 := Tryz.sizeOf5
 v5 := Tryz.zeroValue5
 t9 := Tryz.underlying9
 a9 := Tryz.isAgg9
 z9 := Tryz.sizeOf9
 v9 := Tryz.zeroValue9
 t20 := Tryz.underlying20
 a20 := Tryz.isAgg20
 z20 := Tryz.sizeOf20
 v20 := Tryz.zeroValue20
 t37 := Tryz.underlying29
 a37 := Tryz.isAgg29
 z37 := Tryz.sizeOf29
 v37 := Tryz.zeroValue29
 t46 := Tryz.underlying108
 a46 := Tryz.isAgg108
 z46 := Tryz.sizeOf108
 v46 := Tryz.zeroValue108
 t51 := Tryz.underlying232
 a51 := Tryz.isAgg232
 z51 := Tryz.sizeOf232
 v51 := Tryz.zeroValue232
 t53 := Tryz.underlying214
 a53 := Tryz.isAgg214
 z53 := Tryz.sizeOf214
 v53 := Tryz.zeroValue214
 t171 := Tryz.underlying213
 a171 := Tryz.isAgg213
 z171 := Tryz.sizeOf213
 v171 := Tryz.zeroValue213
 t173 := Tryz.underlying217
 a173 := Tryz.isAgg217
 z173 := Tryz.sizeOf217
 v173 := Tryz.zeroValue217
 t212 := Tryz.underlying267
 a212 := Tryz.isAgg267
 z212 := Tryz.sizeOf267
 v212 := Tryz.zeroValue267
 t213 := Tryz.underlying268
 a213 := Tryz.isAgg268
 z213 := Tryz.sizeOf268
 t232 := Tryz.underlying378
 a232 := Tryz.isAgg378
 z232 := Tryz.sizeOf378
 v232 := Tryz.zeroValue378
 t233 := Tryz.underlying379
 a233 := Tryz.isAgg379
 z233 := Tryz.sizeOf379
 v233 := Tryz.zeroValue379
 g17 := by kernel_rfl
 g18 := by kernel_rfl
 g19 := by kernel_rfl }
open Go.RowKit Go.Sort Go.Lib in
theorem Tryz.strconv_FormatInt_10_small (i : Nat) (hi : i < 100) (w : World) :
    Calls Tryz.prog 34 #[.int .i64 i, .int .i64 10] w fun e w' => e = .returned (.string ⟨(Lib.decDigits i).toArray⟩) ∧ w' = w := Any.strconv_FormatInt_10_small Tryz.lays173 i hi w
def Tryz.lays221_ren : Go.Shelf.Ren := ⟨fun | 221 => 78 | 268 => 126 | 138 => 127 | 143 => 128 | 195 => 187 | 197 => 188 | 218 => 189 | 219 => 190 | 260 => 246 | 217 => 137 | 225 => 247 | 224 => 248 | 267 => 249 | 266 => 198 | 314 => 302 | n => n, fun | 9 => 9 | 3 => 3 | 31 => 110 | 4 => 4 | 0 => 0 | 105 => 271 | 21 => 21 | 5 => 5 | 46 => 108 | 119 => 380 | 139 => 383 | 138 => 382 | 146 => 233 | 51 => 232 | n => n, fun | 1 => 2 | 3 => 5 | 4 => 6 | n => n⟩
theorem Tryz.lays221 : Go.Proofs.Lays.n221 Tryz.prog Tryz.lays221_ren := {
 mixed := by kernel_rfl
 f138 := Tryz.func127.trans (congrArg some (by kernel_rfl))
 f143 := Tryz.func128.trans (congrArg some (by kernel_rfl))
 f195 := Tryz.func187.trans (congrArg some (by kernel_rfl))
 f197 := Tryz.func188.trans (congrArg some (by kernel_rfl))
 f217 := Tryz.func137.trans (congrArg some (by kernel_rfl))
 f218 := Tryz.func189.trans (congrArg some (by kernel_rfl))
 f219 := Tryz.func190.trans (congrArg some (by kernel_rfl))
 f221 := Tryz.func78.trans (congrArg some (by kernel_rfl))
 f224 := Tryz.func248.trans (congrArg some (by kernel_rfl))
 f225 := Tryz.func247.trans (congrArg some (by kernel_rfl))
 f260 := Tryz.func246.trans (congrArg some (by kernel_rfl))
 f266 := Tryz.func198.trans (congrArg some (by kernel_rfl))
 f267 := Tryz.func249.trans (congrArg some (by kernel_rfl))
 f268 := Tryz.func126.trans (congrArg some (by kernel_rfl))
 f314 := Tryz.func302.trans (congrArg some (by kernel_rfl))
 t0 := Tryz.underlying0
 a0 := Tryz.isAgg0
 z0 := Tryz.sizeOf0
 v0 := Tryz.zeroValue0
 t3 := Tryz.underlying3
 a3 := Tryz.isAgg3
 z3 := Tryz.sizeOf3
 v3 := Tryz.zeroValue3
 t4 := Tryz.underlying4
 a4 := Tryz.isAgg4
 z4 := Tryz.sizeOf4
 v4 := Tryz.zeroValue4
 t5 := Tryz.underlying5
 a5 := Tryz.isAgg5
 z5 := Tryz.sizeOf5
 v5 := Tryz.zeroValue5
 t9 := Tryz.underlying9
 a9 := Tryz.isAgg9
 z9 := Tryz.sizeOf9
 v9 := Tryz.zeroValue9
 t21 := Tryz.underlying21
 a21 := Tryz.isAgg21
 z21 := Tryz.sizeOf21
 v21 := Tryz.zeroValue21
 t31 := Tryz.underlying110
 a31 := Tryz.isAgg110
 z31 := Tryz.sizeOf110
 v31 := Tryz.zeroValue110
 t46 := Tryz.underlying108
 a46 := Tryz.isAgg108
 z46 := Tryz.sizeOf108
 v46 := Tryz.zeroValue108
 t51 := Tryz.underlying232
 a51 := Tryz.isAgg232
 z51 := Tryz.sizeOf232
 v51 := Tryz.zeroValue232
 t105 := Tryz.underlying271
 a105 := Tryz.isAgg271
 z105 := Tryz.sizeOf271
 v105 := Tryz.zeroValue271
 t119 := Tryz.underlying380
 a119 := Tryz.isAgg380
 z119 := Tryz.sizeOf380
 t138 := Tryz.underlying382
 a138 := Tryz.isAgg382
 z138 := Tryz.sizeOf382
 v138 := Tryz.zeroValue382
 t139 := Tryz.underlying383
 a139 := Tryz.isAgg383
 z139 := Tryz.sizeOf383
 v139 := Tryz.zeroValue383
 t146 := Tryz.underlying233
 a146 := Tryz.isAgg233
 z146 := Tryz.sizeOf233
 v146 := Tryz.zeroValue233
 g1 := by kernel_rfl
 g3 := by kernel_rfl
 g4 := by kernel_rfl }
open Go.RowKit Go.Lib in
theorem Tryz.strings_genSplit (s sep : ByteArray) (sv : Nat) (n : Int) (N : Nat) (m : Int) (w : World) (hs : s.size < 4294967281) (hm : w.cell? ⟨2, 0, none⟩ = some (.int .i64 m)) (h1 : 1 ≤ sep.size) (hsv : sv ≤ sep.size) (hn0 : n ≠ 0) (hn63 : n ≤ 9223372036854775807) (hN : (N : Int) = min (if n < 0 then (Lib.countB s sep : Int) + 1 else n) ((s.size : Int) + 1)) :
    Calls Tryz.prog 78 #[.string s, .string sep, .int .i64 sv, .int .i64 n] w fun e w' =>
     e = .returned (.slice (some ⟨w.heap.size, 0, none⟩) (Lib.splitB sep sv (N - 1) s).length N) ∧ w' = w.alloc (.cells (Lib.cellsOf (Lib.splitB sep sv (N - 1) s) N) 9) := Any.strings_genSplit Tryz.lays221 (by kernel_rfl) s sep sv n N m w hs hm h1 hsv hn0 hn63 hN
end Go.Proofs

namespace Go.Proofs.YtfnljcallbalgaaGreatDoor
open Go Go.RowKit
set_option linter.unusedSimpArgs false
set_option linter.unusedVariables false
set_option maxHeartbeats 2000000
set_option maxRecDepth 100000
theorem infoBld : (Tryz.prog.info? 97).map (fun i => i.size) = some 2 := by kernel_rfl
theorem cc_used (b : Nat) (w : World) (h0 : w.cell? ⟨b, 0, none⟩ = some (.pointer (some ⟨b, 0, none⟩))) :
    Calls Tryz.prog 73 #[.pointer (some ⟨b, 0, none⟩)] w fun e w' => e = .returned (.tuple #[]) ∧ w' = w := by
 obtain ⟨j, hj, _⟩ := Option.map_eq_some_iff.1 infoBld
 go_enter Tryz.func73, Tryz.ntmps73
 go_wp2
 rw [Lib.run_neq_ptr_same w _ Tryz.underlying95 hj]
 go_wp2
 go_end0
 exact ⟨rfl, rfl⟩
theorem cc_fresh (b : Nat) (w : World) (h0 : w.cell? ⟨b, 0, none⟩ = some (.pointer none)) (hsh : w.shape? b = some (97, 2)) (hfz : w.frozen? ⟨b, 0, none⟩ = false) :
    Calls Tryz.prog 73 #[.pointer (some ⟨b, 0, none⟩)] w fun e w' => e = .returned (.tuple #[]) ∧ w' = w.setCell ⟨b, 0, none⟩ (.pointer (some ⟨b, 0, none⟩)) := by
 obtain ⟨j, hj, hjs⟩ := Option.map_eq_some_iff.1 infoBld
 go_enter Tryz.func73, Tryz.ntmps73
 go_wp2
 rw [Lib.run_to_unsafe w ⟨b, 0, none⟩ Tryz.underlying95 Tryz.underlying211 hj (by rw [hjs]; decide) hsh (Nat.zero_lt_succ 1)]
 simp only [Result.andThen]
 rw [Oper.upon_value]
 go_wp2
 rw [run_callFunc_extern (by exact Tryz.func121) (by kernel_rfl) (by kernel_rfl) (by kernel_rfl) (e := Extern.AbiNoEscape.same) (by kernel_rfl)]
 rw [Lib.run_noEscape]
 simp only [Result.andThen]
 rw [Oper.upon_value]
 go_wp2
 rw [Lib.run_from_unsafe w ⟨b, 0, none⟩ Tryz.underlying211 Tryz.underlying95 hj hsh (by kernel_rfl)]
 simp only [Result.andThen]
 rw [Oper.upon_value]
 go_wp2
 go_end0
 exact ⟨rfl, rfl⟩
section
variable {V X : Nat → Prop} {Z : Key → Hd} {w0 w : World} {N : Nat} {ρ : Key → Hd} {ok ok' : Key → Prop} {lt : Nat → Option AV} {lb lb' : Key → Option Box} {a : Act}
theorem Rel.ret (h : Rel V X Z w0 N ρ ok lt lb a w) (ho : ∀ q : Key, ok q → ok' q) (hb : ∀ q box, lb' q = some box → lb q = some box) {av : AV} {v : Value} (hv : AVRel (CRel (Im V ρ lb') ρ ok' w) av v) : Rel V X Z w0 1 ρ ok' (ltOne av) lb' ⟨#[v], []⟩ w := by
 refine ⟨rfl, rfl, fun t av' ht => ?_, fun q box hq => ⟨ho _ (h.bx q box (hb q box hq)).1, ?_⟩, fun q b1 q' b2 b e1 l1 e2 l2 g1 g2 => h.ap q b1 q' b2 b (hb _ _ e1) l1 (hb _ _ e2) l2 g1 g2, fun q box b hq => h.lo q box b (hb _ _ hq), h.fr, h.va, fun q hq => ⟨ho _ (h.zz q hq).1, (h.zz q hq).2⟩⟩
 ·unfold ltOne at ht
  split at ht
  ·rename_i h0
   subst h0
   cases ht
   exact ⟨by omega, hv⟩
  ·cases ht
 ·exact (h.bx q box (hb q box hq)).2.keep (Keep.refl _ _) (fun b _ hi => ⟨hi.1, fun q' box' hq' hl => hi.2 q' box' (hb _ _ hq') hl⟩) (fun _ _ => rfl) ho (h.bx q box (hb q box hq)).1 (fun _ _ _ => rfl)
end
def ccX (T : TypeId) : List Arg → List (Key × Box) → Option ARes
 | [.val false [.ptr (0, 0) 0]], [((0, 0), .st T' [.d (.v (.pointer none)), .zero])] => if T' = T then some { vals := [], bx := [((0, 0), .st T [.ptr (0, 0) 0, .zero])] } else none
 | [.val false [.ptr (0, 0) 0]], [((0, 0), .st T' [.ptr (0, 0) 0, .own (1, 0)]), ((1, 0), .sl ty sz rows)] => if T' = T then some { vals := [], bx := [((0, 0), .st T [.ptr (0, 0) 0, .own (1, 0)]), ((1, 0), .sl ty sz rows)] } else none
 | _, _ => none
theorem cc_fn {args : List Arg} {bxs : List (Key × Box)} {r : ARes} (he : ccX 97 args bxs = some r) : FnSound Tryz.prog 73 args bxs r := by
 unfold ccX at he
 split at he
 ·rename_i T'
  split at he
  ·rename_i hT
   subst hT
   cases he
   intro V X Z ρ w vals hl hR
   have hv := vals_one hl
   obtain ⟨hok, b, hg, hp⟩ := slot1_sound (c := .ptr (0, 0) 0) rfl (args_val hR (i := 0) rfl).2
   obtain ⟨b', vs, g1, g2, g3⟩ := (hR.bx (0, 0) (.st 97 [.d (.v (.pointer none)), .zero]) rfl).2
   obtain rfl : b = b' := by rw [g1] at hg; cases hg; rfl
   cases g3 with
   | cons x1 y1 =>
   cases y1 with
   | cons x2 y2 =>
   cases y2
   rename_i v1 v2
   have e1 := (Rd.val x1).1
   subst e1
   rw [hv, hp]
   have hsh : w.shape? b = some (97, 2) := by
    have := g2
    unfold Blk at this
    simp [World.shape?, this]
   refine (cc_fresh b w (by rw [g2.cell]; rfl) hsh (g2.frozen _)).mono ?_
   rintro e w' ⟨rfl, rfl⟩
   have hw : Keep (fun k => k ≠ b) w (w.setCell ⟨b, 0, none⟩ (.pointer (some ⟨b, 0, none⟩))) := Keep.setCell w (fun h => h rfl) _
   have hB : BoxRel (Im V ρ (lk (argBx 0 [.val false [.ptr (0, 0) 0]] ++ [((0, 0), Box.st 97 [.d (.v (.pointer none)), .zero])]))) ρ (fun _ => True) (w.setCell ⟨b, 0, none⟩ (.pointer (some ⟨b, 0, none⟩))) (0, 0) (.st 97 [.ptr (0, 0) 0, .zero]) :=
    ⟨b, [.pointer (some ⟨b, 0, none⟩), v2], g1, by have := g2.put 0 (.pointer (some ⟨b, 0, none⟩)); simpa using this, .cons ⟨trivial, b, g1, rfl⟩ (.cons x2 .nil)⟩
   have hS := hR.set (ok' := fun _ => True) (fun _ _ => trivial) (q := (0, 0)) rfl rfl rfl g1 hw hB none (fun _ h => by cases h)
   refine ⟨_, ρ, rfl, hS.ret (fun _ h => h) (fun q box hq => ?_) ⟨[], rfl, .nil⟩⟩
   rw [updB_one]
   by_cases e : q = (0, 0)
   ·subst e; rw [if_pos rfl]; exact hq
   ·rw [show lk (ioBx 0 [.val false [.ptr (0, 0) 0]] [] ++ [((0, 0), Box.st 97 [.ptr (0, 0) 0, .zero])]) q = none from if_neg e] at hq
    cases hq
  ·cases he
 ·rename_i T' ty sz rows
  split at he
  ·rename_i hT
   subst hT
   cases he
   intro V X Z ρ w vals hl hR
   have hv := vals_one hl
   obtain ⟨hok, b, hg, hp⟩ := slot1_sound (c := .ptr (0, 0) 0) rfl (args_val hR (i := 0) rfl).2
   obtain ⟨b', vs, g1, g2, g3⟩ := (hR.bx (0, 0) (.st 97 [.ptr (0, 0) 0, .own (1, 0)]) rfl).2
   obtain rfl : b = b' := by rw [g1] at hg; cases hg; rfl
   cases g3 with
   | cons x1 y1 =>
   obtain ⟨_, b2, h2, rfl⟩ := x1
   obtain rfl : b = b2 := by rw [g1] at h2; cases h2; rfl
   rw [hv, hp]
   refine (cc_used b w (by rw [g2.cell]; rfl)).mono ?_
   rintro e w' ⟨rfl, rfl⟩
   exact ⟨_, ρ, rfl, hR.ret (fun _ _ => trivial) (fun q box hq => hq) ⟨[], rfl, .nil⟩⟩
  ·cases he
 ·cases he
end Go.Proofs.YtfnljcallbalgaaGreatDoor

