/- Rules of runs and contracts of functions, for the claims of one seat. -/
import Derived.Test.YtfnljcallbalgaaGreatDoorUA12
import Derived.Test.YtfnljcallbalgaaGreatDoorUA13
import Derived.Test.YtfnljcallbalgaaGreatDoorUA15
import Derived.Test.YtfnljcallbalgaaGreatDoorUA16
import Derived.Test.YtfnljcallbalgaaGreatDoorUA17
namespace Go.Proofs.YtfnljcallbalgaaGreatDoor
open Go Go.RowKit
set_option maxRecDepth 100000
set_option maxHeartbeats 8000000
set_option linter.unusedSimpArgs false
set_option linter.unusedVariables false
theorem cloneInts_fn (xs : List Int) (h : xs.length ≤ 1000000) : FnSound Tryz.prog 54 [.val false [.d (.sl 1 (dInts xs))]] [] { vals := [(false, [.own (0, 1)])], bx := [((0, 1), .sl 3 1 (dInts xs))] } :=
 clone_fn (el := 3) (sz := 1) (bytes := 8) (by omega) (fun A n c xs w h1 h2 h3 h4 => cloneInt A n c xs w h1 h2 h3 h4) (by
  simp only [cloneX, lookRows, dInts_len, true_or, decide_true, Bool.true_or, if_true]
  rw [if_pos ⟨by omega, by omega⟩])
theorem cloneSets_fn (xs : List Int) (h : xs.length ≤ 1000000) : FnSound Tryz.prog 310 [.val false [.d (.sl 1 (dSets xs))]] [] { vals := [(false, [.own (0, 1)])], bx := [((0, 1), .sl 183 1 (dSets xs))] } :=
 clone_fn (el := 183) (sz := 1) (bytes := 1) (by omega) (fun A n c xs w h1 h2 h3 h4 => cloneSet A n c xs w h1 h2 h3 h4) (by
  simp only [cloneX, lookRows, dSets_len, true_or, decide_true, Bool.true_or, if_true]
  rw [if_pos ⟨by omega, by omega⟩])
theorem cloneSteps_fn (xs : List StepD) (h : xs.length ≤ 1000000) : FnSound Tryz.prog 55 [.val false [.d (.sl 3 (dSteps xs))]] [] { vals := [(false, [.own (0, 1)])], bx := [((0, 1), .sl 104 3 (dSteps xs))] } :=
 clone_fn (el := 104) (sz := 3) (bytes := 24) (by omega) (fun A n c xs w h1 h2 h3 h4 => cloneStep A n c xs w h1 h2 h3 h4) (by
  simp only [cloneX, lookRows, dSteps_len, true_or, decide_true, Bool.true_or, if_true]
  rw [if_pos ⟨by omega, by omega⟩])
theorem rep_dInts (n : Nat) : List.replicate n [D.v (.int .i64 (-1))] = dInts (List.replicate n (-1)) := by
 unfold dInts; rw [List.map_replicate]
theorem repeatN_fn (n : Nat) (h : n ≤ 6) : FnSound Tryz.prog 144 [.val false [.d (.sl 1 [[.v (.int .i64 (-1))]])], .val false [.d (.v (.int .i64 (n : Int)))]] [] { vals := [(false, [.own (0, 1)])], bx := [((0, 1), .sl 3 1 (dInts (List.replicate n (-1))))] } := by
 refine repeat_fn ?_
 show (if 0 ≤ (n : Int) ∧ (n : Int) ≤ 6 then some _ else none) = _
 rw [if_pos ⟨by omega, by omega⟩, Int.toNat_natCast, rep_dInts]
def hs0 (p : Prob) (k : Nat) : List Int := (p.tabs.map (startHeld p)).take k ++ List.replicate (p.tabs.length - k) 0
theorem hs0_len {p : Prob} {k : Nat} (h : k ≤ p.tabs.length) : (hs0 p k).length = p.tabs.length := by simp [hs0]; omega
theorem hs0_0 {p : Prob} : List.replicate p.tabs.length 0 = hs0 p 0 := by simp [hs0]
theorem hs0_all {p : Prob} {k : Nat} (h : k ≤ p.tabs.length) (hn : ¬ k < p.tabs.length) : hs0 p k = p.tabs.map (startHeld p) := by
 have : k = p.tabs.length := by omega
 subst this
 simp [hs0, List.take_of_length_le]
theorem hs0_get {p : Prob} {k j : Nat} (hj : j < p.tabs.length) : (hs0 p k).getD j 0 = if j < k then startHeld p (p.tabs.getD j nilT) else 0 := by
 unfold hs0
 by_cases c : j < k
 ·rw [if_pos c, List.getD_eq_getElem?_getD, List.getElem?_append_left (by simp; omega), List.getElem?_take_of_lt c, List.getElem?_map, List.getElem?_eq_getElem hj, List.getD_eq_getElem?_getD, List.getElem?_eq_getElem hj]; rfl
 ·rw [if_neg c, List.getD_eq_getElem?_getD, List.getElem?_append_right (by simp; omega), List.getElem?_replicate]
  split <;> rfl
theorem hs0_set {p : Prob} {k : Nat} (h : k < p.tabs.length) : (hs0 p k).set k (startHeld p (p.tabs.getD k nilT)) = hs0 p (k + 1) := by
 refine list_ext (by rw [List.length_set, hs0_len (by omega), hs0_len (by omega)]) fun j hj => ?_
 rw [List.length_set, hs0_len (by omega)] at hj
 rw [hs0_get hj]
 by_cases e : j = k
 ·subst e
  rw [if_pos (by omega), List.getD_eq_getElem?_getD, List.getElem?_set_self (by rw [hs0_len (by omega)]; exact hj)]; rfl
 ·rw [List.getD_eq_getElem?_getD, List.getElem?_set_ne (fun a => e a.symm), ← List.getD_eq_getElem?_getD, hs0_get hj]
  by_cases c : j < k
  ·rw [if_pos c, if_pos (by omega)]
  ·rw [if_neg c, if_neg (by omega)]
theorem hs0_keep {p : Prob} {k : Nat} (h : k < p.tabs.length) (hz : startHeld p (p.tabs.getD k nilT) = 0) : hs0 p k = hs0 p (k + 1) := by
 refine list_ext (by rw [hs0_len (by omega), hs0_len (by omega)]) fun j hj => ?_
 rw [hs0_len (by omega)] at hj
 rw [hs0_get hj, hs0_get hj]
 by_cases e : j = k
 ·subst e; rw [if_neg (by omega), if_pos (by omega), hz]
 ·by_cases c : j < k
  ·rw [if_pos c, if_pos (by omega)]
  ·rw [if_neg c, if_neg (by omega)]
theorem pstart_fn (p : Prob) (h : vpErr p = 0) : FnSound Tryz.prog 97 [.val true (probC p)] [] { vals := [(true, mixC (startM p)), (false, [.d (.v (.int .i64 0))])] } := by
 have hvp := vp_all h
 have hl6 : p.now.length ≤ 6 := by omega
 have hz0 := @hs0_len p
 refine startW (tm := [(0, _)]) Tryz.func97 rfl Tryz.ntmps97 rfl rfl rfl rfl ?_
 repeat' (first
 |(with_reducible refine K_ca 63 ?_); refine zC (pvpOK_fn h) ?_
 |(with_reducible refine K_ca 54 ?_); refine zS (cloneInts_fn p.now (by omega)) ?_
 |(with_reducible refine K_ca 144 ?_); refine zS (repeatN_fn p.now.length hl6) ?_
 |(with_reducible refine K_ca 145 ?_); refine zC (pstored_fn (p.tabs.getD j nilT)) ?_
 |(with_reducible refine blk_at (id := 0) ?_); (try (refine JL.zeroBW (cs2 := [_, _, _]) (832, 500) 0 _ 3 1 rfl rfl rfl rfl ?_)); (refine JL.rekBW (cs2 := [_, _, _]) (832, 500) 0 (1080, 651) rfl rfl rfl rfl rfl rfl ?_); (try (refine JL.zeroBW (cs2 := [_, _, _]) (832, 500) 1 _ 3 1 rfl rfl rfl rfl ?_)); (refine JL.rekBW (cs2 := [_, _, _]) (832, 500) 1 (1081, 653) rfl rfl rfl rfl rfl rfl ?_); (try (refine JL.zeroBW (cs2 := [_, _, _]) (832, 500) 2 _ 183 1 rfl rfl rfl rfl ?_)); (refine JL.rekBW (cs2 := [_, _, _]) (832, 500) 2 (1082, 655) rfl rfl rfl rfl rfl rfl ?_); ((with_reducible refine JL.loopW 0 699 (fun (j : Nat) tm => (30, .one false [.d (.v (.int .i64 ((j : Int))))]) :: tm) (fun (j : Nat) bo => ((832, 500), some (.st 57 [.own (1080, 651), .own (1081, 653), .own (1082, 655)])) :: ((1080, 651), some (.sl 3 1 ((dInts p.now)))) :: ((1081, 653), some (.sl 3 1 ((dInts (List.replicate p.now.length (-1)))))) :: ((1082, 655), some (.sl 183 1 ((dSets (hs0 p j))))) :: bo) (fun (j : Nat) => j ≤ p.tabs.length) (fun (j : Nat) => p.tabs.length - j) (0) ?_ (fun j hj => have htn := tabN h j; have hnw := hvp.2.2.2.2 (p.tabs.getD j nilT).frm.toNat; have hzl := hz0 hj; ?_) ?_); (focus (apply SubW [((1080, 651), _), ((1081, 653), _), ((1082, 655), _)] rfl ?_ ?_ rfl ?_; (repeat' (first | exact kA | refine kB ?_ | refine kC ?_ ?_ | exact kD | fail)))))
 |((with_reducible refine round_next (i := j) (j + 1) ?_ ?_ ?_); (focus (apply SubW [((1080, 651), _), ((1081, 653), _), ((1082, 655), _)] rfl ?_ ?_ rfl ?_; (repeat' (first | exact kA | refine kB ?_ | refine kC ?_ ?_ | exact kD | fail)))))
 |refine wA ?_
 |(refine wC ?_ ?_ <;> intro hc)
 |refine wB ?_ ?_
 |(with_reducible refine JL.block ?_)
 |(with_reducible refine F_at ?_); refine eW (vs := [(_, _), (_, _)]) Tryz.results97 ?_; (focus (repeat' (first | exact oA | refine oB ?_ | refine oC ?_ ?_ | fail)))
 |exact oM
 |fail)
 all_goals first
  | (rw [Int.toNat_natCast, hs0_0]; done)
  | (rw [Int.toNat_natCast, ← hs0_set (by omega)]; congr 2; unfold startHeld storedB; rw [if_pos (decide_eq_true hc)]; rfl)
  | (rw [← hs0_keep (by omega) (by unfold startHeld storedB; rw [if_neg (fun h => hc (of_decide_eq_true h))])])
  | rfl
  | (rw [hvp.2.2.1]; rfl)
  | (rw [hs0_all (by omega) (by omega)]; rfl)
end Go.Proofs.YtfnljcallbalgaaGreatDoor

