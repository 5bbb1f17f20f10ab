/- Rules of runs and contracts of functions, for the claims of one seat. -/
import Derived.Test.YtngjhkgcfabciaaGreatQA13
import Derived.Test.YtngjhkgcfabciaaGreatQA15
import Derived.Test.YtngjhkgcfabciaaGreatQA17
import Derived.Test.YtngjhkgcfabciaaGreatQA19
import Derived.Test.YtngjhkgcfabciaaGreatQA20
import Derived.Test.YtngjhkgcfabciaaGreatQA22
import Derived.Test.YtngjhkgcfabciaaGreatQA34
import Derived.Test.YtngjhkgcfabciaaGreatQA37
import Derived.Test.YtngjhkgcfabciaaGreatQA38
namespace Go.Proofs.YtngjhkgcfabciaaGreat
open Go Go.RowKit
set_option maxRecDepth 100000
set_option maxHeartbeats 8000000
set_option linter.unusedSimpArgs false
set_option linter.unusedVariables false
theorem cloneInts_fn (xs : List Int) (h : xs.length ≤ 1000000) : FnSound Tryz.prog 91 [.val false [.d (.sl 1 (dInts xs))]] [] { vals := [(false, [.own (0, 1)])], bx := [((0, 1), .sl 3 1 (dInts xs))] } :=
 clone_fn (el := 3) (sz := 1) (bytes := 8) (by omega) (fun A n c xs w h1 h2 h3 h4 => cloneInt A n c xs w h1 h2 h3 h4) (by
  simp only [cloneX, lookRows, dInts_len, true_or, decide_true, Bool.true_or, if_true]
  rw [if_pos ⟨by omega, by omega⟩])
theorem cloneSets_fn (xs : List Int) (h : xs.length ≤ 1000000) : FnSound Tryz.prog 131 [.val false [.d (.sl 1 (dSets xs))]] [] { vals := [(false, [.own (0, 1)])], bx := [((0, 1), .sl 146 1 (dSets xs))] } :=
 clone_fn (el := 146) (sz := 1) (bytes := 1) (by omega) (fun A n c xs w h1 h2 h3 h4 => cloneSet A n c xs w h1 h2 h3 h4) (by
  simp only [cloneX, lookRows, dSets_len, true_or, decide_true, Bool.true_or, if_true]
  rw [if_pos ⟨by omega, by omega⟩])
theorem cloneSteps_fn (xs : List StepD) (h : xs.length ≤ 1000000) : FnSound Tryz.prog 58 [.val false [.d (.sl 3 (dSteps xs))]] [] { vals := [(false, [.own (0, 1)])], bx := [((0, 1), .sl 68 3 (dSteps xs))] } :=
 clone_fn (el := 68) (sz := 3) (bytes := 24) (by omega) (fun A n c xs w h1 h2 h3 h4 => cloneStep A n c xs w h1 h2 h3 h4) (by
  simp only [cloneX, lookRows, dSteps_len, true_or, decide_true, Bool.true_or, if_true]
  rw [if_pos ⟨by omega, by omega⟩])
theorem rep_dInts (n : Nat) : List.replicate n [D.v (.int .i64 (-1))] = dInts (List.replicate n (-1)) := by
 unfold dInts; rw [List.map_replicate]
theorem repeatN_fn (n : Nat) (h : n ≤ 6) : FnSound Tryz.prog 92 [.val false [.d (.sl 1 [[.v (.int .i64 (-1))]])], .val false [.d (.v (.int .i64 (n : Int)))]] [] { vals := [(false, [.own (0, 1)])], bx := [((0, 1), .sl 3 1 (dInts (List.replicate n (-1))))] } := by
 refine repeat_fn ?_
 show (if 0 ≤ (n : Int) ∧ (n : Int) ≤ 6 then some _ else none) = _
 rw [if_pos ⟨by omega, by omega⟩, Int.toNat_natCast, rep_dInts]
def hs0 (p : Prob) (k : Nat) : List Int := (p.tabs.map (startHeld p)).take k ++ List.replicate (p.tabs.length - k) 0
theorem hs0_len {p : Prob} {k : Nat} (h : k ≤ p.tabs.length) : (hs0 p k).length = p.tabs.length := by simp [hs0]; omega
theorem hs0_0 {p : Prob} : List.replicate p.tabs.length 0 = hs0 p 0 := by simp [hs0]
theorem hs0_all {p : Prob} {k : Nat} (h : k ≤ p.tabs.length) (hn : ¬ k < p.tabs.length) : hs0 p k = p.tabs.map (startHeld p) := by
 have : k = p.tabs.length := by omega
 subst this
 simp [hs0, List.take_of_length_le]
theorem hs0_get {p : Prob} {k j : Nat} (hj : j < p.tabs.length) : (hs0 p k).getD j 0 = if j < k then startHeld p (p.tabs.getD j nilT) else 0 := by
 unfold hs0
 by_cases c : j < k
 ·rw [if_pos c, List.getD_eq_getElem?_getD, List.getElem?_append_left (by simp; omega), List.getElem?_take_of_lt c, List.getElem?_map, List.getElem?_eq_getElem hj, List.getD_eq_getElem?_getD, List.getElem?_eq_getElem hj]; rfl
 ·rw [if_neg c, List.getD_eq_getElem?_getD, List.getElem?_append_right (by simp; omega), List.getElem?_replicate]
  split <;> rfl
theorem hs0_set {p : Prob} {k : Nat} (h : k < p.tabs.length) : (hs0 p k).set k (startHeld p (p.tabs.getD k nilT)) = hs0 p (k + 1) := by
 refine list_ext (by rw [List.length_set, hs0_len (by omega), hs0_len (by omega)]) fun j hj => ?_
 rw [List.length_set, hs0_len (by omega)] at hj
 rw [hs0_get hj]
 by_cases e : j = k
 ·subst e
  rw [if_pos (by omega), List.getD_eq_getElem?_getD, List.getElem?_set_self (by rw [hs0_len (by omega)]; exact hj)]; rfl
 ·rw [List.getD_eq_getElem?_getD, List.getElem?_set_ne (fun a => e a.symm), ← List.getD_eq_getElem?_getD, hs0_get hj]
  by_cases c : j < k
  ·rw [if_pos c, if_pos (by omega)]
  ·rw [if_neg c, if_neg (by omega)]
theorem hs0_keep {p : Prob} {k : Nat} (h : k < p.tabs.length) (hz : startHeld p (p.tabs.getD k nilT) = 0) : hs0 p k = hs0 p (k + 1) := by
 refine list_ext (by rw [hs0_len (by omega), hs0_len (by omega)]) fun j hj => ?_
 rw [hs0_len (by omega)] at hj
 rw [hs0_get hj, hs0_get hj]
 by_cases e : j = k
 ·subst e; rw [if_neg (by omega), if_pos (by omega), hz]
 ·by_cases c : j < k
  ·rw [if_pos c, if_pos (by omega)]
  ·rw [if_neg c, if_neg (by omega)]
theorem pstart_fn (p : Prob) (h : vpErr p = 0) : FnSound Tryz.prog 57 [.val true (probC p)] [] { vals := [(true, mixC (startM p)), (false, [.d (.v (.int .i64 0))])] } := by
 have hvp := vp_all h
 have hl6 : p.now.length ≤ 6 := by omega
 have hz0 := @hs0_len p
 refine startW (tm := [(0, _)]) Tryz.func57 rfl Tryz.ntmps57 rfl rfl rfl rfl ?_
 repeat' (first
 |(with_reducible refine K_ca 87 ?_); refine zC (pvpOK_fn h) ?_
 |(with_reducible refine K_ca 91 ?_); refine zS (cloneInts_fn p.now (by omega)) ?_
 |(with_reducible refine K_ca 92 ?_); refine zS (repeatN_fn p.now.length hl6) ?_
 |(with_reducible refine K_ca 93 ?_); refine zC (pstored_fn (p.tabs.getD j nilT)) ?_
 |(with_reducible refine blk_at (id := 0) ?_); (try (refine JL.zeroBW (cs2 := [_, _, _]) (832, 500) 0 _ 3 1 rfl rfl rfl rfl ?_)); (refine JL.rekBW (cs2 := [_, _, _]) (832, 500) 0 (1080, 651) rfl rfl rfl rfl rfl rfl ?_); (try (refine JL.zeroBW (cs2 := [_, _, _]) (832, 500) 1 _ 3 1 rfl rfl rfl rfl ?_)); (refine JL.rekBW (cs2 := [_, _, _]) (832, 500) 1 (1081, 653) rfl rfl rfl rfl rfl rfl ?_); (try (refine JL.zeroBW (cs2 := [_, _, _]) (832, 500) 2 _ 146 1 rfl rfl rfl rfl ?_)); (refine JL.rekBW (cs2 := [_, _, _]) (832, 500) 2 (1082, 655) rfl rfl rfl rfl rfl rfl ?_); ((with_reducible refine JL.loopW 0 699 (fun (j : Nat) tm => (30, .one false [.d (.v (.int .i64 ((j : Int))))]) :: tm) (fun (j : Nat) bo => ((832, 500), some (.st 45 [.own (1080, 651), .own (1081, 653), .own (1082, 655)])) :: ((1080, 651), some (.sl 3 1 ((dInts p.now)))) :: ((1081, 653), some (.sl 3 1 ((dInts (List.replicate p.now.length (-1)))))) :: ((1082, 655), some (.sl 146 1 ((dSets (hs0 p j))))) :: bo) (fun (j : Nat) => j ≤ p.tabs.length) (fun (j : Nat) => p.tabs.length - j) (0) ?_ (fun j hj => have htn := tabN h j; have hnw := hvp.2.2.2.2 (p.tabs.getD j nilT).frm.toNat; have hzl := hz0 hj; ?_) ?_); (focus (apply SubW [((1080, 651), _), ((1081, 653), _), ((1082, 655), _)] rfl ?_ ?_ rfl ?_; (repeat' (first | exact kA | refine kB ?_ | refine kC ?_ ?_ | exact kD | fail)))))
 |((with_reducible refine round_next (i := j) (j + 1) ?_ ?_ ?_); (focus (apply SubW [((1080, 651), _), ((1081, 653), _), ((1082, 655), _)] rfl ?_ ?_ rfl ?_; (repeat' (first | exact kA | refine kB ?_ | refine kC ?_ ?_ | exact kD | fail)))))
 |refine wA ?_
 |(refine wC ?_ ?_ <;> intro hc)
 |refine wB ?_ ?_
 |(with_reducible refine JL.block ?_)
 |(with_reducible refine F_at ?_); refine eW (vs := [(_, _), (_, _)]) Tryz.results57 ?_; (focus (repeat' (first | exact oA | refine oB ?_ | refine oC ?_ ?_ | fail)))
 |exact oM
 |fail)
 all_goals first
  | (rw [Int.toNat_natCast, hs0_0]; done)
  | (rw [Int.toNat_natCast, ← hs0_set (by omega)]; congr 2; unfold startHeld storedB; rw [if_pos (decide_eq_true hc)]; rfl)
  | (rw [← hs0_keep (by omega) (by unfold startHeld storedB; rw [if_neg (fun h => hc (of_decide_eq_true h))])])
  | rfl
  | (rw [hvp.2.2.1]; rfl)
  | (rw [hs0_all (by omega) (by omega)]; rfl)
end Go.Proofs.YtngjhkgcfabciaaGreat

namespace Go.Proofs.YtngjhkgcfabciaaGreat
open Go Go.RowKit
set_option maxRecDepth 100000
set_option maxHeartbeats 8000000
set_option linter.unusedSimpArgs false
set_option linter.unusedVariables false
theorem hasV_y {s : Int} {v : Nat} (h : ¬ bits BinOp.and IntKind.u8 (s / 2 ^ ((v : Nat) : Int).toNat) 1 = 0) : hasV s v = true := by
 have h : ¬ bitOf s v = 0 := h
 have := bit01 s v
 exact decide_eq_true (this.resolve_left h)
theorem hasV_n {s : Int} {v : Nat} (h : bits BinOp.and IntKind.u8 (s / 2 ^ ((v : Nat) : Int).toNat) 1 = 0) : hasV s v = false := hasV_no.1 h
theorem wr_y {p : Prob} {m : MixD} {i : Nat} {t : Tab} (h : t.kind = 3 ∨ t.kind = 4) : writers p m i t = m.held.getD i 0 := by unfold writers storedB; rw [if_pos (decide_eq_true h)]
theorem wr_n {p : Prob} {m : MixD} {i : Nat} {t : Tab} (h : ¬ (t.kind = 3 ∨ t.kind = 4)) : writers p m i t = runS m t.frm := by unfold writers storedB; rw [if_neg (fun a => h (of_decide_eq_true a))]
theorem bl1 {a b : Bool} (h : (!a) = true) : (!b) = (!a && !b) := by rw [h]; rfl
theorem bl2 {a b : Bool} (h : (!a) = false) : false = (!a && !b) := by rw [h]; rfl
theorem bl3 {a b : Bool} (h : a = true) : (!b) = (a && !b) := by rw [h]; rfl
theorem bl4 {a b : Bool} (h : a = false) : false = (a && !b) := by rw [h]; rfl
theorem cf1z {p : Prob} {m : MixD} : [] = dConfs (cf1 p m 0) := rfl
theorem rd3s {p : Prob} {m : MixD} {i u v : Nat} (h : ¬ bits BinOp.and IntKind.u8 (runS m (p.tabs.getD i nilT).tto / 2 ^ ((v : Nat) : Int).toNat) 1 = 0) : (rd3 p m i u v || ((p.tabs.getD i nilT).ok.getD u []).getD v false) = rd3 p m i u (v + 1) := by
 rw [rd3_step, hasV_y h, Bool.true_and]; rfl
theorem cf3y {p : Prob} {m : MixD} {i u v : Nat} (h : ¬ bits BinOp.and IntKind.u8 (runS m (p.tabs.getD i nilT).tto / 2 ^ ((v : Nat) : Int).toNat) 1 = 0) (hc : (!((p.tabs.getD i nilT).ok.getD u []).getD v false && !(p.tabs.getD i nilT).aware) = true) : dConfs (cf1 p m i ++ (cf2 p m i u ++ cf3 p m i u v) ++ [⟨(i : Int), (u : Int), (v : Int)⟩]) = dConfs (cf1 p m i ++ (cf2 p m i u ++ cf3 p m i u (v + 1))) := by
 simp only [Bool.and_eq_true, Bool.not_eq_true'] at hc
 rw [cf3_yes (hasV_y h) hc.2 hc.1]; simp only [List.append_assoc]
theorem conf_fn (p : Prob) (m : MixD) (hm : MixIn p m) : FnSound Tryz.prog 120 [.val true (probC p), .val true (mixC m)] [] { vals := [(false, [.d (.sl 3 (dConfs (foundP p m)))])] } := by
 have hvp := vp_all hm.vp
 have hlh := hm.lh
 refine startW (tm := [(0, _), (1, _)]) Tryz.func120 rfl Tryz.ntmps120 rfl rfl rfl rfl ?_
 repeat' (first
 |((with_reducible refine cond_at (t := 31) ?_); (refine JL.cutW 802 (fun tm => (8, .one false [.d (.v (.int .u8 ((writers p m i (p.tabs.getD i nilT)))))]) :: tm) (fun bo => bo) ?_ ?_))
 |((with_reducible refine reg2_at (id := 17) ?_); (refine JL.cutW 1802 (fun tm => (11, .one false [.d (.v (.bool ((rd3 p m i u v || ((p.tabs.getD i nilT).ok.getD u []).getD v false))))]) :: tm) (fun bo => bo) ?_ ?_))
 |((with_reducible refine reg2_at (id := 18) ?_); (refine JL.cutW 1902 (fun tm => (74, .one false [.d (.v (.bool ((!((p.tabs.getD i nilT).ok.getD u []).getD v false && !(p.tabs.getD i nilT).aware))))]) :: tm) (fun bo => bo) ?_ ?_))
 |((with_reducible refine reg2_at (id := 21) ?_); (refine JL.cutW 2202 (fun tm => (88, .one false [.d (.v (.bool (((p.tabs.getD i nilT).aware && !rd3 p m i u v))))]) :: tm) (fun bo => bo) ?_ ?_))
 |((with_reducible refine AtJ.mk rfl ?_); (focus (apply SubW [] rfl ?_ ?_ rfl ?_; (repeat' (first | exact kA | refine kB ?_ | refine kC ?_ ?_ | exact kD | fail)))))
 |(with_reducible refine K_ca 125 ?_); (first
 |refine zC (prun_fn m (p.tabs.getD i nilT).frm (by omega) (by omega) (by omega)) ?_
 |refine zC (prun_fn m (p.tabs.getD i nilT).tto (by omega) (by omega) (by omega)) ?_)
 |(with_reducible refine K_ca 93 ?_); refine zC (pstored_fn (p.tabs.getD i nilT)) ?_
 |(with_reducible refine blk_at (id := 0) ?_); (try (refine JL.zeroW 5 _ 158 3 rfl rfl ?_)); (refine JL.rekW 5 (1080, 351) rfl rfl rfl rfl ?_); ((with_reducible refine JL.loopW 0 399 (fun (i : Nat) tm => (17, .one false [.d (.v (.int .i64 ((i : Int))))]) :: (5, .one false [.own (1080, 351)]) :: tm) (fun (i : Nat) bo => ((1080, 351), some (.sl 158 3 ((dConfs (cf1 p m i))))) :: bo) (fun (i : Nat) => i ≤ p.tabs.length) (fun (i : Nat) => p.tabs.length - i) (0) ?_ (fun i hi => have htn := tabN hm.vp i; have hlen := tabLen hm.vp i; have hl1 := cf1_len (m := m) hm.vp i; have hmf := hm.nn (p.tabs.getD i nilT).frm; have hmt := hm.nn (p.tabs.getD i nilT).tto; ?_) ?_); (focus (apply SubW [((1080, 351), _)] rfl ?_ ?_ rfl ?_; (repeat' (first | exact kA | refine kB ?_ | refine kC ?_ ?_ | exact kD | fail)))))
 |((with_reducible refine round_next (i := i) (i + 1) ?_ ?_ ?_); (focus (apply SubW [((1080, 351), _)] rfl ?_ ?_ rfl ?_; (repeat' (first | exact kA | refine kB ?_ | refine kC ?_ ?_ | exact kD | fail)))))
 |(with_reducible refine blk_at (id := 2) ?_); (try (refine JL.zeroW 5 _ 158 3 rfl rfl ?_)); (refine JL.rekW 5 (1080, 951) rfl rfl rfl rfl ?_); ((with_reducible refine JL.loopW 2 999 (fun (u : Nat) tm => (40, .one false [.d (.v (.int .i64 ((u : Int))))]) :: (5, .one false [.own (1080, 951)]) :: tm) (fun (u : Nat) bo => ((1080, 951), some (.sl 158 3 ((dConfs (cf1 p m i ++ cf2 p m i u))))) :: bo) (fun (u : Nat) => u ≤ (p.tabs.getD i nilT).ok.length) (fun (u : Nat) => (p.tabs.getD i nilT).ok.length - u) (0) ?_ (fun u hu => have hok := tabOK hm.vp i u; have hl2 := cf2_len (m := m) (i := i) (vs_le hm.vp _) u; ?_) ?_); (focus (apply SubW [((1080, 951), _)] rfl ?_ ?_ rfl ?_; (repeat' (first | exact kA | refine kB ?_ | refine kC ?_ ?_ | exact kD | fail)))))
 |((with_reducible refine round_next (i := u) (u + 1) ?_ ?_ ?_); (focus (apply SubW [((1080, 951), _)] rfl ?_ ?_ rfl ?_; (repeat' (first | exact kA | refine kB ?_ | refine kC ?_ ?_ | exact kD | fail)))))
 |(with_reducible refine blk_at (id := 4) ?_); (try (refine JL.zeroW 5 _ 158 3 rfl rfl ?_)); (refine JL.rekW 5 (1080, 1451) rfl rfl rfl rfl ?_); ((with_reducible refine JL.loopW 4 1499 (fun (v : Nat) tm => (54, .one false [.d (.v (.int .i64 ((v : Int))))]) :: (11, .one false [.d (.v (.bool ((rd3 p m i u v))))]) :: (5, .one false [.own (1080, 1451)]) :: tm) (fun (v : Nat) bo => ((1080, 1451), some (.sl 158 3 ((dConfs (cf1 p m i ++ (cf2 p m i u ++ cf3 p m i u v)))))) :: bo) (fun (v : Nat) => v ≤ ((p.tabs.getD i nilT).ok.getD u []).length) (fun (v : Nat) => ((p.tabs.getD i nilT).ok.getD u []).length - v) (0) ?_ (fun v hv => have hcl := cf3_len (p := p) (m := m) (i := i) (u := u) v; ?_) ?_); (focus (apply SubW [((1080, 1451), _)] rfl ?_ ?_ rfl ?_; (repeat' (first | exact kA | refine kB ?_ | refine kC ?_ ?_ | exact kD | fail)))))
 |((with_reducible refine round_next (i := v) (v + 1) ?_ ?_ ?_); (focus (apply SubW [((1080, 1451), _)] rfl ?_ ?_ rfl ?_; (repeat' (first | exact kA | refine kB ?_ | refine kC ?_ ?_ | exact kD | fail)))))
 |refine wA ?_
 |(refine wC ?_ ?_ <;> intro hc)
 |refine wB ?_ ?_
 |(with_reducible refine JL.block ?_)
 |(with_reducible refine F_at ?_); refine eW (vs := [(_, _)]) Tryz.results120 ?_; (focus (repeat' (first | exact oA | refine oB ?_ | refine oC ?_ ?_ | fail)))
 |exact oM
 |fail)
 all_goals first
  | with_reducible exact cf1z
  | with_reducible exact bl1 hc
  | with_reducible exact bl2 hc
  | with_reducible exact bl3 hc
  | with_reducible exact bl4 hc
  | with_reducible exact rd3s (by assumption)
  | with_reducible exact cf3y (by assumption) hc
  | with_reducible rfl
  | with_reducible exact rd3_0.symm
  | (with_reducible rw [cf1_0]; rfl)
  | with_reducible exact (wr_y hc).symm
  | with_reducible exact (wr_n hc).symm
  | (rw [cf2_0, List.append_nil]; done)
  | (rw [cf3_0, List.append_nil]; done)
  | (with_reducible rw [cf2_no (hasV_n hc)]; done)
  | (with_reducible rw [rd3_step, hasV_n hc, Bool.false_and, Bool.or_false]; done)
  | (with_reducible rw [cf3_no (.inl (hasV_n hc))]; done)
  | (with_reducible rw [rd3_step, hasV_y (s := runS m (p.tabs.getD i nilT).tto) (by assumption), Bool.true_and]; rfl)
  | (have h2 := hc; (with_reducible rw [Bool.and_eq_true, Bool.not_eq_true', Bool.not_eq_true'] at h2); (with_reducible rw [cf3_yes (hasV_y (by assumption)) h2.2 h2.1]); simp only [List.append_assoc]; done)
  | (have h2 := hc; (with_reducible rw [Bool.and_eq_false_iff, Bool.not_eq_false', Bool.not_eq_false'] at h2); (with_reducible rw [cf3_no (.inr h2.symm)]); done)
  | ((with_reducible rw [cf2_yes (v := v) (hasV_y (by assumption)) (by omega) (by omega), if_pos hc]); simp only [List.append_assoc]; done)
  | ((with_reducible rw [cf2_yes (v := v) (hasV_y (by assumption)) (by omega) (by omega), if_neg (by rw [hc]; decide), List.append_nil]); done)
  | (with_reducible rw [cf1_step (u := u) (by omega) (by omega)]; done)
  | (with_reducible rw [cf1_all (by omega) (by omega)]; done)
  | (simp [hc]; done)
  | trace_state
end Go.Proofs.YtngjhkgcfabciaaGreat

namespace Go.Proofs.YtngjhkgcfabciaaGreat
open Go Go.RowKit
set_option maxRecDepth 100000
set_option maxHeartbeats 8000000
set_option linter.unusedSimpArgs false
set_option linter.unusedVariables false
theorem paborts0_fn (p : Prob) (m : MixD) (hu : u8s m.held) (h : ¬ mixErr p m = 0) : FnSound Tryz.prog 119 [.val true (probC p), .val true (mixC m)] [] { vals := [(false, [.d (.sl 3 (dMixes []))]), (false, [.d (.v (.int .i64 (mixErr p m)))])] } := by
 refine startW (tm := [(0, _), (1, _)]) Tryz.func119 rfl Tryz.ntmps119 rfl rfl rfl rfl ?_
 repeat' (first
 |(with_reducible refine K_ca 112 ?_); refine zC (pmixValid_fn p m hu) ?_
 |refine wA ?_
 |(refine wC ?_ ?_ <;> intro hc)
 |refine wB ?_ ?_
 |(with_reducible refine JL.block ?_)
 |(with_reducible refine F_at ?_); refine eW (vs := [(_, _), (_, _)]) Tryz.results119 ?_; (focus (repeat' (first | exact oA | refine oB ?_ | refine oC ?_ ?_ | fail)))
 |exact oM
 |fail)
 all_goals first | rfl | exact absurd hc h
theorem paborts_fn (p : Prob) (m : MixD) (hu : u8s m.held) (h : mixErr p m = 0) : FnSound Tryz.prog 119 [.val true (probC p), .val true (mixC m)] [] { vals := [(false, [.d (.sl 3 (dMixes (allP m)))]), (false, [.d (.v (.int .i64 0))])] } := by
 have hf := (mixIn_of h).few
 obtain ⟨h1, h2, h3⟩ := hf
 have hon := openN_le m.next
 have hlo := fun n (hn : n ≤ m.next.length) => openI_len hn
 have hat := fun b n (hn : n ≤ m.next.length) => openI_at (b := b) hn
 have hall : openN (m.next.take m.next.length) = openN m.next := by rw [List.take_length]
 have hl6 := hlo m.next.length (Nat.le_refl _)
 have hpw := pow_open (n := openN m.next) (by omega)
 refine startW (tm := [(0, _), (1, _)]) Tryz.func119 rfl Tryz.ntmps119 rfl rfl rfl rfl ?_
 repeat' (first
 |(with_reducible refine reg_at (id := 22) ?_); (try (refine JL.shutBW (cs2 := [_, _, _]) (640, 1600) 0 rfl rfl rfl rfl ?_)); (try (refine JL.shutBW (cs2 := [_, _, _]) (640, 1600) 1 rfl rfl rfl rfl ?_)); (try (refine JL.shutBW (cs2 := [_, _, _]) (640, 1600) 2 rfl rfl rfl rfl ?_)); (with_reducible refine rg ?_ ?_); exact rfl
 |(with_reducible refine K_ca 112 ?_); refine zC (pmixValidOK_fn hu h) ?_
 |(with_reducible refine K_ca 91 ?_); (first
 |refine zS (cloneInts_fn m.base (by omega)) ?_
 |refine zS (cloneInts_fn m.next (by omega)) ?_)
 |(with_reducible refine K_ca 131 ?_); refine zS (cloneSets_fn m.held (by omega)) ?_
 |(with_reducible refine blk_at (id := 0) ?_); (try (refine JL.zeroW 7 _ 3 1 rfl rfl ?_)); (refine JL.rekW 7 (1112, 651) rfl rfl rfl rfl ?_); ((with_reducible refine JL.loopW 0 699 (fun (i : Nat) tm => (24, .one false [.d (.v (.int .i64 ((i : Int))))]) :: (7, .one false [.own (1112, 651)]) :: tm) (fun (i : Nat) bo => ((1112, 651), some (.sl 3 1 ((dInts (openI m.next i))))) :: bo) (fun (i : Nat) => i ≤ m.next.length) (fun (i : Nat) => m.next.length - i) (0) ?_ (fun i hi => have ho := hlo i hi; have hoo := openN_mono m.next i; ?_) ?_); (focus (apply SubW [((1112, 651), _)] rfl ?_ ?_ rfl ?_; (repeat' (first | exact kA | refine kB ?_ | refine kC ?_ ?_ | exact kD | fail)))))
 |((with_reducible refine round_next (i := i) (i + 1) ?_ ?_ ?_); (focus (apply SubW [((1112, 651), _)] rfl ?_ ?_ rfl ?_; (repeat' (first | exact kA | refine kB ?_ | refine kC ?_ ?_ | exact kD | fail)))))
 |(with_reducible refine blk_at (id := 2) ?_); (try (refine JL.zeroW 10 _ 45 3 rfl rfl ?_)); (refine JL.rekW 10 (1160, 1351) rfl rfl rfl rfl ?_); ((with_reducible refine JL.loopW 2 1399 (fun (k : Nat) tm => (39, .one false [.d (.v (.int .i64 ((k : Int))))]) :: (10, .one false [.own (1160, 1351)]) :: tm) (fun (k : Nat) bo => ((1160, 1351), some (.sl 45 3 ((dMixes ((List.range k).map (abM m)))))) :: bo) (fun (k : Nat) => k ≤ 2 ^ openN m.next ∧ i = m.next.length) (fun (k : Nat) => 2 ^ openN m.next - k) (0) ?_ (fun k hk => have hle : (openI m.next i).length = openN m.next := (by rw [hlo i hi, hk.2, hall]); ?_) ?_); (focus (apply SubW [((1160, 1351), _)] rfl ?_ ?_ rfl ?_; (repeat' (first | exact kA | refine kB ?_ | refine kC ?_ ?_ | exact kD | fail)))))
 |((with_reducible refine round_next (i := k) (k + 1) ?_ ?_ ?_); (focus (apply SubW [((1160, 1351), _)] rfl ?_ ?_ rfl ?_; (repeat' (first | exact kA | refine kB ?_ | refine kC ?_ ?_ | exact kD | fail)))))
 |(with_reducible refine blk_at (id := 4) ?_); (try (refine JL.zeroBW (cs2 := [_, _, _]) (640, 1600) 0 _ 3 1 rfl rfl rfl rfl ?_)); (refine JL.rekBW (cs2 := [_, _, _]) (640, 1600) 0 (1192, 1751) rfl rfl rfl rfl rfl rfl ?_); (try (refine JL.zeroBW (cs2 := [_, _, _]) (640, 1600) 1 _ 3 1 rfl rfl rfl rfl ?_)); (refine JL.rekBW (cs2 := [_, _, _]) (640, 1600) 1 (1193, 1753) rfl rfl rfl rfl rfl rfl ?_); (try (refine JL.zeroBW (cs2 := [_, _, _]) (640, 1600) 2 _ 146 1 rfl rfl rfl rfl ?_)); (refine JL.rekBW (cs2 := [_, _, _]) (640, 1600) 2 (1194, 1755) rfl rfl rfl rfl rfl rfl ?_); ((with_reducible refine JL.loopW 4 1799 (fun (b : Nat) tm => (54, .one false [.d (.v (.int .i64 ((b : Int))))]) :: tm) (fun (b : Nat) bo => ((640, 1600), some (.st 45 [.own (1192, 1751), .own (1193, 1753), .own (1194, 1755)])) :: ((1192, 1751), some (.sl 3 1 ((dInts m.base)))) :: ((1193, 1753), some (.sl 3 1 ((dInts (abB m.next k b))))) :: ((1194, 1755), some (.sl 146 1 ((dSets m.held)))) :: bo) (fun (b : Nat) => b ≤ (openI m.next i).length) (fun (b : Nat) => (openI m.next i).length - b) (0) ?_ (fun b hb => have hal := abB_len (l := m.next) (k := k) (b := b); ?_) ?_); (focus (apply SubW [((1192, 1751), _), ((1193, 1753), _), ((1194, 1755), _)] rfl ?_ ?_ rfl ?_; (repeat' (first | exact kA | refine kB ?_ | refine kC ?_ ?_ | exact kD | fail)))))
 |((with_reducible refine round_next (i := b) (b + 1) ?_ ?_ ?_); (focus (apply SubW [((1192, 1751), _), ((1193, 1753), _), ((1194, 1755), _)] rfl ?_ ?_ rfl ?_; (repeat' (first | exact kA | refine kB ?_ | refine kC ?_ ?_ | exact kD | fail)))))
 |refine wA ?_
 |(refine wC ?_ ?_ <;> intro hc)
 |refine wB ?_ ?_
 |(with_reducible refine JL.block ?_)
 |(with_reducible refine F_at ?_); refine eW (vs := [(_, _), (_, _)]) Tryz.results119 ?_; (focus (repeat' (first | exact oA | refine oB ?_ | refine oC ?_ ?_ | fail)))
 |exact oM
 |fail)
 all_goals first
  | rfl
  | (rw [openI_yes hc]; done)
  | (rw [openI_no hc]; done)
  | (rw [abB_0]; done)
  | (obtain ⟨i', e1, e2, e3, e4⟩ := hat b i hi (by omega); rw [Int.toNat_natCast, e1]; (try simp only [dInts_len, Int.toNat_natCast]); omega)
  | (obtain ⟨i', e1, e2, e3, e4⟩ := hat b i hi (by omega); rw [Int.toNat_natCast, e1, Int.toNat_natCast, abB_set (i := i') (by omega) e3 e4 ((andI1 k b).1 hc)]; done)
  | (obtain ⟨i', e1, e2, e3, e4⟩ := hat b i hi (by omega); rw [abB_keep (i := i') (by omega) e3 e4 (fun a => hc ((andI1 k b).2 a))]; done)
  | (rw [abB_all (by omega), List.range_succ, List.map_append]; rfl)
  | (refine ⟨?_, hk.2⟩; rw [hle] at *; omega)
  | (rw [hle] at *; omega)
  | (have e : k = 2 ^ openN m.next := by
       rw [hle, hpw.1] at hc
       have := hk.1
       omega
     rw [e]; rfl)
  | trace_state
theorem allP_few {m : MixD} (h : m.next.length ≤ 12) : (allP m).length ≤ 4096 := by
 have h1 := openN_le m.next
 have h3 := (pow_open (n := openN m.next) (by omega)).2.1
 rw [allP_len]; omega
theorem pgoalx_fn (v : Int) : FnSound Tryz.prog 122 [.val false [.d (.v (.int .i64 v))]] [] { vals := [(false, [.d (.v (.bool (decide (0 ≤ v))))])] } := by
 refine startW (tm := [(0, _)]) Tryz.func122 rfl Tryz.ntmps122 rfl rfl rfl rfl ?_
 repeat' (first
 |refine wA ?_
 |(refine wC ?_ ?_ <;> intro hc)
 |refine wB ?_ ?_
 |(with_reducible refine JL.block ?_)
 |(with_reducible refine F_at ?_); refine eW (vs := [(_, _)]) Tryz.results122 ?_; (focus (repeat' (first | exact oA | refine oB ?_ | refine oC ?_ ?_ | fail)))
 |exact oM
 |fail)
theorem eq_no {a b : List Int} {k : Nat} (h : ¬ a.getD k 0 = b.getD k 0) : ¬ a = b := fun e => h (by rw [e])
theorem eqInts_fn (a b : List Int) (ha : a.length ≤ 1000000) : FnSound Tryz.prog 121 [.val false [.d (.sl 1 (dInts a))], .val false [.d (.sl 1 (dInts b))]] [] { vals := [(false, [.d (.v (.bool (decide (a = b))))])] } := by
 refine startW (tm := [(0, _), (1, _)]) Tryz.func121 rfl Tryz.ntmps121 rfl rfl rfl rfl ?_
 repeat' (first
 |(with_reducible refine blk_at (id := 0) ?_); ((with_reducible refine JL.loopW 0 499 (fun (k : Nat) tm => (13, .one false [.d (.v (.int .i64 ((k : Int))))]) :: tm) (fun (k : Nat) bo => bo) (fun (k : Nat) => k ≤ a.length ∧ a.length = b.length ∧ ∀ j, j < k → a.getD j 0 = b.getD j 0) (fun (k : Nat) => a.length - k) (0) ?_ (fun k hk => ?_) ?_); (focus (apply SubW [] rfl ?_ ?_ rfl ?_; (repeat' (first | exact kA | refine kB ?_ | refine kC ?_ ?_ | exact kD | fail)))))
 |((with_reducible refine round_next (i := k) (k + 1) ?_ ?_ ?_); (focus (apply SubW [] rfl ?_ ?_ rfl ?_; (repeat' (first | exact kA | refine kB ?_ | refine kC ?_ ?_ | exact kD | fail)))))
 |refine wA ?_
 |(refine wC ?_ ?_ <;> intro hc)
 |refine wB ?_ ?_
 |(with_reducible refine JL.block ?_)
 |(with_reducible refine F_at ?_); refine eW (vs := [(_, _)]) Tryz.results121 ?_; (focus (repeat' (first | exact oA | refine oB ?_ | refine oC ?_ ?_ | fail)))
 |exact oM
 |fail)
 all_goals first
  | exact (decide_eq_false (fun e => hc (by rw [e]))).symm
  | exact (decide_eq_false (eq_no hc)).symm
  | (refine ⟨by omega, hk.2.1, fun j hj => ?_⟩; by_cases e : j = k; (subst e; exact hc); exact hk.2.2 j (by omega))
  | exact (decide_eq_true (list_ext hk.2.1 fun j hj => hk.2.2 j (by omega))).symm
  | exact ⟨Nat.zero_le _, by omega, fun j hj => absurd hj (Nat.not_lt_zero j)⟩
def idxFrom (q : Int → Bool) : List Int → Nat → Int
 | [], _ => -1
 | x :: r, i => if q x = true then (i : Int) else idxFrom q r (i + 1)
theorem idx_any {q : Int → Bool} : ∀ {l : List Int} {i : Nat}, decide (0 ≤ idxFrom q l i) = l.any q
 | [], i => rfl
 | x :: r, i => by
  unfold idxFrom
  rw [List.any_cons]
  by_cases h : q x = true
  ·rw [if_pos h, h]; simp
  ·rw [if_neg h, idx_any (l := r)]; simp at h; simp [h]
theorem dropI_cons {l : List Int} {k : Nat} (h : k < l.length) : l.drop k = l.getD k 0 :: l.drop (k + 1) := by
 rw [List.drop_eq_getElem_cons h, List.getD_eq_getElem?_getD, List.getElem?_eq_getElem h]; rfl
theorem idx_fn (F : FuncId) (q : Int → Bool) (hb : BoI Tryz.prog F) (hF : ∀ v, FnSound Tryz.prog F [.val false [.d (.v (.int .i64 v))]] [] { vals := [(false, [.d (.v (.bool (q v)))])] }) (xs : List Int) (hl : xs.length ≤ 1000000) : FnSound Tryz.prog 108 [.val false [.d (.sl 1 (dInts xs))], .val false [.d (.v (.func (.func F) #[] #[]))]] [] { vals := [(false, [.d (.v (.int .i64 (idxFrom q xs 0)))])] } := by
 refine startW (tm := [(0, _), (1, _)]) Tryz.func108 rfl Tryz.ntmps108 rfl rfl rfl rfl ?_
 repeat' (first
 |(with_reducible refine W_at ?_); (first
 |(refine W.callV (g := F) rfl hb rfl (hF (xs.getD k 0)) rfl rfl rfl ?_))
 |(with_reducible refine blk_at (id := 0) ?_); ((with_reducible refine JL.loopW 0 299 (fun (k : Nat) tm => (8, .one false [.d (.v (.int .i64 ((k : Int))))]) :: tm) (fun (k : Nat) bo => bo) (fun (k : Nat) => k ≤ xs.length ∧ idxFrom q (xs.drop k) k = idxFrom q xs 0) (fun (k : Nat) => xs.length - k) (0) ?_ (fun k hk => ?_) ?_); (focus (apply SubW [] rfl ?_ ?_ rfl ?_; (repeat' (first | exact kA | refine kB ?_ | refine kC ?_ ?_ | exact kD | fail)))))
 |((with_reducible refine round_next (i := k) (k + 1) ?_ ?_ ?_); (focus (apply SubW [] rfl ?_ ?_ rfl ?_; (repeat' (first | exact kA | refine kB ?_ | refine kC ?_ ?_ | exact kD | fail)))))
 |refine wA ?_
 |(refine wC ?_ ?_ <;> intro hc)
 |refine wB ?_ ?_
 |(with_reducible refine JL.block ?_)
 |(with_reducible refine F_at ?_); refine eW (vs := [(_, _)]) Tryz.results108 ?_; (focus (repeat' (first | exact oA | refine oB ?_ | refine oC ?_ ?_ | fail)))
 |exact oM
 |fail)
 all_goals first
  | (rw [← hk.2, dropI_cons (by omega)]; unfold idxFrom; rw [if_pos hc])
  | (refine ⟨by omega, ?_⟩; rw [← hk.2, dropI_cons (k := k) (by omega)]; conv => rhs; unfold idxFrom
     rw [if_neg (by rw [hc]; decide)])
  | (rw [← hk.2, List.drop_eq_nil_of_le (by omega)]; rfl)
  | exact ⟨Nat.zero_le _, rfl⟩
  | trace_state
theorem contains_fn (F : FuncId) (q : Int → Bool) (hb : BoI Tryz.prog F) (hF : ∀ v, FnSound Tryz.prog F [.val false [.d (.v (.int .i64 v))]] [] { vals := [(false, [.d (.v (.bool (q v)))])] }) (xs : List Int) (hl : xs.length ≤ 1000000) : FnSound Tryz.prog 88 [.val false [.d (.sl 1 (dInts xs))], .val false [.d (.v (.func (.func F) #[] #[]))]] [] { vals := [(false, [.d (.v (.bool (xs.any q)))])] } := by
 rw [← idx_any (i := 0)]
 refine startW (tm := [(0, _), (1, _)]) Tryz.func88 rfl Tryz.ntmps88 rfl rfl rfl rfl ?_
 repeat' (first
 |(with_reducible refine K_ca 108 ?_); refine zC (idx_fn F q hb hF xs hl) ?_
 |refine wA ?_
 |(refine wC ?_ ?_ <;> intro hc)
 |refine wB ?_ ?_
 |(with_reducible refine JL.block ?_)
 |(with_reducible refine F_at ?_); refine eW (vs := [(_, _)]) Tryz.results88 ?_; (focus (repeat' (first | exact oA | refine oB ?_ | refine oC ?_ ?_ | fail)))
 |exact oM
 |fail)
theorem goal_is {p : Prob} {m : MixD} (h : mixErr p m = 0) : goalP p m = (decide (m.base = p.tgt) && !m.next.any (fun v => decide (0 ≤ v))) := by
 have hm := mixIn_of h
 have hv := vp_all hm.vp
 have h1 := hm.lb; have h2 := hm.ln
 unfold goalP
 rw [decide_eq_true h, Bool.true_and, Bool.eq_iff_iff, Bool.and_eq_true, List.all_eq_true, Bool.not_eq_true', List.any_eq_false]
 constructor
 ·intro ha
  refine ⟨decide_eq_true (list_ext (by omega) fun j hj => ?_), fun x hx => ?_⟩
  ·have := ha j (List.mem_range.2 hj)
   simp only [goalI, Bool.and_eq_true, decide_eq_true_eq] at this
   exact this.2
  ·obtain ⟨i, hi, rfl⟩ := List.getElem_of_mem hx
   have := ha i (List.mem_range.2 (by omega))
   simp only [goalI, Bool.and_eq_true, decide_eq_true_eq] at this
   have e : m.next.getD i 0 = m.next[i] := by rw [List.getD_eq_getElem?_getD, List.getElem?_eq_getElem hi]; rfl
   rw [e] at this
   simp; exact this.1
 ·rintro ⟨a, b⟩ i hi
  have hi := List.mem_range.1 hi
  have a := of_decide_eq_true a
  have hb := b _ (int_getD_mem (l := m.next) (k := i) (by omega))
  simp at hb
  simp only [goalI, Bool.and_eq_true, decide_eq_true_eq]
  exact ⟨hb, by rw [a]⟩
theorem pgoal_fn (p : Prob) (m : MixD) (hu : u8s m.held) : FnSound Tryz.prog 110 [.val true (probC p), .val true (mixC m)] [] { vals := [(false, [.d (.v (.bool (goalP p m)))])] } := by
 by_cases h : mixErr p m = 0
 ·rw [goal_is h]
  have hf := (mixIn_of h).few
  obtain ⟨h1, h2, h3⟩ := hf
  refine startW (tm := [(0, _), (1, _)]) Tryz.func110 rfl Tryz.ntmps110 rfl rfl rfl rfl ?_
  repeat' (first
 |(with_reducible refine K_ca 112 ?_); refine zC (pmixValidOK_fn hu h) ?_
 |(with_reducible refine K_ca 121 ?_); refine zC (eqInts_fn m.base p.tgt (by omega)) ?_
 |(with_reducible refine K_ca 88 ?_); refine zC (contains_fn 122 (fun v => decide (0 ≤ v)) ⟨by kernel_rfl⟩ pgoalx_fn m.next (by omega)) ?_
 |refine wA ?_
 |(refine wC ?_ ?_ <;> intro hc)
 |refine wB ?_ ?_
 |(with_reducible refine JL.block ?_)
 |(with_reducible refine F_at ?_); refine eW (vs := [(_, _)]) Tryz.results110 ?_; (focus (repeat' (first | exact oA | refine oB ?_ | refine oC ?_ ?_ | fail)))
 |exact oM
 |fail)
  all_goals first
   | (rw [decide_eq_true hc, Bool.true_and]; done)
   | (rw [decide_eq_false hc, Bool.false_and]; done)
   | trace_state
 ·rw [goal_bad h]
  refine startW (tm := [(0, _), (1, _)]) Tryz.func110 rfl Tryz.ntmps110 rfl rfl rfl rfl ?_
  repeat' (first
 |(with_reducible refine K_ca 112 ?_); refine zC (pmixValid_fn p m hu) ?_
 |refine wA ?_
 |(refine wC ?_ ?_ <;> intro hc)
 |refine wB ?_ ?_
 |(with_reducible refine JL.block ?_)
 |(with_reducible refine F_at ?_); refine eW (vs := [(_, _)]) Tryz.results110 ?_; (focus (repeat' (first | exact oA | refine oB ?_ | refine oC ?_ ?_ | fail)))
 |exact oM
 |fail)
  all_goals first | rfl | exact absurd hc h | trace_state
end Go.Proofs.YtngjhkgcfabciaaGreat

namespace Go.Proofs.YtngjhkgcfabciaaGreat
open Go Go.RowKit
set_option maxRecDepth 100000
set_option maxHeartbeats 8000000
set_option linter.unusedSimpArgs false
set_option linter.unusedVariables false
theorem pblame_fn (p : Prob) (m : MixD) (hu : u8s m.held) : FnSound Tryz.prog 109 [.val true (probC p), .val true (mixC m)] [] { vals := [(true, mixC (blameP p m).1), (true, confC (blameP p m).2.1), (false, [.d (.v (.int .i64 (blameP p m).2.2))])] } := by
 by_cases h : mixErr p m = 0
 ·have hm := mixIn_of h
  have hal := allP_few (m := m) hm.few.ln
  have hin : ∀ k, MixIn p ((allP m).getD k nilM) ∨ ¬ k < (allP m).length := fun k => by
   by_cases hk : k < (allP m).length
   ·left; rw [allP_get hk]; exact abM_in hm k
   ·exact .inr hk
  have e : blameP p m = blameL p (allP m) := by unfold blameP; rw [if_neg (by simpa using h)]
  rw [e]
  refine startW (tm := [(0, _), (1, _)]) Tryz.func109 rfl Tryz.ntmps109 rfl rfl rfl rfl ?_
  repeat' (first
 |(with_reducible refine K_ca 119 ?_); refine zC (paborts_fn p m hu h) ?_
 |(with_reducible refine K_ca 120 ?_); refine zC (conf_fn p ((allP m).getD k nilM) ((hin k).resolve_right (by omega))) ?_
 |(with_reducible refine blk_at (id := 0) ?_); ((with_reducible refine JL.loopW 0 599 (fun (k : Nat) tm => (25, .one false [.d (.v (.int .i64 ((k : Int))))]) :: tm) (fun (k : Nat) bo => bo) (fun (k : Nat) => k ≤ (allP m).length ∧ ∀ j, j < k → foundP p ((allP m).getD j nilM) = []) (fun (k : Nat) => (allP m).length - k) (0) ?_ (fun k hk => ?_) ?_); (focus (apply SubW [] rfl ?_ ?_ rfl ?_; (repeat' (first | exact kA | refine kB ?_ | refine kC ?_ ?_ | exact kD | fail)))))
 |((with_reducible refine round_next (i := k) (k + 1) ?_ ?_ ?_); (focus (apply SubW [] rfl ?_ ?_ rfl ?_; (repeat' (first | exact kA | refine kB ?_ | refine kC ?_ ?_ | exact kD | fail)))))
 |refine wA ?_
 |(refine wC ?_ ?_ <;> intro hc)
 |refine wB ?_ ?_
 |(with_reducible refine JL.block ?_)
 |(with_reducible refine F_at ?_); refine eW (vs := [(_, _), (_, _), (_, _)]) Tryz.results109 ?_; (focus (repeat' (first | exact oA | refine oB ?_ | refine oC ?_ ?_ | fail)))
 |exact oM
 |fail)
  all_goals first
   | (have hb := blameL_at (l := allP m) (k := k) (by omega) hk.2 (by intro h; rw [h] at hc; simp at hc); rw [hb] <;> rfl)
   | (have hb := blameL_no (l := allP m) (k := k) (by omega) hk.2; rw [hb] <;> rfl)
   | (refine ⟨by omega, fun j hj => ?_⟩; omega)
   | (refine ⟨by omega, fun j hj => ?_⟩; by_cases e : j = k; (subst e; exact List.eq_nil_of_length_eq_zero (by omega)); exact hk.2 j (by omega))
   | trace_state
 ·have e : blameP p m = (nilM, ⟨0, 0, 0⟩, mixErr p m) := by unfold blameP; rw [if_pos h]
  rw [e]
  refine startW (tm := [(0, _), (1, _)]) Tryz.func109 rfl Tryz.ntmps109 rfl rfl rfl rfl ?_
  repeat' (first
 |(with_reducible refine K_ca 119 ?_); refine zC (paborts0_fn p m hu h) ?_
 |refine wA ?_
 |(refine wC ?_ ?_ <;> intro hc)
 |refine wB ?_ ?_
 |(with_reducible refine JL.block ?_)
 |(with_reducible refine F_at ?_); refine eW (vs := [(_, _), (_, _), (_, _)]) Tryz.results109 ?_; (focus (repeat' (first | exact oA | refine oB ?_ | refine oC ?_ ?_ | fail)))
 |exact oM
 |fail)
  all_goals first | rfl | exact absurd hc h | trace_state
end Go.Proofs.YtngjhkgcfabciaaGreat

namespace Go.Proofs.YtngjhkgcfabciaaGreat
open Go Go.RowKit
set_option linter.unusedSimpArgs false
set_option linter.unusedVariables false
def heldW (p : Prob) (i v : Int) (h : List Int) (k : Nat) : List Int := (List.range h.length).map fun j => if j < k then heldUp p i v (p.tabs.getD j nilT) (h.getD j 0) else h.getD j 0
theorem heldW_len {p : Prob} {i v : Int} {h : List Int} {k : Nat} : (heldW p i v h k).length = h.length := by simp [heldW]
theorem heldW_get {p : Prob} {i v : Int} {h : List Int} {k j : Nat} (hj : j < h.length) : (heldW p i v h k).getD j 0 = if j < k then heldUp p i v (p.tabs.getD j nilT) (h.getD j 0) else h.getD j 0 := map_range_get hj
theorem heldW_0 {p : Prob} {i v : Int} {h : List Int} : heldW p i v h 0 = h := by
 refine list_ext heldW_len fun j hj => ?_
 rw [heldW_len] at hj
 rw [heldW_get hj, if_neg (by omega)]
theorem heldW_all {p : Prob} {m : MixD} {s : StepD} {k : Nat} (hk : m.held.length ≤ k) : heldW p s.idx s.ver m.held k = (startedM p m s).held := by
 show (List.range m.held.length).map _ = (List.range m.held.length).map _
 refine List.map_congr_left fun j hj => ?_
 have := List.mem_range.1 hj
 rw [if_pos (by omega)]
theorem heldW_keep {p : Prob} {i v : Int} {h : List Int} {k : Nat} (hk : k < h.length) (hn : ¬ ((p.tabs.getD k nilT).frm = i ∧ storedB (p.tabs.getD k nilT).kind = true)) : heldW p i v h (k + 1) = heldW p i v h k := by
 refine list_ext (by rw [heldW_len, heldW_len]) fun j hj => ?_
 rw [heldW_len] at hj
 rw [heldW_get hj, heldW_get hj]
 by_cases e : j = k
 ·subst e
  rw [if_pos (by omega), if_neg (by omega)]
  unfold heldUp
  rw [if_neg hn]
 ·by_cases c : j < k
  ·rw [if_pos (by omega), if_pos c]
  ·rw [if_neg (by omega), if_neg c]
theorem heldW_at {p : Prob} {i v : Int} {h : List Int} {k : Nat} (hk : k < h.length) : (heldW p i v h k).getD k 0 = h.getD k 0 := by rw [heldW_get hk, if_neg (by omega)]
theorem heldW_set {p : Prob} {i v : Int} {h : List Int} {k : Nat} (hk : k < h.length) (hn : (p.tabs.getD k nilT).frm = i ∧ storedB (p.tabs.getD k nilT).kind = true) : (heldW p i v h k).set k (bits BinOp.or IntKind.u8 ((heldW p i v h k).getD k 0) (one8 v)) = heldW p i v h (k + 1) := by
 refine list_ext (by rw [List.length_set, heldW_len, heldW_len]) fun j hj => ?_
 rw [List.length_set, heldW_len] at hj
 rw [heldW_get hj]
 by_cases e : j = k
 ·subst e
  rw [heldW_at hk, if_pos (by omega), List.getD_eq_getElem?_getD, List.getElem?_set_self (by rw [heldW_len]; exact hk)]
  unfold heldUp
  rw [if_pos hn]; rfl
 ·have e5 : ∀ x, ((heldW p i v h k).set k x).getD j 0 = (heldW p i v h k).getD j 0 := fun x => by rw [List.getD_eq_getElem?_getD, List.getElem?_set_ne (fun a => e a.symm), ← List.getD_eq_getElem?_getD]
  rw [e5, heldW_get hj]
  by_cases c : j < k
  ·rw [if_pos (by omega), if_pos (by omega)]
  ·rw [if_neg (by omega), if_neg (by omega)]
def tz8 (x : Int) : Nat := ((List.range 8).find? fun (u : Nat) => hasV x u).getD 8
def clr8 (x : Int) : Int := bits BinOp.and IntKind.u8 x (IntKind.u8.wrap (x - 1))
theorem tz_all : ((List.range 64).all fun (n : Nat) => n == 0 || (decide (tz8 n < 6) && hasV n (tz8 n) && decide (0 ≤ clr8 n ∧ clr8 n < n) && (List.range 6).all fun (u : Nat) => hasV (clr8 n) u == (hasV n u && u != tz8 n))) = true := by decide +kernel
theorem tz_at {x : Int} (h : 0 < x ∧ x < 64) : tz8 x < 6 ∧ hasV x (tz8 x) = true ∧ (0 ≤ clr8 x ∧ clr8 x < x) ∧ ∀ u : Nat, u < 6 → hasV (clr8 x) u = (hasV x u && u != tz8 x) := by
 have h1 := List.all_eq_true.1 tz_all x.toNat (List.mem_range.2 (by omega))
 have e : ((x.toNat : Nat) : Int) = x := by omega
 rw [e] at h1
 simp only [Bool.or_eq_true, beq_iff_eq, Bool.and_eq_true, decide_eq_true_eq] at h1
 rcases h1 with h1 | ⟨⟨⟨h1, h2⟩, h3⟩, h4⟩
 ·omega
 ·refine ⟨h1, h2, h3, fun u hu => ?_⟩
  have := List.all_eq_true.1 h4 u (List.mem_range.2 hu)
  simpa using this
def rewL (q : Nat → Bool) (x : Int) : Bool := (List.range 6).all fun (u : Nat) => !hasV x u || q u
theorem rewL_no {q : Nat → Bool} {x : Int} (h : 0 < x ∧ x < 64) (hq : q (tz8 x) = false) : rewL q x = false := by
 obtain ⟨h1, h2, _⟩ := tz_at h
 refine range_no h1 ?_
 rw [h2, hq]; rfl
theorem rewL_yes {q : Nat → Bool} {x : Int} (h : 0 < x ∧ x < 64) (hq : q (tz8 x) = true) : rewL q (clr8 x) = rewL q x := by
 obtain ⟨h1, h2, _, h4⟩ := tz_at h
 unfold rewL
 rw [Bool.eq_iff_iff, List.all_eq_true, List.all_eq_true]
 constructor
 ·intro a u hu
  have h5 := a u hu
  rw [h4 u (List.mem_range.1 hu)] at h5
  by_cases e : u = tz8 x
  ·subst e; rw [hq, Bool.or_true]
  ·have : (u != tz8 x) = true := by simpa using e
   rw [this, Bool.and_true] at h5; exact h5
 ·intro a u hu
  have h5 := a u hu
  rw [h4 u (List.mem_range.1 hu)]
  by_cases e : u = tz8 x
  ·subst e; rw [hq, Bool.or_true]
  ·have : (u != tz8 x) = true := by simpa using e
   rw [this, Bool.and_true]; exact h5
theorem rewL_0 {q : Nat → Bool} : rewL q 0 = true := by
 unfold rewL
 rw [List.all_eq_true]
 intro u _
 have : hasV 0 u = false := by
  refine hasV_no.1 ?_
  unfold bitOf
  rw [Int.zero_ediv]; rfl
 rw [this]; rfl
theorem hasV_bit {x : Int} (h : 0 ≤ x ∧ x < 256) (v : Nat) : hasV x v = (BitVec.ofInt 8 x).getLsbD v := by
 have e1 : (BitVec.ofInt 8 x).toNat = x.toNat := by rw [BitVec.toNat_ofInt]; omega
 rw [BitVec.getLsbD, e1, Nat.testBit_eq_decide_div_mod_eq]
 unfold hasV
 congr 1
 unfold bitOf
 have e2 : (x / 2 ^ ((v : Nat) : Int).toNat) = ((x.toNat / 2 ^ v : Nat) : Int) := by
  rw [Int.toNat_natCast]
  conv => lhs; rw [show x = ((x.toNat : Nat) : Int) by omega]
  push_cast; rfl
 rw [e2]
 have hz : x.toNat / 2 ^ v < 256 := Nat.lt_of_le_of_lt (Nat.div_le_self _ _) (by omega)
 show (IntKind.u8.wrap (((BitVec.ofInt 8 ((x.toNat / 2 ^ v : Nat) : Int) &&& BitVec.ofInt 8 1).toNat : Nat) : Int) = 1) = _
 rw [and_one, show (BitVec.ofInt 8 1).toNat = 1 from rfl, Nat.and_one_is_mod, BitVec.toNat_ofInt]
 generalize x.toNat / 2 ^ v = z at hz
 have e3 : (((z : Int) % ((2 ^ 8 : Nat) : Int)).toNat) % 2 = z % 2 := by
  have : ((2 ^ 8 : Nat) : Int) = 256 := by decide
  rw [this]; omega
 rw [e3]
 have : z % 2 = 0 ∨ z % 2 = 1 := by omega
 rcases this with e | e <;> rw [e] <;> simp [IntKind.wrap, IntKind.bits, IntKind.signed]
theorem bits_rng (op : BinOp) (a b : Int) : 0 ≤ bits op IntKind.u8 a b ∧ bits op IntKind.u8 a b < 256 := by
 unfold bits
 cases op <;> simp [IntKind.wrap, IntKind.bits, IntKind.signed] <;> omega
theorem ofInt_wrap (z : BitVec 8) : BitVec.ofInt 8 (IntKind.u8.wrap ((z.toNat : Nat) : Int)) = z := by
 have h1 : IntKind.u8.wrap ((z.toNat : Nat) : Int) = (z.toNat : Int) := wr_u8 ⟨by omega, by have := z.isLt; omega⟩
 rw [h1]
 apply BitVec.eq_of_toNat_eq
 rw [BitVec.toNat_ofInt]
 have := z.isLt
 omega
theorem hasV_andNot {a b : Int} (ha : 0 ≤ a ∧ a < 256) (hb : 0 ≤ b ∧ b < 256) {u : Nat} (hu : u < 8) : hasV (bits BinOp.andNot IntKind.u8 a b) u = (hasV a u && !hasV b u) := by
 rw [hasV_bit (bits_rng _ _ _), hasV_bit ha, hasV_bit hb]
 show (BitVec.ofInt 8 (IntKind.u8.wrap (((BitVec.ofInt 8 a &&& ~~~ BitVec.ofInt 8 b).toNat : Nat) : Int))).getLsbD u = _
 rw [ofInt_wrap, BitVec.getLsbD_and, BitVec.getLsbD_not]
 simp [hu]
theorem hasV_or {a b : Int} (ha : 0 ≤ a ∧ a < 256) (hb : 0 ≤ b ∧ b < 256) {u : Nat} : hasV (bits BinOp.or IntKind.u8 a b) u = (hasV a u || hasV b u) := by
 rw [hasV_bit (bits_rng _ _ _), hasV_bit ha, hasV_bit hb]
 show (BitVec.ofInt 8 (IntKind.u8.wrap (((BitVec.ofInt 8 a ||| BitVec.ofInt 8 b).toNat : Nat) : Int))).getLsbD u = _
 rw [ofInt_wrap, BitVec.getLsbD_or]
theorem hasV_over {x : Int} (h : 0 ≤ x ∧ x < 256) {u : Nat} (hu : 8 ≤ u) : hasV x u = false := by
 rw [hasV_bit h]; exact BitVec.getLsbD_of_ge _ _ hu
theorem hasV_ext {a b : Int} (ha : 0 ≤ a ∧ a < 256) (hb : 0 ≤ b ∧ b < 256) (h : ∀ u : Nat, u < 8 → hasV a u = hasV b u) : a = b := by
 have e : BitVec.ofInt 8 a = BitVec.ofInt 8 b := by
  apply BitVec.eq_of_getLsbD_eq
  intro u hu
  rw [← hasV_bit ha, ← hasV_bit hb]; exact h u hu
 have h1 : (BitVec.ofInt 8 a).toNat = a.toNat := by rw [BitVec.toNat_ofInt]; omega
 have h2 : (BitVec.ofInt 8 b).toNat = b.toNat := by rw [BitVec.toNat_ofInt]; omega
 rw [e, h2] at h1
 omega
theorem hasV_lt {x : Int} (h : 0 ≤ x ∧ x < 256) (h6 : hasV x 6 = false) (h7 : hasV x 7 = false) : x < 64 := by
 have h6 : hasV x ((6 : Nat) : Int) = false := h6
 have h7 : hasV x ((7 : Nat) : Int) = false := h7
 rw [hasV_bit h] at h6 h7
 have e1 : (BitVec.ofInt 8 x).toNat = x.toNat := by rw [BitVec.toNat_ofInt]; omega
 rw [BitVec.getLsbD, e1, Nat.testBit_eq_decide_div_mod_eq, decide_eq_false_iff_not] at h6 h7
 omega
theorem allV_tab : ((List.range 7).all fun (n : Nat) => n == 0 || (List.range 8).all fun (u : Nat) => hasV (allV n) u == decide (u < n)) = true := by decide +kernel
theorem hasV_all {n : Int} (h : 1 ≤ n ∧ n ≤ 6) {u : Nat} (hu : u < 8) : hasV (allV n) u = decide ((u : Int) < n) := by
 have h1 := List.all_eq_true.1 allV_tab n.toNat (List.mem_range.2 (by omega))
 have e : ((n.toNat : Nat) : Int) = n := by omega
 rw [e] at h1
 simp only [Bool.or_eq_true, beq_iff_eq] at h1
 rcases h1 with h1 | h1
 ·omega
 ·have := List.all_eq_true.1 h1 u (List.mem_range.2 hu)
  rw [beq_iff_eq] at this
  rw [this]
  congr 1
  exact propext (by omega)
theorem allV_rng (n : Int) : 0 ≤ allV n ∧ allV n < 256 := by
 unfold allV
 simp [IntKind.wrap, IntKind.bits, IntKind.signed]; omega
theorem sub_has {a b : Int} (ha : 0 ≤ a ∧ a < 256) (hb : 0 ≤ b ∧ b < 256) (h : bits BinOp.andNot IntKind.u8 a b = 0) {u : Nat} (hu : hasV a u = true) : hasV b u = true := by
 by_cases hu8 : u < 8
 ·have := hasV_andNot ha hb hu8
  rw [h, hu] at this
  have e0 : hasV 0 u = false := by refine hasV_no.1 ?_; unfold bitOf; rw [Int.zero_ediv]; rfl
  rw [e0] at this
  simpa using this.symm
 ·rw [hasV_over ha (by omega)] at hu; cases hu
theorem sub_of {a b : Int} (ha : 0 ≤ a ∧ a < 256) (hb : 0 ≤ b ∧ b < 256) (h : ∀ u : Nat, u < 8 → hasV a u = true → hasV b u = true) : bits BinOp.andNot IntKind.u8 a b = 0 := by
 refine hasV_ext (bits_rng _ _ _) ⟨by decide, by decide⟩ fun u hu => ?_
 have e0 : hasV 0 u = false := by refine hasV_no.1 ?_; unfold bitOf; rw [Int.zero_ediv]; rfl
 rw [hasV_andNot ha hb hu, e0]
 cases hc : hasV a u with
 | false => rfl
 | true => rw [h u hu hc]; rfl
theorem one8_rng (v : Int) : 0 ≤ one8 v ∧ one8 v < 256 := one8_nn v
theorem runS_rng (m : MixD) (s : Int) : 0 ≤ runS m s ∧ runS m s < 256 := by
 unfold runS runV
 split
 ·exact bits_rng _ _ _
 ·exact one8_nn _
end Go.Proofs.YtngjhkgcfabciaaGreat

namespace Go.Proofs.YtngjhkgcfabciaaGreat
open Go Go.RowKit
set_option maxRecDepth 100000
set_option maxHeartbeats 8000000
set_option linter.unusedSimpArgs false
set_option linter.unusedVariables false
theorem qstored_fn (t : Tab) : FnSound Tryz.prog 136 [.val true (tabC t)] [] { vals := [(false, [.d (.v (.bool (storedB t.kind)))])] } := by
 refine startW (tm := [(0, _)]) Tryz.func136 rfl Tryz.ntmps136 rfl rfl rfl rfl ?_
 repeat' (first
 |refine wA ?_
 |(refine wC ?_ ?_ <;> intro hc)
 |refine wB ?_ ?_
 |(with_reducible refine JL.block ?_)
 |(with_reducible refine F_at ?_); refine eW (vs := [(_, _)]) Tryz.results136 ?_; (focus (repeat' (first | exact oA | refine oB ?_ | refine oC ?_ ?_ | fail)))
 |exact oM
 |fail)
 all_goals simp [storedB, *]
theorem qrun_fn (m : MixD) (s : Int) (hs : 0 ≤ s ∧ s < m.base.length ∧ s < m.next.length) (hb : 0 ≤ m.base.getD s.toNat 0 ∧ m.base.getD s.toNat 0 ≤ 6) (hn : m.next.getD s.toNat 0 ≤ 6) : FnSound Tryz.prog 137 [.val true (mixC m), .val false [.d (.v (.int .i64 s))]] [] { vals := [(false, [.d (.v (.int .u8 (runS m s)))])] } := by
 refine startW (tm := [(0, _), (1, _)]) Tryz.func137 rfl Tryz.ntmps137 rfl rfl rfl rfl ?_
 repeat' (first
 |refine wA ?_
 |(refine wC ?_ ?_ <;> intro hc)
 |refine wB ?_ ?_
 |(with_reducible refine JL.block ?_)
 |(with_reducible refine F_at ?_); refine eW (vs := [(_, _)]) Tryz.results137 ?_; (focus (repeat' (first | exact oA | refine oB ?_ | refine oC ?_ ?_ | fail)))
 |exact oM
 |fail)
 ·unfold runS runV; rw [if_pos hc]; rfl
 ·unfold runS runV; rw [if_neg hc]; rfl
theorem qvalid_fn (s : StepD) : FnSound Tryz.prog 126 [.val true (stepC s)] [] { vals := [(false, [.d (.v (.bool (stepOK s)))])] } := by
 refine startW (tm := [(0, _)]) Tryz.func126 rfl Tryz.ntmps126 rfl rfl rfl rfl ?_
 repeat' (first
 |refine wA ?_
 |(refine wC ?_ ?_ <;> intro hc)
 |refine wB ?_ ?_
 |(with_reducible refine JL.block ?_)
 |(with_reducible refine F_at ?_); refine eW (vs := [(_, _)]) Tryz.results126 ?_; (focus (repeat' (first | exact oA | refine oB ?_ | refine oC ?_ ?_ | fail)))
 |exact oM
 |fail)
 all_goals (unfold stepOK; first | (rw [eq_comm, decide_eq_true_eq]; omega) | (rw [eq_comm, decide_eq_false_iff_not]; omega) | (congr 1; exact propext (by omega)) | trace_state)
theorem qexists_fn (p : Prob) (s : StepD) (h : 0 ≤ s.idx) : FnSound Tryz.prog 127 [.val true (probC p), .val true (stepC s)] [] { vals := [(false, [.d (.v (.bool (thereB p s)))])] } := by
 refine startW (tm := [(0, _), (1, _)]) Tryz.func127 rfl Tryz.ntmps127 rfl rfl rfl rfl ?_
 repeat' (first
 |refine wA ?_
 |(refine wC ?_ ?_ <;> intro hc)
 |refine wB ?_ ?_
 |(with_reducible refine JL.block ?_)
 |(with_reducible refine F_at ?_); refine eW (vs := [(_, _)]) Tryz.results127 ?_; (focus (repeat' (first | exact oA | refine oB ?_ | refine oC ?_ ?_ | fail)))
 |exact oM
 |fail)
 all_goals (unfold thereB; simp [*])
theorem qcloned_fn (m : MixD) (hf : m.base.length ≤ 12 ∧ m.next.length ≤ 12 ∧ m.held.length ≤ 12) : FnSound Tryz.prog 132 [.val true (mixC m)] [] { vals := [(true, [.own (128, 200), .own (320, 200), .own (512, 200)])], bx := [((128, 200), .sl 3 1 (dInts m.base)), ((320, 200), .sl 3 1 (dInts m.next)), ((512, 200), .sl 146 1 (dSets m.held))] } := by
 refine startO (tm := [(0, _)]) [] Tryz.func132 rfl Tryz.ntmps132 rfl rfl rfl rfl ?_
 repeat' (first
 |(with_reducible refine K_ca 91 ?_); (first
 |refine zS (cloneInts_fn m.base (by omega)) ?_
 |refine zS (cloneInts_fn m.next (by omega)) ?_)
 |(with_reducible refine K_ca 131 ?_); refine zS (cloneSets_fn m.held (by omega)) ?_
 |refine wA ?_
 |(refine wC ?_ ?_ <;> intro hc)
 |refine wB ?_ ?_
 |(with_reducible refine JL.block ?_)
 |(with_reducible refine FO_at ?_); refine eO (vs := [(_, _)]) Tryz.results132 ?_
 |exact oM
 |fail)
 kernel_rfl
end Go.Proofs.YtngjhkgcfabciaaGreat

