/- Rules of runs and contracts of functions, for the claims of one seat. -/
import Derived.Test.YtfnljcallbalgaaGreatDoorUA12
import Derived.Test.YtfnljcallbalgaaGreatDoorUA13
import Derived.Test.YtfnljcallbalgaaGreatDoorUA14
import Derived.Test.YtfnljcallbalgaaGreatDoorUA17
import Derived.Test.YtfnljcallbalgaaGreatDoorUA18
import Derived.Test.YtfnljcallbalgaaGreatDoorUA19
namespace Go.Proofs.YtfnljcallbalgaaGreatDoor
open Go Go.RowKit
set_option maxRecDepth 100000
set_option maxHeartbeats 8000000
set_option linter.unusedSimpArgs false
set_option linter.unusedVariables false
theorem hasV_y {s : Int} {v : Nat} (h : ¬ bits BinOp.and IntKind.u8 (s / 2 ^ ((v : Nat) : Int).toNat) 1 = 0) : hasV s v = true := by
 have h : ¬ bitOf s v = 0 := h
 have := bit01 s v
 exact decide_eq_true (this.resolve_left h)
theorem hasV_n {s : Int} {v : Nat} (h : bits BinOp.and IntKind.u8 (s / 2 ^ ((v : Nat) : Int).toNat) 1 = 0) : hasV s v = false := hasV_no.1 h
theorem wr_y {p : Prob} {m : MixD} {i : Nat} {t : Tab} (h : t.kind = 3 ∨ t.kind = 4) : writers p m i t = m.held.getD i 0 := by unfold writers storedB; rw [if_pos (decide_eq_true h)]
theorem wr_n {p : Prob} {m : MixD} {i : Nat} {t : Tab} (h : ¬ (t.kind = 3 ∨ t.kind = 4)) : writers p m i t = runS m t.frm := by unfold writers storedB; rw [if_neg (fun a => h (of_decide_eq_true a))]
theorem bl1 {a b : Bool} (h : (!a) = true) : (!b) = (!a && !b) := by rw [h]; rfl
theorem bl2 {a b : Bool} (h : (!a) = false) : false = (!a && !b) := by rw [h]; rfl
theorem bl3 {a b : Bool} (h : a = true) : (!b) = (a && !b) := by rw [h]; rfl
theorem bl4 {a b : Bool} (h : a = false) : false = (a && !b) := by rw [h]; rfl
theorem cf1z {p : Prob} {m : MixD} : [] = dConfs (cf1 p m 0) := rfl
theorem rd3s {p : Prob} {m : MixD} {i u v : Nat} (h : ¬ bits BinOp.and IntKind.u8 (runS m (p.tabs.getD i nilT).tto / 2 ^ ((v : Nat) : Int).toNat) 1 = 0) : (rd3 p m i u v || ((p.tabs.getD i nilT).ok.getD u []).getD v false) = rd3 p m i u (v + 1) := by
 rw [rd3_step, hasV_y h, Bool.true_and]; rfl
theorem cf3y {p : Prob} {m : MixD} {i u v : Nat} (h : ¬ bits BinOp.and IntKind.u8 (runS m (p.tabs.getD i nilT).tto / 2 ^ ((v : Nat) : Int).toNat) 1 = 0) (hc : (!((p.tabs.getD i nilT).ok.getD u []).getD v false && !(p.tabs.getD i nilT).aware) = true) : dConfs (cf1 p m i ++ (cf2 p m i u ++ cf3 p m i u v) ++ [⟨(i : Int), (u : Int), (v : Int)⟩]) = dConfs (cf1 p m i ++ (cf2 p m i u ++ cf3 p m i u (v + 1))) := by
 simp only [Bool.and_eq_true, Bool.not_eq_true'] at hc
 rw [cf3_yes (hasV_y h) hc.2 hc.1]; simp only [List.append_assoc]
theorem conf_fn (p : Prob) (m : MixD) (hm : MixIn p m) : FnSound Tryz.prog 267 [.val true (probC p), .val true (mixC m)] [] { vals := [(false, [.d (.sl 3 (dConfs (foundP p m)))])] } := by
 have hvp := vp_all hm.vp
 have hlh := hm.lh
 refine startW (tm := [(0, _), (1, _)]) Tryz.func267 rfl Tryz.ntmps267 rfl rfl rfl rfl ?_
 repeat' (first
 |((with_reducible refine cond_at (t := 31) ?_); (refine JL.cutW 802 (fun tm => (8, .one false [.d (.v (.int .u8 ((writers p m i (p.tabs.getD i nilT)))))]) :: tm) (fun bo => bo) ?_ ?_))
 |((with_reducible refine reg2_at (id := 17) ?_); (refine JL.cutW 1802 (fun tm => (11, .one false [.d (.v (.bool ((rd3 p m i u v || ((p.tabs.getD i nilT).ok.getD u []).getD v false))))]) :: tm) (fun bo => bo) ?_ ?_))
 |((with_reducible refine reg2_at (id := 18) ?_); (refine JL.cutW 1902 (fun tm => (74, .one false [.d (.v (.bool ((!((p.tabs.getD i nilT).ok.getD u []).getD v false && !(p.tabs.getD i nilT).aware))))]) :: tm) (fun bo => bo) ?_ ?_))
 |((with_reducible refine reg2_at (id := 21) ?_); (refine JL.cutW 2202 (fun tm => (88, .one false [.d (.v (.bool (((p.tabs.getD i nilT).aware && !rd3 p m i u v))))]) :: tm) (fun bo => bo) ?_ ?_))
 |((with_reducible refine AtJ.mk rfl ?_); (focus (apply SubW [] rfl ?_ ?_ rfl ?_; (repeat' (first | exact kA | refine kB ?_ | refine kC ?_ ?_ | exact kD | fail)))))
 |(with_reducible refine K_ca 311 ?_); (first
 |refine zC (prun_fn m (p.tabs.getD i nilT).frm (by omega) (by omega) (by omega)) ?_
 |refine zC (prun_fn m (p.tabs.getD i nilT).tto (by omega) (by omega) (by omega)) ?_)
 |(with_reducible refine K_ca 145 ?_); refine zC (pstored_fn (p.tabs.getD i nilT)) ?_
 |(with_reducible refine blk_at (id := 0) ?_); (try (refine JL.zeroW 5 _ 180 3 rfl rfl ?_)); (refine JL.rekW 5 (1080, 351) rfl rfl rfl rfl ?_); ((with_reducible refine JL.loopW 0 399 (fun (i : Nat) tm => (17, .one false [.d (.v (.int .i64 ((i : Int))))]) :: (5, .one false [.own (1080, 351)]) :: tm) (fun (i : Nat) bo => ((1080, 351), some (.sl 180 3 ((dConfs (cf1 p m i))))) :: bo) (fun (i : Nat) => i ≤ p.tabs.length) (fun (i : Nat) => p.tabs.length - i) (0) ?_ (fun i hi => have htn := tabN hm.vp i; have hlen := tabLen hm.vp i; have hl1 := cf1_len (m := m) hm.vp i; have hmf := hm.nn (p.tabs.getD i nilT).frm; have hmt := hm.nn (p.tabs.getD i nilT).tto; ?_) ?_); (focus (apply SubW [((1080, 351), _)] rfl ?_ ?_ rfl ?_; (repeat' (first | exact kA | refine kB ?_ | refine kC ?_ ?_ | exact kD | fail)))))
 |((with_reducible refine round_next (i := i) (i + 1) ?_ ?_ ?_); (focus (apply SubW [((1080, 351), _)] rfl ?_ ?_ rfl ?_; (repeat' (first | exact kA | refine kB ?_ | refine kC ?_ ?_ | exact kD | fail)))))
 |(with_reducible refine blk_at (id := 2) ?_); (try (refine JL.zeroW 5 _ 180 3 rfl rfl ?_)); (refine JL.rekW 5 (1080, 951) rfl rfl rfl rfl ?_); ((with_reducible refine JL.loopW 2 999 (fun (u : Nat) tm => (40, .one false [.d (.v (.int .i64 ((u : Int))))]) :: (5, .one false [.own (1080, 951)]) :: tm) (fun (u : Nat) bo => ((1080, 951), some (.sl 180 3 ((dConfs (cf1 p m i ++ cf2 p m i u))))) :: bo) (fun (u : Nat) => u ≤ (p.tabs.getD i nilT).ok.length) (fun (u : Nat) => (p.tabs.getD i nilT).ok.length - u) (0) ?_ (fun u hu => have hok := tabOK hm.vp i u; have hl2 := cf2_len (m := m) (i := i) (vs_le hm.vp _) u; ?_) ?_); (focus (apply SubW [((1080, 951), _)] rfl ?_ ?_ rfl ?_; (repeat' (first | exact kA | refine kB ?_ | refine kC ?_ ?_ | exact kD | fail)))))
 |((with_reducible refine round_next (i := u) (u + 1) ?_ ?_ ?_); (focus (apply SubW [((1080, 951), _)] rfl ?_ ?_ rfl ?_; (repeat' (first | exact kA | refine kB ?_ | refine kC ?_ ?_ | exact kD | fail)))))
 |(with_reducible refine blk_at (id := 4) ?_); (try (refine JL.zeroW 5 _ 180 3 rfl rfl ?_)); (refine JL.rekW 5 (1080, 1451) rfl rfl rfl rfl ?_); ((with_reducible refine JL.loopW 4 1499 (fun (v : Nat) tm => (54, .one false [.d (.v (.int .i64 ((v : Int))))]) :: (11, .one false [.d (.v (.bool ((rd3 p m i u v))))]) :: (5, .one false [.own (1080, 1451)]) :: tm) (fun (v : Nat) bo => ((1080, 1451), some (.sl 180 3 ((dConfs (cf1 p m i ++ (cf2 p m i u ++ cf3 p m i u v)))))) :: bo) (fun (v : Nat) => v ≤ ((p.tabs.getD i nilT).ok.getD u []).length) (fun (v : Nat) => ((p.tabs.getD i nilT).ok.getD u []).length - v) (0) ?_ (fun v hv => have hcl := cf3_len (p := p) (m := m) (i := i) (u := u) v; ?_) ?_); (focus (apply SubW [((1080, 1451), _)] rfl ?_ ?_ rfl ?_; (repeat' (first | exact kA | refine kB ?_ | refine kC ?_ ?_ | exact kD | fail)))))
 |((with_reducible refine round_next (i := v) (v + 1) ?_ ?_ ?_); (focus (apply SubW [((1080, 1451), _)] rfl ?_ ?_ rfl ?_; (repeat' (first | exact kA | refine kB ?_ | refine kC ?_ ?_ | exact kD | fail)))))
 |refine wA ?_
 |(refine wC ?_ ?_ <;> intro hc)
 |refine wB ?_ ?_
 |(with_reducible refine JL.block ?_)
 |(with_reducible refine F_at ?_); refine eW (vs := [(_, _)]) Tryz.results267 ?_; (focus (repeat' (first | exact oA | refine oB ?_ | refine oC ?_ ?_ | fail)))
 |exact oM
 |fail)
 all_goals first
  | with_reducible exact cf1z
  | with_reducible exact bl1 hc
  | with_reducible exact bl2 hc
  | with_reducible exact bl3 hc
  | with_reducible exact bl4 hc
  | with_reducible exact rd3s (by assumption)
  | with_reducible exact cf3y (by assumption) hc
  | with_reducible rfl
  | with_reducible exact rd3_0.symm
  | (with_reducible rw [cf1_0]; rfl)
  | with_reducible exact (wr_y hc).symm
  | with_reducible exact (wr_n hc).symm
  | (rw [cf2_0, List.append_nil]; done)
  | (rw [cf3_0, List.append_nil]; done)
  | (with_reducible rw [cf2_no (hasV_n hc)]; done)
  | (with_reducible rw [rd3_step, hasV_n hc, Bool.false_and, Bool.or_false]; done)
  | (with_reducible rw [cf3_no (.inl (hasV_n hc))]; done)
  | (with_reducible rw [rd3_step, hasV_y (s := runS m (p.tabs.getD i nilT).tto) (by assumption), Bool.true_and]; rfl)
  | (have h2 := hc; (with_reducible rw [Bool.and_eq_true, Bool.not_eq_true', Bool.not_eq_true'] at h2); (with_reducible rw [cf3_yes (hasV_y (by assumption)) h2.2 h2.1]); simp only [List.append_assoc]; done)
  | (have h2 := hc; (with_reducible rw [Bool.and_eq_false_iff, Bool.not_eq_false', Bool.not_eq_false'] at h2); (with_reducible rw [cf3_no (.inr h2.symm)]); done)
  | ((with_reducible rw [cf2_yes (v := v) (hasV_y (by assumption)) (by omega) (by omega), if_pos hc]); simp only [List.append_assoc]; done)
  | ((with_reducible rw [cf2_yes (v := v) (hasV_y (by assumption)) (by omega) (by omega), if_neg (by rw [hc]; decide), List.append_nil]); done)
  | (with_reducible rw [cf1_step (u := u) (by omega) (by omega)]; done)
  | (with_reducible rw [cf1_all (by omega) (by omega)]; done)
  | (simp [hc]; done)
  | trace_state
end Go.Proofs.YtfnljcallbalgaaGreatDoor

namespace Go.Proofs.YtfnljcallbalgaaGreatDoor
open Go Go.RowKit
set_option maxRecDepth 100000
set_option maxHeartbeats 8000000
set_option linter.unusedSimpArgs false
set_option linter.unusedVariables false
structure Few (m : MixD) : Prop where
 lb : m.base.length ≤ 12
 ln : m.next.length ≤ 12
 lh : m.held.length ≤ 12
theorem MixIn.few {p : Prob} {m : MixD} (h : MixIn p m) : Few m := by
 have h1 := vp_all h.vp
 have := h.lb; have := h.ln; have := h.lh
 exact ⟨by omega, by omega, by omega⟩
theorem copied_fn (m : MixD) (hf : Few m) : FnSound Tryz.prog 309 [.val true (mixC m)] [] { vals := [(true, [.own (192, 200), .own (448, 200), .own (704, 200)])], bx := [((192, 200), .sl 3 1 (dInts m.base)), ((448, 200), .sl 3 1 (dInts m.next)), ((704, 200), .sl 183 1 (dSets m.held))] } := by
 obtain ⟨h1, h2, h3⟩ := hf
 refine startO (tm := [(0, _)]) [] Tryz.func309 rfl Tryz.ntmps309 rfl rfl rfl rfl ?_
 repeat' (first
 |refine wA ?_
 |(refine wC ?_ ?_ <;> intro hc)
 |refine wB ?_ ?_
 |(with_reducible refine JL.block ?_)
 |(with_reducible refine FO_at ?_); refine eO (vs := [(_, _)]) Tryz.results309 ?_
 |exact oM
 |fail)
 kernel_rfl
theorem all_fn (m : MixD) (hf : Few m) : FnSound Tryz.prog 265 [.val true (mixC m)] [] { vals := [(false, [.d (.sl 3 (dMixes (allP m)))])] } := by
 have hf' := hf
 obtain ⟨h1, h2, h3⟩ := hf
 have hop : ∀ i, openN (m.next.take i) ≤ i := fun i => Nat.le_trans (openN_le _) (by rw [List.length_take]; omega)
 have hon := openN_le m.next
 have hpw := @pow_open
 refine startW (tm := [(0, _)]) Tryz.func265 rfl Tryz.ntmps265 rfl rfl rfl rfl ?_
 repeat' (first
 |(with_reducible refine rgn 5 500 ?_ ?_); exact rfl
 |(with_reducible refine rgn 6 600 ?_ ?_); exact rfl
 |(with_reducible refine rgn 4 700 ?_ ?_); exact rfl
 |(with_reducible refine rgn 11 1100 ?_ ?_); exact rfl
 |(with_reducible refine rgn 12 1200 ?_ ?_); exact rfl
 |(with_reducible refine rgn 13 1300 ?_ ?_); exact rfl
 |(with_reducible refine rgn 14 1400 ?_ ?_); exact rfl
 |(with_reducible refine rgn 16 1500 ?_ ?_); exact rfl
 |(with_reducible refine rgn 17 1600 ?_ ?_); exact rfl
 |(with_reducible refine rgn 18 1700 ?_ ?_); exact rfl
 |(with_reducible refine rgn 19 1800 ?_ ?_); exact rfl
 |(with_reducible refine rgn 15 1900 ?_ ?_); exact rfl
 |(with_reducible refine reg_at (id := 20) ?_); (try (refine JL.shutBW (cs2 := [_, _, _]) (128, 1100) 0 rfl rfl rfl rfl ?_)); (try (refine JL.shutBW (cs2 := [_, _, _]) (128, 1100) 1 rfl rfl rfl rfl ?_)); (try (refine JL.shutBW (cs2 := [_, _, _]) (128, 1100) 2 rfl rfl rfl rfl ?_)); (with_reducible refine rgn 20 2000 ?_ ?_); exact rfl
 |(with_reducible refine rgn 10 2100 ?_ ?_); exact rfl
 |(with_reducible refine K_ca 309 ?_); refine W.callM 64 65 66 rfl rfl rfl rfl rfl BoC.h (copied_fn m hf') rfl rfl ?_
 |(with_reducible refine blk_at (id := 0) ?_); ((with_reducible refine JL.loopW 0 399 (fun (i : Nat) tm => (4, .one false [.d (.v (.int .i64 ((i : Int))))]) :: (3, .one false [.d (.v (.int .i64 (((openN (m.next.take i) : Nat) : Int))))]) :: tm) (fun (i : Nat) bo => bo) (fun (i : Nat) => i ≤ m.next.length) (fun (i : Nat) => m.next.length - i) (0) ?_ (fun i hi => have ho := hop i; ?_) ?_); (focus (apply SubW [] rfl ?_ ?_ rfl ?_; (repeat' (first | exact kA | refine kB ?_ | refine kC ?_ ?_ | exact kD | fail)))))
 |((with_reducible refine round_next (i := i) (i + 1) ?_ ?_ ?_); (focus (apply SubW [] rfl ?_ ?_ rfl ?_; (repeat' (first | exact kA | refine kB ?_ | refine kC ?_ ?_ | exact kD | fail)))))
 |(with_reducible refine blk_at (id := 2) ?_); (try (refine JL.zeroW 5 _ 57 3 rfl rfl ?_)); (refine JL.rekW 5 (1080, 951) rfl rfl rfl rfl ?_); ((with_reducible refine JL.loopW 2 999 (fun (k : Nat) tm => (6, .one false [.d (.v (.int .i64 ((k : Int))))]) :: (5, .one false [.own (1080, 951)]) :: tm) (fun (k : Nat) bo => ((1080, 951), some (.sl 57 3 ((dMixes ((List.range k).map (abM m)))))) :: bo) (fun (k : Nat) => k ≤ 2 ^ openN (m.next.take i) ∧ m.next.length ≤ i) (fun (k : Nat) => 2 ^ openN (m.next.take i) - k) (0) ?_ (fun k hk => have hp2 := pow_open (n := openN (m.next.take i)) (by have := hop i; omega); ?_) ?_); (focus (apply SubW [((1080, 951), _)] rfl ?_ ?_ rfl ?_; (repeat' (first | exact kA | refine kB ?_ | refine kC ?_ ?_ | exact kD | fail)))))
 |((with_reducible refine round_next (i := k) (k + 1) ?_ ?_ ?_); (focus (apply SubW [((1080, 951), _)] rfl ?_ ?_ rfl ?_; (repeat' (first | exact kA | refine kB ?_ | refine kC ?_ ?_ | exact kD | fail)))))
 |(with_reducible refine blk_at (id := 4) ?_); (try (refine JL.zeroBW (cs2 := [_, _, _]) (128, 1100) 0 _ 3 1 rfl rfl rfl rfl ?_)); (refine JL.rekBW (cs2 := [_, _, _]) (128, 1100) 0 (1112, 1351) rfl rfl rfl rfl rfl rfl ?_); (try (refine JL.zeroBW (cs2 := [_, _, _]) (128, 1100) 1 _ 3 1 rfl rfl rfl rfl ?_)); (refine JL.rekBW (cs2 := [_, _, _]) (128, 1100) 1 (1113, 1353) rfl rfl rfl rfl rfl rfl ?_); (try (refine JL.zeroBW (cs2 := [_, _, _]) (128, 1100) 2 _ 183 1 rfl rfl rfl rfl ?_)); (refine JL.rekBW (cs2 := [_, _, _]) (128, 1100) 2 (1114, 1355) rfl rfl rfl rfl rfl rfl ?_); ((with_reducible refine JL.loopW 4 1399 (fun (j : Nat) tm => (9, .one false [.d (.v (.int .i64 ((j : Int))))]) :: (8, .one false [.d (.v (.int .i64 (((openN (m.next.take j) : Nat) : Int))))]) :: tm) (fun (j : Nat) bo => ((128, 1100), some (.st 57 [.own (1112, 1351), .own (1113, 1353), .own (1114, 1355)])) :: ((1112, 1351), some (.sl 3 1 ((dInts m.base)))) :: ((1113, 1353), some (.sl 3 1 ((dInts (abw m.next k j))))) :: ((1114, 1355), some (.sl 183 1 ((dSets m.held)))) :: bo) (fun (j : Nat) => j ≤ m.next.length) (fun (j : Nat) => m.next.length - j) (0) ?_ (fun j hj => have ho2 := hop j; have hal := abw_len (l := m.next) (k := k) (i := j) hj; ?_) ?_); (focus (apply SubW [((1112, 1351), _), ((1113, 1353), _), ((1114, 1355), _)] rfl ?_ ?_ rfl ?_; (repeat' (first | exact kA | refine kB ?_ | refine kC ?_ ?_ | exact kD | fail)))))
 |((with_reducible refine round_next (i := j) (j + 1) ?_ ?_ ?_); (focus (apply SubW [((1112, 1351), _), ((1113, 1353), _), ((1114, 1355), _)] rfl ?_ ?_ rfl ?_; (repeat' (first | exact kA | refine kB ?_ | refine kC ?_ ?_ | exact kD | fail)))))
 |refine wA ?_
 |(refine wC ?_ ?_ <;> intro hc)
 |refine wB ?_ ?_
 |(with_reducible refine JL.block ?_)
 |(with_reducible refine F_at ?_); refine eW (vs := [(_, _)]) Tryz.results265 ?_; (focus (repeat' (first | exact oA | refine oB ?_ | refine oC ?_ ?_ | fail)))
 |exact oM
 |fail)
 all_goals first
  | rfl
  | (rw [openN_step (by omega), if_pos (by omega)]; rfl)
  | (rw [openN_step (by omega), if_neg (by omega)]; rfl)
  | (rw [abw_keep (by omega) (by omega)])
  | (rw [abw_keep (by omega) (fun h => hc (shr_mod.2 h.2))])
  | (rw [Int.toNat_natCast, abw_set (by omega) ⟨by omega, shr_mod.1 hc⟩])
  | (rw [abw_all (by omega), List.range_succ, List.map_append]; rfl)
  | (have e : k = 2 ^ openN m.next := by
       rw [hp2.1, take_len (by omega)] at hc
       have := hk.1
       rw [take_len (by omega)] at this
       omega
     rw [e]; rfl)
  | exact ⟨Nat.zero_le _, by omega⟩
  | (refine ⟨?_, hk.2⟩; have := hp2.1; omega)
  | (have := hp2.1; omega)
end Go.Proofs.YtfnljcallbalgaaGreatDoor

namespace Go.Proofs.YtfnljcallbalgaaGreatDoor
open Go Go.RowKit
set_option maxRecDepth 100000
set_option maxHeartbeats 8000000
set_option linter.unusedSimpArgs false
set_option linter.unusedVariables false
theorem aborts0_fn (p : Prob) (m : MixD) (h : ¬ mixErr p m = 0) : FnSound Tryz.prog 202 [.val true (probC p), .val true (mixC m)] [] { vals := [(false, [.d (.sl 3 (dMixes []))]), (false, [.d (.v (.int .i64 (mixErr p m)))])] } := by
 refine startW (tm := [(0, _), (1, _)]) Tryz.func202 rfl Tryz.ntmps202 rfl rfl rfl rfl ?_
 repeat' (first
 |(with_reducible refine K_ca 199 ?_); refine zC (mixValid_fn p m) ?_
 |refine wA ?_
 |(refine wC ?_ ?_ <;> intro hc)
 |refine wB ?_ ?_
 |(with_reducible refine JL.block ?_)
 |(with_reducible refine F_at ?_); refine eW (vs := [(_, _), (_, _)]) Tryz.results202 ?_; (focus (repeat' (first | exact oA | refine oB ?_ | refine oC ?_ ?_ | fail)))
 |exact oM
 |fail)
 all_goals first | rfl | exact absurd hc h
theorem aborts_fn (p : Prob) (m : MixD) (h : mixErr p m = 0) : FnSound Tryz.prog 202 [.val true (probC p), .val true (mixC m)] [] { vals := [(false, [.d (.sl 3 (dMixes (allP m)))]), (false, [.d (.v (.int .i64 0))])] } := by
 refine startW (tm := [(0, _), (1, _)]) Tryz.func202 rfl Tryz.ntmps202 rfl rfl rfl rfl ?_
 repeat' (first
 |(with_reducible refine K_ca 199 ?_); refine zC (mixValidOK_fn h) ?_
 |(with_reducible refine K_ca 265 ?_); refine zC (all_fn m (mixIn_of h).few) ?_
 |refine wA ?_
 |(refine wC ?_ ?_ <;> intro hc)
 |refine wB ?_ ?_
 |(with_reducible refine JL.block ?_)
 |(with_reducible refine F_at ?_); refine eW (vs := [(_, _), (_, _)]) Tryz.results202 ?_; (focus (repeat' (first | exact oA | refine oB ?_ | refine oC ?_ ?_ | fail)))
 |exact oM
 |fail)
 all_goals rfl
theorem blame0_fn (p : Prob) (m : MixD) (h : ¬ mixErr p m = 0) : FnSound Tryz.prog 139 [.val true (probC p), .val true (mixC m)] [] { vals := [(true, mixC (blameP p m).1), (true, confC (blameP p m).2.1), (false, [.d (.v (.int .i64 (blameP p m).2.2))])] } := by
 have e : blameP p m = (nilM, ⟨0, 0, 0⟩, mixErr p m) := by unfold blameP; rw [if_pos h]
 rw [e]
 refine startW (tm := [(0, _), (1, _)]) Tryz.func139 rfl Tryz.ntmps139 rfl rfl rfl rfl ?_
 repeat' (first
 |(with_reducible refine rgn 7 700 ?_ ?_); exact rfl
 |(with_reducible refine rgn 8 800 ?_ ?_); exact rfl
 |(with_reducible refine rgn 9 900 ?_ ?_); exact rfl
 |(with_reducible refine rgn 6 1000 ?_ ?_); exact rfl
 |(with_reducible refine K_ca 202 ?_); refine zC (aborts0_fn p m h) ?_
 |refine wA ?_
 |(refine wC ?_ ?_ <;> intro hc)
 |refine wB ?_ ?_
 |(with_reducible refine JL.block ?_)
 |(with_reducible refine F_at ?_); refine eW (vs := [(_, _), (_, _), (_, _)]) Tryz.results139 ?_; (focus (repeat' (first | exact oA | refine oB ?_ | refine oC ?_ ?_ | fail)))
 |exact oM
 |fail)
 all_goals first | rfl | exact absurd hc h
theorem blame_fn (p : Prob) (m : MixD) (h : mixErr p m = 0) : FnSound Tryz.prog 139 [.val true (probC p), .val true (mixC m)] [] { vals := [(true, mixC (blameP p m).1), (true, confC (blameP p m).2.1), (false, [.d (.v (.int .i64 (blameP p m).2.2))])] } := by
 have hm := mixIn_of h
 have hal : (allP m).length ≤ 4096 := by
  have h1 := openN_le m.next
  have h2 := hm.few.ln
  have h3 := (pow_open (n := openN m.next) (by omega)).2.1
  rw [allP_len]; omega
 have hin : ∀ k, MixIn p ((allP m).getD k nilM) ∨ ¬ k < (allP m).length := fun k => by
  by_cases hk : k < (allP m).length
  ·left; rw [allP_get hk]; exact abM_in hm k
  ·exact .inr hk
 have e : blameP p m = blameL p (allP m) := by unfold blameP; rw [if_neg (by simpa using h)]
 rw [e]
 refine startW (tm := [(0, _), (1, _)]) Tryz.func139 rfl Tryz.ntmps139 rfl rfl rfl rfl ?_
 repeat' (first
 |(with_reducible refine rgn 7 700 ?_ ?_); exact rfl
 |(with_reducible refine rgn 8 800 ?_ ?_); exact rfl
 |(with_reducible refine rgn 9 900 ?_ ?_); exact rfl
 |(with_reducible refine rgn 6 1000 ?_ ?_); exact rfl
 |(with_reducible refine K_ca 202 ?_); refine zC (aborts_fn p m h) ?_
 |(with_reducible refine K_ca 203 ?_); refine zC (found_fn p ((allP m).getD k nilM) ((hin k).resolve_right (by omega))) ?_
 |(with_reducible refine blk_at (id := 0) ?_); ((with_reducible refine JL.loopW 0 599 (fun (k : Nat) tm => (9, .one false [.d (.v (.int .i64 ((k : Int))))]) :: tm) (fun (k : Nat) bo => bo) (fun (k : Nat) => k ≤ (allP m).length ∧ ∀ j, j < k → foundP p ((allP m).getD j nilM) = []) (fun (k : Nat) => (allP m).length - k) (0) ?_ (fun k hk => ?_) ?_); (focus (apply SubW [] rfl ?_ ?_ rfl ?_; (repeat' (first | exact kA | refine kB ?_ | refine kC ?_ ?_ | exact kD | fail)))))
 |((with_reducible refine round_next (i := k) (k + 1) ?_ ?_ ?_); (focus (apply SubW [] rfl ?_ ?_ rfl ?_; (repeat' (first | exact kA | refine kB ?_ | refine kC ?_ ?_ | exact kD | fail)))))
 |refine wA ?_
 |(refine wC ?_ ?_ <;> intro hc)
 |refine wB ?_ ?_
 |(with_reducible refine JL.block ?_)
 |(with_reducible refine F_at ?_); refine eW (vs := [(_, _), (_, _), (_, _)]) Tryz.results139 ?_; (focus (repeat' (first | exact oA | refine oB ?_ | refine oC ?_ ?_ | fail)))
 |exact oM
 |fail)
 all_goals first
  | (have hb := blameL_at (l := allP m) (k := k) (by omega) hk.2 (by intro h; rw [h] at hc; simp at hc); rw [hb] <;> rfl)
  | (have hb := blameL_no (l := allP m) (k := k) (by omega) hk.2; rw [hb] <;> rfl)
  | (refine ⟨by omega, fun j hj => ?_⟩; omega)
  | (refine ⟨by omega, fun j hj => ?_⟩; by_cases e : j = k; (subst e; exact List.eq_nil_of_length_eq_zero (by omega)); exact hk.2 j (by omega))
theorem goal_bad {p : Prob} {m : MixD} (h : ¬ mixErr p m = 0) : goalP p m = false := by unfold goalP; simp [h]
theorem goal_no {p : Prob} {m : MixD} {k : Nat} (hk : k < m.base.length) (h : goalI p m k = false) : goalP p m = false := by unfold goalP; rw [range_no hk h, Bool.and_false]
theorem goal_yes {p : Prob} {m : MixD} {k : Nat} (h : mixErr p m = 0) (h0 : ∀ j, j < k → goalI p m j = true) (hk : m.base.length ≤ k) : goalP p m = true := by
 unfold goalP
 rw [decide_eq_true h, Bool.true_and, List.all_eq_true]
 exact fun j hj => h0 j (by have := List.mem_range.1 hj; omega)
theorem goal_fn (p : Prob) (m : MixD) : FnSound Tryz.prog 140 [.val true (probC p), .val true (mixC m)] [] { vals := [(false, [.d (.v (.bool (goalP p m)))])] } := by
 refine startW (tm := [(0, _), (1, _)]) Tryz.func140 rfl Tryz.ntmps140 rfl rfl rfl rfl ?_
 repeat' (first
 |(with_reducible refine rgn 6 600 ?_ ?_); exact rfl
 |(with_reducible refine rgn 7 700 ?_ ?_); exact rfl
 |(with_reducible refine rgn 5 800 ?_ ?_); exact rfl
 |(with_reducible refine K_ca 199 ?_); refine zC (mixValid_fn p m) ?_
 |(with_reducible refine blk_at (id := 0) ?_); ((with_reducible refine JL.loopW 0 499 (fun (k : Nat) tm => (5, .one false [.d (.v (.int .i64 ((k : Int))))]) :: tm) (fun (k : Nat) bo => bo) (fun (k : Nat) => k ≤ m.base.length ∧ ∀ j, j < k → goalI p m j = true) (fun (k : Nat) => m.base.length - k) (0) ?_ (fun k hk => have hin := mixIn_of (p := p) (m := m) (by assumption); have h1 := hin.lb; have h2 := hin.ln; have hvp := vp_all hin.vp; ?_) ?_); (focus (apply SubW [] rfl ?_ ?_ rfl ?_; (repeat' (first | exact kA | refine kB ?_ | refine kC ?_ ?_ | exact kD | fail)))))
 |((with_reducible refine round_next (i := k) (k + 1) ?_ ?_ ?_); (focus (apply SubW [] rfl ?_ ?_ rfl ?_; (repeat' (first | exact kA | refine kB ?_ | refine kC ?_ ?_ | exact kD | fail)))))
 |refine wA ?_
 |(refine wC ?_ ?_ <;> intro hc)
 |refine wB ?_ ?_
 |(with_reducible refine JL.block ?_)
 |(with_reducible refine F_at ?_); refine eW (vs := [(_, _)]) Tryz.results140 ?_; (focus (repeat' (first | exact oA | refine oB ?_ | refine oC ?_ ?_ | fail)))
 |exact oM
 |fail)
 all_goals first
  | exact (goal_bad hc).symm
  | exact (goal_no (k := k) (by omega) (by simp only [goalI]; grind)).symm
  | exact (goal_yes (by assumption) hk.2 (by omega)).symm
  | exact ⟨Nat.zero_le _, fun j hj => absurd hj (Nat.not_lt_zero j)⟩
  | (refine ⟨by omega, fun j hj => ?_⟩; by_cases e : j = k; (subst e; simp only [goalI]; grind); exact hk.2 j (by omega))
end Go.Proofs.YtfnljcallbalgaaGreatDoor

namespace Go.Proofs.YtfnljcallbalgaaGreatDoor
open Go Go.RowKit
set_option maxRecDepth 100000
set_option maxHeartbeats 8000000
set_option linter.unusedSimpArgs false
set_option linter.unusedVariables false
theorem paborts0_fn (p : Prob) (m : MixD) (hu : u8s m.held) (h : ¬ mixErr p m = 0) : FnSound Tryz.prog 266 [.val true (probC p), .val true (mixC m)] [] { vals := [(false, [.d (.sl 3 (dMixes []))]), (false, [.d (.v (.int .i64 (mixErr p m)))])] } := by
 refine startW (tm := [(0, _), (1, _)]) Tryz.func266 rfl Tryz.ntmps266 rfl rfl rfl rfl ?_
 repeat' (first
 |(with_reducible refine K_ca 268 ?_); refine zC (pmixValid_fn p m hu) ?_
 |refine wA ?_
 |(refine wC ?_ ?_ <;> intro hc)
 |refine wB ?_ ?_
 |(with_reducible refine JL.block ?_)
 |(with_reducible refine F_at ?_); refine eW (vs := [(_, _), (_, _)]) Tryz.results266 ?_; (focus (repeat' (first | exact oA | refine oB ?_ | refine oC ?_ ?_ | fail)))
 |exact oM
 |fail)
 all_goals first | rfl | exact absurd hc h
theorem paborts_fn (p : Prob) (m : MixD) (hu : u8s m.held) (h : mixErr p m = 0) : FnSound Tryz.prog 266 [.val true (probC p), .val true (mixC m)] [] { vals := [(false, [.d (.sl 3 (dMixes (allP m)))]), (false, [.d (.v (.int .i64 0))])] } := by
 have hf := (mixIn_of h).few
 obtain ⟨h1, h2, h3⟩ := hf
 have hon := openN_le m.next
 have hlo := fun n (hn : n ≤ m.next.length) => openI_len hn
 have hat := fun b n (hn : n ≤ m.next.length) => openI_at (b := b) hn
 have hall : openN (m.next.take m.next.length) = openN m.next := by rw [List.take_length]
 have hl6 := hlo m.next.length (Nat.le_refl _)
 have hpw := pow_open (n := openN m.next) (by omega)
 refine startW (tm := [(0, _), (1, _)]) Tryz.func266 rfl Tryz.ntmps266 rfl rfl rfl rfl ?_
 repeat' (first
 |(with_reducible refine reg_at (id := 22) ?_); (try (refine JL.shutBW (cs2 := [_, _, _]) (640, 1600) 0 rfl rfl rfl rfl ?_)); (try (refine JL.shutBW (cs2 := [_, _, _]) (640, 1600) 1 rfl rfl rfl rfl ?_)); (try (refine JL.shutBW (cs2 := [_, _, _]) (640, 1600) 2 rfl rfl rfl rfl ?_)); (with_reducible refine rg ?_ ?_); exact rfl
 |(with_reducible refine K_ca 268 ?_); refine zC (pmixValidOK_fn hu h) ?_
 |(with_reducible refine K_ca 54 ?_); (first
 |refine zS (cloneInts_fn m.base (by omega)) ?_
 |refine zS (cloneInts_fn m.next (by omega)) ?_)
 |(with_reducible refine K_ca 310 ?_); refine zS (cloneSets_fn m.held (by omega)) ?_
 |(with_reducible refine blk_at (id := 0) ?_); (try (refine JL.zeroW 7 _ 3 1 rfl rfl ?_)); (refine JL.rekW 7 (1112, 651) rfl rfl rfl rfl ?_); ((with_reducible refine JL.loopW 0 699 (fun (i : Nat) tm => (24, .one false [.d (.v (.int .i64 ((i : Int))))]) :: (7, .one false [.own (1112, 651)]) :: tm) (fun (i : Nat) bo => ((1112, 651), some (.sl 3 1 ((dInts (openI m.next i))))) :: bo) (fun (i : Nat) => i ≤ m.next.length) (fun (i : Nat) => m.next.length - i) (0) ?_ (fun i hi => have ho := hlo i hi; have hoo := openN_mono m.next i; ?_) ?_); (focus (apply SubW [((1112, 651), _)] rfl ?_ ?_ rfl ?_; (repeat' (first | exact kA | refine kB ?_ | refine kC ?_ ?_ | exact kD | fail)))))
 |((with_reducible refine round_next (i := i) (i + 1) ?_ ?_ ?_); (focus (apply SubW [((1112, 651), _)] rfl ?_ ?_ rfl ?_; (repeat' (first | exact kA | refine kB ?_ | refine kC ?_ ?_ | exact kD | fail)))))
 |(with_reducible refine blk_at (id := 2) ?_); (try (refine JL.zeroW 10 _ 57 3 rfl rfl ?_)); (refine JL.rekW 10 (1160, 1351) rfl rfl rfl rfl ?_); ((with_reducible refine JL.loopW 2 1399 (fun (k : Nat) tm => (39, .one false [.d (.v (.int .i64 ((k : Int))))]) :: (10, .one false [.own (1160, 1351)]) :: tm) (fun (k : Nat) bo => ((1160, 1351), some (.sl 57 3 ((dMixes ((List.range k).map (abM m)))))) :: bo) (fun (k : Nat) => k ≤ 2 ^ openN m.next ∧ i = m.next.length) (fun (k : Nat) => 2 ^ openN m.next - k) (0) ?_ (fun k hk => have hle : (openI m.next i).length = openN m.next := (by rw [hlo i hi, hk.2, hall]); ?_) ?_); (focus (apply SubW [((1160, 1351), _)] rfl ?_ ?_ rfl ?_; (repeat' (first | exact kA | refine kB ?_ | refine kC ?_ ?_ | exact kD | fail)))))
 |((with_reducible refine round_next (i := k) (k + 1) ?_ ?_ ?_); (focus (apply SubW [((1160, 1351), _)] rfl ?_ ?_ rfl ?_; (repeat' (first | exact kA | refine kB ?_ | refine kC ?_ ?_ | exact kD | fail)))))
 |(with_reducible refine blk_at (id := 4) ?_); (try (refine JL.zeroBW (cs2 := [_, _, _]) (640, 1600) 0 _ 3 1 rfl rfl rfl rfl ?_)); (refine JL.rekBW (cs2 := [_, _, _]) (640, 1600) 0 (1192, 1751) rfl rfl rfl rfl rfl rfl ?_); (try (refine JL.zeroBW (cs2 := [_, _, _]) (640, 1600) 1 _ 3 1 rfl rfl rfl rfl ?_)); (refine JL.rekBW (cs2 := [_, _, _]) (640, 1600) 1 (1193, 1753) rfl rfl rfl rfl rfl rfl ?_); (try (refine JL.zeroBW (cs2 := [_, _, _]) (640, 1600) 2 _ 183 1 rfl rfl rfl rfl ?_)); (refine JL.rekBW (cs2 := [_, _, _]) (640, 1600) 2 (1194, 1755) rfl rfl rfl rfl rfl rfl ?_); ((with_reducible refine JL.loopW 4 1799 (fun (b : Nat) tm => (54, .one false [.d (.v (.int .i64 ((b : Int))))]) :: tm) (fun (b : Nat) bo => ((640, 1600), some (.st 57 [.own (1192, 1751), .own (1193, 1753), .own (1194, 1755)])) :: ((1192, 1751), some (.sl 3 1 ((dInts m.base)))) :: ((1193, 1753), some (.sl 3 1 ((dInts (abB m.next k b))))) :: ((1194, 1755), some (.sl 183 1 ((dSets m.held)))) :: bo) (fun (b : Nat) => b ≤ (openI m.next i).length) (fun (b : Nat) => (openI m.next i).length - b) (0) ?_ (fun b hb => have hal := abB_len (l := m.next) (k := k) (b := b); ?_) ?_); (focus (apply SubW [((1192, 1751), _), ((1193, 1753), _), ((1194, 1755), _)] rfl ?_ ?_ rfl ?_; (repeat' (first | exact kA | refine kB ?_ | refine kC ?_ ?_ | exact kD | fail)))))
 |((with_reducible refine round_next (i := b) (b + 1) ?_ ?_ ?_); (focus (apply SubW [((1192, 1751), _), ((1193, 1753), _), ((1194, 1755), _)] rfl ?_ ?_ rfl ?_; (repeat' (first | exact kA | refine kB ?_ | refine kC ?_ ?_ | exact kD | fail)))))
 |refine wA ?_
 |(refine wC ?_ ?_ <;> intro hc)
 |refine wB ?_ ?_
 |(with_reducible refine JL.block ?_)
 |(with_reducible refine F_at ?_); refine eW (vs := [(_, _), (_, _)]) Tryz.results266 ?_; (focus (repeat' (first | exact oA | refine oB ?_ | refine oC ?_ ?_ | fail)))
 |exact oM
 |fail)
 all_goals first
  | rfl
  | (rw [openI_yes hc]; done)
  | (rw [openI_no hc]; done)
  | (rw [abB_0]; done)
  | (obtain ⟨i', e1, e2, e3, e4⟩ := hat b i hi (by omega); rw [Int.toNat_natCast, e1]; (try simp only [dInts_len, Int.toNat_natCast]); omega)
  | (obtain ⟨i', e1, e2, e3, e4⟩ := hat b i hi (by omega); rw [Int.toNat_natCast, e1, Int.toNat_natCast, abB_set (i := i') (by omega) e3 e4 ((andI1 k b).1 hc)]; done)
  | (obtain ⟨i', e1, e2, e3, e4⟩ := hat b i hi (by omega); rw [abB_keep (i := i') (by omega) e3 e4 (fun a => hc ((andI1 k b).2 a))]; done)
  | (rw [abB_all (by omega), List.range_succ, List.map_append]; rfl)
  | (refine ⟨?_, hk.2⟩; rw [hle] at *; omega)
  | (rw [hle] at *; omega)
  | (have e : k = 2 ^ openN m.next := by
       rw [hle, hpw.1] at hc
       have := hk.1
       omega
     rw [e]; rfl)
  | trace_state
theorem allP_few {m : MixD} (h : m.next.length ≤ 12) : (allP m).length ≤ 4096 := by
 have h1 := openN_le m.next
 have h3 := (pow_open (n := openN m.next) (by omega)).2.1
 rw [allP_len]; omega
theorem pgoalx_fn (v : Int) : FnSound Tryz.prog 271 [.val false [.d (.v (.int .i64 v))]] [] { vals := [(false, [.d (.v (.bool (decide (0 ≤ v))))])] } := by
 refine startW (tm := [(0, _)]) Tryz.func271 rfl Tryz.ntmps271 rfl rfl rfl rfl ?_
 repeat' (first
 |refine wA ?_
 |(refine wC ?_ ?_ <;> intro hc)
 |refine wB ?_ ?_
 |(with_reducible refine JL.block ?_)
 |(with_reducible refine F_at ?_); refine eW (vs := [(_, _)]) Tryz.results271 ?_; (focus (repeat' (first | exact oA | refine oB ?_ | refine oC ?_ ?_ | fail)))
 |exact oM
 |fail)
theorem eq_no {a b : List Int} {k : Nat} (h : ¬ a.getD k 0 = b.getD k 0) : ¬ a = b := fun e => h (by rw [e])
theorem eqInts_fn (a b : List Int) (ha : a.length ≤ 1000000) : FnSound Tryz.prog 270 [.val false [.d (.sl 1 (dInts a))], .val false [.d (.sl 1 (dInts b))]] [] { vals := [(false, [.d (.v (.bool (decide (a = b))))])] } := by
 refine startW (tm := [(0, _), (1, _)]) Tryz.func270 rfl Tryz.ntmps270 rfl rfl rfl rfl ?_
 repeat' (first
 |(with_reducible refine blk_at (id := 0) ?_); ((with_reducible refine JL.loopW 0 499 (fun (k : Nat) tm => (13, .one false [.d (.v (.int .i64 ((k : Int))))]) :: tm) (fun (k : Nat) bo => bo) (fun (k : Nat) => k ≤ a.length ∧ a.length = b.length ∧ ∀ j, j < k → a.getD j 0 = b.getD j 0) (fun (k : Nat) => a.length - k) (0) ?_ (fun k hk => ?_) ?_); (focus (apply SubW [] rfl ?_ ?_ rfl ?_; (repeat' (first | exact kA | refine kB ?_ | refine kC ?_ ?_ | exact kD | fail)))))
 |((with_reducible refine round_next (i := k) (k + 1) ?_ ?_ ?_); (focus (apply SubW [] rfl ?_ ?_ rfl ?_; (repeat' (first | exact kA | refine kB ?_ | refine kC ?_ ?_ | exact kD | fail)))))
 |refine wA ?_
 |(refine wC ?_ ?_ <;> intro hc)
 |refine wB ?_ ?_
 |(with_reducible refine JL.block ?_)
 |(with_reducible refine F_at ?_); refine eW (vs := [(_, _)]) Tryz.results270 ?_; (focus (repeat' (first | exact oA | refine oB ?_ | refine oC ?_ ?_ | fail)))
 |exact oM
 |fail)
 all_goals first
  | exact (decide_eq_false (fun e => hc (by rw [e]))).symm
  | exact (decide_eq_false (eq_no hc)).symm
  | (refine ⟨by omega, hk.2.1, fun j hj => ?_⟩; by_cases e : j = k; (subst e; exact hc); exact hk.2.2 j (by omega))
  | exact (decide_eq_true (list_ext hk.2.1 fun j hj => hk.2.2 j (by omega))).symm
  | exact ⟨Nat.zero_le _, by omega, fun j hj => absurd hj (Nat.not_lt_zero j)⟩
def idxFrom (q : Int → Bool) : List Int → Nat → Int
 | [], _ => -1
 | x :: r, i => if q x = true then (i : Int) else idxFrom q r (i + 1)
theorem idx_any {q : Int → Bool} : ∀ {l : List Int} {i : Nat}, decide (0 ≤ idxFrom q l i) = l.any q
 | [], i => rfl
 | x :: r, i => by
  unfold idxFrom
  rw [List.any_cons]
  by_cases h : q x = true
  ·rw [if_pos h, h]; simp
  ·rw [if_neg h, idx_any (l := r)]; simp at h; simp [h]
theorem dropI_cons {l : List Int} {k : Nat} (h : k < l.length) : l.drop k = l.getD k 0 :: l.drop (k + 1) := by
 rw [List.drop_eq_getElem_cons h, List.getD_eq_getElem?_getD, List.getElem?_eq_getElem h]; rfl
theorem idx_fn (F : FuncId) (q : Int → Bool) (hb : BoI Tryz.prog F) (hF : ∀ v, FnSound Tryz.prog F [.val false [.d (.v (.int .i64 v))]] [] { vals := [(false, [.d (.v (.bool (q v)))])] }) (xs : List Int) (hl : xs.length ≤ 1000000) : FnSound Tryz.prog 116 [.val false [.d (.sl 1 (dInts xs))], .val false [.d (.v (.func (.func F) #[] #[]))]] [] { vals := [(false, [.d (.v (.int .i64 (idxFrom q xs 0)))])] } := by
 refine startW (tm := [(0, _), (1, _)]) Tryz.func116 rfl Tryz.ntmps116 rfl rfl rfl rfl ?_
 repeat' (first
 |(with_reducible refine W_at ?_); (first
 |(refine W.callV (g := F) rfl hb rfl (hF (xs.getD k 0)) rfl rfl rfl ?_))
 |(with_reducible refine blk_at (id := 0) ?_); ((with_reducible refine JL.loopW 0 299 (fun (k : Nat) tm => (8, .one false [.d (.v (.int .i64 ((k : Int))))]) :: tm) (fun (k : Nat) bo => bo) (fun (k : Nat) => k ≤ xs.length ∧ idxFrom q (xs.drop k) k = idxFrom q xs 0) (fun (k : Nat) => xs.length - k) (0) ?_ (fun k hk => ?_) ?_); (focus (apply SubW [] rfl ?_ ?_ rfl ?_; (repeat' (first | exact kA | refine kB ?_ | refine kC ?_ ?_ | exact kD | fail)))))
 |((with_reducible refine round_next (i := k) (k + 1) ?_ ?_ ?_); (focus (apply SubW [] rfl ?_ ?_ rfl ?_; (repeat' (first | exact kA | refine kB ?_ | refine kC ?_ ?_ | exact kD | fail)))))
 |refine wA ?_
 |(refine wC ?_ ?_ <;> intro hc)
 |refine wB ?_ ?_
 |(with_reducible refine JL.block ?_)
 |(with_reducible refine F_at ?_); refine eW (vs := [(_, _)]) Tryz.results116 ?_; (focus (repeat' (first | exact oA | refine oB ?_ | refine oC ?_ ?_ | fail)))
 |exact oM
 |fail)
 all_goals first
  | (rw [← hk.2, dropI_cons (by omega)]; unfold idxFrom; rw [if_pos hc])
  | (refine ⟨by omega, ?_⟩; rw [← hk.2, dropI_cons (k := k) (by omega)]; conv => rhs; unfold idxFrom
     rw [if_neg (by rw [hc]; decide)])
  | (rw [← hk.2, List.drop_eq_nil_of_le (by omega)]; rfl)
  | exact ⟨Nat.zero_le _, rfl⟩
  | trace_state
theorem contains_fn (F : FuncId) (q : Int → Bool) (hb : BoI Tryz.prog F) (hF : ∀ v, FnSound Tryz.prog F [.val false [.d (.v (.int .i64 v))]] [] { vals := [(false, [.d (.v (.bool (q v)))])] }) (xs : List Int) (hl : xs.length ≤ 1000000) : FnSound Tryz.prog 64 [.val false [.d (.sl 1 (dInts xs))], .val false [.d (.v (.func (.func F) #[] #[]))]] [] { vals := [(false, [.d (.v (.bool (xs.any q)))])] } := by
 rw [← idx_any (i := 0)]
 refine startW (tm := [(0, _), (1, _)]) Tryz.func64 rfl Tryz.ntmps64 rfl rfl rfl rfl ?_
 repeat' (first
 |(with_reducible refine K_ca 116 ?_); refine zC (idx_fn F q hb hF xs hl) ?_
 |refine wA ?_
 |(refine wC ?_ ?_ <;> intro hc)
 |refine wB ?_ ?_
 |(with_reducible refine JL.block ?_)
 |(with_reducible refine F_at ?_); refine eW (vs := [(_, _)]) Tryz.results64 ?_; (focus (repeat' (first | exact oA | refine oB ?_ | refine oC ?_ ?_ | fail)))
 |exact oM
 |fail)
theorem goal_is {p : Prob} {m : MixD} (h : mixErr p m = 0) : goalP p m = (decide (m.base = p.tgt) && !m.next.any (fun v => decide (0 ≤ v))) := by
 have hm := mixIn_of h
 have hv := vp_all hm.vp
 have h1 := hm.lb; have h2 := hm.ln
 unfold goalP
 rw [decide_eq_true h, Bool.true_and, Bool.eq_iff_iff, Bool.and_eq_true, List.all_eq_true, Bool.not_eq_true', List.any_eq_false]
 constructor
 ·intro ha
  refine ⟨decide_eq_true (list_ext (by omega) fun j hj => ?_), fun x hx => ?_⟩
  ·have := ha j (List.mem_range.2 hj)
   simp only [goalI, Bool.and_eq_true, decide_eq_true_eq] at this
   exact this.2
  ·obtain ⟨i, hi, rfl⟩ := List.getElem_of_mem hx
   have := ha i (List.mem_range.2 (by omega))
   simp only [goalI, Bool.and_eq_true, decide_eq_true_eq] at this
   have e : m.next.getD i 0 = m.next[i] := by rw [List.getD_eq_getElem?_getD, List.getElem?_eq_getElem hi]; rfl
   rw [e] at this
   simp; exact this.1
 ·rintro ⟨a, b⟩ i hi
  have hi := List.mem_range.1 hi
  have a := of_decide_eq_true a
  have hb := b _ (int_getD_mem (l := m.next) (k := i) (by omega))
  simp at hb
  simp only [goalI, Bool.and_eq_true, decide_eq_true_eq]
  exact ⟨hb, by rw [a]⟩
theorem pgoal_fn (p : Prob) (m : MixD) (hu : u8s m.held) : FnSound Tryz.prog 206 [.val true (probC p), .val true (mixC m)] [] { vals := [(false, [.d (.v (.bool (goalP p m)))])] } := by
 by_cases h : mixErr p m = 0
 ·rw [goal_is h]
  have hf := (mixIn_of h).few
  obtain ⟨h1, h2, h3⟩ := hf
  refine startW (tm := [(0, _), (1, _)]) Tryz.func206 rfl Tryz.ntmps206 rfl rfl rfl rfl ?_
  repeat' (first
 |(with_reducible refine K_ca 268 ?_); refine zC (pmixValidOK_fn hu h) ?_
 |(with_reducible refine K_ca 270 ?_); refine zC (eqInts_fn m.base p.tgt (by omega)) ?_
 |(with_reducible refine K_ca 64 ?_); refine zC (contains_fn 271 (fun v => decide (0 ≤ v)) ⟨by kernel_rfl⟩ pgoalx_fn m.next (by omega)) ?_
 |refine wA ?_
 |(refine wC ?_ ?_ <;> intro hc)
 |refine wB ?_ ?_
 |(with_reducible refine JL.block ?_)
 |(with_reducible refine F_at ?_); refine eW (vs := [(_, _)]) Tryz.results206 ?_; (focus (repeat' (first | exact oA | refine oB ?_ | refine oC ?_ ?_ | fail)))
 |exact oM
 |fail)
  all_goals first
   | (rw [decide_eq_true hc, Bool.true_and]; done)
   | (rw [decide_eq_false hc, Bool.false_and]; done)
   | trace_state
 ·rw [goal_bad h]
  refine startW (tm := [(0, _), (1, _)]) Tryz.func206 rfl Tryz.ntmps206 rfl rfl rfl rfl ?_
  repeat' (first
 |(with_reducible refine K_ca 268 ?_); refine zC (pmixValid_fn p m hu) ?_
 |refine wA ?_
 |(refine wC ?_ ?_ <;> intro hc)
 |refine wB ?_ ?_
 |(with_reducible refine JL.block ?_)
 |(with_reducible refine F_at ?_); refine eW (vs := [(_, _)]) Tryz.results206 ?_; (focus (repeat' (first | exact oA | refine oB ?_ | refine oC ?_ ?_ | fail)))
 |exact oM
 |fail)
  all_goals first | rfl | exact absurd hc h | trace_state
end Go.Proofs.YtfnljcallbalgaaGreatDoor

namespace Go.Proofs.YtfnljcallbalgaaGreatDoor
open Go Go.RowKit
set_option maxRecDepth 100000
set_option maxHeartbeats 8000000
set_option linter.unusedSimpArgs false
set_option linter.unusedVariables false
theorem pblame_fn (p : Prob) (m : MixD) (hu : u8s m.held) : FnSound Tryz.prog 204 [.val true (probC p), .val true (mixC m)] [] { vals := [(true, mixC (blameP p m).1), (true, confC (blameP p m).2.1), (false, [.d (.v (.int .i64 (blameP p m).2.2))])] } := by
 by_cases h : mixErr p m = 0
 ·have hm := mixIn_of h
  have hal := allP_few (m := m) hm.few.ln
  have hin : ∀ k, MixIn p ((allP m).getD k nilM) ∨ ¬ k < (allP m).length := fun k => by
   by_cases hk : k < (allP m).length
   ·left; rw [allP_get hk]; exact abM_in hm k
   ·exact .inr hk
  have e : blameP p m = blameL p (allP m) := by unfold blameP; rw [if_neg (by simpa using h)]
  rw [e]
  refine startW (tm := [(0, _), (1, _)]) Tryz.func204 rfl Tryz.ntmps204 rfl rfl rfl rfl ?_
  repeat' (first
 |(with_reducible refine K_ca 266 ?_); refine zC (paborts_fn p m hu h) ?_
 |(with_reducible refine K_ca 267 ?_); refine zC (conf_fn p ((allP m).getD k nilM) ((hin k).resolve_right (by omega))) ?_
 |(with_reducible refine blk_at (id := 0) ?_); ((with_reducible refine JL.loopW 0 599 (fun (k : Nat) tm => (25, .one false [.d (.v (.int .i64 ((k : Int))))]) :: tm) (fun (k : Nat) bo => bo) (fun (k : Nat) => k ≤ (allP m).length ∧ ∀ j, j < k → foundP p ((allP m).getD j nilM) = []) (fun (k : Nat) => (allP m).length - k) (0) ?_ (fun k hk => ?_) ?_); (focus (apply SubW [] rfl ?_ ?_ rfl ?_; (repeat' (first | exact kA | refine kB ?_ | refine kC ?_ ?_ | exact kD | fail)))))
 |((with_reducible refine round_next (i := k) (k + 1) ?_ ?_ ?_); (focus (apply SubW [] rfl ?_ ?_ rfl ?_; (repeat' (first | exact kA | refine kB ?_ | refine kC ?_ ?_ | exact kD | fail)))))
 |refine wA ?_
 |(refine wC ?_ ?_ <;> intro hc)
 |refine wB ?_ ?_
 |(with_reducible refine JL.block ?_)
 |(with_reducible refine F_at ?_); refine eW (vs := [(_, _), (_, _), (_, _)]) Tryz.results204 ?_; (focus (repeat' (first | exact oA | refine oB ?_ | refine oC ?_ ?_ | fail)))
 |exact oM
 |fail)
  all_goals first
   | (have hb := blameL_at (l := allP m) (k := k) (by omega) hk.2 (by intro h; rw [h] at hc; simp at hc); rw [hb] <;> rfl)
   | (have hb := blameL_no (l := allP m) (k := k) (by omega) hk.2; rw [hb] <;> rfl)
   | (refine ⟨by omega, fun j hj => ?_⟩; omega)
   | (refine ⟨by omega, fun j hj => ?_⟩; by_cases e : j = k; (subst e; exact List.eq_nil_of_length_eq_zero (by omega)); exact hk.2 j (by omega))
   | trace_state
 ·have e : blameP p m = (nilM, ⟨0, 0, 0⟩, mixErr p m) := by unfold blameP; rw [if_pos h]
  rw [e]
  refine startW (tm := [(0, _), (1, _)]) Tryz.func204 rfl Tryz.ntmps204 rfl rfl rfl rfl ?_
  repeat' (first
 |(with_reducible refine K_ca 266 ?_); refine zC (paborts0_fn p m hu h) ?_
 |refine wA ?_
 |(refine wC ?_ ?_ <;> intro hc)
 |refine wB ?_ ?_
 |(with_reducible refine JL.block ?_)
 |(with_reducible refine F_at ?_); refine eW (vs := [(_, _), (_, _), (_, _)]) Tryz.results204 ?_; (focus (repeat' (first | exact oA | refine oB ?_ | refine oC ?_ ?_ | fail)))
 |exact oM
 |fail)
  all_goals first | rfl | exact absurd hc h | trace_state
end Go.Proofs.YtfnljcallbalgaaGreatDoor

namespace Go.Proofs.YtfnljcallbalgaaGreatDoor
open Go Go.RowKit
set_option linter.unusedSimpArgs false
set_option linter.unusedVariables false
structure StepAt (p : Prob) (s : StepD) : Prop where
 nn : 0 ≤ s.idx
 tab : s.kind = 3 → s.idx < p.tabs.length
 svc : ¬ s.kind = 3 → s.idx < p.vs.length
 ver : s.kind = 1 → 0 ≤ s.ver ∧ s.ver < p.vs.getD s.idx.toNat 0
theorem stepAt_of {p : Prob} {s : StepD} (h1 : stepOK s = true) (h2 : thereB p s = true) : StepAt p s := by
 simp only [stepOK, decide_eq_true_eq] at h1
 unfold thereB at h2
 split at h2
 ·have h2 := of_decide_eq_true h2
  exact ⟨by omega, fun _ => h2, fun h => by contradiction, fun h => by omega⟩
 ·simp only [Bool.and_eq_true, Bool.or_eq_true, decide_eq_true_eq] at h2
  exact ⟨by omega, fun h => by contradiction, fun _ => h2.1, fun h => ⟨by omega, by rcases h2.2 with h3 | h3; exact absurd h h3; exact h3⟩⟩
theorem set_len {α : Type} {l : List α} {k : Nat} {x : α} : (l.set k x).length = l.length := List.length_set
def hup (p : Prob) (m : MixD) (i v : Int) (k : Nat) : List Int := (List.range m.held.length).map fun j => if j < k then heldUp p i v (p.tabs.getD j nilT) (m.held.getD j 0) else m.held.getD j 0
theorem hup_len {p : Prob} {m : MixD} {i v : Int} {k : Nat} : (hup p m i v k).length = m.held.length := by simp [hup]
theorem hup_get {p : Prob} {m : MixD} {i v : Int} {k j : Nat} (h : j < m.held.length) : (hup p m i v k).getD j 0 = if j < k then heldUp p i v (p.tabs.getD j nilT) (m.held.getD j 0) else m.held.getD j 0 := by
 unfold hup
 rw [List.getD_eq_getElem?_getD, List.getElem?_map, List.getElem?_range h]
 rfl
theorem getD_ext {l r : List Int} (h1 : l.length = r.length) (h : ∀ j, j < l.length → l.getD j 0 = r.getD j 0) : l = r := by
 refine List.ext_getElem h1 fun j a b => ?_
 have := h j a
 rwa [List.getD_eq_getElem?_getD, List.getElem?_eq_getElem a, List.getD_eq_getElem?_getD, List.getElem?_eq_getElem b] at this
theorem getDi_set {l : List Int} {k j : Nat} {x : Int} : (l.set k x).getD j 0 = if k = j ∧ k < l.length then x else l.getD j 0 := by
 rw [List.getD_eq_getElem?_getD, List.getElem?_set, List.getD_eq_getElem?_getD]
 by_cases h : k = j
 ·subst h
  by_cases h2 : k < l.length
  ·simp [h2]
  ·simp [h2]
 ·simp [h]
theorem hup_0 {p : Prob} {m : MixD} {i v : Int} : hup p m i v 0 = m.held := by
 refine getD_ext hup_len fun j hj => ?_
 rw [hup_len] at hj
 rw [hup_get hj, if_neg (by omega)]
theorem hup_all {p : Prob} {m : MixD} {i v : Int} {k : Nat} (h : m.held.length ≤ k) : hup p m i v k = (List.range m.held.length).map fun k => heldUp p i v (p.tabs.getD k nilT) (m.held.getD k 0) := by
 unfold hup
 refine List.map_congr_left fun j hj => ?_
 rw [if_pos (by have := List.mem_range.1 hj; omega)]
theorem hup_set {p : Prob} {m : MixD} {i v : Int} {k : Nat} (h : k < m.held.length) (h1 : (p.tabs.getD k nilT).frm = i) (h2 : storedB (p.tabs.getD k nilT).kind = true) : (hup p m i v k).set k (bits BinOp.or IntKind.u8 ((hup p m i v k).getD k 0) (one8 v)) = hup p m i v (k + 1) := by
 refine getD_ext (by rw [set_len, hup_len, hup_len]) fun j hj => ?_
 rw [set_len, hup_len] at hj
 rw [getDi_set, hup_len, hup_get hj, hup_get hj, hup_get h, if_neg (Nat.lt_irrefl k)]
 by_cases e : k = j
 ·subst e
  rw [if_pos ⟨rfl, h⟩, if_pos (by omega)]
  unfold heldUp
  rw [if_pos ⟨h1, h2⟩]
 ·rw [if_neg (fun a => e a.1)]
  by_cases e2 : j < k
  ·rw [if_pos e2, if_pos (by omega)]
  ·rw [if_neg e2, if_neg (by omega)]
theorem hup_keep {p : Prob} {m : MixD} {i v : Int} {k : Nat} (h : ¬ ((p.tabs.getD k nilT).frm = i ∧ storedB (p.tabs.getD k nilT).kind = true)) : hup p m i v (k + 1) = hup p m i v k := by
 refine getD_ext (by rw [hup_len, hup_len]) fun j hj => ?_
 rw [hup_len] at hj
 rw [hup_get hj, hup_get hj]
 by_cases e : j = k
 ·subst e
  rw [if_pos (by omega), if_neg (by omega)]
  unfold heldUp
  rw [if_neg h]
 ·by_cases e2 : j < k
  ·rw [if_pos e2, if_pos (by omega)]
  ·rw [if_neg e2, if_neg (by omega)]
def clr1 (p : Prob) (m : MixD) (t : Tab) (h : Int) (u : Nat) : Bool := !(hasV h u && !hasV (runS m t.frm) u && (decide (t.kind = 4) && !rwAt t u (m.base.getD t.frm.toNat 0)))
theorem clear_no {p : Prob} {m : MixD} {t : Tab} {h : Int} {u : Nat} (hu : (u : Int) < p.vs.getD t.frm.toNat 0) (h1 : clr1 p m t h u = false) : clearB p m t h = false := range_no (by omega) h1
theorem clear_yes {p : Prob} {m : MixD} {t : Tab} {h : Int} {u : Nat} (hu : ¬ (u : Int) < p.vs.getD t.frm.toNat 0) (h1 : ∀ j, j < u → clr1 p m t h j = true) : clearB p m t h = true := by
 unfold clearB
 rw [List.all_eq_true]
 exact fun j hj => h1 j (by have := List.mem_range.1 hj; omega)
theorem after1 {p : Prob} {m : MixD} {s : StepD} (h : s.kind = 1) : afterP p m s = if 0 ≤ m.next.getD s.idx.toNat 0 ∨ s.ver = m.base.getD s.idx.toNat 0 then none else some (startedM p m s) := by unfold afterP; rw [if_pos h]
theorem after2 {p : Prob} {m : MixD} {s : StepD} (h : s.kind = 2) : afterP p m s = if m.next.getD s.idx.toNat 0 < 0 then none else some ⟨m.base.set s.idx.toNat (m.next.getD s.idx.toNat 0), m.next.set s.idx.toNat (-1), m.held⟩ := by unfold afterP; rw [if_neg (by omega), if_pos h]
theorem after3 {p : Prob} {m : MixD} {s : StepD} (h : s.kind = 3) : afterP p m s = if storedB (p.tabs.getD s.idx.toNat nilT).kind = false then none
     else if m.held.getD s.idx.toNat 0 = runS m (p.tabs.getD s.idx.toNat nilT).frm then none
     else if clearB p m (p.tabs.getD s.idx.toNat nilT) (m.held.getD s.idx.toNat 0) = false then none
     else some ⟨m.base, m.next, m.held.set s.idx.toNat (runS m (p.tabs.getD s.idx.toNat nilT).frm)⟩ := by unfold afterP; rw [if_neg (by omega), if_neg (by omega), if_pos h]
theorem after4 {p : Prob} {m : MixD} {s : StepD} (h1 : ¬ s.kind = 1) (h2 : ¬ s.kind = 2) (h3 : ¬ s.kind = 3) : afterP p m s = if m.next.getD s.idx.toNat 0 < 0 then none else some ⟨m.base, m.next.set s.idx.toNat (-1), m.held⟩ := by unfold afterP; rw [if_neg h1, if_neg h2, if_neg h3]
end Go.Proofs.YtfnljcallbalgaaGreatDoor

