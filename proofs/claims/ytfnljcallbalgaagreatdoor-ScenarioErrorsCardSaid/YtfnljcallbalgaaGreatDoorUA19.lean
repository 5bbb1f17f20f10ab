/- Rules of runs and contracts of functions, for the claims of one seat. -/
import Derived.Test.YtfnljcallbalgaaGreatDoorUA13
import Derived.Test.YtfnljcallbalgaaGreatDoorUA14
import Derived.Test.YtfnljcallbalgaaGreatDoorUA17
namespace Go.Proofs.YtfnljcallbalgaaGreatDoor
open Go Go.RowKit
set_option maxRecDepth 100000
set_option maxHeartbeats 8000000
set_option linter.unusedSimpArgs false
set_option linter.unusedVariables false
theorem found_fn (p : Prob) (m : MixD) (hm : MixIn p m) : FnSound Tryz.prog 203 [.val true (probC p), .val true (mixC m)] [] { vals := [(false, [.d (.sl 3 (dConfs (foundP p m)))])] } := by
 have hvp := vp_all hm.vp
 have hlh := hm.lh
 refine startW (tm := [(0, _), (1, _)]) Tryz.func203 rfl Tryz.ntmps203 rfl rfl rfl rfl ?_
 repeat' (first
 |(with_reducible refine rgn 5 500 ?_ ?_); exact rfl
 |(with_reducible refine rgn 6 600 ?_ ?_); exact rfl
 |(with_reducible refine rgn 7 700 ?_ ?_); exact rfl
 |(with_reducible refine rgn 8 800 ?_ ?_); exact rfl
 |(with_reducible refine rgn 9 900 ?_ ?_); exact rfl
 |(with_reducible refine rgn 10 1000 ?_ ?_); exact rfl
 |(with_reducible refine rgn 12 1100 ?_ ?_); exact rfl
 |(with_reducible refine rgn 13 1200 ?_ ?_); exact rfl
 |(with_reducible refine rgn 14 1300 ?_ ?_); exact rfl
 |(with_reducible refine rgn 15 1400 ?_ ?_); exact rfl
 |(with_reducible refine rgn 17 1500 ?_ ?_); exact rfl
 |(with_reducible refine rgn 18 1600 ?_ ?_); exact rfl
 |(with_reducible refine rgn 19 1700 ?_ ?_); exact rfl
 |(with_reducible refine rgn 20 1800 ?_ ?_); exact rfl
 |(with_reducible refine rgn 16 1900 ?_ ?_); exact rfl
 |(with_reducible refine rgn 21 2000 ?_ ?_); exact rfl
 |(with_reducible refine rgn 22 2100 ?_ ?_); exact rfl
 |(with_reducible refine rgn 11 2200 ?_ ?_); exact rfl
 |(with_reducible refine rgn 4 2300 ?_ ?_); exact rfl
 |(with_reducible refine K_ca 263 ?_); (first
 |refine zC (run_fn m (p.tabs.getD i nilT).frm (by omega) (by omega) (by omega)) ?_
 |refine zC (run_fn m (p.tabs.getD i nilT).tto (by omega) (by omega) (by omega)) ?_)
 |(with_reducible refine K_ca 93 ?_); refine zC (stored_fn (p.tabs.getD i nilT)) ?_
 |(with_reducible refine K_ca 264 ?_); (first
 |refine zC (has_fn (m.held.getD i 0) u (by omega)) ?_
 |refine zC (has_fn (runS m (p.tabs.getD i nilT).frm) u (by omega)) ?_
 |refine zC (has_fn (runS m (p.tabs.getD i nilT).tto) v (by omega)) ?_)
 |(with_reducible refine blk_at (id := 0) ?_); (try (refine JL.zeroW 5 _ 180 3 rfl rfl ?_)); (refine JL.rekW 5 (1080, 351) rfl rfl rfl rfl ?_); ((with_reducible refine JL.loopW 0 399 (fun (i : Nat) tm => (6, .one false [.d (.v (.int .i64 ((i : Int))))]) :: (5, .one false [.own (1080, 351)]) :: tm) (fun (i : Nat) bo => ((1080, 351), some (.sl 180 3 ((dConfs (cf1 p m i))))) :: bo) (fun (i : Nat) => i ≤ p.tabs.length) (fun (i : Nat) => p.tabs.length - i) (0) ?_ (fun i hi => have htn := tabN hm.vp i; have hl1 := cf1_len (m := m) hm.vp i; have hmf := hm.nn (p.tabs.getD i nilT).frm; have hmt := hm.nn (p.tabs.getD i nilT).tto; ?_) ?_); (focus (apply SubW [((1080, 351), _)] rfl ?_ ?_ rfl ?_; (repeat' (first | (with_reducible (first | exact chkT_nil | exact chkB_nil | refine chkB_none ?_ | exact avTo_dead | refine avTo_w ?_ | exact avTo_un | exact cellsTo_nl | refine cellsTo_cn ?_ ?_ | exact cellTo_same | exact cellTo_zz | refine boxTo_stw ?_ | refine boxTo_slw ?_ | refine boxTo_fzw ?_)) | ((with_reducible refine T_at ?_); (first | refine chkT_skip rfl ?_ | refine chkT_cons rfl ?_ rfl ?_)) | ((with_reducible refine B_at ?_); (first | refine chkB_skip rfl ?_ | refine chkB_cons rfl ?_ rfl rfl ?_)) | ((with_reducible refine avTo_tup ?_); (focus rfl)) | ((with_reducible refine CS_at ?_); (first | exact cellsTo_same rfl | refine cellsTo_cn ?_ ?_)) | ((with_reducible refine CE_at ?_); (first | exact cellTo_ow rfl | exact cellTo_pt rfl | refine cellTo_int ?_ | refine cellTo_bool ?_ | refine cellTo_sl ?_ | refine cellTo_zd ?_ | refine cellTo_fz rfl ?_ | exact cellTo_rn rfl)) | (with_reducible rfl) | (refine ND.mk ?_; kernel_rfl))))))
 |((with_reducible refine round_next (i := i) (i + 1) ?_ ?_ ?_); (focus (apply SubW [((1080, 351), _)] rfl ?_ ?_ rfl ?_; (repeat' (first | (with_reducible (first | exact chkT_nil | exact chkB_nil | refine chkB_none ?_ | exact avTo_dead | refine avTo_w ?_ | exact avTo_un | exact cellsTo_nl | refine cellsTo_cn ?_ ?_ | exact cellTo_same | exact cellTo_zz | refine boxTo_stw ?_ | refine boxTo_slw ?_ | refine boxTo_fzw ?_)) | ((with_reducible refine T_at ?_); (first | refine chkT_skip rfl ?_ | refine chkT_cons rfl ?_ rfl ?_)) | ((with_reducible refine B_at ?_); (first | refine chkB_skip rfl ?_ | refine chkB_cons rfl ?_ rfl rfl ?_)) | ((with_reducible refine avTo_tup ?_); (focus rfl)) | ((with_reducible refine CS_at ?_); (first | exact cellsTo_same rfl | refine cellsTo_cn ?_ ?_)) | ((with_reducible refine CE_at ?_); (first | exact cellTo_ow rfl | exact cellTo_pt rfl | refine cellTo_int ?_ | refine cellTo_bool ?_ | refine cellTo_sl ?_ | refine cellTo_zd ?_ | refine cellTo_fz rfl ?_ | exact cellTo_rn rfl)) | (with_reducible rfl) | (refine ND.mk ?_; kernel_rfl))))))
 |(with_reducible refine blk_at (id := 2) ?_); (try (refine JL.zeroW 5 _ 180 3 rfl rfl ?_)); (refine JL.rekW 5 (1080, 951) rfl rfl rfl rfl ?_); ((with_reducible refine JL.loopW 2 999 (fun (u : Nat) tm => (9, .one false [.d (.v (.int .i64 ((u : Int))))]) :: (5, .one false [.own (1080, 951)]) :: tm) (fun (u : Nat) bo => ((1080, 951), some (.sl 180 3 ((dConfs (cf1 p m i ++ cf2 p m i u))))) :: bo) (fun (u : Nat) => (u : Int) ≤ p.vs.getD (p.tabs.getD i nilT).frm.toNat 0) (fun (u : Nat) => (p.vs.getD (p.tabs.getD i nilT).frm.toNat 0).toNat - u) (0) ?_ (fun u hu => have hok := tabOK hm.vp i u; have hl2 := cf2_len (m := m) (i := i) (vs_le hm.vp _) u; ?_) ?_); (focus (apply SubW [((1080, 951), _)] rfl ?_ ?_ rfl ?_; (repeat' (first | (with_reducible (first | exact chkT_nil | exact chkB_nil | refine chkB_none ?_ | exact avTo_dead | refine avTo_w ?_ | exact avTo_un | exact cellsTo_nl | refine cellsTo_cn ?_ ?_ | exact cellTo_same | exact cellTo_zz | refine boxTo_stw ?_ | refine boxTo_slw ?_ | refine boxTo_fzw ?_)) | ((with_reducible refine T_at ?_); (first | refine chkT_skip rfl ?_ | refine chkT_cons rfl ?_ rfl ?_)) | ((with_reducible refine B_at ?_); (first | refine chkB_skip rfl ?_ | refine chkB_cons rfl ?_ rfl rfl ?_)) | ((with_reducible refine avTo_tup ?_); (focus rfl)) | ((with_reducible refine CS_at ?_); (first | exact cellsTo_same rfl | refine cellsTo_cn ?_ ?_)) | ((with_reducible refine CE_at ?_); (first | exact cellTo_ow rfl | exact cellTo_pt rfl | refine cellTo_int ?_ | refine cellTo_bool ?_ | refine cellTo_sl ?_ | refine cellTo_zd ?_ | refine cellTo_fz rfl ?_ | exact cellTo_rn rfl)) | (with_reducible rfl) | (refine ND.mk ?_; kernel_rfl))))))
 |((with_reducible refine round_next (i := u) (u + 1) ?_ ?_ ?_); (focus (apply SubW [((1080, 951), _)] rfl ?_ ?_ rfl ?_; (repeat' (first | (with_reducible (first | exact chkT_nil | exact chkB_nil | refine chkB_none ?_ | exact avTo_dead | refine avTo_w ?_ | exact avTo_un | exact cellsTo_nl | refine cellsTo_cn ?_ ?_ | exact cellTo_same | exact cellTo_zz | refine boxTo_stw ?_ | refine boxTo_slw ?_ | refine boxTo_fzw ?_)) | ((with_reducible refine T_at ?_); (first | refine chkT_skip rfl ?_ | refine chkT_cons rfl ?_ rfl ?_)) | ((with_reducible refine B_at ?_); (first | refine chkB_skip rfl ?_ | refine chkB_cons rfl ?_ rfl rfl ?_)) | ((with_reducible refine avTo_tup ?_); (focus rfl)) | ((with_reducible refine CS_at ?_); (first | exact cellsTo_same rfl | refine cellsTo_cn ?_ ?_)) | ((with_reducible refine CE_at ?_); (first | exact cellTo_ow rfl | exact cellTo_pt rfl | refine cellTo_int ?_ | refine cellTo_bool ?_ | refine cellTo_sl ?_ | refine cellTo_zd ?_ | refine cellTo_fz rfl ?_ | exact cellTo_rn rfl)) | (with_reducible rfl) | (refine ND.mk ?_; kernel_rfl))))))
 |(with_reducible refine blk_at (id := 4) ?_); (try (refine JL.zeroW 5 _ 180 3 rfl rfl ?_)); (refine JL.rekW 5 (1080, 1351) rfl rfl rfl rfl ?_); ((with_reducible refine JL.loopW 4 1399 (fun (v : Nat) tm => (11, .one false [.d (.v (.int .i64 ((v : Int))))]) :: (10, .one false [.d (.v (.bool ((rd3 p m i u v))))]) :: (5, .one false [.own (1080, 1351)]) :: tm) (fun (v : Nat) bo => ((1080, 1351), some (.sl 180 3 ((dConfs (cf1 p m i ++ (cf2 p m i u ++ cf3 p m i u v)))))) :: bo) (fun (v : Nat) => (v : Int) ≤ p.vs.getD (p.tabs.getD i nilT).tto.toNat 0) (fun (v : Nat) => (p.vs.getD (p.tabs.getD i nilT).tto.toNat 0).toNat - v) (0) ?_ (fun v hv => have hcl := cf3_len (p := p) (m := m) (i := i) (u := u) v; ?_) ?_); (focus (apply SubW [((1080, 1351), _)] rfl ?_ ?_ rfl ?_; (repeat' (first | (with_reducible (first | exact chkT_nil | exact chkB_nil | refine chkB_none ?_ | exact avTo_dead | refine avTo_w ?_ | exact avTo_un | exact cellsTo_nl | refine cellsTo_cn ?_ ?_ | exact cellTo_same | exact cellTo_zz | refine boxTo_stw ?_ | refine boxTo_slw ?_ | refine boxTo_fzw ?_)) | ((with_reducible refine T_at ?_); (first | refine chkT_skip rfl ?_ | refine chkT_cons rfl ?_ rfl ?_)) | ((with_reducible refine B_at ?_); (first | refine chkB_skip rfl ?_ | refine chkB_cons rfl ?_ rfl rfl ?_)) | ((with_reducible refine avTo_tup ?_); (focus rfl)) | ((with_reducible refine CS_at ?_); (first | exact cellsTo_same rfl | refine cellsTo_cn ?_ ?_)) | ((with_reducible refine CE_at ?_); (first | exact cellTo_ow rfl | exact cellTo_pt rfl | refine cellTo_int ?_ | refine cellTo_bool ?_ | refine cellTo_sl ?_ | refine cellTo_zd ?_ | refine cellTo_fz rfl ?_ | exact cellTo_rn rfl)) | (with_reducible rfl) | (refine ND.mk ?_; kernel_rfl))))))
 |((with_reducible refine round_next (i := v) (v + 1) ?_ ?_ ?_); (focus (apply SubW [((1080, 1351), _)] rfl ?_ ?_ rfl ?_; (repeat' (first | (with_reducible (first | exact chkT_nil | exact chkB_nil | refine chkB_none ?_ | exact avTo_dead | refine avTo_w ?_ | exact avTo_un | exact cellsTo_nl | refine cellsTo_cn ?_ ?_ | exact cellTo_same | exact cellTo_zz | refine boxTo_stw ?_ | refine boxTo_slw ?_ | refine boxTo_fzw ?_)) | ((with_reducible refine T_at ?_); (first | refine chkT_skip rfl ?_ | refine chkT_cons rfl ?_ rfl ?_)) | ((with_reducible refine B_at ?_); (first | refine chkB_skip rfl ?_ | refine chkB_cons rfl ?_ rfl rfl ?_)) | ((with_reducible refine avTo_tup ?_); (focus rfl)) | ((with_reducible refine CS_at ?_); (first | exact cellsTo_same rfl | refine cellsTo_cn ?_ ?_)) | ((with_reducible refine CE_at ?_); (first | exact cellTo_ow rfl | exact cellTo_pt rfl | refine cellTo_int ?_ | refine cellTo_bool ?_ | refine cellTo_sl ?_ | refine cellTo_zd ?_ | refine cellTo_fz rfl ?_ | exact cellTo_rn rfl)) | (with_reducible rfl) | (refine ND.mk ?_; kernel_rfl))))))
 |refine wA ?_
 |(refine wC ?_ ?_ <;> intro hc)
 |refine wB ?_ ?_
 |(with_reducible refine JL.block ?_)
 |(with_reducible refine F_at ?_); refine eW (vs := [(_, _)]) Tryz.results203 ?_; (focus (repeat' (first | exact oA | refine oB ?_ | refine oC ?_ ?_ | fail)))
 |exact oM
 |fail)
 all_goals first
  | rfl
  | (rw [rd3_step]; simp only [hasV, okAt]; grind)
  | (rw [cf3_no (by simp only [hasV, okAt]; grind)])
  | (rw [cf3_yes (by simp only [hasV]; grind) (by grind) (by simp only [okAt]; grind)]; simp only [List.append_assoc])
  | (rw [cf2_yes (v := v) (by simp only [hasV, writers, storedB]; grind) (by omega) (by omega), if_pos (by grind)]; simp only [List.append_assoc])
  | (rw [cf2_yes (v := v) (by simp only [hasV, writers, storedB]; grind) (by omega) (by omega), if_neg (by grind)]; simp only [List.append_assoc, List.append_nil])
  | (rw [cf2_no (by simp only [hasV, writers, storedB]; grind)])
  | (rw [cf1_step (u := u) (by omega) (by omega)])
  | (rw [cf1_all (by omega) (by omega)])
  | (rw [cf2_0, List.append_nil])
  | (rw [cf3_0, List.append_nil])
end Go.Proofs.YtfnljcallbalgaaGreatDoor

