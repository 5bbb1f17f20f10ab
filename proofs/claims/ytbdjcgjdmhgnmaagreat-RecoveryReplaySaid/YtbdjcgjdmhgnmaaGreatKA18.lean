import Derived.Test.YtbdjcgjdmhgnmaaGreatKA13
import Derived.Test.YtbdjcgjdmhgnmaaGreatKA16
import Derived.Test.YtbdjcgjdmhgnmaaGreatKA17
namespace Go.Proofs.YtbdjcgjdmhgnmaaGreat
open Go Go.RowKit
set_option maxRecDepth 100000
set_option maxHeartbeats 8000000
set_option linter.unusedSimpArgs false
set_option linter.unusedVariables false
theorem found_fn (p : Prob) (m : MixD) (hm : MixIn p m) : FnSound Tryz.prog 154 [.val true (probC p), .val true (mixC m)] [] { vals := [(false, [.d (.sl 3 (dConfs (foundP p m)))])] } := by
 have hvp := vp_all hm.vp
 have hlh := hm.lh
 refine startW (tm := [(0, _), (1, _)]) Tryz.func154 rfl Tryz.ntmps154 rfl rfl rfl rfl ?_
 repeat' (first
 |(with_reducible (first
 |refine JL.seq ?_
 |refine JL.skip ?_
 |refine JL.exit ?_
 |refine JL.ret ?_
 |refine JL.nil ?_
 |refine outOf_normal ?_
 |refine outOf_same ?_
 |refine thenL_normal ?_
 |refine thenL_exit ?_
 |refine roundOf_exit ?_))
 |(with_reducible refine W_at ?_); (first
 |(with_reducible refine K_mv ?_); refine W.move rfl rfl ?_
 |(with_reducible refine K_as ?_); refine W.assign rfl rfl ?_
 |(with_reducible refine K_ld 147 ?_); refine W.loadA (cs2 := [_, _, _, _, _, _]) rfl ld147 rfl rfl rfl ?_
 |(with_reducible refine K_ld 42 ?_); refine W.loadA (cs2 := [_, _, _]) rfl ld42 rfl rfl rfl ?_
 |(with_reducible refine K_ld _ ?_); refine W.ld rfl rfl rfl rfl ?_
 |(with_reducible refine K_fa _ _ ?_); refine W.fa rfl rfl rfl ?_
 |(with_reducible refine K_g ?_); (first
 |refine W.gT rfl rfl ?_
 |refine W.gF rfl rfl rfl rfl ?_
 |(refine W.gSB rfl rfl (fun hc => ?_) (fun hc => ?_)))
 |(with_reducible refine K_nl ?_); refine W.nil ?_
 |(with_reducible refine K_bx 32 ?_); refine W.box (t := 32) 0 rfl rfl rfl ?_
 |(with_reducible refine K_bx 42 ?_); refine W.box (t := 42) 64 rfl rfl rfl ?_
 |(with_reducible refine K_bu .len 30 ?_); refine W.len rfl el30 rfl rfl lTabs ?_
 |(with_reducible refine K_bn .lss 3 ?_); refine W.bin rfl rfl rfl rfl ?_
 |(with_reducible refine K_ix 30 ?_); ((refine W.idx rfl el30 rfl rfl (gTabsN ?_) ?_))
 |(with_reducible refine K_al 147 ?_); refine W.alloc 320 rfl rfl zr147 ?_
 |(with_reducible refine K_st 147 ?_); refine W.store (cs2 := [_, _, _, _, _, _]) sz147 rfl rfl rfl rfl ?_
 |(with_reducible refine K_ca 94 ?_); (first
 |(refine W.call0A rfl bo94 (run_fn m (p.tabs.getD i nilT).frm (by omega) (by omega) (by omega)) rfl rfl rfl ?_)
 |(refine W.call0A rfl bo94 (run_fn m (p.tabs.getD i nilT).tto (by omega) (by omega) (by omega)) rfl rfl rfl ?_))
 |(with_reducible refine K_ca 80 ?_); ((refine W.call0A rfl bo80 (stored_fn (p.tabs.getD i nilT)) rfl rfl rfl ?_))
 |(with_reducible refine K_ix 40 ?_); ((refine W.idx rfl el40 rfl rfl (gSetsN ?_) ?_))
 |(with_reducible refine K_ix 29 ?_); ((refine W.idx rfl el29 rfl rfl (gInts ?_) ?_))
 |(with_reducible refine K_ca 95 ?_); (first
 |(refine W.call0A rfl bo95 (has_fn (m.held.getD i 0) u (by omega)) rfl rfl rfl ?_)
 |(refine W.call0A rfl bo95 (has_fn (runS m (p.tabs.getD i nilT).frm) u (by omega)) rfl rfl rfl ?_)
 |(refine W.call0A rfl bo95 (has_fn (runS m (p.tabs.getD i nilT).tto) v (by omega)) rfl rfl rfl ?_))
 |(with_reducible refine K_un .not ?_); (first
 |refine W.notP rfl rfl ?_
 |refine W.not rfl rfl ?_)
 |(with_reducible refine K_ix 145 ?_); ((refine W.idx rfl el145 rfl rfl (gMatN ?_) ?_))
 |(with_reducible refine K_ix 166 ?_); ((refine W.idx rfl el166 rfl rfl (gBoolsN ?_) ?_))
 |(with_reducible refine K_pk ?_); (first
 |refine W.pickT rfl rfl rfl ?_
 |refine W.pickF rfl rfl rfl ?_)
 |(with_reducible refine K_bd 176 ?_); refine W.build (cs2 := [_, _, _]) rfl pl176 rfl rfl ?_
 |(with_reducible refine K_bs 213 ?_); (first
 |refine W.bs (rows := [[_, _, _]]) 320 rfl rfl ef213 rfl rfl rfl ?_
 |refine W.bs (rows := [[_, _, _]]) 256 rfl rfl ef213 rfl rfl rfl ?_)
 |(with_reducible refine K_bu .append 213 ?_); (first
 |(refine W.appO 384 rfl rfl ef213 is213 rfl rfl rfl rfl ?_ sConfsC ?_)
 |(refine W.appO 320 rfl rfl ef213 is213 rfl rfl rfl rfl ?_ sConfsC ?_))
 |(with_reducible refine K_bn .add 3 ?_); refine W.addI rfl rfl rfl ?_ ?_; (focus omega))
 |(with_reducible refine C_at ?_); (first
 |refine JL.condF rfl ?_
 |refine JL.condN rfl (fun hc => ?_) (fun hc => ?_)
 |refine JL.condP rfl (fun hc => ?_) (fun hc => ?_)
 |refine JL.cond rfl (fun hc => ?_) (fun hc => ?_))
 |(with_reducible refine rgn 5 500 ?_ ?_); (focus exact rfl)
 |(with_reducible refine rgn 6 600 ?_ ?_); (focus exact rfl)
 |(with_reducible refine rgn 7 700 ?_ ?_); (focus exact rfl)
 |(with_reducible refine rgn 8 800 ?_ ?_); (focus exact rfl)
 |(with_reducible refine rgn 9 900 ?_ ?_); (focus exact rfl)
 |(with_reducible refine rgn 10 1000 ?_ ?_); (focus exact rfl)
 |(with_reducible refine rgn 12 1100 ?_ ?_); (focus exact rfl)
 |(with_reducible refine rgn 13 1200 ?_ ?_); (focus exact rfl)
 |(with_reducible refine rgn 14 1300 ?_ ?_); (focus exact rfl)
 |(with_reducible refine rgn 15 1400 ?_ ?_); (focus exact rfl)
 |(with_reducible refine rgn 17 1500 ?_ ?_); (focus exact rfl)
 |(with_reducible refine rgn 18 1600 ?_ ?_); (focus exact rfl)
 |(with_reducible refine rgn 19 1700 ?_ ?_); (focus exact rfl)
 |(with_reducible refine rgn 20 1800 ?_ ?_); (focus exact rfl)
 |(with_reducible refine rgn 16 1900 ?_ ?_); (focus exact rfl)
 |(with_reducible refine rgn 21 2000 ?_ ?_); (focus exact rfl)
 |(with_reducible refine rgn 22 2100 ?_ ?_); (focus exact rfl)
 |(with_reducible refine rgn 11 2200 ?_ ?_); (focus exact rfl)
 |(with_reducible refine rgn 4 2300 ?_ ?_); (focus exact rfl)
 |(with_reducible refine rg ?_ ?_); (focus exact rfl)
 |(with_reducible refine blk_at (id := 0) ?_); (try (refine JL.zeroW 5 _ 176 3 rfl rfl ?_)); (refine JL.rekW 5 (1080, 351) rfl rfl rfl rfl ?_); ((with_reducible refine JL.loopW 0 399 (fun (i : Nat) tm => (6, .one false [.d (.v (.int .i64 ((i : Int))))]) :: (5, .one false [.own (1080, 351)]) :: tm) (fun (i : Nat) bo => ((1080, 351), some (.sl 176 3 ((dConfs (cf1 p m i))))) :: bo) (fun (i : Nat) => i ≤ p.tabs.length) (fun (i : Nat) => p.tabs.length - i) (0) ?_ (fun i hi => have htn := tabN hm.vp i; have hl1 := cf1_len (m := m) hm.vp i; have hmf := hm.nn (p.tabs.getD i nilT).frm; have hmt := hm.nn (p.tabs.getD i nilT).tto; ?_) ?_); (focus (apply SubW [((1080, 351), _)] rfl ?_ ?_ rfl ?_; (repeat' (first
 |(with_reducible (first
 |exact chkT_nil
 |exact chkB_nil
 |refine chkB_none ?_
 |refine avTo_w ?_
 |exact cellsTo_nl
 |refine cellsTo_cn ?_ ?_
 |exact cellTo_zz
 |refine boxTo_stw ?_
 |refine boxTo_slw ?_))
 |(with_reducible refine T_at ?_); (first
 |refine chkT_skip rfl ?_
 |refine chkT_cons rfl ?_ rfl ?_)
 |(with_reducible refine B_at ?_); (first
 |refine chkB_skip rfl ?_
 |refine chkB_cons rfl ?_ rfl rfl ?_)
 |(with_reducible refine CS_at ?_); (exact cellsTo_same rfl)
 |(with_reducible refine CE_at ?_); (first
 |exact cellTo_ow rfl
 |exact cellTo_pt rfl
 |refine cellTo_int ?_)
 |refine ND.mk ?_; kernel_rfl)))))
 |(with_reducible refine round_next (i := i) (i + 1) ?_ ?_ ?_); (focus (apply SubW [((1080, 351), _)] rfl ?_ ?_ rfl ?_; (repeat' (first
 |(with_reducible (first
 |exact chkT_nil
 |exact chkB_nil
 |refine chkB_none ?_
 |refine avTo_w ?_
 |exact cellsTo_nl
 |refine cellsTo_cn ?_ ?_
 |exact cellTo_zz
 |refine boxTo_stw ?_
 |refine boxTo_slw ?_))
 |(with_reducible refine T_at ?_); (first
 |refine chkT_skip rfl ?_
 |refine chkT_cons rfl ?_ rfl ?_)
 |(with_reducible refine B_at ?_); (first
 |refine chkB_skip rfl ?_
 |refine chkB_cons rfl ?_ rfl rfl ?_)
 |(with_reducible refine CS_at ?_); (exact cellsTo_same rfl)
 |(with_reducible refine CE_at ?_); (first
 |exact cellTo_ow rfl
 |exact cellTo_pt rfl
 |refine cellTo_int ?_)
 |refine ND.mk ?_; kernel_rfl))))
 |(with_reducible refine blk_at (id := 2) ?_); (try (refine JL.zeroW 5 _ 176 3 rfl rfl ?_)); (refine JL.rekW 5 (1080, 951) rfl rfl rfl rfl ?_); ((with_reducible refine JL.loopW 2 999 (fun (u : Nat) tm => (9, .one false [.d (.v (.int .i64 ((u : Int))))]) :: (5, .one false [.own (1080, 951)]) :: tm) (fun (u : Nat) bo => ((1080, 951), some (.sl 176 3 ((dConfs (cf1 p m i ++ cf2 p m i u))))) :: bo) (fun (u : Nat) => (u : Int) ≤ p.vs.getD (p.tabs.getD i nilT).frm.toNat 0) (fun (u : Nat) => (p.vs.getD (p.tabs.getD i nilT).frm.toNat 0).toNat - u) (0) ?_ (fun u hu => have hok := tabOK hm.vp i u; have hl2 := cf2_len (m := m) (i := i) (vs_le hm.vp _) u; ?_) ?_); (focus (apply SubW [((1080, 951), _)] rfl ?_ ?_ rfl ?_; (repeat' (first
 |(with_reducible (first
 |exact chkT_nil
 |exact chkB_nil
 |refine chkB_none ?_
 |refine avTo_w ?_
 |exact cellsTo_nl
 |refine cellsTo_cn ?_ ?_
 |exact cellTo_same
 |exact cellTo_zz
 |refine boxTo_stw ?_
 |refine boxTo_slw ?_))
 |(with_reducible refine T_at ?_); (first
 |refine chkT_skip rfl ?_
 |refine chkT_cons rfl ?_ rfl ?_)
 |(with_reducible refine B_at ?_); (first
 |refine chkB_skip rfl ?_
 |refine chkB_cons rfl ?_ rfl rfl ?_)
 |(with_reducible refine CS_at ?_); (exact cellsTo_same rfl)
 |(with_reducible refine CE_at ?_); (first
 |exact cellTo_ow rfl
 |exact cellTo_pt rfl
 |refine cellTo_int ?_
 |exact cellTo_rn rfl)
 |refine ND.mk ?_; kernel_rfl)))))
 |(with_reducible refine round_next (i := u) (u + 1) ?_ ?_ ?_); (focus (apply SubW [((1080, 951), _)] rfl ?_ ?_ rfl ?_; (repeat' (first
 |(with_reducible (first
 |exact chkT_nil
 |exact chkB_nil
 |refine chkB_none ?_
 |refine avTo_w ?_
 |exact cellsTo_nl
 |refine cellsTo_cn ?_ ?_
 |exact cellTo_same
 |exact cellTo_zz
 |refine boxTo_stw ?_
 |refine boxTo_slw ?_))
 |(with_reducible refine T_at ?_); (first
 |refine chkT_skip rfl ?_
 |refine chkT_cons rfl ?_ rfl ?_)
 |(with_reducible refine B_at ?_); (first
 |refine chkB_skip rfl ?_
 |refine chkB_cons rfl ?_ rfl rfl ?_)
 |(with_reducible refine CS_at ?_); (exact cellsTo_same rfl)
 |(with_reducible refine CE_at ?_); (first
 |exact cellTo_ow rfl
 |exact cellTo_pt rfl
 |refine cellTo_int ?_
 |exact cellTo_rn rfl)
 |refine ND.mk ?_; kernel_rfl))))
 |(with_reducible refine blk_at (id := 4) ?_); (try (refine JL.zeroW 5 _ 176 3 rfl rfl ?_)); (refine JL.rekW 5 (1080, 1351) rfl rfl rfl rfl ?_); ((with_reducible refine JL.loopW 4 1399 (fun (v : Nat) tm => (11, .one false [.d (.v (.int .i64 ((v : Int))))]) :: (10, .one false [.d (.v (.bool ((rd3 p m i u v))))]) :: (5, .one false [.own (1080, 1351)]) :: tm) (fun (v : Nat) bo => ((1080, 1351), some (.sl 176 3 ((dConfs (cf1 p m i ++ (cf2 p m i u ++ cf3 p m i u v)))))) :: bo) (fun (v : Nat) => (v : Int) ≤ p.vs.getD (p.tabs.getD i nilT).tto.toNat 0) (fun (v : Nat) => (p.vs.getD (p.tabs.getD i nilT).tto.toNat 0).toNat - v) (0) ?_ (fun v hv => have hcl := cf3_len (p := p) (m := m) (i := i) (u := u) v; ?_) ?_); (focus (apply SubW [((1080, 1351), _)] rfl ?_ ?_ rfl ?_; (repeat' (first
 |(with_reducible (first
 |exact chkT_nil
 |exact chkB_nil
 |refine chkB_none ?_
 |refine avTo_w ?_
 |exact cellsTo_nl
 |refine cellsTo_cn ?_ ?_
 |exact cellTo_same
 |exact cellTo_zz
 |refine boxTo_stw ?_
 |refine boxTo_slw ?_))
 |(with_reducible refine T_at ?_); (first
 |refine chkT_skip rfl ?_
 |refine chkT_cons rfl ?_ rfl ?_)
 |(with_reducible refine B_at ?_); (first
 |refine chkB_skip rfl ?_
 |refine chkB_cons rfl ?_ rfl rfl ?_)
 |(with_reducible refine CS_at ?_); (exact cellsTo_same rfl)
 |(with_reducible refine CE_at ?_); (first
 |exact cellTo_ow rfl
 |exact cellTo_pt rfl
 |refine cellTo_int ?_
 |refine cellTo_bool ?_
 |exact cellTo_rn rfl)
 |refine ND.mk ?_; kernel_rfl)))))
 |(with_reducible refine round_next (i := v) (v + 1) ?_ ?_ ?_); (focus (apply SubW [((1080, 1351), _)] rfl ?_ ?_ rfl ?_; (repeat' (first
 |(with_reducible (first
 |exact chkT_nil
 |exact chkB_nil
 |refine chkB_none ?_
 |refine avTo_w ?_
 |exact cellsTo_nl
 |refine cellsTo_cn ?_ ?_
 |exact cellTo_same
 |exact cellTo_zz
 |refine boxTo_stw ?_
 |refine boxTo_slw ?_))
 |(with_reducible refine T_at ?_); (first
 |refine chkT_skip rfl ?_
 |refine chkT_cons rfl ?_ rfl ?_)
 |(with_reducible refine B_at ?_); (first
 |refine chkB_skip rfl ?_
 |refine chkB_cons rfl ?_ rfl rfl ?_)
 |(with_reducible refine CS_at ?_); (exact cellsTo_same rfl)
 |(with_reducible refine CE_at ?_); (first
 |exact cellTo_ow rfl
 |exact cellTo_pt rfl
 |refine cellTo_int ?_
 |refine cellTo_bool ?_
 |exact cellTo_rn rfl)
 |refine ND.mk ?_; kernel_rfl))))
 |(with_reducible refine JL.block ?_)
 |(with_reducible apply endW Tryz.results154); (focus (apply ResW.tmp rfl; exact ResW.nil)); rotate_left; (focus exact rfl); (focus (repeat' (first
 |exact OutVs.nil
 |refine OutVs.cons ?_ ?_
 |exact OutCs.nil
 |refine OutCs.cons ?_ ?_
 |refine OutC.own rfl ?_)))
 |(focus omega)
 |focus (simp only [IntKind.bits, List.length_append, List.length_cons, List.length_nil, List.length_map, List.length_take, List.length_drop, List.length_replicate, List.length_range, List.length_set, lInts, lSets, lBools, lMat, lTabs, lMixes, lSteps, lNodes, lConfs, lEnts, lActs, lCtls, lSigs]; omega))
 all_goals first
  | rfl
  | (rw [rd3_step]; simp only [hasV, okAt]; grind)
  | (rw [cf3_no (by simp only [hasV, okAt]; grind)])
  | (rw [cf3_yes (by simp only [hasV]; grind) (by grind) (by simp only [okAt]; grind)]; simp only [List.append_assoc])
  | (rw [cf2_yes (v := v) (by simp only [hasV, writers, storedB]; grind) (by omega) (by omega), if_pos (by grind)]; simp only [List.append_assoc])
  | (rw [cf2_yes (v := v) (by simp only [hasV, writers, storedB]; grind) (by omega) (by omega), if_neg (by grind)]; simp only [List.append_assoc, List.append_nil])
  | (rw [cf2_no (by simp only [hasV, writers, storedB]; grind)])
  | (rw [cf1_step (u := u) (by omega) (by omega)])
  | (rw [cf1_all (by omega) (by omega)])
  | (rw [cf2_0, List.append_nil])
  | (rw [cf3_0, List.append_nil])
end Go.Proofs.YtbdjcgjdmhgnmaaGreat

