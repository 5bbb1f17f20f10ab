/- Rules of runs and contracts of functions, for the claims of one seat. -/
import Derived.Test.YtfnljcallbalgaaGreatDoorUA12
import Derived.Test.YtfnljcallbalgaaGreatDoorUA13
import Derived.Test.YtfnljcallbalgaaGreatDoorUA20
namespace Go.Proofs.YtfnljcallbalgaaGreatDoor
open Go Go.RowKit
set_option maxRecDepth 100000
set_option maxHeartbeats 8000000
set_option linter.unusedSimpArgs false
set_option linter.unusedVariables false
theorem stepValid_fn (s : StepD) : FnSound Tryz.prog 200 [.val true (stepC s)] [] { vals := [(false, [.d (.v (.bool (stepOK s)))])] } := by
 refine startW (tm := [(0, _)]) Tryz.func200 rfl Tryz.ntmps200 rfl rfl rfl rfl ?_
 repeat' (first
 |refine wA ?_
 |(refine wC ?_ ?_ <;> intro hc)
 |refine wB ?_ ?_
 |(with_reducible refine JL.block ?_)
 |(with_reducible refine F_at ?_); refine eW (vs := [(_, _)]) Tryz.results200 ?_; (focus (repeat' (first | exact oA | refine oB ?_ | refine oC ?_ ?_ | fail)))
 |exact oM
 |fail)
 all_goals (unfold stepOK; grind)
theorem after1_fn (p : Prob) (m : MixD) (s : StepD) (hm : MixIn p m) (hs : StepAt p s) (hk : s.kind = 1) : FnSound Tryz.prog 201 [.val true (probC p), .val true (mixC m), .val true [.d (.v (.int .i64 1)), .d (.v (.int .i64 s.idx)), .d (.v (.int .i64 s.ver))]] [] { vals := [(true, mixC ((afterP p m s).getD nilM)), (false, [.d (.v (.bool (afterP p m s).isSome))])] } := by
 have hvp := vp_all hm.vp
 have hlb := hm.lb; have hln := hm.ln; have hlh := hm.lh
 have h0 := hs.nn
 have h1 := hs.svc (by omega)
 have h2 := hs.ver hk
 have h3 := hm.nn s.idx h0 h1
 rw [after1 hk]
 refine startW (tm := [(0, _), (1, _), (2, _)]) Tryz.func201 rfl Tryz.ntmps201 rfl rfl rfl rfl ?_
 repeat' (first
 |(with_reducible refine rgn 7 500 ?_ ?_); exact rfl
 |(with_reducible refine rgn 8 600 ?_ ?_); exact rfl
 |(with_reducible refine rgn 9 700 ?_ ?_); exact rfl
 |(with_reducible refine rgn 10 800 ?_ ?_); exact rfl
 |(with_reducible refine rgn 11 900 ?_ ?_); exact rfl
 |(with_reducible refine rgn 12 1000 ?_ ?_); exact rfl
 |(with_reducible refine rgn 14 1100 ?_ ?_); exact rfl
 |(with_reducible refine rgn 15 1200 ?_ ?_); exact rfl
 |(with_reducible refine rgn 13 1300 ?_ ?_); exact rfl
 |(with_reducible refine rgn 16 1400 ?_ ?_); exact rfl
 |(with_reducible refine rgn 17 1500 ?_ ?_); exact rfl
 |(with_reducible refine rgn 18 1600 ?_ ?_); exact rfl
 |(with_reducible refine rgn 19 1700 ?_ ?_); exact rfl
 |(with_reducible refine rgn 20 1800 ?_ ?_); exact rfl
 |(with_reducible refine rgn 21 1900 ?_ ?_); exact rfl
 |(with_reducible refine rgn 22 2000 ?_ ?_); exact rfl
 |(with_reducible refine rgn 23 2100 ?_ ?_); exact rfl
 |(with_reducible refine rgn 24 2200 ?_ ?_); exact rfl
 |(with_reducible refine rgn 25 2300 ?_ ?_); exact rfl
 |(with_reducible refine rgn 26 2400 ?_ ?_); exact rfl
 |(with_reducible refine rgn 27 2500 ?_ ?_); exact rfl
 |(with_reducible refine rgn 28 2600 ?_ ?_); exact rfl
 |(with_reducible refine rgn 30 2700 ?_ ?_); exact rfl
 |(with_reducible refine rgn 31 2800 ?_ ?_); exact rfl
 |(with_reducible refine rgn 32 2900 ?_ ?_); exact rfl
 |(with_reducible refine rgn 33 3100 ?_ ?_); exact rfl
 |(with_reducible refine rgn 4 3200 ?_ ?_); exact rfl
 |(with_reducible refine rgn 5 3300 ?_ ?_); exact rfl
 |(with_reducible refine rgn 6 3400 ?_ ?_); exact rfl
 |(with_reducible refine K_ca 93 ?_); refine zC (stored_fn (p.tabs.getD k nilT)) ?_
 |(with_reducible refine blk_at (id := 1) ?_); (try (refine JL.zeroBW (cs2 := [_, _, _]) (832, 200) 0 _ 3 1 rfl rfl rfl rfl ?_)); (refine JL.rekBW (cs2 := [_, _, _]) (832, 200) 0 (1128, 951) rfl rfl rfl rfl rfl rfl ?_); (try (refine JL.zeroBW (cs2 := [_, _, _]) (832, 200) 1 _ 3 1 rfl rfl rfl rfl ?_)); (refine JL.rekBW (cs2 := [_, _, _]) (832, 200) 1 (1129, 953) rfl rfl rfl rfl rfl rfl ?_); (try (refine JL.zeroBW (cs2 := [_, _, _]) (832, 200) 2 _ 183 1 rfl rfl rfl rfl ?_)); (refine JL.rekBW (cs2 := [_, _, _]) (832, 200) 2 (1130, 955) rfl rfl rfl rfl rfl rfl ?_); ((with_reducible refine JL.loopW 1 999 (fun (k : Nat) tm => (10, .one false [.d (.v (.int .i64 ((k : Int))))]) :: tm) (fun (k : Nat) bo => ((832, 200), some (.st 57 [.own (1128, 951), .own (1129, 953), .own (1130, 955)])) :: ((1128, 951), some (.sl 3 1 ((dInts m.base)))) :: ((1129, 953), some (.sl 3 1 ((dInts (m.next.set s.idx.toNat s.ver))))) :: ((1130, 955), some (.sl 183 1 ((dSets (hup p m s.idx s.ver k))))) :: bo) (fun (k : Nat) => k ≤ p.tabs.length) (fun (k : Nat) => p.tabs.length - k) (0) ?_ (fun k hk => have hul := hup_len (p := p) (m := m) (i := s.idx) (v := s.ver) (k := k); ?_) ?_); (focus (apply SubW [((1128, 951), _), ((1129, 953), _), ((1130, 955), _)] rfl ?_ ?_ rfl ?_; (repeat' (first | (with_reducible (first | exact chkT_nil | exact chkB_nil | refine chkB_none ?_ | exact avTo_dead | refine avTo_w ?_ | exact avTo_un | exact cellsTo_nl | refine cellsTo_cn ?_ ?_ | exact cellTo_same | exact cellTo_zz | refine boxTo_stw ?_ | refine boxTo_slw ?_ | refine boxTo_fzw ?_)) | ((with_reducible refine T_at ?_); (first | refine chkT_skip rfl ?_ | refine chkT_cons rfl ?_ rfl ?_)) | ((with_reducible refine B_at ?_); (first | refine chkB_skip rfl ?_ | refine chkB_cons rfl ?_ rfl rfl ?_)) | ((with_reducible refine avTo_tup ?_); (focus rfl)) | ((with_reducible refine CS_at ?_); (first | exact cellsTo_same rfl | refine cellsTo_cn ?_ ?_)) | ((with_reducible refine CE_at ?_); (first | exact cellTo_ow rfl | exact cellTo_pt rfl | refine cellTo_int ?_ | refine cellTo_bool ?_ | refine cellTo_sl ?_ | refine cellTo_zd ?_ | refine cellTo_fz rfl ?_ | exact cellTo_rn rfl)) | (with_reducible rfl) | (refine ND.mk ?_; kernel_rfl))))))
 |((with_reducible refine round_next (i := k) (k + 1) ?_ ?_ ?_); (focus (apply SubW [((1128, 951), _), ((1129, 953), _), ((1130, 955), _)] rfl ?_ ?_ rfl ?_; (repeat' (first | (with_reducible (first | exact chkT_nil | exact chkB_nil | refine chkB_none ?_ | exact avTo_dead | refine avTo_w ?_ | exact avTo_un | exact cellsTo_nl | refine cellsTo_cn ?_ ?_ | exact cellTo_same | exact cellTo_zz | refine boxTo_stw ?_ | refine boxTo_slw ?_ | refine boxTo_fzw ?_)) | ((with_reducible refine T_at ?_); (first | refine chkT_skip rfl ?_ | refine chkT_cons rfl ?_ rfl ?_)) | ((with_reducible refine B_at ?_); (first | refine chkB_skip rfl ?_ | refine chkB_cons rfl ?_ rfl rfl ?_)) | ((with_reducible refine avTo_tup ?_); (focus rfl)) | ((with_reducible refine CS_at ?_); (first | exact cellsTo_same rfl | refine cellsTo_cn ?_ ?_)) | ((with_reducible refine CE_at ?_); (first | exact cellTo_ow rfl | exact cellTo_pt rfl | refine cellTo_int ?_ | refine cellTo_bool ?_ | refine cellTo_sl ?_ | refine cellTo_zd ?_ | refine cellTo_fz rfl ?_ | exact cellTo_rn rfl)) | (with_reducible rfl) | (refine ND.mk ?_; kernel_rfl))))))
 |refine wA ?_
 |(refine wC ?_ ?_ <;> intro hc)
 |refine wB ?_ ?_
 |(with_reducible refine JL.block ?_)
 |(with_reducible refine F_at ?_); refine eW (vs := [(_, _), (_, _)]) Tryz.results201 ?_; (focus (repeat' (first | exact oA | refine oB ?_ | refine oC ?_ ?_ | fail)))
 |exact oM
 |fail)
 all_goals first
  | rfl
  | (rw [hup_0]; rfl)
  | (rw [Int.toNat_natCast, ← hup_set (by omega) (by assumption) (decide_eq_true hc)]; rfl)
  | (rw [hup_keep (by unfold storedB; grind)])
  | (rw [if_pos (by omega)]; rfl)
  | (rw [if_neg (by omega)]; rfl)
  | (rw [if_neg (by omega), hup_all (by omega)]; rfl)
theorem after2_fn (p : Prob) (m : MixD) (s : StepD) (hm : MixIn p m) (hs : StepAt p s) (hk : s.kind = 2) : FnSound Tryz.prog 201 [.val true (probC p), .val true (mixC m), .val true [.d (.v (.int .i64 2)), .d (.v (.int .i64 s.idx)), .d (.v (.int .i64 s.ver))]] [] { vals := [(true, mixC ((afterP p m s).getD nilM)), (false, [.d (.v (.bool (afterP p m s).isSome))])] } := by
 have hvp := vp_all hm.vp
 have hlb := hm.lb; have hln := hm.ln; have hlh := hm.lh
 have h0 := hs.nn
 have h1 := hs.svc (by omega)
 have h3 := hm.nn s.idx h0 h1
 rw [after2 hk]
 refine startW (tm := [(0, _), (1, _), (2, _)]) Tryz.func201 rfl Tryz.ntmps201 rfl rfl rfl rfl ?_
 repeat' (first
 |(with_reducible refine rgn 7 500 ?_ ?_); exact rfl
 |(with_reducible refine rgn 8 600 ?_ ?_); exact rfl
 |(with_reducible refine rgn 9 700 ?_ ?_); exact rfl
 |(with_reducible refine rgn 10 800 ?_ ?_); exact rfl
 |(with_reducible refine rgn 11 900 ?_ ?_); exact rfl
 |(with_reducible refine rgn 12 1000 ?_ ?_); exact rfl
 |(with_reducible refine rgn 14 1100 ?_ ?_); exact rfl
 |(with_reducible refine rgn 15 1200 ?_ ?_); exact rfl
 |(with_reducible refine rgn 13 1300 ?_ ?_); exact rfl
 |(with_reducible refine rgn 16 1400 ?_ ?_); exact rfl
 |(with_reducible refine rgn 17 1500 ?_ ?_); exact rfl
 |(with_reducible refine rgn 18 1600 ?_ ?_); exact rfl
 |(with_reducible refine rgn 19 1700 ?_ ?_); exact rfl
 |(with_reducible refine rgn 20 1800 ?_ ?_); exact rfl
 |(with_reducible refine rgn 21 1900 ?_ ?_); exact rfl
 |(with_reducible refine rgn 22 2000 ?_ ?_); exact rfl
 |(with_reducible refine rgn 23 2100 ?_ ?_); exact rfl
 |(with_reducible refine rgn 24 2200 ?_ ?_); exact rfl
 |(with_reducible refine rgn 25 2300 ?_ ?_); exact rfl
 |(with_reducible refine rgn 26 2400 ?_ ?_); exact rfl
 |(with_reducible refine rgn 27 2500 ?_ ?_); exact rfl
 |(with_reducible refine rgn 28 2600 ?_ ?_); exact rfl
 |(with_reducible refine rgn 30 2700 ?_ ?_); exact rfl
 |(with_reducible refine rgn 31 2800 ?_ ?_); exact rfl
 |(with_reducible refine rgn 32 2900 ?_ ?_); exact rfl
 |(with_reducible refine rgn 33 3100 ?_ ?_); exact rfl
 |(with_reducible refine rgn 4 3200 ?_ ?_); exact rfl
 |(with_reducible refine rgn 5 3300 ?_ ?_); exact rfl
 |(with_reducible refine rgn 6 3400 ?_ ?_); exact rfl
 |refine wA ?_
 |(refine wC ?_ ?_ <;> intro hc)
 |refine wB ?_ ?_
 |(with_reducible refine JL.block ?_)
 |(with_reducible refine F_at ?_); refine eW (vs := [(_, _), (_, _)]) Tryz.results201 ?_; (focus (repeat' (first | exact oA | refine oB ?_ | refine oC ?_ ?_ | fail)))
 |exact oM
 |fail)
 all_goals first
  | rfl
  | (rw [if_pos hc]; rfl)
  | (rw [if_neg hc]; rfl)
theorem after3_fn (p : Prob) (m : MixD) (s : StepD) (hm : MixIn p m) (hs : StepAt p s) (hk : s.kind = 3) : FnSound Tryz.prog 201 [.val true (probC p), .val true (mixC m), .val true [.d (.v (.int .i64 3)), .d (.v (.int .i64 s.idx)), .d (.v (.int .i64 s.ver))]] [] { vals := [(true, mixC ((afterP p m s).getD nilM)), (false, [.d (.v (.bool (afterP p m s).isSome))])] } := by
 have hvp := vp_all hm.vp
 have hlb := hm.lb; have hln := hm.ln; have hlh := hm.lh
 have h0 := hs.nn
 have h1 := hs.tab (by omega)
 have htn := tabN hm.vp s.idx.toNat
 have h3 := hm.nn (p.tabs.getD s.idx.toNat nilT).frm
 rw [after3 hk]
 refine startW (tm := [(0, _), (1, _), (2, _)]) Tryz.func201 rfl Tryz.ntmps201 rfl rfl rfl rfl ?_
 repeat' (first
 |(with_reducible refine rgn 7 500 ?_ ?_); exact rfl
 |(with_reducible refine rgn 8 600 ?_ ?_); exact rfl
 |(with_reducible refine rgn 9 700 ?_ ?_); exact rfl
 |(with_reducible refine rgn 10 800 ?_ ?_); exact rfl
 |(with_reducible refine rgn 11 900 ?_ ?_); exact rfl
 |(with_reducible refine rgn 12 1000 ?_ ?_); exact rfl
 |(with_reducible refine rgn 14 1100 ?_ ?_); exact rfl
 |(with_reducible refine rgn 15 1200 ?_ ?_); exact rfl
 |(with_reducible refine rgn 13 1300 ?_ ?_); exact rfl
 |(with_reducible refine rgn 16 1400 ?_ ?_); exact rfl
 |(with_reducible refine rgn 17 1500 ?_ ?_); exact rfl
 |(with_reducible refine rgn 18 1600 ?_ ?_); exact rfl
 |(with_reducible refine rgn 19 1700 ?_ ?_); exact rfl
 |(with_reducible refine rgn 20 1800 ?_ ?_); exact rfl
 |(with_reducible refine rgn 21 1900 ?_ ?_); exact rfl
 |(with_reducible refine rgn 22 2000 ?_ ?_); exact rfl
 |(with_reducible refine rgn 23 2100 ?_ ?_); exact rfl
 |(with_reducible refine rgn 24 2200 ?_ ?_); exact rfl
 |(with_reducible refine rgn 25 2300 ?_ ?_); exact rfl
 |(with_reducible refine rgn 26 2400 ?_ ?_); exact rfl
 |(with_reducible refine rgn 27 2500 ?_ ?_); exact rfl
 |(with_reducible refine rgn 28 2600 ?_ ?_); exact rfl
 |(with_reducible refine rgn 30 2700 ?_ ?_); exact rfl
 |(with_reducible refine rgn 31 2800 ?_ ?_); exact rfl
 |(with_reducible refine rgn 32 2900 ?_ ?_); exact rfl
 |(with_reducible refine rgn 33 3100 ?_ ?_); exact rfl
 |(with_reducible refine rgn 4 3200 ?_ ?_); exact rfl
 |(with_reducible refine rgn 5 3300 ?_ ?_); exact rfl
 |(with_reducible refine rgn 6 3400 ?_ ?_); exact rfl
 |(with_reducible refine K_ca 93 ?_); refine zC (stored_fn (p.tabs.getD s.idx.toNat nilT)) ?_
 |(with_reducible refine K_ca 263 ?_); refine zC (run_fn m (p.tabs.getD s.idx.toNat nilT).frm (by omega) (by omega) (by omega)) ?_
 |(with_reducible refine K_ca 264 ?_); (first
 |refine zC (has_fn (m.held.getD s.idx.toNat 0) u (by omega)) ?_
 |refine zC (has_fn (runS m (p.tabs.getD s.idx.toNat nilT).frm) u (by omega)) ?_)
 |(with_reducible refine blk_at (id := 3) ?_); ((with_reducible refine JL.loopW 3 2599 (fun (u : Nat) tm => (13, .one false [.d (.v (.int .i64 ((u : Int))))]) :: tm) (fun (u : Nat) bo => bo) (fun (u : Nat) => (u : Int) ≤ p.vs.getD (p.tabs.getD s.idx.toNat nilT).frm.toNat 0 ∧ ∀ j, j < u → clr1 p m (p.tabs.getD s.idx.toNat nilT) (m.held.getD s.idx.toNat 0) j = true) (fun (u : Nat) => (p.vs.getD (p.tabs.getD s.idx.toNat nilT).frm.toNat 0).toNat - u) (0) ?_ (fun u hu => have htr := tabRW hm.vp s.idx.toNat u; ?_) ?_); (focus (apply SubW [] rfl ?_ ?_ rfl ?_; (repeat' (first | (with_reducible (first | exact chkT_nil | exact chkB_nil | refine chkB_none ?_ | exact avTo_dead | refine avTo_w ?_ | exact avTo_un | exact cellsTo_nl | refine cellsTo_cn ?_ ?_ | exact cellTo_same | exact cellTo_zz | refine boxTo_stw ?_ | refine boxTo_slw ?_ | refine boxTo_fzw ?_)) | ((with_reducible refine T_at ?_); (first | refine chkT_skip rfl ?_ | refine chkT_cons rfl ?_ rfl ?_)) | ((with_reducible refine B_at ?_); (first | refine chkB_skip rfl ?_ | refine chkB_cons rfl ?_ rfl rfl ?_)) | ((with_reducible refine avTo_tup ?_); (focus rfl)) | ((with_reducible refine CS_at ?_); (first | exact cellsTo_same rfl | refine cellsTo_cn ?_ ?_)) | ((with_reducible refine CE_at ?_); (first | exact cellTo_ow rfl | exact cellTo_pt rfl | refine cellTo_int ?_ | refine cellTo_bool ?_ | refine cellTo_sl ?_ | refine cellTo_zd ?_ | refine cellTo_fz rfl ?_ | exact cellTo_rn rfl)) | (with_reducible rfl) | (refine ND.mk ?_; kernel_rfl))))))
 |((with_reducible refine round_next (i := u) (u + 1) ?_ ?_ ?_); (focus (apply SubW [] rfl ?_ ?_ rfl ?_; (repeat' (first | (with_reducible (first | exact chkT_nil | exact chkB_nil | refine chkB_none ?_ | exact avTo_dead | refine avTo_w ?_ | exact avTo_un | exact cellsTo_nl | refine cellsTo_cn ?_ ?_ | exact cellTo_same | exact cellTo_zz | refine boxTo_stw ?_ | refine boxTo_slw ?_ | refine boxTo_fzw ?_)) | ((with_reducible refine T_at ?_); (first | refine chkT_skip rfl ?_ | refine chkT_cons rfl ?_ rfl ?_)) | ((with_reducible refine B_at ?_); (first | refine chkB_skip rfl ?_ | refine chkB_cons rfl ?_ rfl rfl ?_)) | ((with_reducible refine avTo_tup ?_); (focus rfl)) | ((with_reducible refine CS_at ?_); (first | exact cellsTo_same rfl | refine cellsTo_cn ?_ ?_)) | ((with_reducible refine CE_at ?_); (first | exact cellTo_ow rfl | exact cellTo_pt rfl | refine cellTo_int ?_ | refine cellTo_bool ?_ | refine cellTo_sl ?_ | refine cellTo_zd ?_ | refine cellTo_fz rfl ?_ | exact cellTo_rn rfl)) | (with_reducible rfl) | (refine ND.mk ?_; kernel_rfl))))))
 |refine wA ?_
 |(refine wC ?_ ?_ <;> intro hc)
 |refine wB ?_ ?_
 |(with_reducible refine JL.block ?_)
 |(with_reducible refine F_at ?_); refine eW (vs := [(_, _), (_, _)]) Tryz.results201 ?_; (focus (repeat' (first | exact oA | refine oB ?_ | refine oC ?_ ?_ | fail)))
 |exact oM
 |fail)
 all_goals first
  | rfl
  | (rw [if_pos (by unfold storedB; grind)]; rfl)
  | (rw [if_neg (by unfold storedB; grind), if_pos hc]; rfl)
  | (have hcl := clear_no (u := u) (m := m) (t := p.tabs.getD s.idx.toNat nilT) (h := m.held.getD s.idx.toNat 0) (by omega) (by simp only [clr1, hasV, rwAt]; grind); rw [if_neg (by unfold storedB; grind), if_neg (by assumption), if_pos hcl]; rfl)
  | (refine ⟨by omega, fun j hj => ?_⟩; by_cases e : j = u; (subst e; simp only [clr1, hasV, rwAt]; grind); exact hu.2 j (by omega))
  | exact ⟨by omega, fun j hj => absurd hj (Nat.not_lt_zero j)⟩
  | (have hcl := clear_yes (u := u) (m := m) (t := p.tabs.getD s.idx.toNat nilT) (h := m.held.getD s.idx.toNat 0) (by omega) hu.2; rw [if_neg (by unfold storedB; grind), if_neg (by assumption), if_neg (by rw [hcl]; decide)]; rfl)
theorem after4_fn (p : Prob) (m : MixD) (s : StepD) (hm : MixIn p m) (hs : StepAt p s) (hk : s.kind = 4) : FnSound Tryz.prog 201 [.val true (probC p), .val true (mixC m), .val true [.d (.v (.int .i64 4)), .d (.v (.int .i64 s.idx)), .d (.v (.int .i64 s.ver))]] [] { vals := [(true, mixC ((afterP p m s).getD nilM)), (false, [.d (.v (.bool (afterP p m s).isSome))])] } := by
 have hvp := vp_all hm.vp
 have hlb := hm.lb; have hln := hm.ln; have hlh := hm.lh
 have h0 := hs.nn
 have h1 := hs.svc (by omega)
 have h3 := hm.nn s.idx h0 h1
 rw [after4 (by omega) (by omega) (by omega)]
 refine startW (tm := [(0, _), (1, _), (2, _)]) Tryz.func201 rfl Tryz.ntmps201 rfl rfl rfl rfl ?_
 repeat' (first
 |(with_reducible refine rgn 7 500 ?_ ?_); exact rfl
 |(with_reducible refine rgn 8 600 ?_ ?_); exact rfl
 |(with_reducible refine rgn 9 700 ?_ ?_); exact rfl
 |(with_reducible refine rgn 10 800 ?_ ?_); exact rfl
 |(with_reducible refine rgn 11 900 ?_ ?_); exact rfl
 |(with_reducible refine rgn 12 1000 ?_ ?_); exact rfl
 |(with_reducible refine rgn 14 1100 ?_ ?_); exact rfl
 |(with_reducible refine rgn 15 1200 ?_ ?_); exact rfl
 |(with_reducible refine rgn 13 1300 ?_ ?_); exact rfl
 |(with_reducible refine rgn 16 1400 ?_ ?_); exact rfl
 |(with_reducible refine rgn 17 1500 ?_ ?_); exact rfl
 |(with_reducible refine rgn 18 1600 ?_ ?_); exact rfl
 |(with_reducible refine rgn 19 1700 ?_ ?_); exact rfl
 |(with_reducible refine rgn 20 1800 ?_ ?_); exact rfl
 |(with_reducible refine rgn 21 1900 ?_ ?_); exact rfl
 |(with_reducible refine rgn 22 2000 ?_ ?_); exact rfl
 |(with_reducible refine rgn 23 2100 ?_ ?_); exact rfl
 |(with_reducible refine rgn 24 2200 ?_ ?_); exact rfl
 |(with_reducible refine rgn 25 2300 ?_ ?_); exact rfl
 |(with_reducible refine rgn 26 2400 ?_ ?_); exact rfl
 |(with_reducible refine rgn 27 2500 ?_ ?_); exact rfl
 |(with_reducible refine rgn 28 2600 ?_ ?_); exact rfl
 |(with_reducible refine rgn 30 2700 ?_ ?_); exact rfl
 |(with_reducible refine rgn 31 2800 ?_ ?_); exact rfl
 |(with_reducible refine rgn 32 2900 ?_ ?_); exact rfl
 |(with_reducible refine rgn 33 3100 ?_ ?_); exact rfl
 |(with_reducible refine rgn 4 3200 ?_ ?_); exact rfl
 |(with_reducible refine rgn 5 3300 ?_ ?_); exact rfl
 |(with_reducible refine rgn 6 3400 ?_ ?_); exact rfl
 |refine wA ?_
 |(refine wC ?_ ?_ <;> intro hc)
 |refine wB ?_ ?_
 |(with_reducible refine JL.block ?_)
 |(with_reducible refine F_at ?_); refine eW (vs := [(_, _), (_, _)]) Tryz.results201 ?_; (focus (repeat' (first | exact oA | refine oB ?_ | refine oC ?_ ?_ | fail)))
 |exact oM
 |fail)
 all_goals first
  | rfl
  | (rw [if_pos hc]; rfl)
  | (rw [if_neg hc]; rfl)
theorem after_fn (p : Prob) (m : MixD) (s : StepD) (hm : MixIn p m) (hs : StepAt p s) (hk : 1 ≤ s.kind ∧ s.kind ≤ 4) : FnSound Tryz.prog 201 [.val true (probC p), .val true (mixC m), .val true (stepC s)] [] { vals := [(true, mixC ((afterP p m s).getD nilM)), (false, [.d (.v (.bool (afterP p m s).isSome))])] } := by
 by_cases k1 : s.kind = 1
 ·have := after1_fn p m s hm hs k1; unfold stepC; rw [k1]; exact this
 ·by_cases k2 : s.kind = 2
  ·have := after2_fn p m s hm hs k2; unfold stepC; rw [k2]; exact this
  ·by_cases k3 : s.kind = 3
   ·have := after3_fn p m s hm hs k3; unfold stepC; rw [k3]; exact this
   ·have k4 : s.kind = 4 := by omega
    have := after4_fn p m s hm hs k4; unfold stepC; rw [k4]; exact this
end Go.Proofs.YtfnljcallbalgaaGreatDoor

