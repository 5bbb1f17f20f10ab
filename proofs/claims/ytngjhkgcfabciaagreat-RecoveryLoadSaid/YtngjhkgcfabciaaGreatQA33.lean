/- Rules of runs and contracts of functions, for the claims of one seat. -/
import Derived.Test.YtngjhkgcfabciaaGreatQA15
import Derived.Test.YtngjhkgcfabciaaGreatQA32
namespace Go.Proofs.YtngjhkgcfabciaaGreat
open Go Go.RowKit
set_option maxRecDepth 100000
set_option maxHeartbeats 8000000
set_option linter.unusedSimpArgs false
set_option linter.unusedVariables false
def caseC (d : DraftD) (R ch : List Int) : List C := [.d (.sl 1 (dSets d.vs)), .d (.sl 1 (dSets d.now)), .d (.sl 1 (dSets d.tgt)), .d (.sl 6 (dLinks d.links)), .d (.sl 1 (dSets R)), .d (.sl 1 (dSets ch))]
def nilPast : List C := [.d (.sl 1 []), .d (.sl 1 []), .d (.sl 1 []), .d (.sl 6 []), .d (.sl 1 []), .d (.sl 3 []), .d (.sl 4 []), .d (.sl 9 []), .d (.sl 1 [])]
def pastC (p : Prob) (rs : List Int) (l : List StepD) (y : PastD) : List C := [.d (.sl 1 (dInts p.vs)), .d (.sl 1 (dInts p.now)), .d (.sl 1 (dInts p.tgt)), .d (.sl 6 (dTabs p.tabs)), .d (.sl 1 (dInts rs)), .d (.sl 3 (dSteps l)), .d (.sl 4 (dEnts y.ents)), .d (.sl 9 (dCtls y.sts)), .d (.sl 1 (dInts y.cnts))]
theorem past0_fn (d : DraftD) (R ch : List Int) (hd : draftOK d) (h : caseOK d = false) : FnSound Tryz.prog 4 [.val true (caseC d R ch)] [] { vals := [(true, nilPast), (false, [.d (.v (.bool false))])] } := by
 have hof := ofNone_fn d R hd h
 refine startW (tm := [(0, _)]) Tryz.func4 rfl Tryz.ntmps4 rfl rfl rfl rfl ?_
 repeat' (first
 |(with_reducible refine rgn 10 1000 ?_ ?_); exact rfl
 |(with_reducible refine rgn 11 1100 ?_ ?_); exact rfl
 |(with_reducible refine rgn 12 1200 ?_ ?_); exact rfl
 |(with_reducible refine rgn 13 1300 ?_ ?_); exact rfl
 |(with_reducible refine rgn 14 1400 ?_ ?_); exact rfl
 |(with_reducible refine rgn 15 1500 ?_ ?_); exact rfl
 |(with_reducible refine rgn 17 1600 ?_ ?_); exact rfl
 |(with_reducible refine rgn 18 1700 ?_ ?_); exact rfl
 |(with_reducible refine rgn 16 1800 ?_ ?_); exact rfl
 |(with_reducible refine rgn 19 1900 ?_ ?_); exact rfl
 |(with_reducible refine rgn 20 2000 ?_ ?_); exact rfl
 |(with_reducible refine rgn 21 2100 ?_ ?_); exact rfl
 |(with_reducible refine rgn 9 2200 ?_ ?_); exact rfl
 |(with_reducible refine K_ca 10 ?_); refine zC (hof) ?_
 |refine wA ?_
 |(refine wC ?_ ?_ <;> intro hc)
 |refine wB ?_ ?_
 |(with_reducible refine JL.block ?_)
 |(with_reducible refine F_at ?_); refine eW (vs := [(_, _), (_, _)]) Tryz.results4 ?_; (focus (repeat' (first | exact oA | refine oB ?_ | refine oC ?_ ?_ | fail)))
 |exact oM
 |fail)
 all_goals first | rfl | trace_state
theorem past1_fn (d : DraftD) (R ch : List Int) (hd : draftOK d) (hR : u8s R) (h : caseOK d = true) (hc : ¬ ch.length ≤ 40) : FnSound Tryz.prog 4 [.val true (caseC d R ch)] [] { vals := [(true, nilPast), (false, [.d (.v (.bool false))])] } := by
 have hof := ofCase_fn d R hd hR h
 refine startW (tm := [(0, _)]) Tryz.func4 rfl Tryz.ntmps4 rfl rfl rfl rfl ?_
 repeat' (first
 |(with_reducible refine rgn 10 1000 ?_ ?_); exact rfl
 |(with_reducible refine rgn 11 1100 ?_ ?_); exact rfl
 |(with_reducible refine rgn 12 1200 ?_ ?_); exact rfl
 |(with_reducible refine rgn 13 1300 ?_ ?_); exact rfl
 |(with_reducible refine rgn 14 1400 ?_ ?_); exact rfl
 |(with_reducible refine rgn 15 1500 ?_ ?_); exact rfl
 |(with_reducible refine rgn 17 1600 ?_ ?_); exact rfl
 |(with_reducible refine rgn 18 1700 ?_ ?_); exact rfl
 |(with_reducible refine rgn 16 1800 ?_ ?_); exact rfl
 |(with_reducible refine rgn 19 1900 ?_ ?_); exact rfl
 |(with_reducible refine rgn 20 2000 ?_ ?_); exact rfl
 |(with_reducible refine rgn 21 2100 ?_ ?_); exact rfl
 |(with_reducible refine rgn 9 2200 ?_ ?_); exact rfl
 |(with_reducible refine K_ca 10 ?_); refine zC (hof) ?_
 |refine wA ?_
 |(refine wC ?_ ?_ <;> intro hc)
 |refine wB ?_ ?_
 |(with_reducible refine JL.block ?_)
 |(with_reducible refine F_at ?_); refine eW (vs := [(_, _), (_, _)]) Tryz.results4 ?_; (focus (repeat' (first | exact oA | refine oB ?_ | refine oC ?_ ?_ | fail)))
 |exact oM
 |fail)
 all_goals first | rfl | (exfalso; omega) | trace_state
section
variable {p : Prob} {rs : List Int} {c0 : CtlD} {ch : List Int} {k : Nat}
theorem p0n : (pastAt p rs c0 ch 0).now = c0 := rfl
theorem p0e : [] = dEnts (pastAt p rs c0 ch 0).ents := rfl
theorem p0s : [ctlRow c0] = dCtls (pastAt p rs c0 ch 0).sts := rfl
theorem p0c : [[D.v (.int .i64 0)]] = dInts (pastAt p rs c0 ch 0).cnts := rfl
theorem psn : (pastAt p rs c0 ch (k + 1)).now = (nextP p rs (pastAt p rs c0 ch k).now (usefulP (pastAt p rs c0 ch k).now (ch.getD k 0))).1 := rfl
theorem pss : (pastAt p rs c0 ch (k + 1)).sts = (pastAt p rs c0 ch k).sts ++ [(nextP p rs (pastAt p rs c0 ch k).now (usefulP (pastAt p rs c0 ch k).now (ch.getD k 0))).1] := rfl
theorem pse : (pastAt p rs c0 ch (k + 1)).ents = (pastAt p rs c0 ch k).ents ++ leaseL (pastAt p rs c0 ch k).now (nextP p rs (pastAt p rs c0 ch k).now (usefulP (pastAt p rs c0 ch k).now (ch.getD k 0))).1 ++ actEnts (nextP p rs (pastAt p rs c0 ch k).now (usefulP (pastAt p rs c0 ch k).now (ch.getD k 0))).2 := rfl
theorem psc : (pastAt p rs c0 ch (k + 1)).cnts = (pastAt p rs c0 ch k).cnts ++ [((pastAt p rs c0 ch (k + 1)).ents.length : Int)] := rfl
theorem ctl_snoc {l : List CtlD} {c : CtlD} : dCtls l ++ [[.sl 3 (dSteps c.plan), .v (.int .i64 c.at_), .v (.int .i64 c.phase), .v (.int .i64 c.replica), .v (.int .i64 c.round), .v (.int .i64 c.token), .sl 1 (dInts c.mix.base), .sl 1 (dInts c.mix.next), .sl 1 (dSets c.mix.held)]] = dCtls (l ++ [c]) := by
 unfold dCtls; rw [List.map_append]; rfl
theorem lease_y {a b : CtlD} {e : List EntD} {l : List ActD} (h : a.token < b.token) : dEnts (e ++ [⟨5, b.token, 0, ByteArray.empty⟩]) = dEnts (e ++ leaseL a b ++ actEnts (l.take 0)) := by
 unfold leaseL leaseE; rw [if_pos h, List.take_zero]; simp [actEnts]
theorem lease_n {a b : CtlD} {e : List EntD} {l : List ActD} (h : ¬ a.token < b.token) : dEnts e = dEnts (e ++ leaseL a b ++ actEnts (l.take 0)) := by
 unfold leaseL; rw [if_neg h, List.take_zero]; simp [actEnts]
theorem act_y {x : List EntD} {l : List ActD} {j : Nat} (hj : (j : Int) < l.length) (hk : (l.getD j nilA).kind = 1) : dEnts (x ++ actEnts (l.take j) ++ [⟨(l.getD j nilA).ent.kind, (l.getD j nilA).ent.token, (l.getD j nilA).ent.idx, (l.getD j nilA).ent.data⟩]) = dEnts (x ++ actEnts (l.take (j + 1))) := by
 rw [actEnts_y (by omega) hk, ← List.append_assoc]
theorem act_n {x : List EntD} {l : List ActD} {j : Nat} (hj : (j : Int) < l.length) (hk : ¬ (l.getD j nilA).kind = 1) : dEnts (x ++ actEnts (l.take j)) = dEnts (x ++ actEnts (l.take (j + 1))) := by
 rw [actEnts_n (by omega) hk]
end
theorem pastL_fn (p : Prob) (rs : List Int) (c0 : CtlD) (l : List StepD) (d : DraftD) (R ch : List Int) (hof : FnSound Tryz.prog 10 [.val true [.d (.sl 1 (dSets d.vs)), .d (.sl 1 (dSets d.now)), .d (.sl 1 (dSets d.tgt)), .d (.sl 6 (dLinks d.links)), .d (.sl 1 (dSets R)), .zero]] [] { vals := [(true, probC p), (false, [.d (.sl 1 (dInts rs))]), (true, ctlC c0), (false, [.d (.v (.bool true))])] }) (hpk : ∀ k, k ≤ 100 → PastK p rs l (pastAt p rs c0 ch k) k) (hs : setErr p rs = 0) (hck : checkP p l = true) (hl : l.length ≤ 1000000) (hch : u8s ch) (hc0 : ch.length ≤ 40) (hp0 : c0.plan = l) : FnSound Tryz.prog 4 [.val true (caseC d R ch)] [] { vals := [(true, pastC p rs l (pastAt p rs c0 ch ch.length)), (false, [.d (.v (.bool true))])] } := by
 have hu := u8_get hch
 have hnl := fun k => next_len (p := p) (rs := rs) (c := (pastAt p rs c0 ch k).now) (s := usefulP (pastAt p rs c0 ch k).now (ch.getD k 0))
 have hll := fun k => leaseL_le (pastAt p rs c0 ch k).now (nextP p rs (pastAt p rs c0 ch k).now (usefulP (pastAt p rs c0 ch k).now (ch.getD k 0))).1
 refine startW (tm := [(0, _)]) Tryz.func4 rfl Tryz.ntmps4 rfl rfl rfl rfl ?_
 repeat' (first
 |(with_reducible refine rgn 10 1000 ?_ ?_); exact rfl
 |(with_reducible refine rgn 11 1100 ?_ ?_); exact rfl
 |(with_reducible refine rgn 12 1200 ?_ ?_); exact rfl
 |(with_reducible refine rgn 13 1300 ?_ ?_); exact rfl
 |(with_reducible refine rgn 14 1400 ?_ ?_); exact rfl
 |(with_reducible refine rgn 15 1500 ?_ ?_); exact rfl
 |(with_reducible refine rgn 17 1600 ?_ ?_); exact rfl
 |(with_reducible refine rgn 18 1700 ?_ ?_); exact rfl
 |(with_reducible refine rgn 16 1800 ?_ ?_); exact rfl
 |(with_reducible refine rgn 19 1900 ?_ ?_); exact rfl
 |(with_reducible refine rgn 20 2000 ?_ ?_); exact rfl
 |(with_reducible refine rgn 21 2100 ?_ ?_); exact rfl
 |(with_reducible refine rgn 9 2200 ?_ ?_); exact rfl
 |(with_reducible refine K_ca 10 ?_); refine zC (hof) ?_
 |(with_reducible refine K_ca 11 ?_); refine zC (useful_fn p (pastAt p rs c0 ch k).now (ch.getD k 0) (hpk k (by omega)).ck (by rw [(hpk k (by omega)).b.plan]; exact hl) (hu k)) ?_
 |(with_reducible refine K_ca 12 ?_); refine zC (step_fn p rs (pastAt p rs c0 ch k).now (usefulP (pastAt p rs c0 ch k).now (ch.getD k 0)) (hpk k (by omega)).ck (hpk k (by omega)).cr (by rw [(hpk k (by omega)).b.plan]; exact hck) hs (by rw [(hpk k (by omega)).b.plan]; exact hl) (by have := (hpk k (by omega)).b.rd; omega) (by have := (hpk k (by omega)).b.rp; omega)) ?_
 |(with_reducible refine blk_at (id := 0) ?_); (try (refine JL.zeroBW (cs2 := [_, _, _, _, _, _, _, _, _]) (512, 600) 6 _ 62 4 rfl rfl rfl rfl ?_)); (refine JL.rekBW (cs2 := [_, _, _, _, _, _, _, _, _]) (512, 600) 6 (1198, 851) rfl rfl rfl rfl rfl rfl ?_); (try (refine JL.zeroBW (cs2 := [_, _, _, _, _, _, _, _, _]) (512, 600) 7 _ 47 9 rfl rfl rfl rfl ?_)); (refine JL.rekBW (cs2 := [_, _, _, _, _, _, _, _, _]) (512, 600) 7 (1199, 853) rfl rfl rfl rfl rfl rfl ?_); (try (refine JL.zeroBW (cs2 := [_, _, _, _, _, _, _, _, _]) (512, 600) 8 _ 3 1 rfl rfl rfl rfl ?_)); (refine JL.rekBW (cs2 := [_, _, _, _, _, _, _, _, _]) (512, 600) 8 (1200, 855) rfl rfl rfl rfl rfl rfl ?_); ((with_reducible refine JL.loopW 0 899 (fun (k : Nat) tm => (14, .one false [.d (.v (.int .i64 ((k : Int))))]) :: tm) (fun (k : Nat) bo => ((512, 600), some (.st 37 [.d (.sl 1 ((dInts p.vs))), .d (.sl 1 ((dInts p.now))), .d (.sl 1 ((dInts p.tgt))), .d (.sl 6 ((dTabs p.tabs))), .d (.sl 1 ((dInts rs))), .d (.sl 3 ((dSteps l))), .own (1198, 851), .own (1199, 853), .own (1200, 855)])) :: ((1198, 851), some (.sl 62 4 ((dEnts (pastAt p rs c0 ch k).ents)))) :: ((1199, 853), some (.sl 47 9 ((dCtls (pastAt p rs c0 ch k).sts)))) :: ((1200, 855), some (.sl 3 1 ((dInts (pastAt p rs c0 ch k).cnts)))) :: ((64, 700), some (.st 47 [.d (.sl 3 ((dSteps (pastAt p rs c0 ch k).now.plan))), .d (.v (.int .i64 ((pastAt p rs c0 ch k).now.at_))), .d (.v (.int .i64 ((pastAt p rs c0 ch k).now.phase))), .d (.v (.int .i64 ((pastAt p rs c0 ch k).now.replica))), .d (.v (.int .i64 ((pastAt p rs c0 ch k).now.round))), .d (.v (.int .i64 ((pastAt p rs c0 ch k).now.token))), .d (.sl 1 ((dInts (pastAt p rs c0 ch k).now.mix.base))), .d (.sl 1 ((dInts (pastAt p rs c0 ch k).now.mix.next))), .d (.sl 1 ((dSets (pastAt p rs c0 ch k).now.mix.held)))])) :: bo) (fun (k : Nat) => k ≤ ch.length) (fun (k : Nat) => ch.length - k) (0) ?_ (fun k hk => have h1 := (hpk k (by omega)).en; have h2 := (hpk k (by omega)).sl; have h3 := (hpk k (by omega)).cl; have h4 := hnl k; have h5 := hll k; ?_) ?_); (focus (apply SubW [((1198, 851), _), ((1199, 853), _), ((1200, 855), _)] rfl ?_ ?_ rfl ?_; (repeat' (first | (with_reducible (first | exact chkT_nil | exact chkB_nil | refine chkB_none ?_ | exact avTo_dead | refine avTo_w ?_ | exact avTo_un | exact cellsTo_nl | refine cellsTo_cn ?_ ?_ | exact cellTo_same | exact cellTo_zz | refine boxTo_stw ?_ | refine boxTo_slw ?_ | refine boxTo_fzw ?_)) | ((with_reducible refine T_at ?_); (first | refine chkT_skip rfl ?_ | refine chkT_cons rfl ?_ rfl ?_)) | ((with_reducible refine B_at ?_); (first | refine chkB_skip rfl ?_ | refine chkB_cons rfl ?_ rfl rfl ?_)) | ((with_reducible refine avTo_tup ?_); (focus rfl)) | ((with_reducible refine CS_at ?_); (first | exact cellsTo_same rfl | refine cellsTo_cn ?_ ?_)) | ((with_reducible refine CE_at ?_); (first | exact cellTo_ow rfl | exact cellTo_pt rfl | refine cellTo_int ?_ | refine cellTo_bool ?_ | refine cellTo_sl ?_ | refine cellTo_zd ?_ | refine cellTo_fz rfl ?_ | exact cellTo_rn rfl)) | (with_reducible rfl) | (refine ND.mk ?_; kernel_rfl))))))
 |((with_reducible refine round_next (i := k) (k + 1) ?_ ?_ ?_); (focus (apply SubW [((1198, 851), _), ((1199, 853), _), ((1200, 855), _)] rfl ?_ ?_ rfl ?_; (repeat' (first | (with_reducible (first | exact chkT_nil | exact chkB_nil | refine chkB_none ?_ | exact avTo_dead | refine avTo_w ?_ | exact avTo_un | exact cellsTo_nl | refine cellsTo_cn ?_ ?_ | exact cellTo_same | exact cellTo_zz | refine boxTo_stw ?_ | refine boxTo_slw ?_ | refine boxTo_fzw ?_)) | ((with_reducible refine T_at ?_); (first | refine chkT_skip rfl ?_ | refine chkT_cons rfl ?_ rfl ?_)) | ((with_reducible refine B_at ?_); (first | refine chkB_skip rfl ?_ | refine chkB_cons rfl ?_ rfl rfl ?_)) | ((with_reducible refine avTo_tup ?_); (focus rfl)) | ((with_reducible refine CS_at ?_); (first | exact cellsTo_same rfl | refine cellsTo_cn ?_ ?_)) | ((with_reducible refine CE_at ?_); (first | exact cellTo_ow rfl | exact cellTo_pt rfl | refine cellTo_int ?_ | refine cellTo_bool ?_ | refine cellTo_sl ?_ | refine cellTo_zd ?_ | refine cellTo_fz rfl ?_ | exact cellTo_rn rfl)) | (with_reducible rfl) | (refine ND.mk ?_; kernel_rfl))))))
 |(with_reducible refine blk_at (id := 2) ?_); (try (refine JL.zeroBW (cs2 := [_, _, _, _, _, _, _, _, _]) (512, 600) 6 _ 62 4 rfl rfl rfl rfl ?_)); (refine JL.rekBW (cs2 := [_, _, _, _, _, _, _, _, _]) (512, 600) 6 (1198, 1451) rfl rfl rfl rfl rfl rfl ?_); (try (refine JL.zeroBW (cs2 := [_, _, _, _, _, _, _, _, _]) (512, 600) 7 _ 47 9 rfl rfl rfl rfl ?_)); (refine JL.rekBW (cs2 := [_, _, _, _, _, _, _, _, _]) (512, 600) 7 (1199, 1453) rfl rfl rfl rfl rfl rfl ?_); (try (refine JL.zeroBW (cs2 := [_, _, _, _, _, _, _, _, _]) (512, 600) 8 _ 3 1 rfl rfl rfl rfl ?_)); (refine JL.rekBW (cs2 := [_, _, _, _, _, _, _, _, _]) (512, 600) 8 (1200, 1455) rfl rfl rfl rfl rfl rfl ?_); ((with_reducible refine JL.loopW 2 1499 (fun (j : Nat) tm => (19, .one false [.d (.v (.int .i64 ((j : Int))))]) :: tm) (fun (j : Nat) bo => ((512, 600), some (.st 37 [.d (.sl 1 ((dInts p.vs))), .d (.sl 1 ((dInts p.now))), .d (.sl 1 ((dInts p.tgt))), .d (.sl 6 ((dTabs p.tabs))), .d (.sl 1 ((dInts rs))), .d (.sl 3 ((dSteps l))), .own (1198, 1451), .own (1199, 1453), .own (1200, 1455)])) :: ((1198, 1451), some (.sl 62 4 ((dEnts ((pastAt p rs c0 ch k).ents ++ leaseL (pastAt p rs c0 ch k).now (nextP p rs (pastAt p rs c0 ch k).now (usefulP (pastAt p rs c0 ch k).now (ch.getD k 0))).1 ++ actEnts ((nextP p rs (pastAt p rs c0 ch k).now (usefulP (pastAt p rs c0 ch k).now (ch.getD k 0))).2.take j)))))) :: ((1199, 1453), some (.sl 47 9 ((dCtls (pastAt p rs c0 ch k).sts)))) :: ((1200, 1455), some (.sl 3 1 ((dInts (pastAt p rs c0 ch k).cnts)))) :: bo) (fun (j : Nat) => j ≤ (nextP p rs (pastAt p rs c0 ch k).now (usefulP (pastAt p rs c0 ch k).now (ch.getD k 0))).2.length) (fun (j : Nat) => (nextP p rs (pastAt p rs c0 ch k).now (usefulP (pastAt p rs c0 ch k).now (ch.getD k 0))).2.length - j) (0) ?_ (fun j hj => have h6 := actEnts_len ((nextP p rs (pastAt p rs c0 ch k).now (usefulP (pastAt p rs c0 ch k).now (ch.getD k 0))).2.take j); have h7 := List.length_take (i := j) (l := (nextP p rs (pastAt p rs c0 ch k).now (usefulP (pastAt p rs c0 ch k).now (ch.getD k 0))).2); ?_) ?_); (focus (apply SubW [((1198, 1451), _), ((1199, 1453), _), ((1200, 1455), _)] rfl ?_ ?_ rfl ?_; (repeat' (first | (with_reducible (first | exact chkT_nil | exact chkB_nil | refine chkB_none ?_ | exact avTo_dead | refine avTo_w ?_ | exact avTo_un | exact cellsTo_nl | refine cellsTo_cn ?_ ?_ | exact cellTo_same | exact cellTo_zz | refine boxTo_stw ?_ | refine boxTo_slw ?_ | refine boxTo_fzw ?_)) | ((with_reducible refine T_at ?_); (first | refine chkT_skip rfl ?_ | refine chkT_cons rfl ?_ rfl ?_)) | ((with_reducible refine B_at ?_); (first | refine chkB_skip rfl ?_ | refine chkB_cons rfl ?_ rfl rfl ?_)) | ((with_reducible refine avTo_tup ?_); (focus rfl)) | ((with_reducible refine CS_at ?_); (first | exact cellsTo_same rfl | refine cellsTo_cn ?_ ?_)) | ((with_reducible refine CE_at ?_); (first | exact cellTo_ow rfl | exact cellTo_pt rfl | refine cellTo_int ?_ | refine cellTo_bool ?_ | refine cellTo_sl ?_ | refine cellTo_zd ?_ | refine cellTo_fz rfl ?_ | exact cellTo_rn rfl)) | (with_reducible rfl) | (refine ND.mk ?_; kernel_rfl))))))
 |((with_reducible refine round_next (i := j) (j + 1) ?_ ?_ ?_); (focus (apply SubW [((1198, 1451), _), ((1199, 1453), _), ((1200, 1455), _)] rfl ?_ ?_ rfl ?_; (repeat' (first | (with_reducible (first | exact chkT_nil | exact chkB_nil | refine chkB_none ?_ | exact avTo_dead | refine avTo_w ?_ | exact avTo_un | exact cellsTo_nl | refine cellsTo_cn ?_ ?_ | exact cellTo_same | exact cellTo_zz | refine boxTo_stw ?_ | refine boxTo_slw ?_ | refine boxTo_fzw ?_)) | ((with_reducible refine T_at ?_); (first | refine chkT_skip rfl ?_ | refine chkT_cons rfl ?_ rfl ?_)) | ((with_reducible refine B_at ?_); (first | refine chkB_skip rfl ?_ | refine chkB_cons rfl ?_ rfl rfl ?_)) | ((with_reducible refine avTo_tup ?_); (focus rfl)) | ((with_reducible refine CS_at ?_); (first | exact cellsTo_same rfl | refine cellsTo_cn ?_ ?_)) | ((with_reducible refine CE_at ?_); (first | exact cellTo_ow rfl | exact cellTo_pt rfl | refine cellTo_int ?_ | refine cellTo_bool ?_ | refine cellTo_sl ?_ | refine cellTo_zd ?_ | refine cellTo_fz rfl ?_ | exact cellTo_rn rfl)) | (with_reducible rfl) | (refine ND.mk ?_; kernel_rfl))))))
 |refine wA ?_
 |(refine wC ?_ ?_ <;> intro hc)
 |refine wB ?_ ?_
 |(with_reducible refine JL.block ?_)
 |(with_reducible refine F_at ?_); refine eW (vs := [(_, _), (_, _)]) Tryz.results4 ?_; (focus (repeat' (first | exact oA | refine oB ?_ | refine oC ?_ ?_ | fail)))
 |exact oM
 |fail)
 all_goals first
  | with_reducible rfl
  | (rw [hp0]; done)
  | (with_reducible rw [p0n]; done)
  | with_reducible exact p0e
  | with_reducible exact p0c
  | exact lease_y hc
  | exact lease_n hc
  | exact act_y (by assumption) hc
  | exact act_n (by assumption) hc
  | (with_reducible rw [psn]; done)
  | ((with_reducible rw [pss]); exact ctl_snoc)
  | (with_reducible rw [pse, List.take_of_length_le (by omega)]; done)
  | (with_reducible rw [psc, pse, List.take_of_length_le (by omega)]; done)
  | (have e : k = ch.length := by omega
     rw [e]; done)
  | exact p0s
  | trace_state
theorem past_fn (d : DraftD) (R ch : List Int) (hd : draftOK d) (hR : u8s R) (hch : u8s ch) (h : caseOK d = true) (hc : ch.length ≤ 40) : FnSound Tryz.prog 4 [.val true (caseC d R ch)] [] { vals := [(true, pastC (ofP d) (repsP R (ofP d).vs.length) (findP (ofP d)).1 (pastAt (ofP d) (repsP R (ofP d).vs.length) (newP (ofP d) (repsP R (ofP d).vs.length) (findP (ofP d)).1).1 ch ch.length)), (false, [.d (.v (.bool true))])] } := by
 have h' := h
 unfold caseOK at h
 rw [Bool.and_eq_true, Bool.and_eq_true, decide_eq_true_eq] at h
 have hv := ofP_sound hd h.1
 obtain ⟨f1, f2, f3⟩ := find_check h.2.2
 have hs := reps_set hv hR
 obtain ⟨n1, n2, n3, n4⟩ := newP_k hs f1
 have n5 := newP_r hs f1
 have e : newP (ofP d) (repsP R (ofP d).vs.length) (findP (ofP d)).1 = (⟨(findP (ofP d)).1, 0, if (findP (ofP d)).1.length = 0 then 6 else 0, 0, 0, 0, startM (ofP d)⟩, 0) := by unfold newP; rw [if_neg (by simpa using hs), f1, if_neg (by decide)]
 have n6 : (newP (ofP d) (repsP R (ofP d).vs.length) (findP (ofP d)).1).1.replica = 0 := by rw [e]
 have n7 : (newP (ofP d) (repsP R (ofP d).vs.length) (findP (ofP d)).1).1.token = 0 := by rw [e]
 exact pastL_fn _ _ _ _ d R ch (ofCase_fn d R hd hR h') (pastAt_k n1 n5 ⟨n2, by omega, by omega, by omega⟩ n7 hs (by omega) hch) hs f1 (by omega) hch hc n2
end Go.Proofs.YtngjhkgcfabciaaGreat

