import Derived.Test.YtbdjcgjdmhgnmaaGreatKA14
import Derived.Test.YtbdjcgjdmhgnmaaGreatKA28
namespace Go.Proofs.YtbdjcgjdmhgnmaaGreat
open Go Go.RowKit
set_option maxRecDepth 100000
set_option maxHeartbeats 8000000
set_option linter.unusedSimpArgs false
set_option linter.unusedVariables false
def caseC (d : DraftD) (R ch : List Int) : List C := [.d (.sl 1 (dSets d.vs)), .d (.sl 1 (dSets d.now)), .d (.sl 1 (dSets d.tgt)), .d (.sl 6 (dLinks d.links)), .d (.sl 1 (dSets R)), .d (.sl 1 (dSets ch))]
def nilPast : List C := [.d (.sl 1 []), .d (.sl 1 []), .d (.sl 1 []), .d (.sl 6 []), .d (.sl 1 []), .d (.sl 3 []), .d (.sl 4 []), .d (.sl 9 []), .d (.sl 1 [])]
def pastC (p : Prob) (rs : List Int) (l : List StepD) (y : PastD) : List C := [.d (.sl 1 (dInts p.vs)), .d (.sl 1 (dInts p.now)), .d (.sl 1 (dInts p.tgt)), .d (.sl 6 (dTabs p.tabs)), .d (.sl 1 (dInts rs)), .d (.sl 3 (dSteps l)), .d (.sl 4 (dEnts y.ents)), .d (.sl 9 (dCtls y.sts)), .d (.sl 1 (dInts y.cnts))]
theorem past0_fn (d : DraftD) (R ch : List Int) (hd : draftOK d) (h : caseOK d = false) : FnSound Tryz.prog 8 [.val true (caseC d R ch)] [] { vals := [(true, nilPast), (false, [.d (.v (.bool false))])] } := by
  have hof := ofNone_fn d R hd h
  refine startW (tm := [(0, _)]) Tryz.func8 rfl Tryz.ntmps8 rfl rfl rfl rfl ?_
  repeat' (first
|(with_reducible (first
|refine JL.seq ?_
|refine JL.ret ?_))
|((with_reducible refine W_at ?_); (first
|((with_reducible refine K_mv ?_); (refine W.move rfl rfl ?_))
|((with_reducible refine K_as ?_); (refine W.assign rfl rfl ?_))
|((with_reducible refine K_ld 25 ?_); (refine W.loadA (cs2 := [_, _, _, _]) rfl ld25 rfl rfl rfl ?_))
|((with_reducible refine K_ld 22 ?_); (refine W.load rfl ld22 rfl rfl rfl ?_))
|((with_reducible refine K_fa 27 0 ?_); (refine W.fieldAddr rfl fd27_0 rfl rfl ?_))
|((with_reducible refine K_fa 27 1 ?_); (refine W.fieldAddr rfl fd27_1 rfl rfl ?_))
|((with_reducible refine K_g ?_); (refine W.gF rfl rfl rfl rfl ?_))
|((with_reducible refine K_nl ?_); (refine W.nil ?_))
|((with_reducible refine K_bx 27 ?_); (refine W.box (t := 27) 0 rfl rfl rfl ?_))
|((with_reducible refine K_al 36 ?_); (refine W.alloc 64 rfl rfl zr36 ?_))
|((with_reducible refine K_bd 27 ?_); (refine W.build (cs2 := [_, _, _, _, _, _]) rfl pl27 rfl rfl ?_))
|((with_reducible refine K_ca 21 ?_); ((refine W.call0T rfl bo21 (hof) rfl rfl rfl ?_)))
|((with_reducible refine K_ex ?_); (refine W.extract rfl rfl rfl ?_))
|((with_reducible refine K_al 32 ?_); (refine W.alloc 704 rfl rfl zr32 ?_))
|((with_reducible refine K_al 44 ?_); (refine W.alloc 768 rfl rfl zr44 ?_))
|((with_reducible refine K_st 32 ?_); (refine W.store (cs2 := [_, _, _, _]) sz32 rfl rfl rfl rfl ?_))
|((with_reducible refine K_st 44 ?_); (refine W.store (cs2 := [_, _, _, _, _, _, _, _, _]) sz44 rfl rfl rfl rfl ?_))
|((with_reducible refine K_un .not ?_); (refine W.notL (b' := true) rfl rfl rfl ?_))
|((with_reducible refine K_pk ?_); (refine W.pickT rfl rfl rfl ?_))
|((with_reducible refine K_bd 36 ?_); (refine W.build (cs2 := [_, _, _, _, _, _, _, _, _]) rfl pl36 rfl rfl ?_))
|((with_reducible refine K_st 36 ?_); (refine W.store (cs2 := [_, _, _, _, _, _, _, _, _]) sz36 rfl rfl rfl rfl ?_))))
|((with_reducible refine C_at ?_); (refine JL.condT rfl ?_))
|((with_reducible refine JL.regionW (lend := lendS) (id := 0) 100 mo ?_ ?_); (focus exact rfl))
|((with_reducible refine JL.regionW (lend := lendS) (id := 1) 200 mo ?_ ?_); (focus exact rfl))
|((with_reducible refine JL.regionW (lend := lendS) (id := 2) 300 mo ?_ ?_); (focus exact rfl))
|((with_reducible refine JL.regionW (lend := lendS) (id := 3) 400 mo ?_ ?_); (focus exact rfl))
|((with_reducible apply endW Tryz.results8); (focus (apply ResW.cellA (cs' := [_, _, _, _, _, _, _, _, _]) ld36 rfl rfl rfl; apply ResW.tmp rfl; exact ResW.nil)); rotate_left; (focus exact rfl); (focus (repeat' (first
|exact OutVs.nil
|refine OutVs.cons ?_ ?_
|exact OutCs.nil
|refine OutCs.cons ?_ ?_
|with_reducible exact OutC.d rfl
|refine OutC.zero ?_
|(with_reducible rfl))))))
  all_goals first | rfl | trace_state
theorem past1_fn (d : DraftD) (R ch : List Int) (hd : draftOK d) (hR : u8s R) (h : caseOK d = true) (hc : ¬ ch.length ≤ 40) : FnSound Tryz.prog 8 [.val true (caseC d R ch)] [] { vals := [(true, nilPast), (false, [.d (.v (.bool false))])] } := by
  have hof := ofCase_fn d R hd hR h
  refine startW (tm := [(0, _)]) Tryz.func8 rfl Tryz.ntmps8 rfl rfl rfl rfl ?_
  repeat' (first
|(with_reducible (first
|refine JL.seq ?_
|refine JL.skip ?_
|refine JL.ret ?_))
|((with_reducible refine W_at ?_); (first
|((with_reducible refine K_mv ?_); (refine W.move rfl rfl ?_))
|((with_reducible refine K_as ?_); (refine W.assign rfl rfl ?_))
|((with_reducible refine K_ld 25 ?_); (refine W.loadA (cs2 := [_, _, _, _]) rfl ld25 rfl rfl rfl ?_))
|((with_reducible refine K_ld 22 ?_); (refine W.load rfl ld22 rfl rfl rfl ?_))
|((with_reducible refine K_ld 32 ?_); (refine W.loadA (cs2 := [_, _, _, _]) rfl ld32 rfl rfl rfl ?_))
|((with_reducible refine K_ld 33 ?_); (refine W.load rfl ld33 rfl rfl rfl ?_))
|((with_reducible refine K_ld 44 ?_); (refine W.loadA (cs2 := [_, _, _, _, _, _, _, _, _]) rfl ld44 rfl rfl rfl ?_))
|((with_reducible refine K_fa 27 0 ?_); (refine W.fieldAddr rfl fd27_0 rfl rfl ?_))
|((with_reducible refine K_fa 27 1 ?_); (refine W.fieldAddr rfl fd27_1 rfl rfl ?_))
|((with_reducible refine K_fa 27 2 ?_); (refine W.fieldAddr rfl fd27_2 rfl rfl ?_))
|((with_reducible refine K_fa 44 0 ?_); (refine W.fieldAddr rfl fd44_0 rfl rfl ?_))
|((with_reducible refine K_g ?_); (refine W.gT rfl rfl ?_))
|((with_reducible refine K_nl ?_); (refine W.nil ?_))
|((with_reducible refine K_bx 27 ?_); (refine W.box (t := 27) 0 rfl rfl rfl ?_))
|((with_reducible refine K_al 36 ?_); (first
|refine W.alloc 64 rfl rfl zr36 ?_
|refine W.alloc 512 rfl rfl zr36 ?_))
|((with_reducible refine K_bd 27 ?_); (refine W.build (cs2 := [_, _, _, _, _, _]) rfl pl27 rfl rfl ?_))
|((with_reducible refine K_ca 21 ?_); ((refine W.call0T rfl bo21 (hof) rfl rfl rfl ?_)))
|((with_reducible refine K_ex ?_); (refine W.extract rfl rfl rfl ?_))
|((with_reducible refine K_al 32 ?_); (refine W.alloc 704 rfl rfl zr32 ?_))
|((with_reducible refine K_al 44 ?_); (first
|refine W.alloc 768 rfl rfl zr44 ?_
|refine W.alloc 64 rfl rfl zr44 ?_))
|((with_reducible refine K_st 32 ?_); (refine W.store (cs2 := [_, _, _, _]) sz32 rfl rfl rfl rfl ?_))
|((with_reducible refine K_st 44 ?_); (refine W.store (cs2 := [_, _, _, _, _, _, _, _, _]) sz44 rfl rfl rfl rfl ?_))
|((with_reducible refine K_un .not ?_); (refine W.notL (b' := false) rfl rfl rfl ?_))
|((with_reducible refine K_bu .len 22 ?_); (refine W.len rfl el22 rfl rfl lSets ?_))
|((with_reducible refine K_bn .gtr 3 ?_); (refine W.bin rfl rfl rfl rfl ?_))
|((with_reducible refine K_pk ?_); (refine W.pickF rfl rfl rfl ?_))
|((with_reducible refine K_bd 36 ?_); (refine W.build (cs2 := [_, _, _, _, _, _, _, _, _]) rfl pl36 rfl rfl ?_))
|((with_reducible refine K_st 36 ?_); (refine W.store (cs2 := [_, _, _, _, _, _, _, _, _]) sz36 rfl rfl rfl rfl ?_))
|((with_reducible refine K_bs 34 ?_); (refine W.bs (rows := [[_, _, _, _, _, _, _, _, _]]) 320 rfl rfl ef34 rfl rfl rfl ?_))
|((with_reducible refine K_bs 29 ?_); (refine W.bs (rows := [[_]]) 384 rfl rfl ef29 rfl rfl rfl ?_))))
|((with_reducible refine C_at ?_); (refine JL.condP rfl (fun hc => ?_) (fun hc => ?_)))
|((with_reducible refine JL.regionW (lend := lendS) (id := 0) 100 mo ?_ ?_); (focus exact rfl))
|((with_reducible refine JL.regionW (lend := lendS) (id := 1) 200 mo ?_ ?_); (focus exact rfl))
|((with_reducible refine JL.regionW (lend := lendS) (id := 2) 300 mo ?_ ?_); (focus exact rfl))
|((with_reducible refine JL.regionW (lend := lendS) (id := 3) 400 mo ?_ ?_); (focus exact rfl))
|((with_reducible refine JL.regionW (lend := lendS) (id := 4) 500 mo ?_ ?_); (focus exact rfl))
|((with_reducible refine JL.regionW (lend := lendS) (id := 5) 600 mo ?_ ?_); (focus exact rfl))
|((with_reducible refine JL.regionW (lend := lendS) (id := 6) 700 mo ?_ ?_); (focus exact rfl))
|((with_reducible refine JL.regionW (lend := lendS) (id := 7) 800 mo ?_ ?_); (focus exact rfl))
|(with_reducible refine JL.block ?_)
|((with_reducible apply endW Tryz.results8); (focus (apply ResW.cellA (cs' := [_, _, _, _, _, _, _, _, _]) ld36 rfl rfl rfl; apply ResW.tmp rfl; exact ResW.nil)); rotate_left; (focus exact rfl); (focus (repeat' (first
|exact OutVs.nil
|refine OutVs.cons ?_ ?_
|exact OutCs.nil
|refine OutCs.cons ?_ ?_
|with_reducible exact OutC.d rfl
|refine OutC.zero ?_
|(with_reducible rfl)))))
|(focus omega))
  all_goals first | rfl | (exfalso; omega) | trace_state
section
variable {p : Prob} {rs : List Int} {c0 : CtlD} {ch : List Int} {k : Nat}
theorem p0n : (pastAt p rs c0 ch 0).now = c0 := rfl
theorem p0e : [] = dEnts (pastAt p rs c0 ch 0).ents := rfl
theorem p0s : [ctlRow c0] = dCtls (pastAt p rs c0 ch 0).sts := rfl
theorem p0c : [[D.v (.int .i64 0)]] = dInts (pastAt p rs c0 ch 0).cnts := rfl
theorem psn : (pastAt p rs c0 ch (k + 1)).now = (nextP p rs (pastAt p rs c0 ch k).now (usefulP (pastAt p rs c0 ch k).now (ch.getD k 0))).1 := rfl
theorem pss : (pastAt p rs c0 ch (k + 1)).sts = (pastAt p rs c0 ch k).sts ++ [(nextP p rs (pastAt p rs c0 ch k).now (usefulP (pastAt p rs c0 ch k).now (ch.getD k 0))).1] := rfl
theorem pse : (pastAt p rs c0 ch (k + 1)).ents = (pastAt p rs c0 ch k).ents ++ leaseL (pastAt p rs c0 ch k).now (nextP p rs (pastAt p rs c0 ch k).now (usefulP (pastAt p rs c0 ch k).now (ch.getD k 0))).1 ++ actEnts (nextP p rs (pastAt p rs c0 ch k).now (usefulP (pastAt p rs c0 ch k).now (ch.getD k 0))).2 := rfl
theorem psc : (pastAt p rs c0 ch (k + 1)).cnts = (pastAt p rs c0 ch k).cnts ++ [((pastAt p rs c0 ch (k + 1)).ents.length : Int)] := rfl
theorem ctl_snoc {l : List CtlD} {c : CtlD} : dCtls l ++ [[.sl 3 (dSteps c.plan), .v (.int .i64 c.at_), .v (.int .i64 c.phase), .v (.int .i64 c.replica), .v (.int .i64 c.round), .v (.int .i64 c.token), .sl 1 (dInts c.mix.base), .sl 1 (dInts c.mix.next), .sl 1 (dSets c.mix.held)]] = dCtls (l ++ [c]) := by
  unfold dCtls; rw [List.map_append]; rfl
theorem lease_y {a b : CtlD} {e : List EntD} {l : List ActD} (h : a.token < b.token) : dEnts (e ++ [⟨5, b.token, 0, ByteArray.empty⟩]) = dEnts (e ++ leaseL a b ++ actEnts (l.take 0)) := by
  unfold leaseL leaseE; rw [if_pos h, List.take_zero]; simp [actEnts]
theorem lease_n {a b : CtlD} {e : List EntD} {l : List ActD} (h : ¬ a.token < b.token) : dEnts e = dEnts (e ++ leaseL a b ++ actEnts (l.take 0)) := by
  unfold leaseL; rw [if_neg h, List.take_zero]; simp [actEnts]
theorem act_y {x : List EntD} {l : List ActD} {j : Nat} (hj : (j : Int) < l.length) (hk : (l.getD j nilA).kind = 1) : dEnts (x ++ actEnts (l.take j) ++ [⟨(l.getD j nilA).ent.kind, (l.getD j nilA).ent.token, (l.getD j nilA).ent.idx, (l.getD j nilA).ent.data⟩]) = dEnts (x ++ actEnts (l.take (j + 1))) := by
  rw [actEnts_y (by omega) hk, ← List.append_assoc]
theorem act_n {x : List EntD} {l : List ActD} {j : Nat} (hj : (j : Int) < l.length) (hk : ¬ (l.getD j nilA).kind = 1) : dEnts (x ++ actEnts (l.take j)) = dEnts (x ++ actEnts (l.take (j + 1))) := by
  rw [actEnts_n (by omega) hk]
end
theorem pastL_fn (p : Prob) (rs : List Int) (c0 : CtlD) (l : List StepD) (d : DraftD) (R ch : List Int) (hof : FnSound Tryz.prog 21 [.val true [.d (.sl 1 (dSets d.vs)), .d (.sl 1 (dSets d.now)), .d (.sl 1 (dSets d.tgt)), .d (.sl 6 (dLinks d.links)), .d (.sl 1 (dSets R)), .zero]] [] { vals := [(true, probC p), (false, [.d (.sl 1 (dInts rs))]), (true, ctlC c0), (false, [.d (.v (.bool true))])] }) (hpk : ∀ k, k ≤ 100 → PastK p rs l (pastAt p rs c0 ch k) k) (hs : setErr p rs = 0) (hck : checkP p l = true) (hl : l.length ≤ 1000000) (hch : u8s ch) (hc0 : ch.length ≤ 40) (hp0 : c0.plan = l) : FnSound Tryz.prog 8 [.val true (caseC d R ch)] [] { vals := [(true, pastC p rs l (pastAt p rs c0 ch ch.length)), (false, [.d (.v (.bool true))])] } := by
  have hu := u8_get hch
  have hnl := fun k => next_len (p := p) (rs := rs) (c := (pastAt p rs c0 ch k).now) (s := usefulP (pastAt p rs c0 ch k).now (ch.getD k 0))
  have hll := fun k => leaseL_le (pastAt p rs c0 ch k).now (nextP p rs (pastAt p rs c0 ch k).now (usefulP (pastAt p rs c0 ch k).now (ch.getD k 0))).1
  refine startW (tm := [(0, _)]) Tryz.func8 rfl Tryz.ntmps8 rfl rfl rfl rfl ?_
  repeat' (first
|(with_reducible (first
|refine JL.seq ?_
|refine JL.skip ?_
|refine JL.exit ?_
|refine JL.ret ?_
|refine JL.nil ?_
|refine outOf_normal ?_
|refine outOf_same ?_
|refine thenL_normal ?_
|refine thenL_exit ?_
|refine roundOf_exit ?_))
|((with_reducible refine W_at ?_); (first
|((with_reducible refine K_mv ?_); (refine W.move rfl rfl ?_))
|((with_reducible refine K_as ?_); (refine W.assign rfl rfl ?_))
|((with_reducible refine K_ld 25 ?_); (refine W.loadA (cs2 := [_, _, _, _]) rfl ld25 rfl rfl rfl ?_))
|((with_reducible refine K_ld 22 ?_); (refine W.load rfl ld22 rfl rfl rfl ?_))
|((with_reducible refine K_ld 32 ?_); (refine W.loadA (cs2 := [_, _, _, _]) rfl ld32 rfl rfl rfl ?_))
|((with_reducible refine K_ld 33 ?_); (refine W.load rfl ld33 rfl rfl rfl ?_))
|((with_reducible refine K_ld 44 ?_); (refine W.loadA (cs2 := [_, _, _, _, _, _, _, _, _]) rfl ld44 rfl rfl rfl ?_))
|((with_reducible refine K_ld 5 ?_); (refine W.load rfl ld5 rfl rfl rfl ?_))
|((with_reducible refine K_ld 64 ?_); (refine W.loadA (cs2 := [_, _, _, _, _, _, _]) rfl ld64 rfl rfl rfl ?_))
|((with_reducible refine K_ld 2 ?_); (refine W.load rfl ld2 rfl rfl rfl ?_))
|((with_reducible refine K_ld 28 ?_); (refine W.load rfl ld28 rfl rfl rfl ?_))
|((with_reducible refine K_ld 3 ?_); (refine W.load rfl ld3 rfl rfl rfl ?_))
|((with_reducible refine K_ld 50 ?_); (refine W.loadA (cs2 := [_, _, _, _]) rfl ld50 rfl rfl rfl ?_))
|((with_reducible refine K_ld 34 ?_); (refine W.load rfl ld34 rfl rfl rfl ?_))
|((with_reducible refine K_ld 29 ?_); (refine W.load rfl ld29 rfl rfl rfl ?_))
|((with_reducible refine K_ld 36 ?_); (refine W.loadA (cs2 := [_, _, _, _, _, _, _, _, _]) rfl ld36 rfl rfl rfl ?_))
|((with_reducible refine K_fa 27 0 ?_); (refine W.fieldAddr rfl fd27_0 rfl rfl ?_))
|((with_reducible refine K_fa 27 1 ?_); (refine W.fieldAddr rfl fd27_1 rfl rfl ?_))
|((with_reducible refine K_fa 27 2 ?_); (refine W.fieldAddr rfl fd27_2 rfl rfl ?_))
|((with_reducible refine K_fa 44 0 ?_); (refine W.fieldAddr rfl fd44_0 rfl rfl ?_))
|((with_reducible refine K_fa 44 5 ?_); (refine W.fieldAddr rfl fd44_5 rfl rfl ?_))
|((with_reducible refine K_fa 36 3 ?_); (refine W.fieldAddr rfl fd36_3 rfl rfl ?_))
|((with_reducible refine K_fa 76 0 ?_); (refine W.fieldAddr rfl fd76_0 rfl rfl ?_))
|((with_reducible refine K_fa 76 1 ?_); (refine W.fieldAddr rfl fd76_1 rfl rfl ?_))
|((with_reducible refine K_fa 36 4 ?_); (refine W.fieldAddr rfl fd36_4 rfl rfl ?_))
|((with_reducible refine K_fa 36 5 ?_); (refine W.fieldAddr rfl fd36_5 rfl rfl ?_))
|((with_reducible refine K_g ?_); (refine W.gT rfl rfl ?_))
|((with_reducible refine K_nl ?_); (first
|refine W.nil ?_
|(refine W.nilD ?_ ?_; (focus kernel_rfl))))
|((with_reducible refine K_bx 27 ?_); (refine W.box (t := 27) 0 rfl rfl rfl ?_))
|((with_reducible refine K_al 36 ?_); (first
|refine W.alloc 64 rfl rfl zr36 ?_
|refine W.alloc 512 rfl rfl zr36 ?_))
|((with_reducible refine K_bd 27 ?_); (refine W.build (cs2 := [_, _, _, _, _, _]) rfl pl27 rfl rfl ?_))
|((with_reducible refine K_ca 21 ?_); ((refine W.call0T rfl bo21 (hof) rfl rfl rfl ?_)))
|((with_reducible refine K_ex ?_); (refine W.extract rfl rfl rfl ?_))
|((with_reducible refine K_al 32 ?_); (refine W.alloc 704 rfl rfl zr32 ?_))
|((with_reducible refine K_al 44 ?_); (first
|refine W.alloc 768 rfl rfl zr44 ?_
|refine W.alloc 64 rfl rfl zr44 ?_
|refine W.alloc 576 rfl rfl zr44 ?_))
|((with_reducible refine K_st 32 ?_); (refine W.store (cs2 := [_, _, _, _]) sz32 rfl rfl rfl rfl ?_))
|((with_reducible refine K_st 44 ?_); (refine W.store (cs2 := [_, _, _, _, _, _, _, _, _]) sz44 rfl rfl rfl rfl ?_))
|((with_reducible refine K_un .not ?_); (refine W.notL (b' := false) rfl rfl rfl ?_))
|((with_reducible refine K_bu .len 22 ?_); (refine W.len rfl el22 rfl rfl lSets ?_))
|((with_reducible refine K_bn .gtr 3 ?_); (refine W.bin rfl rfl rfl rfl ?_))
|((with_reducible refine K_pk ?_); (refine W.pickF rfl rfl rfl ?_))
|((with_reducible refine K_bd 36 ?_); (refine W.build (cs2 := [_, _, _, _, _, _, _, _, _]) rfl pl36 rfl rfl ?_))
|((with_reducible refine K_st 36 ?_); (refine W.store (cs2 := [_, _, _, _, _, _, _, _, _]) sz36 rfl rfl rfl rfl ?_))
|((with_reducible refine K_bs 34 ?_); (first
|refine W.bs (rows := [[_, _, _, _, _, _, _, _, _]]) 320 rfl rfl ef34 rfl rfl rfl ?_
|refine W.bs (rows := [[_, _, _, _, _, _, _, _, _]]) 192 rfl rfl ef34 rfl rfl rfl ?_))
|((with_reducible refine K_bs 29 ?_); (first
|refine W.bs (rows := [[_]]) 384 rfl rfl ef29 rfl rfl rfl ?_
|refine W.bs (rows := [[_]]) 320 rfl rfl ef29 rfl rfl rfl ?_))
|((with_reducible refine K_bn .lss 3 ?_); (refine W.bin rfl rfl rfl rfl ?_))
|((with_reducible refine K_ix 22 ?_); ((refine W.idx rfl el22 rfl rfl (gSetsN ?_) ?_)))
|((with_reducible refine K_ca 20 ?_); ((refine W.call0A rfl bo20 (useful_fn p (pastAt p rs c0 ch k).now (ch.getD k 0) (hpk k (by omega)).ck (by rw [(hpk k (by omega)).b.plan]; exact hl) (hu k)) rfl rfl rfl ?_)))
|((with_reducible refine K_al 64 ?_); (refine W.alloc 448 rfl rfl zr64 ?_))
|((with_reducible refine K_st 64 ?_); (refine W.store (cs2 := [_, _, _, _, _, _, _]) sz64 rfl rfl rfl rfl ?_))
|((with_reducible refine K_ca 25 ?_); ((refine W.call0T rfl bo25 (step_fn p rs (pastAt p rs c0 ch k).now (usefulP (pastAt p rs c0 ch k).now (ch.getD k 0)) (hpk k (by omega)).ck (hpk k (by omega)).cr (by rw [(hpk k (by omega)).b.plan]; exact hck) hs (by rw [(hpk k (by omega)).b.plan]; exact hl) (by have := (hpk k (by omega)).b.rd; omega) (by have := (hpk k (by omega)).b.rp; omega)) rfl rfl rfl ?_)))
|((with_reducible refine K_bn .gtr 2 ?_); (refine W.bin rfl rfl rfl rfl ?_))
|((with_reducible refine K_bd 50 ?_); (refine W.build (cs2 := [_, _, _, _]) rfl pl50 rfl rfl ?_))
|((with_reducible refine K_bs 28 ?_); (first
|refine W.bs (rows := [[_, _, _, _]]) 320 rfl rfl ef28 rfl rfl rfl ?_
|refine W.bs (rows := [[_, _, _, _]]) 448 rfl rfl ef28 rfl rfl rfl ?_))
|((with_reducible refine K_bu .append 28 ?_); (first
|(refine W.appO 384 rfl rfl ef28 is28 rfl rfl rfl rfl ?_ sEntsC ?_)
|(refine W.appO 512 rfl rfl ef28 is28 rfl rfl rfl rfl ?_ sEntsC ?_)))
|((with_reducible refine K_st 28 ?_); (refine W.store (cs2 := [_, _, _, _, _, _, _, _, _]) sz28 rfl rfl rfl rfl ?_))
|((with_reducible refine K_bu .len 60 ?_); (refine W.len rfl el60 rfl rfl lActs ?_))
|((with_reducible refine K_ix 60 ?_); ((refine W.idx rfl el60 rfl rfl (gActsN ?_) ?_)))
|((with_reducible refine K_bn .eql 3 ?_); (refine W.bin rfl rfl rfl rfl ?_))
|((with_reducible refine K_bn .add 3 ?_); ((refine W.addI rfl rfl rfl ?_ ?_; (focus omega))))
|((with_reducible refine K_bu .append 34 ?_); ((refine W.appO 256 rfl rfl ef34 is34 rfl rfl rfl rfl ?_ rfl ?_)))
|((with_reducible refine K_st 34 ?_); (refine W.store (cs2 := [_, _, _, _, _, _, _, _, _]) sz34 rfl rfl rfl rfl ?_))
|((with_reducible refine K_bu .len 28 ?_); (refine W.len rfl el28 rfl rfl lEnts ?_))
|((with_reducible refine K_bu .append 29 ?_); ((refine W.appO 384 rfl rfl ef29 is29 rfl rfl rfl rfl ?_ sInts ?_)))
|((with_reducible refine K_st 29 ?_); (refine W.store (cs2 := [_, _, _, _, _, _, _, _, _]) sz29 rfl rfl rfl rfl ?_))))
|((with_reducible refine C_at ?_); (refine JL.condP rfl (fun hc => ?_) (fun hc => ?_)))
|((with_reducible refine JL.regionW (lend := lendS) (id := 0) 100 mo ?_ ?_); (focus exact rfl))
|((with_reducible refine JL.regionW (lend := lendS) (id := 1) 200 mo ?_ ?_); (focus exact rfl))
|((with_reducible refine JL.regionW (lend := lendS) (id := 2) 300 mo ?_ ?_); (focus exact rfl))
|((with_reducible refine JL.regionW (lend := lendS) (id := 3) 400 mo ?_ ?_); (focus exact rfl))
|((with_reducible refine JL.regionW (lend := lendS) (id := 4) 500 mo ?_ ?_); (focus exact rfl))
|((with_reducible refine JL.regionW (lend := lendS) (id := 5) 600 mo ?_ ?_); (focus exact rfl))
|((with_reducible refine JL.regionW (lend := lendS) (id := 6) 700 mo ?_ ?_); (focus exact rfl))
|((with_reducible refine JL.regionW (lend := lendS) (id := 7) 800 mo ?_ ?_); (focus exact rfl))
|((with_reducible refine JL.regionW (lend := lendS) (id := 8) 900 mo ?_ ?_); (focus exact rfl))
|((with_reducible refine JL.regionW (lend := lendS) (id := 10) 1000 mo ?_ ?_); (focus exact rfl))
|((with_reducible refine JL.regionW (lend := lendS) (id := 11) 1100 mo ?_ ?_); (focus exact rfl))
|((with_reducible refine JL.regionW (lend := lendS) (id := 12) 1200 mo ?_ ?_); (focus exact rfl))
|((with_reducible refine JL.regionW (lend := lendS) (id := 13) 1300 mo ?_ ?_); (focus exact rfl))
|((with_reducible refine JL.regionW (lend := lendS) (id := 14) 1400 mo ?_ ?_); (focus exact rfl))
|((with_reducible refine JL.regionW (lend := lendS) (id := 15) 1500 mo ?_ ?_); (focus exact rfl))
|((with_reducible refine JL.regionW (lend := lendS) (id := 17) 1600 mo ?_ ?_); (focus exact rfl))
|((with_reducible refine JL.regionW (lend := lendS) (id := 18) 1700 mo ?_ ?_); (focus exact rfl))
|((with_reducible refine JL.regionW (lend := lendS) (id := 16) 1800 mo ?_ ?_); (focus exact rfl))
|((with_reducible refine JL.regionW (lend := lendS) (id := 19) 1900 mo ?_ ?_); (focus exact rfl))
|((with_reducible refine JL.regionW (lend := lendS) (id := 20) 2000 mo ?_ ?_); (focus exact rfl))
|((with_reducible refine JL.regionW (lend := lendS) (id := 21) 2100 mo ?_ ?_); (focus exact rfl))
|((with_reducible refine JL.regionW (lend := lendS) (id := 9) 2200 mo ?_ ?_); (focus exact rfl))
|((with_reducible refine JL.regionW (lend := lendS) (id := 22) 2300 mo ?_ ?_); (focus exact rfl))
|((with_reducible refine blk_at (id := 0) ?_); (try (refine JL.zeroBW (cs2 := [_, _, _, _, _, _, _, _, _]) (512, 600) 6 _ 50 4 rfl rfl rfl rfl ?_)); (refine JL.rekBW (cs2 := [_, _, _, _, _, _, _, _, _]) (512, 600) 6 (1198, 851) rfl rfl rfl rfl rfl rfl ?_); (try (refine JL.zeroBW (cs2 := [_, _, _, _, _, _, _, _, _]) (512, 600) 7 _ 44 9 rfl rfl rfl rfl ?_)); (refine JL.rekBW (cs2 := [_, _, _, _, _, _, _, _, _]) (512, 600) 7 (1199, 853) rfl rfl rfl rfl rfl rfl ?_); (try (refine JL.zeroBW (cs2 := [_, _, _, _, _, _, _, _, _]) (512, 600) 8 _ 3 1 rfl rfl rfl rfl ?_)); (refine JL.rekBW (cs2 := [_, _, _, _, _, _, _, _, _]) (512, 600) 8 (1200, 855) rfl rfl rfl rfl rfl rfl ?_); ((with_reducible refine JL.loopW 0 899 (fun (k : Nat) tm => (14, .one false [.d (.v (.int .i64 ((k : Int))))]) :: tm) (fun (k : Nat) bo => ((512, 600), some (.st 36 [.d (.sl 1 ((dInts p.vs))), .d (.sl 1 ((dInts p.now))), .d (.sl 1 ((dInts p.tgt))), .d (.sl 6 ((dTabs p.tabs))), .d (.sl 1 ((dInts rs))), .d (.sl 3 ((dSteps l))), .own (1198, 851), .own (1199, 853), .own (1200, 855)])) :: ((1198, 851), some (.sl 50 4 ((dEnts (pastAt p rs c0 ch k).ents)))) :: ((1199, 853), some (.sl 44 9 ((dCtls (pastAt p rs c0 ch k).sts)))) :: ((1200, 855), some (.sl 3 1 ((dInts (pastAt p rs c0 ch k).cnts)))) :: ((64, 700), some (.st 44 [.d (.sl 3 ((dSteps (pastAt p rs c0 ch k).now.plan))), .d (.v (.int .i64 ((pastAt p rs c0 ch k).now.at_))), .d (.v (.int .i64 ((pastAt p rs c0 ch k).now.phase))), .d (.v (.int .i64 ((pastAt p rs c0 ch k).now.replica))), .d (.v (.int .i64 ((pastAt p rs c0 ch k).now.round))), .d (.v (.int .i64 ((pastAt p rs c0 ch k).now.token))), .d (.sl 1 ((dInts (pastAt p rs c0 ch k).now.mix.base))), .d (.sl 1 ((dInts (pastAt p rs c0 ch k).now.mix.next))), .d (.sl 1 ((dSets (pastAt p rs c0 ch k).now.mix.held)))])) :: bo) (fun (k : Nat) => k ≤ ch.length) (fun (k : Nat) => ch.length - k) (0) ?_ (fun k hk => have h1 := (hpk k (by omega)).en; have h2 := (hpk k (by omega)).sl; have h3 := (hpk k (by omega)).cl; have h4 := hnl k; have h5 := hll k; ?_) ?_); (focus (apply SubW [((1198, 851), _), ((1199, 853), _), ((1200, 855), _)] rfl ?_ ?_ rfl ?_; (repeat' (first
|(with_reducible (first
|exact chkT_nil
|exact chkB_nil
|refine chkB_none ?_
|refine avTo_w ?_
|exact cellsTo_nl
|refine cellsTo_cn ?_ ?_
|exact cellTo_same
|exact cellTo_zz
|refine boxTo_stw ?_
|refine boxTo_slw ?_))
|((with_reducible refine T_at ?_); (first
|refine chkT_skip rfl ?_
|refine chkT_cons rfl ?_ rfl ?_))
|((with_reducible refine B_at ?_); (first
|refine chkB_skip rfl ?_
|refine chkB_cons rfl ?_ rfl rfl ?_))
|((with_reducible refine avTo_tup ?_); (focus rfl))
|((with_reducible refine CS_at ?_); (first
|exact cellsTo_same rfl
|refine cellsTo_cn ?_ ?_))
|((with_reducible refine CE_at ?_); (first
|exact cellTo_ow rfl
|exact cellTo_pt rfl
|refine cellTo_int ?_
|refine cellTo_sl ?_))
|(refine ND.mk ?_; kernel_rfl)))))))
|((with_reducible refine round_next (i := k) (k + 1) ?_ ?_ ?_); (focus (apply SubW [((1198, 851), _), ((1199, 853), _), ((1200, 855), _)] rfl ?_ ?_ rfl ?_; (repeat' (first
|(with_reducible (first
|exact chkT_nil
|exact chkB_nil
|refine chkB_none ?_
|refine avTo_w ?_
|exact cellsTo_nl
|refine cellsTo_cn ?_ ?_
|exact cellTo_same
|exact cellTo_zz
|refine boxTo_stw ?_
|refine boxTo_slw ?_))
|((with_reducible refine T_at ?_); (first
|refine chkT_skip rfl ?_
|refine chkT_cons rfl ?_ rfl ?_))
|((with_reducible refine B_at ?_); (first
|refine chkB_skip rfl ?_
|refine chkB_cons rfl ?_ rfl rfl ?_))
|((with_reducible refine avTo_tup ?_); (focus rfl))
|((with_reducible refine CS_at ?_); (exact cellsTo_same rfl))
|((with_reducible refine CE_at ?_); (first
|exact cellTo_ow rfl
|exact cellTo_pt rfl
|refine cellTo_int ?_
|refine cellTo_sl ?_))
|(refine ND.mk ?_; kernel_rfl))))))
|((with_reducible refine blk_at (id := 2) ?_); (try (refine JL.zeroBW (cs2 := [_, _, _, _, _, _, _, _, _]) (512, 600) 6 _ 50 4 rfl rfl rfl rfl ?_)); (refine JL.rekBW (cs2 := [_, _, _, _, _, _, _, _, _]) (512, 600) 6 (1198, 1451) rfl rfl rfl rfl rfl rfl ?_); (try (refine JL.zeroBW (cs2 := [_, _, _, _, _, _, _, _, _]) (512, 600) 7 _ 44 9 rfl rfl rfl rfl ?_)); (refine JL.rekBW (cs2 := [_, _, _, _, _, _, _, _, _]) (512, 600) 7 (1199, 1453) rfl rfl rfl rfl rfl rfl ?_); (try (refine JL.zeroBW (cs2 := [_, _, _, _, _, _, _, _, _]) (512, 600) 8 _ 3 1 rfl rfl rfl rfl ?_)); (refine JL.rekBW (cs2 := [_, _, _, _, _, _, _, _, _]) (512, 600) 8 (1200, 1455) rfl rfl rfl rfl rfl rfl ?_); ((with_reducible refine JL.loopW 2 1499 (fun (j : Nat) tm => (19, .one false [.d (.v (.int .i64 ((j : Int))))]) :: tm) (fun (j : Nat) bo => ((512, 600), some (.st 36 [.d (.sl 1 ((dInts p.vs))), .d (.sl 1 ((dInts p.now))), .d (.sl 1 ((dInts p.tgt))), .d (.sl 6 ((dTabs p.tabs))), .d (.sl 1 ((dInts rs))), .d (.sl 3 ((dSteps l))), .own (1198, 1451), .own (1199, 1453), .own (1200, 1455)])) :: ((1198, 1451), some (.sl 50 4 ((dEnts ((pastAt p rs c0 ch k).ents ++ leaseL (pastAt p rs c0 ch k).now (nextP p rs (pastAt p rs c0 ch k).now (usefulP (pastAt p rs c0 ch k).now (ch.getD k 0))).1 ++ actEnts ((nextP p rs (pastAt p rs c0 ch k).now (usefulP (pastAt p rs c0 ch k).now (ch.getD k 0))).2.take j)))))) :: ((1199, 1453), some (.sl 44 9 ((dCtls (pastAt p rs c0 ch k).sts)))) :: ((1200, 1455), some (.sl 3 1 ((dInts (pastAt p rs c0 ch k).cnts)))) :: bo) (fun (j : Nat) => j ≤ (nextP p rs (pastAt p rs c0 ch k).now (usefulP (pastAt p rs c0 ch k).now (ch.getD k 0))).2.length) (fun (j : Nat) => (nextP p rs (pastAt p rs c0 ch k).now (usefulP (pastAt p rs c0 ch k).now (ch.getD k 0))).2.length - j) (0) ?_ (fun j hj => have h6 := actEnts_len ((nextP p rs (pastAt p rs c0 ch k).now (usefulP (pastAt p rs c0 ch k).now (ch.getD k 0))).2.take j); have h7 := List.length_take (i := j) (l := (nextP p rs (pastAt p rs c0 ch k).now (usefulP (pastAt p rs c0 ch k).now (ch.getD k 0))).2); ?_) ?_); (focus (apply SubW [((1198, 1451), _), ((1199, 1453), _), ((1200, 1455), _)] rfl ?_ ?_ rfl ?_; (repeat' (first
|(with_reducible (first
|exact chkT_nil
|exact chkB_nil
|refine chkB_none ?_
|refine avTo_w ?_
|exact cellsTo_nl
|refine cellsTo_cn ?_ ?_
|exact cellTo_same
|exact cellTo_zz
|refine boxTo_stw ?_
|refine boxTo_slw ?_))
|((with_reducible refine T_at ?_); (first
|refine chkT_skip rfl ?_
|refine chkT_cons rfl ?_ rfl ?_))
|((with_reducible refine B_at ?_); (first
|refine chkB_skip rfl ?_
|refine chkB_cons rfl ?_ rfl rfl ?_))
|((with_reducible refine avTo_tup ?_); (focus rfl))
|((with_reducible refine CS_at ?_); (first
|exact cellsTo_same rfl
|refine cellsTo_cn ?_ ?_))
|((with_reducible refine CE_at ?_); (first
|exact cellTo_ow rfl
|exact cellTo_pt rfl
|refine cellTo_int ?_
|exact cellTo_rn rfl))
|(with_reducible rfl)
|(refine ND.mk ?_; kernel_rfl)))))))
|((with_reducible refine round_next (i := j) (j + 1) ?_ ?_ ?_); (focus (apply SubW [((1198, 1451), _), ((1199, 1453), _), ((1200, 1455), _)] rfl ?_ ?_ rfl ?_; (repeat' (first
|(with_reducible (first
|exact chkT_nil
|exact chkB_nil
|refine chkB_none ?_
|refine avTo_w ?_
|exact cellsTo_nl
|refine cellsTo_cn ?_ ?_
|exact cellTo_same
|exact cellTo_zz
|refine boxTo_stw ?_
|refine boxTo_slw ?_))
|((with_reducible refine T_at ?_); (first
|refine chkT_skip rfl ?_
|refine chkT_cons rfl ?_ rfl ?_))
|((with_reducible refine B_at ?_); (first
|refine chkB_skip rfl ?_
|refine chkB_cons rfl ?_ rfl rfl ?_))
|((with_reducible refine avTo_tup ?_); (focus rfl))
|((with_reducible refine CS_at ?_); (exact cellsTo_same rfl))
|((with_reducible refine CE_at ?_); (first
|exact cellTo_ow rfl
|exact cellTo_pt rfl
|refine cellTo_int ?_
|exact cellTo_rn rfl))
|(with_reducible rfl)
|(refine ND.mk ?_; kernel_rfl))))))
|(with_reducible refine JL.block ?_)
|((with_reducible apply endW Tryz.results8); (focus (apply ResW.cellA (cs' := [_, _, _, _, _, _, _, _, _]) ld36 rfl rfl rfl; apply ResW.tmp rfl; exact ResW.nil)); rotate_left; (focus exact rfl); (focus (repeat' (first
|exact OutVs.nil
|refine OutVs.cons ?_ ?_
|exact OutCs.nil
|refine OutCs.cons ?_ ?_
|with_reducible exact OutC.d rfl
|refine OutC.bool ?_
|refine OutC.own rfl ?_
|refine OutC.zero ?_))))
|(focus omega)
|(focus (simp only [IntKind.bits, List.length_append, List.length_cons, List.length_nil, List.length_map, List.length_take, List.length_drop, List.length_replicate, List.length_range, List.length_set, lInts, lSets, lBools, lMat, lTabs, lMixes, lSteps, lNodes, lConfs, lEnts, lActs, lCtls, lSigs]; omega)))
  all_goals first
    | with_reducible rfl
    | (rw [hp0]; done)
    | (with_reducible rw [p0n]; done)
    | with_reducible exact p0e
    | with_reducible exact p0c
    | exact lease_y hc
    | exact lease_n hc
    | exact act_y (by assumption) hc
    | exact act_n (by assumption) hc
    | (with_reducible rw [psn]; done)
    | ((with_reducible rw [pss]); exact ctl_snoc)
    | (with_reducible rw [pse, List.take_of_length_le (by omega)]; done)
    | (with_reducible rw [psc, pse, List.take_of_length_le (by omega)]; done)
    | (have e : k = ch.length := by omega
       rw [e]; done)
    | exact p0s
    | trace_state
theorem past_fn (d : DraftD) (R ch : List Int) (hd : draftOK d) (hR : u8s R) (hch : u8s ch) (h : caseOK d = true) (hc : ch.length ≤ 40) : FnSound Tryz.prog 8 [.val true (caseC d R ch)] [] { vals := [(true, pastC (ofP d) (repsP R (ofP d).vs.length) (findP (ofP d)).1 (pastAt (ofP d) (repsP R (ofP d).vs.length) (newP (ofP d) (repsP R (ofP d).vs.length) (findP (ofP d)).1).1 ch ch.length)), (false, [.d (.v (.bool true))])] } := by
  have h' := h
  unfold caseOK at h
  rw [Bool.and_eq_true, Bool.and_eq_true, decide_eq_true_eq] at h
  have hv := ofP_sound hd h.1
  obtain ⟨f1, f2, f3⟩ := find_check h.2.2
  have hs := reps_set hv hR
  obtain ⟨n1, n2, n3, n4⟩ := newP_k hs f1
  have n5 := newP_r hs f1
  have e : newP (ofP d) (repsP R (ofP d).vs.length) (findP (ofP d)).1 = (⟨(findP (ofP d)).1, 0, if (findP (ofP d)).1.length = 0 then 6 else 0, 0, 0, 0, startM (ofP d)⟩, 0) := by unfold newP; rw [if_neg (by simpa using hs), f1, if_neg (by decide)]
  have n6 : (newP (ofP d) (repsP R (ofP d).vs.length) (findP (ofP d)).1).1.replica = 0 := by rw [e]
  have n7 : (newP (ofP d) (repsP R (ofP d).vs.length) (findP (ofP d)).1).1.token = 0 := by rw [e]
  exact pastL_fn _ _ _ _ d R ch (ofCase_fn d R hd hR h') (pastAt_k n1 n5 ⟨n2, by omega, by omega, by omega⟩ n7 hs (by omega) hch) hs f1 (by omega) hch hc n2
end Go.Proofs.YtbdjcgjdmhgnmaaGreat
