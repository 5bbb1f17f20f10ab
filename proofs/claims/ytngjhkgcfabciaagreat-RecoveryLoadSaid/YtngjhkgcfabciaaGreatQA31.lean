/- Rules of runs and contracts of functions, for the claims of one seat. -/
import Derived.Test.YtngjhkgcfabciaaGreatQA13
import Derived.Test.YtngjhkgcfabciaaGreatQA15
import Derived.Test.YtngjhkgcfabciaaGreatQA16
namespace Go.Proofs.YtngjhkgcfabciaaGreat
open Go Go.RowKit
set_option maxRecDepth 100000
set_option maxHeartbeats 8000000
set_option linter.unusedSimpArgs false
set_option linter.unusedVariables false
theorem rowP_step {bad : Int} {dg : Bool} {i j : Nat} : rowP bad dg i (j + 1) = rowP bad dg i j ++ [entryP bad dg i j] := by unfold rowP; rw [List.range_succ, List.map_append]; rfl
theorem bitsP_step {n m : Nat} {bad : Int} {dg : Bool} : bitsP (n + 1) m bad dg = bitsP n m bad dg ++ [rowP bad dg n m] := by unfold bitsP; rw [List.range_succ, List.map_append]; rfl
theorem rowP_len {bad : Int} {dg : Bool} {i j : Nat} : (rowP bad dg i j).length = j := by simp [rowP]
theorem bitsP_len {n m : Nat} {bad : Int} {dg : Bool} : (bitsP n m bad dg).length = n := by simp [bitsP]
theorem entry_is {bad : Int} {i j : Nat} : (bad / 2 ^ (3 * (i : Int) + (j : Int)).toNat) = bad / 2 ^ (3 * i + j) := by rw [show (3 * (i : Int) + (j : Int)).toNat = 3 * i + j by omega]
theorem bits_fn (a b bad : Int) (dg : Bool) (ha : 0 ≤ a ∧ a ≤ 3) (hb : 0 ≤ b ∧ b ≤ 3) : FnSound Tryz.prog 41 [.val false [.d (.v (.int .i64 a))], .val false [.d (.v (.int .i64 b))], .val false [.d (.v (.int .u16 bad))], .val false [.d (.v (.bool dg))]] [] { vals := [(false, [.d (.sl 1 (dMat (bitsP a.toNat b.toNat bad dg)))])] } := by
 refine startW (tm := [(0, _), (1, _), (2, _), (3, _)]) Tryz.func41 rfl Tryz.ntmps41 rfl rfl rfl rfl ?_
 repeat' (first
 |(with_reducible refine rgn 5 500 ?_ ?_); exact rfl
 |(with_reducible refine rgn 6 600 ?_ ?_); exact rfl
 |(with_reducible refine rgn 7 700 ?_ ?_); exact rfl
 |(with_reducible refine rgn 9 800 ?_ ?_); exact rfl
 |(with_reducible refine reg_at (id := 10) ?_); (try (refine JL.shutW 11 rfl rfl ?_)); (with_reducible refine rgn 10 1000 ?_ ?_); exact rfl
 |(with_reducible refine rgn 4 1100 ?_ ?_); exact rfl
 |(with_reducible refine blk_at (id := 0) ?_); (try (refine JL.zeroW 9 _ 144 1 rfl rfl ?_)); (refine JL.rekW 9 (1144, 351) rfl rfl rfl rfl ?_); ((with_reducible refine JL.loopW 0 399 (fun (i : Nat) tm => (10, .one false [.d (.v (.int .i64 ((i : Int))))]) :: (9, .one false [.own (1144, 351)]) :: tm) (fun (i : Nat) bo => ((1144, 351), some (.sl 144 1 ((dMat (bitsP i b.toNat bad dg))))) :: bo) (fun (i : Nat) => (i : Int) ≤ a) (fun (i : Nat) => a.toNat - i) (0) ?_ (fun i hi => have hl1 := bitsP_len (n := i) (m := b.toNat) (bad := bad) (dg := dg); ?_) ?_); (focus (apply SubW [((1144, 351), _)] rfl ?_ ?_ rfl ?_; (repeat' (first | (with_reducible (first | exact chkT_nil | exact chkB_nil | refine chkB_none ?_ | exact avTo_dead | refine avTo_w ?_ | exact avTo_un | exact cellsTo_nl | refine cellsTo_cn ?_ ?_ | exact cellTo_same | exact cellTo_zz | refine boxTo_stw ?_ | refine boxTo_slw ?_ | refine boxTo_fzw ?_)) | ((with_reducible refine T_at ?_); (first | refine chkT_skip rfl ?_ | refine chkT_cons rfl ?_ rfl ?_)) | ((with_reducible refine B_at ?_); (first | refine chkB_skip rfl ?_ | refine chkB_cons rfl ?_ rfl rfl ?_)) | ((with_reducible refine avTo_tup ?_); (focus rfl)) | ((with_reducible refine CS_at ?_); (first | exact cellsTo_same rfl | refine cellsTo_cn ?_ ?_)) | ((with_reducible refine CE_at ?_); (first | exact cellTo_ow rfl | exact cellTo_pt rfl | refine cellTo_int ?_ | refine cellTo_bool ?_ | refine cellTo_sl ?_ | refine cellTo_zd ?_ | refine cellTo_fz rfl ?_ | exact cellTo_rn rfl)) | (with_reducible rfl) | (refine ND.mk ?_; kernel_rfl))))))
 |((with_reducible refine round_next (i := i) (i + 1) ?_ ?_ ?_); (focus (apply SubW [((1144, 351), _)] rfl ?_ ?_ rfl ?_; (repeat' (first | (with_reducible (first | exact chkT_nil | exact chkB_nil | refine chkB_none ?_ | exact avTo_dead | refine avTo_w ?_ | exact avTo_un | exact cellsTo_nl | refine cellsTo_cn ?_ ?_ | exact cellTo_same | exact cellTo_zz | refine boxTo_stw ?_ | refine boxTo_slw ?_ | refine boxTo_fzw ?_)) | ((with_reducible refine T_at ?_); (first | refine chkT_skip rfl ?_ | refine chkT_cons rfl ?_ rfl ?_)) | ((with_reducible refine B_at ?_); (first | refine chkB_skip rfl ?_ | refine chkB_cons rfl ?_ rfl rfl ?_)) | ((with_reducible refine avTo_tup ?_); (focus rfl)) | ((with_reducible refine CS_at ?_); (first | exact cellsTo_same rfl | refine cellsTo_cn ?_ ?_)) | ((with_reducible refine CE_at ?_); (first | exact cellTo_ow rfl | exact cellTo_pt rfl | refine cellTo_int ?_ | refine cellTo_bool ?_ | refine cellTo_sl ?_ | refine cellTo_zd ?_ | refine cellTo_fz rfl ?_ | exact cellTo_rn rfl)) | (with_reducible rfl) | (refine ND.mk ?_; kernel_rfl))))))
 |(with_reducible refine blk_at (id := 2) ?_); (try (refine JL.zeroW 11 _ 4 1 rfl rfl ?_)); (refine JL.rekW 11 (1176, 651) rfl rfl rfl rfl ?_); ((with_reducible refine JL.loopW 2 699 (fun (j : Nat) tm => (12, .one false [.d (.v (.int .i64 ((j : Int))))]) :: (11, .one false [.own (1176, 651)]) :: tm) (fun (j : Nat) bo => ((1176, 651), some (.sl 4 1 ((dBools (rowP bad dg i j))))) :: bo) (fun (j : Nat) => (j : Int) ≤ b) (fun (j : Nat) => b.toNat - j) (0) ?_ (fun j hj => have hl2 := rowP_len (bad := bad) (dg := dg) (i := i) (j := j); ?_) ?_); (focus (apply SubW [((1176, 651), _)] rfl ?_ ?_ rfl ?_; (repeat' (first | (with_reducible (first | exact chkT_nil | exact chkB_nil | refine chkB_none ?_ | exact avTo_dead | refine avTo_w ?_ | exact avTo_un | exact cellsTo_nl | refine cellsTo_cn ?_ ?_ | exact cellTo_same | exact cellTo_zz | refine boxTo_stw ?_ | refine boxTo_slw ?_ | refine boxTo_fzw ?_)) | ((with_reducible refine T_at ?_); (first | refine chkT_skip rfl ?_ | refine chkT_cons rfl ?_ rfl ?_)) | ((with_reducible refine B_at ?_); (first | refine chkB_skip rfl ?_ | refine chkB_cons rfl ?_ rfl rfl ?_)) | ((with_reducible refine avTo_tup ?_); (focus rfl)) | ((with_reducible refine CS_at ?_); (first | exact cellsTo_same rfl | refine cellsTo_cn ?_ ?_)) | ((with_reducible refine CE_at ?_); (first | exact cellTo_ow rfl | exact cellTo_pt rfl | refine cellTo_int ?_ | refine cellTo_bool ?_ | refine cellTo_sl ?_ | refine cellTo_zd ?_ | refine cellTo_fz rfl ?_ | exact cellTo_rn rfl)) | (with_reducible rfl) | (refine ND.mk ?_; kernel_rfl))))))
 |((with_reducible refine round_next (i := j) (j + 1) ?_ ?_ ?_); (focus (apply SubW [((1176, 651), _)] rfl ?_ ?_ rfl ?_; (repeat' (first | (with_reducible (first | exact chkT_nil | exact chkB_nil | refine chkB_none ?_ | exact avTo_dead | refine avTo_w ?_ | exact avTo_un | exact cellsTo_nl | refine cellsTo_cn ?_ ?_ | exact cellTo_same | exact cellTo_zz | refine boxTo_stw ?_ | refine boxTo_slw ?_ | refine boxTo_fzw ?_)) | ((with_reducible refine T_at ?_); (first | refine chkT_skip rfl ?_ | refine chkT_cons rfl ?_ rfl ?_)) | ((with_reducible refine B_at ?_); (first | refine chkB_skip rfl ?_ | refine chkB_cons rfl ?_ rfl rfl ?_)) | ((with_reducible refine avTo_tup ?_); (focus rfl)) | ((with_reducible refine CS_at ?_); (first | exact cellsTo_same rfl | refine cellsTo_cn ?_ ?_)) | ((with_reducible refine CE_at ?_); (first | exact cellTo_ow rfl | exact cellTo_pt rfl | refine cellTo_int ?_ | refine cellTo_bool ?_ | refine cellTo_sl ?_ | refine cellTo_zd ?_ | refine cellTo_fz rfl ?_ | exact cellTo_rn rfl)) | (with_reducible rfl) | (refine ND.mk ?_; kernel_rfl))))))
 |refine wA ?_
 |(refine wC ?_ ?_ <;> intro hc)
 |refine wB ?_ ?_
 |(with_reducible refine JL.block ?_)
 |(with_reducible refine F_at ?_); refine eW (vs := [(_, _)]) Tryz.results41 ?_; (focus (repeat' (first | exact oA | refine oB ?_ | refine oC ?_ ?_ | fail)))
 |exact oM
 |fail)
 all_goals first
  | rfl
  | (rw [rowP_step]; congr 3; unfold entryP; rw [← entry_is]; grind)
  | (rw [bitsP_step]; have e : j = b.toNat := by omega
     rw [e])
  | (have e : i = a.toNat := by omega
     rw [e])
  | trace_state
theorem tm_rng {x n : Int} (h : 0 ≤ x) (hn : 0 < n) : 0 ≤ x.tmod n ∧ x.tmod n < n := ⟨Int.tmod_nonneg n h, Int.tmod_lt_of_pos x hn⟩
theorem link_at {d : DraftD} (hd : draftOK d) (j : Nat) (hn : 0 < (nvs d).length) : j < d.links.length → (0 ≤ (d.links.getD j nilL).kind ∧ (d.links.getD j nilL).kind < 256) ∧ (0 ≤ (d.links.getD j nilL).frm ∧ (d.links.getD j nilL).frm < 256) ∧ (0 ≤ (d.links.getD j nilL).tto ∧ (d.links.getD j nilL).tto < 256) ∧ (0 ≤ (d.links.getD j nilL).kind.tmod 4 ∧ (d.links.getD j nilL).kind.tmod 4 < 4) ∧ (0 ≤ (d.links.getD j nilL).frm.tmod ((nvs d).length : Int) ∧ (d.links.getD j nilL).frm.tmod ((nvs d).length : Int) < (nvs d).length) ∧ (0 ≤ (d.links.getD j nilL).tto.tmod ((nvs d).length : Int) ∧ (d.links.getD j nilL).tto.tmod ((nvs d).length : Int) < (nvs d).length) := fun hj => by
 have h := hd.2.2.2 (d.links.getD j nilL) (by rw [List.getD_eq_getElem?_getD, List.getElem?_eq_getElem hj]; exact List.getElem_mem hj)
 exact ⟨h.1, h.2.1, h.2.2.1, tm_rng h.1.1 (by omega), tm_rng h.2.1.1 (by omega), tm_rng h.2.2.1.1 (by omega)⟩
theorem nvs_len {d : DraftD} : (nvs d).length = d.vs.length := by simp [nvs]
theorem nvs_get {d : DraftD} (hd : draftOK d) (k : Nat) : k < d.vs.length → 1 ≤ (nvs d).getD k 0 ∧ (nvs d).getD k 0 ≤ 3 := fun hk => by
 have e : (nvs d).getD k 0 = nP (d.vs.getD k 0) := by simp [nvs, List.getD_eq_getElem?_getD, hk]
 rw [e]
 exact nP_rng (hd.1 _ (int_getD_mem hk)).1
theorem nvs_step {d : DraftD} {i : Nat} (h : i < d.vs.length) : (nvs d).take i ++ [1 + (d.vs.getD i 0).tmod 3] = (nvs d).take (i + 1) := by
 rw [← take_snoc (d := 0) (by rw [nvs_len]; exact h)]
 congr 2
 simp [nvs, nP, List.getD_eq_getElem?_getD, h]
theorem modsP_step {l vs : List Int} {k : Nat} : modsP l vs (k + 1) = modsP l vs k ++ [(l.getD k 0).tmod (1 + (vs.getD k 0).tmod 3)] := by unfold modsP; rw [List.range_succ, List.map_append]; rfl
theorem modsP_len {l vs : List Int} {k : Nat} : (modsP l vs k).length = k := by simp [modsP]
theorem tabP_eq {vs : List Int} {l : LinkD} {a : Bool} {r : List (List Bool)} (ha : (l.aware && !(decide (1 + l.kind.tmod 4 = 3) || decide (1 + l.kind.tmod 4 = 4))) = a) (hr : (if 1 + l.kind.tmod 4 = 4 then bitsP (vs.getD (l.frm.tmod vs.length).toNat 0).toNat (vs.getD (l.frm.tmod vs.length).toNat 0).toNat l.lost true else []) = r) : tabP vs l = ⟨1 + l.kind.tmod 4, l.frm.tmod vs.length, l.tto.tmod vs.length, a, bitsP (vs.getD (l.frm.tmod vs.length).toNat 0).toNat (vs.getD (l.tto.tmod vs.length).toNat 0).toNat l.bad false, r⟩ := by subst ha hr; rfl
theorem aw_eq {b : Bool} {k : Int} {dp : Decidable (¬ (k = 3 ∨ k = 4))} (h : b = true) : (b && !(decide (k = 3) || decide (k = 4))) = @decide (¬ (k = 3 ∨ k = 4)) dp := by
 subst h
 by_cases h1 : k = 3 <;> by_cases h2 : k = 4 <;> simp [h1, h2]
theorem tabs_step {d : DraftD} {j : Nat} {t : Tab} (h : j < d.links.length) (ht : tabP (nvs d) (d.links.getD j nilL) = t) : (d.links.map (tabP (nvs d))).take j ++ [t] = (d.links.map (tabP (nvs d))).take (j + 1) := by
 rw [← take_snoc (d := tabP (nvs d) nilL) (by simpa using h)]
 congr 2
 rw [← ht]
 rw [List.getD_eq_getElem?_getD, List.getD_eq_getElem?_getD, List.getElem?_map, List.getElem?_eq_getElem h]; rfl
theorem ofNo_fn (d : DraftD) (h : ofOK d = false) : FnSound Tryz.prog 21 [.val true (draftC d)] [] { vals := [(true, probC nilP), (false, [.d (.v (.bool false))])] } := by
 have h : ¬ (d.vs.length ≤ 3 ∧ d.links.length ≤ 4) := by
  intro ⟨a, b⟩
  simp [ofOK, a, b] at h
 by_cases h1 : (3 : Int) < d.vs.length
 ·have e : decide ((3 : Int) < d.vs.length) = true := decide_eq_true h1
  refine startW (tm := [(0, _)]) Tryz.func21 rfl Tryz.ntmps21 rfl rfl rfl rfl ?_
  repeat' (first
 |(with_reducible refine rgn 7 700 ?_ ?_); exact rfl
 |(with_reducible refine rgn 8 800 ?_ ?_); exact rfl
 |(with_reducible refine rgn 9 900 ?_ ?_); exact rfl
 |(with_reducible refine rgn 10 1000 ?_ ?_); exact rfl
 |(with_reducible refine rgn 6 1100 ?_ ?_); exact rfl
 |(with_reducible refine rgn 14 1400 ?_ ?_); exact rfl
 |(with_reducible refine rgn 15 1500 ?_ ?_); exact rfl
 |(with_reducible refine rgn 16 1600 ?_ ?_); exact rfl
 |(with_reducible refine rgn 17 1700 ?_ ?_); exact rfl
 |(with_reducible refine rgn 18 1800 ?_ ?_); exact rfl
 |(with_reducible refine rgn 19 1900 ?_ ?_); exact rfl
 |(with_reducible refine rgn 20 2000 ?_ ?_); exact rfl
 |(with_reducible refine rgn 13 2100 ?_ ?_); exact rfl
 |refine wA ?_
 |(refine wC ?_ ?_ <;> intro hc)
 |refine wB ?_ ?_
 |(with_reducible refine JL.block ?_)
 |(with_reducible refine F_at ?_); refine eW (vs := [(_, _), (_, _)]) Tryz.results21 ?_; (focus (repeat' (first | exact oA | refine oB ?_ | refine oC ?_ ?_ | fail)))
 |exact oM
 |fail)
  all_goals first | rfl | (exfalso; omega) | trace_state
 ·refine startW (tm := [(0, _)]) Tryz.func21 rfl Tryz.ntmps21 rfl rfl rfl rfl ?_
  repeat' (first
 |(with_reducible refine rgn 7 700 ?_ ?_); exact rfl
 |(with_reducible refine rgn 8 800 ?_ ?_); exact rfl
 |(with_reducible refine rgn 9 900 ?_ ?_); exact rfl
 |(with_reducible refine rgn 10 1000 ?_ ?_); exact rfl
 |(with_reducible refine rgn 6 1100 ?_ ?_); exact rfl
 |(with_reducible refine rgn 14 1400 ?_ ?_); exact rfl
 |(with_reducible refine rgn 15 1500 ?_ ?_); exact rfl
 |(with_reducible refine rgn 16 1600 ?_ ?_); exact rfl
 |(with_reducible refine rgn 17 1700 ?_ ?_); exact rfl
 |(with_reducible refine rgn 18 1800 ?_ ?_); exact rfl
 |(with_reducible refine rgn 19 1900 ?_ ?_); exact rfl
 |(with_reducible refine rgn 20 2000 ?_ ?_); exact rfl
 |(with_reducible refine rgn 13 2100 ?_ ?_); exact rfl
 |refine wA ?_
 |(refine wC ?_ ?_ <;> intro hc)
 |refine wB ?_ ?_
 |(with_reducible refine JL.block ?_)
 |(with_reducible refine F_at ?_); refine eW (vs := [(_, _), (_, _)]) Tryz.results21 ?_; (focus (repeat' (first | exact oA | refine oB ?_ | refine oC ?_ ?_ | fail)))
 |exact oM
 |fail)
  all_goals first | rfl | (exfalso; omega) | trace_state
theorem of_fn (d : DraftD) (hd : draftOK d) (h : ofOK d = true) : FnSound Tryz.prog 21 [.val true (draftC d)] [] { vals := [(true, probC (ofP d)), (false, [.d (.v (.bool true))])] } := by
 have ho : d.vs.length ≤ 3 ∧ d.links.length ≤ 4 := by simpa [ofOK] using h
 have hu := u8s_get hd.1
 have hu1 := u8s_get hd.2.1
 have hu2 := u8s_get hd.2.2.1
 have hnl := nvs_len (d := d)
 have e : ofP d = ⟨nvs d, modsP d.now d.vs d.vs.length, modsP d.tgt d.vs d.vs.length, if d.vs.length = 0 then [] else d.links.map (tabP (nvs d))⟩ := by unfold ofP; rw [if_pos h]
 rw [e]
 refine startW (tm := [(0, _)]) Tryz.func21 rfl Tryz.ntmps21 rfl rfl rfl rfl ?_
 repeat' (first
 |(with_reducible refine rgn 7 700 ?_ ?_); exact rfl
 |(with_reducible refine rgn 8 800 ?_ ?_); exact rfl
 |(with_reducible refine rgn 9 900 ?_ ?_); exact rfl
 |(with_reducible refine rgn 10 1000 ?_ ?_); exact rfl
 |(with_reducible refine rgn 6 1100 ?_ ?_); exact rfl
 |(with_reducible refine rgn 14 1400 ?_ ?_); exact rfl
 |(with_reducible refine rgn 15 1500 ?_ ?_); exact rfl
 |(with_reducible refine rgn 16 1600 ?_ ?_); exact rfl
 |(with_reducible refine rgn 17 1700 ?_ ?_); exact rfl
 |(with_reducible refine rgn 18 1800 ?_ ?_); exact rfl
 |(with_reducible refine rgn 19 1900 ?_ ?_); exact rfl
 |(with_reducible refine reg_at (id := 20) ?_); (try (refine JL.zeroBW (cs2 := [_, _, _, _, _, _]) (1280, 1500) 4 _ 144 1 rfl rfl rfl rfl ?_)); (try (refine JL.shutBW (cs2 := [_, _, _, _, _, _]) (1280, 1500) 4 rfl rfl rfl rfl ?_)); (try (refine JL.zeroBW (cs2 := [_, _, _, _, _, _]) (1280, 1500) 5 _ 144 1 rfl rfl rfl rfl ?_)); (try (refine JL.shutBW (cs2 := [_, _, _, _, _, _]) (1280, 1500) 5 rfl rfl rfl rfl ?_)); (with_reducible refine rgn 20 2000 ?_ ?_); exact rfl
 |(with_reducible refine rgn 13 2100 ?_ ?_); exact rfl
 |(with_reducible refine K_ca 39 ?_); (first
 |refine zC (code_fn d.now i hd.2.1 (by omega)) ?_
 |refine zC (code_fn d.tgt i hd.2.2.1 (by omega)) ?_)
 |(with_reducible refine K_ca 40 ?_); refine zC (stored0_fn (1 + (d.links.getD j nilL).kind.tmod 4) ((d.links.getD j nilL).frm.tmod ((nvs d).length : Int)) ((d.links.getD j nilL).tto.tmod ((nvs d).length : Int)) false) ?_
 |(with_reducible refine K_ca 41 ?_); (first
 |refine zC (bits_fn ((nvs d).getD ((d.links.getD j nilL).frm.tmod ((nvs d).length : Int)).toNat 0) ((nvs d).getD ((d.links.getD j nilL).tto.tmod ((nvs d).length : Int)).toNat 0) (d.links.getD j nilL).bad false (by omega) (by omega)) ?_
 |refine zC (bits_fn ((nvs d).getD ((d.links.getD j nilL).frm.tmod ((nvs d).length : Int)).toNat 0) ((nvs d).getD ((d.links.getD j nilL).frm.tmod ((nvs d).length : Int)).toNat 0) (d.links.getD j nilL).lost true (by omega) (by omega)) ?_)
 |(with_reducible refine blk_at (id := 0) ?_); (try (refine JL.zeroBW (cs2 := [_, _, _, _]) (0, 400) 0 _ 3 1 rfl rfl rfl rfl ?_)); (refine JL.rekBW (cs2 := [_, _, _, _]) (0, 400) 0 (1064, 551) rfl rfl rfl rfl rfl rfl ?_); (try (refine JL.zeroBW (cs2 := [_, _, _, _]) (0, 400) 1 _ 3 1 rfl rfl rfl rfl ?_)); (refine JL.rekBW (cs2 := [_, _, _, _]) (0, 400) 1 (1065, 553) rfl rfl rfl rfl rfl rfl ?_); (try (refine JL.zeroBW (cs2 := [_, _, _, _]) (0, 400) 2 _ 3 1 rfl rfl rfl rfl ?_)); (refine JL.rekBW (cs2 := [_, _, _, _]) (0, 400) 2 (1066, 555) rfl rfl rfl rfl rfl rfl ?_); ((with_reducible refine JL.loopW 0 599 (fun (i : Nat) tm => (5, .one false [.d (.v (.int .i64 ((i : Int))))]) :: tm) (fun (i : Nat) bo => ((0, 400), some (.st 32 [.own (1064, 551), .own (1065, 553), .own (1066, 555), .zero])) :: ((1064, 551), some (.sl 3 1 ((dInts ((nvs d).take i))))) :: ((1065, 553), some (.sl 3 1 ((dInts (modsP d.now d.vs i))))) :: ((1066, 555), some (.sl 3 1 ((dInts (modsP d.tgt d.vs i))))) :: bo) (fun (i : Nat) => i ≤ d.vs.length) (fun (i : Nat) => d.vs.length - i) (0) ?_ (fun i hi => have hx := hu i; have hy := tm_rng (x := d.vs.getD i 0) (n := 3) (hu i).1 (by decide); have hml1 := modsP_len (l := d.now) (vs := d.vs) (k := i); have hml2 := modsP_len (l := d.tgt) (vs := d.vs) (k := i); ?_) ?_); (focus (apply SubW [((1064, 551), _), ((1065, 553), _), ((1066, 555), _)] rfl ?_ ?_ rfl ?_; (repeat' (first | (with_reducible (first | exact chkT_nil | exact chkB_nil | refine chkB_none ?_ | exact avTo_dead | refine avTo_w ?_ | exact avTo_un | exact cellsTo_nl | refine cellsTo_cn ?_ ?_ | exact cellTo_same | exact cellTo_zz | refine boxTo_stw ?_ | refine boxTo_slw ?_ | refine boxTo_fzw ?_)) | ((with_reducible refine T_at ?_); (first | refine chkT_skip rfl ?_ | refine chkT_cons rfl ?_ rfl ?_)) | ((with_reducible refine B_at ?_); (first | refine chkB_skip rfl ?_ | refine chkB_cons rfl ?_ rfl rfl ?_)) | ((with_reducible refine avTo_tup ?_); (focus rfl)) | ((with_reducible refine CS_at ?_); (first | exact cellsTo_same rfl | refine cellsTo_cn ?_ ?_)) | ((with_reducible refine CE_at ?_); (first | exact cellTo_ow rfl | exact cellTo_pt rfl | refine cellTo_int ?_ | refine cellTo_bool ?_ | refine cellTo_sl ?_ | refine cellTo_zd ?_ | refine cellTo_fz rfl ?_ | exact cellTo_rn rfl)) | (with_reducible rfl) | (refine ND.mk ?_; kernel_rfl))))))
 |((with_reducible refine round_next (i := i) (i + 1) ?_ ?_ ?_); (focus (apply SubW [((1064, 551), _), ((1065, 553), _), ((1066, 555), _)] rfl ?_ ?_ rfl ?_; (repeat' (first | (with_reducible (first | exact chkT_nil | exact chkB_nil | refine chkB_none ?_ | exact avTo_dead | refine avTo_w ?_ | exact avTo_un | exact cellsTo_nl | refine cellsTo_cn ?_ ?_ | exact cellTo_same | exact cellTo_zz | refine boxTo_stw ?_ | refine boxTo_slw ?_ | refine boxTo_fzw ?_)) | ((with_reducible refine T_at ?_); (first | refine chkT_skip rfl ?_ | refine chkT_cons rfl ?_ rfl ?_)) | ((with_reducible refine B_at ?_); (first | refine chkB_skip rfl ?_ | refine chkB_cons rfl ?_ rfl rfl ?_)) | ((with_reducible refine avTo_tup ?_); (focus rfl)) | ((with_reducible refine CS_at ?_); (first | exact cellsTo_same rfl | refine cellsTo_cn ?_ ?_)) | ((with_reducible refine CE_at ?_); (first | exact cellTo_ow rfl | exact cellTo_pt rfl | refine cellTo_int ?_ | refine cellTo_bool ?_ | refine cellTo_sl ?_ | refine cellTo_zd ?_ | refine cellTo_fz rfl ?_ | exact cellTo_rn rfl)) | (with_reducible rfl) | (refine ND.mk ?_; kernel_rfl))))))
 |(with_reducible refine blk_at (id := 2) ?_); (try (refine JL.zeroBW (cs2 := [_, _, _, _]) (0, 400) 0 _ 3 1 rfl rfl rfl rfl ?_)); (refine JL.rekBW (cs2 := [_, _, _, _]) (0, 400) 0 (1064, 1251) rfl rfl rfl rfl rfl rfl ?_); (try (refine JL.zeroBW (cs2 := [_, _, _, _]) (0, 400) 1 _ 3 1 rfl rfl rfl rfl ?_)); (refine JL.rekBW (cs2 := [_, _, _, _]) (0, 400) 1 (1065, 1253) rfl rfl rfl rfl rfl rfl ?_); (try (refine JL.zeroBW (cs2 := [_, _, _, _]) (0, 400) 2 _ 3 1 rfl rfl rfl rfl ?_)); (refine JL.rekBW (cs2 := [_, _, _, _]) (0, 400) 2 (1066, 1255) rfl rfl rfl rfl rfl rfl ?_); (try (refine JL.zeroBW (cs2 := [_, _, _, _]) (0, 400) 3 _ 106 6 rfl rfl rfl rfl ?_)); (refine JL.rekBW (cs2 := [_, _, _, _]) (0, 400) 3 (1067, 1257) rfl rfl rfl rfl rfl rfl ?_); ((with_reducible refine JL.loopW 2 1299 (fun (j : Nat) tm => (7, .one false [.d (.v (.int .i64 ((j : Int))))]) :: tm) (fun (j : Nat) bo => ((0, 400), some (.st 32 [.own (1064, 1251), .own (1065, 1253), .own (1066, 1255), .own (1067, 1257)])) :: ((1064, 1251), some (.sl 3 1 ((dInts (nvs d))))) :: ((1065, 1253), some (.sl 3 1 ((dInts (modsP d.now d.vs i))))) :: ((1066, 1255), some (.sl 3 1 ((dInts (modsP d.tgt d.vs i))))) :: ((1067, 1257), some (.sl 106 6 ((dTabs ((d.links.map (tabP (nvs d))).take j))))) :: bo) (fun (j : Nat) => j ≤ d.links.length ∧ (d.vs.length = 0 → j = 0)) (fun (j : Nat) => d.links.length - j) (0) ?_ (fun j hj => have hlk := fun hn => link_at hd j hn; have hvf := nvs_get hd ((d.links.getD j nilL).frm.tmod ((nvs d).length : Int)).toNat; have hvt := nvs_get hd ((d.links.getD j nilL).tto.tmod ((nvs d).length : Int)).toNat; ?_) ?_); (focus (apply SubW [((1064, 1251), _), ((1065, 1253), _), ((1066, 1255), _), ((1067, 1257), _)] rfl ?_ ?_ rfl ?_; (repeat' (first | (with_reducible (first | exact chkT_nil | exact chkB_nil | refine chkB_none ?_ | exact avTo_dead | refine avTo_w ?_ | exact avTo_un | exact cellsTo_nl | refine cellsTo_cn ?_ ?_ | exact cellTo_same | exact cellTo_zz | refine boxTo_stw ?_ | refine boxTo_slw ?_ | refine boxTo_fzw ?_)) | ((with_reducible refine T_at ?_); (first | refine chkT_skip rfl ?_ | refine chkT_cons rfl ?_ rfl ?_)) | ((with_reducible refine B_at ?_); (first | refine chkB_skip rfl ?_ | refine chkB_cons rfl ?_ rfl rfl ?_)) | ((with_reducible refine avTo_tup ?_); (focus rfl)) | ((with_reducible refine CS_at ?_); (first | exact cellsTo_same rfl | refine cellsTo_cn ?_ ?_)) | ((with_reducible refine CE_at ?_); (first | exact cellTo_ow rfl | exact cellTo_pt rfl | refine cellTo_int ?_ | refine cellTo_bool ?_ | refine cellTo_sl ?_ | refine cellTo_zd ?_ | refine cellTo_fz rfl ?_ | exact cellTo_rn rfl)) | (with_reducible rfl) | (refine ND.mk ?_; kernel_rfl))))))
 |((with_reducible refine round_next (i := j) (j + 1) ?_ ?_ ?_); (focus (apply SubW [((1064, 1251), _), ((1065, 1253), _), ((1066, 1255), _), ((1067, 1257), _)] rfl ?_ ?_ rfl ?_; (repeat' (first | (with_reducible (first | exact chkT_nil | exact chkB_nil | refine chkB_none ?_ | exact avTo_dead | refine avTo_w ?_ | exact avTo_un | exact cellsTo_nl | refine cellsTo_cn ?_ ?_ | exact cellTo_same | exact cellTo_zz | refine boxTo_stw ?_ | refine boxTo_slw ?_ | refine boxTo_fzw ?_)) | ((with_reducible refine T_at ?_); (first | refine chkT_skip rfl ?_ | refine chkT_cons rfl ?_ rfl ?_)) | ((with_reducible refine B_at ?_); (first | refine chkB_skip rfl ?_ | refine chkB_cons rfl ?_ rfl rfl ?_)) | ((with_reducible refine avTo_tup ?_); (focus rfl)) | ((with_reducible refine CS_at ?_); (first | exact cellsTo_same rfl | refine cellsTo_cn ?_ ?_)) | ((with_reducible refine CE_at ?_); (first | exact cellTo_ow rfl | exact cellTo_pt rfl | refine cellTo_int ?_ | refine cellTo_bool ?_ | refine cellTo_sl ?_ | refine cellTo_zd ?_ | refine cellTo_fz rfl ?_ | exact cellTo_rn rfl)) | (with_reducible rfl) | (refine ND.mk ?_; kernel_rfl))))))
 |refine wA ?_
 |(refine wC ?_ ?_ <;> intro hc)
 |refine wB ?_ ?_
 |(with_reducible refine JL.block ?_)
 |(with_reducible refine F_at ?_); refine eW (vs := [(_, _), (_, _)]) Tryz.results21 ?_; (focus (repeat' (first | exact oA | refine oB ?_ | refine oC ?_ ?_ | fail)))
 |exact oM
 |fail)
 all_goals first
  | rfl
  | (rw [nvs_step (by omega)])
  | (rw [modsP_step])
  | (rw [tabs_step (by omega) (tabP_eq (by grind) (by rw [if_pos hc]))])
  | exact (sTabs (x := ⟨_, _, _, _, _, []⟩)).trans (congrArg dTabs (tabs_step (by omega) (tabP_eq (by grind) (if_neg hc))))
  | exact (sTabs (x := ⟨_, _, _, _, _, []⟩)).trans (congrArg dTabs (tabs_step (by omega) (tabP_eq (aw_eq (by assumption)) (if_neg hc))))
  | (have e2 : i = d.vs.length := by omega
     rw [e2]; done)
  | (have e2 : d.vs.length = 0 := by omega
     have e3 : j = 0 := by omega
     simp only [e2, e3, if_true]; rfl)
  | (have e3 : j = d.links.length := by omega
     by_cases e2 : d.vs.length = 0
     ·have e4 := hj.2 e2
      simp only [e2, if_true]; rw [e4]; rfl
     ·simp only [e2, if_false]; rw [take_len (by simp; omega)])
  | exact ⟨by omega, fun _ => by omega⟩
  | (rw [take_len (by omega)])
  | trace_state
end Go.Proofs.YtngjhkgcfabciaaGreat

