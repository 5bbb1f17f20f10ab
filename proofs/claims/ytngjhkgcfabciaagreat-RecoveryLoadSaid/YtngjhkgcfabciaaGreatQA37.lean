/- Rules of runs and contracts of functions, for the claims of one seat. -/
import Derived.Test.YtngjhkgcfabciaaGreatQA13
import Derived.Test.YtngjhkgcfabciaaGreatQA15
import Derived.Test.YtngjhkgcfabciaaGreatQA16
import Derived.Test.YtngjhkgcfabciaaGreatQA18
import Derived.Test.YtngjhkgcfabciaaGreatQA22
import Derived.Test.YtngjhkgcfabciaaGreatQA36
namespace Go.Proofs.YtngjhkgcfabciaaGreat
open Go Go.RowKit
set_option maxRecDepth 100000
set_option maxHeartbeats 8000000
set_option linter.unusedSimpArgs false
set_option linter.unusedVariables false
theorem rframe_fn (s : ByteArray) (hs : s.size ≤ 1000000) : FnSound Tryz.prog 31 [.val false [.d (.v (.string s))]] [] { vals := [(false, [.d (.v (.string (frameP s).1))]), (false, [.d (.v (.int .i64 (frameP s).2))])] } := by
 have hp := rput_fn (s.size : Int) (by omega)
 have h4 := rcrc4_fn (extP 0 s) (extP_rng 0 s)
 have hl := putL_len (s.size : Int)
 have hz1 : (strOfNums (putL (s.size : Int))).size ≤ 10 := by rw [nums_size]; exact hl
 have hz2 : (strOfNums (be4 (extP 0 s))).size = 4 := by rw [nums_size]; rfl
 have hz3 : (strOfNums (putL (s.size : Int)) ++ strOfNums (be4 (extP 0 s))).size ≤ 14 := by rw [ByteArray.size_append]; omega
 refine startW (tm := [(0, _)]) Tryz.func31 rfl Tryz.ntmps31 rfl rfl rfl rfl ?_
 repeat' (first
 |(with_reducible refine K_ca 63 ?_); refine zC (hp) ?_
 |(with_reducible refine K_ca 65 ?_); refine zC (rcrc_fn s (by omega)) ?_
 |(with_reducible refine K_ca 64 ?_); refine zC (h4) ?_
 |refine wA ?_
 |(refine wC ?_ ?_ <;> intro hc)
 |refine wB ?_ ?_
 |(with_reducible refine JL.block ?_)
 |(with_reducible refine F_at ?_); refine eW (vs := [(_, _), (_, _)]) Tryz.results31 ?_; (focus (repeat' (first | exact oA | refine oB ?_ | refine oC ?_ ?_ | fail)))
 |exact oM
 |fail)
 all_goals first
  | (unfold frameP; rw [if_pos (by omega)]; done)
  | (unfold frameP; rw [if_neg (by omega)]; done)
  | rfl
  | (exfalso; omega)
  | trace_state
theorem runframe_fn (s : ByteArray) : FnSound Tryz.prog 35 [.val false [.d (.v (.string s))]] [] { vals := [(false, [.d (.v (.string (unframeP s).1))]), (false, [.d (.v (.int .i64 (unframeP s).2.1))]), (false, [.d (.v (.int .i64 (unframeP s).2.2))])] } := by
 have hg := getP_rng (s := s)
 have h4 := fun t => rcrc4_fn (extP 0 t) (extP_rng 0 t)
 have hx : (s.extract ((getP s).2.1 + 4).toNat ((getP s).2.1 + 4 + (getP s).1).toNat).size ≤ ((getP s).2.1 + 4 + (getP s).1).toNat - ((getP s).2.1 + 4).toNat := by rw [ByteArray.size_extract]; omega
 refine startW (tm := [(0, _)]) Tryz.func35 rfl Tryz.ntmps35 rfl rfl rfl rfl ?_
 repeat' (first
 |(with_reducible refine K_ca 68 ?_); refine zC (rget_fn s) ?_
 |(with_reducible refine K_ca 65 ?_); refine zC (rcrc_fn (s.extract ((getP s).2.1 + 4).toNat ((getP s).2.1 + 4 + (getP s).1).toNat) (by omega)) ?_
 |(with_reducible refine K_ca 64 ?_); refine zC (h4 (s.extract ((getP s).2.1 + 4).toNat ((getP s).2.1 + 4 + (getP s).1).toNat)) ?_
 |refine wA ?_
 |(refine wC ?_ ?_ <;> intro hc)
 |refine wB ?_ ?_
 |(with_reducible refine JL.block ?_)
 |(with_reducible refine F_at ?_); refine eW (vs := [(_, _), (_, _), (_, _)]) Tryz.results35 ?_; (focus (repeat' (first | exact oA | refine oB ?_ | refine oC ?_ ?_ | fail)))
 |exact oM
 |fail)
 all_goals first
  | (rw [uf_range (by omega)]; done)
  | (rw [uf_err (by omega) (by omega)]; done)
  | (rw [uf_short (by omega) (by omega) (by omega)]; done)
  | (rw [uf_torn (by omega) (by omega) (by omega) (fun e => hc ((be4_eqI (extP_rng _ _) (by omega) (by omega)).2 e))]; done)
  | (rw [uf_ok (by omega) (by omega) (by omega) ((be4_eqI (extP_rng _ _) (by omega) (by omega)).1 hc)]; done)
  | rfl
  | (exfalso; omega)
  | trace_state
theorem rvalid_fn (x : EntD) : FnSound Tryz.prog 30 [.val true [.d (.v (.int .i64 x.kind)), .d (.v (.int .i64 x.token)), .d (.v (.int .i64 x.idx)), .d (.v (.string x.data))]] [] { vals := [(false, [.d (.v (.bool (decide (validE x))))])] } := by
 refine startW (tm := [(0, _)]) Tryz.func30 rfl Tryz.ntmps30 rfl rfl rfl rfl ?_
 repeat' (first
 |refine wA ?_
 |(refine wC ?_ ?_ <;> intro hc)
 |refine wB ?_ ?_
 |(with_reducible refine JL.block ?_)
 |(with_reducible refine F_at ?_); refine eW (vs := [(_, _)]) Tryz.results30 ?_; (focus (repeat' (first | exact oA | refine oB ?_ | refine oC ?_ ?_ | fail)))
 |exact oM
 |fail)
 all_goals first | rfl | exact decide_eq_decide.2 ⟨fun h => ⟨by omega, by omega, h⟩, fun h => h.2.2⟩ | (symm; apply decide_eq_true; exact ⟨by omega, by omega, by omega⟩) | (symm; apply decide_eq_false; intro h; unfold validE at h; omega) | (exfalso; omega) | trace_state
theorem rformat_fn (x : EntD) (hx : x.data.size ≤ 1000) (hk : x.kind < 9223372036854775808 ∧ x.token < 9223372036854775808 ∧ x.idx < 9223372036854775808) : FnSound Tryz.prog 32 [.val true [.d (.v (.int .i64 x.kind)), .d (.v (.int .i64 x.token)), .d (.v (.int .i64 x.idx)), .d (.v (.string x.data))]] [] { vals := [(false, [.d (.v (.string (fmtP x)))])] } := by
 have hv := rvalid_fn x
 by_cases h : validE x
 ·rw [decide_eq_true h] at hv
  unfold validE at h
  have p1 := rput_fn x.kind (by omega)
  have p2 := rput_fn x.token (by omega)
  have p3 := rput_fn x.idx (by omega)
  have l1 : (strOfNums (putL x.kind)).size ≤ 10 := by rw [nums_size]; exact putL_len _
  have l2 : (strOfNums (putL x.token)).size ≤ 10 := by rw [nums_size]; exact putL_len _
  have l3 : (strOfNums (putL x.idx)).size ≤ 10 := by rw [nums_size]; exact putL_len _
  have l4 : (strOfNums (putL x.kind) ++ strOfNums (putL x.token)).size ≤ 20 := by rw [ByteArray.size_append]; omega
  have l5 : (strOfNums (putL x.kind) ++ strOfNums (putL x.token) ++ strOfNums (putL x.idx)).size ≤ 30 := by rw [ByteArray.size_append]; omega
  have e : fmtP x = strOfNums (putL x.kind) ++ strOfNums (putL x.token) ++ strOfNums (putL x.idx) ++ x.data := by unfold fmtP; rw [if_pos (by exact h)]
  rw [e]
  refine startW (tm := [(0, _)]) Tryz.func32 rfl Tryz.ntmps32 rfl rfl rfl rfl ?_
  repeat' (first
 |(with_reducible refine K_ca 30 ?_); refine zC (hv) ?_
 |(with_reducible refine K_ca 63 ?_); (first
 |refine zC (p1) ?_
 |refine zC (p2) ?_
 |refine zC (p3) ?_)
 |refine wA ?_
 |(refine wC ?_ ?_ <;> intro hc)
 |refine wB ?_ ?_
 |(with_reducible refine JL.block ?_)
 |(with_reducible refine F_at ?_); refine eW (vs := [(_, _)]) Tryz.results32 ?_; (focus (repeat' (first | exact oA | refine oB ?_ | refine oC ?_ ?_ | fail)))
 |exact oM
 |fail)
  all_goals first | rfl | (exfalso; omega) | trace_state
 ·rw [decide_eq_false h] at hv
  have e : fmtP x = ⟨#[]⟩ := by unfold fmtP; rw [if_neg h]
  rw [e]
  refine startW (tm := [(0, _)]) Tryz.func32 rfl Tryz.ntmps32 rfl rfl rfl rfl ?_
  repeat' (first
 |(with_reducible refine K_ca 30 ?_); refine zC (hv) ?_
 |refine wA ?_
 |(refine wC ?_ ?_ <;> intro hc)
 |refine wB ?_ ?_
 |(with_reducible refine JL.block ?_)
 |(with_reducible refine F_at ?_); refine eW (vs := [(_, _)]) Tryz.results32 ?_; (focus (repeat' (first | exact oA | refine oB ?_ | refine oC ?_ ?_ | fail)))
 |exact oM
 |fail)
  all_goals first | rfl | (exfalso; omega) | trace_state
theorem rapp_fn (log : ByteArray) (x : EntD) (hl : log.size ≤ 1000000) (hx : x.data.size ≤ 1000) (hk : x.kind < 9223372036854775808 ∧ x.token < 9223372036854775808 ∧ x.idx < 9223372036854775808) : FnSound Tryz.prog 15 [.val false [.d (.v (.string log))], .val true [.d (.v (.int .i64 x.kind)), .d (.v (.int .i64 x.token)), .d (.v (.int .i64 x.idx)), .d (.v (.string x.data))]] [] { vals := [(false, [.d (.v (.string (appP log x).1))]), (false, [.d (.v (.int .i64 (appP log x).2))])] } := by
 have hv := rvalid_fn x
 have hf := rformat_fn x hx hk
 have hs : (fmtP x).size ≤ 1100 := by
  unfold fmtP
  split
  ·rw [ByteArray.size_append, ByteArray.size_append, ByteArray.size_append, nums_size, nums_size, nums_size]
   have := putL_len x.kind; have := putL_len x.token; have := putL_len x.idx
   omega
  ·show 0 ≤ 1100; omega
 have hr := rframe_fn (fmtP x) (by omega)
 have hz := frame_size (s := fmtP x)
 by_cases h : validE x
 ·rw [decide_eq_true h] at hv
  refine startW (tm := [(0, _), (1, _)]) Tryz.func15 rfl Tryz.ntmps15 rfl rfl rfl rfl ?_
  repeat' (first
 |(with_reducible refine K_ca 30 ?_); refine zC (hv) ?_
 |(with_reducible refine K_ca 32 ?_); refine zC (hf) ?_
 |(with_reducible refine K_ca 31 ?_); refine zC (hr) ?_
 |refine wA ?_
 |(refine wC ?_ ?_ <;> intro hc)
 |refine wB ?_ ?_
 |(with_reducible refine JL.block ?_)
 |(with_reducible refine F_at ?_); refine eW (vs := [(_, _), (_, _)]) Tryz.results15 ?_; (focus (repeat' (first | exact oA | refine oB ?_ | refine oC ?_ ?_ | fail)))
 |exact oM
 |fail)
  all_goals first
   | (unfold appP; rw [if_neg (by simpa using h), if_pos (by omega)]; done)
   | (unfold appP; rw [if_neg (by simpa using h), if_neg (by omega)]; done)
   | rfl
   | (exfalso; omega)
   | trace_state
 ·rw [decide_eq_false h] at hv
  refine startW (tm := [(0, _), (1, _)]) Tryz.func15 rfl Tryz.ntmps15 rfl rfl rfl rfl ?_
  repeat' (first
 |(with_reducible refine K_ca 30 ?_); refine zC (hv) ?_
 |refine wA ?_
 |(refine wC ?_ ?_ <;> intro hc)
 |refine wB ?_ ?_
 |(with_reducible refine JL.block ?_)
 |(with_reducible refine F_at ?_); refine eW (vs := [(_, _), (_, _)]) Tryz.results15 ?_; (focus (repeat' (first | exact oA | refine oB ?_ | refine oC ?_ ?_ | fail)))
 |exact oM
 |fail)
  all_goals first
   | (unfold appP; rw [if_pos h]; done)
   | rfl
   | (exfalso; omega)
   | trace_state
def entI64 (x : EntD) : Prop := x.kind < 9223372036854775808 ∧ x.token < 9223372036854775808 ∧ x.idx < 9223372036854775808
theorem log_fn (l : List EntD) (hl : l.length ≤ 1000) (hb : ∀ k, (l.getD k nilE).data.size = 0) (hi : ∀ k, entI64 (l.getD k nilE)) : FnSound Tryz.prog 6 [.val false [.d (.sl 4 (dEnts l))]] [] { vals := [(false, [.d (.v (.string (logA l l.length).1))]), (false, [.d (.sl 1 (dInts (logA l l.length).2))])] } := by
 have hz := logA_size hb
 have hap : ∀ k, k ≤ l.length → FnSound Tryz.prog 15 [.val false [.d (.v (.string (logA l k).1))], .val true [.d (.v (.int .i64 (l.getD k nilE).kind)), .d (.v (.int .i64 (l.getD k nilE).token)), .d (.v (.int .i64 (l.getD k nilE).idx)), .d (.v (.string (l.getD k nilE).data))]] [] { vals := [(false, [.d (.v (.string (appP (logA l k).1 (l.getD k nilE)).1))]), (false, [.d (.v (.int .i64 (appP (logA l k).1 (l.getD k nilE)).2))])] } := fun k hk => rapp_fn _ _ (by have := (hz k).1; omega) (by rw [hb k]; omega) (hi k)
 have ey : ∀ k, (appP (logA l k).1 (l.getD k nilE)).2 = 0 → logA l (k + 1) = ((appP (logA l k).1 (l.getD k nilE)).1, (logA l k).2 ++ [((appP (logA l k).1 (l.getD k nilE)).1.size : Int)]) := fun k h => by
  show (if _ then _ else _) = _
  rw [if_pos h]
 have en : ∀ k, ¬ (appP (logA l k).1 (l.getD k nilE)).2 = 0 → logA l (k + 1) = logA l k := fun k h => by
  show (if _ then _ else _) = _
  rw [if_neg h]
 refine startW (tm := [(0, _)]) Tryz.func6 rfl Tryz.ntmps6 rfl rfl rfl rfl ?_
 repeat' (first
 |(with_reducible refine rgn 6 600 ?_ ?_); exact rfl
 |(with_reducible refine rgn 7 700 ?_ ?_); exact rfl
 |(with_reducible refine rgn 8 800 ?_ ?_); exact rfl
 |(with_reducible refine rgn 9 900 ?_ ?_); exact rfl
 |(with_reducible refine rgn 5 1000 ?_ ?_); exact rfl
 |(with_reducible refine K_ca 15 ?_); refine zC (hap k (by omega)) ?_
 |(with_reducible refine blk_at (id := 0) ?_); (try (refine JL.zeroW 5 _ 3 1 rfl rfl ?_)); (refine JL.rekW 5 (1080, 451) rfl rfl rfl rfl ?_); ((with_reducible refine JL.loopW 0 499 (fun (k : Nat) tm => (6, .one false [.d (.v (.int .i64 ((k : Int))))]) :: (4, .one false [.d (.v (.string ((logA l k).1)))]) :: (5, .one false [.own (1080, 451)]) :: tm) (fun (k : Nat) bo => ((1080, 451), some (.sl 3 1 ((dInts (logA l k).2)))) :: bo) (fun (k : Nat) => k ≤ l.length) (fun (k : Nat) => l.length - k) (0) ?_ (fun k hk => have hz1 := hz k; ?_) ?_); (focus (apply SubW [((1080, 451), _)] rfl ?_ ?_ rfl ?_; (repeat' (first | exact kA | refine kB ?_ | refine kC ?_ ?_ | exact kD | fail)))))
 |((with_reducible refine round_next (i := k) (k + 1) ?_ ?_ ?_); (focus (apply SubW [((1080, 451), _)] rfl ?_ ?_ rfl ?_; (repeat' (first | exact kA | refine kB ?_ | refine kC ?_ ?_ | exact kD | fail)))))
 |refine wA ?_
 |(refine wC ?_ ?_ <;> intro hc)
 |refine wB ?_ ?_
 |(with_reducible refine JL.block ?_)
 |(with_reducible refine F_at ?_); refine eW (vs := [(_, _), (_, _)]) Tryz.results6 ?_; (focus (repeat' (first | exact oA | refine oB ?_ | refine oC ?_ ?_ | fail)))
 |exact oM
 |fail)
 all_goals first
  | rfl
  | (exfalso; omega)
  | (rw [ey k (by omega)]; done)
  | (rw [en k (by omega)]; done)
  | (have e : k = l.length := by omega
     rw [e]; done)
  | trace_state
theorem rparse_fn (s : ByteArray) : FnSound Tryz.prog 36 [.val false [.d (.v (.string s))]] [] { vals := [(true, [.d (.v (.int .i64 (parseP s).1.kind)), .d (.v (.int .i64 (parseP s).1.token)), .d (.v (.int .i64 (parseP s).1.idx)), .d (.v (.string (parseP s).1.data))]), (false, [.d (.v (.int .i64 (parseP s).2))])] } := by
 have hA := Tryz.underlying138
 have hZ : sizeT Tryz.prog 2 = some 1 := by kernel_rfl
 obtain ⟨r, g, hg, h0, hn, hno, hyes⟩ := parse_gen s
 have hget : ∀ j, FnSound Tryz.prog 68 [.val false [.d (.v (.string (r j)))]] [] { vals := [(false, [.d (.v (.int .u64 (g j).1))]), (false, [.d (.v (.int .i64 (g j).2.1))]), (false, [.d (.v (.int .i64 (g j).2.2))])] } := fun j => by rw [hg j]; exact rget_fn (r j)
 have hrg : ∀ j, (g j).2.2 = 0 → 0 < (g j).2.1 ∧ (g j).2.1 ≤ (r j).size ∧ 0 ≤ (g j).1 ∧ (g j).1 < 18446744073709551616 ∧ (g j).2.1 ≤ 10 := fun j => by rw [hg j]; exact getP_rng
 clear hg
 generalize parseP s = q at hno hyes ⊢
 subst h0
 refine startW (tm := [(0, _)]) Tryz.func36 rfl Tryz.ntmps36 rfl rfl rfl rfl ?_
 repeat' (first
 |(with_reducible refine rgn 5 500 ?_ ?_); exact rfl
 |(with_reducible refine rgn 6 600 ?_ ?_); exact rfl
 |(with_reducible refine rgn 7 700 ?_ ?_); exact rfl
 |(with_reducible refine rgn 8 800 ?_ ?_); exact rfl
 |(with_reducible refine rgn 9 900 ?_ ?_); exact rfl
 |(with_reducible refine rgn 4 1000 ?_ ?_); exact rfl
 |(with_reducible refine K_ca 68 ?_); (first
 |refine zC (hget 0) ?_
 |refine zC (hget 1) ?_
 |refine zC (hget 2) ?_)
 |(with_reducible refine W_at ?_); (first
 |(rcases hi3 with rfl | rfl | rfl | rfl)
 |(refine W.idxA rfl hA hZ rfl rfl ⟨by decide, by decide⟩ ?_))
 |(with_reducible refine blk_at (id := 0) ?_); ((with_reducible refine JL.loopW 0 399 (fun (i : Nat) tm => (5, .one false [.d (.v (.int .i64 ((i : Int))))]) :: (0, .one false [.d (.v (.string ((r i))))]) :: tm) (fun (i : Nat) bo => ((0, 200), some (.st 138 [.d (.v (.int .i64 ((numQ g i 0)))), .d (.v (.int .i64 ((numQ g i 1)))), .d (.v (.int .i64 ((numQ g i 2))))])) :: bo) (fun (i : Nat) => i ≤ 3 ∧ ∀ j, j < i → okG g j) (fun (i : Nat) => 3 - i) (0) ?_ (fun i hi => have g0 := hrg 0; have g1 := hrg 1; have g2 := hrg 2; have hi3 : i = 0 ∨ i = 1 ∨ i = 2 ∨ i = 3 := (by omega); ?_) ?_); (focus (apply SubW [] rfl ?_ ?_ rfl ?_; (repeat' (first | exact kA | refine kB ?_ | refine kC ?_ ?_ | exact kD | fail)))))
 |((with_reducible refine round_next (i := i) (i + 1) ?_ ?_ ?_); (focus (apply SubW [] rfl ?_ ?_ rfl ?_; (repeat' (first | exact kA | refine kB ?_ | refine kC ?_ ?_ | exact kD | fail)))))
 |((with_reducible refine round_next (i := 0) (1) ?_ ?_ ?_); (focus (apply SubW [] rfl ?_ ?_ rfl ?_; (repeat' (first | exact kA | refine kB ?_ | refine kC ?_ ?_ | exact kD | fail)))))
 |((with_reducible refine round_next (i := 1) (2) ?_ ?_ ?_); (focus (apply SubW [] rfl ?_ ?_ rfl ?_; (repeat' (first | exact kA | refine kB ?_ | refine kC ?_ ?_ | exact kD | fail)))))
 |((with_reducible refine round_next (i := 2) (3) ?_ ?_ ?_); (focus (apply SubW [] rfl ?_ ?_ rfl ?_; (repeat' (first | exact kA | refine kB ?_ | refine kC ?_ ?_ | exact kD | fail)))))
 |refine wA ?_
 |(refine wC ?_ ?_ <;> intro hc)
 |refine wB ?_ ?_
 |(with_reducible refine JL.block ?_)
 |(with_reducible refine F_at ?_); refine eW (vs := [(_, _), (_, _)]) Tryz.results36 ?_; (focus (repeat' (first | exact oA | refine oB ?_ | refine oC ?_ ?_ | fail)))
 |exact oM
 |fail)
 all_goals first
  | exact hn _
  | exact ⟨Nat.zero_le _, fun j hj => absurd hj (Nat.not_lt_zero j)⟩
  | (rw [hno 0 (by omega) (fun e => by unfold okG at e; omega)] <;> rfl)
  | (rw [hno 1 (by omega) (fun e => by unfold okG at e; omega)] <;> rfl)
  | (rw [hno 2 (by omega) (fun e => by unfold okG at e; omega)] <;> rfl)
  | (rw [hyes hi.2] <;> rfl)
  | (rw [hyes hi.2]; exact numQ_y (by decide))
  | exact ⟨by omega, okG_step hi.2 (by omega) (by omega)⟩
  | trace_state
theorem rread_fn (s : ByteArray) (hs : s.size ≤ 1000000) : FnSound Tryz.prog 17 [.val false [.d (.v (.string s))]] [] { vals := [(false, [.d (.sl 4 (dEnts (readP s).1))]), (false, [.d (.v (.int .i64 (readP s).2.1))]), (false, [.d (.v (.int .i64 (readP s).2.2))])] } := by
 refine startW (tm := [(0, _)]) Tryz.func17 rfl Tryz.ntmps17 rfl rfl rfl rfl ?_
 repeat' (first
 |(with_reducible refine K_ca 35 ?_); refine zC (runframe_fn (s.extract y.2.1 s.size)) ?_
 |(with_reducible refine K_ca 36 ?_); refine zC (rparse_fn (unframeP (s.extract y.2.1 s.size)).1) ?_
 |(with_reducible refine blk_at (id := 0) ?_); (try (refine JL.zeroW 5 _ 62 4 rfl rfl ?_)); (refine JL.rekW 5 (1080, 351) rfl rfl rfl rfl ?_); ((with_reducible refine JL.loopW 0 399 (fun (y : Nat × Nat × List EntD) tm => (6, .one false [.d (.v (.int .i64 ((y.2.1 : Int))))]) :: (5, .one false [.own (1080, 351)]) :: tm) (fun (y : Nat × Nat × List EntD) bo => ((1080, 351), some (.sl 62 4 ((dEnts y.2.2)))) :: bo) (fun (y : Nat × Nat × List EntD) => ReadK s y) (fun (y : Nat × Nat × List EntD) => s.size - y.1) ((0, 0, [])) ?_ (fun y hy => have h1 := hy.k; have h2 := hy.a; have h3 := hy.n; have h4 := unframe_rng (s := s.extract y.2.1 s.size); have h5 := ext_size (s := s) (a := y.2.1) (b := s.size) ⟨hy.a, Nat.le_refl _⟩; ?_) ?_); (focus (apply SubW [((1080, 351), _)] rfl ?_ ?_ rfl ?_; (repeat' (first | exact kA | refine kB ?_ | refine kC ?_ ?_ | exact kD | fail)))))
 |((with_reducible refine round_next (i := y) (readN s y) ?_ ?_ ?_); (focus (apply SubW [((1080, 351), _)] rfl ?_ ?_ rfl ?_; (repeat' (first | exact kA | refine kB ?_ | refine kC ?_ ?_ | exact kD | fail)))))
 |refine wA ?_
 |(refine wC ?_ ?_ <;> intro hc)
 |refine wB ?_ ?_
 |(with_reducible refine JL.block ?_)
 |(with_reducible refine F_at ?_); refine eW (vs := [(_, _), (_, _), (_, _)]) Tryz.results17 ?_; (focus (repeat' (first | exact oA | refine oB ?_ | refine oC ?_ ?_ | fail)))
 |exact oM
 |fail)
 all_goals first
  | exact readK_0 s
  | exact readK_next hy (by omega) (by omega) (by omega)
  | (rw [readK_end hy (by omega)]; done)
  | (rw [readK_bad hy (by omega) (by omega)]; done)
  | (rw [readK_torn hy (by omega) (by omega) (by omega)]; done)
  | rfl
  | (dsimp only [readN]; omega)
  | (exfalso; omega)
  | trace_state
theorem rload_fn (p : Prob) (rs : List Int) (l : List StepD) (s : ByteArray) (hs : setErr p rs = 0) (hc0 : checkP p l = true) (hl : l.length ≤ 1000000) (hz : s.size ≤ 6000) : FnSound Tryz.prog 8 [.val true (probC p), .val false [.d (.sl 1 (dInts rs))], .val false [.d (.sl 3 (dSteps l))], .val false [.d (.v (.string s))]] [] { vals := [(true, ctlC (loadP p rs l s).1), (false, [.d (.v (.int .i64 (loadP p rs l s).2.1))]), (false, [.d (.v (.int .i64 (loadP p rs l s).2.2))])] } := by
 have hf := readP_few s
 have hr := replay_fn p rs l (readP s).1 hs hc0 hl (by omega)
 by_cases h0 : (replayP p rs l (readP s).1).2 = 0
 ·have e : loadP p rs l s = ((replayP p rs l (readP s).1).1, (readP s).2.1, 0) := by unfold loadP; rw [if_neg (by simpa using h0)]
  rw [e]
  refine startW (tm := [(0, _), (1, _), (2, _), (3, _)]) Tryz.func8 rfl Tryz.ntmps8 rfl rfl rfl rfl ?_
  repeat' (first
 |(with_reducible refine K_ca 17 ?_); refine zC (rread_fn s (by omega)) ?_
 |(with_reducible refine K_ca 18 ?_); refine zC (hr) ?_
 |refine wA ?_
 |(refine wC ?_ ?_ <;> intro hc)
 |refine wB ?_ ?_
 |(with_reducible refine JL.block ?_)
 |(with_reducible refine F_at ?_); refine eW (vs := [(_, _), (_, _), (_, _)]) Tryz.results8 ?_; (focus (repeat' (first | exact oA | refine oB ?_ | refine oC ?_ ?_ | fail)))
 |exact oM
 |fail)
  all_goals first | rfl | (exfalso; omega) | trace_state
 ·have e : loadP p rs l s = (nilCtl, 0, (replayP p rs l (readP s).1).2) := by unfold loadP; rw [if_pos h0]
  rw [e]
  refine startW (tm := [(0, _), (1, _), (2, _), (3, _)]) Tryz.func8 rfl Tryz.ntmps8 rfl rfl rfl rfl ?_
  repeat' (first
 |(with_reducible refine K_ca 17 ?_); refine zC (rread_fn s (by omega)) ?_
 |(with_reducible refine K_ca 18 ?_); refine zC (hr) ?_
 |refine wA ?_
 |(refine wC ?_ ?_ <;> intro hc)
 |refine wB ?_ ?_
 |(with_reducible refine JL.block ?_)
 |(with_reducible refine F_at ?_); refine eW (vs := [(_, _), (_, _), (_, _)]) Tryz.results8 ?_; (focus (repeat' (first | exact oA | refine oB ?_ | refine oC ?_ ?_ | fail)))
 |exact oM
 |fail)
  all_goals first | rfl | (exfalso; omega) | trace_state
end Go.Proofs.YtngjhkgcfabciaaGreat

namespace Go.Proofs.YtngjhkgcfabciaaGreat
open Go Go.RowKit
set_option linter.unusedSimpArgs false
set_option linter.unusedVariables false
section
variable {P : Program} {lend : FuncId → Bool} {N : Nat} {ops : Array Oper} {dr : Bool} {cs : List Code} {R : AX → St → Prop} {i : Nat} {os : List Oper} {tm : List (Nat × AV)} {bo : BO} {nx : Nat} {ns : List Note} {d : Nat} {pos : String} {ty : TypeId} {af : Array Edge}
theorem W.mkfn {g : FuncId} {cap : Array Operand} {cps : List Cap} (hd : Nat.blt d N = true) (he : effMakeFunc (.func g) [] cap.toList (onlyT ⟨some d, .makeFunc (.func g) #[] cap, ty, pos, af, none⟩ (lk tm)) = some { av := .one false [.fn g cps] })
    (h : W P lend N ops dr cs R (i + 1) os ((d, .one false [.fn g cps]) :: tm) bo nx (ns ++ [⟨opKeys (lk tm) (lko bo) ⟨some d, .makeFunc (.func g) #[] cap, ty, pos, af, none⟩, []⟩])) : W P lend N ops dr cs R i (⟨some d, .makeFunc (.func g) #[] cap, ty, pos, af, none⟩ :: os) tm bo nx ns :=
 W.eff (call := fun _ _ _ => none) (fun _ _ _ _ h => by cases h) rfl (fun k hk => by cases hk; exact Nat.le_of_ble_eq_true hd) he (updT_cons _ _ _) (updB_0 bo) h
theorem W.callC {f : Operand} {g : FuncId} {args : Array Operand} {tyq : Array TypeId} {xs : List (Bool × List C)} {caps cz : List C} {z : List Key} {c0 : C} {b : Bool} {cr : List C} (hd : Nat.blt d N = true) (hbod : BoI P g) (hcal : calleeOf (onlyT ⟨some d, .call ⟨.value f, args, tyq⟩, ty, pos, af, none⟩ (lk tm)) f = some (g, c0 :: caps))
    (ha : argsOf (onlyT ⟨some d, .call ⟨.value f, args, tyq⟩, ty, pos, af, none⟩ (lk tm)) (onlyB (opKeys (lk tm) (lko bo) ⟨some d, .call ⟨.value f, args, tyq⟩, ty, pos, af, none⟩) (lko bo)) true args.toList = some (xs, []))
    (hz : argVals (onlyB (opKeys (lk tm) (lko bo) ⟨some d, .call ⟨.value f, args, tyq⟩, ty, pos, af, none⟩) (lko bo)) true (c0 :: caps) = some (cz, z))
    (hK : FnSound P g ((xs ++ cz.map fun c => (false, [c])).map fun y => Arg.val y.1 y.2) [] { vals := [(b, cr)] })
    (hr : resOk { vals := [(b, cr)] } true = true) (hcl : ARes.closed { vals := [(b, cr)] } = true)
    (h : W P lend N ops dr cs R (i + 1) os ((d, .one b cr) :: tm) bo nx (ns ++ [⟨opKeys (lk tm) (lko bo) ⟨some d, .call ⟨.value f, args, tyq⟩, ty, pos, af, none⟩, []⟩])) : W P lend N ops dr cs R i (⟨some d, .call ⟨.value f, args, tyq⟩, ty, pos, af, none⟩ :: os) tm bo nx ns := by
 obtain ⟨hbod⟩ := hbod
 refine W.eff (call := oneCall g ((xs ++ cz.map fun c => (false, [c])).map fun y => Arg.val y.1 y.2) { vals := [(b, cr)] }) (oneCall_ok hK) rfl (fun k hk => by cases hk; exact Nat.le_of_ble_eq_true hd) ?_ (updT_cons _ _ _) (updB_0 bo) h
 simp only [effOf]
 unfold effCall
 simp only [hcal, List.isEmpty_cons, Bool.not_false, Bool.or_true, ha, hz]
 rw [if_pos hbod]
 unfold effVal
 have h5 : oneCall g ((xs ++ cz.map fun c => (false, [c])).map fun y => Arg.val y.1 y.2) { vals := [(b, cr)] } g ((xs ++ cz.map fun c => (false, [c])).map fun x => Arg.val x.1 x.2) [] = some { vals := [(b, cr)] } := by
  unfold oneCall; simp
 have hk : renK (keyAt i nx) [] 0 = fun q => q := by funext q; rfl
 simp only [resOk, Bool.and_eq_true, Bool.or_eq_true, Bool.not_eq_true', List.isEmpty_iff] at hr
 have hsc : ARes.scalars { vals := [(b, cr)] } = true := by
  have := hr.2.resolve_left (by decide)
  simp only [ARes.scalars, List.isEmpty_nil, Bool.true_and]; exact this
 simp only [h5]
 rw [if_pos ⟨rfl, by simp, .inr hsc, hcl, rfl, rfl⟩]
 simp only [hk, resAV_vals, takeBx, List.nil_append, shut, List.filter_nil, List.filterMap_nil]
 rfl
end
end Go.Proofs.YtngjhkgcfabciaaGreat

namespace Go.Proofs.YtngjhkgcfabciaaGreat
open Go Go.RowKit
set_option maxRecDepth 100000
set_option maxHeartbeats 8000000
set_option linter.unusedSimpArgs false
set_option linter.unusedVariables false
theorem pwithin_fn (i n : Int) : FnSound Tryz.prog 106 [.val false [.d (.v (.int .i64 i))], .val false [.d (.v (.int .i64 n))]] [] { vals := [(false, [.d (.v (.bool (withinB i n)))])] } := by
 refine startW (tm := [(0, _), (1, _)]) Tryz.func106 rfl Tryz.ntmps106 rfl rfl rfl rfl ?_
 repeat' (first
 |refine wA ?_
 |(refine wC ?_ ?_ <;> intro hc)
 |refine wB ?_ ?_
 |(with_reducible refine JL.block ?_)
 |(with_reducible refine F_at ?_); refine eW (vs := [(_, _)]) Tryz.results106 ?_; (focus (repeat' (first | exact oA | refine oB ?_ | refine oC ?_ ?_ | fail)))
 |exact oM
 |fail)
 all_goals (unfold withinB; first | (exact (decide_eq_false (by omega)).symm) | (simp; omega) | grind | trace_state)
theorem pkind_fn (k : Int) (a : Bool) : FnSound Tryz.prog 117 [.val false [.d (.v (.int .i64 k))], .val false [.d (.v (.bool a))]] [] { vals := [(false, [.d (.v (.bool (kindOK k a)))])] } := by
 refine startW (tm := [(0, _), (1, _)]) Tryz.func117 rfl Tryz.ntmps117 rfl rfl rfl rfl ?_
 repeat' (first
 |refine wA ?_
 |(refine wC ?_ ?_ <;> intro hc)
 |refine wB ?_ ?_
 |(with_reducible refine JL.block ?_)
 |(with_reducible refine F_at ?_); refine eW (vs := [(_, _)]) Tryz.results117 ?_; (focus (repeat' (first | exact oA | refine oB ?_ | refine oC ?_ ?_ | fail)))
 |exact oM
 |fail)
 all_goals (unfold kindOK; cases a <;> first | (exact (decide_eq_false (by simp; omega)).symm) | (exact (decide_eq_true (by simp; omega)).symm) | grind | trace_state)
theorem mat1_fn (r : List Bool) (n : Int) : FnSound Tryz.prog 130 [.val false [.d (.sl 1 (dBools r))], .val false [.rptr [.v (.int .i64 n)] 0]] [] { vals := [(false, [.d (.v (.bool (decide (¬ (r.length : Int) = n))))])] } := by
 refine startW (tm := [(0, _), (1, _)]) Tryz.func130 rfl Tryz.ntmps130 rfl rfl rfl rfl ?_
 repeat' (first
 |refine wA ?_
 |(refine wC ?_ ?_ <;> intro hc)
 |refine wB ?_ ?_
 |(with_reducible refine JL.block ?_)
 |(with_reducible refine F_at ?_); refine eW (vs := [(_, _)]) Tryz.results130 ?_; (focus (repeat' (first | exact oA | refine oB ?_ | refine oC ?_ ?_ | fail)))
 |exact oM
 |fail)
 all_goals first | rfl | trace_state
theorem bo_m1 : BoI Tryz.prog 130 := ⟨by kernel_rfl⟩
def badFrom (n : Int) : List (List Bool) → Nat → Int
 | [], _ => -1
 | r :: t, i => if ¬ (r.length : Int) = n then (i : Int) else badFrom n t (i + 1)
theorem bad_any {n : Int} : ∀ {l : List (List Bool)} {i : Nat}, decide (0 ≤ badFrom n l i) = !sqRows l n
 | [], _ => rfl
 | r :: t, i => by
  unfold badFrom sqRows
  rw [List.all_cons]
  by_cases h : (r.length : Int) = n
  ·rw [if_neg (fun a => a h), bad_any (l := t)]
   simp [h, sqRows]
  ·rw [if_pos h]
   simp [h]
theorem dropM_cons {l : List (List Bool)} {k : Nat} (h : k < l.length) : l.drop k = l.getD k [] :: l.drop (k + 1) := by
 rw [List.drop_eq_getElem_cons h, List.getD_eq_getElem?_getD, List.getElem?_eq_getElem h]; rfl
theorem idxM_fn (l : List (List Bool)) (n : Int) (hl : l.length ≤ 1000000) : FnSound Tryz.prog 135 [.val false [.d (.sl 1 (dMat l))], .val false [.fn 130 [.rptr [.v (.int .i64 n)] 0]]] [] { vals := [(false, [.d (.v (.int .i64 (badFrom n l 0)))])] } := by
 refine startW (tm := [(0, _), (1, _)]) Tryz.func135 rfl Tryz.ntmps135 rfl rfl rfl rfl ?_
 repeat' (first
 |(with_reducible refine W_at ?_); (first
 |(refine W.callC rfl bo_m1 rfl rfl rfl (mat1_fn (l.getD k []) n) rfl rfl ?_))
 |(with_reducible refine blk_at (id := 0) ?_); ((with_reducible refine JL.loopW 0 299 (fun (k : Nat) tm => (8, .one false [.d (.v (.int .i64 ((k : Int))))]) :: tm) (fun (k : Nat) bo => bo) (fun (k : Nat) => k ≤ l.length ∧ badFrom n (l.drop k) k = badFrom n l 0) (fun (k : Nat) => l.length - k) (0) ?_ (fun k hk => ?_) ?_); (focus (apply SubW [] rfl ?_ ?_ rfl ?_; (repeat' (first | exact kA | refine kB ?_ | refine kC ?_ ?_ | exact kD | fail)))))
 |((with_reducible refine round_next (i := k) (k + 1) ?_ ?_ ?_); (focus (apply SubW [] rfl ?_ ?_ rfl ?_; (repeat' (first | exact kA | refine kB ?_ | refine kC ?_ ?_ | exact kD | fail)))))
 |refine wA ?_
 |(refine wC ?_ ?_ <;> intro hc)
 |refine wB ?_ ?_
 |(with_reducible refine JL.block ?_)
 |(with_reducible refine F_at ?_); refine eW (vs := [(_, _)]) Tryz.results135 ?_; (focus (repeat' (first | exact oA | refine oB ?_ | refine oC ?_ ?_ | fail)))
 |exact oM
 |fail)
 all_goals first
  | exact ⟨Nat.zero_le _, rfl⟩
  | (rw [← hk.2, dropM_cons (by omega)]; unfold badFrom; rw [if_pos hc]; done)
  | (refine ⟨by omega, ?_⟩; rw [← hk.2, dropM_cons (k := k) (by omega)]; conv => rhs; unfold badFrom
     rw [if_neg (fun a => a hc)]; done)
  | (rw [← hk.2, List.drop_eq_nil_of_le (by omega)]; rfl)
  | trace_state
theorem conM_fn (l : List (List Bool)) (n : Int) (hl : l.length ≤ 1000000) : FnSound Tryz.prog 129 [.val false [.d (.sl 1 (dMat l))], .val false [.fn 130 [.rptr [.v (.int .i64 n)] 0]]] [] { vals := [(false, [.d (.v (.bool (!sqRows l n)))])] } := by
 rw [← bad_any (i := 0)]
 refine startW (tm := [(0, _), (1, _)]) Tryz.func129 rfl Tryz.ntmps129 rfl rfl rfl rfl ?_
 repeat' (first
 |(with_reducible refine K_ca 135 ?_); refine zC (idxM_fn l n hl) ?_
 |refine wA ?_
 |(refine wC ?_ ?_ <;> intro hc)
 |refine wB ?_ ?_
 |(with_reducible refine JL.block ?_)
 |(with_reducible refine F_at ?_); refine eW (vs := [(_, _)]) Tryz.results129 ?_; (focus (repeat' (first | exact oA | refine oB ?_ | refine oC ?_ ?_ | fail)))
 |exact oM
 |fail)
 all_goals first | rfl | trace_state
theorem pmat_fn (l : List (List Bool)) (n m : Int) (hn : n ≤ 6) : FnSound Tryz.prog 118 [.val false [.d (.sl 1 (dMat l))], .val false [.d (.v (.int .i64 n))], .val false [.d (.v (.int .i64 m))]] [] { vals := [(false, [.d (.v (.bool (sq l n m)))])] } := by
 refine startW (tm := [(0, _), (1, _), (2, _)]) Tryz.func118 rfl Tryz.ntmps118 rfl rfl rfl rfl ?_
 repeat' (first
 |(with_reducible refine rgL (fun g => g == 129) ?_ ?_); exact rfl
 |(with_reducible refine K_ca 129 ?_); refine zC (conM_fn l m (by omega)) ?_
 |(with_reducible refine W_at ?_); (first
 |(refine W.mkfn rfl rfl ?_))
 |refine wA ?_
 |(refine wC ?_ ?_ <;> intro hc)
 |refine wB ?_ ?_
 |(with_reducible refine JL.block ?_)
 |(with_reducible refine F_at ?_); refine eW (vs := [(_, _)]) Tryz.results118 ?_; (focus (repeat' (first | exact oA | refine oB ?_ | refine oC ?_ ?_ | fail)))
 |exact oM
 |fail)
 all_goals (unfold sq; first | (rw [beq_iff_eq.2 hc]; simp; done) | (rw [beq_eq_false_iff_ne.2 hc]; rfl) | (simp_all; done) | trace_state)
theorem ptab_fn (p : Prob) (t : Tab) (hv : ∀ k, p.vs.getD k 0 ≤ 6) (hl : p.vs.length ≤ 6) : FnSound Tryz.prog 107 [.val true (probC p), .val true (tabC t)] [] { vals := [(false, [.d (.v (.int .i64 (tabErr p.vs t)))])] } := by
 have v1 := hv t.frm.toNat
 have v2 := hv t.tto.toNat
 have d0 := diag_nil (l := t.rw)
 have d1 : ∀ k : Nat, k < t.rw.length → (t.rw.getD k []).getD k false = false → diagFrom t.rw 0 = false := fun k h1 h2 => diag_at h1 (by rw [Nat.zero_add]; exact h2)
 have d2 : ∀ k : Nat, (∀ j, j < k → (t.rw.getD j []).getD j false = true) → t.rw.length ≤ k → diagFrom t.rw 0 = true := fun k h hk => diag_all fun j hj => by rw [Nat.zero_add]; exact h j (by omega)
 have d3 : ∀ k : Nat, sq t.rw (p.vs.getD t.frm.toNat 0) (p.vs.getD t.frm.toNat 0) = true → k < t.rw.length → k < (t.rw.getD k []).length := fun k h hk => by have := sq_row h hk; omega
 have d4 : sq t.rw (p.vs.getD t.frm.toNat 0) (p.vs.getD t.frm.toNat 0) = true → t.rw.length ≤ 6 := fun h => by
  simp only [sq, Bool.and_eq_true, beq_iff_eq] at h; omega
 have w1 : withinB t.frm p.vs.length = true → 0 ≤ t.frm ∧ t.frm < p.vs.length := fun h => of_decide_eq_true h
 have w2 : withinB t.tto p.vs.length = true → 0 ≤ t.tto ∧ t.tto < p.vs.length := fun h => of_decide_eq_true h
 refine startW (tm := [(0, _), (1, _)]) Tryz.func107 rfl Tryz.ntmps107 rfl rfl rfl rfl ?_
 repeat' (first
 |(with_reducible refine K_ca 117 ?_); refine zC (pkind_fn t.kind t.aware) ?_
 |(with_reducible refine K_ca 106 ?_); (first
 |refine zC (pwithin_fn t.frm p.vs.length) ?_
 |refine zC (pwithin_fn t.tto p.vs.length) ?_)
 |(with_reducible refine K_ca 118 ?_); (first
 |refine zC (pmat_fn t.ok (p.vs.getD t.frm.toNat 0) (p.vs.getD t.tto.toNat 0) v1) ?_
 |refine zC (pmat_fn t.rw (p.vs.getD t.frm.toNat 0) (p.vs.getD t.frm.toNat 0) v1) ?_)
 |(with_reducible refine blk_at (id := 0) ?_); ((with_reducible refine JL.loopW 0 1099 (fun (k : Nat) tm => (74, .one false [.d (.v (.int .i64 ((k : Int))))]) :: tm) (fun (k : Nat) bo => bo) (fun (k : Nat) => k ≤ t.rw.length ∧ t.rw.length ≤ 6 ∧ ∀ j, j < k → (t.rw.getD j []).getD j false = true) (fun (k : Nat) => t.rw.length - k) (0) ?_ (fun k hk => ?_) ?_); (focus (apply SubW [] rfl ?_ ?_ rfl ?_; (repeat' (first | exact kA | refine kB ?_ | refine kC ?_ ?_ | exact kD | fail)))))
 |((with_reducible refine round_next (i := k) (k + 1) ?_ ?_ ?_); (focus (apply SubW [] rfl ?_ ?_ rfl ?_; (repeat' (first | exact kA | refine kB ?_ | refine kC ?_ ?_ | exact kD | fail)))))
 |refine wA ?_
 |(refine wC ?_ ?_ <;> intro hc)
 |refine wB ?_ ?_
 |(with_reducible refine JL.block ?_)
 |(with_reducible refine F_at ?_); refine eW (vs := [(_, _)]) Tryz.results107 ?_; (focus (repeat' (first | exact oA | refine oB ?_ | refine oC ?_ ?_ | fail)))
 |exact oM
 |fail)
 all_goals first
  | (unfold tabErr kindOK withinB; grind)
  | exact ⟨Nat.zero_le _, d4 (by simpa using hc), fun j hj => absurd hj (Nat.not_lt_zero j)⟩
  | grind
  | trace_state
theorem vp_fn (p : Prob) : FnSound Tryz.prog 87 [.val true (probC p)] [] { vals := [(false, [.d (.v (.int .i64 (vpErr p)))])] } := by
 have r0 := @rng_of p
 have hv : p.vs.length ≤ 6 → (∀ i, i < p.vs.length → (1 ≤ p.vs.getD i 0 ∧ p.vs.getD i 0 ≤ 6) ∧ (0 ≤ p.now.getD i 0 ∧ p.now.getD i 0 < p.vs.getD i 0) ∧ (0 ≤ p.tgt.getD i 0 ∧ p.tgt.getD i 0 < p.vs.getD i 0)) → ∀ k, p.vs.getD k 0 ≤ 6 := fun _ h k => by
  by_cases hk : k < p.vs.length
  ·exact (h k hk).1.2
  ·rw [List.getD_eq_getElem?_getD, List.getElem?_eq_none (by omega)]; decide
 refine startW (tm := [(0, _)]) Tryz.func87 rfl Tryz.ntmps87 rfl rfl rfl rfl ?_
 repeat' (first
 |(with_reducible refine K_ca 106 ?_); (first
 |refine zC (pwithin_fn (p.now.getD k 0) (p.vs.getD k 0)) ?_
 |refine zC (pwithin_fn (p.tgt.getD k 0) (p.vs.getD k 0)) ?_)
 |(with_reducible refine K_ca 107 ?_); refine zC (ptab_fn p (p.tabs.getD j nilT) hvv (by omega)) ?_
 |(with_reducible refine blk_at (id := 0) ?_); ((with_reducible refine JL.loopW 0 799 (fun (k : Nat) tm => (35, .one false [.d (.v (.int .i64 ((k : Int))))]) :: tm) (fun (k : Nat) bo => bo) (fun (k : Nat) => k ≤ p.vs.length ∧ p.vs.length ≤ 6 ∧ p.tabs.length ≤ 12 ∧ p.now.length = p.vs.length ∧ p.tgt.length = p.vs.length ∧ ∀ i, i < k → (1 ≤ p.vs.getD i 0 ∧ p.vs.getD i 0 ≤ 6) ∧ (0 ≤ p.now.getD i 0 ∧ p.now.getD i 0 < p.vs.getD i 0) ∧ (0 ≤ p.tgt.getD i 0 ∧ p.tgt.getD i 0 < p.vs.getD i 0)) (fun (k : Nat) => p.vs.length - k) (0) ?_ (fun k hk => ?_) ?_); (focus (apply SubW [] rfl ?_ ?_ rfl ?_; (repeat' (first | exact kA | refine kB ?_ | refine kC ?_ ?_ | exact kD | fail)))))
 |((with_reducible refine round_next (i := k) (k + 1) ?_ ?_ ?_); (focus (apply SubW [] rfl ?_ ?_ rfl ?_; (repeat' (first | exact kA | refine kB ?_ | refine kC ?_ ?_ | exact kD | fail)))))
 |(with_reducible refine blk_at (id := 2) ?_); ((with_reducible refine JL.loopW 2 1399 (fun (j : Nat) tm => (70, .one false [.d (.v (.int .i64 ((j : Int))))]) :: tm) (fun (j : Nat) bo => bo) (fun (j : Nat) => j ≤ p.tabs.length ∧ p.vs.length ≤ 6 ∧ p.tabs.length ≤ 12 ∧ p.now.length = p.vs.length ∧ p.tgt.length = p.vs.length ∧ (∀ i, i < p.vs.length → (1 ≤ p.vs.getD i 0 ∧ p.vs.getD i 0 ≤ 6) ∧ (0 ≤ p.now.getD i 0 ∧ p.now.getD i 0 < p.vs.getD i 0) ∧ (0 ≤ p.tgt.getD i 0 ∧ p.tgt.getD i 0 < p.vs.getD i 0)) ∧ ∀ i, i < j → tabErr p.vs (p.tabs.getD i nilT) = 0) (fun (j : Nat) => p.tabs.length - j) (0) ?_ (fun j hj => have hvv := hv hj.2.1 hj.2.2.2.2.2.1; ?_) ?_); (focus (apply SubW [] rfl ?_ ?_ rfl ?_; (repeat' (first | exact kA | refine kB ?_ | refine kC ?_ ?_ | exact kD | fail)))))
 |((with_reducible refine round_next (i := j) (j + 1) ?_ ?_ ?_); (focus (apply SubW [] rfl ?_ ?_ rfl ?_; (repeat' (first | exact kA | refine kB ?_ | refine kC ?_ ?_ | exact kD | fail)))))
 |refine wA ?_
 |(refine wC ?_ ?_ <;> intro hc)
 |refine wB ?_ ?_
 |(with_reducible refine JL.block ?_)
 |(with_reducible refine F_at ?_); refine eW (vs := [(_, _)]) Tryz.results87 ?_; (focus (repeat' (first | exact oA | refine oB ?_ | refine oC ?_ ?_ | fail)))
 |exact oM
 |fail)
 all_goals first
  | (unfold vpErr; rw [if_pos (by omega)])
  | (unfold vpErr; rw [if_neg (by omega), if_pos (by omega)])
  | exact ⟨by omega, by omega, by omega, by omega, by omega, fun i hi => by omega⟩
  | (refine ⟨by omega, by omega, by omega, by omega, by omega, fun i hi => ?_⟩; by_cases e : i = k; (subst e; omega); exact hk.2.2.2.2.2 i (by omega))
  | (unfold vpErr; rw [if_neg (by omega), if_neg (by omega), if_pos (rng_no (k := k) (r0 (by omega) (by omega)) (by omega) (by omega))])
  | exact ⟨by omega, by omega, by omega, by omega, by omega, fun i hi => hk.2.2.2.2.2 i (by omega), fun i hi => absurd hi (Nat.not_lt_zero i)⟩
  | (refine ⟨by omega, by omega, by omega, by omega, by omega, hj.2.2.2.2.2.1, fun i hi => ?_⟩; by_cases e : i = j; (subst e; assumption); exact hj.2.2.2.2.2.2 i (by omega))
  | (have hr := (r0 (by omega) (by omega)).2 hj.2.2.2.2.2.1; unfold vpErr; rw [if_neg (by omega), if_neg (by omega), if_neg (by simp [hr])]; first | exact (tabs_at (by omega) hj.2.2.2.2.2.2 (by first | assumption | exact hc | omega)).symm | exact (tabs_all fun i hi => hj.2.2.2.2.2.2 i (by omega)).symm)
  | trace_state
end Go.Proofs.YtngjhkgcfabciaaGreat

namespace Go.Proofs.YtngjhkgcfabciaaGreat
open Go Go.RowKit
set_option maxRecDepth 100000
set_option maxHeartbeats 8000000
set_option linter.unusedSimpArgs false
set_option linter.unusedVariables false
theorem pstored_fn (t : Tab) : FnSound Tryz.prog 93 [.val true (tabC t)] [] { vals := [(false, [.d (.v (.bool (storedB t.kind)))])] } := by
 refine startW (tm := [(0, _)]) Tryz.func93 rfl Tryz.ntmps93 rfl rfl rfl rfl ?_
 repeat' (first
 |refine wA ?_
 |(refine wC ?_ ?_ <;> intro hc)
 |refine wB ?_ ?_
 |(with_reducible refine JL.block ?_)
 |(with_reducible refine F_at ?_); refine eW (vs := [(_, _)]) Tryz.results93 ?_; (focus (repeat' (first | exact oA | refine oB ?_ | refine oC ?_ ?_ | fail)))
 |exact oM
 |fail)
 all_goals simp [storedB, *]
theorem prun_fn (m : MixD) (s : Int) (hs : 0 ≤ s ∧ s < m.base.length ∧ s < m.next.length) (hb : 0 ≤ m.base.getD s.toNat 0 ∧ m.base.getD s.toNat 0 ≤ 6) (hn : m.next.getD s.toNat 0 ≤ 6) : FnSound Tryz.prog 125 [.val true (mixC m), .val false [.d (.v (.int .i64 s))]] [] { vals := [(false, [.d (.v (.int .u8 (runS m s)))])] } := by
 refine startW (tm := [(0, _), (1, _)]) Tryz.func125 rfl Tryz.ntmps125 rfl rfl rfl rfl ?_
 repeat' (first
 |refine wA ?_
 |(refine wC ?_ ?_ <;> intro hc)
 |refine wB ?_ ?_
 |(with_reducible refine JL.block ?_)
 |(with_reducible refine F_at ?_); refine eW (vs := [(_, _)]) Tryz.results125 ?_; (focus (repeat' (first | exact oA | refine oB ?_ | refine oC ?_ ?_ | fail)))
 |exact oM
 |fail)
 ·unfold runS runV; rw [if_pos hc]; rfl
 ·unfold runS runV; rw [if_neg hc]; rfl
theorem andNot_l (h : Int) : bits BinOp.andNot IntKind.u8 0 h = 0 := by
 show IntKind.u8.wrap (((BitVec.ofInt 8 0 &&& ~~~ BitVec.ofInt 8 h).toNat : Nat) : Int) = 0
 have : (BitVec.ofInt 8 0 : BitVec 8) = 0#8 := by decide
 rw [this, BitVec.zero_and]; rfl
theorem u8_of {h : Int} (hh : 0 ≤ h ∧ h < 256) : IntKind.u8.wrap (((BitVec.ofInt 8 h).toNat : Nat) : Int) = h := by
 have h1 : ((BitVec.ofInt 8 h).toNat : Int) = h := by
  rw [BitVec.toNat_ofInt]
  omega
 rw [h1]
 exact wr_u8 hh
theorem andNot_r {h : Int} (hh : 0 ≤ h ∧ h < 256) : bits BinOp.andNot IntKind.u8 h 0 = h := by
 show IntKind.u8.wrap (((BitVec.ofInt 8 h &&& ~~~ BitVec.ofInt 8 0).toNat : Nat) : Int) = h
 have e : (~~~ BitVec.ofInt 8 0 : BitVec 8) = BitVec.allOnes 8 := by decide
 rw [e, BitVec.and_allOnes]
 exact u8_of hh
theorem pmixValid_fn (p : Prob) (m : MixD) (hu : u8s m.held) : FnSound Tryz.prog 112 [.val true (probC p), .val true (mixC m)] [] { vals := [(false, [.d (.v (.int .i64 (mixErr p m)))])] } := by
 have hu := u8s_get hu
 refine startW (tm := [(0, _), (1, _)]) Tryz.func112 rfl Tryz.ntmps112 rfl rfl rfl rfl ?_
 repeat' (first
 |(with_reducible refine K_ca 87 ?_); refine zC (vp_fn p) ?_
 |(with_reducible refine K_ca 93 ?_); refine zC (pstored_fn (p.tabs.getD j nilT)) ?_
 |(with_reducible refine K_ca 125 ?_); refine zC (prun_fn m (p.tabs.getD j nilT).frm (by omega) (by omega) (by omega)) ?_
 |(with_reducible refine blk_at (id := 0) ?_); ((with_reducible refine JL.loopW 0 799 (fun (k : Nat) tm => (45, .one false [.d (.v (.int .i64 ((k : Int))))]) :: tm) (fun (k : Nat) bo => bo) (fun (k : Nat) => k ≤ p.vs.length ∧ (∀ i, i < k → svcI p.vs m.base m.next i = 0)) (fun (k : Nat) => p.vs.length - k) (0) ?_ (fun k hk => have hvp := vp_all (p := p) (by assumption); ?_) ?_); (focus (apply SubW [] rfl ?_ ?_ rfl ?_; (repeat' (first | exact kA | refine kB ?_ | refine kC ?_ ?_ | exact kD | fail)))))
 |((with_reducible refine round_next (i := k) (k + 1) ?_ ?_ ?_); (focus (apply SubW [] rfl ?_ ?_ rfl ?_; (repeat' (first | exact kA | refine kB ?_ | refine kC ?_ ?_ | exact kD | fail)))))
 |(with_reducible refine blk_at (id := 2) ?_); ((with_reducible refine JL.loopW 2 1599 (fun (j : Nat) tm => (97, .one false [.d (.v (.int .i64 ((j : Int))))]) :: tm) (fun (j : Nat) bo => bo) (fun (j : Nat) => j ≤ p.tabs.length ∧ (∀ i, i < p.vs.length → svcI p.vs m.base m.next i = 0) ∧ ∀ i, i < j → heldB p m (p.tabs.getD i nilT) (m.held.getD i 0) = false) (fun (j : Nat) => p.tabs.length - j) (0) ?_ (fun j hj => have hvp := vp_all (p := p) (by assumption); have htn := tabN (p := p) (by assumption) j; have hsn := svc_nn (m := m) hj.2.1 (p.tabs.getD j nilT).frm; have hz1 := andNot_l (m.held.getD j 0); have hz2 := andNot_r (hu j); ?_) ?_); (focus (apply SubW [] rfl ?_ ?_ rfl ?_; (repeat' (first | exact kA | refine kB ?_ | refine kC ?_ ?_ | exact kD | fail)))))
 |((with_reducible refine round_next (i := j) (j + 1) ?_ ?_ ?_); (focus (apply SubW [] rfl ?_ ?_ rfl ?_; (repeat' (first | exact kA | refine kB ?_ | refine kC ?_ ?_ | exact kD | fail)))))
 |refine wA ?_
 |(refine wC ?_ ?_ <;> intro hc)
 |refine wB ?_ ?_
 |(with_reducible refine JL.block ?_)
 |(with_reducible refine F_at ?_); refine eW (vs := [(_, _)]) Tryz.results112 ?_; (focus (repeat' (first | exact oA | refine oB ?_ | refine oC ?_ ?_ | fail)))
 |exact oM
 |fail)
 all_goals first
  | exact (mixErr_vp hc).symm
  | exact (mixErr_ar (by assumption) (by omega)).symm
  | exact ⟨by omega, fun i hi => by omega⟩
  | exact (mixErr_svc (k := k) (e := 7) (by assumption) (by omega) (by omega) (by omega) (by omega) hk.2 (by unfold svcI svcE; rw [if_pos (by omega)]) (by decide)).symm
  | exact (mixErr_svc (k := k) (e := 1) (by assumption) (by omega) (by omega) (by omega) (by omega) hk.2 (by unfold svcI svcE; rw [if_neg (by omega), if_pos hc]) (by decide)).symm
  | (refine ⟨by omega, fun i hi => ?_⟩; by_cases e : i = k; (subst e; unfold svcI svcE; rw [if_neg (by omega), if_neg (by omega)]); exact hk.2 i (by omega))
  | exact ⟨by omega, fun i hi => hk.2 i (by omega), fun i hi => by omega⟩
  | exact (mixErr_held (k := j) (by assumption) (by omega) (by omega) (by omega) hj.2.1 (by omega) hj.2.2 (by simp only [heldB, storedB, allV, one8]; grind)).symm
  | (refine ⟨by omega, hj.2.1, fun i hi => ?_⟩; by_cases e : i = j; (subst e; simp only [heldB, storedB, allV, one8]; grind); exact hj.2.2 i (by omega))
  | exact (mixErr_ok (by assumption) (by omega) (by omega) (by omega) hj.2.1 (fun i hi => hj.2.2 i (by omega))).symm
  | trace_state
theorem pmixValidOK_fn {p : Prob} {m : MixD} (hu : u8s m.held) (h : mixErr p m = 0) : FnSound Tryz.prog 112 [.val true (probC p), .val true (mixC m)] [] { vals := [(false, [.d (.v (.int .i64 0))])] } := by rw [← h]; exact pmixValid_fn p m hu
theorem pvpOK_fn {p : Prob} (h : vpErr p = 0) : FnSound Tryz.prog 87 [.val true (probC p)] [] { vals := [(false, [.d (.v (.int .i64 0))])] } := by rw [← h]; exact vp_fn p
end Go.Proofs.YtngjhkgcfabciaaGreat

